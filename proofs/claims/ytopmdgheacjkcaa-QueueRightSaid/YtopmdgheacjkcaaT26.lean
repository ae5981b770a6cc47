/- The law's do: what a description says is done, by the program. -/
import Derived.Test.YtopmdgheacjkcaaT25
set_option linter.unusedVariables false
set_option linter.unusedSimpArgs false
namespace Go.Proofs.Ytopmdgheacjkcaa
open Go.RowKit
set_option maxHeartbeats 4000000 in
set_option maxRecDepth 100000 in
theorem ldo_submit (v : Qv) (q : Qu) (x : Raw) (w : World) (hq : QIn w v q) (hF : Fine q) (hx : x.Ok) (h : x.k % 8 = 0 ∨ x.k % 8 = 1 ∨ x.k % 8 = 2) : Calls Try.prog 22 #[v.val q, x.val] w (RetD (submitS q (jobR x)).1 (submitS q (jobR x)).2.1 (submitS q (jobR x)).2.2 w) := by
  obtain ⟨qa, qc, ja, jc⟩ := v
  have hx1 := hx
  obtain ⟨h1, h2, h3, h4, h5, h6, h7, h8⟩ := hx1
  have hc := fun W hq => lsubmit_calls ⟨qa, qc, ja, jc⟩ q (jobR x) W hq hF.len hF.quo
  have hj := fun W => job_calls x W hx
  unfold Raw.val at hj
  generalize jobR x = j at hc hj ⊢
  have HJ := Lib.hid hj; clear hj
  generalize submitS q j = r at hc ⊢
  obtain ⟨q', i, y⟩ := r
  unfold Qv.val at hc ⊢
  unfold Raw.val
  have HQ := Lib.hid hq; clear hq
  have HX := Lib.hid hx; clear hx
  have HC := Lib.hid hc; clear hc
  have HB0 := Lib.hid (ba_ (ba_ (ba_ (b0_ w) (.cells #[.slice qa q.qs.length qc, .slice ja q.js.length jc] 29)) (.cells #[.int .u8 x.k, .int .u8 x.a, .int .u8 x.b, .int .u8 x.c] 59)) (.cells #[.slice none 0 0, .slice none 0 0, .int .i64 0, .int .i64 0] 45))
  have HR0 := Lib.hid (blk_new' ((w.alloc (.cells #[.slice qa q.qs.length qc, .slice ja q.js.length jc] 29)).alloc (.cells #[.int .u8 x.k, .int .u8 x.a, .int .u8 x.b, .int .u8 x.c] 59)) (w.heap.size + 1 + 1) (by simp) 45 [.slice none 0 0, .slice none 0 0, .int .i64 0, .int .i64 0])
  have HG0 : Hid (((w.alloc (.cells #[.slice qa q.qs.length qc, .slice ja q.js.length jc] 29)).alloc (.cells #[.int .u8 x.k, .int .u8 x.a, .int .u8 x.b, .int .u8 x.c] 59)).alloc (.cells #[.slice none 0 0, .slice none 0 0, .int .i64 0, .int .i64 0] 45) = ((w.alloc (.cells #[.slice qa q.qs.length qc, .slice ja q.js.length jc] 29)).alloc (.cells #[.int .u8 x.k, .int .u8 x.a, .int .u8 x.b, .int .u8 x.c] 59)).alloc (.cells #[.slice none 0 0, .slice none 0 0, .int .i64 0, .int .i64 0] 45)) := rfl
  have s0 := Lib.hid (Blk.cell (Blk.alloc (Blk.alloc (Blk.new w 29 [.slice qa q.qs.length qc, .slice ja q.js.length jc]) (.cells #[.int .u8 x.k, .int .u8 x.a, .int .u8 x.b, .int .u8 x.c] 59)) (.cells #[.slice none 0 0, .slice none 0 0, .int .i64 0, .int .i64 0] 45)) 0 _ rfl)
  have s1 := Lib.hid (Blk.cell (Blk.alloc (Blk.alloc (Blk.new w 29 [.slice qa q.qs.length qc, .slice ja q.js.length jc]) (.cells #[.int .u8 x.k, .int .u8 x.a, .int .u8 x.b, .int .u8 x.c] 59)) (.cells #[.slice none 0 0, .slice none 0 0, .int .i64 0, .int .i64 0] 45)) 1 _ rfl)
  have hxb := Blk.alloc (blk_new' (w.alloc (.cells #[.slice qa q.qs.length qc, .slice ja q.js.length jc] 29)) (w.heap.size + 1) (by simp) 59 [.int .u8 x.k, .int .u8 x.a, .int .u8 x.b, .int .u8 x.c]) (.cells #[.slice none 0 0, .slice none 0 0, .int .i64 0, .int .i64 0] 45)
  have HXB := Lib.hid hxb; clear hxb
  have E1 := Lib.hid (wrapmod x.a 12 h3 h4 (by decide) (by decide))
  have E2 := Lib.hid (i64w x.c (by omega) (by omega))
  have E3 := Lib.hid (wrapmod x.b 4 h5 h6 (by decide) (by decide))
  go_enter Try.func22, Try.ntmps22
  go_wp2_with fail
  generalize hW : (((w.alloc (.cells #[.slice qa q.qs.length qc, .slice ja q.js.length jc] 29)).alloc (.cells #[.int .u8 x.k, .int .u8 x.a, .int .u8 x.b, .int .u8 x.c] 59)).alloc (.cells #[.slice none 0 0, .slice none 0 0, .int .i64 0, .int .i64 0] 45)) = W at HB0 HR0 s0 s1 HXB ⊢
  clear hW HG0
  have x1 := HXB.out.cell 1 _ rfl
  have x3 := HXB.out.cell 3 _ rfl
  have zl := HR0.out.lt
  have H := Lib.hid h; clear h
  go_region_held3 (fun w' => w'.cell? ⟨w.heap.size + 1, 1, none⟩ = some (.int .u8 x.a) ∧ w'.cell? ⟨w.heap.size + 1, 3, none⟩ = some (.int .u8 x.c))
    (go_keep)
    (first | (go_at_call 17; refine (image_exact _ _).mono ?_; rintro e w1 ⟨rfl, rfl⟩))
  all_goals
    rw [E1.out, E2.out]
    have HK0 := Lib.hid (show Blk ((W.alloc (.cells #[.int .i64 x.c, .slice none 0 0, .slice none 0 0, .slice none 0 0] 38)).alloc (.cells #[.int .i64 x.c, .slice none 0 0, .slice none 0 0, .slice none 0 0] 38)).drew W.heap.size 38 [.int .i64 x.c, .slice none 0 0, .slice none 0 0, .slice none 0 0] from Blk.alloc (Blk.new W 38 [.int .i64 x.c, .slice none 0 0, .slice none 0 0, .slice none 0 0]) (.cells #[.int .i64 x.c, .slice none 0 0, .slice none 0 0, .slice none 0 0] 38))
    have HK1 := Lib.hid (show Blk ((W.alloc (.cells #[.int .i64 x.c, .slice none 0 0, .slice none 0 0, .slice none 0 0] 38)).alloc (.cells #[.int .i64 x.c, .slice none 0 0, .slice none 0 0, .slice none 0 0] 38)).drew (W.heap.size + 1) 38 [.int .i64 x.c, .slice none 0 0, .slice none 0 0, .slice none 0 0] from blk_new' (W.alloc (.cells #[.int .i64 x.c, .slice none 0 0, .slice none 0 0, .slice none 0 0] 38)) (W.heap.size + 1) (by simp) 38 [.int .i64 x.c, .slice none 0 0, .slice none 0 0, .slice none 0 0])
    have hbw := (bd_ (ba_ (ba_ (b0_ W) (.cells #[.int .i64 x.c, .slice none 0 0, .slice none 0 0, .slice none 0 0] 38)) (.cells #[.int .i64 x.c, .slice none 0 0, .slice none 0 0, .slice none 0 0] 38))).out
    clear x1 x3
    generalize ((W.alloc (.cells #[.int .i64 x.c, .slice none 0 0, .slice none 0 0, .slice none 0 0] 38)).alloc (.cells #[.int .i64 x.c, .slice none 0 0, .slice none 0 0, .slice none 0 0] 38)).drew = V at HK0 HK1 hbw ⊢
    have HBV := Lib.hid (kb_ HB0.out hbw)
    have HRV := Lib.hid (HR0.out.below hbw)
    have HXV := Lib.hid (HXB.out.below hbw)
    have q0 := kc_ hbw s0.out
    have q1 := kc_ hbw s1.out
    have x0 := HXV.out.cell 0 _ rfl
    have x1 := HXV.out.cell 1 _ rfl
    have x2 := HXV.out.cell 2 _ rfl
    have x3 := HXV.out.cell 3 _ rfl
    have r0 := HRV.out.cell 0 _ rfl
    have r1 := HRV.out.cell 1 _ rfl
    have r2 := HRV.out.cell 2 _ rfl
    have r3 := HRV.out.cell 3 _ rfl
    have i0 := HK0.out.cell 0 _ rfl
    have i1 := HK0.out.cell 1 _ rfl
    have i2 := HK0.out.cell 2 _ rfl
    have i3 := HK0.out.cell 3 _ rfl
    have k0 := HK1.out.cell 0 _ rfl
    have k1 := HK1.out.cell 1 _ rfl
    have k2 := HK1.out.cell 2 _ rfl
    have k3 := HK1.out.cell 3 _ rfl
    clear hbw s0 s1 HB0 HR0 HXB HK0 HK1 zl
    rcases H.out with h | h | h
    all_goals
      clear H
      go_wp2_with fail
      clear h
      go_region_held3 (fun w' => w'.cell? ⟨w.heap.size, 0, none⟩ = some (.slice qa q.qs.length qc) ∧ w'.cell? ⟨w.heap.size, 1, none⟩ = some (.slice ja q.js.length jc) ∧ w'.cell? ⟨w.heap.size + 1, 0, none⟩ = some (.int .u8 x.k) ∧
      w'.cell? ⟨w.heap.size + 1, 1, none⟩ = some (.int .u8 x.a) ∧ w'.cell? ⟨w.heap.size + 1, 2, none⟩ = some (.int .u8 x.b) ∧ w'.cell? ⟨w.heap.size + 1, 3, none⟩ = some (.int .u8 x.c))
        (((repeat' apply And.intro) <;> first | (with_reducible exact far4 (kc_ hbs (by assumption)) (by omega)) | (with_reducible exact kc_ hbs (by assumption)) | (with_reducible exact kc_ hbj (by assumption)) | (go_keep; done)))
        (first
          | (go_at_call 39; refine (HJ.out _).mono ?_; rintro e w1 ⟨rfl, hbj0⟩; have hbj := (kb_ (bd_ (b0_ V)) hbj0).out; clear hbj0)
          | (go_at_call 27; refine (HC.out _ (HQ.out.below (kb_ HBV.out hbj))).mono ?_; rintro e w2 ⟨⟨qb, qd, jb, jd⟩, rfl, hq20, hb2⟩; have hq2 := Lib.hid hq20; have hbs := (kb_ (Lib.hid hbj) hb2).out; clear hq20; have z0 := kc_ hbs r0; have z1 := kc_ hbs r1; have z2 := kc_ hbs r2; have z3 := kc_ hbs r3; have zf := (HRV.out.below hbs).frozen; simp only [Qv.done]))
      go_wp2
      have HZ := Lib.hid (HRV.out.below hbs)
      have HB := Lib.hid (kb_ HBV.out hbs)
      refine bodyPost_ret (results_done rfl _ _ (w.heap.size + 1 + 1) _ rfl rfl (HZ.out.put (Qv.dcells ⟨qb, qd, jb, jd⟩ q' i y) rfl)) rfl ?_
      exact fin45 (v' := ⟨qb, qd, jb, jd⟩) (q' := q') (i := i) (x := y) HB.out HZ.out (by omega) (hq2.out.put HZ.out t45 0 _)
set_option maxHeartbeats 4000000 in
set_option maxRecDepth 100000 in
theorem ldo_start (v : Qv) (q : Qu) (x : Raw) (w : World) (hq : QIn w v q) (hF : Fine q) (hx : x.Ok) (h : x.k % 8 = 3 ∨ x.k % 8 = 4) : Calls Try.prog 22 #[v.val q, x.val] w (RetD (chS q (x.a % 12) (startF q (x.b % 4))).1 (chS q (x.a % 12) (startF q (x.b % 4))).2.1 (chS q (x.a % 12) (startF q (x.b % 4))).2.2 w) := by
  obtain ⟨qa, qc, ja, jc⟩ := v
  have hx1 := hx
  obtain ⟨h1, h2, h3, h4, h5, h6, h7, h8⟩ := hx1
  have hc : ∀ W, QIn W ⟨qa, qc, ja, jc⟩ q → Calls Try.prog 14 #[Qv.val ⟨qa, qc, ja, jc⟩ q, .int .i64 (x.a % 12), .int .i64 (x.b % 4)] W (RetD (chS q (x.a % 12) (startF q (x.b % 4))).1 (chS q (x.a % 12) (startF q (x.b % 4))).2.1 (chS q (x.a % 12) (startF q (x.b % 4))).2.2 W) := fun W hq => lstart_calls ⟨qa, qc, ja, jc⟩ q _ _ W hq hF
  generalize chS q (x.a % 12) (startF q (x.b % 4)) = r at hc ⊢
  obtain ⟨q', i, y⟩ := r
  unfold Qv.val at hc ⊢
  unfold Raw.val
  have HQ := Lib.hid hq; clear hq
  have HX := Lib.hid hx; clear hx
  have HC := Lib.hid hc; clear hc
  have HB0 := Lib.hid (ba_ (ba_ (ba_ (b0_ w) (.cells #[.slice qa q.qs.length qc, .slice ja q.js.length jc] 29)) (.cells #[.int .u8 x.k, .int .u8 x.a, .int .u8 x.b, .int .u8 x.c] 59)) (.cells #[.slice none 0 0, .slice none 0 0, .int .i64 0, .int .i64 0] 45))
  have HR0 := Lib.hid (blk_new' ((w.alloc (.cells #[.slice qa q.qs.length qc, .slice ja q.js.length jc] 29)).alloc (.cells #[.int .u8 x.k, .int .u8 x.a, .int .u8 x.b, .int .u8 x.c] 59)) (w.heap.size + 1 + 1) (by simp) 45 [.slice none 0 0, .slice none 0 0, .int .i64 0, .int .i64 0])
  have HG0 : Hid (((w.alloc (.cells #[.slice qa q.qs.length qc, .slice ja q.js.length jc] 29)).alloc (.cells #[.int .u8 x.k, .int .u8 x.a, .int .u8 x.b, .int .u8 x.c] 59)).alloc (.cells #[.slice none 0 0, .slice none 0 0, .int .i64 0, .int .i64 0] 45) = ((w.alloc (.cells #[.slice qa q.qs.length qc, .slice ja q.js.length jc] 29)).alloc (.cells #[.int .u8 x.k, .int .u8 x.a, .int .u8 x.b, .int .u8 x.c] 59)).alloc (.cells #[.slice none 0 0, .slice none 0 0, .int .i64 0, .int .i64 0] 45)) := rfl
  have s0 := Lib.hid (Blk.cell (Blk.alloc (Blk.alloc (Blk.new w 29 [.slice qa q.qs.length qc, .slice ja q.js.length jc]) (.cells #[.int .u8 x.k, .int .u8 x.a, .int .u8 x.b, .int .u8 x.c] 59)) (.cells #[.slice none 0 0, .slice none 0 0, .int .i64 0, .int .i64 0] 45)) 0 _ rfl)
  have s1 := Lib.hid (Blk.cell (Blk.alloc (Blk.alloc (Blk.new w 29 [.slice qa q.qs.length qc, .slice ja q.js.length jc]) (.cells #[.int .u8 x.k, .int .u8 x.a, .int .u8 x.b, .int .u8 x.c] 59)) (.cells #[.slice none 0 0, .slice none 0 0, .int .i64 0, .int .i64 0] 45)) 1 _ rfl)
  have hxb := Blk.alloc (blk_new' (w.alloc (.cells #[.slice qa q.qs.length qc, .slice ja q.js.length jc] 29)) (w.heap.size + 1) (by simp) 59 [.int .u8 x.k, .int .u8 x.a, .int .u8 x.b, .int .u8 x.c]) (.cells #[.slice none 0 0, .slice none 0 0, .int .i64 0, .int .i64 0] 45)
  have HXB := Lib.hid hxb; clear hxb
  have E1 := Lib.hid (wrapmod x.a 12 h3 h4 (by decide) (by decide))
  have E2 := Lib.hid (i64w x.c (by omega) (by omega))
  have E3 := Lib.hid (wrapmod x.b 4 h5 h6 (by decide) (by decide))
  go_enter Try.func22, Try.ntmps22
  go_wp2_with fail
  generalize hW : (((w.alloc (.cells #[.slice qa q.qs.length qc, .slice ja q.js.length jc] 29)).alloc (.cells #[.int .u8 x.k, .int .u8 x.a, .int .u8 x.b, .int .u8 x.c] 59)).alloc (.cells #[.slice none 0 0, .slice none 0 0, .int .i64 0, .int .i64 0] 45)) = W at HB0 HR0 s0 s1 HXB ⊢
  clear hW HG0
  have x1 := HXB.out.cell 1 _ rfl
  have x3 := HXB.out.cell 3 _ rfl
  have zl := HR0.out.lt
  have H := Lib.hid h; clear h
  go_region_held3 (fun w' => w'.cell? ⟨w.heap.size + 1, 1, none⟩ = some (.int .u8 x.a) ∧ w'.cell? ⟨w.heap.size + 1, 3, none⟩ = some (.int .u8 x.c))
    (go_keep)
    (first | (go_at_call 17; refine (image_exact _ _).mono ?_; rintro e w1 ⟨rfl, rfl⟩))
  all_goals
    rw [E1.out, E2.out]
    have HK0 := Lib.hid (show Blk ((W.alloc (.cells #[.int .i64 x.c, .slice none 0 0, .slice none 0 0, .slice none 0 0] 38)).alloc (.cells #[.int .i64 x.c, .slice none 0 0, .slice none 0 0, .slice none 0 0] 38)).drew W.heap.size 38 [.int .i64 x.c, .slice none 0 0, .slice none 0 0, .slice none 0 0] from Blk.alloc (Blk.new W 38 [.int .i64 x.c, .slice none 0 0, .slice none 0 0, .slice none 0 0]) (.cells #[.int .i64 x.c, .slice none 0 0, .slice none 0 0, .slice none 0 0] 38))
    have HK1 := Lib.hid (show Blk ((W.alloc (.cells #[.int .i64 x.c, .slice none 0 0, .slice none 0 0, .slice none 0 0] 38)).alloc (.cells #[.int .i64 x.c, .slice none 0 0, .slice none 0 0, .slice none 0 0] 38)).drew (W.heap.size + 1) 38 [.int .i64 x.c, .slice none 0 0, .slice none 0 0, .slice none 0 0] from blk_new' (W.alloc (.cells #[.int .i64 x.c, .slice none 0 0, .slice none 0 0, .slice none 0 0] 38)) (W.heap.size + 1) (by simp) 38 [.int .i64 x.c, .slice none 0 0, .slice none 0 0, .slice none 0 0])
    have hbw := (bd_ (ba_ (ba_ (b0_ W) (.cells #[.int .i64 x.c, .slice none 0 0, .slice none 0 0, .slice none 0 0] 38)) (.cells #[.int .i64 x.c, .slice none 0 0, .slice none 0 0, .slice none 0 0] 38))).out
    clear x1 x3
    generalize ((W.alloc (.cells #[.int .i64 x.c, .slice none 0 0, .slice none 0 0, .slice none 0 0] 38)).alloc (.cells #[.int .i64 x.c, .slice none 0 0, .slice none 0 0, .slice none 0 0] 38)).drew = V at HK0 HK1 hbw ⊢
    have HBV := Lib.hid (kb_ HB0.out hbw)
    have HRV := Lib.hid (HR0.out.below hbw)
    have HXV := Lib.hid (HXB.out.below hbw)
    have q0 := kc_ hbw s0.out
    have q1 := kc_ hbw s1.out
    have x0 := HXV.out.cell 0 _ rfl
    have x1 := HXV.out.cell 1 _ rfl
    have x2 := HXV.out.cell 2 _ rfl
    have x3 := HXV.out.cell 3 _ rfl
    have r0 := HRV.out.cell 0 _ rfl
    have r1 := HRV.out.cell 1 _ rfl
    have r2 := HRV.out.cell 2 _ rfl
    have r3 := HRV.out.cell 3 _ rfl
    have i0 := HK0.out.cell 0 _ rfl
    have i1 := HK0.out.cell 1 _ rfl
    have i2 := HK0.out.cell 2 _ rfl
    have i3 := HK0.out.cell 3 _ rfl
    have k0 := HK1.out.cell 0 _ rfl
    have k1 := HK1.out.cell 1 _ rfl
    have k2 := HK1.out.cell 2 _ rfl
    have k3 := HK1.out.cell 3 _ rfl
    clear hbw s0 s1 HB0 HR0 HXB HK0 HK1 zl
    rcases H.out with h | h
    all_goals
      clear H
      go_wp2_with fail
      clear h
      refine (HC.out _ (HQ.out.below HBV.out.out)).mono ?_
      rintro e w2 ⟨⟨qb, qd, jb, jd⟩, rfl, hq20, hbs⟩
      have hq2 := Lib.hid hq20
      clear hq20
      have z0 := kc_ hbs r0; have z1 := kc_ hbs r1; have z2 := kc_ hbs r2; have z3 := kc_ hbs r3; have zf := (HRV.out.below hbs).frozen
      simp only [Qv.done]
      go_wp2
      have HZ := Lib.hid (HRV.out.below hbs)
      have HB := Lib.hid (kb_ HBV.out hbs)
      refine bodyPost_ret (results_done rfl _ _ (w.heap.size + 1 + 1) _ rfl rfl (HZ.out.put (Qv.dcells ⟨qb, qd, jb, jd⟩ q' i y) rfl)) rfl ?_
      exact fin45 (v' := ⟨qb, qd, jb, jd⟩) (q' := q') (i := i) (x := y) HB.out HZ.out (by omega) (hq2.out.put HZ.out t45 0 _)
set_option maxHeartbeats 4000000 in
set_option maxRecDepth 100000 in
theorem ldo_cancel (v : Qv) (q : Qu) (x : Raw) (w : World) (hq : QIn w v q) (hF : Fine q) (hx : x.Ok) (h : x.k % 8 = 7) : Calls Try.prog 22 #[v.val q, x.val] w (RetD (chS q (x.a % 12) cancelF).1 (chS q (x.a % 12) cancelF).2.1 (chS q (x.a % 12) cancelF).2.2 w) := by
  obtain ⟨qa, qc, ja, jc⟩ := v
  have hx1 := hx
  obtain ⟨h1, h2, h3, h4, h5, h6, h7, h8⟩ := hx1
  have hc : ∀ W, QIn W ⟨qa, qc, ja, jc⟩ q → Calls Try.prog 18 #[Qv.val ⟨qa, qc, ja, jc⟩ q, .int .i64 (x.a % 12)] W (RetD (chS q (x.a % 12) cancelF).1 (chS q (x.a % 12) cancelF).2.1 (chS q (x.a % 12) cancelF).2.2 W) := fun W hq => lcancel_calls ⟨qa, qc, ja, jc⟩ q _ W hq hF.len
  generalize chS q (x.a % 12) cancelF = r at hc ⊢
  obtain ⟨q', i, y⟩ := r
  unfold Qv.val at hc ⊢
  unfold Raw.val
  have HQ := Lib.hid hq; clear hq
  have HX := Lib.hid hx; clear hx
  have HC := Lib.hid hc; clear hc
  have HB0 := Lib.hid (ba_ (ba_ (ba_ (b0_ w) (.cells #[.slice qa q.qs.length qc, .slice ja q.js.length jc] 29)) (.cells #[.int .u8 x.k, .int .u8 x.a, .int .u8 x.b, .int .u8 x.c] 59)) (.cells #[.slice none 0 0, .slice none 0 0, .int .i64 0, .int .i64 0] 45))
  have HR0 := Lib.hid (blk_new' ((w.alloc (.cells #[.slice qa q.qs.length qc, .slice ja q.js.length jc] 29)).alloc (.cells #[.int .u8 x.k, .int .u8 x.a, .int .u8 x.b, .int .u8 x.c] 59)) (w.heap.size + 1 + 1) (by simp) 45 [.slice none 0 0, .slice none 0 0, .int .i64 0, .int .i64 0])
  have HG0 : Hid (((w.alloc (.cells #[.slice qa q.qs.length qc, .slice ja q.js.length jc] 29)).alloc (.cells #[.int .u8 x.k, .int .u8 x.a, .int .u8 x.b, .int .u8 x.c] 59)).alloc (.cells #[.slice none 0 0, .slice none 0 0, .int .i64 0, .int .i64 0] 45) = ((w.alloc (.cells #[.slice qa q.qs.length qc, .slice ja q.js.length jc] 29)).alloc (.cells #[.int .u8 x.k, .int .u8 x.a, .int .u8 x.b, .int .u8 x.c] 59)).alloc (.cells #[.slice none 0 0, .slice none 0 0, .int .i64 0, .int .i64 0] 45)) := rfl
  have s0 := Lib.hid (Blk.cell (Blk.alloc (Blk.alloc (Blk.new w 29 [.slice qa q.qs.length qc, .slice ja q.js.length jc]) (.cells #[.int .u8 x.k, .int .u8 x.a, .int .u8 x.b, .int .u8 x.c] 59)) (.cells #[.slice none 0 0, .slice none 0 0, .int .i64 0, .int .i64 0] 45)) 0 _ rfl)
  have s1 := Lib.hid (Blk.cell (Blk.alloc (Blk.alloc (Blk.new w 29 [.slice qa q.qs.length qc, .slice ja q.js.length jc]) (.cells #[.int .u8 x.k, .int .u8 x.a, .int .u8 x.b, .int .u8 x.c] 59)) (.cells #[.slice none 0 0, .slice none 0 0, .int .i64 0, .int .i64 0] 45)) 1 _ rfl)
  have hxb := Blk.alloc (blk_new' (w.alloc (.cells #[.slice qa q.qs.length qc, .slice ja q.js.length jc] 29)) (w.heap.size + 1) (by simp) 59 [.int .u8 x.k, .int .u8 x.a, .int .u8 x.b, .int .u8 x.c]) (.cells #[.slice none 0 0, .slice none 0 0, .int .i64 0, .int .i64 0] 45)
  have HXB := Lib.hid hxb; clear hxb
  have E1 := Lib.hid (wrapmod x.a 12 h3 h4 (by decide) (by decide))
  have E2 := Lib.hid (i64w x.c (by omega) (by omega))
  have E3 := Lib.hid (wrapmod x.b 4 h5 h6 (by decide) (by decide))
  go_enter Try.func22, Try.ntmps22
  go_wp2_with fail
  generalize hW : (((w.alloc (.cells #[.slice qa q.qs.length qc, .slice ja q.js.length jc] 29)).alloc (.cells #[.int .u8 x.k, .int .u8 x.a, .int .u8 x.b, .int .u8 x.c] 59)).alloc (.cells #[.slice none 0 0, .slice none 0 0, .int .i64 0, .int .i64 0] 45)) = W at HB0 HR0 s0 s1 HXB ⊢
  clear hW HG0
  have x1 := HXB.out.cell 1 _ rfl
  have x3 := HXB.out.cell 3 _ rfl
  have zl := HR0.out.lt
  have H := Lib.hid h; clear h
  go_region_held3 (fun w' => w'.cell? ⟨w.heap.size + 1, 1, none⟩ = some (.int .u8 x.a) ∧ w'.cell? ⟨w.heap.size + 1, 3, none⟩ = some (.int .u8 x.c))
    (go_keep)
    (first | (go_at_call 17; refine (image_exact _ _).mono ?_; rintro e w1 ⟨rfl, rfl⟩))
  all_goals
    rw [E1.out, E2.out]
    have HK0 := Lib.hid (show Blk ((W.alloc (.cells #[.int .i64 x.c, .slice none 0 0, .slice none 0 0, .slice none 0 0] 38)).alloc (.cells #[.int .i64 x.c, .slice none 0 0, .slice none 0 0, .slice none 0 0] 38)).drew W.heap.size 38 [.int .i64 x.c, .slice none 0 0, .slice none 0 0, .slice none 0 0] from Blk.alloc (Blk.new W 38 [.int .i64 x.c, .slice none 0 0, .slice none 0 0, .slice none 0 0]) (.cells #[.int .i64 x.c, .slice none 0 0, .slice none 0 0, .slice none 0 0] 38))
    have HK1 := Lib.hid (show Blk ((W.alloc (.cells #[.int .i64 x.c, .slice none 0 0, .slice none 0 0, .slice none 0 0] 38)).alloc (.cells #[.int .i64 x.c, .slice none 0 0, .slice none 0 0, .slice none 0 0] 38)).drew (W.heap.size + 1) 38 [.int .i64 x.c, .slice none 0 0, .slice none 0 0, .slice none 0 0] from blk_new' (W.alloc (.cells #[.int .i64 x.c, .slice none 0 0, .slice none 0 0, .slice none 0 0] 38)) (W.heap.size + 1) (by simp) 38 [.int .i64 x.c, .slice none 0 0, .slice none 0 0, .slice none 0 0])
    have hbw := (bd_ (ba_ (ba_ (b0_ W) (.cells #[.int .i64 x.c, .slice none 0 0, .slice none 0 0, .slice none 0 0] 38)) (.cells #[.int .i64 x.c, .slice none 0 0, .slice none 0 0, .slice none 0 0] 38))).out
    clear x1 x3
    generalize ((W.alloc (.cells #[.int .i64 x.c, .slice none 0 0, .slice none 0 0, .slice none 0 0] 38)).alloc (.cells #[.int .i64 x.c, .slice none 0 0, .slice none 0 0, .slice none 0 0] 38)).drew = V at HK0 HK1 hbw ⊢
    have HBV := Lib.hid (kb_ HB0.out hbw)
    have HRV := Lib.hid (HR0.out.below hbw)
    have HXV := Lib.hid (HXB.out.below hbw)
    have q0 := kc_ hbw s0.out
    have q1 := kc_ hbw s1.out
    have x0 := HXV.out.cell 0 _ rfl
    have x1 := HXV.out.cell 1 _ rfl
    have x2 := HXV.out.cell 2 _ rfl
    have x3 := HXV.out.cell 3 _ rfl
    have r0 := HRV.out.cell 0 _ rfl
    have r1 := HRV.out.cell 1 _ rfl
    have r2 := HRV.out.cell 2 _ rfl
    have r3 := HRV.out.cell 3 _ rfl
    have i0 := HK0.out.cell 0 _ rfl
    have i1 := HK0.out.cell 1 _ rfl
    have i2 := HK0.out.cell 2 _ rfl
    have i3 := HK0.out.cell 3 _ rfl
    have k0 := HK1.out.cell 0 _ rfl
    have k1 := HK1.out.cell 1 _ rfl
    have k2 := HK1.out.cell 2 _ rfl
    have k3 := HK1.out.cell 3 _ rfl
    clear hbw s0 s1 HB0 HR0 HXB HK0 HK1 zl
    iterate 1
      have h := H.out
      clear H
      go_wp2_with fail
      clear h
      refine (HC.out _ (HQ.out.below HBV.out.out)).mono ?_
      rintro e w2 ⟨⟨qb, qd, jb, jd⟩, rfl, hq20, hbs⟩
      have hq2 := Lib.hid hq20
      clear hq20
      have z0 := kc_ hbs r0; have z1 := kc_ hbs r1; have z2 := kc_ hbs r2; have z3 := kc_ hbs r3; have zf := (HRV.out.below hbs).frozen
      simp only [Qv.done]
      go_wp2
      have HZ := Lib.hid (HRV.out.below hbs)
      have HB := Lib.hid (kb_ HBV.out hbs)
      refine bodyPost_ret (results_done rfl _ _ (w.heap.size + 1 + 1) _ rfl rfl (HZ.out.put (Qv.dcells ⟨qb, qd, jb, jd⟩ q' i y) rfl)) rfl ?_
      exact fin45 (v' := ⟨qb, qd, jb, jd⟩) (q' := q') (i := i) (x := y) HB.out HZ.out (by omega) (hq2.out.put HZ.out t45 0 _)
set_option maxHeartbeats 4000000 in
set_option maxRecDepth 100000 in
theorem ldo_park (v : Qv) (q : Qu) (x : Raw) (w : World) (hq : QIn w v q) (hF : Fine q) (hx : x.Ok) (h : x.k % 8 = 5) : Calls Try.prog 22 #[v.val q, x.val] w (RetD (chS q (x.a % 12) (leaveF 1 (img x.c))).1 (chS q (x.a % 12) (leaveF 1 (img x.c))).2.1 (chS q (x.a % 12) (leaveF 1 (img x.c))).2.2 w) := by
  obtain ⟨qa, qc, ja, jc⟩ := v
  have hx1 := hx
  obtain ⟨h1, h2, h3, h4, h5, h6, h7, h8⟩ := hx1
  have hc : ∀ W, QIn W ⟨qa, qc, ja, jc⟩ q → Calls Try.prog 19 #[Qv.val ⟨qa, qc, ja, jc⟩ q, .int .i64 (x.a % 12), (img x.c).val] W (RetD (chS q (x.a % 12) (leaveF 1 (img x.c))).1 (chS q (x.a % 12) (leaveF 1 (img x.c))).2.1 (chS q (x.a % 12) (leaveF 1 (img x.c))).2.2 W) := fun W hq => lpark_calls ⟨qa, qc, ja, jc⟩ q _ _ W hq hF.len
  generalize chS q (x.a % 12) (leaveF 1 (img x.c)) = r at hc ⊢
  obtain ⟨q', i, y⟩ := r
  unfold Qv.val at hc ⊢
  unfold Img.val img at hc
  unfold Raw.val
  have HQ := Lib.hid hq; clear hq
  have HX := Lib.hid hx; clear hx
  have HC := Lib.hid hc; clear hc
  have HB0 := Lib.hid (ba_ (ba_ (ba_ (b0_ w) (.cells #[.slice qa q.qs.length qc, .slice ja q.js.length jc] 29)) (.cells #[.int .u8 x.k, .int .u8 x.a, .int .u8 x.b, .int .u8 x.c] 59)) (.cells #[.slice none 0 0, .slice none 0 0, .int .i64 0, .int .i64 0] 45))
  have HR0 := Lib.hid (blk_new' ((w.alloc (.cells #[.slice qa q.qs.length qc, .slice ja q.js.length jc] 29)).alloc (.cells #[.int .u8 x.k, .int .u8 x.a, .int .u8 x.b, .int .u8 x.c] 59)) (w.heap.size + 1 + 1) (by simp) 45 [.slice none 0 0, .slice none 0 0, .int .i64 0, .int .i64 0])
  have HG0 : Hid (((w.alloc (.cells #[.slice qa q.qs.length qc, .slice ja q.js.length jc] 29)).alloc (.cells #[.int .u8 x.k, .int .u8 x.a, .int .u8 x.b, .int .u8 x.c] 59)).alloc (.cells #[.slice none 0 0, .slice none 0 0, .int .i64 0, .int .i64 0] 45) = ((w.alloc (.cells #[.slice qa q.qs.length qc, .slice ja q.js.length jc] 29)).alloc (.cells #[.int .u8 x.k, .int .u8 x.a, .int .u8 x.b, .int .u8 x.c] 59)).alloc (.cells #[.slice none 0 0, .slice none 0 0, .int .i64 0, .int .i64 0] 45)) := rfl
  have s0 := Lib.hid (Blk.cell (Blk.alloc (Blk.alloc (Blk.new w 29 [.slice qa q.qs.length qc, .slice ja q.js.length jc]) (.cells #[.int .u8 x.k, .int .u8 x.a, .int .u8 x.b, .int .u8 x.c] 59)) (.cells #[.slice none 0 0, .slice none 0 0, .int .i64 0, .int .i64 0] 45)) 0 _ rfl)
  have s1 := Lib.hid (Blk.cell (Blk.alloc (Blk.alloc (Blk.new w 29 [.slice qa q.qs.length qc, .slice ja q.js.length jc]) (.cells #[.int .u8 x.k, .int .u8 x.a, .int .u8 x.b, .int .u8 x.c] 59)) (.cells #[.slice none 0 0, .slice none 0 0, .int .i64 0, .int .i64 0] 45)) 1 _ rfl)
  have hxb := Blk.alloc (blk_new' (w.alloc (.cells #[.slice qa q.qs.length qc, .slice ja q.js.length jc] 29)) (w.heap.size + 1) (by simp) 59 [.int .u8 x.k, .int .u8 x.a, .int .u8 x.b, .int .u8 x.c]) (.cells #[.slice none 0 0, .slice none 0 0, .int .i64 0, .int .i64 0] 45)
  have HXB := Lib.hid hxb; clear hxb
  have E1 := Lib.hid (wrapmod x.a 12 h3 h4 (by decide) (by decide))
  have E2 := Lib.hid (i64w x.c (by omega) (by omega))
  have E3 := Lib.hid (wrapmod x.b 4 h5 h6 (by decide) (by decide))
  go_enter Try.func22, Try.ntmps22
  go_wp2_with fail
  generalize hW : (((w.alloc (.cells #[.slice qa q.qs.length qc, .slice ja q.js.length jc] 29)).alloc (.cells #[.int .u8 x.k, .int .u8 x.a, .int .u8 x.b, .int .u8 x.c] 59)).alloc (.cells #[.slice none 0 0, .slice none 0 0, .int .i64 0, .int .i64 0] 45)) = W at HB0 HR0 s0 s1 HXB ⊢
  clear hW HG0
  have x1 := HXB.out.cell 1 _ rfl
  have x3 := HXB.out.cell 3 _ rfl
  have zl := HR0.out.lt
  have H := Lib.hid h; clear h
  go_region_held3 (fun w' => w'.cell? ⟨w.heap.size + 1, 1, none⟩ = some (.int .u8 x.a) ∧ w'.cell? ⟨w.heap.size + 1, 3, none⟩ = some (.int .u8 x.c))
    (go_keep)
    (first | (go_at_call 17; refine (image_exact _ _).mono ?_; rintro e w1 ⟨rfl, rfl⟩))
  all_goals
    rw [E1.out, E2.out]
    have HK0 := Lib.hid (show Blk ((W.alloc (.cells #[.int .i64 x.c, .slice none 0 0, .slice none 0 0, .slice none 0 0] 38)).alloc (.cells #[.int .i64 x.c, .slice none 0 0, .slice none 0 0, .slice none 0 0] 38)).drew W.heap.size 38 [.int .i64 x.c, .slice none 0 0, .slice none 0 0, .slice none 0 0] from Blk.alloc (Blk.new W 38 [.int .i64 x.c, .slice none 0 0, .slice none 0 0, .slice none 0 0]) (.cells #[.int .i64 x.c, .slice none 0 0, .slice none 0 0, .slice none 0 0] 38))
    have HK1 := Lib.hid (show Blk ((W.alloc (.cells #[.int .i64 x.c, .slice none 0 0, .slice none 0 0, .slice none 0 0] 38)).alloc (.cells #[.int .i64 x.c, .slice none 0 0, .slice none 0 0, .slice none 0 0] 38)).drew (W.heap.size + 1) 38 [.int .i64 x.c, .slice none 0 0, .slice none 0 0, .slice none 0 0] from blk_new' (W.alloc (.cells #[.int .i64 x.c, .slice none 0 0, .slice none 0 0, .slice none 0 0] 38)) (W.heap.size + 1) (by simp) 38 [.int .i64 x.c, .slice none 0 0, .slice none 0 0, .slice none 0 0])
    have hbw := (bd_ (ba_ (ba_ (b0_ W) (.cells #[.int .i64 x.c, .slice none 0 0, .slice none 0 0, .slice none 0 0] 38)) (.cells #[.int .i64 x.c, .slice none 0 0, .slice none 0 0, .slice none 0 0] 38))).out
    clear x1 x3
    generalize ((W.alloc (.cells #[.int .i64 x.c, .slice none 0 0, .slice none 0 0, .slice none 0 0] 38)).alloc (.cells #[.int .i64 x.c, .slice none 0 0, .slice none 0 0, .slice none 0 0] 38)).drew = V at HK0 HK1 hbw ⊢
    have HBV := Lib.hid (kb_ HB0.out hbw)
    have HRV := Lib.hid (HR0.out.below hbw)
    have HXV := Lib.hid (HXB.out.below hbw)
    have q0 := kc_ hbw s0.out
    have q1 := kc_ hbw s1.out
    have x0 := HXV.out.cell 0 _ rfl
    have x1 := HXV.out.cell 1 _ rfl
    have x2 := HXV.out.cell 2 _ rfl
    have x3 := HXV.out.cell 3 _ rfl
    have r0 := HRV.out.cell 0 _ rfl
    have r1 := HRV.out.cell 1 _ rfl
    have r2 := HRV.out.cell 2 _ rfl
    have r3 := HRV.out.cell 3 _ rfl
    have i0 := HK0.out.cell 0 _ rfl
    have i1 := HK0.out.cell 1 _ rfl
    have i2 := HK0.out.cell 2 _ rfl
    have i3 := HK0.out.cell 3 _ rfl
    have k0 := HK1.out.cell 0 _ rfl
    have k1 := HK1.out.cell 1 _ rfl
    have k2 := HK1.out.cell 2 _ rfl
    have k3 := HK1.out.cell 3 _ rfl
    clear hbw s0 s1 HB0 HR0 HXB HK0 HK1 zl
    iterate 1
      have h := H.out
      clear H
      go_wp2_with fail
      clear h
      refine (HC.out _ (HQ.out.below HBV.out.out)).mono ?_
      rintro e w2 ⟨⟨qb, qd, jb, jd⟩, rfl, hq20, hbs⟩
      have hq2 := Lib.hid hq20
      clear hq20
      have z0 := kc_ hbs r0; have z1 := kc_ hbs r1; have z2 := kc_ hbs r2; have z3 := kc_ hbs r3; have zf := (HRV.out.below hbs).frozen
      simp only [Qv.done]
      go_wp2
      have HZ := Lib.hid (HRV.out.below hbs)
      have HB := Lib.hid (kb_ HBV.out hbs)
      refine bodyPost_ret (results_done rfl _ _ (w.heap.size + 1 + 1) _ rfl rfl (HZ.out.put (Qv.dcells ⟨qb, qd, jb, jd⟩ q' i y) rfl)) rfl ?_
      exact fin45 (v' := ⟨qb, qd, jb, jd⟩) (q' := q') (i := i) (x := y) HB.out HZ.out (by omega) (hq2.out.put HZ.out t45 0 _)
set_option maxHeartbeats 4000000 in
set_option maxRecDepth 100000 in
theorem ldo_end (v : Qv) (q : Qu) (x : Raw) (w : World) (hq : QIn w v q) (hF : Fine q) (hx : x.Ok) (h : x.k % 8 = 6) : Calls Try.prog 22 #[v.val q, x.val] w (RetD (chS q (x.a % 12) (leaveF 3 (img x.c))).1 (chS q (x.a % 12) (leaveF 3 (img x.c))).2.1 (chS q (x.a % 12) (leaveF 3 (img x.c))).2.2 w) := by
  obtain ⟨qa, qc, ja, jc⟩ := v
  have hx1 := hx
  obtain ⟨h1, h2, h3, h4, h5, h6, h7, h8⟩ := hx1
  have hc : ∀ W, QIn W ⟨qa, qc, ja, jc⟩ q → Calls Try.prog 16 #[Qv.val ⟨qa, qc, ja, jc⟩ q, .int .i64 (x.a % 12), (img x.c).val] W (RetD (chS q (x.a % 12) (leaveF 3 (img x.c))).1 (chS q (x.a % 12) (leaveF 3 (img x.c))).2.1 (chS q (x.a % 12) (leaveF 3 (img x.c))).2.2 W) := fun W hq => lend_calls ⟨qa, qc, ja, jc⟩ q _ _ W hq hF.len
  generalize chS q (x.a % 12) (leaveF 3 (img x.c)) = r at hc ⊢
  obtain ⟨q', i, y⟩ := r
  unfold Qv.val at hc ⊢
  unfold Img.val img at hc
  unfold Raw.val
  have HQ := Lib.hid hq; clear hq
  have HX := Lib.hid hx; clear hx
  have HC := Lib.hid hc; clear hc
  have HB0 := Lib.hid (ba_ (ba_ (ba_ (b0_ w) (.cells #[.slice qa q.qs.length qc, .slice ja q.js.length jc] 29)) (.cells #[.int .u8 x.k, .int .u8 x.a, .int .u8 x.b, .int .u8 x.c] 59)) (.cells #[.slice none 0 0, .slice none 0 0, .int .i64 0, .int .i64 0] 45))
  have HR0 := Lib.hid (blk_new' ((w.alloc (.cells #[.slice qa q.qs.length qc, .slice ja q.js.length jc] 29)).alloc (.cells #[.int .u8 x.k, .int .u8 x.a, .int .u8 x.b, .int .u8 x.c] 59)) (w.heap.size + 1 + 1) (by simp) 45 [.slice none 0 0, .slice none 0 0, .int .i64 0, .int .i64 0])
  have HG0 : Hid (((w.alloc (.cells #[.slice qa q.qs.length qc, .slice ja q.js.length jc] 29)).alloc (.cells #[.int .u8 x.k, .int .u8 x.a, .int .u8 x.b, .int .u8 x.c] 59)).alloc (.cells #[.slice none 0 0, .slice none 0 0, .int .i64 0, .int .i64 0] 45) = ((w.alloc (.cells #[.slice qa q.qs.length qc, .slice ja q.js.length jc] 29)).alloc (.cells #[.int .u8 x.k, .int .u8 x.a, .int .u8 x.b, .int .u8 x.c] 59)).alloc (.cells #[.slice none 0 0, .slice none 0 0, .int .i64 0, .int .i64 0] 45)) := rfl
  have s0 := Lib.hid (Blk.cell (Blk.alloc (Blk.alloc (Blk.new w 29 [.slice qa q.qs.length qc, .slice ja q.js.length jc]) (.cells #[.int .u8 x.k, .int .u8 x.a, .int .u8 x.b, .int .u8 x.c] 59)) (.cells #[.slice none 0 0, .slice none 0 0, .int .i64 0, .int .i64 0] 45)) 0 _ rfl)
  have s1 := Lib.hid (Blk.cell (Blk.alloc (Blk.alloc (Blk.new w 29 [.slice qa q.qs.length qc, .slice ja q.js.length jc]) (.cells #[.int .u8 x.k, .int .u8 x.a, .int .u8 x.b, .int .u8 x.c] 59)) (.cells #[.slice none 0 0, .slice none 0 0, .int .i64 0, .int .i64 0] 45)) 1 _ rfl)
  have hxb := Blk.alloc (blk_new' (w.alloc (.cells #[.slice qa q.qs.length qc, .slice ja q.js.length jc] 29)) (w.heap.size + 1) (by simp) 59 [.int .u8 x.k, .int .u8 x.a, .int .u8 x.b, .int .u8 x.c]) (.cells #[.slice none 0 0, .slice none 0 0, .int .i64 0, .int .i64 0] 45)
  have HXB := Lib.hid hxb; clear hxb
  have E1 := Lib.hid (wrapmod x.a 12 h3 h4 (by decide) (by decide))
  have E2 := Lib.hid (i64w x.c (by omega) (by omega))
  have E3 := Lib.hid (wrapmod x.b 4 h5 h6 (by decide) (by decide))
  go_enter Try.func22, Try.ntmps22
  go_wp2_with fail
  generalize hW : (((w.alloc (.cells #[.slice qa q.qs.length qc, .slice ja q.js.length jc] 29)).alloc (.cells #[.int .u8 x.k, .int .u8 x.a, .int .u8 x.b, .int .u8 x.c] 59)).alloc (.cells #[.slice none 0 0, .slice none 0 0, .int .i64 0, .int .i64 0] 45)) = W at HB0 HR0 s0 s1 HXB ⊢
  clear hW HG0
  have x1 := HXB.out.cell 1 _ rfl
  have x3 := HXB.out.cell 3 _ rfl
  have zl := HR0.out.lt
  have H := Lib.hid h; clear h
  go_region_held3 (fun w' => w'.cell? ⟨w.heap.size + 1, 1, none⟩ = some (.int .u8 x.a) ∧ w'.cell? ⟨w.heap.size + 1, 3, none⟩ = some (.int .u8 x.c))
    (go_keep)
    (first | (go_at_call 17; refine (image_exact _ _).mono ?_; rintro e w1 ⟨rfl, rfl⟩))
  all_goals
    rw [E1.out, E2.out]
    have HK0 := Lib.hid (show Blk ((W.alloc (.cells #[.int .i64 x.c, .slice none 0 0, .slice none 0 0, .slice none 0 0] 38)).alloc (.cells #[.int .i64 x.c, .slice none 0 0, .slice none 0 0, .slice none 0 0] 38)).drew W.heap.size 38 [.int .i64 x.c, .slice none 0 0, .slice none 0 0, .slice none 0 0] from Blk.alloc (Blk.new W 38 [.int .i64 x.c, .slice none 0 0, .slice none 0 0, .slice none 0 0]) (.cells #[.int .i64 x.c, .slice none 0 0, .slice none 0 0, .slice none 0 0] 38))
    have HK1 := Lib.hid (show Blk ((W.alloc (.cells #[.int .i64 x.c, .slice none 0 0, .slice none 0 0, .slice none 0 0] 38)).alloc (.cells #[.int .i64 x.c, .slice none 0 0, .slice none 0 0, .slice none 0 0] 38)).drew (W.heap.size + 1) 38 [.int .i64 x.c, .slice none 0 0, .slice none 0 0, .slice none 0 0] from blk_new' (W.alloc (.cells #[.int .i64 x.c, .slice none 0 0, .slice none 0 0, .slice none 0 0] 38)) (W.heap.size + 1) (by simp) 38 [.int .i64 x.c, .slice none 0 0, .slice none 0 0, .slice none 0 0])
    have hbw := (bd_ (ba_ (ba_ (b0_ W) (.cells #[.int .i64 x.c, .slice none 0 0, .slice none 0 0, .slice none 0 0] 38)) (.cells #[.int .i64 x.c, .slice none 0 0, .slice none 0 0, .slice none 0 0] 38))).out
    clear x1 x3
    generalize ((W.alloc (.cells #[.int .i64 x.c, .slice none 0 0, .slice none 0 0, .slice none 0 0] 38)).alloc (.cells #[.int .i64 x.c, .slice none 0 0, .slice none 0 0, .slice none 0 0] 38)).drew = V at HK0 HK1 hbw ⊢
    have HBV := Lib.hid (kb_ HB0.out hbw)
    have HRV := Lib.hid (HR0.out.below hbw)
    have HXV := Lib.hid (HXB.out.below hbw)
    have q0 := kc_ hbw s0.out
    have q1 := kc_ hbw s1.out
    have x0 := HXV.out.cell 0 _ rfl
    have x1 := HXV.out.cell 1 _ rfl
    have x2 := HXV.out.cell 2 _ rfl
    have x3 := HXV.out.cell 3 _ rfl
    have r0 := HRV.out.cell 0 _ rfl
    have r1 := HRV.out.cell 1 _ rfl
    have r2 := HRV.out.cell 2 _ rfl
    have r3 := HRV.out.cell 3 _ rfl
    have i0 := HK0.out.cell 0 _ rfl
    have i1 := HK0.out.cell 1 _ rfl
    have i2 := HK0.out.cell 2 _ rfl
    have i3 := HK0.out.cell 3 _ rfl
    have k0 := HK1.out.cell 0 _ rfl
    have k1 := HK1.out.cell 1 _ rfl
    have k2 := HK1.out.cell 2 _ rfl
    have k3 := HK1.out.cell 3 _ rfl
    clear hbw s0 s1 HB0 HR0 HXB HK0 HK1 zl
    iterate 1
      have h := H.out
      clear H
      go_wp2_with fail
      clear h
      refine (HC.out _ (HQ.out.below HBV.out.out)).mono ?_
      rintro e w2 ⟨⟨qb, qd, jb, jd⟩, rfl, hq20, hbs⟩
      have hq2 := Lib.hid hq20
      clear hq20
      have z0 := kc_ hbs r0; have z1 := kc_ hbs r1; have z2 := kc_ hbs r2; have z3 := kc_ hbs r3; have zf := (HRV.out.below hbs).frozen
      simp only [Qv.done]
      go_wp2
      have HZ := Lib.hid (HRV.out.below hbs)
      have HB := Lib.hid (kb_ HBV.out hbs)
      refine bodyPost_ret (results_done rfl _ _ (w.heap.size + 1 + 1) _ rfl rfl (HZ.out.put (Qv.dcells ⟨qb, qd, jb, jd⟩ q' i y) rfl)) rfl ?_
      exact fin45 (v' := ⟨qb, qd, jb, jd⟩) (q' := q') (i := i) (x := y) HB.out HZ.out (by omega) (hq2.out.put HZ.out t45 0 _)
theorem ldo_calls (v : Qv) (q : Qu) (x : Raw) (w : World) (hq : QIn w v q) (hF : Fine q) (hx : x.Ok) : Calls Try.prog 22 #[v.val q, x.val] w (RetD (doS q x).1 (doS q x).2.1 (doS q x).2.2 w) := by
  have h0 := Int.emod_nonneg x.k (show (8 : Int) ≠ 0 by decide)
  have h1 := Int.emod_lt_of_pos x.k (show (0 : Int) < 8 by decide)
  unfold doS
  by_cases c1 : x.k % 8 < 3
  · rw [if_pos c1]; exact ldo_submit v q x w hq hF hx (by omega)
  · rw [if_neg c1]
    by_cases c2 : x.k % 8 < 5
    · rw [if_pos c2]; exact ldo_start v q x w hq hF hx (by omega)
    · rw [if_neg c2]
      by_cases c3 : x.k % 8 = 5
      · rw [if_pos c3]; exact ldo_park v q x w hq hF hx c3
      · rw [if_neg c3]
        by_cases c4 : x.k % 8 = 6
        · rw [if_pos c4]; exact ldo_end v q x w hq hF hx c4
        · rw [if_neg c4]; exact ldo_cancel v q x w hq hF hx (by omega)
end Go.Proofs.Ytopmdgheacjkcaa
