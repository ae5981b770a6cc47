/- Do of the reference: what a description says is done. -/
import Derived.Test.YtopmdgheacjkcaaT24
import Derived.Test.YtopmdgheacjkcaaT18
import Derived.Test.YtopmdgheacjkcaaT19
import Derived.Test.YtopmdgheacjkcaaT20
set_option linter.unusedVariables false
set_option linter.unusedSimpArgs false
namespace Go.Proofs.Ytopmdgheacjkcaa
open Go.RowKit
theorem rsubmit_calls (v : Qv) (q : Qu) (j : J) (w : World) (hq : QIn w v q) (hl : q.js.length ≤ 1000) (hql : q.qs.length ≤ 1000) : Calls Try.prog 28 #[v.val q, j.val] w (RetD (submitS q j).1 (submitS q j).2.1 (submitS q j).2.2 w) := by
  cases hA : argOk q j with
  | true => exact rsubmit_good v q j w hq hl hql hA
  | false =>
    have h : submitS q j = (q, 0, 1) := by simp [submitS, hA]
    rw [h]
    exact rsubmit_bad v q j w hq hql hA
theorem wrapmod (n m : Int) (hn : 0 ≤ n) (hn' : n ≤ 255) (hm : 0 < m) (hm' : m ≤ 100) : IntKind.i64.wrap (n.tmod m) = n % m := by
  have h1 := Int.emod_nonneg n (Int.ne_of_gt hm)
  have h2 := Int.emod_lt_of_pos n hm
  rw [Int.tmod_eq_emod_of_nonneg hn]
  exact i64w _ (by omega) (by omega)
/-- What a change comes to. -/
def chS (q : Qu) (id : Int) (f : J → Int × J) : Qu × Int × Int := ((changeS q id f).1, 0, (changeS q id f).2)
def doS (q : Qu) (x : Raw) : Qu × Int × Int :=
  if x.k % 8 < 3 then submitS q (jobR x) else if x.k % 8 < 5 then chS q (x.a % 12) (startF q (x.b % 4)) else if x.k % 8 = 5 then chS q (x.a % 12) (leaveF 1 (img x.c)) else if x.k % 8 = 6 then chS q (x.a % 12) (leaveF 3 (img x.c)) else chS q (x.a % 12) cancelF
set_option maxHeartbeats 2000000 in
set_option maxRecDepth 100000 in
theorem rdo_submit (v : Qv) (q : Qu) (x : Raw) (w : World) (hq : QIn w v q) (hR : Rt q) (hx : x.Ok) (h : x.k % 8 = 0 ∨ x.k % 8 = 1 ∨ x.k % 8 = 2) : Calls Try.prog 23 #[v.val q, x.val] w (RetD (submitS q (jobR x)).1 (submitS q (jobR x)).2.1 (submitS q (jobR x)).2.2 w) := by
  obtain ⟨qa, qc, ja, jc⟩ := v
  have hx1 := hx
  obtain ⟨h1, h2, h3, h4, h5, h6, h7, h8⟩ := hx1
  have hc := fun W hq => rsubmit_calls ⟨qa, qc, ja, jc⟩ q (jobR x) W hq hR.fine.len hR.fine.quo
  have hj := fun W => job_calls x W hx
  unfold Raw.val at hj
  generalize jobR x = j at hc hj ⊢
  have HJ := Lib.hid hj; clear hj
  generalize submitS q j = r at hc ⊢
  obtain ⟨q', i, y⟩ := r
  unfold Qv.val at hc ⊢
  unfold Raw.val
  have HQ := Lib.hid hq; clear hq
  have HX := Lib.hid hx; clear hx
  have HC := Lib.hid hc; clear hc
  have HB0 := Lib.hid (ba_ (ba_ (ba_ (b0_ w) (.cells #[.slice qa q.qs.length qc, .slice ja q.js.length jc] 29)) (.cells #[.int .u8 x.k, .int .u8 x.a, .int .u8 x.b, .int .u8 x.c] 59)) (.cells #[.slice none 0 0, .slice none 0 0, .int .i64 0, .int .i64 0] 45))
  have HR0 := Lib.hid (blk_new' ((w.alloc (.cells #[.slice qa q.qs.length qc, .slice ja q.js.length jc] 29)).alloc (.cells #[.int .u8 x.k, .int .u8 x.a, .int .u8 x.b, .int .u8 x.c] 59)) (w.heap.size + 1 + 1) (by simp) 45 [.slice none 0 0, .slice none 0 0, .int .i64 0, .int .i64 0])
  have HG0 : Hid (((w.alloc (.cells #[.slice qa q.qs.length qc, .slice ja q.js.length jc] 29)).alloc (.cells #[.int .u8 x.k, .int .u8 x.a, .int .u8 x.b, .int .u8 x.c] 59)).alloc (.cells #[.slice none 0 0, .slice none 0 0, .int .i64 0, .int .i64 0] 45) = ((w.alloc (.cells #[.slice qa q.qs.length qc, .slice ja q.js.length jc] 29)).alloc (.cells #[.int .u8 x.k, .int .u8 x.a, .int .u8 x.b, .int .u8 x.c] 59)).alloc (.cells #[.slice none 0 0, .slice none 0 0, .int .i64 0, .int .i64 0] 45)) := rfl
  have s0 := Lib.hid (Blk.cell (Blk.alloc (Blk.alloc (Blk.new w 29 [.slice qa q.qs.length qc, .slice ja q.js.length jc]) (.cells #[.int .u8 x.k, .int .u8 x.a, .int .u8 x.b, .int .u8 x.c] 59)) (.cells #[.slice none 0 0, .slice none 0 0, .int .i64 0, .int .i64 0] 45)) 0 _ rfl)
  have s1 := Lib.hid (Blk.cell (Blk.alloc (Blk.alloc (Blk.new w 29 [.slice qa q.qs.length qc, .slice ja q.js.length jc]) (.cells #[.int .u8 x.k, .int .u8 x.a, .int .u8 x.b, .int .u8 x.c] 59)) (.cells #[.slice none 0 0, .slice none 0 0, .int .i64 0, .int .i64 0] 45)) 1 _ rfl)
  have hxb := Blk.alloc (blk_new' (w.alloc (.cells #[.slice qa q.qs.length qc, .slice ja q.js.length jc] 29)) (w.heap.size + 1) (by simp) 59 [.int .u8 x.k, .int .u8 x.a, .int .u8 x.b, .int .u8 x.c]) (.cells #[.slice none 0 0, .slice none 0 0, .int .i64 0, .int .i64 0] 45)
  have HXB := Lib.hid hxb; clear hxb
  rcases h with h | h | h
  all_goals
    go_enter Try.func23, Try.ntmps23
    go_wp2_with fail
    generalize hW : (((w.alloc (.cells #[.slice qa q.qs.length qc, .slice ja q.js.length jc] 29)).alloc (.cells #[.int .u8 x.k, .int .u8 x.a, .int .u8 x.b, .int .u8 x.c] 59)).alloc (.cells #[.slice none 0 0, .slice none 0 0, .int .i64 0, .int .i64 0] 45)) = W at HB0 HR0 s0 s1 HXB ⊢
    clear hW HG0
    have q0 := s0.out
    have q1 := s1.out
    have x0 := HXB.out.cell 0 _ rfl
    have x1 := HXB.out.cell 1 _ rfl
    have x2 := HXB.out.cell 2 _ rfl
    have x3 := HXB.out.cell 3 _ rfl
    have r0 := HR0.out.cell 0 _ rfl
    have r1 := HR0.out.cell 1 _ rfl
    have r2 := HR0.out.cell 2 _ rfl
    have r3 := HR0.out.cell 3 _ rfl
    have zl := HR0.out.lt
    clear s0 s1 h
    go_region_held3 (fun w' => w'.cell? ⟨w.heap.size, 0, none⟩ = some (.slice qa q.qs.length qc) ∧ w'.cell? ⟨w.heap.size, 1, none⟩ = some (.slice ja q.js.length jc) ∧ w'.cell? ⟨w.heap.size + 1, 0, none⟩ = some (.int .u8 x.k) ∧
      w'.cell? ⟨w.heap.size + 1, 1, none⟩ = some (.int .u8 x.a) ∧ w'.cell? ⟨w.heap.size + 1, 2, none⟩ = some (.int .u8 x.b) ∧ w'.cell? ⟨w.heap.size + 1, 3, none⟩ = some (.int .u8 x.c))
      (((repeat' apply And.intro) <;> first | (with_reducible exact far4 (kc_ hbs (by assumption)) (by omega)) | (with_reducible exact kc_ hbs (by assumption)) | (with_reducible exact kc_ hbj (by assumption)) | (go_keep; done)))
      (first
        | (go_at_call 39; refine (HJ.out _).mono ?_; rintro e w1 ⟨rfl, hbj0⟩; have hbj := (kb_ (bd_ (b0_ W)) hbj0).out; clear hbj0)
        | (go_at_call 28; refine (HC.out _ (HQ.out.below (kb_ HB0.out hbj))).mono ?_; rintro e w2 ⟨⟨qb, qd, jb, jd⟩, rfl, hq20, hb2⟩; have hq2 := Lib.hid hq20; have hbs := (kb_ (Lib.hid hbj) hb2).out; clear hq20; have z0 := kc_ hbs r0; have z1 := kc_ hbs r1; have z2 := kc_ hbs r2; have z3 := kc_ hbs r3; have zf := (HR0.out.below hbs).frozen; simp only [Qv.done]))
    go_wp2
    have HZ := Lib.hid (HR0.out.below hbs)
    have HB := Lib.hid (kb_ HB0.out hbs)
    refine bodyPost_ret (results_done rfl _ _ (w.heap.size + 1 + 1) _ rfl rfl (HZ.out.put (Qv.dcells ⟨qb, qd, jb, jd⟩ q' i y) rfl)) rfl ?_
    exact fin45 (v' := ⟨qb, qd, jb, jd⟩) (q' := q') (i := i) (x := y) HB.out HZ.out (by omega) (hq2.out.put HZ.out t45 0 _)
set_option maxHeartbeats 2000000 in
set_option maxRecDepth 100000 in
theorem rdo_start (v : Qv) (q : Qu) (x : Raw) (w : World) (hq : QIn w v q) (hR : Rt q) (hx : x.Ok) (h : x.k % 8 = 3 ∨ x.k % 8 = 4) : Calls Try.prog 23 #[v.val q, x.val] w (RetD (chS q (x.a % 12) (startF q (x.b % 4))).1 (chS q (x.a % 12) (startF q (x.b % 4))).2.1 (chS q (x.a % 12) (startF q (x.b % 4))).2.2 w) := by
  obtain ⟨qa, qc, ja, jc⟩ := v
  have hx1 := hx
  obtain ⟨h1, h2, h3, h4, h5, h6, h7, h8⟩ := hx1
  have hc : ∀ W, QIn W ⟨qa, qc, ja, jc⟩ q → Calls Try.prog 29 #[Qv.val ⟨qa, qc, ja, jc⟩ q, .int .i64 (x.a % 12), .int .i64 (x.b % 4)] W (RetD (chS q (x.a % 12) (startF q (x.b % 4))).1 (chS q (x.a % 12) (startF q (x.b % 4))).2.1 (chS q (x.a % 12) (startF q (x.b % 4))).2.2 W) := fun W hq => rstart_calls ⟨qa, qc, ja, jc⟩ q _ _ W hq hR
  generalize chS q (x.a % 12) (startF q (x.b % 4)) = r at hc ⊢
  obtain ⟨q', i, y⟩ := r
  unfold Qv.val at hc ⊢
  unfold Raw.val
  have HQ := Lib.hid hq; clear hq
  have HX := Lib.hid hx; clear hx
  have HC := Lib.hid hc; clear hc
  have HB0 := Lib.hid (ba_ (ba_ (ba_ (b0_ w) (.cells #[.slice qa q.qs.length qc, .slice ja q.js.length jc] 29)) (.cells #[.int .u8 x.k, .int .u8 x.a, .int .u8 x.b, .int .u8 x.c] 59)) (.cells #[.slice none 0 0, .slice none 0 0, .int .i64 0, .int .i64 0] 45))
  have HR0 := Lib.hid (blk_new' ((w.alloc (.cells #[.slice qa q.qs.length qc, .slice ja q.js.length jc] 29)).alloc (.cells #[.int .u8 x.k, .int .u8 x.a, .int .u8 x.b, .int .u8 x.c] 59)) (w.heap.size + 1 + 1) (by simp) 45 [.slice none 0 0, .slice none 0 0, .int .i64 0, .int .i64 0])
  have HG0 : Hid (((w.alloc (.cells #[.slice qa q.qs.length qc, .slice ja q.js.length jc] 29)).alloc (.cells #[.int .u8 x.k, .int .u8 x.a, .int .u8 x.b, .int .u8 x.c] 59)).alloc (.cells #[.slice none 0 0, .slice none 0 0, .int .i64 0, .int .i64 0] 45) = ((w.alloc (.cells #[.slice qa q.qs.length qc, .slice ja q.js.length jc] 29)).alloc (.cells #[.int .u8 x.k, .int .u8 x.a, .int .u8 x.b, .int .u8 x.c] 59)).alloc (.cells #[.slice none 0 0, .slice none 0 0, .int .i64 0, .int .i64 0] 45)) := rfl
  have s0 := Lib.hid (Blk.cell (Blk.alloc (Blk.alloc (Blk.new w 29 [.slice qa q.qs.length qc, .slice ja q.js.length jc]) (.cells #[.int .u8 x.k, .int .u8 x.a, .int .u8 x.b, .int .u8 x.c] 59)) (.cells #[.slice none 0 0, .slice none 0 0, .int .i64 0, .int .i64 0] 45)) 0 _ rfl)
  have s1 := Lib.hid (Blk.cell (Blk.alloc (Blk.alloc (Blk.new w 29 [.slice qa q.qs.length qc, .slice ja q.js.length jc]) (.cells #[.int .u8 x.k, .int .u8 x.a, .int .u8 x.b, .int .u8 x.c] 59)) (.cells #[.slice none 0 0, .slice none 0 0, .int .i64 0, .int .i64 0] 45)) 1 _ rfl)
  have hxb := Blk.alloc (blk_new' (w.alloc (.cells #[.slice qa q.qs.length qc, .slice ja q.js.length jc] 29)) (w.heap.size + 1) (by simp) 59 [.int .u8 x.k, .int .u8 x.a, .int .u8 x.b, .int .u8 x.c]) (.cells #[.slice none 0 0, .slice none 0 0, .int .i64 0, .int .i64 0] 45)
  have HXB := Lib.hid hxb; clear hxb
  rcases h with h | h
  all_goals
    go_enter Try.func23, Try.ntmps23
    go_wp2_with fail
    generalize hW : (((w.alloc (.cells #[.slice qa q.qs.length qc, .slice ja q.js.length jc] 29)).alloc (.cells #[.int .u8 x.k, .int .u8 x.a, .int .u8 x.b, .int .u8 x.c] 59)).alloc (.cells #[.slice none 0 0, .slice none 0 0, .int .i64 0, .int .i64 0] 45)) = W at HB0 HR0 s0 s1 HXB ⊢
    clear hW HG0
    have q0 := s0.out
    have q1 := s1.out
    have x0 := HXB.out.cell 0 _ rfl
    have x1 := HXB.out.cell 1 _ rfl
    have x2 := HXB.out.cell 2 _ rfl
    have x3 := HXB.out.cell 3 _ rfl
    have r0 := HR0.out.cell 0 _ rfl
    have r1 := HR0.out.cell 1 _ rfl
    have r2 := HR0.out.cell 2 _ rfl
    have r3 := HR0.out.cell 3 _ rfl
    have zl := HR0.out.lt
    clear s0 s1 h
    refine (HC.out _ (HQ.out.below HB0.out.out)).mono ?_
    rintro e w2 ⟨⟨qb, qd, jb, jd⟩, rfl, hq20, hbs⟩
    have hq2 := Lib.hid hq20
    clear hq20
    have z0 := kc_ hbs r0
    have z1 := kc_ hbs r1
    have z2 := kc_ hbs r2
    have z3 := kc_ hbs r3
    have zf := (HR0.out.below hbs).frozen
    simp only [Qv.done]
    go_wp2
    have HZ := Lib.hid (HR0.out.below hbs)
    have HB := Lib.hid (kb_ HB0.out hbs)
    refine bodyPost_ret (results_done rfl _ _ (w.heap.size + 1 + 1) _ rfl rfl (HZ.out.put (Qv.dcells ⟨qb, qd, jb, jd⟩ q' i y) rfl)) rfl ?_
    exact fin45 (v' := ⟨qb, qd, jb, jd⟩) (q' := q') (i := i) (x := y) HB.out HZ.out (by omega) (hq2.out.put HZ.out t45 0 _)
set_option maxHeartbeats 2000000 in
set_option maxRecDepth 100000 in
theorem rdo_cancel (v : Qv) (q : Qu) (x : Raw) (w : World) (hq : QIn w v q) (hR : Rt q) (hx : x.Ok) (h : x.k % 8 = 7) : Calls Try.prog 23 #[v.val q, x.val] w (RetD (chS q (x.a % 12) cancelF).1 (chS q (x.a % 12) cancelF).2.1 (chS q (x.a % 12) cancelF).2.2 w) := by
  obtain ⟨qa, qc, ja, jc⟩ := v
  have hx1 := hx
  obtain ⟨h1, h2, h3, h4, h5, h6, h7, h8⟩ := hx1
  have hc : ∀ W, QIn W ⟨qa, qc, ja, jc⟩ q → Calls Try.prog 30 #[Qv.val ⟨qa, qc, ja, jc⟩ q, .int .i64 (x.a % 12)] W (RetD (chS q (x.a % 12) cancelF).1 (chS q (x.a % 12) cancelF).2.1 (chS q (x.a % 12) cancelF).2.2 W) := fun W hq => rcancel_calls ⟨qa, qc, ja, jc⟩ q _ W hq hR
  generalize chS q (x.a % 12) cancelF = r at hc ⊢
  obtain ⟨q', i, y⟩ := r
  unfold Qv.val at hc ⊢
  unfold Raw.val
  have HQ := Lib.hid hq; clear hq
  have HX := Lib.hid hx; clear hx
  have HC := Lib.hid hc; clear hc
  have HB0 := Lib.hid (ba_ (ba_ (ba_ (b0_ w) (.cells #[.slice qa q.qs.length qc, .slice ja q.js.length jc] 29)) (.cells #[.int .u8 x.k, .int .u8 x.a, .int .u8 x.b, .int .u8 x.c] 59)) (.cells #[.slice none 0 0, .slice none 0 0, .int .i64 0, .int .i64 0] 45))
  have HR0 := Lib.hid (blk_new' ((w.alloc (.cells #[.slice qa q.qs.length qc, .slice ja q.js.length jc] 29)).alloc (.cells #[.int .u8 x.k, .int .u8 x.a, .int .u8 x.b, .int .u8 x.c] 59)) (w.heap.size + 1 + 1) (by simp) 45 [.slice none 0 0, .slice none 0 0, .int .i64 0, .int .i64 0])
  have HG0 : Hid (((w.alloc (.cells #[.slice qa q.qs.length qc, .slice ja q.js.length jc] 29)).alloc (.cells #[.int .u8 x.k, .int .u8 x.a, .int .u8 x.b, .int .u8 x.c] 59)).alloc (.cells #[.slice none 0 0, .slice none 0 0, .int .i64 0, .int .i64 0] 45) = ((w.alloc (.cells #[.slice qa q.qs.length qc, .slice ja q.js.length jc] 29)).alloc (.cells #[.int .u8 x.k, .int .u8 x.a, .int .u8 x.b, .int .u8 x.c] 59)).alloc (.cells #[.slice none 0 0, .slice none 0 0, .int .i64 0, .int .i64 0] 45)) := rfl
  have s0 := Lib.hid (Blk.cell (Blk.alloc (Blk.alloc (Blk.new w 29 [.slice qa q.qs.length qc, .slice ja q.js.length jc]) (.cells #[.int .u8 x.k, .int .u8 x.a, .int .u8 x.b, .int .u8 x.c] 59)) (.cells #[.slice none 0 0, .slice none 0 0, .int .i64 0, .int .i64 0] 45)) 0 _ rfl)
  have s1 := Lib.hid (Blk.cell (Blk.alloc (Blk.alloc (Blk.new w 29 [.slice qa q.qs.length qc, .slice ja q.js.length jc]) (.cells #[.int .u8 x.k, .int .u8 x.a, .int .u8 x.b, .int .u8 x.c] 59)) (.cells #[.slice none 0 0, .slice none 0 0, .int .i64 0, .int .i64 0] 45)) 1 _ rfl)
  have hxb := Blk.alloc (blk_new' (w.alloc (.cells #[.slice qa q.qs.length qc, .slice ja q.js.length jc] 29)) (w.heap.size + 1) (by simp) 59 [.int .u8 x.k, .int .u8 x.a, .int .u8 x.b, .int .u8 x.c]) (.cells #[.slice none 0 0, .slice none 0 0, .int .i64 0, .int .i64 0] 45)
  have HXB := Lib.hid hxb; clear hxb
  iterate 1
    go_enter Try.func23, Try.ntmps23
    go_wp2_with fail
    generalize hW : (((w.alloc (.cells #[.slice qa q.qs.length qc, .slice ja q.js.length jc] 29)).alloc (.cells #[.int .u8 x.k, .int .u8 x.a, .int .u8 x.b, .int .u8 x.c] 59)).alloc (.cells #[.slice none 0 0, .slice none 0 0, .int .i64 0, .int .i64 0] 45)) = W at HB0 HR0 s0 s1 HXB ⊢
    clear hW HG0
    have q0 := s0.out
    have q1 := s1.out
    have x0 := HXB.out.cell 0 _ rfl
    have x1 := HXB.out.cell 1 _ rfl
    have x2 := HXB.out.cell 2 _ rfl
    have x3 := HXB.out.cell 3 _ rfl
    have r0 := HR0.out.cell 0 _ rfl
    have r1 := HR0.out.cell 1 _ rfl
    have r2 := HR0.out.cell 2 _ rfl
    have r3 := HR0.out.cell 3 _ rfl
    have zl := HR0.out.lt
    clear s0 s1 h
    refine (HC.out _ (HQ.out.below HB0.out.out)).mono ?_
    rintro e w2 ⟨⟨qb, qd, jb, jd⟩, rfl, hq20, hbs⟩
    have hq2 := Lib.hid hq20
    clear hq20
    have z0 := kc_ hbs r0
    have z1 := kc_ hbs r1
    have z2 := kc_ hbs r2
    have z3 := kc_ hbs r3
    have zf := (HR0.out.below hbs).frozen
    simp only [Qv.done]
    go_wp2
    have HZ := Lib.hid (HR0.out.below hbs)
    have HB := Lib.hid (kb_ HB0.out hbs)
    refine bodyPost_ret (results_done rfl _ _ (w.heap.size + 1 + 1) _ rfl rfl (HZ.out.put (Qv.dcells ⟨qb, qd, jb, jd⟩ q' i y) rfl)) rfl ?_
    exact fin45 (v' := ⟨qb, qd, jb, jd⟩) (q' := q') (i := i) (x := y) HB.out HZ.out (by omega) (hq2.out.put HZ.out t45 0 _)
set_option maxHeartbeats 2000000 in
set_option maxRecDepth 100000 in
theorem rdo_park (v : Qv) (q : Qu) (x : Raw) (w : World) (hq : QIn w v q) (hR : Rt q) (hx : x.Ok) (h : x.k % 8 = 5) : Calls Try.prog 23 #[v.val q, x.val] w (RetD (chS q (x.a % 12) (leaveF 1 (img x.c))).1 (chS q (x.a % 12) (leaveF 1 (img x.c))).2.1 (chS q (x.a % 12) (leaveF 1 (img x.c))).2.2 w) := by
  obtain ⟨qa, qc, ja, jc⟩ := v
  have hx1 := hx
  obtain ⟨h1, h2, h3, h4, h5, h6, h7, h8⟩ := hx1
  have hc : ∀ W, QIn W ⟨qa, qc, ja, jc⟩ q → Calls Try.prog 40 #[Qv.val ⟨qa, qc, ja, jc⟩ q, .int .i64 (x.a % 12), (img x.c).val] W (RetD (chS q (x.a % 12) (leaveF 1 (img x.c))).1 (chS q (x.a % 12) (leaveF 1 (img x.c))).2.1 (chS q (x.a % 12) (leaveF 1 (img x.c))).2.2 W) := fun W hq => rpark_calls ⟨qa, qc, ja, jc⟩ q _ _ W hq hR
  generalize chS q (x.a % 12) (leaveF 1 (img x.c)) = r at hc ⊢
  obtain ⟨q', i, y⟩ := r
  unfold Qv.val at hc ⊢
  unfold Img.val img at hc
  unfold Raw.val
  have HQ := Lib.hid hq; clear hq
  have HX := Lib.hid hx; clear hx
  have HC := Lib.hid hc; clear hc
  have HB0 := Lib.hid (ba_ (ba_ (ba_ (b0_ w) (.cells #[.slice qa q.qs.length qc, .slice ja q.js.length jc] 29)) (.cells #[.int .u8 x.k, .int .u8 x.a, .int .u8 x.b, .int .u8 x.c] 59)) (.cells #[.slice none 0 0, .slice none 0 0, .int .i64 0, .int .i64 0] 45))
  have HR0 := Lib.hid (blk_new' ((w.alloc (.cells #[.slice qa q.qs.length qc, .slice ja q.js.length jc] 29)).alloc (.cells #[.int .u8 x.k, .int .u8 x.a, .int .u8 x.b, .int .u8 x.c] 59)) (w.heap.size + 1 + 1) (by simp) 45 [.slice none 0 0, .slice none 0 0, .int .i64 0, .int .i64 0])
  have HG0 : Hid (((w.alloc (.cells #[.slice qa q.qs.length qc, .slice ja q.js.length jc] 29)).alloc (.cells #[.int .u8 x.k, .int .u8 x.a, .int .u8 x.b, .int .u8 x.c] 59)).alloc (.cells #[.slice none 0 0, .slice none 0 0, .int .i64 0, .int .i64 0] 45) = ((w.alloc (.cells #[.slice qa q.qs.length qc, .slice ja q.js.length jc] 29)).alloc (.cells #[.int .u8 x.k, .int .u8 x.a, .int .u8 x.b, .int .u8 x.c] 59)).alloc (.cells #[.slice none 0 0, .slice none 0 0, .int .i64 0, .int .i64 0] 45)) := rfl
  have s0 := Lib.hid (Blk.cell (Blk.alloc (Blk.alloc (Blk.new w 29 [.slice qa q.qs.length qc, .slice ja q.js.length jc]) (.cells #[.int .u8 x.k, .int .u8 x.a, .int .u8 x.b, .int .u8 x.c] 59)) (.cells #[.slice none 0 0, .slice none 0 0, .int .i64 0, .int .i64 0] 45)) 0 _ rfl)
  have s1 := Lib.hid (Blk.cell (Blk.alloc (Blk.alloc (Blk.new w 29 [.slice qa q.qs.length qc, .slice ja q.js.length jc]) (.cells #[.int .u8 x.k, .int .u8 x.a, .int .u8 x.b, .int .u8 x.c] 59)) (.cells #[.slice none 0 0, .slice none 0 0, .int .i64 0, .int .i64 0] 45)) 1 _ rfl)
  have hxb := Blk.alloc (blk_new' (w.alloc (.cells #[.slice qa q.qs.length qc, .slice ja q.js.length jc] 29)) (w.heap.size + 1) (by simp) 59 [.int .u8 x.k, .int .u8 x.a, .int .u8 x.b, .int .u8 x.c]) (.cells #[.slice none 0 0, .slice none 0 0, .int .i64 0, .int .i64 0] 45)
  have HXB := Lib.hid hxb; clear hxb
  have E1 := Lib.hid (wrapmod x.a 12 h3 h4 (by decide) (by decide))
  have E2 := Lib.hid (i64w x.c (by omega) (by omega))
  iterate 1
    go_enter Try.func23, Try.ntmps23
    go_wp2_with fail
    generalize hW : (((w.alloc (.cells #[.slice qa q.qs.length qc, .slice ja q.js.length jc] 29)).alloc (.cells #[.int .u8 x.k, .int .u8 x.a, .int .u8 x.b, .int .u8 x.c] 59)).alloc (.cells #[.slice none 0 0, .slice none 0 0, .int .i64 0, .int .i64 0] 45)) = W at HB0 HR0 s0 s1 HXB ⊢
    clear hW HG0
    have q0 := s0.out
    have q1 := s1.out
    have x0 := HXB.out.cell 0 _ rfl
    have x1 := HXB.out.cell 1 _ rfl
    have x2 := HXB.out.cell 2 _ rfl
    have x3 := HXB.out.cell 3 _ rfl
    have r0 := HR0.out.cell 0 _ rfl
    have r1 := HR0.out.cell 1 _ rfl
    have r2 := HR0.out.cell 2 _ rfl
    have r3 := HR0.out.cell 3 _ rfl
    have zl := HR0.out.lt
    clear s0 s1 h
    go_region_held3 (fun w' => w'.cell? ⟨w.heap.size, 0, none⟩ = some (.slice qa q.qs.length qc) ∧ w'.cell? ⟨w.heap.size, 1, none⟩ = some (.slice ja q.js.length jc) ∧ w'.cell? ⟨w.heap.size + 1, 0, none⟩ = some (.int .u8 x.k) ∧
      w'.cell? ⟨w.heap.size + 1, 1, none⟩ = some (.int .u8 x.a) ∧ w'.cell? ⟨w.heap.size + 1, 2, none⟩ = some (.int .u8 x.b) ∧ w'.cell? ⟨w.heap.size + 1, 3, none⟩ = some (.int .u8 x.c))
      (((repeat' apply And.intro) <;> first | (with_reducible exact far4 (kc_ hbs (by assumption)) (by omega)) | (with_reducible exact kc_ hbs (by assumption)) | (with_reducible exact kc_ hbj (by assumption)) | (go_keep; done)))
      (first
        | (go_at_call 17; refine (image_calls _ _).mono ?_; rintro e w1 ⟨rfl, hbj0⟩; have hbj := (kb_ (bd_ (b0_ W)) hbj0).out; clear hbj0; unfold Img.val img)
        | (go_at_call 40; rw [E1.out, E2.out]; refine (HC.out _ (HQ.out.below (kb_ HB0.out hbj))).mono ?_; rintro e w2 ⟨⟨qb, qd, jb, jd⟩, rfl, hq20, hb2⟩; have hq2 := Lib.hid hq20; have hbs := (kb_ (Lib.hid hbj) hb2).out; clear hq20; have z0 := kc_ hbs r0; have z1 := kc_ hbs r1; have z2 := kc_ hbs r2; have z3 := kc_ hbs r3; have zf := (HR0.out.below hbs).frozen; simp only [Qv.done]))
    go_wp2
    have HZ := Lib.hid (HR0.out.below hbs)
    have HB := Lib.hid (kb_ HB0.out hbs)
    refine bodyPost_ret (results_done rfl _ _ (w.heap.size + 1 + 1) _ rfl rfl (HZ.out.put (Qv.dcells ⟨qb, qd, jb, jd⟩ q' i y) rfl)) rfl ?_
    exact fin45 (v' := ⟨qb, qd, jb, jd⟩) (q' := q') (i := i) (x := y) HB.out HZ.out (by omega) (hq2.out.put HZ.out t45 0 _)
set_option maxHeartbeats 2000000 in
set_option maxRecDepth 100000 in
theorem rdo_end (v : Qv) (q : Qu) (x : Raw) (w : World) (hq : QIn w v q) (hR : Rt q) (hx : x.Ok) (h : x.k % 8 = 6) : Calls Try.prog 23 #[v.val q, x.val] w (RetD (chS q (x.a % 12) (leaveF 3 (img x.c))).1 (chS q (x.a % 12) (leaveF 3 (img x.c))).2.1 (chS q (x.a % 12) (leaveF 3 (img x.c))).2.2 w) := by
  obtain ⟨qa, qc, ja, jc⟩ := v
  have hx1 := hx
  obtain ⟨h1, h2, h3, h4, h5, h6, h7, h8⟩ := hx1
  have hc : ∀ W, QIn W ⟨qa, qc, ja, jc⟩ q → Calls Try.prog 41 #[Qv.val ⟨qa, qc, ja, jc⟩ q, .int .i64 (x.a % 12), (img x.c).val] W (RetD (chS q (x.a % 12) (leaveF 3 (img x.c))).1 (chS q (x.a % 12) (leaveF 3 (img x.c))).2.1 (chS q (x.a % 12) (leaveF 3 (img x.c))).2.2 W) := fun W hq => rend_calls ⟨qa, qc, ja, jc⟩ q _ _ W hq hR
  generalize chS q (x.a % 12) (leaveF 3 (img x.c)) = r at hc ⊢
  obtain ⟨q', i, y⟩ := r
  unfold Qv.val at hc ⊢
  unfold Img.val img at hc
  unfold Raw.val
  have HQ := Lib.hid hq; clear hq
  have HX := Lib.hid hx; clear hx
  have HC := Lib.hid hc; clear hc
  have HB0 := Lib.hid (ba_ (ba_ (ba_ (b0_ w) (.cells #[.slice qa q.qs.length qc, .slice ja q.js.length jc] 29)) (.cells #[.int .u8 x.k, .int .u8 x.a, .int .u8 x.b, .int .u8 x.c] 59)) (.cells #[.slice none 0 0, .slice none 0 0, .int .i64 0, .int .i64 0] 45))
  have HR0 := Lib.hid (blk_new' ((w.alloc (.cells #[.slice qa q.qs.length qc, .slice ja q.js.length jc] 29)).alloc (.cells #[.int .u8 x.k, .int .u8 x.a, .int .u8 x.b, .int .u8 x.c] 59)) (w.heap.size + 1 + 1) (by simp) 45 [.slice none 0 0, .slice none 0 0, .int .i64 0, .int .i64 0])
  have HG0 : Hid (((w.alloc (.cells #[.slice qa q.qs.length qc, .slice ja q.js.length jc] 29)).alloc (.cells #[.int .u8 x.k, .int .u8 x.a, .int .u8 x.b, .int .u8 x.c] 59)).alloc (.cells #[.slice none 0 0, .slice none 0 0, .int .i64 0, .int .i64 0] 45) = ((w.alloc (.cells #[.slice qa q.qs.length qc, .slice ja q.js.length jc] 29)).alloc (.cells #[.int .u8 x.k, .int .u8 x.a, .int .u8 x.b, .int .u8 x.c] 59)).alloc (.cells #[.slice none 0 0, .slice none 0 0, .int .i64 0, .int .i64 0] 45)) := rfl
  have s0 := Lib.hid (Blk.cell (Blk.alloc (Blk.alloc (Blk.new w 29 [.slice qa q.qs.length qc, .slice ja q.js.length jc]) (.cells #[.int .u8 x.k, .int .u8 x.a, .int .u8 x.b, .int .u8 x.c] 59)) (.cells #[.slice none 0 0, .slice none 0 0, .int .i64 0, .int .i64 0] 45)) 0 _ rfl)
  have s1 := Lib.hid (Blk.cell (Blk.alloc (Blk.alloc (Blk.new w 29 [.slice qa q.qs.length qc, .slice ja q.js.length jc]) (.cells #[.int .u8 x.k, .int .u8 x.a, .int .u8 x.b, .int .u8 x.c] 59)) (.cells #[.slice none 0 0, .slice none 0 0, .int .i64 0, .int .i64 0] 45)) 1 _ rfl)
  have hxb := Blk.alloc (blk_new' (w.alloc (.cells #[.slice qa q.qs.length qc, .slice ja q.js.length jc] 29)) (w.heap.size + 1) (by simp) 59 [.int .u8 x.k, .int .u8 x.a, .int .u8 x.b, .int .u8 x.c]) (.cells #[.slice none 0 0, .slice none 0 0, .int .i64 0, .int .i64 0] 45)
  have HXB := Lib.hid hxb; clear hxb
  have E1 := Lib.hid (wrapmod x.a 12 h3 h4 (by decide) (by decide))
  have E2 := Lib.hid (i64w x.c (by omega) (by omega))
  iterate 1
    go_enter Try.func23, Try.ntmps23
    go_wp2_with fail
    generalize hW : (((w.alloc (.cells #[.slice qa q.qs.length qc, .slice ja q.js.length jc] 29)).alloc (.cells #[.int .u8 x.k, .int .u8 x.a, .int .u8 x.b, .int .u8 x.c] 59)).alloc (.cells #[.slice none 0 0, .slice none 0 0, .int .i64 0, .int .i64 0] 45)) = W at HB0 HR0 s0 s1 HXB ⊢
    clear hW HG0
    have q0 := s0.out
    have q1 := s1.out
    have x0 := HXB.out.cell 0 _ rfl
    have x1 := HXB.out.cell 1 _ rfl
    have x2 := HXB.out.cell 2 _ rfl
    have x3 := HXB.out.cell 3 _ rfl
    have r0 := HR0.out.cell 0 _ rfl
    have r1 := HR0.out.cell 1 _ rfl
    have r2 := HR0.out.cell 2 _ rfl
    have r3 := HR0.out.cell 3 _ rfl
    have zl := HR0.out.lt
    clear s0 s1 h
    go_region_held3 (fun w' => w'.cell? ⟨w.heap.size, 0, none⟩ = some (.slice qa q.qs.length qc) ∧ w'.cell? ⟨w.heap.size, 1, none⟩ = some (.slice ja q.js.length jc) ∧ w'.cell? ⟨w.heap.size + 1, 0, none⟩ = some (.int .u8 x.k) ∧
      w'.cell? ⟨w.heap.size + 1, 1, none⟩ = some (.int .u8 x.a) ∧ w'.cell? ⟨w.heap.size + 1, 2, none⟩ = some (.int .u8 x.b) ∧ w'.cell? ⟨w.heap.size + 1, 3, none⟩ = some (.int .u8 x.c))
      (((repeat' apply And.intro) <;> first | (with_reducible exact far4 (kc_ hbs (by assumption)) (by omega)) | (with_reducible exact kc_ hbs (by assumption)) | (with_reducible exact kc_ hbj (by assumption)) | (go_keep; done)))
      (first
        | (go_at_call 17; refine (image_calls _ _).mono ?_; rintro e w1 ⟨rfl, hbj0⟩; have hbj := (kb_ (bd_ (b0_ W)) hbj0).out; clear hbj0; unfold Img.val img)
        | (go_at_call 41; rw [E1.out, E2.out]; refine (HC.out _ (HQ.out.below (kb_ HB0.out hbj))).mono ?_; rintro e w2 ⟨⟨qb, qd, jb, jd⟩, rfl, hq20, hb2⟩; have hq2 := Lib.hid hq20; have hbs := (kb_ (Lib.hid hbj) hb2).out; clear hq20; have z0 := kc_ hbs r0; have z1 := kc_ hbs r1; have z2 := kc_ hbs r2; have z3 := kc_ hbs r3; have zf := (HR0.out.below hbs).frozen; simp only [Qv.done]))
    go_wp2
    have HZ := Lib.hid (HR0.out.below hbs)
    have HB := Lib.hid (kb_ HB0.out hbs)
    refine bodyPost_ret (results_done rfl _ _ (w.heap.size + 1 + 1) _ rfl rfl (HZ.out.put (Qv.dcells ⟨qb, qd, jb, jd⟩ q' i y) rfl)) rfl ?_
    exact fin45 (v' := ⟨qb, qd, jb, jd⟩) (q' := q') (i := i) (x := y) HB.out HZ.out (by omega) (hq2.out.put HZ.out t45 0 _)
theorem rdo_calls (v : Qv) (q : Qu) (x : Raw) (w : World) (hq : QIn w v q) (hR : Rt q) (hx : x.Ok) : Calls Try.prog 23 #[v.val q, x.val] w (RetD (doS q x).1 (doS q x).2.1 (doS q x).2.2 w) := by
  have h0 := Int.emod_nonneg x.k (show (8 : Int) ≠ 0 by decide)
  have h1 := Int.emod_lt_of_pos x.k (show (0 : Int) < 8 by decide)
  unfold doS
  by_cases c1 : x.k % 8 < 3
  · rw [if_pos c1]; exact rdo_submit v q x w hq hR hx (by omega)
  · rw [if_neg c1]
    by_cases c2 : x.k % 8 < 5
    · rw [if_pos c2]; exact rdo_start v q x w hq hR hx (by omega)
    · rw [if_neg c2]
      by_cases c3 : x.k % 8 = 5
      · rw [if_pos c3]; exact rdo_park v q x w hq hR hx c3
      · rw [if_neg c3]
        by_cases c4 : x.k % 8 = 6
        · rw [if_pos c4]; exact rdo_end v q x w hq hR hx c4
        · rw [if_neg c4]; exact rdo_cancel v q x w hq hR hx (by omega)
end Go.Proofs.Ytopmdgheacjkcaa
