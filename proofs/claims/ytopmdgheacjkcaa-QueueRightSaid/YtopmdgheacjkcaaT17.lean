/- The reference's left, Park, End. -/
import Derived.Test.YtopmdgheacjkcaaT16
set_option linter.unusedVariables false
set_option linter.unusedSimpArgs false
namespace Go.Proofs.Ytopmdgheacjkcaa
open Go.RowKit
set_option maxHeartbeats 600000 in
set_option maxRecDepth 100000 in
theorem rleft_calls (v : Qv) (q : Qu) (id st : Int) (im : Img) (w : World) (hq : QIn w v q) (hR : Rt q) : Calls Try.prog 63 #[v.val q, .int .i64 id, .int .i64 st, im.val] w (RetD (changeS q id (leaveF st im)).1 0 (changeS q id (leaveF st im)).2 w) := by
  have hl := hR.fine.len
  obtain ⟨qa, qc, ja, jc⟩ := v
  have hh := fun W => has_calls ⟨qa, qc, ja, jc⟩ q id W hl
  unfold Qv.val at hh ⊢
  unfold Img.val
  have HH := Lib.hid hh; clear hh
  have HQ := Lib.hid hq; clear hq
  have HR := Lib.hid hR; clear hR
  have hb0 := ba_ (ba_ (ba_ (b0_ w) (.cells #[.slice qa q.qs.length qc, .slice ja q.js.length jc] 29)) (.cells #[.int .i64 im.g, .slice im.ar.a im.ar.n im.ar.c, .slice im.gl.a im.gl.n im.gl.c, .slice im.gr.a im.gr.n im.gr.c] 38)) (.cells #[.slice none 0 0, .slice none 0 0, .int .i64 0, .int .i64 0] 45)
  have hq0 := Blk.alloc (Blk.alloc (Blk.new w 29 [.slice qa q.qs.length qc, .slice ja q.js.length jc]) (.cells #[.int .i64 im.g, .slice im.ar.a im.ar.n im.ar.c, .slice im.gl.a im.gl.n im.gl.c, .slice im.gr.a im.gr.n im.gr.c] 38)) (.cells #[.slice none 0 0, .slice none 0 0, .int .i64 0, .int .i64 0] 45)
  have hi0 := Blk.alloc (Blk.new (w.alloc (.cells #[.slice qa q.qs.length qc, .slice ja q.js.length jc] 29)) 38 [.int .i64 im.g, .slice im.ar.a im.ar.n im.ar.c, .slice im.gl.a im.gl.n im.gl.c, .slice im.gr.a im.gr.n im.gr.c]) (.cells #[.slice none 0 0, .slice none 0 0, .int .i64 0, .int .i64 0] 45)
  have hr0 := Blk.new ((w.alloc (.cells #[.slice qa q.qs.length qc, .slice ja q.js.length jc] 29)).alloc (.cells #[.int .i64 im.g, .slice im.ar.a im.ar.n im.ar.c, .slice im.gl.a im.gl.n im.gl.c, .slice im.gr.a im.gr.n im.gr.c] 38)) 45 [.slice none 0 0, .slice none 0 0, .int .i64 0, .int .i64 0]
  simp only [World.size_alloc] at hr0 hi0
  have HB0 := Lib.hid hb0; have HQ0 := Lib.hid hq0; have HR0 := Lib.hid hr0; have HI0 := Lib.hid hi0
  clear hb0 hq0 hr0 hi0
  go_enter Try.func63, Try.ntmps63
  go_wp2_with fail
  refine (HH.out _).mono ?_
  rintro e w1 ⟨rfl, hb1⟩
  have HB := Lib.hid (kb_ HB0.out hb1)
  have HX := Lib.hid (HQ0.out.below hb1)
  have HZ := Lib.hid (HR0.out.below hb1)
  have HI := Lib.hid (HI0.out.below hb1)
  clear hb1 HB0 HQ0 HR0 HI0
  have i0 := HI.out.cell 0 _ rfl
  have i1 := HI.out.cell 1 _ rfl
  have i2 := HI.out.cell 2 _ rfl
  have i3 := HI.out.cell 3 _ rfl
  have zli := HI.out.lt
  have q0 := HX.out.cell 0 _ rfl
  have q1 := HX.out.cell 1 _ rfl
  have r0 := HZ.out.cell 0 _ rfl
  have r1 := HZ.out.cell 1 _ rfl
  have r2 := HZ.out.cell 2 _ rfl
  have r3 := HZ.out.cell 3 _ rfl
  have rf := HZ.out.frozen
  have zl := HX.out.lt
  have zl1 := HZ.out.lt
  by_cases hid : 1 ≤ id ∧ id ≤ q.js.length
  · obtain ⟨k, rfl⟩ : ∃ k : Nat, id = k + 1 := ⟨(id - 1).toNat, by omega⟩
    have hk : k < q.js.length := by omega
    obtain ⟨j, hj⟩ : ∃ j, q.js[k]? = some j := ⟨_, List.getElem?_eq_getElem hk⟩
    obtain ⟨ad, hja, h0, h1, h2, h3, h4, h5, h6, h7, h8, h9, h10⟩ := (HQ.out.below HB.out.out).job k hk j hj
    cases hja
    have hS := changeS_at (leaveF st im) hj
    rw [wi_t (show 1 ≤ (k : Int) + 1 by omega) (show (k : Int) + 1 ≤ q.js.length by omega)]
    clear hid
    have HJ := Lib.hid hj; clear hj
    by_cases c1 : j.st = 2
    · have e1 : (j.st != 2) = false := by simpa using c1
      have HS := Lib.hid (show changeS q ((k : Int) + 1) (leaveF st im) = ({ q with js := q.js.set k { j with st := st, av := -1, im := im } }, 0) by rw [hS, show leaveF st im j = (0, { j with st := st, av := -1, im := im }) by rw [leaveF, if_pos c1]]; rfl)
      clear hS c1
      go_wp2_with fail
      have hw := fun W hq => with_calls ⟨qa, qc, some ad, jc⟩ q { j with st := st, av := -1, im := im } k W hq hl hk (HR.out.ids k j HJ.out)
      generalize ({ q with js := q.js.set k { j with st := st, av := -1, im := im } } : Qu) = q' at hw HS
      refine (hw _ ((HQ.out.below HB.out.out).below (ba_ (b0_ w1) _).out)).mono ?_
      clear hw
      rintro e w2 ⟨v', rfl, hq2, hb2⟩
      have HL2 := Lib.hid (kb_ (ba_ HB.out _) hb2)
      have HZ2 := Lib.hid ((HZ.out.alloc _).below hb2)
      have HQ2 := Lib.hid hq2
      clear hq2 hb2 q0 q1 r0 r1 r2 r3 rf h0 h1 h2 h3 h4 h5 h6 h7 h8 h9 h10 i0 i1 i2 i3
      have r0 := HZ2.out.cell 0 _ rfl
      have r1 := HZ2.out.cell 1 _ rfl
      have r2 := HZ2.out.cell 2 _ rfl
      have r3 := HZ2.out.cell 3 _ rfl
      have rf := HZ2.out.frozen
      unfold Qv.done
      go_wp2
      rw [HS.out]
      refine bodyPost_ret (results_done rfl _ _ (w.heap.size + 1 + 1) _ rfl rfl (HZ2.out.put (v'.dcells q' 0 0) rfl)) rfl ?_
      exact fin45 HL2.out HZ2.out (by omega) (HQ2.out.put HZ2.out t45 0 _)
    · have e1 : (j.st != 2) = true := by simpa using c1
      have HS := Lib.hid (show changeS q ((k : Int) + 1) (leaveF st im) = (q, 430) by rw [hS, show leaveF st im j = (430, j) by rw [leaveF, if_neg c1]]; rfl)
      clear hS c1
      go_wp2
      rw [HS.out]
      refine bodyPost_ret (results_done rfl _ _ (w.heap.size + 1 + 1) _ rfl rfl ((HZ.out.put (Qv.dcells ⟨qa, qc, some ad, jc⟩ q 0 430) rfl).alloc _)) rfl ?_
      exact fin45a (v' := ⟨qa, qc, some ad, jc⟩) (q' := q) (i := 0) (x := 430) HB.out HZ.out (by omega) ((HQ.out.below HB.out.out).put HZ.out t45 0 _) _
  · have HS := Lib.hid (changeS_no (f := leaveF st im) hid)
    rw [show wi id 1 q.js.length = false from wi_f (by omega)]
    clear hid
    go_wp2
    rw [HS.out]
    refine bodyPost_ret (results_done rfl _ _ (w.heap.size + 1 + 1) _ rfl rfl (HZ.out.put (Qv.dcells ⟨qa, qc, ja, jc⟩ q 0 411) rfl)) rfl ?_
    exact fin45 HB.out HZ.out (by omega) (HQ.out.below (below_setCells (w := 0) (g := w.heap.size + 1 + 1) _ 0 w w1 HB.out.out (by omega)))
set_option maxHeartbeats 600000 in
theorem rpark_calls (v : Qv) (q : Qu) (id : Int) (im : Img) (w : World) (hq : QIn w v q) (hR : Rt q) : Calls Try.prog 40 #[v.val q, .int .i64 id, im.val] w (RetD (changeS q id (leaveF 1 im)).1 0 (changeS q id (leaveF 1 im)).2 w) := by
  have hc := fun W hq => rleft_calls v q id 1 im W hq hR
  have HC := Lib.hid hc; clear hc
  unfold Qv.val Img.val at HC
  unfold Qv.val Img.val
  have HQ := Lib.hid hq; clear hq
  go_enter Try.func40, Try.ntmps40
  go_wp2_with fail
  refine (HC.out _ (HQ.out.below (ba_ (ba_ (ba_ (b0_ w) _) _) _).out)).mono ?_
  generalize hr : changeS q id (leaveF 1 im) = r
  have HR := Lib.hid hr; clear hr
  obtain ⟨q', x⟩ := r
  rintro e w1 ⟨v', rfl, hq1, hb1⟩
  have HL := Lib.hid (kb_ (ba_ (ba_ (ba_ (b0_ w) _) _) _) hb1)
  have HB1 := Lib.hid ((Blk.new ((w.alloc (.cells #[.slice v.qa q.qs.length v.qc, .slice v.ja q.js.length v.jc] 29)).alloc (.cells #[.int .i64 im.g, .slice im.ar.a im.ar.n im.ar.c, .slice im.gl.a im.gl.n im.gl.c, .slice im.gr.a im.gr.n im.gr.c] 38)) 45 [.slice none 0 0, .slice none 0 0, .int .i64 0, .int .i64 0]).below hb1)
  simp only [World.size_alloc] at HB1
  have HQ1 := Lib.hid hq1
  clear hq1 hb1
  have b0 := HB1.out.cell 0 _ rfl
  have b1 := HB1.out.cell 1 _ rfl
  have b2 := HB1.out.cell 2 _ rfl
  have b3 := HB1.out.cell 3 _ rfl
  have fz1 := HB1.out.frozen
  unfold Qv.done
  go_wp2
  rw [HR.out]
  refine bodyPost_ret (results_done rfl _ _ (w.heap.size + 1 + 1) _ rfl rfl (HB1.out.put (v'.dcells q' 0 x) rfl)) rfl ?_
  exact fin45 HL.out HB1.out (by omega) (HQ1.out.put HB1.out t45 0 _)
set_option maxHeartbeats 600000 in
theorem rend_calls (v : Qv) (q : Qu) (id : Int) (im : Img) (w : World) (hq : QIn w v q) (hR : Rt q) : Calls Try.prog 41 #[v.val q, .int .i64 id, im.val] w (RetD (changeS q id (leaveF 3 im)).1 0 (changeS q id (leaveF 3 im)).2 w) := by
  have hc := fun W hq => rleft_calls v q id 3 im W hq hR
  have HC := Lib.hid hc; clear hc
  unfold Qv.val Img.val at HC
  unfold Qv.val Img.val
  have HQ := Lib.hid hq; clear hq
  go_enter Try.func41, Try.ntmps41
  go_wp2_with fail
  refine (HC.out _ (HQ.out.below (ba_ (ba_ (ba_ (b0_ w) _) _) _).out)).mono ?_
  generalize hr : changeS q id (leaveF 3 im) = r
  have HR := Lib.hid hr; clear hr
  obtain ⟨q', x⟩ := r
  rintro e w1 ⟨v', rfl, hq1, hb1⟩
  have HL := Lib.hid (kb_ (ba_ (ba_ (ba_ (b0_ w) _) _) _) hb1)
  have HB1 := Lib.hid ((Blk.new ((w.alloc (.cells #[.slice v.qa q.qs.length v.qc, .slice v.ja q.js.length v.jc] 29)).alloc (.cells #[.int .i64 im.g, .slice im.ar.a im.ar.n im.ar.c, .slice im.gl.a im.gl.n im.gl.c, .slice im.gr.a im.gr.n im.gr.c] 38)) 45 [.slice none 0 0, .slice none 0 0, .int .i64 0, .int .i64 0]).below hb1)
  simp only [World.size_alloc] at HB1
  have HQ1 := Lib.hid hq1
  clear hq1 hb1
  have b0 := HB1.out.cell 0 _ rfl
  have b1 := HB1.out.cell 1 _ rfl
  have b2 := HB1.out.cell 2 _ rfl
  have b3 := HB1.out.cell 3 _ rfl
  have fz1 := HB1.out.frozen
  unfold Qv.done
  go_wp2
  rw [HR.out]
  refine bodyPost_ret (results_done rfl _ _ (w.heap.size + 1 + 1) _ rfl rfl (HB1.out.put (v'.dcells q' 0 x) rfl)) rfl ?_
  exact fin45 HL.out HB1.out (by omega) (HQ1.out.put HB1.out t45 0 _)
end Go.Proofs.Ytopmdgheacjkcaa
