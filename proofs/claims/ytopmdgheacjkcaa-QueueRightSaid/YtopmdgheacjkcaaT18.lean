/- The reference's Start. -/
import Derived.Test.YtopmdgheacjkcaaT17
set_option linter.unusedVariables false
set_option linter.unusedSimpArgs false
namespace Go.Proofs.Ytopmdgheacjkcaa
open Go.RowKit
set_option maxHeartbeats 700000 in
set_option maxRecDepth 100000 in
theorem rstart_calls (v : Qv) (q : Qu) (id dev : Int) (w : World) (hq : QIn w v q) (hR : Rt q) : Calls Try.prog 29 #[v.val q, .int .i64 id, .int .i64 dev] w (RetD (changeS q id (startF q dev)).1 0 (changeS q id (startF q dev)).2 w) := by
  have hl := hR.fine.len
  obtain ⟨qa, qc, ja, jc⟩ := v
  have hh := fun W => has_calls ⟨qa, qc, ja, jc⟩ q id W hl
  have ht := fun W hq => taken_calls ⟨qa, qc, ja, jc⟩ q dev W hq hl
  have hrd := fun j W hq hok => rready_calls ⟨qa, qc, ja, jc⟩ q j W hq hR.fine hok
  unfold Qv.val at hh ht hrd ⊢
  unfold J.val at hrd
  have HH := Lib.hid hh; have HT := Lib.hid ht; have HRD := Lib.hid hrd; clear hh ht hrd
  have HQ := Lib.hid hq; clear hq
  have HR := Lib.hid hR; clear hR
  have hb0 := ba_ (ba_ (b0_ w) (.cells #[.slice qa q.qs.length qc, .slice ja q.js.length jc] 29)) (.cells #[.slice none 0 0, .slice none 0 0, .int .i64 0, .int .i64 0] 45)
  have hq0 := Blk.alloc (Blk.new w 29 [.slice qa q.qs.length qc, .slice ja q.js.length jc]) (.cells #[.slice none 0 0, .slice none 0 0, .int .i64 0, .int .i64 0] 45)
  have hr0 := Blk.new (w.alloc (.cells #[.slice qa q.qs.length qc, .slice ja q.js.length jc] 29)) 45 [.slice none 0 0, .slice none 0 0, .int .i64 0, .int .i64 0]
  simp only [World.size_alloc] at hr0
  have HB0 := Lib.hid hb0; have HQ0 := Lib.hid hq0; have HR0 := Lib.hid hr0
  clear hb0 hq0 hr0
  go_enter Try.func29, Try.ntmps29
  go_wp2_with fail
  refine (HH.out _).mono ?_
  rintro e w1 ⟨rfl, hb1⟩
  have HB := Lib.hid (kb_ HB0.out hb1)
  have HX := Lib.hid (HQ0.out.below hb1)
  have HZ := Lib.hid (HR0.out.below hb1)
  clear hb1 HB0 HQ0 HR0
  have q0 := HX.out.cell 0 _ rfl
  have q1 := HX.out.cell 1 _ rfl
  have r0 := HZ.out.cell 0 _ rfl
  have r1 := HZ.out.cell 1 _ rfl
  have r2 := HZ.out.cell 2 _ rfl
  have r3 := HZ.out.cell 3 _ rfl
  have rf := HZ.out.frozen
  have zl := HX.out.lt
  have zl1 := HZ.out.lt
  by_cases hid : 1 ≤ id ∧ id ≤ q.js.length
  · obtain ⟨k, rfl⟩ : ∃ k : Nat, id = k + 1 := ⟨(id - 1).toNat, by omega⟩
    have hk : k < q.js.length := by omega
    obtain ⟨j, hj⟩ : ∃ j, q.js[k]? = some j := ⟨_, List.getElem?_eq_getElem hk⟩
    obtain ⟨ad, hja, h0, h1, h2, h3, h4, h5, h6, h7, h8, h9, h10⟩ := (HQ.out.below HB.out.out).job k hk j hj
    cases hja
    have hS := Lib.hid (changeS_at (startF q dev) hj)
    have hok := HR.out.fine.jobs j (List.mem_of_getElem? hj)
    have HOK := Lib.hid hok; clear hok
    rw [wi_t (show 1 ≤ (k : Int) + 1 by omega) (show (k : Int) + 1 ≤ q.js.length by omega)]
    clear hid
    have HJ := Lib.hid hj; clear hj
    by_cases d0 : dev < 0
    · have e1 : decide (dev < 0) = true := by simpa using d0
      have HS := Lib.hid (show changeS q ((k : Int) + 1) (startF q dev) = (q, 1) by rw [hS.out, show startF q dev j = (1, j) by rw [startF, if_neg (fun h => by omega)]]; rfl)
      clear hS
      go_wp2
      rw [HS.out]
      refine bodyPost_ret (results_done rfl _ _ (w.heap.size + 1) _ rfl rfl ((HZ.out.put (Qv.dcells ⟨qa, qc, some ad, jc⟩ q 0 1) rfl).alloc _)) rfl ?_
      exact fin45a (v' := ⟨qa, qc, some ad, jc⟩) (q' := q) (i := 0) (x := 1) HB.out HZ.out (Nat.le_succ _) ((HQ.out.below HB.out.out).put HZ.out t45 0 _) _
    · have e1 : decide (dev < 0) = false := by simpa using d0
      by_cases d1 : 99 < dev
      · have e2 : decide (99 < dev) = true := by simpa using d1
        have HS := Lib.hid (show changeS q ((k : Int) + 1) (startF q dev) = (q, 1) by rw [hS.out, show startF q dev j = (1, j) by rw [startF, if_neg (fun h => by omega)]]; rfl)
        clear hS
        go_wp2
        rw [HS.out]
        refine bodyPost_ret (results_done rfl _ _ (w.heap.size + 1) _ rfl rfl ((HZ.out.put (Qv.dcells ⟨qa, qc, some ad, jc⟩ q 0 1) rfl).alloc _)) rfl ?_
        exact fin45a (v' := ⟨qa, qc, some ad, jc⟩) (q' := q) (i := 0) (x := 1) HB.out HZ.out (Nat.le_succ _) ((HQ.out.below HB.out.out).put HZ.out t45 0 _) _
      · have e2 : decide (99 < dev) = false := by simpa using d1
        have HD := Lib.hid (show 0 ≤ dev ∧ dev ≤ 99 from ⟨by omega, by omega⟩)
        clear d0 d1
        go_wp2_with fail
        refine (HT.out _ (HQ.out.below (ba_ HB.out (.cells #[.int .i64 j.id, .int .i64 j.tn, .int .i64 j.pr, .int .i64 j.kn, .int .i64 j.bd, .int .i64 j.im.g, .slice j.im.ar.a j.im.ar.n j.im.ar.c, .slice j.im.gl.a j.im.gl.n j.im.gl.c, .slice j.im.gr.a j.im.gr.n j.im.gr.c, .int .i64 j.st, .int .i64 j.av] 40)).out)).mono ?_
        rintro e w2 ⟨rfl, hb2⟩
        have HB2 := Lib.hid (kb_ (ba_ HB.out (.cells #[.int .i64 j.id, .int .i64 j.tn, .int .i64 j.pr, .int .i64 j.kn, .int .i64 j.bd, .int .i64 j.im.g, .slice j.im.ar.a j.im.ar.n j.im.ar.c, .slice j.im.gl.a j.im.gl.n j.im.gl.c, .slice j.im.gr.a j.im.gr.n j.im.gr.c, .int .i64 j.st, .int .i64 j.av] 40)) hb2)
        have HX2 := Lib.hid ((HX.out.alloc (.cells #[.int .i64 j.id, .int .i64 j.tn, .int .i64 j.pr, .int .i64 j.kn, .int .i64 j.bd, .int .i64 j.im.g, .slice j.im.ar.a j.im.ar.n j.im.ar.c, .slice j.im.gl.a j.im.gl.n j.im.gl.c, .slice j.im.gr.a j.im.gr.n j.im.gr.c, .int .i64 j.st, .int .i64 j.av] 40)).below hb2)
        have HZ2 := Lib.hid ((HZ.out.alloc (.cells #[.int .i64 j.id, .int .i64 j.tn, .int .i64 j.pr, .int .i64 j.kn, .int .i64 j.bd, .int .i64 j.im.g, .slice j.im.ar.a j.im.ar.n j.im.ar.c, .slice j.im.gl.a j.im.gl.n j.im.gl.c, .slice j.im.gr.a j.im.gr.n j.im.gr.c, .int .i64 j.st, .int .i64 j.av] 40)).below hb2)
        have HJB : Hid (Box40 w2 w1.heap.size j) := Box40.below (heap_alloc_new w1 (.cells #[.int .i64 j.id, .int .i64 j.tn, .int .i64 j.pr, .int .i64 j.kn, .int .i64 j.bd, .int .i64 j.im.g, .slice j.im.ar.a j.im.ar.n j.im.ar.c, .slice j.im.gl.a j.im.gl.n j.im.gl.c, .slice j.im.gr.a j.im.gr.n j.im.gr.c, .int .i64 j.st, .int .i64 j.av] 40)) hb2
        clear hb2 q0 q1 r0 r1 r2 r3 rf h0 h1 h2 h3 h4 h5 h6 h7 h8 h9 h10
        have q0 := HX2.out.cell 0 _ rfl
        have q1 := HX2.out.cell 1 _ rfl
        have r0 := HZ2.out.cell 0 _ rfl
        have r1 := HZ2.out.cell 1 _ rfl
        have r2 := HZ2.out.cell 2 _ rfl
        have r3 := HZ2.out.cell 3 _ rfl
        have rf := HZ2.out.frozen
        cases hany : q.js.any (hasD dev) with
        | true =>
          have HS := Lib.hid (show changeS q ((k : Int) + 1) (startF q dev) = (q, 1) by rw [hS.out, show startF q dev j = (1, j) by rw [startF, if_neg (fun h => by rw [hany] at h; cases h.2)]]; rfl)
          clear hS hany
          go_wp2
          rw [HS.out]
          refine bodyPost_ret (results_done rfl _ _ (w.heap.size + 1) _ rfl rfl (HZ2.out.put (Qv.dcells ⟨qa, qc, some ad, jc⟩ q 0 1) rfl)) rfl ?_
          exact fin45 (v' := ⟨qa, qc, some ad, jc⟩) (q' := q) (i := 0) (x := 1) HB2.out HZ2.out (Nat.le_succ _) ((HQ.out.below HB2.out.out).put HZ2.out t45 0 _)
        | false =>
          obtain ⟨t0, t1, t2, t3, t4, t5, t6, t7, t8, t9, t10⟩ := HJB.out.cell
          have zj := HJB.out.lt
          by_cases c1 : j.st = 1
          · have e3 : (j.st != 1) = false := by simpa using c1
            have C1 := Lib.hid c1; clear c1
            have HANY := Lib.hid hany; clear hany
            go_wp2_with fail
            refine (HRD.out j _ (HQ.out.below HB2.out.out) HOK.out).mono ?_
            rintro e w3 ⟨rfl, hb3⟩
            have HB3 := Lib.hid (kb_ HB2.out hb3)
            have HX3 := Lib.hid (HX2.out.below hb3)
            have HZ3 := Lib.hid (HZ2.out.below hb3)
            have HJB3 := Lib.hid (HJB.out.below hb3)
            have zz := hb3.size
            clear hb3 q0 q1 r0 r1 r2 r3 rf t0 t1 t2 t3 t4 t5 t6 t7 t8 t9 t10
            have q0 := HX3.out.cell 0 _ rfl
            have q1 := HX3.out.cell 1 _ rfl
            cases hr : rdy q j with
            | false =>
              have r0 := HZ3.out.cell 0 _ rfl
              have r1 := HZ3.out.cell 1 _ rfl
              have r2 := HZ3.out.cell 2 _ rfl
              have r3 := HZ3.out.cell 3 _ rfl
              have rf := HZ3.out.frozen
              have HS := Lib.hid (show changeS q ((k : Int) + 1) (startF q dev) = (q, 410) by rw [hS.out, show startF q dev j = (410, j) by rw [startF, if_pos ⟨HD.out, HANY.out⟩, if_pos C1.out, if_neg (by rw [hr]; simp)]]; rfl)
              clear hS hr
              go_wp2
              rw [HS.out]
              refine bodyPost_ret (results_done rfl _ _ (w.heap.size + 1) _ rfl rfl (HZ3.out.put (Qv.dcells ⟨qa, qc, some ad, jc⟩ q 0 410) rfl)) rfl ?_
              exact fin45 (v' := ⟨qa, qc, some ad, jc⟩) (q' := q) (i := 0) (x := 410) HB3.out HZ3.out (Nat.le_succ _) ((HQ.out.below HB3.out.out).put HZ3.out t45 0 _)
            | true =>
              have HS := Lib.hid (show changeS q ((k : Int) + 1) (startF q dev) = ({ q with js := q.js.set k { j with st := 2, av := dev } }, 0) by rw [hS.out, show startF q dev j = (0, { j with st := 2, av := dev }) by rw [startF, if_pos ⟨HD.out, HANY.out⟩, if_pos C1.out, if_pos hr]]; rfl)
              clear hS hr
              obtain ⟨t0, t1, t2, t3, t4, t5, t6, t7, t8, t9, t10⟩ := HJB3.out.cell
              have jf := HJB3.out.frozen
              have nj0 : w1.heap.size ≠ w.heap.size := by omega
              have nj1 : w1.heap.size ≠ w.heap.size + 1 := by omega
              go_wp2_with fail
              have hw := fun W hq => with_calls ⟨qa, qc, some ad, jc⟩ q { j with st := 2, av := dev } k W hq hl hk (HR.out.ids k j HJ.out)
              generalize ({ q with js := q.js.set k { j with st := 2, av := dev } } : Qu) = q' at hw HS
              have hww : w.heap.size ≤ w1.heap.size := by omega
              have HB4 := bs_ (bs_ HB3.out (p := ⟨w1.heap.size, 9, none⟩) hww (.int .i64 2)) (p := ⟨w1.heap.size, 10, none⟩) hww (.int .i64 dev)
              refine (hw _ (HQ.out.below HB4.out)).mono ?_
              clear hw
              rintro e w4 ⟨v', rfl, hq2, hb2⟩
              have HL2 := Lib.hid (kb_ HB4 hb2)
              have HZ4 := Lib.hid (((HZ3.out.far (Ne.symm nj1) 9 (.int .i64 2)).far (Ne.symm nj1) 10 (.int .i64 dev)).below hb2)
              have HQ2 := Lib.hid hq2
              clear hq2 hb2 q0 q1 t0 t1 t2 t3 t4 t5 t6 t7 t8 t9 t10 jf HB4
              have r0 := HZ4.out.cell 0 _ rfl
              have r1 := HZ4.out.cell 1 _ rfl
              have r2 := HZ4.out.cell 2 _ rfl
              have r3 := HZ4.out.cell 3 _ rfl
              have rf := HZ4.out.frozen
              unfold Qv.done
              go_wp2
              rw [HS.out]
              refine bodyPost_ret (results_done rfl _ _ (w.heap.size + 1) _ rfl rfl (HZ4.out.put (v'.dcells q' 0 0) rfl)) rfl ?_
              exact fin45 HL2.out HZ4.out (Nat.le_succ _) (HQ2.out.put HZ4.out t45 0 _)
          · have e3 : (j.st != 1) = true := by simpa using c1
            have HS := Lib.hid (show changeS q ((k : Int) + 1) (startF q dev) = (q, 430) by rw [hS.out, show startF q dev j = (430, j) by rw [startF, if_pos ⟨HD.out, hany⟩, if_neg c1]]; rfl)
            clear hS hany c1
            go_wp2
            rw [HS.out]
            refine bodyPost_ret (results_done rfl _ _ (w.heap.size + 1) _ rfl rfl (HZ2.out.put (Qv.dcells ⟨qa, qc, some ad, jc⟩ q 0 430) rfl)) rfl ?_
            exact fin45 (v' := ⟨qa, qc, some ad, jc⟩) (q' := q) (i := 0) (x := 430) HB2.out HZ2.out (Nat.le_succ _) ((HQ.out.below HB2.out.out).put HZ2.out t45 0 _)
  · have HS := Lib.hid (changeS_no (f := startF q dev) hid)
    rw [show wi id 1 q.js.length = false from wi_f (by omega)]
    clear hid
    go_wp2
    rw [HS.out]
    refine bodyPost_ret (results_done rfl _ _ (w.heap.size + 1) _ rfl rfl (HZ.out.put (Qv.dcells ⟨qa, qc, ja, jc⟩ q 0 411) rfl)) rfl ?_
    exact fin45 HB.out HZ.out (Nat.le_succ _) (HQ.out.below (below_setCells (w := 0) (g := w.heap.size + 1) _ 0 w w1 HB.out.out (Nat.le_succ _)))
end Go.Proofs.Ytopmdgheacjkcaa
