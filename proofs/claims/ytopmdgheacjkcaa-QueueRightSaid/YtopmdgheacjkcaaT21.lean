/- The reference's Submit. -/
import Derived.Test.YtopmdgheacjkcaaT13
import Derived.Test.YtopmdgheacjkcaaT16
set_option linter.unusedVariables false
set_option linter.unusedSimpArgs false
namespace Go.Proofs.Ytopmdgheacjkcaa
open Go.RowKit
theorem tenB_wi (q : Qu) (t : Int) : tenB q t = wi t 0 ((q.qs.length : Int) - 1) := by
  unfold tenB wi
  congr 1
  rw [decide_eq_decide]; omega
/-- Which of the tests refuses. -/
theorem argOk_bad {q : Qu} {j : J} (h : argOk q j = false) : tenB q j.tn = false ∨ (tenB q j.tn = true ∧ (decide (j.pr < 0) = true ∨ (decide (j.pr < 0) = false ∧ (decide (9 < j.pr) = true ∨ (decide (9 < j.pr) = false ∧
    (decide (j.kn < 0) = true ∨ (decide (j.kn < 0) = false ∧ (decide (j.bd < 0) = true ∨ (decide (j.bd < 0) = false ∧ decide (1099511627776 < j.bd) = true))))))))) := by
  rw [tenB_wi]
  unfold argOk at h
  cases c1 : wi j.tn 0 ((q.qs.length : Int) - 1)
  · exact .inl rfl
  · refine .inr ⟨rfl, ?_⟩
    rw [c1] at h
    simp only [wi, Bool.true_and, Bool.and_eq_false_iff, Bool.not_eq_eq_eq_not, decide_eq_true_eq, decide_eq_false_iff_not] at h ⊢
    simp at h
    omega
theorem argOk_good {q : Qu} {j : J} (h : argOk q j = true) : tenB q j.tn = true ∧ decide (j.pr < 0) = false ∧ decide (9 < j.pr) = false ∧ decide (j.kn < 0) = false ∧ decide (j.bd < 0) = false ∧ decide (1099511627776 < j.bd) = false := by
  rw [tenB_wi]
  unfold argOk at h
  simp only [Bool.and_eq_true] at h
  obtain ⟨⟨⟨h1, h2⟩, h3⟩, h4⟩ := h
  refine ⟨h1, ?_⟩
  have h2 := wi_true h2
  have h4 := wi_true h4
  simp at h3
  simp only [decide_eq_false_iff_not]
  omega
set_option maxHeartbeats 4000000 in
set_option maxRecDepth 100000 in
theorem rsubmit_bad (v : Qv) (q : Qu) (j : J) (w : World) (hq : QIn w v q) (hql : q.qs.length ≤ 1000) (hA : argOk q j = false) : Calls Try.prog 28 #[v.val q, j.val] w (RetD q 0 1 w) := by
  obtain ⟨qa, qc, ja, jc⟩ := v
  obtain ⟨id, tn, pr, kn, bd, im, st, av⟩ := j
  have ht := fun W => tenant_calls ⟨qa, qc, ja, jc⟩ q tn W hql
  unfold Qv.val at ht ⊢
  unfold J.val
  have HC := Lib.hid (argOk_bad hA)
  have HT := Lib.hid ht; clear ht hA
  have HQ := Lib.hid hq; clear hq
  have hb0 := ba_ (ba_ (ba_ (b0_ w) (.cells #[.slice qa q.qs.length qc, .slice ja q.js.length jc] 29)) (.cells (J.cells ⟨id, tn, pr, kn, bd, im, st, av⟩).toArray 40)) (.cells #[.slice none 0 0, .slice none 0 0, .int .i64 0, .int .i64 0] 45)
  have hq0 := Blk.alloc (Blk.alloc (Blk.new w 29 [.slice qa q.qs.length qc, .slice ja q.js.length jc]) (.cells (J.cells ⟨id, tn, pr, kn, bd, im, st, av⟩).toArray 40)) (.cells #[.slice none 0 0, .slice none 0 0, .int .i64 0, .int .i64 0] 45)
  have hj0 := Blk.alloc (Blk.new (w.alloc (.cells #[.slice qa q.qs.length qc, .slice ja q.js.length jc] 29)) 40 (J.cells ⟨id, tn, pr, kn, bd, im, st, av⟩)) (.cells #[.slice none 0 0, .slice none 0 0, .int .i64 0, .int .i64 0] 45)
  have hr0 := Blk.new ((w.alloc (.cells #[.slice qa q.qs.length qc, .slice ja q.js.length jc] 29)).alloc (.cells (J.cells ⟨id, tn, pr, kn, bd, im, st, av⟩).toArray 40)) 45 [.slice none 0 0, .slice none 0 0, .int .i64 0, .int .i64 0]
  simp only [World.size_alloc] at hj0 hr0
  have HB0 := Lib.hid hb0; have HQ0 := Lib.hid hq0; have HJ0 := Lib.hid hj0; have HR0 := Lib.hid hr0
  clear hb0 hq0 hj0 hr0
  go_enter Try.func28, Try.ntmps28
  go_wp2_with fail
  refine (HT.out _).mono ?_
  rintro e w1 ⟨rfl, hb1⟩
  have HB := Lib.hid (kb_ HB0.out hb1)
  have HX := Lib.hid (HQ0.out.below hb1)
  have HY := Lib.hid (HJ0.out.below hb1)
  have HZ := Lib.hid (HR0.out.below hb1)
  clear hb1 HB0 HQ0 HJ0 HR0 HT
  have q0 := HX.out.cell 0 _ rfl
  have q1 := HX.out.cell 1 _ rfl
  have r0 := HZ.out.cell 0 _ rfl
  have r1 := HZ.out.cell 1 _ rfl
  have r2 := HZ.out.cell 2 _ rfl
  have r3 := HZ.out.cell 3 _ rfl
  have rf := HZ.out.frozen
  have t2 : w1.cell? ⟨w.heap.size + 1, 2, none⟩ = some (.int .i64 pr) := HY.out.cell 2 _ rfl
  have t3 : w1.cell? ⟨w.heap.size + 1, 3, none⟩ = some (.int .i64 kn) := HY.out.cell 3 _ rfl
  have t4 : w1.cell? ⟨w.heap.size + 1, 4, none⟩ = some (.int .i64 bd) := HY.out.cell 4 _ rfl
  rcases HC.out with c1 | ⟨c1, c2 | ⟨c2, c3 | ⟨c3, c4 | ⟨c4, c5 | ⟨c5, c6⟩⟩⟩⟩⟩
  all_goals
    clear HC
    rw [c1]
    clear c1
    go_wp2
    refine bodyPost_ret (results_done rfl _ _ (w.heap.size + 1 + 1) _ rfl rfl (HZ.out.put (Qv.dcells ⟨qa, qc, ja, jc⟩ q 0 1) rfl)) rfl ?_
    exact fin45 (v' := ⟨qa, qc, ja, jc⟩) (q' := q) (i := 0) (x := 1) HB.out HZ.out (Nat.le_succ_of_le (Nat.le_succ _)) ((HQ.out.below HB.out.out).put HZ.out t45 0 _)
end Go.Proofs.Ytopmdgheacjkcaa
