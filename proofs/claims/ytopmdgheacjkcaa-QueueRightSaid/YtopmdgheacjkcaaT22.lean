/- The program's job: whether a job is as it has to be. -/
import Derived.Test.YtopmdgheacjkcaaT21
import Derived.BigQuiet
set_option linter.unusedVariables false
set_option linter.unusedSimpArgs false
namespace Go.Proofs.Ytopmdgheacjkcaa
open Go.RowKit
/-- A call that tells whether P. -/
def RetB (P : Prop) (w : World) (e : Ending) (w' : World) : Prop := ∃ b : Bool, (b = true ↔ P) ∧ e = .returned (.bool b) ∧ Below w.heap.size w w'
/-- A job is as it has to be. -/
def JobOk (q : Qu) (i : Nat) (j : J) : Prop := j.id = (i : Int) + 1 ∧ (0 ≤ j.tn ∧ j.tn < q.qs.length) ∧ (0 ≤ j.pr ∧ j.pr ≤ 9) ∧ 0 ≤ j.kn ∧ (0 ≤ j.bd ∧ j.bd ≤ quo q j.tn) ∧ (1 ≤ j.st ∧ j.st ≤ 4) ∧ (j.st = 2 → 0 ≤ j.av ∧ j.av ≤ 99) ∧ (j.st ≠ 2 → j.av = -1)
theorem wi_iff (n lo hi : Int) : wi n lo hi = true ↔ lo ≤ n ∧ n ≤ hi := by simp [wi]
theorem wi_not {n lo hi : Int} (h : wi n lo hi = false) : ¬ (lo ≤ n ∧ n ≤ hi) := by rw [← wi_iff, h]; simp
theorem retB_no {P : Prop} {w w' : World} (h : ¬ P) (hb : Below w.heap.size w w') : RetB P w (.returned (.bool false)) w' := ⟨false, by simp [h], rfl, hb⟩
theorem retB_yes {P : Prop} {w w' : World} (h : P) (hb : Below w.heap.size w w') : RetB P w (.returned (.bool true)) w' := ⟨true, by simp [h], rfl, hb⟩
set_option maxHeartbeats 2000000 in
set_option maxRecDepth 100000 in
theorem pjob_calls (v : Qv) (q : Qu) (i : Nat) (j : J) (w : World) (hq : QIn w v q) (hql : q.qs.length ≤ 1000) (hi : i ≤ 1000) : Calls Try.prog 32 #[v.val q, .int .i64 i, j.val] w (RetB (JobOk q i j) w) := by
  obtain ⟨qa, qc, ja, jc⟩ := v
  unfold Qv.val J.val
  have hb0 := (ba_ (ba_ (b0_ w) (.cells #[.slice qa q.qs.length qc, .slice ja q.js.length jc] 29)) (.cells j.cells.toArray 40))
  have HB := Lib.hid hb0; clear hb0
  have HQ := Lib.hid hq; clear hq
  by_cases a1 : j.id = (i : Int) + 1
  · cases c1 : wi j.tn 0 ((q.qs.length : Int) - 1) with
    | false =>
      have HN := Lib.hid (show ¬ JobOk q i j from fun h => wi_not c1 (by have := h.2.1; omega))
      have e1 : (j.id != (i : Int) + 1) = false := by simpa using a1
      clear a1
      go_enter Try.func32, Try.ntmps32
      go_wp2_with (go_at_call 31; refine (within_calls _ _ _ _).mono ?_; rintro e w' ⟨rfl, rfl⟩)
      go_ret
      exact retB_no HN.out HB.out.out
    | true =>
      cases c2 : wi j.pr 0 9 with
      | false =>
        have HN := Lib.hid (show ¬ JobOk q i j from fun h => wi_not c2 h.2.2.1)
        have e1 : (j.id != (i : Int) + 1) = false := by simpa using a1
        clear a1
        go_enter Try.func32, Try.ntmps32
        go_wp2_with (go_at_call 31; refine (within_calls _ _ _ _).mono ?_; rintro e w' ⟨rfl, rfl⟩)
        go_ret
        exact retB_no HN.out HB.out.out
      | true =>
        cases c3 : decide (j.kn < 0) with
        | true =>
          have HN := Lib.hid (show ¬ JobOk q i j from fun h => by have := h.2.2.2.1; have := of_decide_eq_true c3; omega)
          have e1 : (j.id != (i : Int) + 1) = false := by simpa using a1
          clear a1
          go_enter Try.func32, Try.ntmps32
          go_wp2_with (go_at_call 31; refine (within_calls _ _ _ _).mono ?_; rintro e w' ⟨rfl, rfl⟩)
          go_ret
          exact retB_no HN.out HB.out.out
        | false =>
          have hb := wi_true c1
          obtain ⟨ad, e, hcell⟩ := HQ.out.qcell j.tn hb.1 (by omega)
          have hlt : (ad.add j.tn.toNat).block < w.heap.size := World.block_lt_of_cell? w _ hcell
          have hc3 := fun A B => ((ba_ (ba_ (b0_ w) A) B).out.cell hlt).trans hcell
          cases e
          have i0 : 0 ≤ j.tn := hb.1
          have i1 : j.tn < (q.qs.length : Int) := by omega
          have i2 := wi_true c2
          have i3 := of_decide_eq_false c3
          have HA := Lib.hid (show j.id = (i : Int) + 1 ∧ (0 ≤ j.tn ∧ j.tn < q.qs.length) ∧ (0 ≤ j.pr ∧ j.pr ≤ 9) ∧ 0 ≤ j.kn from ⟨a1, ⟨i0, i1⟩, i2, by omega⟩)
          have e1 : (j.id != (i : Int) + 1) = false := by simpa using a1
          clear a1 hb i2 i3
          cases c4 : wi j.bd 0 (quo q j.tn) with
          | false =>
            have HN := Lib.hid (show ¬ JobOk q i j from fun h => wi_not c4 h.2.2.2.2.1)
            go_enter Try.func32, Try.ntmps32
            go_wp2_with (go_at_call 31; refine (within_calls _ _ _ _).mono ?_; rintro e w' ⟨rfl, rfl⟩)
            go_quiet ((go_at_call 31; exact Calls.quiet_of_same ((within_calls _ _ _ _).mono fun e w' h => ⟨h.1, h.2.symm⟩)))
            go_wp2
            go_ret
            exact retB_no HN.out (pwdN HB.out nq)
          | true =>
            cases c5 : wi j.st 1 4 with
            | false =>
              have HN := Lib.hid (show ¬ JobOk q i j from fun h => wi_not c5 h.2.2.2.2.2.1)
              go_enter Try.func32, Try.ntmps32
              go_wp2_with (go_at_call 31; refine (within_calls _ _ _ _).mono ?_; rintro e w' ⟨rfl, rfl⟩)
              go_quiet ((go_at_call 31; exact Calls.quiet_of_same ((within_calls _ _ _ _).mono fun e w' h => ⟨h.1, h.2.symm⟩)))
              go_wp2
              go_ret
              exact retB_no HN.out (pwdN HB.out nq)
            | true =>
              by_cases h2 : j.st = 2
              · have HN := Lib.hid (show wi j.av 0 99 = true ↔ JobOk q i j from by
                  rw [wi_iff]
                  exact ⟨fun h => ⟨HA.out.1, HA.out.2.1, HA.out.2.2.1, HA.out.2.2.2, wi_true c4, wi_true c5, fun _ => h, fun h' => absurd h2 h'⟩, fun h => h.2.2.2.2.2.2.1 h2⟩)
                have e2 : (j.st == 2) = true := by simpa using h2
                clear h2
                go_enter Try.func32, Try.ntmps32
                go_wp2_with (go_at_call 31; refine (within_calls _ _ _ _).mono ?_; rintro e w' ⟨rfl, rfl⟩)
                go_quiet ((go_at_call 31; exact Calls.quiet_of_same ((within_calls _ _ _ _).mono fun e w' h => ⟨h.1, h.2.symm⟩)))
                go_wp2_with (go_at_call 31; refine (within_calls _ _ _ _).mono ?_; rintro e w' ⟨rfl, rfl⟩)
                go_ret
                exact ⟨_, HN.out, rfl, pwdN HB.out nq⟩
              · have HN := Lib.hid (show (j.av == -1) = true ↔ JobOk q i j from by
                  rw [beq_iff_eq]
                  exact ⟨fun h => ⟨HA.out.1, HA.out.2.1, HA.out.2.2.1, HA.out.2.2.2, wi_true c4, wi_true c5, fun h' => absurd h' h2, fun _ => h⟩, fun h => h.2.2.2.2.2.2.2 h2⟩)
                have e2 : (j.st == 2) = false := by simpa using h2
                clear h2
                go_enter Try.func32, Try.ntmps32
                go_wp2_with (go_at_call 31; refine (within_calls _ _ _ _).mono ?_; rintro e w' ⟨rfl, rfl⟩)
                go_quiet ((go_at_call 31; exact Calls.quiet_of_same ((within_calls _ _ _ _).mono fun e w' h => ⟨h.1, h.2.symm⟩)))
                go_wp2
                go_ret
                exact ⟨_, HN.out, rfl, pwdN HB.out nq⟩
  · have HN := Lib.hid (show ¬ JobOk q i j from fun h => a1 h.1)
    have e1 : (j.id != (i : Int) + 1) = true := by simpa using a1
    clear a1
    go_enter Try.func32, Try.ntmps32
    go_wp2
    go_ret
    exact retB_no HN.out HB.out.out
end Go.Proofs.Ytopmdgheacjkcaa
