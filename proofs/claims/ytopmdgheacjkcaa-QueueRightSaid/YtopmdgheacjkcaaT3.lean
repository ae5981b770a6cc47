/- ready. -/
import Derived.Test.YtopmdgheacjkcaaT1
import Derived.Test.YtopmdgheacjkcaaT2
set_option linter.unusedVariables false
set_option linter.unusedSimpArgs false
namespace Go.Proofs.Ytopmdgheacjkcaa
open Go.RowKit
/-- What is asked of the queue of which a job is asked whether it is ready. -/
def quo (q : Qu) (t : Int) : Int := q.qs.getD t.toNat 0
def rdy (q : Qu) (j : J) : Bool := decide (j.st = 1) && decide (j.bd + used j.tn q.js ≤ quo q j.tn)
theorem QIn.qcell {w : World} {v : Qv} {q : Qu} (h : QIn w v q) (t : Int) (h0 : 0 ≤ t) (h1 : t < q.qs.length) : ∃ ad, v.qa = some ad ∧ w.cell? (ad.add t.toNat) = some (.int .i64 (quo q t)) := by
  obtain ⟨ad, e, _, hc⟩ := h.quota (by simp; omega)
  have hc := hc t.toNat [.int .i64 (quo q t)] (by simp [quo, List.getElem?_eq_getElem (show t.toNat < q.qs.length by omega), List.getD_eq_getElem?_getD]) 0 _ rfl
  exact ⟨ad, e, by simpa using hc⟩
theorem i64w (x : Int) (h1 : -9223372036854775808 ≤ x) (h2 : x ≤ 9223372036854775807) : IntKind.i64.wrap x = x := IntWalk.i64_in _ ⟨h1, h2⟩
theorem Small.all {l : List J} (h : Small l) (t : Int) : 0 ≤ used t l ∧ used t l ≤ 1099511627776000 := by
  have h1 := h.take l.length t
  rwa [List.take_length] at h1
theorem pwdN {w W : World} (h : Hid (Below w.heap.size w W)) (n : Nat) : Below w.heap.size w (W.drewN n) := ⟨h.os, h.tape, h.output, h.size, h.block⟩
set_option maxHeartbeats 1000000 in
set_option maxRecDepth 100000 in
theorem ready_calls (v : Qv) (q : Qu) (j : J) (w : World) (hq : QIn w v q) (hs : Small q.js) (ht0 : 0 ≤ j.tn) (ht1 : j.tn < q.qs.length) (hb0 : 0 ≤ j.bd) (hb1 : j.bd ≤ 1099511627776) (hql : q.qs.length ≤ 1000) :
    Calls Try.prog 51 #[v.val q, j.val] w fun e w' => e = .returned (.bool (rdy q j)) ∧ Below w.heap.size w w' := by
  obtain ⟨qa, qc, ja, jc⟩ := v
  have hc := used_calls ⟨qa, qc, ja, jc⟩ q j.tn
  unfold Qv.val J.val
  unfold Qv.val at hc
  obtain ⟨ad, e, hcell⟩ := hq.qcell j.tn ht0 ht1
  cases e
  have HQ := Lib.hid hq; clear hq
  have HS := Lib.hid hs; clear hs
  have HC := Lib.hid hc; clear hc
  by_cases h : j.st = 1
  · have e1 : (j.st == 1) = true := beq_iff_eq.2 h
    clear h
    go_enter Try.func51, Try.ntmps51
    go_wp2
    go_region_held3 (fun w' => w'.cell? ⟨w.heap.size, 0, none⟩ = some (.slice (some ad) q.qs.length qc) ∧ w'.cell? ⟨w.heap.size, 1, none⟩ = some (.slice ja q.js.length jc) ∧
        w'.cell? ⟨w.heap.size + 1, 1, none⟩ = some (.int .i64 j.tn) ∧ w'.cell? ⟨w.heap.size + 1, 4, none⟩ = some (.int .i64 j.bd) ∧ w'.cell? ⟨w.heap.size + 1, 9, none⟩ = some (.int .i64 j.st) ∧ w'.cell? (ad.add j.tn.toNat) = some (.int .i64 (quo q j.tn)) ∧ Hid (Below w.heap.size w w'))
      (first | (go_split_ands; refine ⟨?_, ?_, ?_, ?_, ?_, ?_, ?_⟩ <;> first | exact kc_ hb (by assumption) | exact kb_ (by assumption) hb | exact bd_ (ba_ (ba_ (b0_ w) _) _) | (go_keep; done)))
      (first | (go_at_call 15; go_split_ands; refine (HC.out _ ?_ ?_).mono ?_; exact HQ.out.below (by assumption : Hid _).out; exact HS.out; rintro e w' ⟨rfl, hb⟩))
    go_wp2
    go_ret
    go_split_ands
    refine ⟨?_, (by assumption : Hid (Below w.heap.size w _)).out⟩
    have hu := HS.out.all j.tn
    show Ending.returned (.bool (decide (IntKind.i64.wrap (j.bd + used j.tn q.js) ≤ quo q j.tn))) = _
    rw [i64w (j.bd + used j.tn q.js) (by omega) (by omega)]
    simp [rdy, beq_iff_eq.1 e1]
  · have e1 : (j.st == 1) = false := beq_eq_false_iff_ne.2 h
    have hr : rdy q j = false := by simp [rdy, h]
    have HR := Lib.hid hr
    clear h hr
    go_enter Try.func51, Try.ntmps51
    go_wp2_with fail
    go_quiet (fail)
    go_wp2
    go_ret
    exact ⟨by rw [HR.out]; rfl, pwdN (ba_ (ba_ (b0_ w) _) _) _⟩
end Go.Proofs.Ytopmdgheacjkcaa
