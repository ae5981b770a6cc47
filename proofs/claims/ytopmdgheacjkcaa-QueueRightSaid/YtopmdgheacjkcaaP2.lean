/- What the program's Right keeps: the used bounds, and the set of devices; plain laws. -/
import Derived.Test.YtopmdgheacjkcaaT30
import Derived.Maps.OwnSet
set_option linter.unusedVariables false
set_option linter.unusedSimpArgs false
namespace Go.Proofs.Ytopmdgheacjkcaa
open Go.Maps
/-- What each tenant uses of the first k jobs. -/
def uL (q : Qu) (k : Nat) : List Value := (List.range q.qs.length).map fun t : Nat => Value.int .i64 (used (t : Int) (q.js.take k))
theorem uL_get {q : Qu} {k t : Nat} (ht : t < q.qs.length) : (uL q k)[t]? = some (.int .i64 (used t (q.js.take k))) := by
  simp [uL, ht]
theorem uL_zero (q : Qu) : uL q 0 = List.replicate q.qs.length (.int .i64 0) := by
  apply List.ext_getElem?
  intro i
  by_cases hi : i < q.qs.length
  · rw [uL_get hi]; simp [hi, used]
  · simp [uL, hi]
theorem uL_same {q : Qu} {k : Nat} {j : J} (hj : q.js[k]? = some j) (hs : j.st ≠ 2) : uL q (k + 1) = uL q k := by
  unfold uL
  apply List.map_congr_left
  intro t _
  rw [used_take t q.js k j hj, useOf, if_neg (fun h => hs h.2), Int.add_zero]
theorem uL_set {q : Qu} {k t : Nat} {j : J} (hj : q.js[k]? = some j) (hs : j.st = 2) (ht : j.tn = t) (htl : t < q.qs.length) : (uL q k).set t (.int .i64 (used t (q.js.take k) + j.bd)) = uL q (k + 1) := by
  apply List.ext_getElem?
  intro i
  by_cases hi : i < q.qs.length
  · rw [uL_get hi, List.getElem?_set]
    by_cases e : t = i
    · subst e
      rw [if_pos rfl, if_pos (by simpa [uL] using htl), used_take _ q.js k j hj, useOf, if_pos ⟨ht, hs⟩]
    · rw [if_neg e, uL_get hi, used_take _ q.js k j hj, useOf, if_neg (fun h => e (by have := h.1; omega)), Int.add_zero]
  · rw [List.getElem?_set]
    rw [if_neg (by omega)]
    simp [uL, hi]
theorem used_take_le (t : Int) (l : List J) (k : Nat) (h : ∀ j ∈ l, 0 ≤ j.bd) : used t (l.take k) ≤ used t l := by
  have e : l = l.take k ++ l.drop k := (List.take_append_drop k l).symm
  have h0 : ∀ (m : List J), (∀ j ∈ m, 0 ≤ j.bd) → 0 ≤ used t m := by
    intro m
    induction m with
    | nil => intro _; simp [used]
    | cons x r ih =>
      intro hm
      have h1 := ih fun j hj => hm j (List.mem_cons_of_mem _ hj)
      have h2 := hm x (List.mem_cons_self ..)
      simp only [used, useOf]
      split <;> omega
  have h1 := h0 (l.drop k) fun j hj => h j (List.mem_of_mem_drop hj)
  have h2 : used t l = used t (l.take k) + used t (l.drop k) := by rw [← used_append, List.take_append_drop]
  omega
/-- The devices of the first k jobs that run. -/
def devD (q : Qu) : Nat → DataW Unit
  | 0 => .map []
  | k + 1 => match q.js[k]? with
    | some j => if j.st = 2 then (devD q k).put (.int .i64 j.av) (.lit (.bool true)) else devD q k
    | none => devD q k
theorem devD_run {q : Qu} {k : Nat} {j : J} (hj : q.js[k]? = some j) (hs : j.st = 2) : devD q (k + 1) = (devD q k).put (.int .i64 j.av) (.lit (.bool true)) := by
  rw [devD, hj]
  simp only [hs, if_true]
theorem devD_same {q : Qu} {k : Nat} {j : J} (hj : q.js[k]? = some j) (hs : j.st ≠ 2) : devD q (k + 1) = devD q k := by
  rw [devD, hj]
  simp only [hs, if_false]
theorem devD_map (q : Qu) : ∀ k, IsMap (devD q k)
  | 0 => isMap_empty
  | k + 1 => by
    rw [devD]
    split
    · split
      · exact (devD_map q k).put _ _
      · exact devD_map q k
    · exact devD_map q k
theorem dev_at (q : Qu) (a : Int) : ∀ k, k ≤ q.js.length → (devD q k).atKey (.int .i64 a) (.lit (.bool false)) = .lit (.bool ((q.js.take k).any (hasD a)))
  | 0, _ => by simp [devD, DataW.atKey]
  | k + 1, hk => by
    have ih := dev_at q a k (by omega)
    obtain ⟨j, hj⟩ : ∃ j, q.js[k]? = some j := ⟨_, List.getElem?_eq_getElem (show k < q.js.length by omega)⟩
    have htk : q.js.take (k + 1) = q.js.take k ++ [j] := by
      obtain ⟨hk', rfl⟩ := List.getElem?_eq_some_iff.1 hj
      exact List.take_succ_eq_append_getElem hk'
    rw [htk, List.any_append]
    by_cases hs : j.st = 2
    · rw [devD_run hj hs]
      by_cases ha : j.av = a
      · subst ha
        rw [atKey_put_same (devD_map q k) (by simp [WideAt.IsKeyLit])]
        simp [hasD, hs]
      · rw [atKey_put_other (fun h => ha (by injection h with _ h; exact h.symm)), ih]
        simp [hasD, hs, ha]
    · rw [devD_same hj hs, ih]
      simp [hasD, hs]
theorem plainElem_bool_inv {v : Value} {b : Bool} {ps : List MemPlace} (h : plainElem (H := Unit) Try.prog 4 v = some (.lit (.bool b), ps)) : v = .bool b := by
  unfold plainElem at h
  rw [Try.underlying4] at h
  cases v <;> simp at h
  rw [h.1]
theorem look_dev {w : World} {M n : Nat} {q : Qu} {k : Nat} (h : w.ownsMap Try.prog 3 (plainElem (H := Unit) Try.prog 4) M n (devD q k)) (hk : k ≤ q.js.length) (a : Int) (ha : 0 ≤ a ∧ a ≤ 99) :
    (Instr.lookup 65 (.map (some M)) (.int .i64 a) false).run Try.prog w = .ok (.bool ((q.js.take k).any (hasD a))) w := by
  have hw : (Lit.int .i64 a).wf = true := by
    have h1 : IntKind.i64.min = -9223372036854775808 := by decide
    have h2 : IntKind.i64.max = 9223372036854775807 := by decide
    simp only [Lit.wf, h1, h2, Bool.and_eq_true, decide_eq_true_eq]; omega
  obtain ⟨v, ps, hrun, hv⟩ := h.lookup (int_keyed Try.underlying3) Try.underlying65 (z := .bool false) (by kernel_rfl) (plainElem_bool Try.underlying4 false) (keyOf_int_mk Try.underlying3 hw)
  rw [dev_at q a k hk] at hv
  rw [hrun, plainElem_bool_inv hv]
end Go.Proofs.Ytopmdgheacjkcaa
