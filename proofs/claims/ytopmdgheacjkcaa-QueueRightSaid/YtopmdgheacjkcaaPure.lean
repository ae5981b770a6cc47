/- The plain functions of a queue. -/
import Derived.Test.YtopmdgheacjkcaaRep
namespace Go.Proofs.Ytopmdgheacjkcaa
/-- What one job adds to what a tenant uses. -/
def useOf (t : Int) (j : J) : Int := if j.tn = t ∧ j.st = 2 then j.bd else 0
def used (t : Int) : List J → Int
  | [] => 0
  | j :: l => useOf t j + used t l
theorem used_append (t : Int) (a b : List J) : used t (a ++ b) = used t a + used t b := by
  induction a with
  | nil => simp [used]
  | cons x l ih => simp only [List.cons_append, used, ih]; omega
theorem used_take (t : Int) (l : List J) (k : Nat) (j : J) (h : l[k]? = some j) : used t (l.take (k + 1)) = used t (l.take k) + useOf t j := by
  obtain ⟨hk, rfl⟩ := List.getElem?_eq_some_iff.1 h
  rw [List.take_succ_eq_append_getElem hk, used_append]
  simp [used]
def Small (l : List J) : Prop := l.length ≤ 1000 ∧ ∀ j ∈ l, 0 ≤ j.bd ∧ j.bd ≤ 1099511627776
theorem used_bd (t : Int) (l : List J) (h : ∀ j ∈ l, 0 ≤ j.bd ∧ j.bd ≤ 1099511627776) : 0 ≤ used t l ∧ used t l ≤ 1099511627776 * l.length := by
  induction l with
  | nil => simp [used]
  | cons x l ih =>
    have h1 := ih fun j hj => h j (List.mem_cons_of_mem _ hj)
    have h2 := h x (List.mem_cons_self ..)
    simp only [used, useOf, List.length_cons]
    split <;> omega
theorem Small.take {l : List J} (h : Small l) (k : Nat) (t : Int) : 0 ≤ used t (l.take k) ∧ used t (l.take k) ≤ 1099511627776000 := by
  have h1 := used_bd t (l.take k) fun j hj => h.2 j (List.mem_of_mem_take hj)
  have h2 : (l.take k).length ≤ 1000 := Nat.le_trans (List.length_take_le' ..) h.1
  omega
end Go.Proofs.Ytopmdgheacjkcaa
