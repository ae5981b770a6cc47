/- What an operation changes of what tenants use; plain laws. -/
import Derived.Test.YtopmdgheacjkcaaP3
set_option linter.unusedVariables false
set_option linter.unusedSimpArgs false
namespace Go.Proofs.Ytopmdgheacjkcaa
theorem quo_cases (q : Qu) (x : Raw) : (((doS q x).2.2 ≠ 0 ∨ x.k % 8 < 3) ∧ ∀ t, used t (doS q x).1.js = used t q.js) ∨
    ((doS q x).2.2 = 0 ∧ ¬ x.k % 8 < 3 ∧ ∃ (k : Nat) (j : J), x.a % 12 = (k : Int) + 1 ∧ q.js[k]? = some j ∧ (doS q x).1.js.length = q.js.length ∧
      (((x.k % 8 = 3 ∨ x.k % 8 = 4) ∧ ∀ t, used t (doS q x).1.js = used t q.js + if j.tn = t then j.bd else 0) ∨
       (¬ (x.k % 8 = 3 ∨ x.k % 8 = 4) ∧ j.st = 2 ∧ ∀ t, used t (doS q x).1.js = used t q.js - if j.tn = t then j.bd else 0) ∨
       (¬ (x.k % 8 = 3 ∨ x.k % 8 = 4) ∧ j.st ≠ 2 ∧ ∀ t, used t (doS q x).1.js = used t q.js))) := by
  have hch : ∀ (f : J → Int × J), ((chS q (x.a % 12) f).2.2 ≠ 0 ∧ (chS q (x.a % 12) f).1 = q) ∨ ∃ (k : Nat) (j : J), x.a % 12 = (k : Int) + 1 ∧ q.js[k]? = some j ∧ (f j).1 = 0 ∧ (chS q (x.a % 12) f).2.2 = 0 ∧ (chS q (x.a % 12) f).1 = { q with js := q.js.set k (f j).2 } := fun f => by
    rcases changeS_cases q (x.a % 12) f with ⟨e1, e2⟩ | ⟨k, j, e1, e2, e3, e4⟩
    · exact .inl ⟨e2, e1⟩
    · refine .inr ⟨k, j, e1, e2, e3, ?_, ?_⟩
      · show (changeS q (x.a % 12) f).2 = 0
        rw [e4]
      · show (changeS q (x.a % 12) f).1 = _
        rw [e4]
  have hleave : ∀ (f : J → Int × J), ¬ x.k % 8 < 3 → ¬ (x.k % 8 = 3 ∨ x.k % 8 = 4) → (∀ j, (f j).1 = 0 → (f j).2.tn = j.tn ∧ (f j).2.st ≠ 2) →
      (((chS q (x.a % 12) f).2.2 ≠ 0 ∨ x.k % 8 < 3) ∧ ∀ t, used t (chS q (x.a % 12) f).1.js = used t q.js) ∨
      ((chS q (x.a % 12) f).2.2 = 0 ∧ ¬ x.k % 8 < 3 ∧ ∃ (k : Nat) (j : J), x.a % 12 = (k : Int) + 1 ∧ q.js[k]? = some j ∧ (chS q (x.a % 12) f).1.js.length = q.js.length ∧
      (((x.k % 8 = 3 ∨ x.k % 8 = 4) ∧ ∀ t, used t (chS q (x.a % 12) f).1.js = used t q.js + if j.tn = t then j.bd else 0) ∨
       (¬ (x.k % 8 = 3 ∨ x.k % 8 = 4) ∧ j.st = 2 ∧ ∀ t, used t (chS q (x.a % 12) f).1.js = used t q.js - if j.tn = t then j.bd else 0) ∨
       (¬ (x.k % 8 = 3 ∨ x.k % 8 = 4) ∧ j.st ≠ 2 ∧ ∀ t, used t (chS q (x.a % 12) f).1.js = used t q.js))) := fun f h3 h34 hf => by
    rcases hch f with ⟨e1, e2⟩ | ⟨k, j, e1, e2, e3, e4, e5⟩
    · exact .inl ⟨.inl e1, fun t => by rw [e2]⟩
    · obtain ⟨f1, f2⟩ := hf j e3
      refine .inr ⟨e4, h3, k, j, e1, e2, by rw [e5]; simp, ?_⟩
      have hu : ∀ t, useOf t (f j).2 = 0 := fun t => by rw [useOf, if_neg (fun h => f2 h.2)]
      by_cases hs : j.st = 2
      · refine .inr (.inl ⟨h34, hs, fun t => ?_⟩)
        rw [e5]
        show used t (q.js.set k (f j).2) = _
        rw [used_set t q.js k j _ e2, hu, useOf]
        by_cases ht : j.tn = t
        · rw [if_pos ⟨ht, hs⟩, if_pos ht]; omega
        · rw [if_neg (fun h => ht h.1), if_neg ht]; omega
      · refine .inr (.inr ⟨h34, hs, fun t => ?_⟩)
        rw [e5]
        show used t (q.js.set k (f j).2) = _
        rw [used_set t q.js k j _ e2, hu, useOf, if_neg (fun h => hs h.2)]
        omega
  unfold doS
  by_cases c1 : x.k % 8 < 3
  · rw [if_pos c1]
    refine .inl ⟨.inr c1, fun t => ?_⟩
    unfold submitS
    split
    · split
      · rfl
      · split
        · rfl
        · show used t (q.js ++ [subJ q (jobR x)]) = _
          rw [used_append]
          have e : used t [subJ q (jobR x)] = 0 := by
            simp only [used]
            rw [useOf, if_neg (fun hh => by have : (1 : Int) = 2 := hh.2; omega)]
            omega
          omega
    · rfl
  · rw [if_neg c1]
    by_cases c2 : x.k % 8 < 5
    · rw [if_pos c2]
      rcases hch (startF q (x.b % 4)) with ⟨e1, e2⟩ | ⟨k, j, e1, e2, e3, e4, e5⟩
      · exact .inl ⟨.inl e1, fun t => by rw [e2]⟩
      · refine .inr ⟨e4, c1, k, j, e1, e2, by rw [e5]; simp, .inl ⟨by omega, fun t => ?_⟩⟩
        rw [e5]
        show used t (q.js.set k (startF q (x.b % 4) j).2) = _
        rw [used_set t q.js k j _ e2]
        have hs : j.st = 1 ∧ (startF q (x.b % 4) j).2 = { j with st := 2, av := x.b % 4 } := by
          unfold startF at e3 ⊢
          by_cases d1 : (0 ≤ x.b % 4 ∧ x.b % 4 ≤ 99) ∧ q.js.any (hasD (x.b % 4)) = false
          · rw [if_pos d1] at e3 ⊢
            by_cases d2 : j.st = 1
            · rw [if_pos d2] at e3 ⊢
              by_cases d3 : rdy q j = true
              · rw [if_pos d3]; exact ⟨d2, rfl⟩
              · rw [if_neg d3] at e3; exact absurd (show (410 : Int) = 0 from e3) (by decide)
            · rw [if_neg d2] at e3; exact absurd (show (430 : Int) = 0 from e3) (by decide)
          · rw [if_neg d1] at e3; exact absurd (show (1 : Int) = 0 from e3) (by decide)
        rw [hs.2, useOf, if_neg (fun h => by have := h.2; omega)]
        by_cases ht : j.tn = t
        · rw [useOf, if_pos ⟨ht, rfl⟩, if_pos ht]
          show used t q.js - 0 + j.bd = _
          omega
        · rw [useOf, if_neg (fun h => ht h.1), if_neg ht]
          omega
    · rw [if_neg c2]
      have h34 : ¬ (x.k % 8 = 3 ∨ x.k % 8 = 4) := by omega
      have hl : ∀ st im j, (st = 1 ∨ st = 3) → (leaveF st im j).1 = 0 → (leaveF st im j).2.tn = j.tn ∧ (leaveF st im j).2.st ≠ 2 := fun st im j hst h0 => by
        unfold leaveF at h0 ⊢
        by_cases d : j.st = 2
        · rw [if_pos d]; exact ⟨rfl, by show st ≠ 2; omega⟩
        · rw [if_neg d] at h0; exact absurd (show (430 : Int) = 0 from h0) (by decide)
      split
      · exact hleave _ c1 h34 fun j => hl 1 _ j (.inl rfl)
      · split
        · exact hleave _ c1 h34 fun j => hl 3 _ j (.inr rfl)
        · refine hleave _ c1 h34 fun j h0 => ?_
          unfold cancelF at h0 ⊢
          by_cases d : j.st = 1 ∨ j.st = 2
          · rw [if_pos d]; exact ⟨rfl, by show (4 : Int) ≠ 2; decide⟩
          · rw [if_neg d] at h0; exact absurd (show (430 : Int) = 0 from h0) (by decide)
/-- How many of the first k tenants use another amount. -/
def chg (q q' : Qu) : Nat → Nat
  | 0 => 0
  | k + 1 => if used k q.js = used k q'.js then chg q q' k else chg q q' k + 1
theorem chg_le (q q' : Qu) : ∀ k, chg q q' k ≤ k
  | 0 => Nat.le_refl _
  | k + 1 => by
    have := chg_le q q' k
    rw [chg]
    split <;> omega
theorem chg_zero {q q' : Qu} (h : ∀ t, used t q'.js = used t q.js) : ∀ k, chg q q' k = 0
  | 0 => rfl
  | k + 1 => by rw [chg, if_pos (h k).symm, chg_zero h k]
theorem chg_one {q q' : Qu} {t0 : Int} (h : ∀ t, t ≠ t0 → used t q'.js = used t q.js) : ∀ k : Nat, chg q q' k ≤ if t0 < k then 1 else 0
  | 0 => by simp [chg]
  | k + 1 => by
    have ih := chg_one h k
    rw [chg]
    by_cases e : (k : Int) = t0
    · subst e
      rw [if_neg (by omega)] at ih
      rw [if_pos (show (k : Int) < ((k + 1 : Nat) : Int) by omega)]
      split <;> omega
    · rw [if_pos (h k e).symm]
      split at ih
      · rw [if_pos (by omega)]; exact ih
      · omega
theorem doS_qs (q : Qu) (x : Raw) : (doS q x).1.qs = q.qs := by
  have hc : ∀ (id : Int) (f : J → Int × J), (changeS q id f).1.qs = q.qs := fun id f => by
    rcases changeS_cases q id f with ⟨e, _⟩ | ⟨k, j, _, _, _, e⟩ <;> rw [e]
  unfold doS
  split
  · unfold submitS
    repeat' split
    all_goals rfl
  · repeat' split
    all_goals (rw [chS_1, hc])
end Go.Proofs.Ytopmdgheacjkcaa
