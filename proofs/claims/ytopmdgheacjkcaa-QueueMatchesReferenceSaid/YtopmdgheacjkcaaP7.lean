/- The reference's choice of the next job is the program's; plain laws. -/
import Derived.Test.YtopmdgheacjkcaaP3
import Derived.Test.YtopmdgheacjkcaaT20
set_option linter.unusedVariables false
set_option linter.unusedSimpArgs false
namespace Go.Proofs.Ytopmdgheacjkcaa
theorem bst_spec {q : Qu} (hR : Rt q) : ∀ k : Nat, k ≤ q.js.length → (bst q k = -1 ∧ ∀ (m : Nat) (x : J), m < k → q.js[m]? = some x → rdy q x = false) ∨
    ∃ (m : Nat) (b : J), bst q k = m ∧ m < k ∧ q.js[m]? = some b ∧ rdy q b = true ∧ ∀ (i : Nat) (x : J), i < k → q.js[i]? = some x → rdy q x = true → ¬ Bef x b
  | 0, _ => .inl ⟨rfl, fun m x hm => absurd hm (Nat.not_lt_zero _)⟩
  | k + 1, hk => by
    obtain ⟨j, hj⟩ : ∃ j, q.js[k]? = some j := ⟨_, List.getElem?_eq_getElem (by omega)⟩
    have ih := bst_spec hR k (by omega)
    cases hr : rdy q j with
    | false =>
      rw [bst_skip hj hr]
      rcases ih with ⟨h1, h2⟩ | ⟨m, b, h1, h2, h3, h4, h5⟩
      · refine .inl ⟨h1, fun m x hm hx => ?_⟩
        rcases Nat.lt_succ_iff_lt_or_eq.1 hm with hm | rfl
        · exact h2 m x hm hx
        · rw [hj] at hx; cases hx; exact hr
      · refine .inr ⟨m, b, h1, by omega, h3, h4, fun i x hi hx hxr => ?_⟩
        rcases Nat.lt_succ_iff_lt_or_eq.1 hi with hi | rfl
        · exact h5 i x hi hx hxr
        · rw [hj] at hx; cases hx; rw [hr] at hxr; cases hxr
    | true =>
      rcases ih with ⟨h1, h2⟩ | ⟨m, b, h1, h2, h3, h4, h5⟩
      · rw [bst_first hj hr (by omega)]
        refine .inr ⟨k, j, rfl, by omega, hj, hr, fun i x hi hx hxr => ?_⟩
        rcases Nat.lt_succ_iff_lt_or_eq.1 hi with hi | rfl
        · rw [h2 i x hi hx] at hxr; cases hxr
        · rw [hj] at hx; cases hx; unfold Bef; omega
      · rw [bst_more hj hr h1 h3]
        have i1 := hR.ids k j hj
        have i2 := hR.ids m b h3
        by_cases c : j.pr > b.pr
        · rw [if_pos c]
          refine .inr ⟨k, j, rfl, by omega, hj, hr, fun i x hi hx hxr => ?_⟩
          rcases Nat.lt_succ_iff_lt_or_eq.1 hi with hi | rfl
          · have := h5 i x hi hx hxr
            unfold Bef at *
            omega
          · rw [hj] at hx; cases hx; unfold Bef; omega
        · rw [if_neg c]
          refine .inr ⟨m, b, rfl, by omega, h3, h4, fun i x hi hx hxr => ?_⟩
          rcases Nat.lt_succ_iff_lt_or_eq.1 hi with hi | rfl
          · exact h5 i x hi hx hxr
          · rw [hj] at hx; cases hx
            unfold Bef
            omega
theorem rnext_eq {q : Qu} (hR : Rt q) : rnextS q = nextS q := by
  unfold rnextS
  rcases bst_spec hR q.js.length (Nat.le_refl _) with ⟨h1, h2⟩ | ⟨m, b, h1, h2, h3, h4, h5⟩
  · rw [if_pos (by omega)]
    rcases next_spec hR with ⟨k0, b0, hn, hb, hr, _⟩ | ⟨hn, _⟩
    · rw [h2 k0 b0 (List.getElem?_eq_some_iff.1 hb).1 hb] at hr; cases hr
    · exact hn.symm
  · rw [if_neg (by omega), h1]
    rcases next_spec hR with ⟨k0, b0, hn, hb, hr, hmin⟩ | ⟨_, hno⟩
    · rw [hn]
      have n1 := hmin m b h3 h4
      have n2 := h5 k0 b0 (List.getElem?_eq_some_iff.1 hb).1 hb hr
      have i1 := hR.ids m b h3
      have i2 := hR.ids k0 b0 hb
      unfold Bef at n1 n2
      have : (m : Int) = (k0 : Int) := by omega
      rw [this]
    · rw [hno m b h3] at h4; cases h4
end Go.Proofs.Ytopmdgheacjkcaa
