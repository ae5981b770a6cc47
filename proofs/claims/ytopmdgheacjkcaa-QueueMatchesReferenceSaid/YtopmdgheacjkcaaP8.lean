/- With an error, an operation leaves the queue; plain law. -/
import Derived.Test.YtopmdgheacjkcaaP4
set_option linter.unusedVariables false
set_option linter.unusedSimpArgs false
namespace Go.Proofs.Ytopmdgheacjkcaa
theorem doS_err (q : Qu) (x : Raw) (h : (doS q x).2.2 ≠ 0) : (doS q x).1 = q := by
  have hch : ∀ (f : J → Int × J), (chS q (x.a % 12) f).2.2 ≠ 0 → (chS q (x.a % 12) f).1 = q := fun f hne => by
    rcases changeS_cases q (x.a % 12) f with ⟨e1, e2⟩ | ⟨k, j, e1, e2, e3, e4⟩
    · exact e1
    · refine absurd ?_ hne
      show (changeS q (x.a % 12) f).2 = 0
      rw [e4]
  unfold doS at h ⊢
  by_cases c1 : x.k % 8 < 3
  · rw [if_pos c1] at h ⊢
    unfold submitS at h ⊢
    split
    · rename_i d1
      rw [if_pos d1] at h
      split
      · rfl
      · rename_i d2
        rw [if_neg d2] at h
        split
        · rfl
        · rename_i d3
          rw [if_neg d3] at h
          exact absurd rfl h
    · rfl
  · rw [if_neg c1] at h ⊢
    split
    · rename_i d; rw [if_pos d] at h; exact hch _ h
    · rename_i d
      rw [if_neg d] at h
      split
      · rename_i d2; rw [if_pos d2] at h; exact hch _ h
      · rename_i d2
        rw [if_neg d2] at h
        split
        · rename_i d3; rw [if_pos d3] at h; exact hch _ h
        · rename_i d3; rw [if_neg d3] at h; exact hch _ h
end Go.Proofs.Ytopmdgheacjkcaa
