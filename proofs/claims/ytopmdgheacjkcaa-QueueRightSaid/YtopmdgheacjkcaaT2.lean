/- Small functions. -/
import Derived.Test.YtopmdgheacjkcaaPure
import Derived.Outline
namespace Go.Proofs.Ytopmdgheacjkcaa
open Go.RowKit
def wi (n lo hi : Int) : Bool := decide (lo ≤ n) && decide (n ≤ hi)
theorem wi_t {n lo hi : Int} (h1 : lo ≤ n) (h2 : n ≤ hi) : wi n lo hi = true := by simp [wi, h1, h2]
theorem wi_f {n lo hi : Int} (h : n < lo ∨ hi < n) : wi n lo hi = false := by
  unfold wi
  rcases h with h | h
  · rw [decide_eq_false (by omega)]; rfl
  · rw [decide_eq_false (p := n ≤ hi) (by omega)]; simp
set_option maxHeartbeats 400000 in
theorem within_calls (n lo hi : Int) (w : World) :
    Calls Try.prog 31 #[.int .i64 n, .int .i64 lo, .int .i64 hi] w fun e w' => e = .returned (.bool (wi n lo hi)) ∧ w = w' := by
  by_cases h : lo ≤ n
  · have h1 : decide (lo ≤ n) = true := by simpa using h
    go_enter Try.func31, Try.ntmps31
    go_wp2
    go_ret
    exact ⟨by simp [wi, h1], rfl⟩
  · have h1 : decide (lo ≤ n) = false := by simpa using h
    clear h
    go_enter Try.func31, Try.ntmps31
    go_wp2
    go_ret
    exact ⟨by simp [wi, h1], rfl⟩
theorem isNaN_calls (n : Int) (w : World) : Calls Try.prog 66 #[.int .i64 n] w fun e w' => e = .returned (.bool false) ∧ w = w' := by
  go_enter Try.func66, Try.ntmps66
  go_wp2
  go_ret
  exact ⟨by simp, rfl⟩
def cmpI (a b : Int) : Int := if a < b then -1 else if b < a then 1 else 0
set_option maxHeartbeats 400000 in
theorem cmp_calls (a b : Int) (w : World) : Calls Try.prog 53 #[.int .i64 a, .int .i64 b] w fun e w' => e = .returned (.int .i64 (cmpI a b)) ∧ w = w' := by
  by_cases h1 : a < b
  · go_enter Try.func53, Try.ntmps53
    go_wp2_with (go_at_call 66; refine (isNaN_calls _ _).mono ?_; rintro e w' ⟨rfl, rfl⟩)
    go_ret
    exact ⟨by rw [cmpI, if_pos (by omega)]; rfl, rfl⟩
  · by_cases h2 : b < a
    · go_enter Try.func53, Try.ntmps53
      go_wp2_with (go_at_call 66; refine (isNaN_calls _ _).mono ?_; rintro e w' ⟨rfl, rfl⟩)
      go_ret
      exact ⟨by rw [cmpI, if_neg (by omega), if_pos (by omega)]; rfl, rfl⟩
    · go_enter Try.func53, Try.ntmps53
      go_wp2_with (go_at_call 66; refine (isNaN_calls _ _).mono ?_; rintro e w' ⟨rfl, rfl⟩)
      go_ret
      exact ⟨by rw [cmpI, if_neg (by omega), if_neg (by omega)]; rfl, rfl⟩
set_option maxHeartbeats 400000 in
theorem next2_calls (a b : J) (w : World) : Calls Try.prog 52 #[a.val, b.val] w fun e w' => e = .returned (.int .i64 (cmpI b.pr a.pr)) ∧ Below w.heap.size w w' := by
  unfold J.val
  go_enter Try.func52, Try.ntmps52
  go_wp2_with (go_at_call 53; refine (cmp_calls _ _ _).mono ?_; rintro e w' ⟨rfl, rfl⟩)
  go_ret
  exact ⟨rfl, ((Below.refl _ _).alloc (Nat.le_refl _) _).alloc (by simp) _⟩
set_option maxHeartbeats 400000 in
theorem next3_calls (a b : J) (w : World) : Calls Try.prog 54 #[a.val, b.val] w fun e w' => e = .returned (.int .i64 (cmpI a.id b.id)) ∧ Below w.heap.size w w' := by
  unfold J.val
  go_enter Try.func54, Try.ntmps54
  go_wp2_with (go_at_call 53; refine (cmp_calls _ _ _).mono ?_; rintro e w' ⟨rfl, rfl⟩)
  go_ret
  exact ⟨rfl, ((Below.refl _ _).alloc (Nat.le_refl _) _).alloc (by simp) _⟩
end Go.Proofs.Ytopmdgheacjkcaa
