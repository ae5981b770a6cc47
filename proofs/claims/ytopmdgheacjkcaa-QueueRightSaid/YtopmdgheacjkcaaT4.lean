/- slices.IndexFunc, slices.ContainsFunc over jobs. -/
import Derived.Test.YtopmdgheacjkcaaT3
set_option linter.unusedVariables false
set_option linter.unusedSimpArgs false
namespace Go.Proofs.Ytopmdgheacjkcaa
open Go.RowKit
/-- What is asked of a function value that tells of a job whether something holds of it. -/
def PredF (g : Nat) (lb : Array Value) (p : J → Bool) (ok : J → Prop) (B : Nat) (w : World) : Prop :=
  ∀ (W : World) (j : J), Below B w W → ok j → Calls Try.prog g (#[j.val] ++ lb) W fun e w' => e = .returned (.bool (p j)) ∧ Below W.heap.size W w'
def idxP (p : J → Bool) (xs : List J) : Int := if xs.any p then (xs.findIdx p : Int) else -1
theorem idxP_hit {p : J → Bool} {xs : List J} {k : Nat} {j : J} (hj : xs[k]? = some j) (hp : p j = true) (hb : ∀ i x, i < k → xs[i]? = some x → p x = false) : idxP p xs = k := by
  obtain ⟨hk, rfl⟩ := List.getElem?_eq_some_iff.1 hj
  unfold idxP
  rw [if_pos (List.any_eq_true.2 ⟨_, List.getElem_mem hk, hp⟩)]
  have : xs.findIdx p = k := (List.findIdx_eq hk).2 ⟨hp, fun i hi => hb i _ hi (List.getElem?_eq_getElem (by omega))⟩
  rw [this]
theorem idxP_miss {p : J → Bool} {xs : List J} (hb : ∀ i x, i < xs.length → xs[i]? = some x → p x = false) : idxP p xs = -1 := by
  unfold idxP
  rw [if_neg]
  rintro h
  obtain ⟨x, hx, hp⟩ := List.any_eq_true.1 h
  obtain ⟨i, hi, rfl⟩ := List.getElem_of_mem hx
  have := hb i _ hi (List.getElem?_eq_getElem hi)
  rw [this] at hp
  cases hp
theorem Row.job {w : World} {A : Option Addr} {xs : List J} (h : Row w 11 A (xs.map J.cells)) (i : Nat) (j : J) (hj : xs[i]? = some j) : ∃ ad, A = some ad ∧
    w.cell? (ad.add (i * 11)) = some (.int .i64 j.id) ∧
    w.cell? ⟨(ad.add (i * 11)).block, (ad.add (i * 11)).off + 1, none⟩ = some (.int .i64 j.tn) ∧
    w.cell? ⟨(ad.add (i * 11)).block, (ad.add (i * 11)).off + 2, none⟩ = some (.int .i64 j.pr) ∧
    w.cell? ⟨(ad.add (i * 11)).block, (ad.add (i * 11)).off + 3, none⟩ = some (.int .i64 j.kn) ∧
    w.cell? ⟨(ad.add (i * 11)).block, (ad.add (i * 11)).off + 4, none⟩ = some (.int .i64 j.bd) ∧
    w.cell? ⟨(ad.add (i * 11)).block, (ad.add (i * 11)).off + 5, none⟩ = some (.int .i64 j.im.g) ∧
    w.cell? ⟨(ad.add (i * 11)).block, (ad.add (i * 11)).off + 6, none⟩ = some (.slice j.im.ar.a j.im.ar.n j.im.ar.c) ∧
    w.cell? ⟨(ad.add (i * 11)).block, (ad.add (i * 11)).off + 7, none⟩ = some (.slice j.im.gl.a j.im.gl.n j.im.gl.c) ∧
    w.cell? ⟨(ad.add (i * 11)).block, (ad.add (i * 11)).off + 8, none⟩ = some (.slice j.im.gr.a j.im.gr.n j.im.gr.c) ∧
    w.cell? ⟨(ad.add (i * 11)).block, (ad.add (i * 11)).off + 9, none⟩ = some (.int .i64 j.st) ∧
    w.cell? ⟨(ad.add (i * 11)).block, (ad.add (i * 11)).off + 10, none⟩ = some (.int .i64 j.av) := by
  have hl := (List.getElem?_eq_some_iff.1 hj).1
  exact QIn.job (v := ⟨none, 0, A, xs.length⟩) (q := ⟨[], xs⟩) ⟨Row.nil _ _ _, h, Nat.le_refl _, Nat.le_refl _⟩ i hl j hj
set_option maxHeartbeats 2000000 in
set_option maxRecDepth 100000 in
theorem indexFunc_calls (g : Nat) (lb : Array Value) (eg : ∀ args w, (callFunc g args).run Try.prog w = .ok (.enter g args) w) (p : J → Bool) (ok : J → Prop) (A : Option Addr) (c : Nat) (xs : List J) (w : World)
    (B : Nat) (hB : B ≤ w.heap.size) (hp : PredF g lb p ok B w) (hr : Row w 11 A (xs.map J.cells)) (ho : ∀ j ∈ xs, ok j) (hl : xs.length ≤ 1000) :
    Calls Try.prog 65 #[.slice A xs.length c, .func (.func g) #[] lb] w fun e w' => e = .returned (.int .i64 (idxP p xs)) ∧ Below w.heap.size w w' := by
  have HP := Lib.hid hp; clear hp
  have HR := Lib.hid hr; clear hr
  have HO := Lib.hid ho; clear ho
  go_enter Try.func65, Try.ntmps65
  go_wp2
  go_loopg [5, 8] xs.length (fun gg _ v8 wr => ∃ k : Nat, k ≤ xs.length ∧ xs.length - k ≤ gg ∧ v8 = .int .i64 k ∧ Hid (Below w.heap.size w wr) ∧ Hid (∀ i x, i < k → xs[i]? = some x → p x = false))
  case atStart => exact ⟨0, Nat.zero_le _, by omega, rfl, Below.refl _ _, fun i x hi => absurd hi (Nat.not_lt_zero _)⟩
  case round =>
    obtain ⟨k, hk, hg, rfl, HB, HF⟩ := hrel
    by_cases hlt : k < xs.length
    · obtain ⟨j, hj⟩ : ∃ j, xs[k]? = some j := ⟨_, List.getElem?_eq_getElem hlt⟩
      obtain ⟨ad, hja, h0, h1, h2, h3, h4, h5, h6, h7, h8, h9, h10⟩ := (HR.out.below HB.out).job k j hj
      cases hja
      have hcall := HP.out wr j (HB.out.mono hB) (HO.out j (List.mem_of_getElem? hj))
      unfold J.val at hcall
      have HJ := Lib.hid hj; clear hj
      cases hq : p j with
      | true =>
        rw [hq] at hcall
        have HQ := Lib.hid hq; clear hq
        have HC := Lib.hid hcall; clear hcall
        go_wp2_with fail
        refine HC.out.mono ?_
        rintro e w' ⟨rfl, hb'⟩
        have HB' := Lib.hid hb'; clear hb'
        clear h0 h1 h2 h3 h4 h5 h6 h7 h8 h9 h10
        go_wp2
        go_ret
        exact ⟨by rw [idxP_hit HJ.out HQ.out HF.out]; rfl, (kb_ HB HB').out⟩
      | false =>
        rw [hq] at hcall
        have HQ := Lib.hid hq; clear hq
        have HC := Lib.hid hcall; clear hcall
        go_wp2_with fail
        refine HC.out.mono ?_
        rintro e w' ⟨rfl, hb'⟩
        have HB' := Lib.hid hb'; clear hb'
        clear h0 h1 h2 h3 h4 h5 h6 h7 h8 h9 h10
        go_wp2
        go_roundg (xs.length - (k + 1))
        case measure => omega
        case rel =>
          refine ⟨k + 1, by omega, by omega, by go_num, kb_ HB HB', (show Hid _ from fun i x hi hx => ?_)⟩
          by_cases e : i = k
          · subst e
            rw [HJ.out] at hx
            cases hx
            exact HQ.out
          · exact HF.out i x (by omega) hx
    · go_wp2
      go_ret
      exact ⟨by rw [idxP_miss fun i x hi hx => HF.out i x (by omega) hx]; rfl, HB.out⟩
theorem idxP_any (p : J → Bool) (xs : List J) : decide (0 ≤ idxP p xs) = xs.any p := by
  unfold idxP
  split
  · rename_i h; rw [h]; simp
  · rename_i h; simp only [Bool.not_eq_true] at h; rw [h]; simp
set_option maxHeartbeats 1000000 in
theorem containsFunc_calls (g : Nat) (lb : Array Value) (eg : ∀ args w, (callFunc g args).run Try.prog w = .ok (.enter g args) w) (p : J → Bool) (ok : J → Prop) (A : Option Addr) (c : Nat) (xs : List J) (w : World)
    (B : Nat) (hB : B ≤ w.heap.size) (hp : PredF g lb p ok B w) (hr : Row w 11 A (xs.map J.cells)) (ho : ∀ j ∈ xs, ok j) (hl : xs.length ≤ 1000) :
    Calls Try.prog 60 #[.slice A xs.length c, .func (.func g) #[] lb] w fun e w' => e = .returned (.bool (xs.any p)) ∧ Below w.heap.size w w' := by
  have hi := indexFunc_calls g lb eg p ok A c xs w B hB hp hr ho hl
  have HI := Lib.hid hi; clear hi hp hr ho
  rw [← idxP_any]
  go_enter Try.func60, Try.ntmps60
  go_wp2_with (go_at_call 65; refine HI.out.mono ?_; rintro e w' ⟨rfl, hb'⟩)
  go_ret
  exact ⟨rfl, hb'⟩
end Go.Proofs.Ytopmdgheacjkcaa
