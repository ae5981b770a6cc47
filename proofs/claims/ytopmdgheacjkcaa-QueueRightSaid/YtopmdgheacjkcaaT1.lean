/- Used. -/
import Derived.Test.YtopmdgheacjkcaaPure
import Derived.Outline
namespace Go.Proofs.Ytopmdgheacjkcaa
open Go.RowKit
theorem ret_int {k : IntKind} {a b : Int} (h : a = b) : Ending.returned (.int k a) = .returned (.int k b) := by rw [h]
set_option maxHeartbeats 1000000 in
set_option maxRecDepth 100000 in
theorem used_calls (v : Qv) (q : Qu) (t : Int) (w : World) (hq : QIn w v q) (hs : Small q.js) :
    Calls Try.prog 15 #[v.val q, .int .i64 t] w fun e w' => e = .returned (.int .i64 (used t q.js)) ∧ Below w.heap.size w w' := by
  obtain ⟨qa, qc, ja, jc⟩ := v
  unfold Qv.val
  have hl := hs.1
  have HQ := Lib.hid hq; clear hq
  have HS := Lib.hid hs; clear hs
  go_enter Try.func15, Try.ntmps15
  go_wp2
  go_loopg [5, 11] q.js.length (fun gg v5 v11 wr => ∃ k : Nat, k ≤ q.js.length ∧ q.js.length - k ≤ gg ∧ v11 = .int .i64 k ∧ v5 = .int .i64 (used t (q.js.take k)) ∧ Hid (Below w.heap.size w wr))
  case atStart => exact ⟨0, Nat.zero_le _, by omega, rfl, rfl, (Below.refl _ _).alloc (Nat.le_refl _) _⟩
  case round =>
    obtain ⟨k, hk, hg, rfl, rfl, HB⟩ := hrel
    have hsm := HS.out.take k t
    by_cases hlt : k < q.js.length
    · obtain ⟨j, hj⟩ : ∃ j, q.js[k]? = some j := ⟨_, List.getElem?_eq_getElem hlt⟩
      have HN := Lib.hid (used_take t q.js k j hj)
      obtain ⟨ad, hja, h0, h1, h2, h3, h4, h5, h6, h7, h8, h9, h10⟩ := (HQ.out.below HB.out).job k hlt j hj
      cases hja
      have hu := HS.out.2 j (List.mem_of_getElem? hj)
      by_cases c1 : j.tn = t
      · by_cases c2 : j.st = 2
        · have e1 : (j.tn == t) = true := beq_iff_eq.2 c1
          have e2 : (j.st == 2) = true := beq_iff_eq.2 c2
          have H1 := Lib.hid (show useOf t j = j.bd by rw [useOf, if_pos ⟨c1, c2⟩])
          clear c1 c2 hj
          go_wp2
          go_roundg (q.js.length - (k + 1))
          case measure => omega
          case rel => exact ⟨k + 1, by omega, by omega, by go_num, by rw [HN.out, H1.out], HB.out.alloc HB.out.size _⟩
        · have e1 : (j.tn == t) = true := beq_iff_eq.2 c1
          have e2 : (j.st == 2) = false := beq_eq_false_iff_ne.2 c2
          have H1 := Lib.hid (show useOf t j = 0 by rw [useOf, if_neg (fun h => c2 h.2)])
          clear c1 c2 hj
          go_wp2
          go_roundg (q.js.length - (k + 1))
          case measure => omega
          case rel => exact ⟨k + 1, by omega, by omega, by go_num, by rw [HN.out, H1.out, Int.add_zero], HB.out.alloc HB.out.size _⟩
      · have e1 : (j.tn == t) = false := beq_eq_false_iff_ne.2 c1
        have H1 := Lib.hid (show useOf t j = 0 by rw [useOf, if_neg (fun h => c1 h.1)])
        clear c1 hj
        go_wp2
        go_roundg (q.js.length - (k + 1))
        case measure => omega
        case rel => exact ⟨k + 1, by omega, by omega, by go_num, by rw [HN.out, H1.out, Int.add_zero], HB.out.alloc HB.out.size _⟩
    · go_wp2
      go_ret
      refine ⟨ret_int ?_, HB.out⟩
      rw [List.take_of_length_le (by omega)]
end Go.Proofs.Ytopmdgheacjkcaa
