/- The reference's small functions. -/
import Derived.Test.YtopmdgheacjkcaaT12
import Derived.BigQuiet
set_option linter.unusedVariables false
set_option linter.unusedSimpArgs false
namespace Go.Proofs.Ytopmdgheacjkcaa
open Go.RowKit
def tenB (q : Qu) (n : Int) : Bool := decide (0 ≤ n) && decide (n < q.qs.length)
set_option maxHeartbeats 400000 in
theorem tenant_calls (v : Qv) (q : Qu) (n : Int) (w : World) (hl : q.qs.length ≤ 1000) : Calls Try.prog 43 #[v.val q, .int .i64 n] w fun e w' => e = .returned (.bool (tenB q n)) ∧ Below w.heap.size w w' := by
  unfold Qv.val
  by_cases h : 0 ≤ n
  · have h1 : decide (0 ≤ n) = true := by simpa using h
    go_enter Try.func43, Try.ntmps43
    go_wp2
    go_ret
    exact ⟨by simp [tenB, h1], (ba_ (b0_ w) _).out⟩
  · have h1 : decide (0 ≤ n) = false := by simpa using h
    clear h
    go_enter Try.func43, Try.ntmps43
    go_wp2
    go_ret
    exact ⟨by simp [tenB, h1], (ba_ (b0_ w) _).out⟩
set_option maxHeartbeats 400000 in
theorem has_calls (v : Qv) (q : Qu) (id : Int) (w : World) (hl : q.js.length ≤ 1000) : Calls Try.prog 45 #[v.val q, .int .i64 id] w fun e w' => e = .returned (.bool (wi id 1 q.js.length)) ∧ Below w.heap.size w w' := by
  unfold Qv.val
  by_cases h : 1 ≤ id
  · have h1 : decide (1 ≤ id) = true := by simpa using h
    go_enter Try.func45, Try.ntmps45
    go_wp2
    go_ret
    exact ⟨by simp [wi, h1], (ba_ (b0_ w) _).out⟩
  · have h1 : decide (1 ≤ id) = false := by simpa using h
    clear h
    go_enter Try.func45, Try.ntmps45
    go_wp2
    go_ret
    exact ⟨by simp [wi, h1], (ba_ (b0_ w) _).out⟩
theorem tenB_ok {q : Qu} {j : J} (h : okQ q j) : tenB q j.tn = true := by simp [tenB, h.1, h.2.1]
set_option maxHeartbeats 2000000 in
set_option maxRecDepth 100000 in
theorem rused_calls (v : Qv) (q : Qu) (t : Int) (w : World) (hq : QIn w v q) (hF : Fine q) :
    Calls Try.prog 26 #[v.val q, .int .i64 t] w fun e w' => e = .returned (.int .i64 (used t q.js)) ∧ Below w.heap.size w w' := by
  obtain ⟨qa, qc, ja, jc⟩ := v
  unfold Qv.val
  have hl := hF.len
  have hql := hF.quo
  have HQ := Lib.hid hq; clear hq
  have HF := Lib.hid hF; clear hF
  go_enter Try.func26, Try.ntmps26
  go_wp2
  go_loopg [5, 6] q.js.length (fun gg v5 v6 wr => ∃ k : Nat, k ≤ q.js.length ∧ q.js.length - k ≤ gg ∧ v6 = .int .i64 k ∧ v5 = .int .i64 (used t (q.js.take k)) ∧ Hid (Below w.heap.size w wr) ∧ Hid (Blk wr w.heap.size 29 [.slice qa q.qs.length qc, .slice ja q.js.length jc]))
  case atStart => exact ⟨0, Nat.zero_le _, by omega, rfl, rfl, ba_ (b0_ w) _, Blk.new w 29 _⟩
  case round =>
    obtain ⟨k, hk, hg, rfl, rfl, HB, HX⟩ := hrel
    have hsm := HF.out.small.take k t
    have q0 := HX.out.cell 0 _ rfl
    have q1 := HX.out.cell 1 _ rfl
    by_cases hlt : k < q.js.length
    · obtain ⟨j, hj⟩ : ∃ j, q.js[k]? = some j := ⟨_, List.getElem?_eq_getElem hlt⟩
      have HN := Lib.hid (used_take t q.js k j hj)
      have hok := HF.out.jobs j (List.mem_of_getElem? hj)
      obtain ⟨ad, hja, h0, h1, h2, h3, h4, h5, h6, h7, h8, h9, h10⟩ := (HQ.out.below HB.out).job k hlt j hj
      cases hja
      have hu := hok.2.2
      by_cases c1 : j.tn = t
      · by_cases c2 : j.st = 2
        · have e1 : (j.tn == t) = true := beq_iff_eq.2 c1
          have e2 : (j.st == 2) = true := beq_iff_eq.2 c2
          have HT := Lib.hid (show tenB q t = true by rw [← c1]; exact tenB_ok hok)
          have H1 := Lib.hid (show useOf t j = j.bd by rw [useOf, if_pos ⟨c1, c2⟩])
          clear c1 c2 hj hok h0 h2 h3 h5 h6 h7 h8 h10
          go_wp2_with fail
          refine (tenant_calls ⟨qa, qc, some ad, jc⟩ q t wr hql).mono ?_
          rintro e w1 ⟨rfl, hb1⟩
          have a0 := kc_ hb1 q0
          have a1 := kc_ hb1 q1
          have a4 := kc_ hb1 h4
          have HB1 := Lib.hid (kb_ HB hb1)
          have HX1 := Lib.hid (HX.out.below hb1)
          rw [HT.out]
          clear hb1 q0 q1 h1 h4 h9
          go_wp2
          go_roundg (q.js.length - (k + 1))
          case measure => omega
          case rel => exact ⟨k + 1, by omega, by omega, by go_num, by rw [HN.out, H1.out], HB1.out, HX1⟩
        · have e1 : (j.tn == t) = true := beq_iff_eq.2 c1
          have e2 : (j.st == 2) = false := beq_eq_false_iff_ne.2 c2
          have H1 := Lib.hid (show useOf t j = 0 by rw [useOf, if_neg (fun h => c2 h.2)])
          clear c1 c2 hj hok h0 h2 h3 h5 h6 h7 h8 h10
          go_wp2
          go_roundg (q.js.length - (k + 1))
          case measure => omega
          case rel => exact ⟨k + 1, by omega, by omega, by go_num, by rw [HN.out, H1.out, Int.add_zero], HB, HX⟩
      · have e1 : (j.tn == t) = false := beq_eq_false_iff_ne.2 c1
        have H1 := Lib.hid (show useOf t j = 0 by rw [useOf, if_neg (fun h => c1 h.1)])
        clear c1 hj hok h0 h2 h3 h5 h6 h7 h8 h10
        go_wp2
        go_roundg (q.js.length - (k + 1))
        case measure => omega
        case rel => exact ⟨k + 1, by omega, by omega, by go_num, by rw [HN.out, H1.out, Int.add_zero], HB, HX⟩
    · go_wp2
      go_ret
      refine ⟨ret_int ?_, HB.out⟩
      rw [List.take_of_length_le (by omega)]
end Go.Proofs.Ytopmdgheacjkcaa
