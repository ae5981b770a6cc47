/- The reference's Right. -/
import Derived.Test.YtopmdgheacjkcaaT29
set_option linter.unusedVariables false
set_option linter.unusedSimpArgs false
namespace Go.Proofs.Ytopmdgheacjkcaa
open Go.RowKit
structure RightQ (q : Qu) : Prop where
  lq : q.qs.length ≤ 16
  lj : q.js.length ≤ 200
  quos : ∀ (k : Nat) (n : Int), q.qs[k]? = some n → 0 ≤ n ∧ n ≤ 1099511627776
  jobs : ∀ (k : Nat) (j : J), q.js[k]? = some j → JobR q k j
  use : ∀ (k : Nat), k < q.qs.length → used k q.js ≤ quo q k
theorem QIn.qcellN {w : World} {v : Qv} {q : Qu} (h : QIn w v q) (k : Nat) (n : Int) (hn : q.qs[k]? = some n) : ∃ ad, v.qa = some ad ∧ w.cell? (ad.add k) = some (.int .i64 n) := by
  have hk := (List.getElem?_eq_some_iff.1 hn).1
  obtain ⟨ad, e, hc⟩ := h.qcell (k : Int) (by omega) (by omega)
  refine ⟨ad, e, ?_⟩
  rw [quo, List.getD_eq_getElem?_getD] at hc
  simp only [Int.toNat_natCast] at hc
  rw [hn] at hc
  exact hc
theorem quo_get {q : Qu} {k : Nat} {n : Int} (hn : q.qs[k]? = some n) : quo q k = n := by
  rw [quo, List.getD_eq_getElem?_getD]
  simp only [Int.toNat_natCast]
  rw [hn]; rfl
set_option maxHeartbeats 8000000 in
set_option maxRecDepth 100000 in
theorem rright_calls (v : Qv) (q : Qu) (w : World) (hq : QIn w v q) (hl : q.js.length ≤ 1000) (hql : q.qs.length ≤ 1000) : Calls Try.prog 12 #[v.val q] w (RetB (RightQ q) w) := by
  obtain ⟨qa, qc, ja, jc⟩ := v
  have hjb := fun i j W hq hj => rjob_calls ⟨qa, qc, ja, jc⟩ q i j W hq hl hql hj
  have hus := fun t W hq hF => rused_calls ⟨qa, qc, ja, jc⟩ q t W hq hF
  unfold Qv.val at hjb hus ⊢
  have HJB := Lib.hid hjb; have HUS := Lib.hid hus; clear hjb hus
  have HQ := Lib.hid hq; clear hq
  have HB0 := Lib.hid (ba_ (b0_ w) (.cells #[.slice qa q.qs.length qc, .slice ja q.js.length jc] 29))
  have HX0 := Lib.hid (Blk.new w 29 [.slice qa q.qs.length qc, .slice ja q.js.length jc])
  by_cases l1 : q.qs.length ≤ 16
  · by_cases l2 : q.js.length ≤ 200
    · have e1 : decide ((16 : Int) < (q.qs.length : Int)) = false := decide_eq_false (by omega)
      have e2 : decide ((200 : Int) < (q.js.length : Int)) = false := decide_eq_false (by omega)
      go_enter Try.func12, Try.ntmps12
      go_wp2_with fail
      generalize hW : w.alloc (.cells #[.slice qa q.qs.length qc, .slice ja q.js.length jc] 29) = W at HB0 HX0 ⊢
      clear hW e1 e2
      go_loopg [3] q.qs.length (fun gg v3 wr => ∃ k : Nat, k ≤ q.qs.length ∧ q.qs.length - k ≤ gg ∧ v3 = .int .i64 k ∧ Hid (wr = W) ∧ Hid (∀ (m : Nat) (n : Int), m < k → q.qs[m]? = some n → 0 ≤ n ∧ n ≤ 1099511627776))
      case atStart => exact ⟨0, Nat.zero_le _, by omega, rfl, rfl, fun m n hm => absurd hm (Nat.not_lt_zero _)⟩
      case round =>
        obtain ⟨k, hk, hg, rfl, HW, HN⟩ := hrel
        have HB : Hid (Below w.heap.size w wr) := by rw [HW.out]; exact HB0.out.out
        have HX : Hid (Blk wr w.heap.size 29 [.slice qa q.qs.length qc, .slice ja q.js.length jc]) := by rw [HW.out]; exact HX0.out
        have q0 := HX.out.cell 0 _ rfl
        have q1 := HX.out.cell 1 _ rfl
        by_cases hlt : k < q.qs.length
        · obtain ⟨n, hn⟩ : ∃ n, q.qs[k]? = some n := ⟨_, List.getElem?_eq_getElem hlt⟩
          obtain ⟨ad, e, hc⟩ := (HQ.out.below HB.out).qcellN k n hn
          cases e
          have HNE := Lib.hid hn; clear hn
          by_cases d1 : n < 0
          · have HNO := Lib.hid (show ¬ RightQ q from fun h => by have := (h.quos k n HNE.out).1; omega)
            have e1 : decide (n < 0) = true := decide_eq_true d1
            clear d1
            go_wp2
            go_ret
            exact retB_no HNO.out HB.out
          · have e1 : decide (n < 0) = false := decide_eq_false d1
            by_cases d2 : 1099511627776 < n
            · have HNO := Lib.hid (show ¬ RightQ q from fun h => by have := (h.quos k n HNE.out).2; omega)
              have e2 : decide (1099511627776 < n) = true := decide_eq_true d2
              clear d1 d2
              go_wp2
              go_ret
              exact retB_no HNO.out HB.out
            · have e2 : decide (1099511627776 < n) = false := decide_eq_false d2
              have HN2 := Lib.hid (show ∀ (m : Nat) (x : Int), m < k + 1 → q.qs[m]? = some x → 0 ≤ x ∧ x ≤ 1099511627776 from fun m x hm hx => by
                by_cases e : m = k
                · subst e; rw [HNE.out] at hx; cases hx; omega
                · exact HN.out m x (by omega) hx)
              clear d1 d2 HN
              go_wp2
              go_roundg (q.qs.length - (k + 1))
              case measure => omega
              case rel => exact ⟨k + 1, by omega, by omega, by go_num, HW, HN2⟩
        · have HQS := Lib.hid (show ∀ (k : Nat) (n : Int), q.qs[k]? = some n → 0 ≤ n ∧ n ≤ 1099511627776 from fun m n hn => HN.out m n (by have := (List.getElem?_eq_some_iff.1 hn).1; omega) hn)
          clear HN HB0 HX0
          go_wp2
          clear q0 q1 HW
          go_loopg [4] q.js.length (fun gg v4 wr => ∃ k : Nat, k ≤ q.js.length ∧ q.js.length - k ≤ gg ∧ v4 = .int .i64 k ∧ Hid (Below w.heap.size w wr) ∧ Hid (Blk wr w.heap.size 29 [.slice qa q.qs.length qc, .slice ja q.js.length jc]) ∧ Hid (∀ (m : Nat) (j : J), m < k → q.js[m]? = some j → JobR q m j))
          case atStart => exact ⟨0, Nat.zero_le _, by omega, rfl, HB.out, HX.out, fun m n hm => absurd hm (Nat.not_lt_zero _)⟩
          case round =>
            obtain ⟨k, hk, hg, rfl, HB, HX, HN⟩ := hrel
            have q0 := HX.out.cell 0 _ rfl
            have q1 := HX.out.cell 1 _ rfl
            by_cases hlt : k < q.js.length
            · obtain ⟨j, hj⟩ : ∃ j, q.js[k]? = some j := ⟨_, List.getElem?_eq_getElem hlt⟩
              have HJ := Lib.hid hj; clear hj
              go_wp2_with fail
              refine (HJB.out k j _ (HQ.out.below HB.out) HJ.out).mono ?_
              rintro e w1 ⟨b, hbj, rfl, hb1⟩
              have HB1 := Lib.hid (kb_ HB hb1)
              have HX1 := Lib.hid (HX.out.below hb1)
              clear hb1 q0 q1
              cases b with
              | false =>
                have HNO := Lib.hid (show ¬ RightQ q from fun h => by have := hbj.2 (h.jobs k j HJ.out); cases this)
                clear hbj
                go_wp2
                go_ret
                exact retB_no HNO.out HB1.out.out
              | true =>
                have HN2 := Lib.hid (show ∀ (m : Nat) (x : J), m < k + 1 → q.js[m]? = some x → JobR q m x from fun m x hm hx => by
                  by_cases e : m = k
                  · subst e; rw [HJ.out] at hx; cases hx; exact hbj.1 rfl
                  · exact HN.out m x (by omega) hx)
                clear hbj HN
                go_wp2
                go_roundg (q.js.length - (k + 1))
                case measure => omega
                case rel => exact ⟨k + 1, by omega, by omega, by go_num, HB1.out, HX1.out, HN2.out⟩
            · have HJS := Lib.hid (show ∀ (k : Nat) (j : J), q.js[k]? = some j → JobR q k j from fun m j hj => HN.out m j (by have := (List.getElem?_eq_some_iff.1 hj).1; omega) hj)
              have HF := Lib.hid (show Fine q from ⟨fun j hj => by
                obtain ⟨k, hk⟩ := List.getElem?_of_mem hj
                obtain ⟨⟨_, h2, _, _, h5, _⟩, _⟩ := HJS.out k j hk
                have h6 := HQS.out j.tn.toNat (quo q j.tn) (by
                  rw [quo, List.getD_eq_getElem?_getD, List.getElem?_eq_getElem (show j.tn.toNat < q.qs.length by omega)]; rfl)
                exact ⟨h2.1, h2.2, h5.1, by omega⟩, by omega, by omega⟩)
              clear HN
              go_wp2
              clear q0 q1
              go_loopg [5] q.qs.length (fun gg v5 wr => ∃ k : Nat, k ≤ q.qs.length ∧ q.qs.length - k ≤ gg ∧ v5 = .int .i64 k ∧ Hid (Below w.heap.size w wr) ∧ Hid (Blk wr w.heap.size 29 [.slice qa q.qs.length qc, .slice ja q.js.length jc]) ∧ Hid (∀ (m : Nat), m < k → used m q.js ≤ quo q m))
              case atStart => exact ⟨0, Nat.zero_le _, by omega, rfl, HB.out, HX.out, fun m hm => absurd hm (Nat.not_lt_zero _)⟩
              case round =>
                obtain ⟨k, hk, hg, rfl, HB, HX, HN⟩ := hrel
                have q0 := HX.out.cell 0 _ rfl
                have q1 := HX.out.cell 1 _ rfl
                by_cases hlt : k < q.qs.length
                · obtain ⟨n, hn⟩ : ∃ n, q.qs[k]? = some n := ⟨_, List.getElem?_eq_getElem hlt⟩
                  obtain ⟨ad, e, hc⟩ := (HQ.out.below HB.out).qcellN k n hn
                  cases e
                  have HQN := Lib.hid (quo_get hn); clear hn
                  have HUK := fun W hq => HUS.out k W hq HF.out
                  have HU := Lib.hid HUK; clear HUK
                  by_cases d1 : n < used k q.js
                  · have HNO := Lib.hid (show ¬ RightQ q from fun h => by have := h.use k hlt; rw [HQN.out] at this; omega)
                    have e1 : decide (n < used k q.js) = true := decide_eq_true d1
                    clear d1
                    generalize used k q.js = uk at HU e1
                    go_wp2_with fail
                    refine region_below (by kernel_rfl) (by kernel_rfl) ?_
                    repeat
                      first
                        | go_big_quiet_skip
                        | (go_big_quiet_want
                           apply Exists.intro
                           refine ⟨fun w' hC => ?_, ?_⟩
                           · have hk := hC.keep
                             first
                               | (go_simp; done)
                               | (go_simp; rfl)
                               | (go_simp; go_at_call 26; refine (HU.out _ (HQ.out.below (kb_ HB hC))).mono ?_; rintro e w2 ⟨rfl, hb⟩; exact ⟨rfl, hC.then hb⟩)
                           simp only [Act.put, List.setIfInBounds_toArray, List.set_cons_zero, List.set_cons_succ]
                           go_big_quiet_on)
                    refine wpQuiet_nil ?_
                    intro w2 hC
                    go_wp2
                    go_ret
                    exact retB_no HNO.out (kb_ HB hC).out
                  · have e1 : decide (n < used k q.js) = false := decide_eq_false d1
                    have HN2 := Lib.hid (show ∀ (m : Nat), m < k + 1 → used m q.js ≤ quo q m from fun m hm => by
                      by_cases e : m = k
                      · subst e; rw [HQN.out]; omega
                      · exact HN.out m (by omega))
                    clear d1 HN
                    generalize used k q.js = uk at HU e1
                    go_wp2_with fail
                    refine region_below (by kernel_rfl) (by kernel_rfl) ?_
                    repeat
                      first
                        | go_big_quiet_skip
                        | (go_big_quiet_want
                           apply Exists.intro
                           refine ⟨fun w' hC => ?_, ?_⟩
                           · have hk := hC.keep
                             first
                               | (go_simp; done)
                               | (go_simp; rfl)
                               | (go_simp; go_at_call 26; refine (HU.out _ (HQ.out.below (kb_ HB hC))).mono ?_; rintro e w2 ⟨rfl, hb⟩; exact ⟨rfl, hC.then hb⟩)
                           simp only [Act.put, List.setIfInBounds_toArray, List.set_cons_zero, List.set_cons_succ]
                           go_big_quiet_on)
                    refine wpQuiet_nil ?_
                    intro w2 hC
                    go_wp2
                    go_roundg (q.qs.length - (k + 1))
                    case measure => omega
                    case rel => exact ⟨k + 1, by omega, by omega, by go_num, (kb_ HB hC).out, HX.out.below hC, HN2.out⟩
                · have HYES := Lib.hid (show RightQ q from ⟨l1, l2, HQS.out, HJS.out, fun m hm => HN.out m (by omega)⟩)
                  go_wp2
                  go_ret
                  exact retB_yes HYES.out HB.out
    · have HNO := Lib.hid (show ¬ RightQ q from fun h => l2 h.lj)
      have e1 : decide ((16 : Int) < (q.qs.length : Int)) = false := decide_eq_false (by omega)
      have e2 : decide ((200 : Int) < (q.js.length : Int)) = true := decide_eq_true (by omega)
      go_enter Try.func12, Try.ntmps12
      go_wp2
      go_ret
      exact retB_no HNO.out HB0.out.out
  · have HNO := Lib.hid (show ¬ RightQ q from fun h => l1 h.lq)
    have e1 : decide ((16 : Int) < (q.qs.length : Int)) = true := decide_eq_true (by omega)
    go_enter Try.func12, Try.ntmps12
    go_wp2
    go_ret
    exact retB_no HNO.out HB0.out.out
end Go.Proofs.Ytopmdgheacjkcaa
