/- The reference's NextIn. -/
import Derived.Test.YtopmdgheacjkcaaT16
import Derived.Test.YtopmdgheacjkcaaBel
import Derived.BigQuiet
set_option linter.unusedVariables false
set_option linter.unusedSimpArgs false
namespace Go.Proofs.Ytopmdgheacjkcaa
open Go.RowKit
/-- The best of the first k jobs that are ready: its place, or -1. -/
def bst (q : Qu) : Nat → Int
  | 0 => -1
  | k + 1 => if rdy q (q.js.getD k rj) = true ∧ (bst q k < 0 ∨ (q.js.getD k rj).pr > (q.js.getD (bst q k).toNat rj).pr) then k else bst q k
def rnextS (q : Qu) : Int × Int := if bst q q.js.length < 0 then (0, 4) else (bst q q.js.length + 1, 0)
theorem bst_lt (q : Qu) : ∀ k, bst q k < k ∧ -1 ≤ bst q k
  | 0 => by rw [bst]; omega
  | k + 1 => by
    have := bst_lt q k
    rw [bst]
    split <;> omega
theorem bst_skip {q : Qu} {k : Nat} {j : J} (hj : q.js[k]? = some j) (h : rdy q j = false) : bst q (k + 1) = bst q k := by
  have e2 : q.js.getD k rj = j := by rw [List.getD_eq_getElem?_getD, hj]; rfl
  rw [bst, e2, h]; simp
theorem bst_first {q : Qu} {k : Nat} {j : J} (hj : q.js[k]? = some j) (h : rdy q j = true) (hb : bst q k < 0) : bst q (k + 1) = k := by
  have e2 : q.js.getD k rj = j := by rw [List.getD_eq_getElem?_getD, hj]; rfl
  rw [bst, e2, h, if_pos ⟨rfl, Or.inl hb⟩]
theorem bst_more {q : Qu} {k m : Nat} {j b : J} (hj : q.js[k]? = some j) (h : rdy q j = true) (hb : bst q k = m) (hm : q.js[m]? = some b) : bst q (k + 1) = if j.pr > b.pr then (k : Int) else m := by
  have e2 : q.js.getD k rj = j := by rw [List.getD_eq_getElem?_getD, hj]; rfl
  have e3 : q.js.getD m rj = b := by rw [List.getD_eq_getElem?_getD, hm]; rfl
  have e4 : ((m : Int)).toNat = m := by omega
  rw [bst, e2, h, hb, e4, e3]
  by_cases hp : j.pr > b.pr
  · rw [if_pos ⟨rfl, Or.inr hp⟩, if_pos hp]
  · rw [if_neg (fun hh => by rcases hh.2 with h | h; · omega
                             · exact hp h), if_neg hp]
set_option maxHeartbeats 2000000 in
set_option maxRecDepth 100000 in
theorem rnext_calls (v : Qv) (q : Qu) (w : World) (hq : QIn w v q) (hF : Fine q) : Calls Try.prog 25 #[v.val q] w (RetD ⟨[], []⟩ (rnextS q).1 (rnextS q).2 w) := by
  have hl := hF.len
  obtain ⟨qa, qc, ja, jc⟩ := v
  unfold Qv.val
  have HQ := Lib.hid hq; clear hq
  have HF := Lib.hid hF; clear hF
  have hb0 := ba_ (ba_ (b0_ w) (.cells #[.slice qa q.qs.length qc, .slice ja q.js.length jc] 29)) (.cells #[.slice none 0 0, .slice none 0 0, .int .i64 0, .int .i64 0] 45)
  have hq0 := Blk.alloc (Blk.new w 29 [.slice qa q.qs.length qc, .slice ja q.js.length jc]) (.cells #[.slice none 0 0, .slice none 0 0, .int .i64 0, .int .i64 0] 45)
  have hr0 := Blk.new (w.alloc (.cells #[.slice qa q.qs.length qc, .slice ja q.js.length jc] 29)) 45 [.slice none 0 0, .slice none 0 0, .int .i64 0, .int .i64 0]
  simp only [World.size_alloc] at hr0
  have HB0 := Lib.hid hb0; have HQ0 := Lib.hid hq0; have HR0 := Lib.hid hr0
  clear hb0 hq0 hr0
  go_enter Try.func25, Try.ntmps25
  go_wp2
  go_loopg [3, 4] q.js.length (fun gg v3 v4 wr => ∃ k : Nat, k ≤ q.js.length ∧ q.js.length - k ≤ gg ∧ v4 = .int .i64 k ∧ v3 = .int .i64 (bst q k) ∧ Hid (Below w.heap.size w wr) ∧ Hid (Blk wr w.heap.size 29 [.slice qa q.qs.length qc, .slice ja q.js.length jc]) ∧ Hid (Blk wr (w.heap.size + 1) 45 [.slice none 0 0, .slice none 0 0, .int .i64 0, .int .i64 0]))
  case atStart => exact ⟨0, Nat.zero_le _, by omega, rfl, rfl, HB0.out, HQ0.out, HR0.out⟩
  case round =>
    obtain ⟨k, hk, hg, rfl, rfl, HB, HX, HZ⟩ := hrel
    clear HB0 HQ0 HR0
    have q0 := HX.out.cell 0 _ rfl
    have q1 := HX.out.cell 1 _ rfl
    have r0 := HZ.out.cell 0 _ rfl
    have zl := HX.out.lt
    have zl1 := HZ.out.lt
    by_cases hlt : k < q.js.length
    · obtain ⟨j, hj⟩ : ∃ j, q.js[k]? = some j := ⟨_, List.getElem?_eq_getElem hlt⟩
      obtain ⟨ad, hja, h0, h1, h2, h3, h4, h5, h6, h7, h8, h9, h10⟩ := (HQ.out.below HB.out).job k hlt j hj
      cases hja
      have hc := fun W hq => rready_calls ⟨qa, qc, some ad, jc⟩ q j W hq HF.out (HF.out.jobs j (List.mem_of_getElem? hj))
      unfold Qv.val J.val at hc
      by_cases hr : rdy q j = true
      · rw [hr] at hc
        have HC := Lib.hid hc; clear hc
        by_cases hb : bst q k < 0
        · have HN := Lib.hid (bst_first hj hr hb)
          have e1 : decide (bst q k < 0) = true := decide_eq_true hb
          clear hr hj hb
          generalize bst q k = bk at HN e1
          go_wp2_with fail
          refine region_below (by kernel_rfl) (by kernel_rfl) ?_
          repeat
            first
              | go_big_quiet_skip
              | (go_big_quiet_want
                 apply Exists.intro
                 refine ⟨fun w' hC => ?_, ?_⟩
                 · have hk := hC.keep
                   first
                     | (go_simp; done)
                     | (go_simp; rfl)
                     | (go_simp; go_at_call 42; refine (HC.out _ (HQ.out.below (kb_ HB hC))).mono ?_; rintro e w2 ⟨rfl, hb⟩; exact ⟨rfl, hC.then hb⟩)
                 simp only [Act.put, List.setIfInBounds_toArray, List.set_cons_zero, List.set_cons_succ]
                 go_big_quiet_on)
          refine wpQuiet_nil ?_
          intro w2 hC
          go_wp2
          go_roundg (q.js.length - (k + 1))
          case measure => omega
          case rel =>
            exact ⟨k + 1, by omega, by omega, by go_num, by rw [HN.out], kb_ HB hC, HX.out.below hC, HZ.out.below hC⟩
        · obtain ⟨m, hm⟩ : ∃ m : Nat, bst q k = m := ⟨(bst q k).toNat, by omega⟩
          have hmk := (bst_lt q k).1
          rw [hm] at hmk
          obtain ⟨b, hbm⟩ : ∃ b, q.js[m]? = some b := ⟨_, List.getElem?_eq_getElem (show m < q.js.length by omega)⟩
          obtain ⟨_, hja, g0, g1, g2, g3, g4, g5, g6, g7, g8, g9, g10⟩ := (HQ.out.below HB.out).job m (by omega) b hbm
          cases hja
          clear g0 g1 g3 g4 g5 g6 g7 g8 g9 g10
          have hn := bst_more hj hr hm hbm
          rw [hm]
          have e1 : decide ((m : Int) < 0) = false := decide_eq_false (by omega)
          have hm0 : m < q.js.length := by omega
          clear hr hj hb hm hbm hmk
          by_cases hp : j.pr > b.pr
          · rw [if_pos hp] at hn
            have HN := Lib.hid hn; clear hn
            have e2 : decide (b.pr < j.pr) = true := decide_eq_true hp
            clear hp
            go_wp2_with fail
            refine region_below (by kernel_rfl) (by kernel_rfl) ?_
            repeat
              first
                | go_big_quiet_skip
                | (go_big_quiet_want
                   apply Exists.intro
                   refine ⟨fun w' hC => ?_, ?_⟩
                   · have hk := hC.keep
                     first
                       | (go_simp; done)
                       | (go_simp; rfl)
                       | (go_simp; go_at_call 42; refine (HC.out _ (HQ.out.below (kb_ HB hC))).mono ?_; rintro e w2 ⟨rfl, hb⟩; exact ⟨rfl, hC.then hb⟩)
                   simp only [Act.put, List.setIfInBounds_toArray, List.set_cons_zero, List.set_cons_succ]
                   go_big_quiet_on)
            refine wpQuiet_nil ?_
            intro w2 hC
            go_wp2
            go_roundg (q.js.length - (k + 1))
            case measure => omega
            case rel =>
              exact ⟨k + 1, by omega, by omega, by go_num, by rw [HN.out], kb_ HB hC, HX.out.below hC, HZ.out.below hC⟩
          · rw [if_neg hp] at hn
            have HN := Lib.hid hn; clear hn
            have e2 : decide (b.pr < j.pr) = false := decide_eq_false hp
            clear hp
            go_wp2_with fail
            refine region_below (by kernel_rfl) (by kernel_rfl) ?_
            repeat
              first
                | go_big_quiet_skip
                | (go_big_quiet_want
                   apply Exists.intro
                   refine ⟨fun w' hC => ?_, ?_⟩
                   · have hk := hC.keep
                     first
                       | (go_simp; done)
                       | (go_simp; rfl)
                       | (go_simp; go_at_call 42; refine (HC.out _ (HQ.out.below (kb_ HB hC))).mono ?_; rintro e w2 ⟨rfl, hb⟩; exact ⟨rfl, hC.then hb⟩)
                   simp only [Act.put, List.setIfInBounds_toArray, List.set_cons_zero, List.set_cons_succ]
                   go_big_quiet_on)
            refine wpQuiet_nil ?_
            intro w2 hC
            go_wp2
            go_roundg (q.js.length - (k + 1))
            case measure => omega
            case rel =>
              exact ⟨k + 1, by omega, by omega, by go_num, by rw [HN.out], kb_ HB hC, HX.out.below hC, HZ.out.below hC⟩
      · have hr' : rdy q j = false := by simpa using hr
        rw [hr'] at hc
        have HC := Lib.hid hc; clear hc
        have HN := Lib.hid (bst_skip hj hr')
        clear hr hr' hj
        generalize bst q k = bk at HN
        go_wp2_with fail
        refine region_below (by kernel_rfl) (by kernel_rfl) ?_
        repeat
          first
            | go_big_quiet_skip
            | (go_big_quiet_want
               apply Exists.intro
               refine ⟨fun w' hC => ?_, ?_⟩
               · have hk := hC.keep
                 first
                   | (go_simp; done)
                   | (go_simp; rfl)
                   | (go_simp; go_at_call 42; refine (HC.out _ (HQ.out.below (kb_ HB hC))).mono ?_; rintro e w2 ⟨rfl, hb⟩; exact ⟨rfl, hC.then hb⟩)
               simp only [Act.put, List.setIfInBounds_toArray, List.set_cons_zero, List.set_cons_succ]
               go_big_quiet_on)
        refine wpQuiet_nil ?_
        intro w2 hC
        go_wp2
        go_roundg (q.js.length - (k + 1))
        case measure => omega
        case rel =>
          exact ⟨k + 1, by omega, by omega, by go_num, by rw [HN.out], kb_ HB hC, HX.out.below hC, HZ.out.below hC⟩
    · have hkl : k = q.js.length := by omega
      have hbl := (bst_lt q k).1
      have hbl1 := (bst_lt q k).2
      have r1 := HZ.out.cell 1 _ rfl
      have r2 := HZ.out.cell 2 _ rfl
      have r3 := HZ.out.cell 3 _ rfl
      have rf := HZ.out.frozen
      have hR : rnextS q = if bst q k < 0 then (0, 4) else (bst q k + 1, 0) := by rw [rnextS, ← hkl]
      have hput := fun i x => HZ.out.put [.slice none 0 0, .slice none 0 0, .int .i64 i, .int .i64 x] rfl
      have hbel := fun (i x : Int) => below_setCells (w := 0) (g := w.heap.size + 1) [.slice none 0 0, .slice none 0 0, .int .i64 i, .int .i64 x] 0 w wr HB.out (by omega)
      have hpost := fun (i x : Int) => (show RetD ⟨[], []⟩ i x w (.returned (.agg #[.slice none 0 0, .slice none 0 0, .int .i64 i, .int .i64 x])) (wr.setCells (w.heap.size + 1) 0 [.slice none 0 0, .slice none 0 0, .int .i64 i, .int .i64 x]) from
        ⟨⟨none, 0, none, 0⟩, rfl, ⟨Row.nil _ _ _, Row.nil _ _ _, Nat.le_refl _, Nat.le_refl _⟩, hbel i x⟩)
      have HPOST := Lib.hid hpost; have HPUT := Lib.hid hput
      clear hpost hput hbel
      by_cases hb : bst q k < 0
      · rw [if_pos hb] at hR
        have HR := Lib.hid hR; clear hR
        have e1 : decide (bst q k < 0) = true := decide_eq_true hb
        generalize bst q k = bk at *
        go_wp2
        rw [HR.out]
        exact bodyPost_ret (results_done rfl _ _ (w.heap.size + 1) _ rfl rfl (HPUT.out 0 4)) rfl (HPOST.out 0 4)
      · rw [if_neg hb] at hR
        have HR := Lib.hid hR; clear hR
        have e1 : decide (bst q k < 0) = false := decide_eq_false hb
        have e2 := i64w (bst q k + 1) (by omega) (by omega)
        generalize bst q k = bk at *
        go_wp2
        rw [HR.out]
        exact bodyPost_ret (results_done rfl _ _ (w.heap.size + 1) _ rfl rfl (HPUT.out (bk + 1) 0)) rfl (HPOST.out (bk + 1) 0)
end Go.Proofs.Ytopmdgheacjkcaa
