/- The law's examples: fixed calls answer as they should. -/
import Derived.Test.YtopmdgheacjkcaaT31
import Derived.Test.YtopmdgheacjkcaaT27
set_option linter.unusedVariables false
set_option linter.unusedSimpArgs false
namespace Go.Proofs.Ytopmdgheacjkcaa
open Go.RowKit
def exQ0 : Qu := ⟨[10, 5], []⟩
def exJ (tn pr bd : Int) : J := ⟨0, tn, pr, 0, bd, ⟨0, ⟨none, 0, 0⟩, ⟨none, 0, 0⟩, ⟨none, 0, 0⟩⟩, 0, 0⟩
def exQ1 : Qu := ⟨[10, 5], [subJ exQ0 (exJ 0 1 6)]⟩
def exQ2 : Qu := ⟨[10, 5], [subJ exQ0 (exJ 0 1 6), subJ exQ1 (exJ 0 3 6)]⟩
def exQ3 : Qu := ⟨[10, 5], [subJ exQ0 (exJ 0 1 6), subJ exQ1 (exJ 0 3 6), subJ exQ2 (exJ 1 0 5)]⟩
def exQ4 : Qu := ⟨[10, 5], [subJ exQ0 (exJ 0 1 6), { subJ exQ1 (exJ 0 3 6) with st := 2, av := 0 }, subJ exQ2 (exJ 1 0 5)]⟩
theorem ex1 : submitS exQ0 (exJ 0 1 6) = (exQ1, 1, 0) := by rfl
theorem ex2 : submitS exQ1 (exJ 0 3 6) = (exQ2, 2, 0) := by rfl
theorem ex3 : submitS exQ2 (exJ 1 0 5) = (exQ3, 3, 0) := by rfl
theorem ex4 : submitS exQ3 (exJ 1 0 6) = (exQ3, 0, 410) := by rfl
theorem ex5 : nextS exQ3 = (2, 0) := by rfl
theorem ex6 : changeS exQ3 2 (startF exQ3 0) = (exQ4, 0) := by rfl
theorem ex7 : changeS exQ4 1 (startF exQ4 1) = (exQ4, 410) := by rfl
theorem ex8 : nextS exQ4 = (3, 0) := by rfl
theorem ex9 : used 0 exQ4.js = 6 := by rfl
theorem exA : nextS exQ0 = (0, 4) := by rfl
theorem exB : changeS exQ0 1 cancelF = (exQ0, 411) := by rfl
theorem exJs {n : Nat} {a b c x : J} {l : List J} (hl : l = [a, b, c]) (h : l[n]? = some x) : (n = 0 ∧ x = a) ∨ (n = 1 ∧ x = b) ∨ (n = 2 ∧ x = c) := by
  subst hl
  match n with
  | 0 => simp at h; exact .inl ⟨rfl, h.symm⟩
  | 1 => simp at h; exact .inr (.inl ⟨rfl, h.symm⟩)
  | 2 => simp at h; exact .inr (.inr ⟨rfl, h.symm⟩)
  | n + 3 => simp at h
theorem exF0 : Fine exQ0 := ⟨fun j hj => by simp [exQ0] at hj, by decide, by decide⟩
theorem exOk (a b c : J) (h : ∀ j, j = a ∨ j = b ∨ j = c → okQ ⟨[10, 5], []⟩ j) : Fine ⟨[10, 5], [a, b, c]⟩ := ⟨fun j hj => by
  have : j = a ∨ j = b ∨ j = c := by simpa using hj
  exact h j this, by simp, by simp⟩
theorem exF3 : Fine exQ3 := exOk _ _ _ fun j hj => by
  rcases hj with rfl | rfl | rfl
  all_goals exact ⟨by decide, by decide, by decide, by decide⟩
theorem exF4 : Fine exQ4 := exOk _ _ _ fun j hj => by
  rcases hj with rfl | rfl | rfl
  all_goals exact ⟨by decide, by decide, by decide, by decide⟩
theorem exR3 : RightQ exQ3 := by
  refine ⟨by decide, by decide, fun k n hn => ?_, fun k j hj => ?_, fun k hk => ?_⟩
  · match k with
    | 0 => simp [exQ3] at hn; omega
    | 1 => simp [exQ3] at hn; omega
    | k + 2 => simp [exQ3] at hn
  · rcases exJs rfl hj with ⟨rfl, rfl⟩ | ⟨rfl, rfl⟩ | ⟨rfl, rfl⟩
    all_goals exact ⟨⟨by decide, ⟨by decide, by decide⟩, ⟨by decide, by decide⟩, by decide, ⟨by decide, by decide⟩, by decide, by decide⟩, fun h => absurd h (by decide), fun _ => rfl⟩
  · match k with
    | 0 => decide
    | 1 => decide
    | k + 2 => exact absurd hk (by simp [exQ3])
theorem field_1 (a a' : Option Addr) (n n' c c' : Nat) (i x : Int) (w : World) : (Instr.field 45 (.agg #[.slice a n c, .slice a' n' c', .int .i64 i, .int .i64 x]) 1).run Try.prog w = .ok (.int .i64 i) w := by kernel_rfl
theorem field_2 (a a' : Option Addr) (n n' c c' : Nat) (i x : Int) (w : World) : (Instr.field 45 (.agg #[.slice a n c, .slice a' n' c', .int .i64 i, .int .i64 x]) 2).run Try.prog w = .ok (.int .i64 x) w := by kernel_rfl
set_option maxHeartbeats 4000000 in
set_option maxRecDepth 100000 in
theorem examples_calls (w : World) : Calls Try.prog 9 #[] w fun e w' => e = .returned (.bool true) ∧ Below w.heap.size w w' := by
  have hF0 := Lib.hid exF0
  have c1 := fun v W hq => lsubmit_calls v exQ0 (exJ 0 1 6) W hq (by decide) (by decide)
  have c2 := fun v W hq => lsubmit_calls v exQ1 (exJ 0 3 6) W hq (by decide) (by decide)
  have c3 := fun v W hq => lsubmit_calls v exQ2 (exJ 1 0 5) W hq (by decide) (by decide)
  have c4 := fun v W hq => lsubmit_calls v exQ3 (exJ 1 0 6) W hq (by decide) (by decide)
  have c5 := fun v W hq => lnext_calls v exQ3 W hq exF3
  have c6 := fun v W hq => lstart_calls v exQ3 2 0 W hq exF3
  have c7 := fun v W hq => lstart_calls v exQ4 1 1 W hq exF4
  have c8 := fun v W hq => lnext_calls v exQ4 W hq exF4
  have c9 := fun v W hq => used_calls v exQ4 0 W hq exF4.small
  have cA := fun v W hq => lnext_calls v exQ0 W hq exF0
  have cB := fun v W hq => lcancel_calls v exQ0 1 W hq (by decide)
  have cR := fun v W hq => (pright_calls v exQ3 W hq (by decide) (by decide))
  rw [ex1] at c1; rw [ex2] at c2; rw [ex3] at c3; rw [ex4] at c4; rw [ex5] at c5; rw [ex6] at c6; rw [ex7] at c7; rw [ex8] at c8; rw [ex9] at c9; rw [exA] at cA; rw [exB] at cB
  unfold Qv.val at c1 c2 c3 c4 c5 c6 c7 c8 c9 cA cB cR
  unfold J.val exJ at c1 c2 c3 c4
  have HR := Lib.hid exR3
  have q0l : exQ0.qs.length = 2 ∧ exQ0.js.length = 0 := ⟨rfl, rfl⟩
  rw [q0l.1, q0l.2] at c1 cA cB
  generalize exQ1 = q1 at c1 c2
  generalize exQ2 = q2 at c2 c3
  generalize exQ3 = q3 at c3 c4 c5 c6 cR HR
  generalize exQ4 = q4 at c6 c7 c8 c9
  have C1 := Lib.hid c1; have C2 := Lib.hid c2; have C3 := Lib.hid c3; have C4 := Lib.hid c4; have C5 := Lib.hid c5; have C6 := Lib.hid c6; have C7 := Lib.hid c7; have C8 := Lib.hid c8; have C9 := Lib.hid c9; have CA := Lib.hid cA; have CB := Lib.hid cB; have CR := Lib.hid cR
  clear c1 c2 c3 c4 c5 c6 c7 c8 c9 cA cB cR q0l
  have hf1 := field_1
  have hf2 := field_2
  have hB0 := ba_ (ba_ (b0_ w) (.cells #[.int .i64 10, .int .i64 5] 3)) (.cells #[.slice (some ⟨w.heap.size, 0, none⟩) 2 2, .slice none 0 0] 29)
  have hX0 := blk_new' (w.alloc (.cells #[.int .i64 10, .int .i64 5] 3)) (w.heap.size + 1) (by simp) 29 [.slice (some ⟨w.heap.size, 0, none⟩) 2 2, .slice none 0 0]
  have hQ0 : QIn ((w.alloc (.cells #[.int .i64 10, .int .i64 5] 3)).alloc (.cells #[.slice (some ⟨w.heap.size, 0, none⟩) 2 2, .slice none 0 0] 29)) ⟨some ⟨w.heap.size, 0, none⟩, 2, none, 0⟩ exQ0 := ⟨row_ints _ _ [10, 5] (Blk.alloc (Blk.new w 3 [.int .i64 10, .int .i64 5]) _), Row.nil _ _ _, Nat.le_refl _, Nat.le_refl _⟩
  have HB0 := Lib.hid hB0; have HX0 := Lib.hid hX0; have HQ0 := Lib.hid hQ0
  clear hB0 hX0 hQ0
  go_enter Try.func9, Try.ntmps9
  go_wp2_with fail
  -- THE CALLS
  generalize ((w.alloc (.cells #[.int .i64 10, .int .i64 5] 3)).alloc (.cells #[.slice (some ⟨w.heap.size, 0, none⟩) 2 2, .slice none 0 0] 29)) = W0 at HB0 HX0 HQ0 ⊢
  have HQz0 := HQ0; clear HQ0
  have HL0 := HB0; clear HB0
  refine (C1.out _ _ HQz0.out).mono ?_
  rintro e w1 ⟨⟨v1a, v1c, v1j, v1d⟩, rfl, hq1, hb1⟩
  simp only [Qv.done]
  have HL1 := Lib.hid (kb_ HL0.out hb1)
  have HX1 := Lib.hid (HX0.out.below hb1)
  have HQz1 := Lib.hid (HQz0.out.below hb1)
  clear HL0 HX0 HQz0 hb1
  obtain ⟨BA, hBA⟩ : ∃ b, b = w1.heap.size := ⟨_, rfl⟩
  have HA1' := Lib.hid (show Blk (w1.alloc (.cells #[.slice v1a q1.qs.length v1c, .slice v1j q1.js.length v1d, .int .i64 1, .int .i64 0] 45)) BA 45 [.slice v1a q1.qs.length v1c, .slice v1j q1.js.length v1d, .int .i64 1, .int .i64 0] from by rw [hBA]; exact Blk.new w1 45 [.slice v1a q1.qs.length v1c, .slice v1j q1.js.length v1d, .int .i64 1, .int .i64 0])
  have HQn := Lib.hid (hq1.below (ba_ (b0_ w1) (.cells #[.slice v1a q1.qs.length v1c, .slice v1j q1.js.length v1d, .int .i64 1, .int .i64 0] 45)).out)
  have HX1' := Lib.hid (HX1.out.alloc (.cells #[.slice v1a q1.qs.length v1c, .slice v1j q1.js.length v1d, .int .i64 1, .int .i64 0] 45))
  have HQz1' := Lib.hid (HQz1.out.below (ba_ (b0_ w1) (.cells #[.slice v1a q1.qs.length v1c, .slice v1j q1.js.length v1d, .int .i64 1, .int .i64 0] 45)).out)
  have HL1' := Lib.hid (ba_ HL1.out (.cells #[.slice v1a q1.qs.length v1c, .slice v1j q1.js.length v1d, .int .i64 1, .int .i64 0] 45))
  clear HL1 HX1 HQz1 hq1
  go_wp2_with fail
  rw [← hBA]
  clear hBA
  generalize w1.alloc (.cells #[.slice v1a q1.qs.length v1c, .slice v1j q1.js.length v1d, .int .i64 1, .int .i64 0] 45) = W1 at HL1' HA1' HQn HX1' HQz1' ⊢
  have HL1 := HL1'; clear HL1'
  have HA1 := HA1'; clear HA1'
  have HX1 := HX1'; clear HX1'
  have HQz1 := HQz1'; clear HQz1'
  have HQ11 := HQn; clear HQn
  refine (C2.out _ _ HQ11.out).mono ?_
  rintro e w2 ⟨⟨v2a, v2c, v2j, v2d⟩, rfl, hq2, hb2⟩
  simp only [Qv.done]
  have HL2 := Lib.hid (kb_ HL1.out hb2)
  have HX2 := Lib.hid (HX1.out.below hb2)
  have HA2 := Lib.hid (HA1.out.below hb2)
  have HQz2 := Lib.hid (HQz1.out.below hb2)
  have HQ12 := Lib.hid (HQ11.out.below hb2)
  clear HL1 HX1 HA1 HQz1 HQ11 hb2
  obtain ⟨BB, hBB⟩ : ∃ b, b = w2.heap.size := ⟨_, rfl⟩
  have HB2' := Lib.hid (show Blk (w2.alloc (.cells #[.slice v2a q2.qs.length v2c, .slice v2j q2.js.length v2d, .int .i64 2, .int .i64 0] 45)) BB 45 [.slice v2a q2.qs.length v2c, .slice v2j q2.js.length v2d, .int .i64 2, .int .i64 0] from by rw [hBB]; exact Blk.new w2 45 [.slice v2a q2.qs.length v2c, .slice v2j q2.js.length v2d, .int .i64 2, .int .i64 0])
  have HQn := Lib.hid (hq2.below (ba_ (b0_ w2) (.cells #[.slice v2a q2.qs.length v2c, .slice v2j q2.js.length v2d, .int .i64 2, .int .i64 0] 45)).out)
  have HX2' := Lib.hid (HX2.out.alloc (.cells #[.slice v2a q2.qs.length v2c, .slice v2j q2.js.length v2d, .int .i64 2, .int .i64 0] 45))
  have HA2' := Lib.hid (HA2.out.alloc (.cells #[.slice v2a q2.qs.length v2c, .slice v2j q2.js.length v2d, .int .i64 2, .int .i64 0] 45))
  have HQz2' := Lib.hid (HQz2.out.below (ba_ (b0_ w2) (.cells #[.slice v2a q2.qs.length v2c, .slice v2j q2.js.length v2d, .int .i64 2, .int .i64 0] 45)).out)
  have HQ12' := Lib.hid (HQ12.out.below (ba_ (b0_ w2) (.cells #[.slice v2a q2.qs.length v2c, .slice v2j q2.js.length v2d, .int .i64 2, .int .i64 0] 45)).out)
  have HL2' := Lib.hid (ba_ HL2.out (.cells #[.slice v2a q2.qs.length v2c, .slice v2j q2.js.length v2d, .int .i64 2, .int .i64 0] 45))
  clear HL2 HX2 HA2 HQz2 HQ12 hq2
  go_wp2_with fail
  rw [← hBB]
  clear hBB
  generalize w2.alloc (.cells #[.slice v2a q2.qs.length v2c, .slice v2j q2.js.length v2d, .int .i64 2, .int .i64 0] 45) = W2 at HL2' HB2' HQn HX2' HA2' HQz2' HQ12' ⊢
  have HL2 := HL2'; clear HL2'
  have HB2 := HB2'; clear HB2'
  have HX2 := HX2'; clear HX2'
  have HA2 := HA2'; clear HA2'
  have HQz2 := HQz2'; clear HQz2'
  have HQ12 := HQ12'; clear HQ12'
  have HQ22 := HQn; clear HQn
  refine (C3.out _ _ HQ22.out).mono ?_
  rintro e w3 ⟨⟨v3a, v3c, v3j, v3d⟩, rfl, hq3, hb3⟩
  simp only [Qv.done]
  have HL3 := Lib.hid (kb_ HL2.out hb3)
  have HX3 := Lib.hid (HX2.out.below hb3)
  have HA3 := Lib.hid (HA2.out.below hb3)
  have HB3 := Lib.hid (HB2.out.below hb3)
  have HQz3 := Lib.hid (HQz2.out.below hb3)
  have HQ13 := Lib.hid (HQ12.out.below hb3)
  have HQ23 := Lib.hid (HQ22.out.below hb3)
  clear HL2 HX2 HA2 HB2 HQz2 HQ12 HQ22 hb3
  obtain ⟨BC, hBC⟩ : ∃ b, b = w3.heap.size := ⟨_, rfl⟩
  have HC3' := Lib.hid (show Blk (w3.alloc (.cells #[.slice v3a q3.qs.length v3c, .slice v3j q3.js.length v3d, .int .i64 3, .int .i64 0] 45)) BC 45 [.slice v3a q3.qs.length v3c, .slice v3j q3.js.length v3d, .int .i64 3, .int .i64 0] from by rw [hBC]; exact Blk.new w3 45 [.slice v3a q3.qs.length v3c, .slice v3j q3.js.length v3d, .int .i64 3, .int .i64 0])
  have HQn := Lib.hid (hq3.below (ba_ (b0_ w3) (.cells #[.slice v3a q3.qs.length v3c, .slice v3j q3.js.length v3d, .int .i64 3, .int .i64 0] 45)).out)
  have HX3' := Lib.hid (HX3.out.alloc (.cells #[.slice v3a q3.qs.length v3c, .slice v3j q3.js.length v3d, .int .i64 3, .int .i64 0] 45))
  have HA3' := Lib.hid (HA3.out.alloc (.cells #[.slice v3a q3.qs.length v3c, .slice v3j q3.js.length v3d, .int .i64 3, .int .i64 0] 45))
  have HB3' := Lib.hid (HB3.out.alloc (.cells #[.slice v3a q3.qs.length v3c, .slice v3j q3.js.length v3d, .int .i64 3, .int .i64 0] 45))
  have HQz3' := Lib.hid (HQz3.out.below (ba_ (b0_ w3) (.cells #[.slice v3a q3.qs.length v3c, .slice v3j q3.js.length v3d, .int .i64 3, .int .i64 0] 45)).out)
  have HQ13' := Lib.hid (HQ13.out.below (ba_ (b0_ w3) (.cells #[.slice v3a q3.qs.length v3c, .slice v3j q3.js.length v3d, .int .i64 3, .int .i64 0] 45)).out)
  have HQ23' := Lib.hid (HQ23.out.below (ba_ (b0_ w3) (.cells #[.slice v3a q3.qs.length v3c, .slice v3j q3.js.length v3d, .int .i64 3, .int .i64 0] 45)).out)
  have HL3' := Lib.hid (ba_ HL3.out (.cells #[.slice v3a q3.qs.length v3c, .slice v3j q3.js.length v3d, .int .i64 3, .int .i64 0] 45))
  clear HL3 HX3 HA3 HB3 HQz3 HQ13 HQ23 hq3
  go_wp2_with fail
  rw [← hBC]
  clear hBC
  generalize w3.alloc (.cells #[.slice v3a q3.qs.length v3c, .slice v3j q3.js.length v3d, .int .i64 3, .int .i64 0] 45) = W3 at HL3' HC3' HQn HX3' HA3' HB3' HQz3' HQ13' HQ23' ⊢
  have HL3 := HL3'; clear HL3'
  have HC3 := HC3'; clear HC3'
  have HX3 := HX3'; clear HX3'
  have HA3 := HA3'; clear HA3'
  have HB3 := HB3'; clear HB3'
  have HQz3 := HQz3'; clear HQz3'
  have HQ13 := HQ13'; clear HQ13'
  have HQ23 := HQ23'; clear HQ23'
  have HQ33 := HQn; clear HQn
  refine (C4.out _ _ HQ33.out).mono ?_
  rintro e w4 ⟨⟨v4a, v4c, v4j, v4d⟩, rfl, hq4, hb4⟩
  simp only [Qv.done]
  have HL4 := Lib.hid (kb_ HL3.out hb4)
  have HX4 := Lib.hid (HX3.out.below hb4)
  have HA4 := Lib.hid (HA3.out.below hb4)
  have HB4 := Lib.hid (HB3.out.below hb4)
  have HC4 := Lib.hid (HC3.out.below hb4)
  have HQz4 := Lib.hid (HQz3.out.below hb4)
  have HQ14 := Lib.hid (HQ13.out.below hb4)
  have HQ24 := Lib.hid (HQ23.out.below hb4)
  have HQ34 := Lib.hid (HQ33.out.below hb4)
  clear HL3 HX3 HA3 HB3 HC3 HQz3 HQ13 HQ23 HQ33 hb4
  have fA2 := HA4.out.cell 2 _ rfl
  have fA3 := HA4.out.cell 3 _ rfl
  have lA := HA4.out.lt
  have fB3 := HB4.out.cell 3 _ rfl
  have lB := HB4.out.lt
  have fC0 := HC4.out.cell 0 _ rfl
  have fC1 := HC4.out.cell 1 _ rfl
  have fC2 := HC4.out.cell 2 _ rfl
  have fC3 := HC4.out.cell 3 _ rfl
  have lC := HC4.out.lt
  obtain ⟨BD, hBD⟩ : ∃ b, b = w4.heap.size := ⟨_, rfl⟩
  have HD4' := Lib.hid (show Blk (w4.alloc (.cells #[.slice v4a q3.qs.length v4c, .slice v4j q3.js.length v4d, .int .i64 0, .int .i64 410] 45)) BD 45 [.slice v4a q3.qs.length v4c, .slice v4j q3.js.length v4d, .int .i64 0, .int .i64 410] from by rw [hBD]; exact Blk.new w4 45 [.slice v4a q3.qs.length v4c, .slice v4j q3.js.length v4d, .int .i64 0, .int .i64 410])
  have HQn := Lib.hid (hq4.below (ba_ (b0_ w4) (.cells #[.slice v4a q3.qs.length v4c, .slice v4j q3.js.length v4d, .int .i64 0, .int .i64 410] 45)).out)
  have HX4' := Lib.hid (HX4.out.alloc (.cells #[.slice v4a q3.qs.length v4c, .slice v4j q3.js.length v4d, .int .i64 0, .int .i64 410] 45))
  have HA4' := Lib.hid (HA4.out.alloc (.cells #[.slice v4a q3.qs.length v4c, .slice v4j q3.js.length v4d, .int .i64 0, .int .i64 410] 45))
  have HB4' := Lib.hid (HB4.out.alloc (.cells #[.slice v4a q3.qs.length v4c, .slice v4j q3.js.length v4d, .int .i64 0, .int .i64 410] 45))
  have HC4' := Lib.hid (HC4.out.alloc (.cells #[.slice v4a q3.qs.length v4c, .slice v4j q3.js.length v4d, .int .i64 0, .int .i64 410] 45))
  have HQz4' := Lib.hid (HQz4.out.below (ba_ (b0_ w4) (.cells #[.slice v4a q3.qs.length v4c, .slice v4j q3.js.length v4d, .int .i64 0, .int .i64 410] 45)).out)
  have HQ14' := Lib.hid (HQ14.out.below (ba_ (b0_ w4) (.cells #[.slice v4a q3.qs.length v4c, .slice v4j q3.js.length v4d, .int .i64 0, .int .i64 410] 45)).out)
  have HQ24' := Lib.hid (HQ24.out.below (ba_ (b0_ w4) (.cells #[.slice v4a q3.qs.length v4c, .slice v4j q3.js.length v4d, .int .i64 0, .int .i64 410] 45)).out)
  have HQ34' := Lib.hid (HQ34.out.below (ba_ (b0_ w4) (.cells #[.slice v4a q3.qs.length v4c, .slice v4j q3.js.length v4d, .int .i64 0, .int .i64 410] 45)).out)
  have HL4' := Lib.hid (ba_ HL4.out (.cells #[.slice v4a q3.qs.length v4c, .slice v4j q3.js.length v4d, .int .i64 0, .int .i64 410] 45))
  clear HL4 HX4 HA4 HB4 HC4 HQz4 HQ14 HQ24 HQ34 hq4
  go_wp2_with fail
  clear fA2 fA3 lA fB3 lB fC0 fC1 fC2 fC3 lC
  rw [← hBD]
  clear hBD
  generalize w4.alloc (.cells #[.slice v4a q3.qs.length v4c, .slice v4j q3.js.length v4d, .int .i64 0, .int .i64 410] 45) = W4 at HL4' HD4' HQn HX4' HA4' HB4' HC4' HQz4' HQ14' HQ24' HQ34' ⊢
  have HL4 := HL4'; clear HL4'
  have HD4 := HD4'; clear HD4'
  have HX4 := HX4'; clear HX4'
  have HA4 := HA4'; clear HA4'
  have HB4 := HB4'; clear HB4'
  have HC4 := HC4'; clear HC4'
  have HQz4 := HQz4'; clear HQz4'
  have HQ14 := HQ14'; clear HQ14'
  have HQ24 := HQ24'; clear HQ24'
  have HQ34 := HQ34'; clear HQ34'
  clear HQn
  refine (C5.out _ _ HQ34.out).mono ?_
  rintro e w5 ⟨v5, rfl, _, hb5⟩
  simp only [Qv.done]
  have HL5 := Lib.hid (kb_ HL4.out hb5)
  have HX5 := Lib.hid (HX4.out.below hb5)
  have HA5 := Lib.hid (HA4.out.below hb5)
  have HB5 := Lib.hid (HB4.out.below hb5)
  have HC5 := Lib.hid (HC4.out.below hb5)
  have HD5 := Lib.hid (HD4.out.below hb5)
  have HQz5 := Lib.hid (HQz4.out.below hb5)
  have HQ15 := Lib.hid (HQ14.out.below hb5)
  have HQ25 := Lib.hid (HQ24.out.below hb5)
  have HQ35 := Lib.hid (HQ34.out.below hb5)
  clear HL4 HX4 HA4 HB4 HC4 HD4 HQz4 HQ14 HQ24 HQ34 hb5
  have fA2 := HA5.out.cell 2 _ rfl
  have fA3 := HA5.out.cell 3 _ rfl
  have lA := HA5.out.lt
  have fB3 := HB5.out.cell 3 _ rfl
  have lB := HB5.out.lt
  have fC0 := HC5.out.cell 0 _ rfl
  have fC1 := HC5.out.cell 1 _ rfl
  have fC2 := HC5.out.cell 2 _ rfl
  have fC3 := HC5.out.cell 3 _ rfl
  have lC := HC5.out.lt
  go_wp2_with fail
  clear fA2 fA3 lA fB3 lB fC0 fC1 fC2 fC3 lC
  refine (CR.out _ _ HQ35.out).mono ?_
  rintro e w6 ⟨b, hbt, rfl, hb6⟩
  obtain rfl : b = true := hbt.2 HR.out
  clear hbt
  have HL6 := Lib.hid (kb_ HL5.out hb6)
  have HX6 := Lib.hid (HX5.out.below hb6)
  have HA6 := Lib.hid (HA5.out.below hb6)
  have HB6 := Lib.hid (HB5.out.below hb6)
  have HC6 := Lib.hid (HC5.out.below hb6)
  have HD6 := Lib.hid (HD5.out.below hb6)
  have HQz6 := Lib.hid (HQz5.out.below hb6)
  have HQ16 := Lib.hid (HQ15.out.below hb6)
  have HQ26 := Lib.hid (HQ25.out.below hb6)
  have HQ36 := Lib.hid (HQ35.out.below hb6)
  clear HL5 HX5 HA5 HB5 HC5 HD5 HQz5 HQ15 HQ25 HQ35 hb6
  have fC0 := HC6.out.cell 0 _ rfl
  have fC1 := HC6.out.cell 1 _ rfl
  have fC2 := HC6.out.cell 2 _ rfl
  have fC3 := HC6.out.cell 3 _ rfl
  have lC := HC6.out.lt
  go_wp2_with fail
  clear fC0 fC1 fC2 fC3 lC
  refine (C6.out _ _ HQ36.out).mono ?_
  rintro e w7 ⟨⟨v7a, v7c, v7j, v7d⟩, rfl, hq7, hb7⟩
  simp only [Qv.done]
  have HL7 := Lib.hid (kb_ HL6.out hb7)
  have HX7 := Lib.hid (HX6.out.below hb7)
  have HA7 := Lib.hid (HA6.out.below hb7)
  have HB7 := Lib.hid (HB6.out.below hb7)
  have HC7 := Lib.hid (HC6.out.below hb7)
  have HD7 := Lib.hid (HD6.out.below hb7)
  have HQz7 := Lib.hid (HQz6.out.below hb7)
  have HQ17 := Lib.hid (HQ16.out.below hb7)
  have HQ27 := Lib.hid (HQ26.out.below hb7)
  have HQ37 := Lib.hid (HQ36.out.below hb7)
  clear HL6 HX6 HA6 HB6 HC6 HD6 HQz6 HQ16 HQ26 HQ36 hb7
  obtain ⟨BE, hBE⟩ : ∃ b, b = w7.heap.size := ⟨_, rfl⟩
  have HE7' := Lib.hid (show Blk (w7.alloc (.cells #[.slice v7a q4.qs.length v7c, .slice v7j q4.js.length v7d, .int .i64 0, .int .i64 0] 45)) BE 45 [.slice v7a q4.qs.length v7c, .slice v7j q4.js.length v7d, .int .i64 0, .int .i64 0] from by rw [hBE]; exact Blk.new w7 45 [.slice v7a q4.qs.length v7c, .slice v7j q4.js.length v7d, .int .i64 0, .int .i64 0])
  have HQn := Lib.hid (hq7.below (ba_ (b0_ w7) (.cells #[.slice v7a q4.qs.length v7c, .slice v7j q4.js.length v7d, .int .i64 0, .int .i64 0] 45)).out)
  have HX7' := Lib.hid (HX7.out.alloc (.cells #[.slice v7a q4.qs.length v7c, .slice v7j q4.js.length v7d, .int .i64 0, .int .i64 0] 45))
  have HA7' := Lib.hid (HA7.out.alloc (.cells #[.slice v7a q4.qs.length v7c, .slice v7j q4.js.length v7d, .int .i64 0, .int .i64 0] 45))
  have HB7' := Lib.hid (HB7.out.alloc (.cells #[.slice v7a q4.qs.length v7c, .slice v7j q4.js.length v7d, .int .i64 0, .int .i64 0] 45))
  have HC7' := Lib.hid (HC7.out.alloc (.cells #[.slice v7a q4.qs.length v7c, .slice v7j q4.js.length v7d, .int .i64 0, .int .i64 0] 45))
  have HD7' := Lib.hid (HD7.out.alloc (.cells #[.slice v7a q4.qs.length v7c, .slice v7j q4.js.length v7d, .int .i64 0, .int .i64 0] 45))
  have HQz7' := Lib.hid (HQz7.out.below (ba_ (b0_ w7) (.cells #[.slice v7a q4.qs.length v7c, .slice v7j q4.js.length v7d, .int .i64 0, .int .i64 0] 45)).out)
  have HQ17' := Lib.hid (HQ17.out.below (ba_ (b0_ w7) (.cells #[.slice v7a q4.qs.length v7c, .slice v7j q4.js.length v7d, .int .i64 0, .int .i64 0] 45)).out)
  have HQ27' := Lib.hid (HQ27.out.below (ba_ (b0_ w7) (.cells #[.slice v7a q4.qs.length v7c, .slice v7j q4.js.length v7d, .int .i64 0, .int .i64 0] 45)).out)
  have HQ37' := Lib.hid (HQ37.out.below (ba_ (b0_ w7) (.cells #[.slice v7a q4.qs.length v7c, .slice v7j q4.js.length v7d, .int .i64 0, .int .i64 0] 45)).out)
  have HL7' := Lib.hid (ba_ HL7.out (.cells #[.slice v7a q4.qs.length v7c, .slice v7j q4.js.length v7d, .int .i64 0, .int .i64 0] 45))
  clear HL7 HX7 HA7 HB7 HC7 HD7 HQz7 HQ17 HQ27 HQ37 hq7
  go_wp2_with fail
  rw [← hBE]
  clear hBE
  generalize w7.alloc (.cells #[.slice v7a q4.qs.length v7c, .slice v7j q4.js.length v7d, .int .i64 0, .int .i64 0] 45) = W7 at HL7' HE7' HQn HX7' HA7' HB7' HC7' HD7' HQz7' HQ17' HQ27' HQ37' ⊢
  have HL7 := HL7'; clear HL7'
  have HE7 := HE7'; clear HE7'
  have HX7 := HX7'; clear HX7'
  have HA7 := HA7'; clear HA7'
  have HB7 := HB7'; clear HB7'
  have HC7 := HC7'; clear HC7'
  have HD7 := HD7'; clear HD7'
  have HQz7 := HQz7'; clear HQz7'
  have HQ17 := HQ17'; clear HQ17'
  have HQ27 := HQ27'; clear HQ27'
  have HQ37 := HQ37'; clear HQ37'
  have HQ47 := HQn; clear HQn
  refine (C7.out _ _ HQ47.out).mono ?_
  rintro e w8 ⟨⟨v8a, v8c, v8j, v8d⟩, rfl, hq8, hb8⟩
  simp only [Qv.done]
  have HL8 := Lib.hid (kb_ HL7.out hb8)
  have HX8 := Lib.hid (HX7.out.below hb8)
  have HA8 := Lib.hid (HA7.out.below hb8)
  have HB8 := Lib.hid (HB7.out.below hb8)
  have HC8 := Lib.hid (HC7.out.below hb8)
  have HD8 := Lib.hid (HD7.out.below hb8)
  have HE8 := Lib.hid (HE7.out.below hb8)
  have HQz8 := Lib.hid (HQz7.out.below hb8)
  have HQ18 := Lib.hid (HQ17.out.below hb8)
  have HQ28 := Lib.hid (HQ27.out.below hb8)
  have HQ38 := Lib.hid (HQ37.out.below hb8)
  have HQ48 := Lib.hid (HQ47.out.below hb8)
  clear HL7 HX7 HA7 HB7 HC7 HD7 HE7 HQz7 HQ17 HQ27 HQ37 HQ47 hb8
  have fE0 := HE8.out.cell 0 _ rfl
  have fE1 := HE8.out.cell 1 _ rfl
  have fE2 := HE8.out.cell 2 _ rfl
  have fE3 := HE8.out.cell 3 _ rfl
  have lE := HE8.out.lt
  obtain ⟨BF, hBF⟩ : ∃ b, b = w8.heap.size := ⟨_, rfl⟩
  have HF8' := Lib.hid (show Blk (w8.alloc (.cells #[.slice v8a q4.qs.length v8c, .slice v8j q4.js.length v8d, .int .i64 0, .int .i64 410] 45)) BF 45 [.slice v8a q4.qs.length v8c, .slice v8j q4.js.length v8d, .int .i64 0, .int .i64 410] from by rw [hBF]; exact Blk.new w8 45 [.slice v8a q4.qs.length v8c, .slice v8j q4.js.length v8d, .int .i64 0, .int .i64 410])
  have HQn := Lib.hid (hq8.below (ba_ (b0_ w8) (.cells #[.slice v8a q4.qs.length v8c, .slice v8j q4.js.length v8d, .int .i64 0, .int .i64 410] 45)).out)
  have HX8' := Lib.hid (HX8.out.alloc (.cells #[.slice v8a q4.qs.length v8c, .slice v8j q4.js.length v8d, .int .i64 0, .int .i64 410] 45))
  have HA8' := Lib.hid (HA8.out.alloc (.cells #[.slice v8a q4.qs.length v8c, .slice v8j q4.js.length v8d, .int .i64 0, .int .i64 410] 45))
  have HB8' := Lib.hid (HB8.out.alloc (.cells #[.slice v8a q4.qs.length v8c, .slice v8j q4.js.length v8d, .int .i64 0, .int .i64 410] 45))
  have HC8' := Lib.hid (HC8.out.alloc (.cells #[.slice v8a q4.qs.length v8c, .slice v8j q4.js.length v8d, .int .i64 0, .int .i64 410] 45))
  have HD8' := Lib.hid (HD8.out.alloc (.cells #[.slice v8a q4.qs.length v8c, .slice v8j q4.js.length v8d, .int .i64 0, .int .i64 410] 45))
  have HE8' := Lib.hid (HE8.out.alloc (.cells #[.slice v8a q4.qs.length v8c, .slice v8j q4.js.length v8d, .int .i64 0, .int .i64 410] 45))
  have HQz8' := Lib.hid (HQz8.out.below (ba_ (b0_ w8) (.cells #[.slice v8a q4.qs.length v8c, .slice v8j q4.js.length v8d, .int .i64 0, .int .i64 410] 45)).out)
  have HQ18' := Lib.hid (HQ18.out.below (ba_ (b0_ w8) (.cells #[.slice v8a q4.qs.length v8c, .slice v8j q4.js.length v8d, .int .i64 0, .int .i64 410] 45)).out)
  have HQ28' := Lib.hid (HQ28.out.below (ba_ (b0_ w8) (.cells #[.slice v8a q4.qs.length v8c, .slice v8j q4.js.length v8d, .int .i64 0, .int .i64 410] 45)).out)
  have HQ38' := Lib.hid (HQ38.out.below (ba_ (b0_ w8) (.cells #[.slice v8a q4.qs.length v8c, .slice v8j q4.js.length v8d, .int .i64 0, .int .i64 410] 45)).out)
  have HQ48' := Lib.hid (HQ48.out.below (ba_ (b0_ w8) (.cells #[.slice v8a q4.qs.length v8c, .slice v8j q4.js.length v8d, .int .i64 0, .int .i64 410] 45)).out)
  have HL8' := Lib.hid (ba_ HL8.out (.cells #[.slice v8a q4.qs.length v8c, .slice v8j q4.js.length v8d, .int .i64 0, .int .i64 410] 45))
  clear HL8 HX8 HA8 HB8 HC8 HD8 HE8 HQz8 HQ18 HQ28 HQ38 HQ48 hq8
  go_wp2_with fail
  clear fE0 fE1 fE2 fE3 lE
  rw [← hBF]
  clear hBF
  generalize w8.alloc (.cells #[.slice v8a q4.qs.length v8c, .slice v8j q4.js.length v8d, .int .i64 0, .int .i64 410] 45) = W8 at HL8' HF8' HQn HX8' HA8' HB8' HC8' HD8' HE8' HQz8' HQ18' HQ28' HQ38' HQ48' ⊢
  have HL8 := HL8'; clear HL8'
  have HF8 := HF8'; clear HF8'
  have HX8 := HX8'; clear HX8'
  have HA8 := HA8'; clear HA8'
  have HB8 := HB8'; clear HB8'
  have HC8 := HC8'; clear HC8'
  have HD8 := HD8'; clear HD8'
  have HE8 := HE8'; clear HE8'
  have HQz8 := HQz8'; clear HQz8'
  have HQ18 := HQ18'; clear HQ18'
  have HQ28 := HQ28'; clear HQ28'
  have HQ38 := HQ38'; clear HQ38'
  have HQ48 := HQ48'; clear HQ48'
  clear HQn
  refine (C8.out _ _ HQ48.out).mono ?_
  rintro e w9 ⟨v9, rfl, _, hb9⟩
  simp only [Qv.done]
  have HL9 := Lib.hid (kb_ HL8.out hb9)
  have HX9 := Lib.hid (HX8.out.below hb9)
  have HA9 := Lib.hid (HA8.out.below hb9)
  have HB9 := Lib.hid (HB8.out.below hb9)
  have HC9 := Lib.hid (HC8.out.below hb9)
  have HD9 := Lib.hid (HD8.out.below hb9)
  have HE9 := Lib.hid (HE8.out.below hb9)
  have HF9 := Lib.hid (HF8.out.below hb9)
  have HQz9 := Lib.hid (HQz8.out.below hb9)
  have HQ19 := Lib.hid (HQ18.out.below hb9)
  have HQ29 := Lib.hid (HQ28.out.below hb9)
  have HQ39 := Lib.hid (HQ38.out.below hb9)
  have HQ49 := Lib.hid (HQ48.out.below hb9)
  clear HL8 HX8 HA8 HB8 HC8 HD8 HE8 HF8 HQz8 HQ18 HQ28 HQ38 HQ48 hb9
  have fE0 := HE9.out.cell 0 _ rfl
  have fE1 := HE9.out.cell 1 _ rfl
  have fE2 := HE9.out.cell 2 _ rfl
  have fE3 := HE9.out.cell 3 _ rfl
  have lE := HE9.out.lt
  go_wp2_with fail
  clear fE0 fE1 fE2 fE3 lE
  refine (C9.out _ _ HQ49.out).mono ?_
  rintro e w10 ⟨rfl, hb10⟩
  have HL10 := Lib.hid (kb_ HL9.out hb10)
  have HX10 := Lib.hid (HX9.out.below hb10)
  have HA10 := Lib.hid (HA9.out.below hb10)
  have HB10 := Lib.hid (HB9.out.below hb10)
  have HC10 := Lib.hid (HC9.out.below hb10)
  have HD10 := Lib.hid (HD9.out.below hb10)
  have HE10 := Lib.hid (HE9.out.below hb10)
  have HF10 := Lib.hid (HF9.out.below hb10)
  have HQz10 := Lib.hid (HQz9.out.below hb10)
  have HQ110 := Lib.hid (HQ19.out.below hb10)
  have HQ210 := Lib.hid (HQ29.out.below hb10)
  have HQ310 := Lib.hid (HQ39.out.below hb10)
  have HQ410 := Lib.hid (HQ49.out.below hb10)
  clear HL9 HX9 HA9 HB9 HC9 HD9 HE9 HF9 HQz9 HQ19 HQ29 HQ39 HQ49 hb10
  have fX0 := HX10.out.cell 0 _ rfl
  have fX1 := HX10.out.cell 1 _ rfl
  have lX := HX10.out.lt
  go_wp2_with fail
  clear fX0 fX1 lX
  refine (CA.out _ _ HQz10.out).mono ?_
  rintro e w11 ⟨v11, rfl, _, hb11⟩
  simp only [Qv.done]
  have HL11 := Lib.hid (kb_ HL10.out hb11)
  have HX11 := Lib.hid (HX10.out.below hb11)
  have HA11 := Lib.hid (HA10.out.below hb11)
  have HB11 := Lib.hid (HB10.out.below hb11)
  have HC11 := Lib.hid (HC10.out.below hb11)
  have HD11 := Lib.hid (HD10.out.below hb11)
  have HE11 := Lib.hid (HE10.out.below hb11)
  have HF11 := Lib.hid (HF10.out.below hb11)
  have HQz11 := Lib.hid (HQz10.out.below hb11)
  have HQ111 := Lib.hid (HQ110.out.below hb11)
  have HQ211 := Lib.hid (HQ210.out.below hb11)
  have HQ311 := Lib.hid (HQ310.out.below hb11)
  have HQ411 := Lib.hid (HQ410.out.below hb11)
  clear HL10 HX10 HA10 HB10 HC10 HD10 HE10 HF10 HQz10 HQ110 HQ210 HQ310 HQ410 hb11
  have fX0 := HX11.out.cell 0 _ rfl
  have fX1 := HX11.out.cell 1 _ rfl
  have lX := HX11.out.lt
  go_wp2_with fail
  clear fX0 fX1 lX
  refine (CB.out _ _ HQz11.out).mono ?_
  rintro e w12 ⟨v12, rfl, _, hb12⟩
  simp only [Qv.done]
  have HL12 := Lib.hid (kb_ HL11.out hb12)
  have HX12 := Lib.hid (HX11.out.below hb12)
  have HA12 := Lib.hid (HA11.out.below hb12)
  have HB12 := Lib.hid (HB11.out.below hb12)
  have HC12 := Lib.hid (HC11.out.below hb12)
  have HD12 := Lib.hid (HD11.out.below hb12)
  have HE12 := Lib.hid (HE11.out.below hb12)
  have HF12 := Lib.hid (HF11.out.below hb12)
  have HQz12 := Lib.hid (HQz11.out.below hb12)
  have HQ112 := Lib.hid (HQ111.out.below hb12)
  have HQ212 := Lib.hid (HQ211.out.below hb12)
  have HQ312 := Lib.hid (HQ311.out.below hb12)
  have HQ412 := Lib.hid (HQ411.out.below hb12)
  clear HL11 HX11 HA11 HB11 HC11 HD11 HE11 HF11 HQz11 HQ111 HQ211 HQ311 HQ411 hb12
  go_wp2
  go_ret
  exact ⟨rfl, HL12.out.out⟩
end Go.Proofs.Ytopmdgheacjkcaa
