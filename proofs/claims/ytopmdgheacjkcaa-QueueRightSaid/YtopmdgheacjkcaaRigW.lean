/- The walk of QueueRight. -/
import Derived.Test.YtopmdgheacjkcaaT32
import Derived.Test.YtopmdgheacjkcaaT31
import Derived.Test.YtopmdgheacjkcaaP9
import Derived.Test.YtopmdgheacjkcaaP10
import Derived.Deep.RegionWith
import Derived.Deep.RegionLaw
import Derived.Deep.CutRange
import Derived.Deep.DeepCutAuto
set_option linter.unusedVariables false
set_option linter.unusedSimpArgs false
namespace Go.Proofs.Ytopmdgheacjkcaa
open Go.RowKit
open Go.Proofs.YtopmdgheacjkcaaW.PrintLast
open Go.Proofs.YtopmdgheacjkcaaW.PrintWords (Aside0 nums own_other own_type_ne own_ne own_setCell own_base own_lt pw_own_below own_at own_store own_take)
def T3_5 : Bool × List (List Nat × List Nat) := (true, [([], []), ([], []), ([1], [1]), ([0, 2], [0, 2]), ([], []), ([], []), ([5], [5]), ([4, 6, 3], [4, 6]), ([3, 7], [3, 7]), ([], []), ([9, 8, 7, 0, 1, 2, 3, 4, 5, 6, 7, 8, 9], [8, 9])])
def B3_5 : List Nat := [0, 0, 2, 7, 0, 0, 32, 127, 255, 0, 1023]
theorem tab3_5 : rtab .any (opsOf Try.f3 5) = T3_5 := by kernel_rfl
theorem bits3_5 : waitsOk T3_5.2 B3_5 = true := by kernel_rfl
theorem BelC.bel {w w' : World} (h : BelC w w') : Below w.heap.size w w' := h
theorem jrow_drew {w : World} {b : Nat} {v : Value} {xs : List J} (h : JRow w b v xs) : JRow w.drew b v xs := h
theorem blk_drew {w : World} {g : Nat} {t : TypeId} {cs : List Value} (h : Blk w g t cs) : Blk w.drew g t cs := h
theorem own_cap {w : World} {base g n c : Nat} {xs : List Value} (h : w.ownsRow base 3 1 (.slice (some ⟨g, 0, none⟩) n c) n xs) : n ≤ c := by
  rcases h.2 with ⟨h', _⟩ | ⟨g', cap', cur', h', _, hh, hnc, _⟩
  · cases h'
  · cases h'
    exact hnc
theorem and_bd (x m : Int) (h0 : 0 ≤ m) (h1 : m ≤ 255) : 0 ≤ bits .and .i64 x m ∧ bits .and .i64 x m ≤ m := by
  obtain ⟨n, rfl⟩ := Int.eq_ofNat_of_zero_le h0
  have hb : (BitVec.ofInt 64 (n : Int)).toNat = n := by
    rw [BitVec.ofInt_natCast, BitVec.toNat_ofNat]
    exact Nat.mod_eq_of_lt (by omega)
  have hle : (BitVec.ofInt 64 x &&& BitVec.ofInt 64 (n : Int)).toNat ≤ n := by
    rw [BitVec.toNat_and, hb]
    exact Nat.and_le_right
  have he : bits .and .i64 x (n : Int) = ((BitVec.ofInt 64 x &&& BitVec.ofInt 64 (n : Int)).toNat : Int) := by
    show IntKind.i64.wrap _ = _
    rw [IntKind.wrap_i64]
    show (((BitVec.ofInt 64 x &&& BitVec.ofInt 64 (n : Int)).toNat : Int) + 9223372036854775808) % 18446744073709551616 - 9223372036854775808 = _
    omega
  omega
set_option maxHeartbeats 16000000 in
set_option maxRecDepth 100000 in
theorem right_walk (a b c : Int) (A : Option Addr) (cap : Nat) (l : List Raw) (z0 z1 z2 : Int) (w : World) (ha : 0 ≤ a ∧ a ≤ 255) (hb : 0 ≤ b ∧ b ≤ 255) (hc : 0 ≤ c ∧ c ≤ 255) (hl : l.length ≤ 100000000000000) (hr : RRow w A l) (hok : ∀ x ∈ l, x.Ok) :
    Calls Try.prog 3 #[.agg #[.int .u8 a, .int .u8 b, .int .u8 c], .slice A l.length cap, .agg #[.int .i64 z0, .int .i64 z1, .int .i64 z2]] w fun e w' => e = .returned (.bool true) ∧ Below w.heap.size w w' := by
  have hmade := fun W hr => made_calls a b c A cap l W ha hb hc hl hr hok
  have hmq := madeQ a b c l (qsOf_ok a b c)
  generalize madeS (qsOf a b c) (l.take 20) = q at hmade hmq
  have HM := Lib.hid hmq; clear hmq
  have HMADE := Lib.hid hmade; clear hmade
  have HR := Lib.hid hr; clear hr hok hl ha hb hc
  have hlen := HM.out.len
  have HQ3 := Lib.hid HM.out.inv.q3
  have HL0 := ba_ (ba_ (b0_ w) (.cells #[.int .u8 a, .int .u8 b, .int .u8 c] 22)) (.cells #[.int .i64 z0, .int .i64 z1, .int .i64 z2] 24)
  have HA0 := Lib.hid (Blk.alloc (Blk.new w 22 [.int .u8 a, .int .u8 b, .int .u8 c]) (.cells #[.int .i64 z0, .int .i64 z1, .int .i64 z2] 24))
  have HZ0 := Lib.hid (blk_new' (w.alloc (.cells #[.int .u8 a, .int .u8 b, .int .u8 c] 22)) (w.heap.size + 1) (by simp) 24 [.int .i64 z0, .int .i64 z1, .int .i64 z2])
  go_enter Try.func3, Try.ntmps3
  go_wp2_with fail
  refine (examples_calls _).mono ?_
  rintro e w1 ⟨rfl, hb1⟩
  have HL1 := kb_ HL0 hb1
  have HA1 := Lib.hid (HA0.out.below hb1)
  have HZ1 := Lib.hid (HZ0.out.below hb1)
  clear hb1 HL0 HA0 HZ0
  have a0 := HA1.out.cell 0 _ rfl
  have a1 := HA1.out.cell 1 _ rfl
  have a2 := HA1.out.cell 2 _ rfl
  go_wp2_with fail
  refine (HMADE.out _ (HR.out.below HL1.out)).mono ?_
  rintro e w2 ⟨⟨qa, qc, ja, jc⟩, rfl, hq2, hb2⟩
  have HL2 := kb_ HL1 hb2
  have HZ2 := Lib.hid (HZ1.out.below hb2)
  have HQz := Lib.hid hq2
  clear hb2 hq2 HL1 HA1 a0 a1 a2 HMADE HR HZ1
  unfold Qv.val
  have HX := Lib.hid (Blk.new w2 29 [.slice qa q.qs.length qc, .slice ja q.js.length jc])
  have HL := ba_ HL2 (.cells #[.slice qa q.qs.length qc, .slice ja q.js.length jc] 29)
  have HQ := Lib.hid (HQz.out.below (ba_ (b0_ w2) (.cells #[.slice qa q.qs.length qc, .slice ja q.js.length jc] 29)).out)
  have HZ := Lib.hid (HZ2.out.alloc (.cells #[.slice qa q.qs.length qc, .slice ja q.js.length jc] 29))
  clear HL2 HZ2 HQz
  go_upto_region 5 with (fail)
  obtain ⟨wr, hwr⟩ : ∃ wr : World, wr = w2.alloc (.cells #[.slice qa q.qs.length qc, .slice ja q.js.length jc] 29) := ⟨_, rfl⟩
  rw [← hwr] at HX HL HQ HZ ⊢
  clear hwr
  obtain ⟨Xb, hXb⟩ : ∃ x, x = w2.heap.size := ⟨_, rfl⟩
  rw [← hXb] at HX ⊢
  clear hXb
  refine start_ (n := 11) (S := fun w' => True) (ds := []) #[false, false, false, false, false, false, false, false, false, false, false] (by kernel_rfl) rfl rfl trivial (fun hHeld => ?_)
  refine with_tabW tab3_5 bits3_5 (fun HT_ HW_ => ?_)
  have BW := (bd_ (b0_ wr)).out
  refine pure_ (i := 1) (N := some 20) (v := ?_) (a' := ?_) #[false, true, false, false, false, false, false, false, false, false, false] rfl rfl (any_of HT_.out (by kernel_rfl)) (fun _ _ _ h => h) (Or.inl ⟨by rfl, ?_⟩) ?_ ?_
  rotate_left
  · intro w'
    go_simp
    with_reducible rfl
  rotate_left
  · simp only [Act.put, List.setIfInBounds_toArray, List.set_cons_zero, List.set_cons_succ, i64_w, i32_w]
    rfl
  refine pure_ (i := 5) (N := some 24) (v := ?_) (a' := ?_) #[false, true, false, false, false, true, false, false, false, false, false] rfl rfl (any_of HT_.out (by kernel_rfl)) (fun _ _ _ h => h) (Or.inl ⟨by rfl, ?_⟩) ?_ ?_
  rotate_left
  · intro w'
    go_simp
    with_reducible rfl
  rotate_left
  · simp only [Act.put, List.setIfInBounds_toArray, List.set_cons_zero, List.set_cons_succ, i64_w, i32_w]
    rfl
  refine inv_at [0, 2, 3, 4, 6, 7, 8, 9, 10] (fun a0_ b a w' => ∃ (g0 : Nat) (g3 : Nat) (c3 : Nat) (g4 : Nat) (A7 : Option Addr) (c7 : Nat) (g9 : Nat) (m0_ : Value) (m3_ : Value) (m4_ : Value) (m7_ : Value) (m8_ : Value) (m9_ : Value), a = putSel a0_ b [(0, 19, m0_), (2, 21, .slice qa q.qs.length qc), (3, 22, m3_), (4, 23, m4_), (6, 25, .slice ja q.js.length jc), (7, 26, m7_), (8, 27, m8_), (9, 9, m9_)] ∧ (Below wr.heap.size wr w') ∧ (b 0 = true → b 3 = false → w'.ownsRow wr.heap.size 3 1 (.slice (some ⟨g0, 0, none⟩) 0 0) 0 []) ∧ (b 3 = true → w'.ownsRow wr.heap.size 3 1 (.slice (some ⟨g3, 0, none⟩) q.qs.length c3) q.qs.length (nums .i64 q.qs)) ∧ (b 4 = true → b 7 = false → JRow w' wr.heap.size (.slice (some ⟨g4, 0, none⟩) 0 0) []) ∧ (b 7 = true → JRow w' wr.heap.size (.slice A7 q.js.length c7) q.js) ∧ (b 9 = true → b 10 = false → Blk w' g9 29 [.slice none 0 0, .slice none 0 0]) ∧ (b 9 = true → wr.heap.size ≤ g9) ∧ (b 10 = true → Blk w' g9 29 [.slice (some ⟨g3, 0, none⟩) q.qs.length c3, .slice A7 q.js.length c7]) ∧ (b 0 = true → (m0_ : Value) = .slice (some ⟨g0, 0, none⟩) 0 0) ∧ (b 3 = true → (m3_ : Value) = .slice (some ⟨g3, 0, none⟩) q.qs.length c3) ∧ (b 4 = true → (m4_ : Value) = .slice (some ⟨g4, 0, none⟩) 0 0) ∧ (b 7 = true → (m7_ : Value) = .slice A7 q.js.length c7) ∧ (b 8 = true → (m8_ : Value) = .agg #[.slice (some ⟨g3, 0, none⟩) q.qs.length c3, .slice A7 q.js.length c7]) ∧ (b 9 = true → (m9_ : Value) = .pointer (some ⟨g9, 0, none⟩))) HT_.out HW_.out (by kernel_rfl) (by kernel_rfl) ?_ ?_ ?_
  · exact ⟨0, 0, 0, 0, none, 0, 0, .bool false, .bool false, .bool false, .bool false, .bool false, .bool false, by simp only [putSel, Bool.false_eq_true, if_false], BW, fun h_ => absurd h_ (by decide), fun h_ => absurd h_ (by decide), fun h_ => absurd h_ (by decide), fun h_ => absurd h_ (by decide), fun h_ => absurd h_ (by decide), fun h_ => absurd h_ (by decide), fun h_ => absurd h_ (by decide), fun h_ => absurd h_ (by decide), fun h_ => absurd h_ (by decide), fun h_ => absurd h_ (by decide), fun h_ => absurd h_ (by decide), fun h_ => absurd h_ (by decide), fun h_ => absurd h_ (by decide)⟩
  · skip
    clear BW
    refine steps_cons ?_ ?_
    · rintro b a w' ⟨g0, g3, c3, g4, A7, c7, g9, m0_, m3_, m4_, m7_, m8_, m9_, ha, Q_BW, Q_I0, Q_I3, Q_J4, Q_J7, Q_Z9, Q_G9, Q_E10, Q_X0_, Q_X3_, Q_X4_, Q_X7_, Q_X8_, Q_X9_⟩ hb_ hon hoff
      refine ⟨_, rfl, fun K hK => ?_⟩
      replace ha := Aside0.mk ha
      have BW := Aside0.mk Q_BW
      refine value_ (w1 := ?_) (v := ?_) (by rfl) rfl ?_ ?_
      rotate_left 2
      · go_simp
        constructor
        · rfl
        · rfl
      refine hK.out _ _ ⟨w'.heap.size, g3, c3, g4, A7, c7, g9, (.slice (some ⟨w'.heap.size, 0, none⟩) 0 0), m3_, m4_, m7_, m8_, m9_, (by rw [ha.out]; exact putSel_upk 0 hb_ rfl rfl rfl), (ba_ (Lib.hid BW.out) _).out, fun _ _ => ilit w' _ BW.out.size, fun h0_ => absurd ((hoff 3 (by kernel_rfl)).symm.trans h0_) (by decide), fun h0_ h1_ => (Q_J4 h0_ h1_).below (ba_ (b0_ w') (.cells #[] 3)).out, fun h0_ => absurd ((hoff 7 (by kernel_rfl)).symm.trans h0_) (by decide), fun h0_ h1_ => (Q_Z9 h0_ h1_).alloc _, Q_G9, fun h0_ => absurd ((hoff 10 (by kernel_rfl)).symm.trans h0_) (by decide), fun _ => rfl, fun h0_ => absurd ((hoff 3 (by kernel_rfl)).symm.trans h0_) (by decide), Q_X4_, fun h0_ => absurd ((hoff 7 (by kernel_rfl)).symm.trans h0_) (by decide), fun h0_ => absurd ((hoff 8 (by kernel_rfl)).symm.trans h0_) (by decide), Q_X9_⟩
    refine steps_cons ?_ ?_
    · rintro b a w' ⟨g0, g3, c3, g4, A7, c7, g9, m0_, m3_, m4_, m7_, m8_, m9_, ha, Q_BW, Q_I0, Q_I3, Q_J4, Q_J7, Q_Z9, Q_G9, Q_E10, Q_X0_, Q_X3_, Q_X4_, Q_X7_, Q_X8_, Q_X9_⟩ hb_ hon hoff
      refine ⟨_, rfl, fun K hK => ?_⟩
      have e20 : a.tmps[20]? = some (.pointer (some ⟨Xb, 0, none⟩)) := by rw [ha]; exact (putSel_off rfl).trans rfl
      replace ha := Aside0.mk ha
      have BW := Aside0.mk Q_BW
      have x0 := (HX.out.below BW.out).cell 0 _ rfl
      have x1 := (HX.out.below BW.out).cell 1 _ rfl
      refine value_ (w1 := w') (v := .slice qa q.qs.length qc) (by rfl) rfl ?_ ?_
      · go_simp
        (try simp only [i64_w])
        try rfl
      refine hK.out _ _ ⟨g0, g3, c3, g4, A7, c7, g9, m0_, m3_, m4_, m7_, m8_, m9_, (by rw [ha.out]; exact putSel_upk 1 hb_ rfl rfl rfl), Q_BW, Q_I0, fun h0_ => absurd ((hoff 3 (by kernel_rfl)).symm.trans h0_) (by decide), Q_J4, fun h0_ => absurd ((hoff 7 (by kernel_rfl)).symm.trans h0_) (by decide), Q_Z9, Q_G9, fun h0_ => absurd ((hoff 10 (by kernel_rfl)).symm.trans h0_) (by decide), Q_X0_, fun h0_ => absurd ((hoff 3 (by kernel_rfl)).symm.trans h0_) (by decide), Q_X4_, fun h0_ => absurd ((hoff 7 (by kernel_rfl)).symm.trans h0_) (by decide), fun h0_ => absurd ((hoff 8 (by kernel_rfl)).symm.trans h0_) (by decide), Q_X9_⟩
    refine steps_cons ?_ ?_
    · rintro b a w' ⟨g0, g3, c3, g4, A7, c7, g9, m0_, m3_, m4_, m7_, m8_, m9_, ha, Q_BW, Q_I0, Q_I3, Q_J4, Q_J7, Q_Z9, Q_G9, Q_E10, Q_X0_, Q_X3_, Q_X4_, Q_X7_, Q_X8_, Q_X9_⟩ hb_ hon hoff
      refine ⟨_, rfl, fun K hK => ?_⟩
      have e19 : a.tmps[19]? = some (m0_) := by rw [ha]; exact putSel_on (e := (0, 19, m0_)) 0 rfl rfl (hon 0 (by kernel_rfl)) rfl
      rw [Q_X0_ (hon 0 (by kernel_rfl))] at e19
      have e21 : a.tmps[21]? = some (.slice qa q.qs.length qc) := by rw [ha]; exact putSel_on (e := (2, 21, .slice qa q.qs.length qc)) 1 rfl rfl (hon 2 (by kernel_rfl)) rfl
      replace ha := Aside0.mk ha
      have BW := Aside0.mk Q_BW
      have I0 := Aside0.mk (Q_I0 (hon 0 (by kernel_rfl)) hb_)
      obtain ⟨g3_, c3_, w3, hr3, ho3, hg3⟩ := run_app_ints w' wr.heap.size g0 0 q.qs qa qc 26 I0.out (HQ.out.below BW.out).quota BW.out.size (by have := HQ3.out; omega) (by have := HQ3.out; omega)
      refine value_ (w1 := w3) (v := .slice (some ⟨g3_, 0, none⟩) q.qs.length c3_) (by rfl) rfl (exec_app _ _ rfl (by simp only [Act.eval, Array.getD_eq_getD_getElem?, e19, Option.getD_some]) (by simp only [Act.eval, Array.getD_eq_getD_getElem?, e21, Option.getD_some]) hr3) ?_
      refine hK.out _ _ ⟨g0, g3_, c3_, g4, A7, c7, g9, m0_, (.slice (some ⟨g3_, 0, none⟩) q.qs.length c3_), m4_, m7_, m8_, m9_, (by rw [ha.out]; exact putSel_upk 2 hb_ rfl rfl rfl), BW.out.grown hg3 BW.out.size (fun k hk => own_base I0.out k hk), fun _ h1_ => absurd ((up_self b 3).symm.trans h1_) (by decide), fun _ => ho3, fun h0_ h1_ => own_other (Q_J4 h0_ h1_) hg3 (own_type_ne (Q_J4 h0_ h1_) I0.out (by decide)), fun h0_ => absurd ((hoff 7 (by kernel_rfl)).symm.trans h0_) (by decide), fun h0_ h1_ => (Q_Z9 h0_ h1_).grown hg3 (own_ne I0.out (Q_Z9 h0_ h1_) (by decide)), Q_G9, fun h0_ => absurd ((hoff 10 (by kernel_rfl)).symm.trans h0_) (by decide), Q_X0_, fun _ => rfl, Q_X4_, fun h0_ => absurd ((hoff 7 (by kernel_rfl)).symm.trans h0_) (by decide), fun h0_ => absurd ((hoff 8 (by kernel_rfl)).symm.trans h0_) (by decide), Q_X9_⟩
    refine steps_cons ?_ ?_
    · rintro b a w' ⟨g0, g3, c3, g4, A7, c7, g9, m0_, m3_, m4_, m7_, m8_, m9_, ha, Q_BW, Q_I0, Q_I3, Q_J4, Q_J7, Q_Z9, Q_G9, Q_E10, Q_X0_, Q_X3_, Q_X4_, Q_X7_, Q_X8_, Q_X9_⟩ hb_ hon hoff
      refine ⟨_, rfl, fun K hK => ?_⟩
      replace ha := Aside0.mk ha
      have BW := Aside0.mk Q_BW
      refine value_ (w1 := ?_) (v := ?_) (by rfl) rfl ?_ ?_
      rotate_left 2
      · go_simp
        constructor
        · rfl
        · rfl
      refine hK.out _ _ ⟨g0, g3, c3, w'.heap.size, A7, c7, g9, m0_, m3_, (.slice (some ⟨w'.heap.size, 0, none⟩) 0 0), m7_, m8_, m9_, (by rw [ha.out]; exact putSel_upk 3 hb_ rfl rfl rfl), (ba_ (Lib.hid BW.out) _).out, fun h0_ h1_ => pw_own_below (Q_I0 h0_ h1_) (ba_ (b0_ w') (.cells #[] 40)).out, fun h0_ => pw_own_below (Q_I3 h0_) (ba_ (b0_ w') (.cells #[] 40)).out, fun _ _ => JRow.lit w' _ BW.out.size, fun h0_ => absurd ((hoff 7 (by kernel_rfl)).symm.trans h0_) (by decide), fun h0_ h1_ => (Q_Z9 h0_ h1_).alloc _, Q_G9, fun h0_ => absurd ((hoff 10 (by kernel_rfl)).symm.trans h0_) (by decide), Q_X0_, Q_X3_, fun _ => rfl, fun h0_ => absurd ((hoff 7 (by kernel_rfl)).symm.trans h0_) (by decide), fun h0_ => absurd ((hoff 8 (by kernel_rfl)).symm.trans h0_) (by decide), Q_X9_⟩
    refine steps_cons ?_ ?_
    · rintro b a w' ⟨g0, g3, c3, g4, A7, c7, g9, m0_, m3_, m4_, m7_, m8_, m9_, ha, Q_BW, Q_I0, Q_I3, Q_J4, Q_J7, Q_Z9, Q_G9, Q_E10, Q_X0_, Q_X3_, Q_X4_, Q_X7_, Q_X8_, Q_X9_⟩ hb_ hon hoff
      refine ⟨_, rfl, fun K hK => ?_⟩
      have e24 : a.tmps[24]? = some (.pointer (some ⟨Xb, 1, none⟩)) := by rw [ha]; exact (putSel_off rfl).trans rfl
      replace ha := Aside0.mk ha
      have BW := Aside0.mk Q_BW
      have x0 := (HX.out.below BW.out).cell 0 _ rfl
      have x1 := (HX.out.below BW.out).cell 1 _ rfl
      refine value_ (w1 := w') (v := .slice ja q.js.length jc) (by rfl) rfl ?_ ?_
      · go_simp
        (try simp only [i64_w])
        try rfl
      refine hK.out _ _ ⟨g0, g3, c3, g4, A7, c7, g9, m0_, m3_, m4_, m7_, m8_, m9_, (by rw [ha.out]; exact putSel_upk 4 hb_ rfl rfl rfl), Q_BW, Q_I0, Q_I3, Q_J4, fun h0_ => absurd ((hoff 7 (by kernel_rfl)).symm.trans h0_) (by decide), Q_Z9, Q_G9, fun h0_ => absurd ((hoff 10 (by kernel_rfl)).symm.trans h0_) (by decide), Q_X0_, Q_X3_, Q_X4_, fun h0_ => absurd ((hoff 7 (by kernel_rfl)).symm.trans h0_) (by decide), fun h0_ => absurd ((hoff 8 (by kernel_rfl)).symm.trans h0_) (by decide), Q_X9_⟩
    refine steps_cons ?_ ?_
    · rintro b a w' ⟨g0, g3, c3, g4, A7, c7, g9, m0_, m3_, m4_, m7_, m8_, m9_, ha, Q_BW, Q_I0, Q_I3, Q_J4, Q_J7, Q_Z9, Q_G9, Q_E10, Q_X0_, Q_X3_, Q_X4_, Q_X7_, Q_X8_, Q_X9_⟩ hb_ hon hoff
      refine ⟨_, rfl, fun K hK => ?_⟩
      have e23 : a.tmps[23]? = some (m4_) := by rw [ha]; exact putSel_on (e := (4, 23, m4_)) 3 rfl rfl (hon 4 (by kernel_rfl)) rfl
      rw [Q_X4_ (hon 4 (by kernel_rfl))] at e23
      have e25 : a.tmps[25]? = some (.slice ja q.js.length jc) := by rw [ha]; exact putSel_on (e := (6, 25, .slice ja q.js.length jc)) 4 rfl rfl (hon 6 (by kernel_rfl)) rfl
      replace ha := Aside0.mk ha
      have BW := Aside0.mk Q_BW
      have I3 := Aside0.mk (Q_I3 (hon 3 (by kernel_rfl)))
      have J4 := Aside0.mk (Q_J4 (hon 4 (by kernel_rfl)) hb_)
      obtain ⟨A7_, c7_, w3, hr3, ho3, hg3, hc3⟩ := run_app_jobs w' wr.heap.size g4 0 q.js ja jc 27 J4.out (HQ.out.below BW.out).jobs BW.out.size (by omega)
      refine value_ (w1 := w3) (v := .slice A7_ q.js.length c7_) (by rfl) rfl (exec_app _ _ rfl (by simp only [Act.eval, Array.getD_eq_getD_getElem?, e23, Option.getD_some]) (by simp only [Act.eval, Array.getD_eq_getD_getElem?, e25, Option.getD_some]) hr3) ?_
      refine hK.out _ _ ⟨g0, g3, c3, g4, A7_, c7_, g9, m0_, m3_, m4_, (.slice A7_ q.js.length c7_), m8_, m9_, (by rw [ha.out]; exact putSel_upk 5 hb_ rfl rfl rfl), BW.out.grown hg3 BW.out.size (fun k hk => own_base J4.out k hk), fun _ h1_ => absurd ((hon 3 (by kernel_rfl)).symm.trans h1_) (by decide), fun _ => own_other I3.out hg3 (own_type_ne I3.out J4.out (by decide)), fun _ h1_ => absurd ((up_self b 7).symm.trans h1_) (by decide), fun _ => ho3, fun h0_ h1_ => (Q_Z9 h0_ h1_).grown hg3 (own_ne J4.out (Q_Z9 h0_ h1_) (by decide)), Q_G9, fun h0_ => absurd ((hoff 10 (by kernel_rfl)).symm.trans h0_) (by decide), Q_X0_, Q_X3_, Q_X4_, fun _ => rfl, fun h0_ => absurd ((hoff 8 (by kernel_rfl)).symm.trans h0_) (by decide), Q_X9_⟩
    refine steps_cons ?_ ?_
    · rintro b a w' ⟨g0, g3, c3, g4, A7, c7, g9, m0_, m3_, m4_, m7_, m8_, m9_, ha, Q_BW, Q_I0, Q_I3, Q_J4, Q_J7, Q_Z9, Q_G9, Q_E10, Q_X0_, Q_X3_, Q_X4_, Q_X7_, Q_X8_, Q_X9_⟩ hb_ hon hoff
      refine ⟨_, rfl, fun K hK => ?_⟩
      have e22 : a.tmps[22]? = some (m3_) := by rw [ha]; exact putSel_on (e := (3, 22, m3_)) 2 rfl rfl (hon 3 (by kernel_rfl)) rfl
      rw [Q_X3_ (hon 3 (by kernel_rfl))] at e22
      have e26 : a.tmps[26]? = some (m7_) := by rw [ha]; exact putSel_on (e := (7, 26, m7_)) 5 rfl rfl (hon 7 (by kernel_rfl)) rfl
      rw [Q_X7_ (hon 7 (by kernel_rfl))] at e26
      replace ha := Aside0.mk ha
      have BW := Aside0.mk Q_BW
      have I3 := Aside0.mk (Q_I3 (hon 3 (by kernel_rfl)))
      have J7 := Aside0.mk (Q_J7 (hon 7 (by kernel_rfl)))
      refine value_ (w1 := w') (v := .agg #[.slice (some ⟨g3, 0, none⟩) q.qs.length c3, .slice A7 q.js.length c7]) (by rfl) rfl ?_ ?_
      · go_simp
        (try simp only [i64_w])
        try rfl
      refine hK.out _ _ ⟨g0, g3, c3, g4, A7, c7, g9, m0_, m3_, m4_, m7_, (.agg #[.slice (some ⟨g3, 0, none⟩) q.qs.length c3, .slice A7 q.js.length c7]), m9_, (by rw [ha.out]; exact putSel_upk 6 hb_ rfl rfl rfl), Q_BW, fun _ h1_ => absurd ((hon 3 (by kernel_rfl)).symm.trans h1_) (by decide), Q_I3, fun _ h1_ => absurd ((hon 7 (by kernel_rfl)).symm.trans h1_) (by decide), Q_J7, Q_Z9, Q_G9, fun h0_ => absurd ((hoff 10 (by kernel_rfl)).symm.trans h0_) (by decide), Q_X0_, Q_X3_, Q_X4_, Q_X7_, fun _ => rfl, Q_X9_⟩
    refine steps_cons ?_ ?_
    · rintro b a w' ⟨g0, g3, c3, g4, A7, c7, g9, m0_, m3_, m4_, m7_, m8_, m9_, ha, Q_BW, Q_I0, Q_I3, Q_J4, Q_J7, Q_Z9, Q_G9, Q_E10, Q_X0_, Q_X3_, Q_X4_, Q_X7_, Q_X8_, Q_X9_⟩ hb_ hon hoff
      refine ⟨_, rfl, fun K hK => ?_⟩
      replace ha := Aside0.mk ha
      have BW := Aside0.mk Q_BW
      refine value_ (w1 := ?_) (v := ?_) (by rfl) rfl ?_ ?_
      rotate_left 2
      · go_simp
        constructor
        · rfl
        · rfl
      refine hK.out _ _ ⟨g0, g3, c3, g4, A7, c7, w'.heap.size, m0_, m3_, m4_, m7_, m8_, (.pointer (some ⟨w'.heap.size, 0, none⟩)), (by rw [ha.out]; exact putSel_upk 7 hb_ rfl rfl rfl), (ba_ (Lib.hid BW.out) _).out, fun h0_ h1_ => pw_own_below (Q_I0 h0_ h1_) (ba_ (b0_ w') (.cells #[.slice none 0 0, .slice none 0 0] 29)).out, fun h0_ => pw_own_below (Q_I3 h0_) (ba_ (b0_ w') (.cells #[.slice none 0 0, .slice none 0 0] 29)).out, fun h0_ h1_ => (Q_J4 h0_ h1_).below (ba_ (b0_ w') (.cells #[.slice none 0 0, .slice none 0 0] 29)).out, fun h0_ => (Q_J7 h0_).below (ba_ (b0_ w') (.cells #[.slice none 0 0, .slice none 0 0] 29)).out, fun _ _ => Blk.new w' 29 [.slice none 0 0, .slice none 0 0], fun _ => BW.out.size, fun h0_ => absurd ((hoff 10 (by kernel_rfl)).symm.trans h0_) (by decide), Q_X0_, Q_X3_, Q_X4_, Q_X7_, Q_X8_, fun _ => rfl⟩
    refine steps_cons ?_ ?_
    · rintro b a w' ⟨g0, g3, c3, g4, A7, c7, g9, m0_, m3_, m4_, m7_, m8_, m9_, ha, Q_BW, Q_I0, Q_I3, Q_J4, Q_J7, Q_Z9, Q_G9, Q_E10, Q_X0_, Q_X3_, Q_X4_, Q_X7_, Q_X8_, Q_X9_⟩ hb_ hon hoff
      refine ⟨_, rfl, fun K hK => ?_⟩
      have e9 : a.tmps[9]? = some (m9_) := by rw [ha]; exact putSel_on (e := (9, 9, m9_)) 7 rfl rfl (hon 9 (by kernel_rfl)) rfl
      rw [Q_X9_ (hon 9 (by kernel_rfl))] at e9
      have e27 : a.tmps[27]? = some (m8_) := by rw [ha]; exact putSel_on (e := (8, 27, m8_)) 6 rfl rfl (hon 8 (by kernel_rfl)) rfl
      rw [Q_X8_ (hon 8 (by kernel_rfl))] at e27
      replace ha := Aside0.mk ha
      have BW := Aside0.mk Q_BW
      have I3 := Aside0.mk (Q_I3 (hon 3 (by kernel_rfl)))
      have J7 := Aside0.mk (Q_J7 (hon 7 (by kernel_rfl)))
      have Z9 := Aside0.mk (Q_Z9 (hon 9 (by kernel_rfl)) hb_)
      have G9 := Aside0.mk (Q_G9 (hon 9 (by kernel_rfl)))
      have z0 := Z9.out.cell 0 _ rfl
      have z1 := Z9.out.cell 1 _ rfl
      have zf := Z9.out.frozen
      refine skip_ (w1 := ?_) (by rfl) rfl ?_ ?_
      rotate_left
      · go_simp
        rfl
      refine hK.out _ _ ⟨g0, g3, c3, g4, A7, c7, g9, m0_, m3_, m4_, m7_, m8_, m9_, (by rw [ha.out]; exact putSel_none (v := undef) rfl), below_setCells (w := 0) [.slice (some ⟨g3, 0, none⟩) q.qs.length c3, .slice A7 q.js.length c7] 0 wr w' BW.out G9.out, fun _ h1_ => absurd ((hon 3 (by kernel_rfl)).symm.trans h1_) (by decide), fun _ => own_setCells [.slice (some ⟨g3, 0, none⟩) q.qs.length c3, .slice A7 q.js.length c7] 0 w' I3.out (own_ne I3.out Z9.out (by decide)), fun _ h1_ => absurd ((hon 7 (by kernel_rfl)).symm.trans h1_) (by decide), fun _ => own_setCells [.slice (some ⟨g3, 0, none⟩) q.qs.length c3, .slice A7 q.js.length c7] 0 w' J7.out (own_ne J7.out Z9.out (by decide)), fun _ h1_ => absurd ((up_self b 10).symm.trans h1_) (by decide), Q_G9, fun _ => Z9.out.put [.slice (some ⟨g3, 0, none⟩) q.qs.length c3, .slice A7 q.js.length c7] rfl, Q_X0_, Q_X3_, Q_X4_, Q_X7_, Q_X8_, Q_X9_⟩
    exact steps_nil
  rintro b a w' hall ⟨g0, g3, c3, g4, A7, c7, g9, m0_, m3_, m4_, m7_, m8_, m9_, ha, Q_BW, Q_I0, Q_I3, Q_J4, Q_J7, Q_Z9, Q_G9, Q_E10, Q_X0_, Q_X3_, Q_X4_, Q_X7_, Q_X8_, Q_X9_⟩
  clear BW
  have hb0_ := hall 0 (by kernel_rfl)
  have hb2_ := hall 2 (by kernel_rfl)
  have hb3_ := hall 3 (by kernel_rfl)
  have hb4_ := hall 4 (by kernel_rfl)
  have hb6_ := hall 6 (by kernel_rfl)
  have hb7_ := hall 7 (by kernel_rfl)
  have hb8_ := hall 8 (by kernel_rfl)
  have hb9_ := hall 9 (by kernel_rfl)
  have hb10_ := hall 10 (by kernel_rfl)
  subst ha
  obtain rfl := Q_X0_ hb0_
  obtain rfl := Q_X3_ hb3_
  obtain rfl := Q_X4_ hb4_
  obtain rfl := Q_X7_ hb7_
  obtain rfl := Q_X8_ hb8_
  obtain rfl := Q_X9_ hb9_
  simp only [putSel, hb0_, hb2_, hb3_, hb4_, hb6_, hb7_, hb8_, hb9_, hb10_, if_true, Act.put, List.setIfInBounds_toArray, List.set_cons_zero, List.set_cons_succ]
  have BW := Aside0.mk Q_BW
  clear Q_BW
  clear Q_I0
  have I3 := Aside0.mk (Q_I3 hb3_)
  clear Q_I3
  clear Q_J4
  have J7 := Aside0.mk (Q_J7 hb7_)
  clear Q_J7
  clear Q_Z9
  have G9 := Aside0.mk (Q_G9 hb9_)
  clear Q_G9
  have E10 := Aside0.mk (Q_E10 hb10_)
  clear Q_E10
  clear hall hb0_ hb2_ hb3_ hb4_ hb6_ hb7_ hb8_ hb9_ hb10_
  have HB5 := Lib.hid BW.out
  have HI5 := Lib.hid I3.out
  have HJ5 := Lib.hid J7.out
  have HO5 := Lib.hid E10.out
  have HG := Lib.hid (show w.heap.size ≤ wr.heap.size ∧ wr.heap.size ≤ g9 from ⟨HL.out.size, G9.out⟩)
  clear BW I3 J7 E10 G9
  obtain ⟨k, hk⟩ : ∃ k : Int, bits .and .i64 z0 15 = k := ⟨_, rfl⟩
  obtain ⟨y, hy⟩ : ∃ y : Int, bits .and .i64 z1 255 = y := ⟨_, rfl⟩
  have hk0 : 0 ≤ k ∧ k ≤ 15 := by rw [← hk]; exact and_bd z0 15 (by decide) (by decide)
  have hy0 : 0 ≤ y ∧ y ≤ 255 := by rw [← hy]; exact and_bd z1 255 (by decide) (by decide)
  obtain ⟨m, hm⟩ : ∃ m : Nat, y % 3 = (m : Int) := ⟨(y % 3).toNat, by have := Int.emod_nonneg y (show (3 : Int) ≠ 0 by omega); omega⟩
  have hm3 : m < 3 := by have := Int.emod_lt_of_pos y (show (0 : Int) < 3 by omega); omega
  have HK := Lib.hid hk
  have HY := Lib.hid hy
  clear hy
  have t0 := (HZ.out.below HB5.out).cell 0 _ rfl
  go_upto_if 32 with (fail)
  clear t0 hk
  go_cut [] (fun wx => ∃ qs' : List Int, qs'.length = q.qs.length ∧ Hid (Below wr.heap.size wr wx) ∧ Hid (wx.ownsRow wr.heap.size 3 1 (.slice (some ⟨g3, 0, none⟩) q.qs.length c3) q.qs.length (nums .i64 qs')) ∧ Hid (JRow wx wr.heap.size (.slice A7 q.js.length c7) q.js) ∧ Hid (Blk wx g9 29 [.slice (some ⟨g3, 0, none⟩) q.qs.length c3, .slice A7 q.js.length c7]))
  case first =>
    by_cases h : k = 0
    · have e1 : (k == 0) = true := by simpa using h
      have t1 := (HZ.out.below HB5.out).cell 1 _ rfl
      have t2 := (HZ.out.below HB5.out).cell 2 _ rfl
      have o0 := HO5.out.cell 0 _ rfl
      have hq3 : (q.qs.length : Int) = 3 := by have := HQ3.out; omega
      obtain ⟨hc0, hf0⟩ := own_at HI5.out (m : Int) (by omega) (by omega)
      obtain ⟨r, hr⟩ : ∃ r, Go.Proofs.YtopmdgheacjkcaaW.PrintWords.rd q.qs (m : Int) = r := ⟨_, rfl⟩
      rw [hr] at hc0
      have hc : w'.cell? ⟨g3, m, none⟩ = some (.int .i64 r) := by simpa using hc0
      have hf : w'.frozen? ⟨g3, m, none⟩ = false := by simpa using hf0
      clear hc0 hf0 hr
      have E1 : y.tmod 3 = (m : Int) := by rw [Int.tmod_eq_emod_of_nonneg hy0.1, hm]
      have hI0 : (0 : Int) ≤ (m : Int) := by omega
      have hI2 : (m : Int) < (q.qs.length : Int) := by omega
      have hy2 := HY.out
      have HSET := Lib.hid (show ∀ V, (w'.setCell ⟨g3, m, none⟩ (.int .i64 V)).ownsRow wr.heap.size 3 1 (.slice (some ⟨g3, 0, none⟩) q.qs.length c3) q.qs.length (nums .i64 (q.qs.set m V)) ∧ w'.grownBy (w'.setCell ⟨g3, m, none⟩ (.int .i64 V)) (some g3) from fun V => own_store HI5.out (m : Int) V)
      have HBG := Lib.hid (show wr.heap.size ≤ g3 from own_base HI5.out g3 rfl)
      clear hq3 hm h hm3
      go_wp2_with fail
      go_region_law (fail)
      all_goals
        go_wp2_with fail
        go_meet
        exact ⟨q.qs.set m _, List.length_set, bd_ (bs_ HB5 (p := ⟨g3, m, none⟩) HBG.out _), Lib.hid (HSET.out _).1, Lib.hid (jrow_drew (own_other HJ5.out (HSET.out _).2 (own_type_ne HJ5.out HI5.out (by decide)))), Lib.hid (blk_drew (Blk.grown HO5.out (HSET.out _).2 (own_ne HI5.out HO5.out (by decide))))⟩
    · have e1 : (k == 0) = false := by simpa using h
      clear h
      go_wp2_with fail
      go_meet
      exact ⟨q.qs, rfl, HB5, HI5, HJ5, HO5⟩
  case rest =>
    obtain ⟨qs1, hqs1, HB1, HI1, HJ1, HO1⟩ := hcut
    clear HB5 HI5 HJ5 HO5
    go_upto_if 46 with (fail)
    go_cut [] (fun wx => ∃ qs' : List Int, qs'.length ≤ 3 ∧ Hid (Below wr.heap.size wr wx) ∧ Hid (wx.ownsRow wr.heap.size 3 1 (.slice (some ⟨g3, 0, none⟩) qs'.length c3) qs'.length (nums .i64 qs')) ∧ Hid (JRow wx wr.heap.size (.slice A7 q.js.length c7) q.js) ∧ Hid (Blk wx g9 29 [.slice (some ⟨g3, 0, none⟩) qs'.length c3, .slice A7 q.js.length c7]))
    case first =>
      have hqs3 := HQ3.out
      have hcap : 3 ≤ c3 := by have := own_cap HI1.out; omega
      by_cases h : k = 1
      · have e1 : (k == 1) = true := by simpa using h
        have o0 := HO1.out.cell 0 _ rfl
        have o0f := HO1.out.frozen
        have hq3 : (2 : Int) ≤ (q.qs.length : Int) := by omega
        have hq4 : (2 : Int) ≤ (c3 : Int) := by omega
        have HT := Lib.hid (show wc.ownsRow wr.heap.size 3 1 (.slice (some ⟨g3, 0, none⟩) (qs1.take 2).length c3) (qs1.take 2).length (nums .i64 (qs1.take 2)) from by
          have h2 := own_take HI1.out (m := 2) (by omega)
          have e : (qs1.take 2).length = 2 := by simp; omega
          rw [e]
          simpa [nums, List.map_take] using h2)
        have he2 : (qs1.take 2).length = 2 := by simp; omega
        have HE2 := Lib.hid he2
        clear h hqs3 hcap he2
        go_wp2_with fail
        go_meet
        exact ⟨qs1.take 2, by rw [HE2.out]; decide, bs_ HB1 (p := ⟨g9, 0, none⟩) HG.out.2 _, Lib.hid (own_setCell HT.out (p := ⟨g9, 0, none⟩) (own_ne HT.out HO1.out (by decide)) _), Lib.hid (own_setCell HJ1.out (p := ⟨g9, 0, none⟩) (own_ne HJ1.out HO1.out (by decide)) _), Lib.hid (by rw [HE2.out]; exact HO1.out.set 0 _)⟩
      · have e1 : (k == 1) = false := by simpa using h
        have HLE := Lib.hid (show qs1.length ≤ 3 by omega)
        have HQE := Lib.hid hqs1
        clear h hqs3 hcap hqs1
        go_wp2_with fail
        go_meet
        exact ⟨qs1, HLE.out, HB1, Lib.hid (by rw [HQE.out]; exact HI1.out), HJ1, Lib.hid (by rw [HQE.out]; exact HO1.out)⟩
    case rest =>
      obtain ⟨qs2, hqs2, HB2, HI2, HJ2, HO2⟩ := hcut
      clear HB1 HI1 HJ1 HO1
      have hqsn : q.qs.length = 3 := HQ3.out
      have HQSN := Lib.hid hqsn
      clear hqsn hqs1
      go_upto_region 11 with (fail)
      obtain ⟨wB, hwB⟩ : ∃ x : World, x = wc := ⟨_, rfl⟩
      rw [← hwB] at HB2 HI2 HJ2 HO2 ⊢
      clear hwB
      have o1 := HO2.out.cell 1 _ rfl
      obtain ⟨bc, hbc⟩ : ∃ bc : Bool, decide (0 < q.js.length ∧ 2 ≤ k) = bc := ⟨_, rfl⟩
      have HBC := Lib.hid hbc
      clear hbc
      go_cut [58] (fun t58 wx => t58 = .bool bc ∧ Hid (wx = wB))
      case first =>
        by_cases h1 : 0 < q.js.length
        · by_cases h2 : 2 ≤ k
          · have e1 : decide (0 < q.js.length) = true := decide_eq_true h1
            have e2 : decide (1 < k) = true := decide_eq_true (by omega)
            have HD : Hid (decide (0 < q.js.length ∧ 2 ≤ k) = true) := decide_eq_true ⟨h1, h2⟩
            clear h1 h2
            go_wp2_with fail
            go_meet
            exact ⟨by rw [← HBC.out, HD.out], Lib.hid rfl⟩
          · have e1 : decide (0 < q.js.length) = true := decide_eq_true h1
            have e2 : decide (1 < k) = false := decide_eq_false (by omega)
            have HD : Hid (decide (0 < q.js.length ∧ 2 ≤ k) = false) := decide_eq_false (by omega)
            clear h1 h2
            go_wp2_with fail
            go_meet
            exact ⟨by rw [← HBC.out, HD.out], Lib.hid rfl⟩
        · have e1 : decide (0 < q.js.length) = false := decide_eq_false h1
          have HD : Hid (decide (0 < q.js.length ∧ 2 ≤ k) = false) := decide_eq_false (by omega)
          clear h1
          go_wp2_with fail
          go_meet
          exact ⟨by rw [← HBC.out, HD.out], Lib.hid rfl⟩
      case rest =>
        obtain ⟨rfl, hw⟩ := hcut
        obtain rfl := hw.out
        clear hw o1
        go_upto_if 58 with (fail)
        go_cut [] (fun wx => ∃ js' : List J, js'.length = q.js.length ∧ Hid (Below wr.heap.size wr wx) ∧ Hid (wx.ownsRow wr.heap.size 3 1 (.slice (some ⟨g3, 0, none⟩) qs2.length c3) qs2.length (nums .i64 qs2)) ∧ Hid (JRow wx wr.heap.size (.slice A7 q.js.length c7) js') ∧ Hid (Blk wx g9 29 [.slice (some ⟨g3, 0, none⟩) qs2.length c3, .slice A7 q.js.length c7]))
        case first =>
          cases bc with
          | true =>
            obtain ⟨hc1, hk2⟩ := of_decide_eq_true HBC.out
            obtain ⟨g7, hA7⟩ : ∃ g7, A7 = some ⟨g7, 0, none⟩ := by
              rcases HJ2.out.cases with ⟨_, h⟩ | ⟨g7, c, hv, hcap⟩
              · rw [h] at hc1; simp at hc1
              · cases hv; exact ⟨g7, rfl⟩
            subst hA7
            have HOD := Lib.hid (show OddAt wr g3 c3 g9 g7 c7 qs2 q.js wc from ⟨HB2.out, HI2.out, HJ2.out, HO2.out⟩)
            obtain ⟨n, hn⟩ : ∃ n : Nat, y % (q.js.length : Int) = (n : Int) := ⟨(y % (q.js.length : Int)).toNat, by have := Int.emod_nonneg y (show (q.js.length : Int) ≠ 0 by omega); omega⟩
            have hnl : n < q.js.length := by have := Int.emod_lt_of_pos y (show (0 : Int) < (q.js.length : Int) by omega); omega
            obtain ⟨b, hb'⟩ : ∃ b, q.js[n]? = some b := ⟨_, List.getElem?_eq_getElem hnl⟩
            have hid1 : b.id = (n : Int) + 1 := HM.out.rt.ids n b hb'
            obtain ⟨h0, h1, h2, h3, h4, h5, h6, h7, h8, h9, h10⟩ := HOD.out.jrow.cell n b hb'
            have o1 := HOD.out.blk.cell 1 _ rfl
            have s1 := (HZ.out.below HOD.out.below).cell 1 _ rfl
            have hy2 := HY.out
            have E1 : y.tmod (q.js.length : Int) = (n : Int) := by rw [Int.tmod_eq_emod_of_nonneg hy0.1, hn]
            have hz : (q.js.length : Int) ≠ 0 := by omega
            have hz1 : ((q.js.length : Int) == 0) = false := by simpa using (show q.js ≠ [] from fun e => by rw [e] at hc1; simp at hc1)
            have hz2 : ¬ q.js = [] := fun e => by rw [e] at hc1; simp at hc1
            have hI0 : (0 : Int) ≤ (n : Int) := by omega
            have hI2 : (n : Int) < (q.js.length : Int) := by omega
            have HBJ := Lib.hid hb'
            have HID := Lib.hid hid1
            have HN := Lib.hid hnl
            clear hb' hid1 hnl hn
            go_wp2_with fail
            go_region_held3 (fun w' => w'.cell? ⟨g9, 1, none⟩ = some (.slice (some ⟨g7, 0, none⟩) q.js.length c7) ∧ w'.cell? ⟨w.heap.size + 1, 1, none⟩ = some (.int .i64 z1) ∧ w'.cell? ⟨g7, n * 11, none⟩ = some (.int .i64 b.id) ∧ w'.cell? ⟨g7, n * 11 + 1, none⟩ = some (.int .i64 b.tn) ∧ w'.cell? ⟨g7, n * 11 + 2, none⟩ = some (.int .i64 b.pr) ∧ w'.cell? ⟨g7, n * 11 + 3, none⟩ = some (.int .i64 b.kn) ∧ w'.cell? ⟨g7, n * 11 + 4, none⟩ = some (.int .i64 b.bd) ∧ w'.cell? ⟨g7, n * 11 + 5, none⟩ = some (.int .i64 b.im.g) ∧ w'.cell? ⟨g7, n * 11 + 6, none⟩ = some (.slice b.im.ar.a b.im.ar.n b.im.ar.c) ∧ w'.cell? ⟨g7, n * 11 + 7, none⟩ = some (.slice b.im.gl.a b.im.gl.n b.im.gl.c) ∧ w'.cell? ⟨g7, n * 11 + 8, none⟩ = some (.slice b.im.gr.a b.im.gr.n b.im.gr.c) ∧ w'.cell? ⟨g7, n * 11 + 9, none⟩ = some (.int .i64 b.st) ∧ w'.cell? ⟨g7, n * 11 + 10, none⟩ = some (.int .i64 b.av)) (go_keep) (fail)
            obtain ⟨W12, hW12⟩ : ∃ W, (wc.alloc (.cells #[.int .i64 b.id, .int .i64 b.tn, .int .i64 b.pr, .int .i64 b.kn, .int .i64 b.bd, .int .i64 b.im.g, .slice b.im.ar.a b.im.ar.n b.im.ar.c, .slice b.im.gl.a b.im.gl.n b.im.gl.c, .slice b.im.gr.a b.im.gr.n b.im.gr.c, .int .i64 b.st, .int .i64 b.av] 40)).drew = W := ⟨_, rfl⟩
            have HOD2 := Lib.hid (show OddAt wr g3 c3 g9 g7 c7 qs2 q.js W12 from by rw [← hW12]; exact HOD.out.new _)
            have HJ12 := Lib.hid (show Blk W12 wc.heap.size 40 [.int .i64 b.id, .int .i64 b.tn, .int .i64 b.pr, .int .i64 b.kn, .int .i64 b.bd, .int .i64 b.im.g, .slice b.im.ar.a b.im.ar.n b.im.ar.c, .slice b.im.gl.a b.im.gl.n b.im.gl.c, .slice b.im.gr.a b.im.gr.n b.im.gr.c, .int .i64 b.st, .int .i64 b.av] from by rw [← hW12]; exact Blk.new wc 40 [.int .i64 b.id, .int .i64 b.tn, .int .i64 b.pr, .int .i64 b.kn, .int .i64 b.bd, .int .i64 b.im.g, .slice b.im.ar.a b.im.ar.n b.im.ar.c, .slice b.im.gl.a b.im.gl.n b.im.gl.c, .slice b.im.gr.a b.im.gr.n b.im.gr.c, .int .i64 b.st, .int .i64 b.av])
            have HJB := Lib.hid HOD.out.lts
            rw [hW12]
            clear hW12
            obtain ⟨Jb, hJb⟩ : ∃ x, x = wc.heap.size := ⟨_, rfl⟩
            rw [← hJb] at HJ12 HJB ⊢
            clear hJb h0 h1 h2 h3 h4 h5 h6 h7 h8 h9 h10 o1 s1 HOD HB2 HI2 HJ2 HO2 hy2 E1 hz hz1 hz2
            have E2 : IntKind.i64.wrap (b.id - 1) = (n : Int) := by rw [HID.out, i64w _ (by omega) (by omega)]; omega
            have jq := HJ12.out.cell 0 _ rfl
            go_upto_block 0 with (fail)
            clear jq E2
            go_cut [] (fun wx => ∃ b' : J, Hid (OddAt wr g3 c3 g9 g7 c7 qs2 q.js wx) ∧ Hid (Blk wx Jb 40 b'.cells))
            case first =>
              have jf := HJ12.out.frozen
              have s2 := (HZ.out.below HOD2.out.below).cell 2 _ rfl
              obtain hv | hv | hv | hv | hv | hv | hv | hv | hv | hv : k = 2 ∨ k = 3 ∨ k = 4 ∨ k = 5 ∨ k = 6 ∨ k = 7 ∨ k = 8 ∨ k = 9 ∨ k = 10 ∨ 11 ≤ k := by omega
              · have e0 : (k == 2) = true := by simpa using hv
                have jx := HJ12.out.cell 0 _ rfl
                clear hv hk2
                go_wp2_with fail
                go_meet
                exact ⟨{ b with id := wrap64 (b.id + z2) }, Lib.hid (HOD2.out.setJ HJB.out.1 HJB.out.2.1 HJB.out.2.2.1 HJB.out.2.2.2 0 (.int .i64 (wrap64 (b.id + z2)))), Lib.hid (HJ12.out.set 0 (.int .i64 (wrap64 (b.id + z2))))⟩
              · have e0 : (k == 3) = true := by simpa using hv
                have n2 : (k == 2) = false := by simpa using fun e : k = 2 => by omega
                have jx := HJ12.out.cell 1 _ rfl
                clear hv hk2
                go_wp2_with fail
                go_meet
                exact ⟨{ b with tn := wrap64 (b.tn + z2) }, Lib.hid (HOD2.out.setJ HJB.out.1 HJB.out.2.1 HJB.out.2.2.1 HJB.out.2.2.2 1 (.int .i64 (wrap64 (b.tn + z2)))), Lib.hid (HJ12.out.set 1 (.int .i64 (wrap64 (b.tn + z2))))⟩
              · have e0 : (k == 4) = true := by simpa using hv
                have n2 : (k == 2) = false := by simpa using fun e : k = 2 => by omega
                have n3 : (k == 3) = false := by simpa using fun e : k = 3 => by omega
                have jx := HJ12.out.cell 2 _ rfl
                clear hv hk2
                go_wp2_with fail
                go_meet
                exact ⟨{ b with pr := wrap64 (b.pr + z2) }, Lib.hid (HOD2.out.setJ HJB.out.1 HJB.out.2.1 HJB.out.2.2.1 HJB.out.2.2.2 2 (.int .i64 (wrap64 (b.pr + z2)))), Lib.hid (HJ12.out.set 2 (.int .i64 (wrap64 (b.pr + z2))))⟩
              · have e0 : (k == 5) = true := by simpa using hv
                have n2 : (k == 2) = false := by simpa using fun e : k = 2 => by omega
                have n3 : (k == 3) = false := by simpa using fun e : k = 3 => by omega
                have n4 : (k == 4) = false := by simpa using fun e : k = 4 => by omega
                have jx := HJ12.out.cell 3 _ rfl
                clear hv hk2
                go_wp2_with fail
                go_meet
                exact ⟨{ b with kn := wrap64 (b.kn + z2) }, Lib.hid (HOD2.out.setJ HJB.out.1 HJB.out.2.1 HJB.out.2.2.1 HJB.out.2.2.2 3 (.int .i64 (wrap64 (b.kn + z2)))), Lib.hid (HJ12.out.set 3 (.int .i64 (wrap64 (b.kn + z2))))⟩
              · have e0 : (k == 6) = true := by simpa using hv
                have n2 : (k == 2) = false := by simpa using fun e : k = 2 => by omega
                have n3 : (k == 3) = false := by simpa using fun e : k = 3 => by omega
                have n4 : (k == 4) = false := by simpa using fun e : k = 4 => by omega
                have n5 : (k == 5) = false := by simpa using fun e : k = 5 => by omega
                have jx := HJ12.out.cell 4 _ rfl
                clear hv hk2
                go_wp2_with fail
                go_meet
                exact ⟨{ b with bd := wrap64 (b.bd + z2) }, Lib.hid (HOD2.out.setJ HJB.out.1 HJB.out.2.1 HJB.out.2.2.1 HJB.out.2.2.2 4 (.int .i64 (wrap64 (b.bd + z2)))), Lib.hid (HJ12.out.set 4 (.int .i64 (wrap64 (b.bd + z2))))⟩
              · have e0 : (k == 7) = true := by simpa using hv
                have n2 : (k == 2) = false := by simpa using fun e : k = 2 => by omega
                have n3 : (k == 3) = false := by simpa using fun e : k = 3 => by omega
                have n4 : (k == 4) = false := by simpa using fun e : k = 4 => by omega
                have n5 : (k == 5) = false := by simpa using fun e : k = 5 => by omega
                have n6 : (k == 6) = false := by simpa using fun e : k = 6 => by omega
                have jx := HJ12.out.cell 9 _ rfl
                clear hv hk2
                go_wp2_with fail
                go_meet
                exact ⟨{ b with st := wrap64 (b.st + z2) }, Lib.hid (HOD2.out.setJ HJB.out.1 HJB.out.2.1 HJB.out.2.2.1 HJB.out.2.2.2 9 (.int .i64 (wrap64 (b.st + z2)))), Lib.hid (HJ12.out.set 9 (.int .i64 (wrap64 (b.st + z2))))⟩
              · have e0 : (k == 8) = true := by simpa using hv
                have n2 : (k == 2) = false := by simpa using fun e : k = 2 => by omega
                have n3 : (k == 3) = false := by simpa using fun e : k = 3 => by omega
                have n4 : (k == 4) = false := by simpa using fun e : k = 4 => by omega
                have n5 : (k == 5) = false := by simpa using fun e : k = 5 => by omega
                have n6 : (k == 6) = false := by simpa using fun e : k = 6 => by omega
                have n7 : (k == 7) = false := by simpa using fun e : k = 7 => by omega
                have jx := HJ12.out.cell 9 _ rfl
                clear hv hk2
                go_wp2_with fail
                go_meet
                exact ⟨{ b with st := wrap64 (b.st + z2) }, Lib.hid (HOD2.out.setJ HJB.out.1 HJB.out.2.1 HJB.out.2.2.1 HJB.out.2.2.2 9 (.int .i64 (wrap64 (b.st + z2)))), Lib.hid (HJ12.out.set 9 (.int .i64 (wrap64 (b.st + z2))))⟩
              · have e0 : (k == 9) = true := by simpa using hv
                have n2 : (k == 2) = false := by simpa using fun e : k = 2 => by omega
                have n3 : (k == 3) = false := by simpa using fun e : k = 3 => by omega
                have n4 : (k == 4) = false := by simpa using fun e : k = 4 => by omega
                have n5 : (k == 5) = false := by simpa using fun e : k = 5 => by omega
                have n6 : (k == 6) = false := by simpa using fun e : k = 6 => by omega
                have n7 : (k == 7) = false := by simpa using fun e : k = 7 => by omega
                have n8 : (k == 8) = false := by simpa using fun e : k = 8 => by omega
                have jx := HJ12.out.cell 10 _ rfl
                clear hv hk2
                go_wp2_with fail
                go_meet
                exact ⟨{ b with av := wrap64 (b.av + z2) }, Lib.hid (HOD2.out.setJ HJB.out.1 HJB.out.2.1 HJB.out.2.2.1 HJB.out.2.2.2 10 (.int .i64 (wrap64 (b.av + z2)))), Lib.hid (HJ12.out.set 10 (.int .i64 (wrap64 (b.av + z2))))⟩
              · have e0 : (k == 10) = true := by simpa using hv
                have n2 : (k == 2) = false := by simpa using fun e : k = 2 => by omega
                have n3 : (k == 3) = false := by simpa using fun e : k = 3 => by omega
                have n4 : (k == 4) = false := by simpa using fun e : k = 4 => by omega
                have n5 : (k == 5) = false := by simpa using fun e : k = 5 => by omega
                have n6 : (k == 6) = false := by simpa using fun e : k = 6 => by omega
                have n7 : (k == 7) = false := by simpa using fun e : k = 7 => by omega
                have n8 : (k == 8) = false := by simpa using fun e : k = 8 => by omega
                have n9 : (k == 9) = false := by simpa using fun e : k = 9 => by omega
                have jx := HJ12.out.cell 9 _ rfl
                have jy := HJ12.out.cell 10 _ rfl
                clear hv hk2
                go_wp2_with fail
                go_meet
                exact ⟨{ b with st := 2, av := bits .and .i64 z2 3 }, Lib.hid ((HOD2.out.setJ HJB.out.1 HJB.out.2.1 HJB.out.2.2.1 HJB.out.2.2.2 9 (.int .i64 2)).setJ HJB.out.1 HJB.out.2.1 HJB.out.2.2.1 HJB.out.2.2.2 10 (.int .i64 (bits .and .i64 z2 3))), Lib.hid ((HJ12.out.set 9 (.int .i64 2)).set 10 (.int .i64 (bits .and .i64 z2 3)))⟩
              · have n2 : (k == 2) = false := by simpa using fun e : k = 2 => by omega
                have n3 : (k == 3) = false := by simpa using fun e : k = 3 => by omega
                have n4 : (k == 4) = false := by simpa using fun e : k = 4 => by omega
                have n5 : (k == 5) = false := by simpa using fun e : k = 5 => by omega
                have n6 : (k == 6) = false := by simpa using fun e : k = 6 => by omega
                have n7 : (k == 7) = false := by simpa using fun e : k = 7 => by omega
                have n8 : (k == 8) = false := by simpa using fun e : k = 8 => by omega
                have n9 : (k == 9) = false := by simpa using fun e : k = 9 => by omega
                have n10 : (k == 10) = false := by simpa using fun e : k = 10 => by omega
                have jx := HJ12.out.cell 9 _ rfl
                have jy := HJ12.out.cell 10 _ rfl
                clear hv hk2
                go_wp2_with fail
                go_meet
                exact ⟨{ b with st := 1, av := -1 }, Lib.hid ((HOD2.out.setJ HJB.out.1 HJB.out.2.1 HJB.out.2.2.1 HJB.out.2.2.2 9 (.int .i64 1)).setJ HJB.out.1 HJB.out.2.1 HJB.out.2.2.1 HJB.out.2.2.2 10 (.int .i64 (-1))), Lib.hid ((HJ12.out.set 9 (.int .i64 1)).set 10 (.int .i64 (-1)))⟩
            case rest =>
              obtain ⟨b', HOD3, HJ13⟩ := hcut
              have HJ13' : Hid (Blk wc Jb 40 [.int .i64 b'.id, .int .i64 b'.tn, .int .i64 b'.pr, .int .i64 b'.kn, .int .i64 b'.bd, .int .i64 b'.im.g, .slice b'.im.ar.a b'.im.ar.n b'.im.ar.c, .slice b'.im.gl.a b'.im.gl.n b'.im.gl.c, .slice b'.im.gr.a b'.im.gr.n b'.im.gr.c, .int .i64 b'.st, .int .i64 b'.av]) := HJ13
              have h0 := HOD3.out.jrow.cell n b HBJ.out
              obtain ⟨h0, h1, h2, h3, h4, h5, h6, h7, h8, h9, h10⟩ := h0
              have hfz := HOD3.out.jrow.frozenAt
              have j0 := HJ13'.out.cell 0 _ rfl
              have j1 := HJ13'.out.cell 1 _ rfl
              have j2 := HJ13'.out.cell 2 _ rfl
              have j3 := HJ13'.out.cell 3 _ rfl
              have j4 := HJ13'.out.cell 4 _ rfl
              have j5 := HJ13'.out.cell 5 _ rfl
              have j6 := HJ13'.out.cell 6 _ rfl
              have j7 := HJ13'.out.cell 7 _ rfl
              have j8 := HJ13'.out.cell 8 _ rfl
              have j9 := HJ13'.out.cell 9 _ rfl
              have j10 := HJ13'.out.cell 10 _ rfl
              have o1 := HOD3.out.blk.cell 1 _ rfl
              go_wp2_with fail
              go_meet
              have OD := HOD3.out.put n HN.out b'
              exact ⟨q.js.set n b', List.length_set, Lib.hid OD.below, Lib.hid OD.own, Lib.hid (by have h := OD.jrow; rw [List.length_set] at h; exact h), Lib.hid (by have h := OD.blk; rw [List.length_set] at h; exact h)⟩
          | false =>
            go_wp2_with fail
            go_meet
            exact ⟨q.js, rfl, HB2, HI2, HJ2, HO2⟩
        case rest =>
          obtain ⟨js3, hjs3, HB3, HI3, HJ3, HO3⟩ := hcut
          clear HB2 HI2 HJ2 HO2
          rw [← hjs3] at HJ3 HO3
          have HQO := Lib.hid (qin_of HI3.out HJ3.out)
          have HXr := Lib.hid (HX.out.below HB3.out)
          have HQr := Lib.hid (HQ.out.below HB3.out)
          have hlj : js3.length ≤ 1000 := by omega
          have hqs3 : q.qs.length ≤ 1000 := by have := HQSN.out; omega
          obtain ⟨bo, hbo⟩ : ∃ b : Bool, (b = true ↔ RightQ ⟨qs2, js3⟩) := by
            by_cases h : RightQ ⟨qs2, js3⟩
            · exact ⟨true, by simp [h]⟩
            · exact ⟨false, by simp [h]⟩
          have hrq : ∀ W, QIn W ⟨qa, qc, ja, jc⟩ q → Calls Try.prog 11 #[.agg #[.slice qa q.qs.length qc, .slice ja q.js.length jc]] W fun e w' => e = .returned (.bool true) ∧ Below W.heap.size W w' := fun W hq => (pright_calls ⟨qa, qc, ja, jc⟩ q W hq (by omega) hqs3).mono (by rintro e w' ⟨bb, hbb, rfl, hb⟩; exact ⟨by rw [hbb.2 HM.out.right], hb⟩)
          have hro : ∀ W, QIn W ⟨some ⟨g3, 0, none⟩, c3, A7, c7⟩ ⟨qs2, js3⟩ → Calls Try.prog 11 #[.agg #[.slice (some ⟨g3, 0, none⟩) qs2.length c3, .slice A7 js3.length c7]] W fun e w' => e = .returned (.bool bo) ∧ Below W.heap.size W w' := fun W hq => (pright_calls ⟨some ⟨g3, 0, none⟩, c3, A7, c7⟩ ⟨qs2, js3⟩ W hq hlj (by show qs2.length ≤ 1000; omega)).mono (by rintro e w' ⟨bb, hbb, rfl, hb⟩; exact ⟨by rw [Bool.eq_iff_iff.2 (hbb.trans hbo.symm)], hb⟩)
          have hrr : ∀ W, QIn W ⟨some ⟨g3, 0, none⟩, c3, A7, c7⟩ ⟨qs2, js3⟩ → Calls Try.prog 12 #[.agg #[.slice (some ⟨g3, 0, none⟩) qs2.length c3, .slice A7 js3.length c7]] W fun e w' => e = .returned (.bool bo) ∧ Below W.heap.size W w' := fun W hq => (rright_calls ⟨some ⟨g3, 0, none⟩, c3, A7, c7⟩ ⟨qs2, js3⟩ W hq hlj (by show qs2.length ≤ 1000; omega)).mono (by rintro e w' ⟨bb, hbb, rfl, hb⟩; exact ⟨by rw [Bool.eq_iff_iff.2 (hbb.trans hbo.symm)], hb⟩)
          have HRQ := Lib.hid hrq
          have HRO := Lib.hid hro
          have HRR := Lib.hid hrr
          clear hrq hro hrr hbo hlj hqs3 hjs3 hqs2
          have x0 := HXr.out.cell 0 _ rfl
          have x1 := HXr.out.cell 1 _ rfl
          have o0 := HO3.out.cell 0 _ rfl
          have o1 := HO3.out.cell 1 _ rfl
          have HLr := kb_ HL HB3.out
          go_upto_region 36 with (fail)
          refine region_below (by kernel_rfl) (by kernel_rfl) ?_
          repeat
            first
              | go_big_quiet_skip
              | (go_big_quiet_want
                 apply Exists.intro
                 refine ⟨fun w' hC => ?_, ?_⟩
                 · have hk := hC.keep
                   first
                     | (go_simp; done)
                     | (go_simp; rfl)
                     | (go_simp; first | (go_at_call 11; (with_reducible refine (HRQ.out _ (HQr.out.below hC.bel)).mono ?_); rintro e w3 ⟨rfl, hb⟩; exact ⟨rfl, hC.then hb⟩) | (go_at_call 11; (with_reducible refine (HRO.out _ (HQO.out.below hC.bel)).mono ?_); rintro e w3 ⟨rfl, hb⟩; exact ⟨rfl, hC.then hb⟩) | (go_at_call 12; (with_reducible refine (HRR.out _ (HQO.out.below hC.bel)).mono ?_); rintro e w3 ⟨rfl, hb⟩; exact ⟨rfl, hC.then hb⟩))
                 simp only [Act.put, List.setIfInBounds_toArray, List.set_cons_zero, List.set_cons_succ]
                 go_big_quiet_on)
          refine wpQuiet_nil ?_
          intro w2 hC
          have HL9 := kb_ HLr hC
          go_wp2
          go_ret
          exact ⟨by simp, HL9.out⟩
end Go.Proofs.Ytopmdgheacjkcaa
