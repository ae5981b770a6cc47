/- The walk of QueueQuotas. -/
import Derived.Test.YtopmdgheacjkcaaT40
import Derived.Test.YtopmdgheacjkcaaP4
import Derived.Deep.RegionWith
set_option linter.unusedVariables false
set_option linter.unusedSimpArgs false
namespace Go.Proofs.Ytopmdgheacjkcaa
open Go.RowKit
set_option maxHeartbeats 16000000 in
set_option maxRecDepth 100000 in
theorem quotas_walk (a b c : Int) (A : Option Addr) (cap : Nat) (l : List Raw) (x : Raw) (w : World) (ha : 0 ≤ a ∧ a ≤ 255) (hb : 0 ≤ b ∧ b ≤ 255) (hc : 0 ≤ c ∧ c ≤ 255) (hl : l.length ≤ 100000000000000) (hr : RRow w A l) (hok : ∀ x ∈ l, x.Ok) (hx : x.Ok) :
    Calls Try.prog 8 #[.agg #[.int .u8 a, .int .u8 b, .int .u8 c], .slice A l.length cap, x.val] w fun e w' => e = .returned (.bool true) ∧ Below w.heap.size w w' := by
  have hmade := fun W hr => made_calls a b c A cap l W ha hb hc hl hr hok
  have hmq := madeQ a b c l (qsOf_ok a b c)
  generalize madeS (qsOf a b c) (l.take 20) = q at hmade hmq
  have hdo := fun v W hq => ldo_calls v q x W hq hmq.rt.fine hx
  have HCASE := Lib.hid (quo_cases q x)
  have hinv := hmq.inv.do x
  have hqs := doS_qs q x
  have hlen2 := doS_len q x
  generalize doS q x = r at hdo HCASE hinv hlen2 hqs
  obtain ⟨q', i, e⟩ := r
  have HM := Lib.hid hmq; clear hmq
  have HI := Lib.hid (show QInv q' from hinv); clear hinv
  have HQSE := Lib.hid (show q'.qs = q.qs from hqs); clear hqs
  have HMADE := Lib.hid hmade; clear hmade
  have HR := Lib.hid hr; clear hr hok hl ha hb hc
  have hxk0 := hx.k0
  have hxk1 := hx.k1
  have hxa0 := hx.a0
  have hxa1 := hx.a1
  unfold Raw.val at hdo ⊢
  unfold Qv.val at hdo
  have HDO := Lib.hid hdo; clear hdo hx
  have hlen := HM.out.len
  have hlen2 : q'.js.length ≤ 21 := by simp only [] at hlen2; omega
  have HL0 := Lib.hid (ba_ (ba_ (b0_ w) (.cells #[.int .u8 a, .int .u8 b, .int .u8 c] 22)) (.cells #[.int .u8 x.k, .int .u8 x.a, .int .u8 x.b, .int .u8 x.c] 59))
  have HA0 := Lib.hid (Blk.alloc (Blk.new w 22 [.int .u8 a, .int .u8 b, .int .u8 c]) (.cells #[.int .u8 x.k, .int .u8 x.a, .int .u8 x.b, .int .u8 x.c] 59))
  have HXB0 := Lib.hid (blk_new' (w.alloc (.cells #[.int .u8 a, .int .u8 b, .int .u8 c] 22)) (w.heap.size + 1) (by simp) 59 [.int .u8 x.k, .int .u8 x.a, .int .u8 x.b, .int .u8 x.c])
  go_enter Try.func8, Try.ntmps8
  go_wp2_with fail
  refine (examples_calls _).mono ?_
  rintro e w1 ⟨rfl, hb1⟩
  have HL1 := Lib.hid (kb_ HL0.out hb1)
  have HA1 := Lib.hid (HA0.out.below hb1)
  have HXB1 := Lib.hid (HXB0.out.below hb1)
  clear hb1 HL0 HA0 HXB0
  have a0 := HA1.out.cell 0 _ rfl
  have a1 := HA1.out.cell 1 _ rfl
  have a2 := HA1.out.cell 2 _ rfl
  go_wp2_with fail
  refine (HMADE.out _ (HR.out.below HL1.out.out)).mono ?_
  rintro e w2 ⟨⟨qa, qc, ja, jc⟩, rfl, hq2, hb2⟩
  have HL2 := Lib.hid (kb_ HL1.out hb2)
  have HXB2 := Lib.hid (HXB1.out.below hb2)
  have HQz := Lib.hid hq2
  clear hb2 hq2 HL1 HA1 a0 a1 a2 HMADE HR HXB1
  unfold Qv.val
  have HX0 := Lib.hid (Blk.new w2 29 [.slice qa q.qs.length qc, .slice ja q.js.length jc])
  have HLX := Lib.hid (ba_ HL2.out (.cells #[.slice qa q.qs.length qc, .slice ja q.js.length jc] 29))
  have HQX := Lib.hid (HQz.out.below (ba_ (b0_ w2) (.cells #[.slice qa q.qs.length qc, .slice ja q.js.length jc] 29)).out)
  have HXBX := Lib.hid (HXB2.out.alloc (.cells #[.slice qa q.qs.length qc, .slice ja q.js.length jc] 29))
  have x0 := HXB2.out.cell 0 _ rfl
  have x1 := HXB2.out.cell 1 _ rfl
  have x2 := HXB2.out.cell 2 _ rfl
  have x3 := HXB2.out.cell 3 _ rfl
  have zx := HXB2.out.lt
  go_wp2_with fail
  clear x0 x1 x2 x3 zx HXB2 HQz HL2
  generalize w2.alloc (.cells #[.slice qa q.qs.length qc, .slice ja q.js.length jc] 29) = WQ at HX0 HLX HQX HXBX ⊢
  obtain ⟨Xb, hXb⟩ : ∃ x, x = w2.heap.size := ⟨_, rfl⟩
  rw [← hXb] at HX0 ⊢
  clear hXb
  refine (HDO.out ⟨qa, qc, ja, jc⟩ _ HQX.out).mono ?_
  rintro e w3 ⟨⟨pa, pc, ka, kc⟩, rfl, hq3, hb3⟩
  simp only [Qv.done]
  have HDb0 := Lib.hid (Blk.new w3 45 [.slice pa q'.qs.length pc, .slice ka q'.js.length kc, .int .i64 i, .int .i64 e])
  have HLD := Lib.hid (ba_ (kb_ HLX.out hb3) (.cells #[.slice pa q'.qs.length pc, .slice ka q'.js.length kc, .int .i64 i, .int .i64 e] 45))
  have HXD := Lib.hid ((HX0.out.below hb3).alloc (.cells #[.slice pa q'.qs.length pc, .slice ka q'.js.length kc, .int .i64 i, .int .i64 e] 45))
  have HXBD := Lib.hid ((HXBX.out.below hb3).alloc (.cells #[.slice pa q'.qs.length pc, .slice ka q'.js.length kc, .int .i64 i, .int .i64 e] 45))
  have HQ := Lib.hid ((HQX.out.below hb3).below (ba_ (b0_ w3) (.cells #[.slice pa q'.qs.length pc, .slice ka q'.js.length kc, .int .i64 i, .int .i64 e] 45)).out)
  have HQ2 := Lib.hid (hq3.below (ba_ (b0_ w3) (.cells #[.slice pa q'.qs.length pc, .slice ka q'.js.length kc, .int .i64 i, .int .i64 e] 45)).out)
  clear hb3 hq3 HLX HX0 HQX HXBX HDO
  go_wp2
  generalize w3.alloc (.cells #[.slice pa q'.qs.length pc, .slice ka q'.js.length kc, .int .i64 i, .int .i64 e] 45) = WD at HDb0 HLD HXD HXBD HQ HQ2 ⊢
  obtain ⟨Db, hDb⟩ : ∃ x, x = w3.heap.size := ⟨_, rfl⟩
  rw [← hDb] at HDb0 ⊢
  clear hDb
  have HQ3 := Lib.hid HM.out.inv.q3
  have HQ3' := Lib.hid HI.out.q3
  go_loopg [10, 11] 3 (fun gg v10 v11 wr => ∃ k : Nat, k ≤ 3 ∧ 3 - k ≤ gg ∧ v11 = .int .i64 k ∧ v10 = .int .i64 (chg q q' k) ∧ Hid (Below w.heap.size w wr) ∧ Hid (Below WD.heap.size WD wr) ∧ Hid (Blk wr Xb 29 [.slice qa q.qs.length qc, .slice ja q.js.length jc]) ∧ Hid (Blk wr Db 45 [.slice pa q'.qs.length pc, .slice ka q'.js.length kc, .int .i64 i, .int .i64 e]) ∧ Hid (Blk wr (w.heap.size + 1) 59 [.int .u8 x.k, .int .u8 x.a, .int .u8 x.b, .int .u8 x.c]))
  case atStart => exact ⟨0, by omega, by omega, rfl, rfl, HLD.out.out, Below.refl _ _, HXD.out, HDb0.out, HXBD.out⟩
  case round =>
    clear HLD HXD HDb0 HXBD
    obtain ⟨k, hk, hg, rfl, rfl, HLr, HLq, HXr, HDr, HXBr⟩ := hrel
    have x0 := HXr.out.cell 0 _ rfl
    have x1 := HXr.out.cell 1 _ rfl
    have d0 := HDr.out.cell 0 _ rfl
    have d1 := HDr.out.cell 1 _ rfl
    have hcl := chg_le q q' k
    by_cases hlt : k < 3
    · obtain ⟨n, hn⟩ : ∃ n, q.qs[k]? = some n := ⟨_, List.getElem?_eq_getElem (by have := HQ3.out; omega)⟩
      have e1 : decide (k < 3) = true := decide_eq_true hlt
      have hn' : q'.qs[k]? = some n := by rw [HQSE.out]; exact hn
      have hu0 := (HI.out.rt (by omega)).fine.small.all (k : Int)
      have hu1 := HI.out.use (k : Int) (by omega) (by omega)
      rw [quo_get hn'] at hu1
      have hub := (HM.out.rt).fine.small.all (k : Int)
      have e2 : decide (used k q'.js < 0) = false := decide_eq_false (by omega)
      have e3 : decide (n < used k q'.js) = false := decide_eq_false (by omega)
      have e5 : ((q'.qs.length : Int) != 3) = false := by rw [HQ3'.out]; rfl
      have hkq : k < q.qs.length := by have := HQ3.out; omega
      have hkq' : k < q'.qs.length := by have := HQ3'.out; omega
      have HN := Lib.hid hn; have HN' := Lib.hid hn'
      obtain ⟨ad, hqa, hqc⟩ := (HQ.out.below HLq.out).qcellN k n hn
      cases hqa
      obtain ⟨ad', hpa, hpc⟩ := (HQ2.out.below HLq.out).qcellN k n hn'
      cases hpa
      have hua := fun v W hq => used_calls v q (k : Int) W hq HM.out.rt.fine.small
      have hub2 := fun v W hq => used_calls v q' (k : Int) W hq (HI.out.rt (by omega)).fine.small
      unfold Qv.val at hua hub2
      have hst : chg q q' (k + 1) = if used k q.js = used k q'.js then chg q q' k else chg q q' k + 1 := rfl
      clear hn hn' hu0 hu1 hub
      by_cases c1 : used k q.js = used k q'.js
      · rw [if_pos c1] at hst
        have e4 : (used k q.js != used k q'.js) = false := by simpa using c1
        have HST := Lib.hid hst; clear hst c1
        generalize used k q.js = ub at *
        generalize used k q'.js = ua at *
        have HU1 := Lib.hid hua; have HU2 := Lib.hid hub2; clear hua hub2
        go_wp2_with fail
        refine region_below (by kernel_rfl) (by kernel_rfl) ?_
        repeat
          first
            | go_big_quiet_skip
            | (go_big_quiet_want
               apply Exists.intro
               refine ⟨fun w' hC => ?_, ?_⟩
               · have hk := hC.keep
                 first
                   | (go_simp; done)
                   | (go_simp; rfl)
                   | (go_simp; first | (go_at_call_of 15 (Value.agg #[Value.slice (some ad) q.qs.length qc, Value.slice ja q.js.length jc]); refine (HU1.out _ _ (HQ.out.below (kb_ HLq hC))).mono ?_; rintro e w2 ⟨rfl, hb⟩; exact ⟨rfl, hC.then hb⟩) | (go_at_call_of 15 (Value.agg #[Value.slice (some ad') q'.qs.length pc, Value.slice ka q'.js.length kc]); refine (HU2.out _ _ (HQ2.out.below (kb_ HLq hC))).mono ?_; rintro e w2 ⟨rfl, hb⟩; exact ⟨rfl, hC.then hb⟩))
               simp only [Act.put, List.setIfInBounds_toArray, List.set_cons_zero, List.set_cons_succ]
               go_big_quiet_on)
        refine wpQuiet_nil ?_
        intro wy hC
        have hqc2 := kc_ hC hqc
        have hpc2 := kc_ hC hpc
        clear hqc hpc x0 x1 d0 d1
        have x0 := (HXr.out.below hC).cell 0 _ rfl
        have d0 := (HDr.out.below hC).cell 0 _ rfl
        go_wp2_with fail
        go_quiet (fail)
        go_wp2
        go_roundg (3 - (k + 1))
        case measure => omega
        case rel => exact ⟨k + 1, by omega, by omega, by go_num, by rw [HST.out], pwdN (kb_ HLr hC) nq, pwdN (kb_ HLq hC) nq, (HXr.out.below hC).drewN nq, (HDr.out.below hC).drewN nq, (HXBr.out.below hC).drewN nq⟩
      · rw [if_neg c1] at hst
        have e4 : (used k q.js != used k q'.js) = true := by simpa using c1
        have HST := Lib.hid hst; clear hst c1
        generalize used k q.js = ub at *
        generalize used k q'.js = ua at *
        have HU1 := Lib.hid hua; have HU2 := Lib.hid hub2; clear hua hub2
        go_wp2_with fail
        refine region_below (by kernel_rfl) (by kernel_rfl) ?_
        repeat
          first
            | go_big_quiet_skip
            | (go_big_quiet_want
               apply Exists.intro
               refine ⟨fun w' hC => ?_, ?_⟩
               · have hk := hC.keep
                 first
                   | (go_simp; done)
                   | (go_simp; rfl)
                   | (go_simp; first | (go_at_call_of 15 (Value.agg #[Value.slice (some ad) q.qs.length qc, Value.slice ja q.js.length jc]); refine (HU1.out _ _ (HQ.out.below (kb_ HLq hC))).mono ?_; rintro e w2 ⟨rfl, hb⟩; exact ⟨rfl, hC.then hb⟩) | (go_at_call_of 15 (Value.agg #[Value.slice (some ad') q'.qs.length pc, Value.slice ka q'.js.length kc]); refine (HU2.out _ _ (HQ2.out.below (kb_ HLq hC))).mono ?_; rintro e w2 ⟨rfl, hb⟩; exact ⟨rfl, hC.then hb⟩))
               simp only [Act.put, List.setIfInBounds_toArray, List.set_cons_zero, List.set_cons_succ]
               go_big_quiet_on)
        refine wpQuiet_nil ?_
        intro wy hC
        have hqc2 := kc_ hC hqc
        have hpc2 := kc_ hC hpc
        clear hqc hpc x0 x1 d0 d1
        have x0 := (HXr.out.below hC).cell 0 _ rfl
        have d0 := (HDr.out.below hC).cell 0 _ rfl
        go_wp2_with fail
        go_quiet (fail)
        go_wp2
        go_roundg (3 - (k + 1))
        case measure => omega
        case rel => exact ⟨k + 1, by omega, by omega, by go_num, by rw [HST.out]; go_num, pwdN (kb_ HLr hC) nq, pwdN (kb_ HLq hC) nq, (HXr.out.below hC).drewN nq, (HDr.out.below hC).drewN nq, (HXBr.out.below hC).drewN nq⟩
    · obtain rfl : k = 3 := by omega
      clear hlt hk hg
      have b0 := HXBr.out.cell 0 _ rfl
      have b1 := HXBr.out.cell 1 _ rfl
      have d3 := HDr.out.cell 3 _ rfl
      have hm0 := Int.emod_nonneg x.k (show (8 : Int) ≠ 0 by decide)
      have hm1 := Int.emod_lt_of_pos x.k (show (0 : Int) < 8 by decide)
      rcases HCASE.out with ⟨h1, h2⟩ | ⟨h1, h2, k0, j, h3, h4, h5, h6⟩
      · have hz : chg q q' 3 = 0 := chg_zero h2 3
        try simp only [] at h1
        by_cases he : e = 0
        · have hk3 : x.k % 8 < 3 := by omega
          have eE : (e != 0) = false := by simpa using he
          have eK : decide (x.k % 8 < 3) = true := decide_eq_true hk3
          clear h1 h2 he hk3 HCASE
          go_wp2
          go_ret
          exact ⟨rfl, HLr.out⟩
        · have eE : (e != 0) = true := by simpa using he
          clear h1 h2 he HCASE
          go_wp2
          go_ret
          exact ⟨rfl, HLr.out⟩
      · try simp only [] at h1 h5 h6
        subst h1
        have hk0 : k0 < q.js.length := (List.getElem?_eq_some_iff.1 h4).1
        have eK : decide (x.k % 8 < 3) = false := decide_eq_false (by omega)
        have e6 : decide ((k0 : Int) + 1 < 1) = false := decide_eq_false (by omega)
        have e7 : decide ((q.js.length : Int) < (k0 : Int) + 1) = false := decide_eq_false (by omega)
        obtain ⟨adj, hja, g0, g1, g2, g3, g4, g5, g6, g7, g8, g9, g10⟩ := (HQ.out.below HLq.out).job k0 hk0 j h4
        cases hja
        have hbd := HM.out.inv.bd h4
        have hu := HM.out.rt.fine.small.all j.tn
        have hu2 := (HI.out.rt (by omega)).fine.small.all j.tn
        have HU1 := Lib.hid (fun v W hq => used_calls v q j.tn W hq HM.out.rt.fine.small)
        have HU2 := Lib.hid (fun v W hq => used_calls v q' j.tn W hq (HI.out.rt (by omega)).fine.small)
        unfold Qv.val at HU1 HU2
        have H4 := Lib.hid h4; clear h4
        have hI0 : (0 : Int) ≤ (k0 : Int) := by omega
        have hI1 : (k0 : Int) ≤ (q.js.length : Int) := by omega
        have hI2 : (k0 : Int) < (q.js.length : Int) := by omega
        have hsub1 : IntKind.i64.wrap ((k0 : Int) + 1 - 1) = (k0 : Int) := by rw [i64w _ (by omega) (by omega)]; omega
        have hsub2 : IntKind.i64.wrap (k0 : Int) = (k0 : Int) := i64w _ (by omega) (by omega)
        have zX := HXr.out.lt
        have zA : (adj.add (k0 * 11)).block < wr.heap.size := World.block_lt_of_cell? wr _ g0
        have H6 := Lib.hid h6; clear h6 HCASE h2
        have HH5 := Lib.hid h5
        go_wp2_with fail
        clear e6 e7 eK
        clear hxa0 hxa1 h3 h5 b0 b1
        go_region
        obtain ⟨dd, hdd⟩ : ∃ dd, IntKind.i64.wrap (used j.tn q'.js - used j.tn q.js) = dd := ⟨_, rfl⟩
        have HC3 : Hid (((x.k % 8 = 3 ∨ x.k % 8 = 4) ∧ dd = j.bd ∧ chg q q' 3 ≤ 1) ∨ (¬ (x.k % 8 = 3 ∨ x.k % 8 = 4) ∧ j.st = 2 ∧ dd = -j.bd ∧ chg q q' 3 ≤ 1) ∨ (¬ (x.k % 8 = 3 ∨ x.k % 8 = 4) ∧ j.st ≠ 2 ∧ chg q q' 3 = 0)) := by
          refine Lib.hid ?_
          have hdd' := hdd
          rcases H6.out with ⟨hk34, h6⟩ | ⟨hk34, hs2, h6⟩ | ⟨hk34, hs2, h6⟩
          · have hd := h6 j.tn
            rw [if_pos rfl] at hd
            rw [i64w _ (by omega) (by omega)] at hdd'
            refine .inl ⟨hk34, by omega, ?_⟩
            have := chg_one (q := q) (q' := q') (t0 := j.tn) (fun t ht => by rw [h6 t, if_neg (Ne.symm ht)]; omega) 3
            split at this <;> omega
          · have hd := h6 j.tn
            rw [if_pos rfl] at hd
            rw [i64w _ (by omega) (by omega)] at hdd'
            refine .inr (.inl ⟨hk34, hs2, by omega, ?_⟩)
            have := chg_one (q := q) (q' := q') (t0 := j.tn) (fun t ht => by rw [h6 t, if_neg (Ne.symm ht)]; omega) 3
            split at this <;> omega
          · exact .inr (.inr ⟨hk34, hs2, chg_zero h6 3⟩)
        have hneg : IntKind.i64.wrap (-j.bd) = -j.bd := i64w _ (by omega) (by omega)
        have HNEG := Lib.hid hneg
        have HLJ := Lib.hid (pwdN (ba_ HLr (.cells #[.int .i64 j.id, .int .i64 j.tn, .int .i64 j.pr, .int .i64 j.kn, .int .i64 j.bd, .int .i64 j.im.g, .slice j.im.ar.a j.im.ar.n j.im.ar.c, .slice j.im.gl.a j.im.gl.n j.im.gl.c, .slice j.im.gr.a j.im.gr.n j.im.gr.c, .int .i64 j.st, .int .i64 j.av] 40)) 1)
        have HDJ := Lib.hid ((HDr.out.alloc (.cells #[.int .i64 j.id, .int .i64 j.tn, .int .i64 j.pr, .int .i64 j.kn, .int .i64 j.bd, .int .i64 j.im.g, .slice j.im.ar.a j.im.ar.n j.im.ar.c, .slice j.im.gl.a j.im.gl.n j.im.gl.c, .slice j.im.gr.a j.im.gr.n j.im.gr.c, .int .i64 j.st, .int .i64 j.av] 40)).drewN 1)
        have HXJ := Lib.hid ((HXr.out.alloc (.cells #[.int .i64 j.id, .int .i64 j.tn, .int .i64 j.pr, .int .i64 j.kn, .int .i64 j.bd, .int .i64 j.im.g, .slice j.im.ar.a j.im.ar.n j.im.ar.c, .slice j.im.gl.a j.im.gl.n j.im.gl.c, .slice j.im.gr.a j.im.gr.n j.im.gr.c, .int .i64 j.st, .int .i64 j.av] 40)).drewN 1)
        have HXBJ := Lib.hid ((HXBr.out.alloc (.cells #[.int .i64 j.id, .int .i64 j.tn, .int .i64 j.pr, .int .i64 j.kn, .int .i64 j.bd, .int .i64 j.im.g, .slice j.im.ar.a j.im.ar.n j.im.ar.c, .slice j.im.gl.a j.im.gl.n j.im.gl.c, .slice j.im.gr.a j.im.gr.n j.im.gr.c, .int .i64 j.st, .int .i64 j.av] 40)).drewN 1)
        have HLK := Lib.hid (pwdN (ba_ HLq (.cells #[.int .i64 j.id, .int .i64 j.tn, .int .i64 j.pr, .int .i64 j.kn, .int .i64 j.bd, .int .i64 j.im.g, .slice j.im.ar.a j.im.ar.n j.im.ar.c, .slice j.im.gl.a j.im.gl.n j.im.gl.c, .slice j.im.gr.a j.im.gr.n j.im.gr.c, .int .i64 j.st, .int .i64 j.av] 40)) 1)
        have HJJ := Lib.hid ((Blk.new wr 40 [.int .i64 j.id, .int .i64 j.tn, .int .i64 j.pr, .int .i64 j.kn, .int .i64 j.bd, .int .i64 j.im.g, .slice j.im.ar.a j.im.ar.n j.im.ar.c, .slice j.im.gl.a j.im.gl.n j.im.gl.c, .slice j.im.gr.a j.im.gr.n j.im.gr.c, .int .i64 j.st, .int .i64 j.av]).drewN 1)
        clear g0 g1 g2 g3 g4 g5 g6 g7 g8 g9 g10 x0 x1 d0 d1 d3 zX zA hneg HLr HLq HXr HDr HXBr
        go_wp2_with fail
        change Hid (Below _ _ (wr.alloc (.cells #[.int .i64 j.id, .int .i64 j.tn, .int .i64 j.pr, .int .i64 j.kn, .int .i64 j.bd, .int .i64 j.im.g, .slice j.im.ar.a j.im.ar.n j.im.ar.c, .slice j.im.gl.a j.im.gl.n j.im.gl.c, .slice j.im.gr.a j.im.gr.n j.im.gr.c, .int .i64 j.st, .int .i64 j.av] 40)).drew) at HLJ HLK
        change Hid (Blk (wr.alloc (.cells #[.int .i64 j.id, .int .i64 j.tn, .int .i64 j.pr, .int .i64 j.kn, .int .i64 j.bd, .int .i64 j.im.g, .slice j.im.ar.a j.im.ar.n j.im.ar.c, .slice j.im.gl.a j.im.gl.n j.im.gl.c, .slice j.im.gr.a j.im.gr.n j.im.gr.c, .int .i64 j.st, .int .i64 j.av] 40)).drew _ _ _) at HDJ HXJ HXBJ HJJ
        generalize (wr.alloc (.cells #[.int .i64 j.id, .int .i64 j.tn, .int .i64 j.pr, .int .i64 j.kn, .int .i64 j.bd, .int .i64 j.im.g, .slice j.im.ar.a j.im.ar.n j.im.ar.c, .slice j.im.gl.a j.im.gl.n j.im.gl.c, .slice j.im.gr.a j.im.gr.n j.im.gr.c, .int .i64 j.st, .int .i64 j.av] 40)).drew = WJ at HLJ HLK HDJ HXJ HXBJ HJJ ⊢
        obtain ⟨Jb, hJb⟩ : ∃ x, x = wr.heap.size := ⟨_, rfl⟩
        rw [← hJb] at HJJ ⊢
        clear hJb
        have x0 := HXJ.out.cell 0 _ rfl
        have x1 := HXJ.out.cell 1 _ rfl
        have d0 := HDJ.out.cell 0 _ rfl
        have d1 := HDJ.out.cell 1 _ rfl
        clear hsub1 hsub2 hI0 hI1 hI2 hu hu2
        generalize used j.tn q.js = ub at HU1 hdd
        generalize used j.tn q'.js = ua at HU2 hdd
        refine region_below (by kernel_rfl) (by kernel_rfl) ?_
        repeat
          first
            | go_big_quiet_skip
            | (go_big_quiet_want
               apply Exists.intro
               refine ⟨fun w' hC => ?_, ?_⟩
               · have hk := hC.keep
                 first
                   | (go_simp; done)
                   | (go_simp; rfl)
                   | (go_simp; first | (go_at_call_of 15 (Value.agg #[Value.slice qa q.qs.length qc, Value.slice (some adj) q.js.length jc]); refine (HU1.out _ _ (HQ.out.below (kb_ HLK hC))).mono ?_; rintro e w2 ⟨rfl, hb⟩; exact ⟨rfl, hC.then hb⟩) | (go_at_call_of 15 (Value.agg #[Value.slice pa q'.qs.length pc, Value.slice ka q'.js.length kc]); refine (HU2.out _ _ (HQ2.out.below (kb_ HLK hC))).mono ?_; rintro e w2 ⟨rfl, hb⟩; exact ⟨rfl, hC.then hb⟩))
               simp only [Act.put, List.setIfInBounds_toArray, List.set_cons_zero, List.set_cons_succ]
               go_big_quiet_on)
        refine wpQuiet_nil ?_
        intro wy hC
        clear x0 x1 d0 d1 hdd HU1 HU2
        have b0 := (HXBJ.out.below hC).cell 0 _ rfl
        have j4 : wy.cell? ⟨Jb, 4, none⟩ = some (.int .i64 j.bd) := (HJJ.out.below hC).cell 4 _ rfl
        have j9 : wy.cell? ⟨Jb, 9, none⟩ = some (.int .i64 j.st) := (HJJ.out.below hC).cell 9 _ rfl
        rcases HC3.out with ⟨hk, hd, hc⟩ | ⟨hk, hs, hd, hc⟩ | ⟨hk, hs, hc⟩
        · have q1 : decide ((chg q q' 3 : Int) ≤ 1) = true := decide_eq_true (by omega)
          subst hd
          clear hc HC3 hcl
          by_cases hk3 : x.k % 8 = 3
          · have q2 : (x.k % 8 == 3) = true := by simpa using hk3
            clear hk hk3
            go_wp2
            go_ret
            exact ⟨rfl, (kb_ HLJ hC).out⟩
          · have q2 : (x.k % 8 == 3) = false := by simpa using hk3
            have q3 : (x.k % 8 == 4) = true := by simp; omega
            clear hk hk3
            go_wp2
            go_ret
            exact ⟨rfl, (kb_ HLJ hC).out⟩
        · have q1 : decide ((chg q q' 3 : Int) ≤ 1) = true := decide_eq_true (by omega)
          have q2 : (x.k % 8 == 3) = false := by simp; omega
          have q3 : (x.k % 8 == 4) = false := by simp; omega
          have q4 : (j.st == 2) = true := by simpa using hs
          have hneg := HNEG.out
          subst hd
          clear hc HC3 hcl hk hs
          go_wp2
          go_ret
          exact ⟨rfl, (kb_ HLJ hC).out⟩
        · have q1 : ((chg q q' 3 : Int) == 0) = true := by simp; omega
          have q2 : (x.k % 8 == 3) = false := by simp; omega
          have q3 : (x.k % 8 == 4) = false := by simp; omega
          have q4 : (j.st == 2) = false := by simpa using hs
          clear hc HC3 hcl hk hs
          go_wp2
          go_ret
          exact ⟨rfl, (kb_ HLJ hC).out⟩
end Go.Proofs.Ytopmdgheacjkcaa
