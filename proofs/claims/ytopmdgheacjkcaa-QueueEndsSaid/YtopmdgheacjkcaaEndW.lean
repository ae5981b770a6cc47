/- The walk of QueueEnds. -/
import Derived.Test.YtopmdgheacjkcaaT40
import Derived.Test.YtopmdgheacjkcaaP6
import Derived.Test.YtopmdgheacjkcaaT43
import Derived.Deep.RegionWith
import Derived.Deep.CutRange
import Derived.Deep.DeepCutAuto
set_option linter.unusedVariables false
set_option linter.unusedSimpArgs false
namespace Go.Proofs.Ytopmdgheacjkcaa
open Go.RowKit
set_option maxHeartbeats 16000000 in
set_option maxRecDepth 100000 in
theorem ends_walk (a b c : Int) (A : Option Addr) (cap : Nat) (l : List Raw) (w : World) (ha : 0 ≤ a ∧ a ≤ 255) (hb : 0 ≤ b ∧ b ≤ 255) (hc : 0 ≤ c ∧ c ≤ 255) (hl : l.length ≤ 100000000000000) (hr : RRow w A l) (hok : ∀ x ∈ l, x.Ok) :
    Calls Try.prog 5 #[.agg #[.int .u8 a, .int .u8 b, .int .u8 c], .slice A l.length cap] w fun e w' => e = .returned (.bool true) ∧ Below w.heap.size w w' := by
  have hmade := fun W hr => made_calls a b c A cap l W ha hb hc hl hr hok
  have hmq := madeQ a b c l (qsOf_ok a b c)
  generalize madeS (qsOf a b c) (l.take 20) = F at hmade hmq
  have HM := Lib.hid hmq; clear hmq
  have HMADE := Lib.hid hmade; clear hmade
  have HR := Lib.hid hr; clear hr hok hl ha hb hc
  have hlen := HM.out.len
  have HL0 := ba_ (b0_ w) (.cells #[.int .u8 a, .int .u8 b, .int .u8 c] 22)
  have HA0 := Lib.hid (Blk.new w 22 [.int .u8 a, .int .u8 b, .int .u8 c])
  go_enter Try.func5, Try.ntmps5
  go_wp2_with fail
  refine (examples_calls _).mono ?_
  rintro e w1 ⟨rfl, hb1⟩
  have HL1 := kb_ HL0 hb1
  have HA1 := Lib.hid (HA0.out.below hb1)
  clear hb1 HL0 HA0
  have a0 := HA1.out.cell 0 _ rfl
  have a1 := HA1.out.cell 1 _ rfl
  have a2 := HA1.out.cell 2 _ rfl
  go_wp2_with fail
  refine (HMADE.out _ (HR.out.below HL1.out)).mono ?_
  rintro e w2 ⟨⟨fa, fc, ga, gc⟩, rfl, hq2, hb2⟩
  have HL2 := kb_ HL1 hb2
  have HQz := Lib.hid hq2
  clear hb2 hq2 HL1 HA1 a0 a1 a2 HMADE HR
  unfold Qv.val
  have HQ0 := Lib.hid ((Blk.new w2 29 [.slice fa F.qs.length fc, .slice ga F.js.length gc]).alloc (.cells #[.slice fa F.qs.length fc, .slice ga F.js.length gc] 29))
  have HF0 := Lib.hid (blk_new' (w2.alloc (.cells #[.slice fa F.qs.length fc, .slice ga F.js.length gc] 29)) (w2.heap.size + 1) (by simp) 29 [.slice fa F.qs.length fc, .slice ga F.js.length gc])
  have HL3 := ba_ (ba_ HL2 (.cells #[.slice fa F.qs.length fc, .slice ga F.js.length gc] 29)) (.cells #[.slice fa F.qs.length fc, .slice ga F.js.length gc] 29)
  have HQF0 := Lib.hid (HQz.out.below (ba_ (ba_ (b0_ w2) (.cells #[.slice fa F.qs.length fc, .slice ga F.js.length gc] 29)) (.cells #[.slice fa F.qs.length fc, .slice ga F.js.length gc] 29)).out)
  have HWQ := Lib.hid HL2.out.size
  clear HL2 HQz
  go_wp2
  generalize (w2.alloc (.cells #[.slice fa F.qs.length fc, .slice ga F.js.length gc] 29)).alloc (.cells #[.slice fa F.qs.length fc, .slice ga F.js.length gc] 29) = W0 at HQ0 HF0 HL3 HQF0 ⊢
  obtain ⟨Fb, hFb⟩ : ∃ x, x = w2.heap.size + 1 := ⟨_, rfl⟩
  rw [← hFb] at HF0 ⊢
  obtain ⟨Qb, hQb⟩ : ∃ x, x = w2.heap.size := ⟨_, rfl⟩
  rw [← hQb] at HQ0 HWQ ⊢
  have HNE := Lib.hid (show Fb ≠ Qb by omega)
  clear hFb hQb
  go_loopg [8] F.js.length (fun gg v8 wr => ∃ (i : Nat) (q : Qu) (v : Qv), i ≤ F.js.length ∧ F.js.length - i ≤ gg ∧ v8 = .int .i64 i ∧ Hid (E1 F q i) ∧ Hid (Below w.heap.size w wr) ∧ Hid (Blk wr Qb 29 [.slice v.qa q.qs.length v.qc, .slice v.ja q.js.length v.jc]) ∧ Hid (Blk wr Fb 29 [.slice fa F.qs.length fc, .slice ga F.js.length gc]) ∧ Hid (QIn wr ⟨fa, fc, ga, gc⟩ F) ∧ Hid (QIn wr v q))
  case atStart => exact ⟨0, F, ⟨fa, fc, ga, gc⟩, Nat.zero_le _, by omega, rfl, Lib.hid (E1.start HM.out), HL3, HQ0, HF0, HQF0, HQF0⟩
  case round =>
    clear HL3 HQ0 HF0 HQF0
    obtain ⟨i, q, ⟨qa, qc, ja, jc⟩, hi, hg, rfl, HE, HLr, HQr, HFr, HQFr, HQIr⟩ := hrel
    replace HQr : Hid (Blk wr Qb 29 [.slice qa q.qs.length qc, .slice ja q.js.length jc]) := HQr
    have f1 := HFr.out.cell 1 _ rfl
    by_cases hlt : i < F.js.length
    · obtain ⟨x, hx⟩ : ∃ x, F.js[i]? = some x := ⟨_, List.getElem?_eq_getElem hlt⟩
      obtain ⟨adf, hfa, h0, h1, h2, h3, h4, h5, h6, h7, h8, h9, h10⟩ := HQFr.out.job i hlt x hx
      cases hfa
      clear h0 h1 h2 h3 h4 h5 h6 h7 h8 h10
      by_cases hs : x.st = 2
      · obtain ⟨q', hch, hE'⟩ := HE.out.step hx hs (img 100)
        have e1 : (x.st == 2) = true := by simpa using hs
        have hpk := fun W hq => lend_calls ⟨qa, qc, ja, jc⟩ q ((i : Int) + 1) (img 100) W hq (by have := HE.out.made.len; omega)
        simp only [hch] at hpk
        unfold Qv.val Img.val img at hpk
        dsimp only at hpk
        have HPK := Lib.hid hpk
        have HE2 := Lib.hid hE'
        have hsum : IntKind.i64.wrap ((i : Int) + 1) = (i : Int) + 1 := i64w _ (by omega) (by omega)
        clear hs hx hch hE' hpk
        go_upto_region 10 with (fail)
        clear h9 f1 e1
        have x0 := HQr.out.cell 0 _ rfl
        have x1 := HQr.out.cell 1 _ rfl
        have zX := HQr.out.lt
        have zX1 : Qb < wr.heap.size + 1 := by omega
        go_cut [9] (fun t9 wx => ∃ (g : Nat) (v' : Qv), t9 = .pointer (some ⟨g, 0, none⟩) ∧ Hid (Blk wx g 45 [.slice v'.qa q'.qs.length v'.qc, .slice v'.ja q'.js.length v'.jc, .int .i64 0, .int .i64 0]) ∧ Hid (QIn wx v' q') ∧ Hid (Below wr.heap.size wr wx))
        case first =>
          go_region_with (first | (go_at_call 17; refine (image_exact _ _).mono ?_; rintro e w1 ⟨rfl, rfl⟩) | (go_at_call 16; refine (HPK.out _ (HQIr.out.below (by first | exact (bd_ (ba_ (ba_ (b0_ _) _) _)).out | exact (ba_ (b0_ _) _).out | exact (bd_ (ba_ (b0_ _) _)).out | exact (ba_ (bd_ (b0_ _)) _).out))).mono ?_; rintro e w3 ⟨⟨pa, pc, ka, kc⟩, rfl, hq3, hb3⟩; simp only [Qv.done]; (first | (have hz := Lib.hid (And.intro (show wr.heap.size ≤ wr.heap.size + 1 by omega) (Blk.below (show Blk ((wr.alloc (.cells #[.int .i64 100, .slice none 0 0, .slice none 0 0, .slice none 0 0] 38)).alloc (.cells #[.slice none 0 0, .slice none 0 0, .int .i64 0, .int .i64 0] 45)).drew (wr.heap.size + 1) 45 [.slice none 0 0, .slice none 0 0, .int .i64 0, .int .i64 0] from blk_new' (wr.alloc (.cells #[.int .i64 100, .slice none 0 0, .slice none 0 0, .slice none 0 0] 38)) (wr.heap.size + 1) (by simp) 45 [.slice none 0 0, .slice none 0 0, .int .i64 0, .int .i64 0]) hb3))) | (have hz := Lib.hid (And.intro (Nat.le_refl wr.heap.size) (Blk.below (show Blk ((wr.alloc (.cells #[.slice none 0 0, .slice none 0 0, .int .i64 0, .int .i64 0] 45)).alloc (.cells #[.int .i64 100, .slice none 0 0, .slice none 0 0, .slice none 0 0] 38)).drew wr.heap.size 45 [.slice none 0 0, .slice none 0 0, .int .i64 0, .int .i64 0] from Blk.alloc (Blk.new wr 45 [.slice none 0 0, .slice none 0 0, .int .i64 0, .int .i64 0]) (.cells #[.int .i64 100, .slice none 0 0, .slice none 0 0, .slice none 0 0] 38)) hb3))) | (have hz := Lib.hid True.intro)); have HQ3 := Lib.hid hq3; have HB3 := kb_ (by first | exact bd_ (ba_ (ba_ (b0_ wr) _) _) | exact bd_ (ba_ (b0_ wr) _)) hb3; clear hq3 hb3; try (have z0 := hz.out.2.cell 0 _ rfl; have z1 := hz.out.2.cell 1 _ rfl; have z2 := hz.out.2.cell 2 _ rfl; have z3 := hz.out.2.cell 3 _ rfl; have zf := hz.out.2.frozen)))
          all_goals
            go_wp2_with fail
            go_meet
            first
              | (have hz2 := hz.out.2; exact ⟨_, ⟨pa, pc, ka, kc⟩, rfl, Lib.hid (hz2.put (Qv.dcells ⟨pa, pc, ka, kc⟩ q' 0 0) rfl), Lib.hid (HQ3.out.put hz2 t45 0 (Qv.dcells ⟨pa, pc, ka, kc⟩ q' 0 0)), Lib.hid (below_setCells (w := 0) (Qv.dcells ⟨pa, pc, ka, kc⟩ q' 0 0) 0 wr w3 HB3.out hz.out.1)⟩)
              | exact ⟨w3.heap.size, ⟨pa, pc, ka, kc⟩, rfl, Lib.hid (Blk.new w3 45 [.slice pa q'.qs.length pc, .slice ka q'.js.length kc, .int .i64 0, .int .i64 0]), Lib.hid (HQ3.out.below (ba_ (b0_ w3) (.cells #[.slice pa q'.qs.length pc, .slice ka q'.js.length kc, .int .i64 0, .int .i64 0] 45)).out), ba_ HB3 _⟩
        case rest =>
          obtain ⟨Pb, ⟨pa, pc, ka, kc⟩, rfl, HP, HQP, HLP⟩ := hcut
          dsimp only at HP
          have HLc := kb_ HLr HLP.out
          have HQc := Lib.hid (HQr.out.below HLP.out)
          have HFc := Lib.hid (HFr.out.below HLP.out)
          have HQFc := Lib.hid (HQFr.out.below HLP.out)
          clear HLr HQr HFr HQFr HQIr HLP x0 x1 zX zX1 HPK
          have p0 := HP.out.cell 0 _ rfl
          have p1 := HP.out.cell 1 _ rfl
          have p3 := HP.out.cell 3 _ rfl
          have x0 := HQc.out.cell 0 _ rfl
          have x1 := HQc.out.cell 1 _ rfl
          have xf := HQc.out.frozen
          go_wp2
          go_roundg (F.js.length - (i + 1))
          case measure => omega
          case rel => exact ⟨i + 1, q', ⟨pa, pc, ka, kc⟩, by omega, by omega, by go_num, HE2, bs_ (bs_ HLc (p := ⟨Qb, 0, none⟩) HWQ.out _) (p := ⟨Qb, 1, none⟩) HWQ.out _, Lib.hid ((HQc.out.set 0 _).set 1 _), Lib.hid ((HFc.out.far HNE.out 0 _).far HNE.out 1 _), Lib.hid (HQFc.out.put HQc.out t29 0 [.slice pa q'.qs.length pc, .slice ka q'.js.length kc]), Lib.hid (HQP.out.put HQc.out t29 0 [.slice pa q'.qs.length pc, .slice ka q'.js.length kc])⟩
      · have e1 : (x.st == 2) = false := by simpa using hs
        have HE2 := Lib.hid (HE.out.skip hx hs)
        clear hs hx
        go_wp2
        go_roundg (F.js.length - (i + 1))
        case measure => omega
        case rel => exact ⟨i + 1, q, ⟨qa, qc, ja, jc⟩, by omega, by omega, by go_num, HE2, HLr, HQr, HFr, HQFr, HQIr⟩
    · have e1 : decide ((i : Int) < (F.js.length : Int)) = false := decide_eq_false (by omega)
      have HE2 := Lib.hid (HE.out.done HM.out (by omega))
      clear HE
      have HZ0 := Lib.hid (Blk.new wr 40 [.int .i64 0, .int .i64 0, .int .i64 10, .int .i64 0, .int .i64 0, .int .i64 0, .slice none 0 0, .slice none 0 0, .slice none 0 0, .int .i64 0, .int .i64 0])
      have HLL := ba_ HLr (.cells #[.int .i64 0, .int .i64 0, .int .i64 10, .int .i64 0, .int .i64 0, .int .i64 0, .slice none 0 0, .slice none 0 0, .slice none 0 0, .int .i64 0, .int .i64 0] 40)
      have HQL := Lib.hid (HQr.out.alloc (.cells #[.int .i64 0, .int .i64 0, .int .i64 10, .int .i64 0, .int .i64 0, .int .i64 0, .slice none 0 0, .slice none 0 0, .slice none 0 0, .int .i64 0, .int .i64 0] 40))
      have HFL := Lib.hid (HFr.out.alloc (.cells #[.int .i64 0, .int .i64 0, .int .i64 10, .int .i64 0, .int .i64 0, .int .i64 0, .slice none 0 0, .slice none 0 0, .slice none 0 0, .int .i64 0, .int .i64 0] 40))
      have HQFL := Lib.hid (HQFr.out.below (ba_ (b0_ wr) (.cells #[.int .i64 0, .int .i64 0, .int .i64 10, .int .i64 0, .int .i64 0, .int .i64 0, .slice none 0 0, .slice none 0 0, .slice none 0 0, .int .i64 0, .int .i64 0] 40)).out)
      have HQIL := Lib.hid (HQIr.out.below (ba_ (b0_ wr) (.cells #[.int .i64 0, .int .i64 0, .int .i64 10, .int .i64 0, .int .i64 0, .int .i64 0, .slice none 0 0, .slice none 0 0, .slice none 0 0, .int .i64 0, .int .i64 0] 40)).out)
      have HWL := Lib.hid HLr.out.size
      have HN1 := Lib.hid (show wr.heap.size ≠ Qb by have := HQr.out.lt; omega)
      have HN2 := Lib.hid (show wr.heap.size ≠ Fb by have := HFr.out.lt; omega)
      clear HLr HQr HFr HQFr HQIr
      go_wp2
      clear f1
      generalize wr.alloc (.cells #[.int .i64 0, .int .i64 0, .int .i64 10, .int .i64 0, .int .i64 0, .int .i64 0, .slice none 0 0, .slice none 0 0, .slice none 0 0, .int .i64 0, .int .i64 0] 40) = WB at HZ0 HLL HQL HFL HQFL HQIL ⊢
      obtain ⟨Lb, hLb⟩ : ∃ x, x = wr.heap.size := ⟨_, rfl⟩
      rw [← hLb] at HZ0 HWL HN1 HN2 ⊢
      clear hLb
      clear hlt hi hg e1
      go_loopg [11] F.js.length (fun gg v11 wr => ∃ (k : Nat) (q : Qu) (v : Qv) (z : J), k ≤ F.js.length ∧ F.js.length - k ≤ gg ∧ v11 = .int .i64 k ∧ Hid (E2 F q k z.pr z.id) ∧ Hid (k = 0 → z.id = 0) ∧ Hid (Below w.heap.size w wr) ∧ Hid (Blk wr Qb 29 [.slice v.qa q.qs.length v.qc, .slice v.ja q.js.length v.jc]) ∧ Hid (Blk wr Fb 29 [.slice fa F.qs.length fc, .slice ga F.js.length gc]) ∧ Hid (Blk wr Lb 40 [.int .i64 z.id, .int .i64 z.tn, .int .i64 z.pr, .int .i64 z.kn, .int .i64 z.bd, .int .i64 z.im.g, .slice z.im.ar.a z.im.ar.n z.im.ar.c, .slice z.im.gl.a z.im.gl.n z.im.gl.c, .slice z.im.gr.a z.im.gr.n z.im.gr.c, .int .i64 z.st, .int .i64 z.av]) ∧ Hid (QIn wr ⟨fa, fc, ga, gc⟩ F) ∧ Hid (QIn wr v q))
      case atStart => exact ⟨0, q, ⟨qa, qc, ja, jc⟩, ⟨0, 0, 10, 0, 0, ⟨0, ⟨none, 0, 0⟩, ⟨none, 0, 0⟩, ⟨none, 0, 0⟩⟩, 0, 0⟩, Nat.zero_le _, by omega, rfl, HE2, Lib.hid (fun _ => rfl), HLL, HQL, HFL, HZ0, HQFL, HQIL⟩
      case round =>
        clear HLL HQL HFL HZ0 HQFL HQIL HE2
        obtain ⟨k, q, ⟨qa, qc, ja, jc⟩, z, hk, hg, rfl, HE, HKZ, HLr, HQr, HFr, HZr, HQFr, HQIr⟩ := hrel
        replace HQr : Hid (Blk wr Qb 29 [.slice qa q.qs.length qc, .slice ja q.js.length jc]) := HQr
        have f1 := HFr.out.cell 1 _ rfl
        have x0 := HQr.out.cell 0 _ rfl
        have x1 := HQr.out.cell 1 _ rfl
        have e0 : decide ((k : Int) ≤ (F.js.length : Int)) = true := decide_eq_true (by omega)
        have hcn := fun W hq => lnext_calls ⟨qa, qc, ja, jc⟩ q W hq HE.out.made.rt.fine
        rcases HE.out.next HM.out (img 200) with ⟨k0, x, q1, q', hn, hx, hst, hl1, hen, hord, hE', hkl⟩ | ⟨hn, hE3⟩
        · simp only [hn] at hcn
          unfold Qv.val at hcn
          dsimp only at hcn
          have HCN := Lib.hid hcn; clear hcn hn
          have hsc := fun W hq => lstart_calls ⟨qa, qc, ja, jc⟩ q ((k0 : Int) + 1) 0 W hq HE.out.made.rt.fine
          simp only [hst] at hsc
          unfold Qv.val at hsc
          dsimp only at hsc
          have HST := Lib.hid hsc; clear hsc hst
          have HEN := Lib.hid hen
          have HE2 := Lib.hid hE'
          have HORD := Lib.hid hord
          have HX := Lib.hid hx
          have hk0 := (List.getElem?_eq_some_iff.1 hx).1
          have HKL := Lib.hid hkl
          clear hen hE' hord hx HE hkl
          go_wp2_with fail
          refine (HCN.out _ HQIr.out).mono ?_
          rintro e w3 ⟨⟨na, nc, ma, mc⟩, rfl, _, hb3⟩
          simp only [Qv.done]
          clear HCN x0 x1 f1 e0
          obtain ⟨nn, hnn⟩ : ∃ nn : Nat, nn = ([] : List Int).length := ⟨_, rfl⟩
          obtain ⟨mn, hmn⟩ : ∃ mn : Nat, mn = ([] : List J).length := ⟨_, rfl⟩
          rw [← hnn, ← hmn]
          clear hnn hmn
          have HN4 := Lib.hid (Blk.new w3 45 [.slice na nn nc, .slice ma mn mc, .int .i64 ((k0 : Int) + 1), .int .i64 0])
          have HL4 := ba_ (kb_ HLr hb3) (.cells #[.slice na nn nc, .slice ma mn mc, .int .i64 ((k0 : Int) + 1), .int .i64 0] 45)
          have HQ4 := Lib.hid ((HQr.out.below hb3).alloc (.cells #[.slice na nn nc, .slice ma mn mc, .int .i64 ((k0 : Int) + 1), .int .i64 0] 45))
          have HF4 := Lib.hid ((HFr.out.below hb3).alloc (.cells #[.slice na nn nc, .slice ma mn mc, .int .i64 ((k0 : Int) + 1), .int .i64 0] 45))
          have HZ4 := Lib.hid ((HZr.out.below hb3).alloc (.cells #[.slice na nn nc, .slice ma mn mc, .int .i64 ((k0 : Int) + 1), .int .i64 0] 45))
          have HQF4 := Lib.hid ((HQFr.out.below hb3).below (ba_ (b0_ w3) (.cells #[.slice na nn nc, .slice ma mn mc, .int .i64 ((k0 : Int) + 1), .int .i64 0] 45)).out)
          have HQI4 := Lib.hid ((HQIr.out.below hb3).below (ba_ (b0_ w3) (.cells #[.slice na nn nc, .slice ma mn mc, .int .i64 ((k0 : Int) + 1), .int .i64 0] 45)).out)
          clear hb3 HLr HQr HFr HZr HQFr HQIr
          go_upto_region 19 with (fail)
          generalize w3.alloc (.cells #[.slice na nn nc, .slice ma mn mc, .int .i64 ((k0 : Int) + 1), .int .i64 0] 45) = W4 at HN4 HL4 HQ4 HF4 HZ4 HQF4 HQI4 ⊢
          obtain ⟨Nb, hNb⟩ : ∃ x, x = w3.heap.size := ⟨_, rfl⟩
          rw [← hNb] at HN4 ⊢
          clear hNb
          have n2 := HN4.out.cell 2 _ rfl
          have n3 := HN4.out.cell 3 _ rfl
          have x0 := HQ4.out.cell 0 _ rfl
          have x1 := HQ4.out.cell 1 _ rfl
          go_wp2_with fail
          refine (HST.out _ HQI4.out).mono ?_
          rintro e w5 ⟨⟨ra, rc, sa, sc⟩, rfl, hq5, hb5⟩
          simp only [Qv.done]
          clear HST x0 x1 n2 n3 HQI4
          have HR5 := Lib.hid (Blk.new w5 45 [.slice ra q1.qs.length rc, .slice sa q1.js.length sc, .int .i64 0, .int .i64 0])
          have HL5 := ba_ (kb_ HL4 hb5) (.cells #[.slice ra q1.qs.length rc, .slice sa q1.js.length sc, .int .i64 0, .int .i64 0] 45)
          have HN5 := Lib.hid ((HN4.out.below hb5).alloc (.cells #[.slice ra q1.qs.length rc, .slice sa q1.js.length sc, .int .i64 0, .int .i64 0] 45))
          have HQ5 := Lib.hid ((HQ4.out.below hb5).alloc (.cells #[.slice ra q1.qs.length rc, .slice sa q1.js.length sc, .int .i64 0, .int .i64 0] 45))
          have HF5 := Lib.hid ((HF4.out.below hb5).alloc (.cells #[.slice ra q1.qs.length rc, .slice sa q1.js.length sc, .int .i64 0, .int .i64 0] 45))
          have HZ5 := Lib.hid ((HZ4.out.below hb5).alloc (.cells #[.slice ra q1.qs.length rc, .slice sa q1.js.length sc, .int .i64 0, .int .i64 0] 45))
          have HQF5 := Lib.hid ((HQF4.out.below hb5).below (ba_ (b0_ w5) (.cells #[.slice ra q1.qs.length rc, .slice sa q1.js.length sc, .int .i64 0, .int .i64 0] 45)).out)
          have HQR := Lib.hid (hq5.below (ba_ (b0_ w5) (.cells #[.slice ra q1.qs.length rc, .slice sa q1.js.length sc, .int .i64 0, .int .i64 0] 45)).out)
          clear hb5 hq5 HN4 HL4 HQ4 HF4 HZ4 HQF4
          have hpk := fun W hq => lend_calls ⟨ra, rc, sa, sc⟩ q1 ((k0 : Int) + 1) (img 200) W hq hl1
          simp only [HEN.out] at hpk
          unfold Qv.val Img.val img at hpk
          dsimp only at hpk
          have HPK := Lib.hid hpk; clear hpk
          go_upto_region 21 with (fail)
          generalize w5.alloc (.cells #[.slice ra q1.qs.length rc, .slice sa q1.js.length sc, .int .i64 0, .int .i64 0] 45) = WR at HR5 HL5 HN5 HQ5 HF5 HZ5 HQF5 HQR ⊢
          obtain ⟨Rb, hRb⟩ : ∃ x, x = w5.heap.size := ⟨_, rfl⟩
          rw [← hRb] at HR5 ⊢
          clear hRb
          have x0 := HR5.out.cell 0 _ rfl
          have x1 := HR5.out.cell 1 _ rfl
          have n2 := HN5.out.cell 2 _ rfl
          have zX := HR5.out.lt
          have zX1 : Rb < WR.heap.size + 1 := by omega
          have zN := HN5.out.lt
          have zN1 : Nb < WR.heap.size + 1 := by omega
          go_cut [14] (fun t14 wx => ∃ (g : Nat) (v' : Qv), t14 = .pointer (some ⟨g, 0, none⟩) ∧ Hid (Blk wx g 45 [.slice v'.qa q'.qs.length v'.qc, .slice v'.ja q'.js.length v'.jc, .int .i64 0, .int .i64 0]) ∧ Hid (QIn wx v' q') ∧ Hid (Below WR.heap.size WR wx))
          case first =>
            go_region_with (first | (go_at_call 17; refine (image_exact _ _).mono ?_; rintro e w1 ⟨rfl, rfl⟩) | (go_at_call 16; refine (HPK.out _ (HQR.out.below (by first | exact (bd_ (ba_ (ba_ (b0_ _) _) _)).out | exact (ba_ (b0_ _) _).out | exact (bd_ (ba_ (b0_ _) _)).out | exact (ba_ (bd_ (b0_ _)) _).out))).mono ?_; rintro e w3 ⟨⟨pa, pc, ka, kc⟩, rfl, hq3, hb3⟩; simp only [Qv.done]; (first | (have hz := Lib.hid (And.intro (show WR.heap.size ≤ WR.heap.size + 1 by omega) (Blk.below (show Blk ((WR.alloc (.cells #[.int .i64 200, .slice none 0 0, .slice none 0 0, .slice none 0 0] 38)).alloc (.cells #[.slice none 0 0, .slice none 0 0, .int .i64 0, .int .i64 0] 45)).drew (WR.heap.size + 1) 45 [.slice none 0 0, .slice none 0 0, .int .i64 0, .int .i64 0] from blk_new' (WR.alloc (.cells #[.int .i64 200, .slice none 0 0, .slice none 0 0, .slice none 0 0] 38)) (WR.heap.size + 1) (by simp) 45 [.slice none 0 0, .slice none 0 0, .int .i64 0, .int .i64 0]) hb3))) | (have hz := Lib.hid (And.intro (Nat.le_refl WR.heap.size) (Blk.below (show Blk ((WR.alloc (.cells #[.slice none 0 0, .slice none 0 0, .int .i64 0, .int .i64 0] 45)).alloc (.cells #[.int .i64 200, .slice none 0 0, .slice none 0 0, .slice none 0 0] 38)).drew WR.heap.size 45 [.slice none 0 0, .slice none 0 0, .int .i64 0, .int .i64 0] from Blk.alloc (Blk.new WR 45 [.slice none 0 0, .slice none 0 0, .int .i64 0, .int .i64 0]) (.cells #[.int .i64 200, .slice none 0 0, .slice none 0 0, .slice none 0 0] 38)) hb3))) | (have hz := Lib.hid True.intro)); have HQ3 := Lib.hid hq3; have HB3 := kb_ (by first | exact bd_ (ba_ (ba_ (b0_ WR) _) _) | exact bd_ (ba_ (b0_ WR) _)) hb3; clear hq3 hb3; try (have z0 := hz.out.2.cell 0 _ rfl; have z1 := hz.out.2.cell 1 _ rfl; have z2 := hz.out.2.cell 2 _ rfl; have z3 := hz.out.2.cell 3 _ rfl; have zf := hz.out.2.frozen)))
            all_goals
              go_wp2_with fail
              go_meet
              first
                | (have hz2 := hz.out.2; exact ⟨_, ⟨pa, pc, ka, kc⟩, rfl, Lib.hid (hz2.put (Qv.dcells ⟨pa, pc, ka, kc⟩ q' 0 0) rfl), Lib.hid (HQ3.out.put hz2 t45 0 (Qv.dcells ⟨pa, pc, ka, kc⟩ q' 0 0)), Lib.hid (below_setCells (w := 0) (Qv.dcells ⟨pa, pc, ka, kc⟩ q' 0 0) 0 WR w3 HB3.out hz.out.1)⟩)
                | exact ⟨w3.heap.size, ⟨pa, pc, ka, kc⟩, rfl, Lib.hid (Blk.new w3 45 [.slice pa q'.qs.length pc, .slice ka q'.js.length kc, .int .i64 0, .int .i64 0]), Lib.hid (HQ3.out.below (ba_ (b0_ w3) (.cells #[.slice pa q'.qs.length pc, .slice ka q'.js.length kc, .int .i64 0, .int .i64 0] 45)).out), ba_ HB3 _⟩
          case rest =>
            obtain ⟨Pb, ⟨pa, pc, ka, kc⟩, rfl, HP, HQP, HLP⟩ := hcut
            dsimp only at HP
            have HL6 := kb_ HL5 HLP.out
            have HR6 := Lib.hid (HR5.out.below HLP.out)
            have HN6 := Lib.hid (HN5.out.below HLP.out)
            have HQ6 := Lib.hid (HQ5.out.below HLP.out)
            have HF6 := Lib.hid (HF5.out.below HLP.out)
            have HZ6 := Lib.hid (HZ5.out.below HLP.out)
            have HQF6 := Lib.hid (HQF5.out.below HLP.out)
            clear HR5 HL5 HN5 HQ5 HF5 HZ5 HQF5 HQR HLP HPK x0 x1 n2 zX zX1 zN zN1
            obtain ⟨adf, hfa, h0, h1, h2, h3, h4, h5, h6, h7, h8, h9, h10⟩ := HQF6.out.job k0 hk0 x HX.out
            cases hfa
            have n2 := HN6.out.cell 2 _ rfl
            have r3 := HR6.out.cell 3 _ rfl
            have p1 := HP.out.cell 1 _ rfl
            have p3 := HP.out.cell 3 _ rfl
            have f1 := HF6.out.cell 1 _ rfl
            have hql : q'.js.length = F.js.length := HE2.out.len
            have e3 : ((q'.js.length : Int) != (F.js.length : Int)) = false := by rw [hql]; simp
            have e4 : decide ((k0 : Int) + 1 < 1) = false := decide_eq_false (by omega)
            have e5 : decide ((F.js.length : Int) < (k0 : Int) + 1) = false := decide_eq_false (by omega)
            have hI0 : (0 : Int) ≤ (k0 : Int) := by omega
            have hI2 : (k0 : Int) < (F.js.length : Int) := by omega
            have hsub2 : IntKind.i64.wrap (k0 : Int) = (k0 : Int) := i64w _ (by omega) (by omega)
            have hsub1 : IntKind.i64.wrap ((k0 : Int) + 1 - 1) = (k0 : Int) := by rw [i64w _ (by omega) (by omega)]; omega
            clear hql
            go_upto_region 25 with (fail)
            have HJ7 := Lib.hid (Blk.new wc 40 [.int .i64 x.id, .int .i64 x.tn, .int .i64 x.pr, .int .i64 x.kn, .int .i64 x.bd, .int .i64 x.im.g, .slice x.im.ar.a x.im.ar.n x.im.ar.c, .slice x.im.gl.a x.im.gl.n x.im.gl.c, .slice x.im.gr.a x.im.gr.n x.im.gr.c, .int .i64 x.st, .int .i64 x.av])
            have HL7 := ba_ HL6 (.cells #[.int .i64 x.id, .int .i64 x.tn, .int .i64 x.pr, .int .i64 x.kn, .int .i64 x.bd, .int .i64 x.im.g, .slice x.im.ar.a x.im.ar.n x.im.ar.c, .slice x.im.gl.a x.im.gl.n x.im.gl.c, .slice x.im.gr.a x.im.gr.n x.im.gr.c, .int .i64 x.st, .int .i64 x.av] 40)
            have HQ7 := Lib.hid (HQ6.out.alloc (.cells #[.int .i64 x.id, .int .i64 x.tn, .int .i64 x.pr, .int .i64 x.kn, .int .i64 x.bd, .int .i64 x.im.g, .slice x.im.ar.a x.im.ar.n x.im.ar.c, .slice x.im.gl.a x.im.gl.n x.im.gl.c, .slice x.im.gr.a x.im.gr.n x.im.gr.c, .int .i64 x.st, .int .i64 x.av] 40))
            have HF7 := Lib.hid (HF6.out.alloc (.cells #[.int .i64 x.id, .int .i64 x.tn, .int .i64 x.pr, .int .i64 x.kn, .int .i64 x.bd, .int .i64 x.im.g, .slice x.im.ar.a x.im.ar.n x.im.ar.c, .slice x.im.gl.a x.im.gl.n x.im.gl.c, .slice x.im.gr.a x.im.gr.n x.im.gr.c, .int .i64 x.st, .int .i64 x.av] 40))
            have HZ7 := Lib.hid (HZ6.out.alloc (.cells #[.int .i64 x.id, .int .i64 x.tn, .int .i64 x.pr, .int .i64 x.kn, .int .i64 x.bd, .int .i64 x.im.g, .slice x.im.ar.a x.im.ar.n x.im.ar.c, .slice x.im.gl.a x.im.gl.n x.im.gl.c, .slice x.im.gr.a x.im.gr.n x.im.gr.c, .int .i64 x.st, .int .i64 x.av] 40))
            have HP7 := Lib.hid (HP.out.alloc (.cells #[.int .i64 x.id, .int .i64 x.tn, .int .i64 x.pr, .int .i64 x.kn, .int .i64 x.bd, .int .i64 x.im.g, .slice x.im.ar.a x.im.ar.n x.im.ar.c, .slice x.im.gl.a x.im.gl.n x.im.gl.c, .slice x.im.gr.a x.im.gr.n x.im.gr.c, .int .i64 x.st, .int .i64 x.av] 40))
            have HQF7 := Lib.hid (HQF6.out.below (ba_ (b0_ wc) (.cells #[.int .i64 x.id, .int .i64 x.tn, .int .i64 x.pr, .int .i64 x.kn, .int .i64 x.bd, .int .i64 x.im.g, .slice x.im.ar.a x.im.ar.n x.im.ar.c, .slice x.im.gl.a x.im.gl.n x.im.gl.c, .slice x.im.gr.a x.im.gr.n x.im.gr.c, .int .i64 x.st, .int .i64 x.av] 40)).out)
            have HQP7 := Lib.hid (HQP.out.below (ba_ (b0_ wc) (.cells #[.int .i64 x.id, .int .i64 x.tn, .int .i64 x.pr, .int .i64 x.kn, .int .i64 x.bd, .int .i64 x.im.g, .slice x.im.ar.a x.im.ar.n x.im.ar.c, .slice x.im.gl.a x.im.gl.n x.im.gl.c, .slice x.im.gr.a x.im.gr.n x.im.gr.c, .int .i64 x.st, .int .i64 x.av] 40)).out)
            clear h0 h1 h2 h3 h4 h5 h6 h7 h8 h9 h10 n2 r3 p1 p3 f1 e3 e4 e5 hI0 hI2 hsub1 hsub2 HL6 HR6 HN6 HQ6 HF6 HZ6 HQF6 HP HQP
            generalize wc.alloc (.cells #[.int .i64 x.id, .int .i64 x.tn, .int .i64 x.pr, .int .i64 x.kn, .int .i64 x.bd, .int .i64 x.im.g, .slice x.im.ar.a x.im.ar.n x.im.ar.c, .slice x.im.gl.a x.im.gl.n x.im.gl.c, .slice x.im.gr.a x.im.gr.n x.im.gr.c, .int .i64 x.st, .int .i64 x.av] 40) = WX at HJ7 HL7 HQ7 HF7 HZ7 HP7 HQF7 HQP7 ⊢
            obtain ⟨Jb, hJb⟩ : ∃ x, x = wc.heap.size := ⟨_, rfl⟩
            rw [← hJb] at HJ7 ⊢
            clear hJb
            have hF1 : F.js.length = 1 → ∀ y, F.js[0]? = some y → y.id ≠ z.id := fun h1 y hy => by
              have := HM.out.inv.jobs 0 y hy
              have hk := HKL.out
              have := HKZ.out (by omega)
              have h3 := (HM.out.inv.jobs 0 y hy).1
              rw [h3, this]
              decide
            have hP1 : q'.js.length = 1 → ∀ y, q'.js[0]? = some y → y.id ≠ z.id := fun h1 y hy => by
              have h2 := HE2.out.len
              have hk := HKL.out
              have := HKZ.out (by omega)
              have h3 := (HE2.out.made.inv.jobs 0 y hy).1
              rw [h3, this]
              decide
            obtain ⟨WZ, hWZ⟩ : ∃ W, ((((((((((WX.setCell ⟨Lb, 0, none⟩ (.int .i64 x.id)).setCell ⟨Lb, 1, none⟩ (.int .i64 x.tn)).setCell ⟨Lb, 2, none⟩ (.int .i64 x.pr)).setCell ⟨Lb, 3, none⟩ (.int .i64 x.kn)).setCell ⟨Lb, 4, none⟩ (.int .i64 x.bd)).setCell ⟨Lb, 5, none⟩ (.int .i64 x.im.g)).setCell ⟨Lb, 6, none⟩ (.slice x.im.ar.a x.im.ar.n x.im.ar.c)).setCell ⟨Lb, 7, none⟩ (.slice x.im.gl.a x.im.gl.n x.im.gl.c)).setCell ⟨Lb, 8, none⟩ (.slice x.im.gr.a x.im.gr.n x.im.gr.c)).setCell ⟨Lb, 9, none⟩ (.int .i64 x.st)).setCell ⟨Lb, 10, none⟩ (.int .i64 x.av) = W := ⟨_, rfl⟩
            have hW2 : WX.setCells Lb 0 [.int .i64 x.id, .int .i64 x.tn, .int .i64 x.pr, .int .i64 x.kn, .int .i64 x.bd, .int .i64 x.im.g, .slice x.im.ar.a x.im.ar.n x.im.ar.c, .slice x.im.gl.a x.im.gl.n x.im.gl.c, .slice x.im.gr.a x.im.gr.n x.im.gr.c, .int .i64 x.st, .int .i64 x.av] = WZ := hWZ
            have HZ8 : Hid (Blk WZ Lb 40 [.int .i64 x.id, .int .i64 x.tn, .int .i64 x.pr, .int .i64 x.kn, .int .i64 x.bd, .int .i64 x.im.g, .slice x.im.ar.a x.im.ar.n x.im.ar.c, .slice x.im.gl.a x.im.gl.n x.im.gl.c, .slice x.im.gr.a x.im.gr.n x.im.gr.c, .int .i64 x.st, .int .i64 x.av]) := Lib.hid (by rw [← hW2]; exact HZ7.out.put [.int .i64 x.id, .int .i64 x.tn, .int .i64 x.pr, .int .i64 x.kn, .int .i64 x.bd, .int .i64 x.im.g, .slice x.im.ar.a x.im.ar.n x.im.ar.c, .slice x.im.gl.a x.im.gl.n x.im.gl.c, .slice x.im.gr.a x.im.gr.n x.im.gr.c, .int .i64 x.st, .int .i64 x.av] rfl)
            have HL8 : Hid (Below w.heap.size w WZ) := Lib.hid (by rw [← hW2]; exact below_setCells (w := 0) [.int .i64 x.id, .int .i64 x.tn, .int .i64 x.pr, .int .i64 x.kn, .int .i64 x.bd, .int .i64 x.im.g, .slice x.im.ar.a x.im.ar.n x.im.ar.c, .slice x.im.gl.a x.im.gl.n x.im.gl.c, .slice x.im.gr.a x.im.gr.n x.im.gr.c, .int .i64 x.st, .int .i64 x.av] 0 w WX HL7.out (show w.heap.size ≤ Lb from HWL.out))
            have HQ8 : Hid (Blk WZ Qb 29 [.slice qa q.qs.length qc, .slice ja q.js.length jc]) := Lib.hid (by rw [← hW2]; exact HQ7.out.fars (Ne.symm HN1.out) 0 [.int .i64 x.id, .int .i64 x.tn, .int .i64 x.pr, .int .i64 x.kn, .int .i64 x.bd, .int .i64 x.im.g, .slice x.im.ar.a x.im.ar.n x.im.ar.c, .slice x.im.gl.a x.im.gl.n x.im.gl.c, .slice x.im.gr.a x.im.gr.n x.im.gr.c, .int .i64 x.st, .int .i64 x.av])
            have HF8 : Hid (Blk WZ Fb 29 [.slice fa F.qs.length fc, .slice (some adf) F.js.length gc]) := Lib.hid (by rw [← hW2]; exact HF7.out.fars (Ne.symm HN2.out) 0 [.int .i64 x.id, .int .i64 x.tn, .int .i64 x.pr, .int .i64 x.kn, .int .i64 x.bd, .int .i64 x.im.g, .slice x.im.ar.a x.im.ar.n x.im.ar.c, .slice x.im.gl.a x.im.gl.n x.im.gl.c, .slice x.im.gr.a x.im.gr.n x.im.gr.c, .int .i64 x.st, .int .i64 x.av])
            have hPL : Pb ≠ Lb := fun h => by subst h; have h1 := HP7.out; have h2 := HZ7.out; unfold Blk at h1 h2; rw [h1] at h2; injection h2 with h2; injection h2 with _ h3; exact absurd h3 (by decide)
            have HP8 : Hid (Blk WZ Pb 45 [.slice pa q'.qs.length pc, .slice ka q'.js.length kc, .int .i64 0, .int .i64 0]) := Lib.hid (by rw [← hW2]; exact HP7.out.fars hPL 0 [.int .i64 x.id, .int .i64 x.tn, .int .i64 x.pr, .int .i64 x.kn, .int .i64 x.bd, .int .i64 x.im.g, .slice x.im.ar.a x.im.ar.n x.im.ar.c, .slice x.im.gl.a x.im.gl.n x.im.gl.c, .slice x.im.gr.a x.im.gr.n x.im.gr.c, .int .i64 x.st, .int .i64 x.av])
            have HQF8 : Hid (QIn WZ ⟨fa, fc, some adf, gc⟩ F) := Lib.hid (by rw [← hW2]; exact HQF7.out.putL (z := z) HZ7.out hF1 0 [.int .i64 x.id, .int .i64 x.tn, .int .i64 x.pr, .int .i64 x.kn, .int .i64 x.bd, .int .i64 x.im.g, .slice x.im.ar.a x.im.ar.n x.im.ar.c, .slice x.im.gl.a x.im.gl.n x.im.gl.c, .slice x.im.gr.a x.im.gr.n x.im.gr.c, .int .i64 x.st, .int .i64 x.av])
            have HQP8 : Hid (QIn WZ ⟨pa, pc, ka, kc⟩ q') := Lib.hid (by rw [← hW2]; exact HQP7.out.putL (z := z) HZ7.out hP1 0 [.int .i64 x.id, .int .i64 x.tn, .int .i64 x.pr, .int .i64 x.kn, .int .i64 x.bd, .int .i64 x.im.g, .slice x.im.ar.a x.im.ar.n x.im.ar.c, .slice x.im.gl.a x.im.gl.n x.im.gl.c, .slice x.im.gr.a x.im.gr.n x.im.gr.c, .int .i64 x.st, .int .i64 x.av])
            have HWZ := Lib.hid hWZ
            clear hW2 hWZ hPL
            clear hF1 hP1 HL7 HQ7 HF7 HP7 HQF7 HQP7
            have j0 := HJ7.out.cell 0 _ rfl
            have j1 := HJ7.out.cell 1 _ rfl
            have j2 := HJ7.out.cell 2 _ rfl
            have j3 := HJ7.out.cell 3 _ rfl
            have j4 := HJ7.out.cell 4 _ rfl
            have j5 := HJ7.out.cell 5 _ rfl
            have j6 := HJ7.out.cell 6 _ rfl
            have j7 := HJ7.out.cell 7 _ rfl
            have j8 := HJ7.out.cell 8 _ rfl
            have j9 := HJ7.out.cell 9 _ rfl
            have j10 := HJ7.out.cell 10 _ rfl
            have z0 := HZ7.out.cell 0 _ rfl
            have z1 := HZ7.out.cell 1 _ rfl
            have z2 := HZ7.out.cell 2 _ rfl
            have z3 := HZ7.out.cell 3 _ rfl
            have z4 := HZ7.out.cell 4 _ rfl
            have z5 := HZ7.out.cell 5 _ rfl
            have z6 := HZ7.out.cell 6 _ rfl
            have z7 := HZ7.out.cell 7 _ rfl
            have z8 := HZ7.out.cell 8 _ rfl
            have z9 := HZ7.out.cell 9 _ rfl
            have z10 := HZ7.out.cell 10 _ rfl
            have zf := HZ7.out.frozen
            have hord := HORD.out
            have e6 : decide (z.pr < x.pr) = false := decide_eq_false (by omega)
            rcases hord with hord | ⟨ho1, ho2⟩
            · have e7 : (x.pr == z.pr) = false := by simp; omega
              clear hord
              go_upto_region 28 with (fail)
              rw [HWZ.out]
              have p0 := HP8.out.cell 0 _ rfl
              have p1 := HP8.out.cell 1 _ rfl
              have x0 := HQ8.out.cell 0 _ rfl
              have x1 := HQ8.out.cell 1 _ rfl
              have xf := HQ8.out.frozen
              go_wp2
              go_roundg (F.js.length - (k + 1))
              case measure => have := HKL.out; omega
              case rel => exact ⟨k + 1, q', ⟨pa, pc, ka, kc⟩, x, by have := HKL.out; omega, by omega, by go_num, HE2, Lib.hid (fun h => absurd h (Nat.succ_ne_zero _)), bs_ (bs_ HL8 (p := ⟨Qb, 0, none⟩) HWQ.out _) (p := ⟨Qb, 1, none⟩) HWQ.out _, Lib.hid ((HQ8.out.set 0 _).set 1 _), Lib.hid ((HF8.out.far HNE.out 0 _).far HNE.out 1 _), Lib.hid ((HZ8.out.far HN1.out 0 _).far HN1.out 1 _), Lib.hid (HQF8.out.put HQ8.out t29 0 [.slice pa q'.qs.length pc, .slice ka q'.js.length kc]), Lib.hid (HQP8.out.put HQ8.out t29 0 [.slice pa q'.qs.length pc, .slice ka q'.js.length kc])⟩
            · have e7 : (x.pr == z.pr) = true := by simpa using ho1
              have e8 : decide (x.id < z.id) = false := decide_eq_false (by omega)
              clear ho1 ho2
              go_upto_region 28 with (fail)
              rw [HWZ.out]
              have p0 := HP8.out.cell 0 _ rfl
              have p1 := HP8.out.cell 1 _ rfl
              have x0 := HQ8.out.cell 0 _ rfl
              have x1 := HQ8.out.cell 1 _ rfl
              have xf := HQ8.out.frozen
              go_wp2
              go_roundg (F.js.length - (k + 1))
              case measure => have := HKL.out; omega
              case rel => exact ⟨k + 1, q', ⟨pa, pc, ka, kc⟩, x, by have := HKL.out; omega, by omega, by go_num, HE2, Lib.hid (fun h => absurd h (Nat.succ_ne_zero _)), bs_ (bs_ HL8 (p := ⟨Qb, 0, none⟩) HWQ.out _) (p := ⟨Qb, 1, none⟩) HWQ.out _, Lib.hid ((HQ8.out.set 0 _).set 1 _), Lib.hid ((HF8.out.far HNE.out 0 _).far HNE.out 1 _), Lib.hid ((HZ8.out.far HN1.out 0 _).far HN1.out 1 _), Lib.hid (HQF8.out.put HQ8.out t29 0 [.slice pa q'.qs.length pc, .slice ka q'.js.length kc]), Lib.hid (HQP8.out.put HQ8.out t29 0 [.slice pa q'.qs.length pc, .slice ka q'.js.length kc])⟩
        · simp only [hn] at hcn
          unfold Qv.val at hcn
          dsimp only at hcn
          have HCN := Lib.hid hcn; clear hcn hn
          have HE3 := Lib.hid hE3
          clear hE3 HE
          go_wp2_with fail
          refine (HCN.out _ HQIr.out).mono ?_
          rintro e w3 ⟨⟨na, nc, ma, mc⟩, rfl, _, hb3⟩
          simp only [Qv.done]
          clear HCN x0 x1 f1 e0
          obtain ⟨nn, hnn⟩ : ∃ nn : Nat, nn = ([] : List Int).length := ⟨_, rfl⟩
          obtain ⟨mn, hmn⟩ : ∃ mn : Nat, mn = ([] : List J).length := ⟨_, rfl⟩
          rw [← hnn, ← hmn]
          clear hnn hmn
          have HN4 := Lib.hid (Blk.new w3 45 [.slice na nn nc, .slice ma mn mc, .int .i64 0, .int .i64 4])
          have HL4 := ba_ (kb_ HLr hb3) (.cells #[.slice na nn nc, .slice ma mn mc, .int .i64 0, .int .i64 4] 45)
          have HQ4 := Lib.hid ((HQr.out.below hb3).alloc (.cells #[.slice na nn nc, .slice ma mn mc, .int .i64 0, .int .i64 4] 45))
          have HF4 := Lib.hid ((HFr.out.below hb3).alloc (.cells #[.slice na nn nc, .slice ma mn mc, .int .i64 0, .int .i64 4] 45))
          have HQF4 := Lib.hid ((HQFr.out.below hb3).below (ba_ (b0_ w3) (.cells #[.slice na nn nc, .slice ma mn mc, .int .i64 0, .int .i64 4] 45)).out)
          have HQI4 := Lib.hid ((HQIr.out.below hb3).below (ba_ (b0_ w3) (.cells #[.slice na nn nc, .slice ma mn mc, .int .i64 0, .int .i64 4] 45)).out)
          clear hb3 HLr HQr HFr HZr HQFr HQIr
          go_upto_region 19 with (fail)
          generalize w3.alloc (.cells #[.slice na nn nc, .slice ma mn mc, .int .i64 0, .int .i64 4] 45) = W4 at HN4 HL4 HQ4 HF4 HQF4 HQI4 ⊢
          obtain ⟨Nb, hNb⟩ : ∃ x, x = w3.heap.size := ⟨_, rfl⟩
          rw [← hNb] at HN4 ⊢
          clear hNb
          have n3 := HN4.out.cell 3 _ rfl
          go_wp2
          clear n3
          have hf2 := field_2
          clear hk hg
          go_loopg [16] F.js.length (fun gg v16 wr => ∃ i : Nat, i ≤ F.js.length ∧ F.js.length - i ≤ gg ∧ v16 = .int .i64 i ∧ Hid (Below w.heap.size w wr) ∧ Hid (Below W4.heap.size W4 wr))
          case atStart => exact ⟨0, Nat.zero_le _, by omega, rfl, HL4, Lib.hid (Below.refl _ _)⟩
          case round =>
            clear HL4
            obtain ⟨i, hi, hg, rfl, HLr, HLq⟩ := hrel
            have f1 := (HF4.out.below HLq.out).cell 1 _ rfl
            by_cases hlt : i < F.js.length
            · obtain ⟨x, hx⟩ : ∃ x, F.js[i]? = some x := ⟨_, List.getElem?_eq_getElem hlt⟩
              obtain ⟨y, hy, h34, h44⟩ := HE3.out.rel i x hx
              have hiq := (List.getElem?_eq_some_iff.1 hy).1
              obtain ⟨adf, hfa, h0, h1, h2, h3, h4, h5, h6, h7, h8, h9, h10⟩ := (HQF4.out.below HLq.out).job i hlt x hx
              cases hfa
              obtain ⟨adq, hja, g0, g1, g2, g3, g4, g5, g6, g7, g8, g9, g10⟩ := (HQI4.out.below HLq.out).job i hiq y hy
              cases hja
              clear h0 h1 h2 h3 h4 h5 h6 h7 h8 h10 g0 g1 g2 g3 g4 g5 g6 g7 g8 g10
              have x0 := (HQ4.out.below HLq.out).cell 0 _ rfl
              have x1 := (HQ4.out.below HLq.out).cell 1 _ rfl
              have hca := fun W hq => lcancel_calls ⟨qa, qc, some adq, jc⟩ q ((i : Int) + 1) W hq (by have := HE3.out.made.len; omega)
              simp only [HE3.out.cancel hlt] at hca
              unfold Qv.val at hca
              dsimp only at hca
              have HCA := Lib.hid hca; clear hca
              have hsr := fun W hq => lstart_calls ⟨qa, qc, some adq, jc⟩ q ((i : Int) + 1) 3 W hq HE3.out.made.rt.fine
              simp only [HE3.out.start hlt] at hsr
              unfold Qv.val at hsr
              dsimp only at hsr
              have HSR := Lib.hid hsr; clear hsr
              have hsum : IntKind.i64.wrap ((i : Int) + 1) = (i : Int) + 1 := i64w _ (by omega) (by omega)
              by_cases hs : x.st = 4
              · have hs' : y.st = 4 := h44.1 hs
                have e1 : (x.st == 4) = true := by simpa using hs
                have e2 : (y.st == 4) = true := by simpa using hs'
                have e3 : (x.st != 4) = false := by simpa using hs
                clear hs hs' h34 h44 hx hy
                go_wp2_with fail
                go_quiet (fail)
                have HLr2 := Lib.hid (pwdN HLr nq)
                have HLq2 := Lib.hid (pwdN HLq nq)
                clear h9 g9 f1
                go_wp2_with fail
                refine (HCA.out _ (HQI4.out.below HLq2.out)).mono ?_
                rintro e w8 ⟨⟨ua, uc, va, vc⟩, rfl, _, hb8⟩
                simp only [Qv.done]
                have HL8 := kb_ HLr2 hb8
                have HLq8 := kb_ HLq2 hb8
                clear HLr2 HLq2 hb8 x0 x1 HLr HLq
                have x0 := (HQ4.out.below HLq8.out).cell 0 _ rfl
                have x1 := (HQ4.out.below HLq8.out).cell 1 _ rfl
                go_wp2_with fail
                refine (HSR.out _ (HQI4.out.below HLq8.out)).mono ?_
                rintro e w9 ⟨⟨ua2, uc2, va2, vc2⟩, rfl, _, hb9⟩
                simp only [Qv.done]
                have HL9 := kb_ HL8 hb9
                have HLq9 := kb_ HLq8 hb9
                clear HL8 HLq8 hb9 x0 x1
                go_wp2
                go_roundg (F.js.length - (i + 1))
                case measure => omega
                case rel => exact ⟨i + 1, by omega, by omega, by go_num, HL9, HLq9⟩
              · have hs' : y.st = 3 := by
                  rcases h34 with h | h
                  · exact h
                  · exact absurd (h44.2 h) hs
                have e1 : (x.st == 4) = false := by simpa using hs
                have e2 : (y.st == 4) = false := by simp; omega
                have e3 : (x.st != 4) = true := by simpa using hs
                have e4 : (y.st != 3) = false := by simpa using hs'
                clear hs hs' h34 h44 hx hy
                go_wp2_with fail
                go_quiet (fail)
                have HLr2 := Lib.hid (pwdN HLr nq)
                have HLq2 := Lib.hid (pwdN HLq nq)
                clear h9 g9 f1
                go_wp2_with fail
                refine (HCA.out _ (HQI4.out.below HLq2.out)).mono ?_
                rintro e w8 ⟨⟨ua, uc, va, vc⟩, rfl, _, hb8⟩
                simp only [Qv.done]
                have HL8 := kb_ HLr2 hb8
                have HLq8 := kb_ HLq2 hb8
                clear HLr2 HLq2 hb8 x0 x1 HLr HLq
                have x0 := (HQ4.out.below HLq8.out).cell 0 _ rfl
                have x1 := (HQ4.out.below HLq8.out).cell 1 _ rfl
                go_wp2_with fail
                refine (HSR.out _ (HQI4.out.below HLq8.out)).mono ?_
                rintro e w9 ⟨⟨ua2, uc2, va2, vc2⟩, rfl, _, hb9⟩
                simp only [Qv.done]
                have HL9 := kb_ HL8 hb9
                have HLq9 := kb_ HLq8 hb9
                clear HL8 HLq8 hb9 x0 x1
                go_wp2
                go_roundg (F.js.length - (i + 1))
                case measure => omega
                case rel => exact ⟨i + 1, by omega, by omega, by go_num, HL9, HLq9⟩
            · go_wp2
              go_ret
              exact ⟨rfl, HLr.out⟩
end Go.Proofs.Ytopmdgheacjkcaa
