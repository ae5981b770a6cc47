/- The walk of QueueParks. -/
import Derived.Test.YtopmdgheacjkcaaT41
import Derived.Test.YtopmdgheacjkcaaP5
import Derived.Deep.RegionWith
import Derived.Deep.CutRange
import Derived.Deep.DeepCutAuto
set_option linter.unusedVariables false
set_option linter.unusedSimpArgs false
namespace Go.Proofs.Ytopmdgheacjkcaa
open Go.RowKit
set_option maxHeartbeats 16000000 in
set_option maxRecDepth 100000 in
theorem parks_walk (a bq c : Int) (A : Option Addr) (cap : Nat) (l : List Raw) (s0 s1 : Int) (w : World) (ha : 0 ≤ a ∧ a ≤ 255) (hb : 0 ≤ bq ∧ bq ≤ 255) (hc : 0 ≤ c ∧ c ≤ 255) (hs0 : 0 ≤ s0 ∧ s0 ≤ 255) (hs1 : 0 ≤ s1 ∧ s1 ≤ 255) (hl : l.length ≤ 100000000000000) (hr : RRow w A l) (hok : ∀ x ∈ l, x.Ok) :
    Calls Try.prog 6 #[.agg #[.int .u8 a, .int .u8 bq, .int .u8 c], .slice A l.length cap, .agg #[.int .u8 s0, .int .u8 s1]] w fun e w' => e = .returned (.bool true) ∧ Below w.heap.size w w' := by
  have hmade := fun W hr => made_calls a bq c A cap l W ha hb hc hl hr hok
  have hmq := madeQ a bq c l (qsOf_ok a bq c)
  generalize madeS (qsOf a bq c) (l.take 20) = q at hmade hmq
  have HM := Lib.hid hmq; clear hmq
  have HMADE := Lib.hid hmade; clear hmade
  have HR := Lib.hid hr; clear hr hok hl ha hb hc
  have hlen := HM.out.len
  obtain ⟨hs00, hs01⟩ := hs0
  obtain ⟨hs10, hs11⟩ := hs1
  have HL0 := Lib.hid (ba_ (ba_ (b0_ w) (.cells #[.int .u8 a, .int .u8 bq, .int .u8 c] 22)) (.cells #[.int .u8 s0, .int .u8 s1] 53))
  have HA0 := Lib.hid (Blk.alloc (Blk.new w 22 [.int .u8 a, .int .u8 bq, .int .u8 c]) (.cells #[.int .u8 s0, .int .u8 s1] 53))
  have HXB0 := Lib.hid (blk_new' (w.alloc (.cells #[.int .u8 a, .int .u8 bq, .int .u8 c] 22)) (w.heap.size + 1) (by simp) 53 [.int .u8 s0, .int .u8 s1])
  go_enter Try.func6, Try.ntmps6
  go_wp2_with fail
  refine (examples_calls _).mono ?_
  rintro e w1 ⟨rfl, hb1⟩
  have HL1 := Lib.hid (kb_ HL0.out hb1)
  have HA1 := Lib.hid (HA0.out.below hb1)
  have HXB1 := Lib.hid (HXB0.out.below hb1)
  clear hb1 HL0 HA0 HXB0
  have a0 := HA1.out.cell 0 _ rfl
  have a1 := HA1.out.cell 1 _ rfl
  have a2 := HA1.out.cell 2 _ rfl
  go_wp2_with fail
  refine (HMADE.out _ (HR.out.below HL1.out.out)).mono ?_
  rintro e w2 ⟨⟨qa, qc, ja, jc⟩, rfl, hq2, hb2⟩
  have HL2 := Lib.hid (kb_ HL1.out hb2)
  have HXB2 := Lib.hid (HXB1.out.below hb2)
  have HQz := Lib.hid hq2
  clear hb2 hq2 HL1 HA1 a0 a1 a2 HMADE HR HXB1
  unfold Qv.val
  have HX0 := Lib.hid (Blk.new w2 29 [.slice qa q.qs.length qc, .slice ja q.js.length jc])
  have HLX := Lib.hid (ba_ HL2.out (.cells #[.slice qa q.qs.length qc, .slice ja q.js.length jc] 29))
  have HQX := Lib.hid (HQz.out.below (ba_ (b0_ w2) (.cells #[.slice qa q.qs.length qc, .slice ja q.js.length jc] 29)).out)
  have HXBX := Lib.hid (HXB2.out.alloc (.cells #[.slice qa q.qs.length qc, .slice ja q.js.length jc] 29))
  by_cases hn0 : q.js.length = 0
  · have e1 : ((q.js.length : Int) == 0) = true := by simpa using hn0
    clear hn0
    go_wp2
    go_ret
    exact ⟨rfl, HLX.out.out⟩
  have e1 : ((q.js.length : Int) == 0) = false := by simpa using hn0
  obtain ⟨k, hkk⟩ : ∃ k : Nat, s0 % (q.js.length : Int) = (k : Int) := ⟨(s0 % (q.js.length : Int)).toNat, by have := Int.emod_nonneg s0 (show (q.js.length : Int) ≠ 0 by omega); omega⟩
  have hkl : k < q.js.length := by
    have := Int.emod_lt_of_pos s0 (show (0 : Int) < (q.js.length : Int) by omega)
    omega
  obtain ⟨b, hb'⟩ : ∃ b, q.js[k]? = some b := ⟨_, List.getElem?_eq_getElem hkl⟩
  have HB := Lib.hid hb'; clear hb'
  have E1 : IntKind.i64.wrap (s0.tmod (q.js.length : Int)) = (k : Int) := by rw [Int.tmod_eq_emod_of_nonneg hs00, hkk]; exact i64w _ (by omega) (by omega)
  have E2 : IntKind.i64.wrap (1 + (k : Int)) = (k : Int) + 1 := by rw [i64w _ (by omega) (by omega)]; omega
  have E3 : IntKind.i64.wrap s0 = s0 := i64w _ (by omega) (by omega)
  have hz : (q.js.length : Int) ≠ 0 := by omega
  have hI0 : (0 : Int) ≤ (k : Int) := by omega
  have hI2 : (k : Int) < (q.js.length : Int) := by omega
  have hsub2 : IntKind.i64.wrap (k : Int) = (k : Int) := i64w _ (by omega) (by omega)
  have hsub1 : IntKind.i64.wrap ((k : Int) + 1 - 1) = (k : Int) := by rw [i64w _ (by omega) (by omega)]; omega
  obtain ⟨adj, hja, g0, g1, g2, g3, g4, g5, g6, g7, g8, g9, g10⟩ := HQX.out.job k hkl b HB.out
  cases hja
  have b0 := HXBX.out.cell 0 _ rfl
  have x1 : (w2.alloc (.cells #[.slice qa q.qs.length qc, .slice (some adj) q.js.length jc] 29)).cell? ⟨w2.heap.size, 1, none⟩ = some (.slice (some adj) q.js.length jc) := HX0.out.cell 1 _ rfl
  clear hn0
  go_upto_region 9 with (fail)
  have HLJ := Lib.hid (ba_ HLX.out (.cells #[.int .i64 b.id, .int .i64 b.tn, .int .i64 b.pr, .int .i64 b.kn, .int .i64 b.bd, .int .i64 b.im.g, .slice b.im.ar.a b.im.ar.n b.im.ar.c, .slice b.im.gl.a b.im.gl.n b.im.gl.c, .slice b.im.gr.a b.im.gr.n b.im.gr.c, .int .i64 b.st, .int .i64 b.av] 40)).out
  have HXJ := Lib.hid (HX0.out.alloc (.cells #[.int .i64 b.id, .int .i64 b.tn, .int .i64 b.pr, .int .i64 b.kn, .int .i64 b.bd, .int .i64 b.im.g, .slice b.im.ar.a b.im.ar.n b.im.ar.c, .slice b.im.gl.a b.im.gl.n b.im.gl.c, .slice b.im.gr.a b.im.gr.n b.im.gr.c, .int .i64 b.st, .int .i64 b.av] 40))
  have HXBJ := Lib.hid (HXBX.out.alloc (.cells #[.int .i64 b.id, .int .i64 b.tn, .int .i64 b.pr, .int .i64 b.kn, .int .i64 b.bd, .int .i64 b.im.g, .slice b.im.ar.a b.im.ar.n b.im.ar.c, .slice b.im.gl.a b.im.gl.n b.im.gl.c, .slice b.im.gr.a b.im.gr.n b.im.gr.c, .int .i64 b.st, .int .i64 b.av] 40))
  have HQJ := Lib.hid (HQX.out.below (ba_ (b0_ _) (.cells #[.int .i64 b.id, .int .i64 b.tn, .int .i64 b.pr, .int .i64 b.kn, .int .i64 b.bd, .int .i64 b.im.g, .slice b.im.ar.a b.im.ar.n b.im.ar.c, .slice b.im.gl.a b.im.gl.n b.im.gl.c, .slice b.im.gr.a b.im.gr.n b.im.gr.c, .int .i64 b.st, .int .i64 b.av] 40)).out)
  have HJJ := Lib.hid (blk_new' (w2.alloc (.cells #[.slice qa q.qs.length qc, .slice (some adj) q.js.length jc] 29)) (w2.heap.size + 1) (by simp) 40 [.int .i64 b.id, .int .i64 b.tn, .int .i64 b.pr, .int .i64 b.kn, .int .i64 b.bd, .int .i64 b.im.g, .slice b.im.ar.a b.im.ar.n b.im.ar.c, .slice b.im.gl.a b.im.gl.n b.im.gl.c, .slice b.im.gr.a b.im.gr.n b.im.gr.c, .int .i64 b.st, .int .i64 b.av])
  have HKK := Lib.hid hkk
  clear hkk g0 g1 g2 g3 g4 g5 g6 g7 g8 g9 g10 b0 x1 HX0 HLX HQX HXBX HXB2 HL2 HQz E1 E2 E3 hI0 hI2 hsub1 hsub2 hz e1
  generalize (w2.alloc (.cells #[.slice qa q.qs.length qc, .slice (some adj) q.js.length jc] 29)).alloc (.cells #[.int .i64 b.id, .int .i64 b.tn, .int .i64 b.pr, .int .i64 b.kn, .int .i64 b.bd, .int .i64 b.im.g, .slice b.im.ar.a b.im.ar.n b.im.ar.c, .slice b.im.gl.a b.im.gl.n b.im.gl.c, .slice b.im.gr.a b.im.gr.n b.im.gr.c, .int .i64 b.st, .int .i64 b.av] 40) = WJ at HLJ HXJ HXBJ HQJ HJJ ⊢
  obtain ⟨Jb, hJb⟩ : ∃ x, x = w2.heap.size + 1 := ⟨_, rfl⟩
  rw [← hJb] at HJJ ⊢
  obtain ⟨Xb, hXb⟩ : ∃ x, x = w2.heap.size := ⟨_, rfl⟩
  rw [← hXb] at HXJ ⊢
  clear hJb hXb
  obtain ⟨q', y, hR⟩ : ∃ q' y, changeS q ((k : Int) + 1) (leaveF 1 (img 300)) = (q', y) := ⟨_, _, rfl⟩
  have HCASE : Hid ((b.st ≠ 2 ∧ q' = q ∧ y = 430) ∨ (b.st = 2 ∧ q' = qPk q k b (img 300) ∧ y = 0)) := by
    refine Lib.hid ?_
    by_cases hs : b.st = 2
    · rw [park_yes HB.out hs] at hR; cases hR; exact .inr ⟨hs, rfl, rfl⟩
    · rw [park_no HB.out hs] at hR; cases hR; exact .inl ⟨hs, rfl, rfl⟩
  have hpk := fun W hq => lpark_calls ⟨qa, qc, some adj, jc⟩ q ((k : Int) + 1) (img 300) W hq (by omega)
  simp only [hR] at hpk
  unfold Qv.val Img.val img at hpk
  dsimp only at hpk
  have HPK := Lib.hid hpk; clear hpk hR
  have x0 := HXJ.out.cell 0 _ rfl
  have x1 := HXJ.out.cell 1 _ rfl
  have zX := HXJ.out.lt
  have zX1 : Xb < WJ.heap.size + 1 := by omega
  go_cut [11] (fun t11 wx => ∃ (g : Nat) (v' : Qv), t11 = .pointer (some ⟨g, 0, none⟩) ∧ Hid (Blk wx g 45 [.slice v'.qa q'.qs.length v'.qc, .slice v'.ja q'.js.length v'.jc, .int .i64 0, .int .i64 y]) ∧ Hid (QIn wx v' q') ∧ Hid (Below WJ.heap.size WJ wx))
  case first =>
    go_region_with (first | (go_at_call 17; refine (image_exact _ _).mono ?_; rintro e w1 ⟨rfl, rfl⟩) | (go_at_call 19; refine (HPK.out _ (HQJ.out.below (by first | exact (bd_ (ba_ (ba_ (b0_ _) _) _)).out | exact (ba_ (b0_ _) _).out | exact (bd_ (ba_ (b0_ _) _)).out | exact (ba_ (bd_ (b0_ _)) _).out))).mono ?_; rintro e w3 ⟨⟨pa, pc, ka, kc⟩, rfl, hq3, hb3⟩; simp only [Qv.done]; (first | (have hz := Lib.hid (And.intro (show WJ.heap.size ≤ WJ.heap.size + 1 by omega) (Blk.below (show Blk ((WJ.alloc (.cells #[.int .i64 300, .slice none 0 0, .slice none 0 0, .slice none 0 0] 38)).alloc (.cells #[.slice none 0 0, .slice none 0 0, .int .i64 0, .int .i64 0] 45)).drew (WJ.heap.size + 1) 45 [.slice none 0 0, .slice none 0 0, .int .i64 0, .int .i64 0] from blk_new' (WJ.alloc (.cells #[.int .i64 300, .slice none 0 0, .slice none 0 0, .slice none 0 0] 38)) (WJ.heap.size + 1) (by simp) 45 [.slice none 0 0, .slice none 0 0, .int .i64 0, .int .i64 0]) hb3))) | (have hz := Lib.hid (And.intro (Nat.le_refl WJ.heap.size) (Blk.below (show Blk ((WJ.alloc (.cells #[.slice none 0 0, .slice none 0 0, .int .i64 0, .int .i64 0] 45)).alloc (.cells #[.int .i64 300, .slice none 0 0, .slice none 0 0, .slice none 0 0] 38)).drew WJ.heap.size 45 [.slice none 0 0, .slice none 0 0, .int .i64 0, .int .i64 0] from Blk.alloc (Blk.new WJ 45 [.slice none 0 0, .slice none 0 0, .int .i64 0, .int .i64 0]) (.cells #[.int .i64 300, .slice none 0 0, .slice none 0 0, .slice none 0 0] 38)) hb3))) | (have hz := Lib.hid True.intro)); have HQ3 := Lib.hid hq3; have HB3 := kb_ (by first | exact bd_ (ba_ (ba_ (b0_ WJ) _) _) | exact bd_ (ba_ (b0_ WJ) _)) hb3; clear hq3 hb3; try (have z0 := hz.out.2.cell 0 _ rfl; have z1 := hz.out.2.cell 1 _ rfl; have z2 := hz.out.2.cell 2 _ rfl; have z3 := hz.out.2.cell 3 _ rfl; have zf := hz.out.2.frozen)))
    all_goals
      go_wp2_with fail
      go_meet
      first
        | (have hz2 := hz.out.2; exact ⟨_, ⟨pa, pc, ka, kc⟩, rfl, Lib.hid (hz2.put (Qv.dcells ⟨pa, pc, ka, kc⟩ q' 0 y) rfl), Lib.hid (HQ3.out.put hz2 t45 0 (Qv.dcells ⟨pa, pc, ka, kc⟩ q' 0 y)), Lib.hid (below_setCells (w := 0) (Qv.dcells ⟨pa, pc, ka, kc⟩ q' 0 y) 0 WJ w3 HB3.out hz.out.1)⟩)
        | exact ⟨w3.heap.size, ⟨pa, pc, ka, kc⟩, rfl, Lib.hid (Blk.new w3 45 [.slice pa q'.qs.length pc, .slice ka q'.js.length kc, .int .i64 0, .int .i64 y]), Lib.hid (HQ3.out.below (ba_ (b0_ w3) (.cells #[.slice pa q'.qs.length pc, .slice ka q'.js.length kc, .int .i64 0, .int .i64 y] 45)).out), ba_ HB3 _⟩
  case rest =>
    obtain ⟨Pb, ⟨pa, pc, ka, kc⟩, rfl, HP, HQP, HLP⟩ := hcut
    dsimp only at HP
    have HXP := Lib.hid (HXJ.out.below HLP.out)
    have HJP := Lib.hid (HJJ.out.below HLP.out)
    have HBP := Lib.hid (HXBJ.out.below HLP.out)
    have HQ1 := Lib.hid (HQJ.out.below HLP.out)
    have HLW := kb_ HLJ HLP.out
    clear HXJ HJJ HXBJ HQJ HLJ HPK x0 x1 zX zX1 HLP
    have j9 : wc.cell? ⟨Jb, 9, none⟩ = some (.int .i64 b.st) := HJP.out.cell 9 _ rfl
    have p0 := HP.out.cell 0 _ rfl
    have p1 := HP.out.cell 1 _ rfl
    have p3 := HP.out.cell 3 _ rfl
    have x0 := HXP.out.cell 0 _ rfl
    have x1 := HXP.out.cell 1 _ rfl
    rcases HCASE.out with ⟨hs, h1, h2⟩ | ⟨hs, h1, h2⟩
    · subst q'
      subst y
      have e1 : (b.st != 2) = true := by simpa using hs
      have hsame := fun W hq hq' => same_calls ⟨pa, pc, ka, kc⟩ ⟨qa, qc, some adj, jc⟩ q W hq hq' (by omega) (by have := HM.out.inv.q3; omega)
      unfold Qv.val at hsame
      dsimp only at hsame
      have HS := Lib.hid hsame; clear hsame hs HCASE
      go_wp2_with fail
      refine (HS.out _ HQP.out HQ1.out).mono ?_
      rintro e w5 ⟨rfl, hb5⟩
      have HL5 := kb_ HLW hb5
      clear hb5
      go_wp2
      go_ret
      exact ⟨rfl, HL5.out⟩
    · subst y
      have HF := Lib.hid (show Fine q' from by rw [h1]; exact (qPk_made HM.out HB.out hs _).rt.fine)
      have HGET := Lib.hid (show q'.js[k]? = some (pk (img 300) b) from by rw [h1]; exact qPk_get HB.out _)
      have HOTH := Lib.hid (show ∀ i, i ≠ k → q'.js[i]? = q.js[i]? from fun i hi => by rw [h1]; exact qPk_other q b _ hi)
      have hl' : q'.js.length = q.js.length := by rw [h1]; exact qPk_len q k b _
      have e2 : ((q'.js.length : Int) != (q.js.length : Int)) = false := by rw [hl']; simp
      have hql : q'.qs.length = 3 := by rw [h1]; exact HM.out.inv.q3
      obtain ⟨q2, ha, hbk, hl2⟩ : ∃ q2, changeS q' ((k : Int) + 1) (startF q' (50 + s1 % 50)) = (q2, 0) ∧ changeS q2 ((k : Int) + 1) (leaveF 1 (img 300)) = (q', 0) ∧ q2.js.length ≤ 1000 := by
        rw [h1]
        exact ⟨qSt q k b (img 300) (50 + s1 % 50), again_ok HM.out HB.out hs _ _ (by omega), back_ok HB.out _ _, by rw [qSt_len]; omega⟩
      have hst := fun W hq => lstart_calls ⟨pa, pc, ka, kc⟩ q' ((k : Int) + 1) (50 + s1 % 50) W hq HF.out
      simp only [ha] at hst
      unfold Qv.val at hst
      dsimp only at hst
      have HST := Lib.hid hst
      have HBK := Lib.hid hbk
      have HLE := Lib.hid hl'
      have HQL := Lib.hid hql
      have e1 : (b.st != 2) = false := by simpa using hs
      have HS2 := Lib.hid hs
      have t0 : wc.cell? ⟨Jb, 0, none⟩ = some (.int .i64 b.id) := HJP.out.cell 0 _ rfl
      have t1 : wc.cell? ⟨Jb, 1, none⟩ = some (.int .i64 b.tn) := HJP.out.cell 1 _ rfl
      have t2 : wc.cell? ⟨Jb, 2, none⟩ = some (.int .i64 b.pr) := HJP.out.cell 2 _ rfl
      have t3 : wc.cell? ⟨Jb, 3, none⟩ = some (.int .i64 b.kn) := HJP.out.cell 3 _ rfl
      have t4 : wc.cell? ⟨Jb, 4, none⟩ = some (.int .i64 b.bd) := HJP.out.cell 4 _ rfl
      have t5 : wc.cell? ⟨Jb, 5, none⟩ = some (.int .i64 b.im.g) := HJP.out.cell 5 _ rfl
      have t6 : wc.cell? ⟨Jb, 6, none⟩ = some (.slice b.im.ar.a b.im.ar.n b.im.ar.c) := HJP.out.cell 6 _ rfl
      have t7 : wc.cell? ⟨Jb, 7, none⟩ = some (.slice b.im.gl.a b.im.gl.n b.im.gl.c) := HJP.out.cell 7 _ rfl
      have t8 : wc.cell? ⟨Jb, 8, none⟩ = some (.slice b.im.gr.a b.im.gr.n b.im.gr.c) := HJP.out.cell 8 _ rfl
      have t10 : wc.cell? ⟨Jb, 10, none⟩ = some (.int .i64 b.av) := HJP.out.cell 10 _ rfl
      clear hs HCASE hl' hql ha hbk hst h1
      go_upto_region 17 with (fail)
      have HNN := Lib.hid (Blk.new wc 40 [.int .i64 b.id, .int .i64 b.tn, .int .i64 b.pr, .int .i64 b.kn, .int .i64 b.bd, .int .i64 b.im.g, .slice b.im.ar.a b.im.ar.n b.im.ar.c, .slice b.im.gl.a b.im.gl.n b.im.gl.c, .slice b.im.gr.a b.im.gr.n b.im.gr.c, .int .i64 1, .int .i64 (-1)])
      have HLN := Lib.hid (ba_ (b0_ wc) (.cells #[.int .i64 b.id, .int .i64 b.tn, .int .i64 b.pr, .int .i64 b.kn, .int .i64 b.bd, .int .i64 b.im.g, .slice b.im.ar.a b.im.ar.n b.im.ar.c, .slice b.im.gl.a b.im.gl.n b.im.gl.c, .slice b.im.gr.a b.im.gr.n b.im.gr.c, .int .i64 1, .int .i64 (-1)] 40)).out
      clear t0 t1 t2 t3 t4 t5 t6 t7 t8 t10 j9 p0 p1 p3 x0 x1 e1 e2
      generalize wc.alloc (.cells #[.int .i64 b.id, .int .i64 b.tn, .int .i64 b.pr, .int .i64 b.kn, .int .i64 b.bd, .int .i64 b.im.g, .slice b.im.ar.a b.im.ar.n b.im.ar.c, .slice b.im.gl.a b.im.gl.n b.im.gl.c, .slice b.im.gr.a b.im.gr.n b.im.gr.c, .int .i64 1, .int .i64 (-1)] 40) = WN at HNN HLN ⊢
      obtain ⟨Nb, hNb⟩ : ∃ x, x = wc.heap.size := ⟨_, rfl⟩
      rw [← hNb] at HNN ⊢
      have HNB := Lib.hid hNb; clear hNb
      go_wp2_with fail
      refine (image_exact _ _).mono ?_
      rintro e w5 ⟨rfl, hw⟩
      have HN5 := Lib.hid (show Blk w5 Nb 40 [.int .i64 b.id, .int .i64 b.tn, .int .i64 b.pr, .int .i64 b.kn, .int .i64 b.bd, .int .i64 b.im.g, .slice b.im.ar.a b.im.ar.n b.im.ar.c, .slice b.im.gl.a b.im.gl.n b.im.gl.c, .slice b.im.gr.a b.im.gr.n b.im.gr.c, .int .i64 1, .int .i64 (-1)] from hw ▸ HNN.out.alloc _)
      have HL5 := Lib.hid (show Below wc.heap.size wc w5 from hw ▸ (ba_ HLN _).out)
      clear hw HNN HLN
      have n5 := HN5.out.cell 5 _ rfl
      have n6 := HN5.out.cell 6 _ rfl
      have n7 := HN5.out.cell 7 _ rfl
      have n8 := HN5.out.cell 8 _ rfl
      have nf := HN5.out.frozen
      go_wp2
      have HNL := Lib.hid ((((HN5.out.set 5 (.int .i64 300)).set 6 (.slice none 0 0)).set 7 (.slice none 0 0)).set 8 (.slice none 0 0))
      have HLL := bs_ (bs_ (bs_ (bs_ HL5 (p := ⟨Nb, 5, none⟩) (by rw [HNB.out]; exact Nat.le_refl _) (.int .i64 300)) (p := ⟨Nb, 6, none⟩) (by rw [HNB.out]; exact Nat.le_refl _) (.slice none 0 0)) (p := ⟨Nb, 7, none⟩) (by rw [HNB.out]; exact Nat.le_refl _) (.slice none 0 0)) (p := ⟨Nb, 8, none⟩) (by rw [HNB.out]; exact Nat.le_refl _) (.slice none 0 0)
      clear n5 n6 n7 n8 nf HN5 HL5 HNB
      generalize (((w5.setCell ⟨Nb, 5, none⟩ (.int .i64 300)).setCell ⟨Nb, 6, none⟩ (.slice none 0 0)).setCell ⟨Nb, 7, none⟩ (.slice none 0 0)).setCell ⟨Nb, 8, none⟩ (.slice none 0 0) = WL at HNL HLL ⊢
      replace HNL : Hid (Blk WL Nb 40 [.int .i64 b.id, .int .i64 b.tn, .int .i64 b.pr, .int .i64 b.kn, .int .i64 b.bd, .int .i64 300, .slice none 0 0, .slice none 0 0, .slice none 0 0, .int .i64 1, .int .i64 (-1)]) := HNL
      have HXL := Lib.hid (HXP.out.below HLL.out)
      have HPL := Lib.hid (HP.out.below HLL.out)
      have HBL := Lib.hid (HBP.out.below HLL.out)
      have HQ1L := Lib.hid (HQ1.out.below HLL.out)
      have HQPL := Lib.hid (HQP.out.below HLL.out)
      have HLWL := kb_ HLW HLL.out
      clear HXP HP HBP HQ1 HQP HLW HJP HLL
      have hsub2 : IntKind.i64.wrap (k : Int) = (k : Int) := i64w _ (by omega) (by omega)
      have hsub1 : IntKind.i64.wrap ((k : Int) + 1 - 1) = (k : Int) := by rw [i64w _ (by omega) (by omega)]; omega
      go_loopg [13] q.js.length (fun gg v13 wr => ∃ i : Nat, i ≤ q.js.length ∧ q.js.length - i ≤ gg ∧ v13 = .int .i64 i ∧ Hid (Below w.heap.size w wr) ∧ Hid (Below WL.heap.size WL wr) ∧ Hid (Blk wr Xb 29 [.slice qa q.qs.length qc, .slice (some adj) q.js.length jc]) ∧ Hid (Blk wr Pb 45 [.slice pa q'.qs.length pc, .slice ka q'.js.length kc, .int .i64 0, .int .i64 0]) ∧ Hid (Blk wr Nb 40 [.int .i64 b.id, .int .i64 b.tn, .int .i64 b.pr, .int .i64 b.kn, .int .i64 b.bd, .int .i64 300, .slice none 0 0, .slice none 0 0, .slice none 0 0, .int .i64 1, .int .i64 (-1)]) ∧ Hid (Blk wr (w.heap.size + 1) 53 [.int .u8 s0, .int .u8 s1]))
      case atStart => exact ⟨0, Nat.zero_le _, by omega, rfl, HLWL, Lib.hid (Below.refl _ _), HXL, HPL, HNL, HBL⟩
      case round =>
        clear HLWL HXL HPL HNL HBL
        obtain ⟨i, hi, hg, rfl, HLr, HLq, HXr, HPr, HNr, HBr⟩ := hrel
        have x0 := HXr.out.cell 0 _ rfl
        have x1 := HXr.out.cell 1 _ rfl
        have p0 := HPr.out.cell 0 _ rfl
        have p1 := HPr.out.cell 1 _ rfl
        by_cases hlt : i < q.js.length
        · have hlt' : i < q'.js.length := by rw [HLE.out]; exact hlt
          by_cases hik : i = k
          · subst hik
            obtain ⟨adp, hpa, g0, g1, g2, g3, g4, g5, g6, g7, g8, g9, g10⟩ := (HQPL.out.below HLq.out).job i hlt' (pk (img 300) b) HGET.out
            cases hpa
            simp only [pk, img] at g0 g1 g2 g3 g4 g5 g6 g7 g8 g9 g10
            have n0 := HNr.out.cell 0 _ rfl
            have n1 := HNr.out.cell 1 _ rfl
            have n2 := HNr.out.cell 2 _ rfl
            have n3 := HNr.out.cell 3 _ rfl
            have n4 := HNr.out.cell 4 _ rfl
            have n5 := HNr.out.cell 5 _ rfl
            have n6 := HNr.out.cell 6 _ rfl
            have n7 := HNr.out.cell 7 _ rfl
            have n8 := HNr.out.cell 8 _ rfl
            have n9 := HNr.out.cell 9 _ rfl
            have n10 := HNr.out.cell 10 _ rfl
            have hs := fun W => samejob_calls (pk (img 300) b) W
            unfold J.val pk img at hs
            dsimp only at hs
            have HS := Lib.hid hs; clear hs
            go_wp2_with fail
            refine region_below (by kernel_rfl) (by kernel_rfl) ?_
            repeat
              first
                | go_big_quiet_skip
                | (go_big_quiet_want
                   apply Exists.intro
                   refine ⟨fun w' hC => ?_, ?_⟩
                   · have hk := hC.keep
                     first
                       | (go_simp; done)
                       | (go_simp; rfl)
                       | (go_simp; go_at_call 21; refine (HS.out _).mono ?_; rintro e w2 ⟨rfl, hb⟩; exact ⟨rfl, hC.then hb⟩)
                   simp only [Act.put, List.setIfInBounds_toArray, List.set_cons_zero, List.set_cons_succ]
                   go_big_quiet_on)
            refine wpQuiet_nil ?_
            intro wy hC
            go_wp2
            go_roundg (q.js.length - (i + 1))
            case measure => omega
            case rel => exact ⟨i + 1, by omega, by omega, by go_num, kb_ HLr hC, kb_ HLq hC, Lib.hid (HXr.out.below hC), Lib.hid (HPr.out.below hC), Lib.hid (HNr.out.below hC), Lib.hid (HBr.out.below hC)⟩
          · obtain ⟨j, hj⟩ : ∃ j, q.js[i]? = some j := ⟨_, List.getElem?_eq_getElem hlt⟩
            have hj' : q'.js[i]? = some j := by rw [HOTH.out i hik]; exact hj
            obtain ⟨adq, hqa, h0, h1, h2, h3, h4, h5, h6, h7, h8, h9, h10⟩ := (HQ1L.out.below HLq.out).job i hlt j hj
            cases hqa
            obtain ⟨adp, hpa, g0, g1, g2, g3, g4, g5, g6, g7, g8, g9, g10⟩ := (HQPL.out.below HLq.out).job i hlt' j hj'
            cases hpa
            have e1 : ((i : Int) == (k : Int)) = false := by simp; omega
            have e2 : ((i : Int) != (k : Int)) = true := by simp; omega
            have hs := fun W => samejob_calls j W
            unfold J.val at hs
            have HS := Lib.hid hs; clear hs hj hj' hik
            go_wp2_with fail
            refine region_below (by kernel_rfl) (by kernel_rfl) ?_
            repeat
              first
                | go_big_quiet_skip
                | (go_big_quiet_want
                   apply Exists.intro
                   refine ⟨fun w' hC => ?_, ?_⟩
                   · have hk := hC.keep
                     first
                       | (go_simp; done)
                       | (go_simp; rfl)
                       | (go_simp; go_at_call 21; refine (HS.out _).mono ?_; rintro e w2 ⟨rfl, hb⟩; exact ⟨rfl, hC.then hb⟩)
                   simp only [Act.put, List.setIfInBounds_toArray, List.set_cons_zero, List.set_cons_succ]
                   go_big_quiet_on)
            refine wpQuiet_nil ?_
            intro wy hC
            go_wp2
            go_roundg (q.js.length - (i + 1))
            case measure => omega
            case rel => exact ⟨i + 1, by omega, by omega, by go_num, kb_ HLr hC, kb_ HLq hC, Lib.hid (HXr.out.below hC), Lib.hid (HPr.out.below hC), Lib.hid (HNr.out.below hC), Lib.hid (HBr.out.below hC)⟩
        · have hm0 := Int.emod_nonneg s1 (show (50 : Int) ≠ 0 by decide)
          have hm1 := Int.emod_lt_of_pos s1 (show (0 : Int) < 50 by decide)
          have hw1 : IntKind.i64.wrap (s1 % 50) = s1 % 50 := i64w _ (by omega) (by omega)
          have hw2 : IntKind.i64.wrap (50 + s1 % 50) = 50 + s1 % 50 := i64w _ (by omega) (by omega)
          have b1 := HBr.out.cell 1 _ rfl
          have e1 : decide ((i : Int) < (q.js.length : Int)) = false := decide_eq_false (by omega)
          clear hsub1 hsub2
          go_wp2_with fail
          refine (HST.out _ (HQPL.out.below HLq.out)).mono ?_
          rintro e w6 ⟨⟨ra, rc, sa, sc⟩, rfl, hq6, hb6⟩
          simp only [Qv.done]
          have HR0 := Lib.hid (Blk.new w6 45 [.slice ra q2.qs.length rc, .slice sa q2.js.length sc, .int .i64 0, .int .i64 0])
          have HLR := Lib.hid (ba_ (kb_ HLr hb6) (.cells #[.slice ra q2.qs.length rc, .slice sa q2.js.length sc, .int .i64 0, .int .i64 0] 45)).out
          have HLK := Lib.hid (ba_ (kb_ HLq hb6) (.cells #[.slice ra q2.qs.length rc, .slice sa q2.js.length sc, .int .i64 0, .int .i64 0] 45)).out
          have HPR := Lib.hid ((HPr.out.below hb6).alloc (.cells #[.slice ra q2.qs.length rc, .slice sa q2.js.length sc, .int .i64 0, .int .i64 0] 45))
          have HQR := Lib.hid (hq6.below (ba_ (b0_ w6) (.cells #[.slice ra q2.qs.length rc, .slice sa q2.js.length sc, .int .i64 0, .int .i64 0] 45)).out)
          clear hb6 hq6 HLr HLq HPr HXr HNr HBr b1 x0 x1 p0 p1 hm0 hm1 hw1 hw2 HST
          have hpk := fun W hq => lpark_calls ⟨ra, rc, sa, sc⟩ q2 ((k : Int) + 1) (img 300) W hq hl2
          simp only [HBK.out] at hpk
          unfold Qv.val Img.val img at hpk
          dsimp only at hpk
          have HPK2 := Lib.hid hpk; clear hpk
          go_upto_region 24 with (fail)
          generalize w6.alloc (.cells #[.slice ra q2.qs.length rc, .slice sa q2.js.length sc, .int .i64 0, .int .i64 0] 45) = WR at HR0 HLR HLK HPR HQR ⊢
          obtain ⟨Rb, hRb⟩ : ∃ x, x = w6.heap.size := ⟨_, rfl⟩
          rw [← hRb] at HR0 ⊢
          clear hRb
          have r0 := HR0.out.cell 0 _ rfl
          have r1 := HR0.out.cell 1 _ rfl
          have zX := HR0.out.lt
          have zX1 : Rb < WR.heap.size + 1 := by omega
          go_cut [15] (fun t15 wx => ∃ (g : Nat) (v' : Qv), t15 = .pointer (some ⟨g, 0, none⟩) ∧ Hid (Blk wx g 45 [.slice v'.qa q'.qs.length v'.qc, .slice v'.ja q'.js.length v'.jc, .int .i64 0, .int .i64 0]) ∧ Hid (QIn wx v' q') ∧ Hid (Below WR.heap.size WR wx))
          case first =>
            go_region_with (first | (go_at_call 17; refine (image_exact _ _).mono ?_; rintro e w1 ⟨rfl, rfl⟩) | (go_at_call 19; refine (HPK2.out _ (HQR.out.below (by first | exact (bd_ (ba_ (ba_ (b0_ _) _) _)).out | exact (ba_ (b0_ _) _).out | exact (bd_ (ba_ (b0_ _) _)).out | exact (ba_ (bd_ (b0_ _)) _).out))).mono ?_; rintro e w3 ⟨⟨pa, pc, ka, kc⟩, rfl, hq3, hb3⟩; simp only [Qv.done]; (first | (have hz := Lib.hid (And.intro (show WR.heap.size ≤ WR.heap.size + 1 by omega) (Blk.below (show Blk ((WR.alloc (.cells #[.int .i64 300, .slice none 0 0, .slice none 0 0, .slice none 0 0] 38)).alloc (.cells #[.slice none 0 0, .slice none 0 0, .int .i64 0, .int .i64 0] 45)).drew (WR.heap.size + 1) 45 [.slice none 0 0, .slice none 0 0, .int .i64 0, .int .i64 0] from blk_new' (WR.alloc (.cells #[.int .i64 300, .slice none 0 0, .slice none 0 0, .slice none 0 0] 38)) (WR.heap.size + 1) (by simp) 45 [.slice none 0 0, .slice none 0 0, .int .i64 0, .int .i64 0]) hb3))) | (have hz := Lib.hid (And.intro (Nat.le_refl WR.heap.size) (Blk.below (show Blk ((WR.alloc (.cells #[.slice none 0 0, .slice none 0 0, .int .i64 0, .int .i64 0] 45)).alloc (.cells #[.int .i64 300, .slice none 0 0, .slice none 0 0, .slice none 0 0] 38)).drew WR.heap.size 45 [.slice none 0 0, .slice none 0 0, .int .i64 0, .int .i64 0] from Blk.alloc (Blk.new WR 45 [.slice none 0 0, .slice none 0 0, .int .i64 0, .int .i64 0]) (.cells #[.int .i64 300, .slice none 0 0, .slice none 0 0, .slice none 0 0] 38)) hb3))) | (have hz := Lib.hid True.intro)); have HQ3 := Lib.hid hq3; have HB3 := kb_ (by first | exact bd_ (ba_ (ba_ (b0_ WR) _) _) | exact bd_ (ba_ (b0_ WR) _)) hb3; clear hq3 hb3; try (have z0 := hz.out.2.cell 0 _ rfl; have z1 := hz.out.2.cell 1 _ rfl; have z2 := hz.out.2.cell 2 _ rfl; have z3 := hz.out.2.cell 3 _ rfl; have zf := hz.out.2.frozen)))
            all_goals
              go_wp2_with fail
              go_meet
              first
                | (have hz2 := hz.out.2; exact ⟨_, ⟨pa, pc, ka, kc⟩, rfl, Lib.hid (hz2.put (Qv.dcells ⟨pa, pc, ka, kc⟩ q' 0 0) rfl), Lib.hid (HQ3.out.put hz2 t45 0 (Qv.dcells ⟨pa, pc, ka, kc⟩ q' 0 0)), Lib.hid (below_setCells (w := 0) (Qv.dcells ⟨pa, pc, ka, kc⟩ q' 0 0) 0 WR w3 HB3.out hz.out.1)⟩)
                | exact ⟨w3.heap.size, ⟨pa, pc, ka, kc⟩, rfl, Lib.hid (Blk.new w3 45 [.slice pa q'.qs.length pc, .slice ka q'.js.length kc, .int .i64 0, .int .i64 0]), Lib.hid (HQ3.out.below (ba_ (b0_ w3) (.cells #[.slice pa q'.qs.length pc, .slice ka q'.js.length kc, .int .i64 0, .int .i64 0] 45)).out), ba_ HB3 _⟩
          case rest =>
            obtain ⟨Sb, ⟨ta, tc, ua, uc⟩, rfl, HS0, HQS, HLS⟩ := hcut
            dsimp only at HS0
            have HRS := Lib.hid (HR0.out.below HLS.out)
            have HPS := Lib.hid (HPR.out.below HLS.out)
            have HQT := Lib.hid ((HQPL.out.below HLK.out).below HLS.out)
            have HLT := kb_ HLR HLS.out
            clear HR0 HLR HPR HLK HLS r0 r1 zX zX1
            have r3 := HRS.out.cell 3 _ rfl
            have s0 := HS0.out.cell 0 _ rfl
            have s1 := HS0.out.cell 1 _ rfl
            have s3 := HS0.out.cell 3 _ rfl
            have p0 := HPS.out.cell 0 _ rfl
            have p1 := HPS.out.cell 1 _ rfl
            have hsame := fun W hq hq' => same_calls ⟨ta, tc, ua, uc⟩ ⟨pa, pc, ka, kc⟩ q' W hq hq' (by have := HLE.out; omega) (by have := HQL.out; omega)
            unfold Qv.val at hsame
            dsimp only at hsame
            have HS := Lib.hid hsame; clear hsame
            go_wp2_with fail
            refine (HS.out _ HQS.out HQT.out).mono ?_
            rintro e w9 ⟨rfl, hb9⟩
            have HL9 := kb_ HLT hb9
            clear hb9
            go_wp2
            go_ret
            exact ⟨rfl, HL9.out⟩
end Go.Proofs.Ytopmdgheacjkcaa
