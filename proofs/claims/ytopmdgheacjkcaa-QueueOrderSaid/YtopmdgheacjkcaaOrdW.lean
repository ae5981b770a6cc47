/- The walk of QueueOrder. -/
import Derived.Test.YtopmdgheacjkcaaT40
import Derived.Test.YtopmdgheacjkcaaP3
set_option linter.unusedVariables false
set_option linter.unusedSimpArgs false
namespace Go.Proofs.Ytopmdgheacjkcaa
open Go.RowKit
def NBef (pr id : Int) (x : J) : Prop := ¬ (pr < x.pr) ∧ ¬ (x.pr = pr ∧ x.id < id)
set_option maxHeartbeats 16000000 in
set_option maxRecDepth 100000 in
theorem order_walk (a b c : Int) (A : Option Addr) (cap : Nat) (l : List Raw) (w : World) (ha : 0 ≤ a ∧ a ≤ 255) (hb : 0 ≤ b ∧ b ≤ 255) (hc : 0 ≤ c ∧ c ≤ 255) (hl : l.length ≤ 100000000000000) (hr : RRow w A l) (hok : ∀ x ∈ l, x.Ok) :
    Calls Try.prog 4 #[.agg #[.int .u8 a, .int .u8 b, .int .u8 c], .slice A l.length cap] w fun e w' => e = .returned (.bool true) ∧ Below w.heap.size w w' := by
  have hmade := fun W hr => made_calls a b c A cap l W ha hb hc hl hr hok
  have hmq := madeQ a b c l (qsOf_ok a b c)
  generalize madeS (qsOf a b c) (l.take 20) = q at hmade hmq
  have HM := Lib.hid hmq; clear hmq
  have HMADE := Lib.hid hmade; clear hmade
  have HR := Lib.hid hr; clear hr hok hl ha hb hc
  have HL0 := Lib.hid (ba_ (b0_ w) (.cells #[.int .u8 a, .int .u8 b, .int .u8 c] 22))
  have HA0 := Lib.hid (Blk.new w 22 [.int .u8 a, .int .u8 b, .int .u8 c])
  go_enter Try.func4, Try.ntmps4
  go_wp2_with fail
  refine (examples_calls _).mono ?_
  rintro e w1 ⟨rfl, hb1⟩
  have HL1 := Lib.hid (kb_ HL0.out hb1)
  have HA1 := Lib.hid (HA0.out.below hb1)
  clear hb1 HL0 HA0
  have a0 := HA1.out.cell 0 _ rfl
  have a1 := HA1.out.cell 1 _ rfl
  have a2 := HA1.out.cell 2 _ rfl
  go_wp2_with fail
  refine (HMADE.out _ (HR.out.below HL1.out.out)).mono ?_
  rintro e w2 ⟨⟨qa, qc, ja, jc⟩, rfl, hq2, hb2⟩
  have HL2 := Lib.hid (kb_ HL1.out hb2)
  have HQ2 := Lib.hid hq2
  clear hb2 hq2 HL1 HA1 a0 a1 a2 HMADE HR
  unfold Qv.val
  have HX0 := Lib.hid (Blk.new w2 29 [.slice qa q.qs.length qc, .slice ja q.js.length jc])
  have HLX := Lib.hid (ba_ HL2.out (.cells #[.slice qa q.qs.length qc, .slice ja q.js.length jc] 29))
  have HQX := Lib.hid (HQ2.out.below (ba_ (b0_ w2) (.cells #[.slice qa q.qs.length qc, .slice ja q.js.length jc] 29)).out)
  have hcn := fun v W hq => lnext_calls v q W hq HM.out.rt.fine
  rcases next_spec HM.out.rt with ⟨k0, bj, hnx, hbj, hrb, hbest⟩ | ⟨hnx, hnone⟩
  · rw [hnx] at hcn
    clear hnx
    unfold Qv.val at hcn
    have HCN := Lib.hid hcn; clear hcn
    go_wp2_with fail
    generalize w2.alloc (.cells #[.slice qa q.qs.length qc, .slice ja q.js.length jc] 29) = WQ at HX0 HLX HQX ⊢
    refine (HCN.out ⟨qa, qc, ja, jc⟩ _ HQX.out).mono ?_
    rintro e w3 ⟨⟨na, nc, ma, mc⟩, rfl, _, hb3⟩
    simp only [Qv.done]
    clear HCN
    obtain ⟨nn, hnn⟩ : ∃ nn : Nat, nn = ([] : List Int).length := ⟨_, rfl⟩
    obtain ⟨mn, hmn⟩ : ∃ mn : Nat, mn = ([] : List J).length := ⟨_, rfl⟩
    rw [← hnn, ← hmn]
    clear hnn hmn
    have HL3 := Lib.hid (kb_ HLX.out hb3)
    have HLQ3 := Lib.hid (show Below WQ.heap.size WQ w3 from hb3)
    have HX3 := Lib.hid (HX0.out.below hb3)
    have HQ := HQX; clear HQX
    clear hb3 HLX HX0 HL2 HQ2
    obtain ⟨Xb, hXb⟩ : ∃ x, x = w2.heap.size := ⟨_, rfl⟩
    rw [← hXb] at HX3 ⊢
    clear hXb
    have hk0 : k0 < q.js.length := (List.getElem?_eq_some_iff.1 hbj).1
    have hlen := HM.out.len
    have hst : bj.st = 1 := by
      simp only [rdy, Bool.and_eq_true, decide_eq_true_eq] at hrb
      exact hrb.1
    have hid : bj.id = (k0 : Int) + 1 := HM.out.rt.ids k0 bj hbj
    have HRD := Lib.hid (show ∀ (m : Nat) (x : J), q.js[m]? = some x → rdy q x = true → NBef bj.pr ((k0 : Int) + 1) x from fun m x hx hrx => by
      have := hbest m x hx hrx
      unfold NBef
      rw [← hid]
      exact ⟨fun h => this (.inl h), fun h => this (.inr h)⟩)
    have HSOK := Lib.hid (start_ok HM.out hbj hrb 50 (by omega))
    have HCS := Lib.hid (fun v W hq => lstart_calls v q ((k0 : Int) + 1) 50 W hq HM.out.rt.fine)
    rw [HSOK.out] at HCS
    generalize ({ q with js := q.js.set k0 { bj with st := 2, av := 50 } } : Qu) = q4 at HCS
    clear HSOK
    unfold Qv.val at HCS
    obtain ⟨ad0, hja, g0, g1, g2, g3, g4, g5, g6, g7, g8, g9, g10⟩ := (HQ.out.below HLQ3.out).job k0 hk0 bj hbj
    cases hja
    have x0 := HX3.out.cell 0 _ rfl
    have x1 := HX3.out.cell 1 _ rfl
    have zx := HX3.out.lt
    have zad := World.block_lt_of_cell? w3 _ g0
    have e1 : decide ((k0 : Int) + 1 < 1) = false := decide_eq_false (by omega)
    have e2 : decide ((q.js.length : Int) < (k0 : Int) + 1) = false := decide_eq_false (by omega)
    have e3 : (bj.st != 1) = false := by simpa using hst
    have hf2 := field_2
    clear hbj hrb hbest hst hid
    go_wp2_with fail
    have HN4 := Lib.hid (show Blk ((w3.alloc (.cells #[.slice na nn nc, .slice ma mn mc, .int .i64 ((k0 : Int) + 1), .int .i64 0] 45)).alloc (.cells #[.int .i64 bj.id, .int .i64 bj.tn, .int .i64 bj.pr, .int .i64 bj.kn, .int .i64 bj.bd, .int .i64 bj.im.g, .slice bj.im.ar.a bj.im.ar.n bj.im.ar.c, .slice bj.im.gl.a bj.im.gl.n bj.im.gl.c, .slice bj.im.gr.a bj.im.gr.n bj.im.gr.c, .int .i64 bj.st, .int .i64 bj.av] 40)) w3.heap.size 45 [.slice na nn nc, .slice ma mn mc, .int .i64 ((k0 : Int) + 1), .int .i64 0] from (Blk.new w3 45 [.slice na nn nc, .slice ma mn mc, .int .i64 ((k0 : Int) + 1), .int .i64 0]).alloc _)
    have HB4 := Lib.hid (show Blk ((w3.alloc (.cells #[.slice na nn nc, .slice ma mn mc, .int .i64 ((k0 : Int) + 1), .int .i64 0] 45)).alloc (.cells #[.int .i64 bj.id, .int .i64 bj.tn, .int .i64 bj.pr, .int .i64 bj.kn, .int .i64 bj.bd, .int .i64 bj.im.g, .slice bj.im.ar.a bj.im.ar.n bj.im.ar.c, .slice bj.im.gl.a bj.im.gl.n bj.im.gl.c, .slice bj.im.gr.a bj.im.gr.n bj.im.gr.c, .int .i64 bj.st, .int .i64 bj.av] 40)) (w3.heap.size + 1) 40 [.int .i64 bj.id, .int .i64 bj.tn, .int .i64 bj.pr, .int .i64 bj.kn, .int .i64 bj.bd, .int .i64 bj.im.g, .slice bj.im.ar.a bj.im.ar.n bj.im.ar.c, .slice bj.im.gl.a bj.im.gl.n bj.im.gl.c, .slice bj.im.gr.a bj.im.gr.n bj.im.gr.c, .int .i64 bj.st, .int .i64 bj.av] from blk_new' (w3.alloc (.cells #[.slice na nn nc, .slice ma mn mc, .int .i64 ((k0 : Int) + 1), .int .i64 0] 45)) (w3.heap.size + 1) (by simp) 40 [.int .i64 bj.id, .int .i64 bj.tn, .int .i64 bj.pr, .int .i64 bj.kn, .int .i64 bj.bd, .int .i64 bj.im.g, .slice bj.im.ar.a bj.im.ar.n bj.im.ar.c, .slice bj.im.gl.a bj.im.gl.n bj.im.gl.c, .slice bj.im.gr.a bj.im.gr.n bj.im.gr.c, .int .i64 bj.st, .int .i64 bj.av])
    have HX4 := Lib.hid ((HX3.out.alloc (.cells #[.slice na nn nc, .slice ma mn mc, .int .i64 ((k0 : Int) + 1), .int .i64 0] 45)).alloc (.cells #[.int .i64 bj.id, .int .i64 bj.tn, .int .i64 bj.pr, .int .i64 bj.kn, .int .i64 bj.bd, .int .i64 bj.im.g, .slice bj.im.ar.a bj.im.ar.n bj.im.ar.c, .slice bj.im.gl.a bj.im.gl.n bj.im.gl.c, .slice bj.im.gr.a bj.im.gr.n bj.im.gr.c, .int .i64 bj.st, .int .i64 bj.av] 40))
    have HL4 := Lib.hid (ba_ (ba_ HL3.out (.cells #[.slice na nn nc, .slice ma mn mc, .int .i64 ((k0 : Int) + 1), .int .i64 0] 45)) (.cells #[.int .i64 bj.id, .int .i64 bj.tn, .int .i64 bj.pr, .int .i64 bj.kn, .int .i64 bj.bd, .int .i64 bj.im.g, .slice bj.im.ar.a bj.im.ar.n bj.im.ar.c, .slice bj.im.gl.a bj.im.gl.n bj.im.gl.c, .slice bj.im.gr.a bj.im.gr.n bj.im.gr.c, .int .i64 bj.st, .int .i64 bj.av] 40))
    have HLQ4 := Lib.hid (ba_ (ba_ (show Hid (Below WQ.heap.size WQ w3) from HLQ3.out) (.cells #[.slice na nn nc, .slice ma mn mc, .int .i64 ((k0 : Int) + 1), .int .i64 0] 45)) (.cells #[.int .i64 bj.id, .int .i64 bj.tn, .int .i64 bj.pr, .int .i64 bj.kn, .int .i64 bj.bd, .int .i64 bj.im.g, .slice bj.im.ar.a bj.im.ar.n bj.im.ar.c, .slice bj.im.gl.a bj.im.gl.n bj.im.gl.c, .slice bj.im.gr.a bj.im.gr.n bj.im.gr.c, .int .i64 bj.st, .int .i64 bj.av] 40))
    clear g0 g1 g2 g3 g4 g5 g6 g7 g8 g9 g10 x0 x1 zx zad e1 e2 e3 HX3 HL3 HLQ3
    generalize (w3.alloc (.cells #[.slice na nn nc, .slice ma mn mc, .int .i64 ((k0 : Int) + 1), .int .i64 0] 45)).alloc (.cells #[.int .i64 bj.id, .int .i64 bj.tn, .int .i64 bj.pr, .int .i64 bj.kn, .int .i64 bj.bd, .int .i64 bj.im.g, .slice bj.im.ar.a bj.im.ar.n bj.im.ar.c, .slice bj.im.gl.a bj.im.gl.n bj.im.gl.c, .slice bj.im.gr.a bj.im.gr.n bj.im.gr.c, .int .i64 bj.st, .int .i64 bj.av] 40) = W4 at HN4 HB4 HX4 HL4 HLQ4 ⊢
    obtain ⟨Nb, hNb⟩ : ∃ x, x = w3.heap.size := ⟨_, rfl⟩
    rw [← hNb] at HN4 HB4 ⊢
    clear hNb
    obtain ⟨Bb, hBb⟩ : ∃ x, x = Nb + 1 := ⟨_, rfl⟩
    rw [← hBb] at HB4 ⊢
    clear hBb
    refine (HCS.out _ _ (HQ.out.below HLQ4.out.out)).mono ?_
    rintro e w5 ⟨v5, rfl, _, hb5⟩
    simp only [Qv.done]
    have HL := Lib.hid (kb_ HL4.out hb5)
    have HLQ := Lib.hid (kb_ HLQ4.out hb5)
    have HX := Lib.hid (HX4.out.below hb5)
    have HN := Lib.hid (HN4.out.below hb5)
    have HBst := Lib.hid (HB4.out.below hb5)
    clear hb5 HL4 HLQ4 HX4 HN4 HB4 HCS
    go_wp2
    clear hf2
    go_loopg [9, 10] q.js.length (fun gg v9 v10 wr => ∃ k : Nat, k ≤ q.js.length ∧ q.js.length - k ≤ gg ∧ v10 = .int .i64 k ∧ v9 = .int .i64 (cntR q k) ∧ Hid (Below w.heap.size w wr) ∧ Hid (Below WQ.heap.size WQ wr) ∧ Hid (Blk wr Xb 29 [.slice qa q.qs.length qc, .slice (some ad0) q.js.length jc]) ∧ Hid (Blk wr Nb 45 [.slice na nn nc, .slice ma mn mc, .int .i64 ((k0 : Int) + 1), .int .i64 0]) ∧ Hid (Blk wr Bb 40 [.int .i64 bj.id, .int .i64 bj.tn, .int .i64 bj.pr, .int .i64 bj.kn, .int .i64 bj.bd, .int .i64 bj.im.g, .slice bj.im.ar.a bj.im.ar.n bj.im.ar.c, .slice bj.im.gl.a bj.im.gl.n bj.im.gl.c, .slice bj.im.gr.a bj.im.gr.n bj.im.gr.c, .int .i64 bj.st, .int .i64 bj.av]))
    case atStart => exact ⟨0, Nat.zero_le _, by omega, rfl, rfl, HL.out, HLQ.out, HX.out, HN.out, HBst.out⟩
    case round =>
      clear HL HLQ HX HN HBst
      obtain ⟨k, hk, hg, rfl, rfl, HLr, HLq, HXr, HNr, HBr⟩ := hrel
      have x0 := HXr.out.cell 0 _ rfl
      have x1 := HXr.out.cell 1 _ rfl
      have n2 := HNr.out.cell 2 _ rfl
      have n3 := HNr.out.cell 3 _ rfl
      have hc := cntR_le q k
      by_cases hlt : k < q.js.length
      · obtain ⟨j, hj⟩ : ∃ j, q.js[k]? = some j := ⟨_, List.getElem?_eq_getElem hlt⟩
        obtain ⟨_, hja, h0, h1, h2, h3, h4, h5, h6, h7, h8, h9, h10⟩ := (HQ.out.below HLq.out).job k hlt j hj
        cases hja
        have HJ := Lib.hid hj
        have HST := Lib.hid (cntR_step hj)
        have hlen := HM.out.len
        have zx := HXr.out.lt
        have zb := HBr.out.lt
        have zn := HNr.out.lt
        have bp := HBr.out.cell 2 _ rfl
        have HLr2 := Lib.hid (ba_ HLr (.cells #[.int .i64 j.id, .int .i64 j.tn, .int .i64 j.pr, .int .i64 j.kn, .int .i64 j.bd, .int .i64 j.im.g, .slice j.im.ar.a j.im.ar.n j.im.ar.c, .slice j.im.gl.a j.im.gl.n j.im.gl.c, .slice j.im.gr.a j.im.gr.n j.im.gr.c, .int .i64 j.st, .int .i64 j.av] 40))
        have HLq2 := Lib.hid (ba_ HLq (.cells #[.int .i64 j.id, .int .i64 j.tn, .int .i64 j.pr, .int .i64 j.kn, .int .i64 j.bd, .int .i64 j.im.g, .slice j.im.ar.a j.im.ar.n j.im.ar.c, .slice j.im.gl.a j.im.gl.n j.im.gl.c, .slice j.im.gr.a j.im.gr.n j.im.gr.c, .int .i64 j.st, .int .i64 j.av] 40))
        have HXr2 := Lib.hid (HXr.out.alloc (.cells #[.int .i64 j.id, .int .i64 j.tn, .int .i64 j.pr, .int .i64 j.kn, .int .i64 j.bd, .int .i64 j.im.g, .slice j.im.ar.a j.im.ar.n j.im.ar.c, .slice j.im.gl.a j.im.gl.n j.im.gl.c, .slice j.im.gr.a j.im.gr.n j.im.gr.c, .int .i64 j.st, .int .i64 j.av] 40))
        have HNr2 := Lib.hid (HNr.out.alloc (.cells #[.int .i64 j.id, .int .i64 j.tn, .int .i64 j.pr, .int .i64 j.kn, .int .i64 j.bd, .int .i64 j.im.g, .slice j.im.ar.a j.im.ar.n j.im.ar.c, .slice j.im.gl.a j.im.gl.n j.im.gl.c, .slice j.im.gr.a j.im.gr.n j.im.gr.c, .int .i64 j.st, .int .i64 j.av] 40))
        have HBr2 := Lib.hid (HBr.out.alloc (.cells #[.int .i64 j.id, .int .i64 j.tn, .int .i64 j.pr, .int .i64 j.kn, .int .i64 j.bd, .int .i64 j.im.g, .slice j.im.ar.a j.im.ar.n j.im.ar.c, .slice j.im.gl.a j.im.gl.n j.im.gl.c, .slice j.im.gr.a j.im.gr.n j.im.gr.c, .int .i64 j.st, .int .i64 j.av] 40))
        by_cases c1 : j.st = 1
        · have e1 : (j.st == 2) = false := beq_eq_false_iff_ne.2 (by omega)
          have e2 : (j.st != 1) = false := by simpa using c1
          have hcs : cntR q (k + 1) = cntR q k := by rw [HST.out, if_neg (by omega)]
          have HCS := Lib.hid hcs
          have hbd := HM.out.inv.bd hj
          have hu := HM.out.rt.fine.small.all j.tn
          have hqs := HM.out.inv.q3
          obtain ⟨ad2, hqa, hqc⟩ := (HQ.out.below HLq2.out.out).qcell j.tn hbd.1 (by omega)
          cases hqa
          have i0 := hbd.1
          have i1 : j.tn < (q.qs.length : Int) := by omega
          have hsum : IntKind.i64.wrap (j.bd + used j.tn q.js) = j.bd + used j.tn q.js := i64w _ (by omega) (by omega)
          have HU := Lib.hid (fun W hq => used_calls ⟨some ad2, qc, some ad0, jc⟩ q j.tn W hq HM.out.rt.fine.small)
          by_cases c2 : quo q j.tn < j.bd + used j.tn q.js
          · have e3 : decide (quo q j.tn < j.bd + used j.tn q.js) = true := decide_eq_true c2
            clear hj c1 c2 hcs hbd hu hqs
            unfold Qv.val at HU
            go_wp2_with fail
            generalize hwz : wr.alloc (.cells #[.int .i64 j.id, .int .i64 j.tn, .int .i64 j.pr, .int .i64 j.kn, .int .i64 j.bd, .int .i64 j.im.g, .slice j.im.ar.a j.im.ar.n j.im.ar.c, .slice j.im.gl.a j.im.gl.n j.im.gl.c, .slice j.im.gr.a j.im.gr.n j.im.gr.c, .int .i64 j.st, .int .i64 j.av] 40) = wz at HLr2 HLq2 HXr2 HNr2 HBr2 hqc ⊢
            have HV := Lib.hid (show Blk wz wr.heap.size 40 j.cells from by rw [← hwz]; exact Blk.new wr 40 j.cells)
            clear hwz x0 x1 n2 n3 bp
            have x0 := HXr2.out.cell 0 _ rfl
            have x1 := HXr2.out.cell 1 _ rfl
            have v1 : wz.cell? ⟨wr.heap.size, 1, none⟩ = some (.int .i64 j.tn) := HV.out.cell 1 _ rfl
            have v4 : wz.cell? ⟨wr.heap.size, 4, none⟩ = some (.int .i64 j.bd) := HV.out.cell 4 _ rfl
            have v9 : wz.cell? ⟨wr.heap.size, 9, none⟩ = some (.int .i64 j.st) := HV.out.cell 9 _ rfl
            refine region_below (by kernel_rfl) (by kernel_rfl) ?_
            repeat
              first
                | go_big_quiet_skip
                | (go_big_quiet_want
                   apply Exists.intro
                   refine ⟨fun w' hC => ?_, ?_⟩
                   · have hk := hC.keep
                     first
                       | (go_simp; done)
                       | (go_simp; rfl)
                       | (go_simp; go_at_call 15; refine (HU.out _ (HQ.out.below (kb_ HLq2.out hC))).mono ?_; rintro e w2 ⟨rfl, hb⟩; exact ⟨rfl, hC.then hb⟩)
                   simp only [Act.put, List.setIfInBounds_toArray, List.set_cons_zero, List.set_cons_succ]
                   go_big_quiet_on)
            refine wpQuiet_nil ?_
            intro w2 hC
            clear hsum
            go_wp2
            go_roundg (q.js.length - (k + 1))
            case measure => omega
            case rel => exact ⟨k + 1, by omega, by omega, by go_num, by rw [HCS.out], (kb_ HLr2.out hC).out, (kb_ HLq2.out hC).out, HXr2.out.below hC, HNr2.out.below hC, HBr2.out.below hC⟩
          · have e3 : decide (quo q j.tn < j.bd + used j.tn q.js) = false := decide_eq_false c2
            have hrd : rdy q j = true := by simp only [rdy, Bool.and_eq_true, decide_eq_true_eq]; exact ⟨c1, by omega⟩
            have hnb := HRD.out k j hj hrd
            have e4 : decide (bj.pr < j.pr) = false := decide_eq_false (by have := hnb.1; omega)
            clear hj c1 c2 hcs hbd hu hqs hrd
            unfold Qv.val at HU
            by_cases c5 : j.pr = bj.pr
            · have e5 : (j.pr == bj.pr) = true := beq_iff_eq.2 c5
              have e6 : decide (j.id < ((k0 : Int) + 1)) = false := decide_eq_false (fun h => hnb.2 ⟨c5, h⟩)
              clear c5 hnb
              go_wp2_with fail
              generalize hwz : wr.alloc (.cells #[.int .i64 j.id, .int .i64 j.tn, .int .i64 j.pr, .int .i64 j.kn, .int .i64 j.bd, .int .i64 j.im.g, .slice j.im.ar.a j.im.ar.n j.im.ar.c, .slice j.im.gl.a j.im.gl.n j.im.gl.c, .slice j.im.gr.a j.im.gr.n j.im.gr.c, .int .i64 j.st, .int .i64 j.av] 40) = wz at HLr2 HLq2 HXr2 HNr2 HBr2 hqc ⊢
              have HV := Lib.hid (show Blk wz wr.heap.size 40 j.cells from by rw [← hwz]; exact Blk.new wr 40 j.cells)
              clear hwz x0 x1 n2 n3 bp
              have x0 := HXr2.out.cell 0 _ rfl
              have x1 := HXr2.out.cell 1 _ rfl
              have v1 : wz.cell? ⟨wr.heap.size, 1, none⟩ = some (.int .i64 j.tn) := HV.out.cell 1 _ rfl
              have v4 : wz.cell? ⟨wr.heap.size, 4, none⟩ = some (.int .i64 j.bd) := HV.out.cell 4 _ rfl
              have v9 : wz.cell? ⟨wr.heap.size, 9, none⟩ = some (.int .i64 j.st) := HV.out.cell 9 _ rfl
              refine region_below (by kernel_rfl) (by kernel_rfl) ?_
              repeat
                first
                  | go_big_quiet_skip
                  | (go_big_quiet_want
                     apply Exists.intro
                     refine ⟨fun w' hC => ?_, ?_⟩
                     · have hk := hC.keep
                       first
                         | (go_simp; done)
                         | (go_simp; rfl)
                         | (go_simp; go_at_call 15; refine (HU.out _ (HQ.out.below (kb_ HLq2.out hC))).mono ?_; rintro e w2 ⟨rfl, hb⟩; exact ⟨rfl, hC.then hb⟩)
                     simp only [Act.put, List.setIfInBounds_toArray, List.set_cons_zero, List.set_cons_succ]
                     go_big_quiet_on)
              refine wpQuiet_nil ?_
              intro w2 hC
              clear hsum x0 x1
              have bp := (HBr2.out.below hC).cell 2 _ rfl
              have n2 := (HNr2.out.below hC).cell 2 _ rfl
              have v0 : w2.cell? ⟨wr.heap.size, 0, none⟩ = some (.int .i64 j.id) := (HV.out.below hC).cell 0 _ rfl
              have v2 : w2.cell? ⟨wr.heap.size, 2, none⟩ = some (.int .i64 j.pr) := (HV.out.below hC).cell 2 _ rfl
              go_wp2
              go_roundg (q.js.length - (k + 1))
              case measure => omega
              case rel => exact ⟨k + 1, by omega, by omega, by go_num, by rw [HCS.out], (kb_ HLr2.out hC).out, (kb_ HLq2.out hC).out, HXr2.out.below hC, HNr2.out.below hC, HBr2.out.below hC⟩
            · have e5 : (j.pr == bj.pr) = false := beq_eq_false_iff_ne.2 c5
              clear c5 hnb
              go_wp2_with fail
              generalize hwz : wr.alloc (.cells #[.int .i64 j.id, .int .i64 j.tn, .int .i64 j.pr, .int .i64 j.kn, .int .i64 j.bd, .int .i64 j.im.g, .slice j.im.ar.a j.im.ar.n j.im.ar.c, .slice j.im.gl.a j.im.gl.n j.im.gl.c, .slice j.im.gr.a j.im.gr.n j.im.gr.c, .int .i64 j.st, .int .i64 j.av] 40) = wz at HLr2 HLq2 HXr2 HNr2 HBr2 hqc ⊢
              have HV := Lib.hid (show Blk wz wr.heap.size 40 j.cells from by rw [← hwz]; exact Blk.new wr 40 j.cells)
              clear hwz x0 x1 n2 n3 bp
              have x0 := HXr2.out.cell 0 _ rfl
              have x1 := HXr2.out.cell 1 _ rfl
              have v1 : wz.cell? ⟨wr.heap.size, 1, none⟩ = some (.int .i64 j.tn) := HV.out.cell 1 _ rfl
              have v4 : wz.cell? ⟨wr.heap.size, 4, none⟩ = some (.int .i64 j.bd) := HV.out.cell 4 _ rfl
              have v9 : wz.cell? ⟨wr.heap.size, 9, none⟩ = some (.int .i64 j.st) := HV.out.cell 9 _ rfl
              refine region_below (by kernel_rfl) (by kernel_rfl) ?_
              repeat
                first
                  | go_big_quiet_skip
                  | (go_big_quiet_want
                     apply Exists.intro
                     refine ⟨fun w' hC => ?_, ?_⟩
                     · have hk := hC.keep
                       first
                         | (go_simp; done)
                         | (go_simp; rfl)
                         | (go_simp; go_at_call 15; refine (HU.out _ (HQ.out.below (kb_ HLq2.out hC))).mono ?_; rintro e w2 ⟨rfl, hb⟩; exact ⟨rfl, hC.then hb⟩)
                     simp only [Act.put, List.setIfInBounds_toArray, List.set_cons_zero, List.set_cons_succ]
                     go_big_quiet_on)
              refine wpQuiet_nil ?_
              intro w2 hC
              clear hsum x0 x1
              have bp := (HBr2.out.below hC).cell 2 _ rfl
              have n2 := (HNr2.out.below hC).cell 2 _ rfl
              have v0 : w2.cell? ⟨wr.heap.size, 0, none⟩ = some (.int .i64 j.id) := (HV.out.below hC).cell 0 _ rfl
              have v2 : w2.cell? ⟨wr.heap.size, 2, none⟩ = some (.int .i64 j.pr) := (HV.out.below hC).cell 2 _ rfl
              go_wp2
              go_roundg (q.js.length - (k + 1))
              case measure => omega
              case rel => exact ⟨k + 1, by omega, by omega, by go_num, by rw [HCS.out], (kb_ HLr2.out hC).out, (kb_ HLq2.out hC).out, HXr2.out.below hC, HNr2.out.below hC, HBr2.out.below hC⟩
        · have e2 : (j.st != 1) = true := by simpa using c1
          by_cases c3 : j.st = 2
          · have e1 : (j.st == 2) = true := beq_iff_eq.2 c3
            have hcs : cntR q (k + 1) = cntR q k + 1 := by rw [HST.out, if_pos c3]
            have HCS := Lib.hid hcs
            clear hj c1 c3 hcs
            go_wp2_with fail
            go_quiet (fail)
            go_wp2
            go_roundg (q.js.length - (k + 1))
            case measure => omega
            case rel => exact ⟨k + 1, by omega, by omega, by go_num, by rw [HCS.out]; go_num, pwdN HLr2.out nq, (show Below WQ.heap.size WQ _ from pwdN HLq2.out nq), HXr2.out.drewN nq, HNr2.out.drewN nq, HBr2.out.drewN nq⟩
          · have e1 : (j.st == 2) = false := beq_eq_false_iff_ne.2 c3
            have hcs : cntR q (k + 1) = cntR q k := by rw [HST.out, if_neg c3]
            have HCS := Lib.hid hcs
            clear hj c1 c3 hcs
            go_wp2_with fail
            go_quiet (fail)
            go_wp2
            go_roundg (q.js.length - (k + 1))
            case measure => omega
            case rel => exact ⟨k + 1, by omega, by omega, by go_num, by rw [HCS.out], pwdN HLr2.out nq, (show Below WQ.heap.size WQ _ from pwdN HLq2.out nq), HXr2.out.drewN nq, HNr2.out.drewN nq, HBr2.out.drewN nq⟩
      · go_wp2
        all_goals
          go_ret
          exact ⟨rfl, HLr.out⟩
  · rw [hnx] at hcn
    clear hnx
    unfold Qv.val at hcn
    have HCN := Lib.hid hcn; clear hcn
    go_wp2_with fail
    generalize w2.alloc (.cells #[.slice qa q.qs.length qc, .slice ja q.js.length jc] 29) = WQ at HX0 HLX HQX ⊢
    refine (HCN.out ⟨qa, qc, ja, jc⟩ _ HQX.out).mono ?_
    rintro e w3 ⟨⟨na, nc, ma, mc⟩, rfl, _, hb3⟩
    simp only [Qv.done]
    clear HCN
    obtain ⟨nn, hnn⟩ : ∃ nn : Nat, nn = ([] : List Int).length := ⟨_, rfl⟩
    obtain ⟨mn, hmn⟩ : ∃ mn : Nat, mn = ([] : List J).length := ⟨_, rfl⟩
    rw [← hnn, ← hmn]
    clear hnn hmn
    have HL3 := Lib.hid (kb_ HLX.out hb3)
    have HLQ3 := Lib.hid (show Below WQ.heap.size WQ w3 from hb3)
    have HX3 := Lib.hid (HX0.out.below hb3)
    have HQ := HQX; clear HQX
    clear hb3 HLX HX0 HL2 HQ2
    obtain ⟨Xb, hXb⟩ : ∃ x, x = w2.heap.size := ⟨_, rfl⟩
    rw [← hXb] at HX3 ⊢
    clear hXb
    have HNO := Lib.hid hnone; clear hnone
    obtain ⟨bj, hbj⟩ : ∃ bj : J, bj = exJ 0 (-1) 0 := ⟨_, rfl⟩
    have HRD := Lib.hid (show ∀ (m : Nat) (x : J), q.js[m]? = some x → rdy q x = true → NBef bj.pr 0 x from fun m x hx hrx => by
      rw [HNO.out m x hx] at hrx; cases hrx)
    have HLZ := Lib.hid (show ([.int .i64 bj.id, .int .i64 bj.tn, .int .i64 bj.pr, .int .i64 bj.kn, .int .i64 bj.bd, .int .i64 bj.im.g, .slice bj.im.ar.a bj.im.ar.n bj.im.ar.c, .slice bj.im.gl.a bj.im.gl.n bj.im.gl.c, .slice bj.im.gr.a bj.im.gr.n bj.im.gr.c, .int .i64 bj.st, .int .i64 bj.av] : List Value) = [.int .i64 0, .int .i64 0, .int .i64 (-1), .int .i64 0, .int .i64 0, .int .i64 0, .slice none 0 0, .slice none 0 0, .slice none 0 0, .int .i64 0, .int .i64 0] from by rw [hbj]; rfl)
    clear hbj
    go_wp2
    have HN4 := Lib.hid (show Blk ((w3.alloc (.cells #[.slice na nn nc, .slice ma mn mc, .int .i64 0, .int .i64 4] 45)).alloc (.cells #[.int .i64 0, .int .i64 0, .int .i64 (-1), .int .i64 0, .int .i64 0, .int .i64 0, .slice none 0 0, .slice none 0 0, .slice none 0 0, .int .i64 0, .int .i64 0] 40)) w3.heap.size 45 [.slice na nn nc, .slice ma mn mc, .int .i64 0, .int .i64 4] from (Blk.new w3 45 [.slice na nn nc, .slice ma mn mc, .int .i64 0, .int .i64 4]).alloc _)
    have HB4 := Lib.hid (show Blk ((w3.alloc (.cells #[.slice na nn nc, .slice ma mn mc, .int .i64 0, .int .i64 4] 45)).alloc (.cells #[.int .i64 0, .int .i64 0, .int .i64 (-1), .int .i64 0, .int .i64 0, .int .i64 0, .slice none 0 0, .slice none 0 0, .slice none 0 0, .int .i64 0, .int .i64 0] 40)) (w3.heap.size + 1) 40 [.int .i64 bj.id, .int .i64 bj.tn, .int .i64 bj.pr, .int .i64 bj.kn, .int .i64 bj.bd, .int .i64 bj.im.g, .slice bj.im.ar.a bj.im.ar.n bj.im.ar.c, .slice bj.im.gl.a bj.im.gl.n bj.im.gl.c, .slice bj.im.gr.a bj.im.gr.n bj.im.gr.c, .int .i64 bj.st, .int .i64 bj.av] from by rw [HLZ.out]; exact blk_new' (w3.alloc (.cells #[.slice na nn nc, .slice ma mn mc, .int .i64 0, .int .i64 4] 45)) (w3.heap.size + 1) (by simp) 40 [.int .i64 0, .int .i64 0, .int .i64 (-1), .int .i64 0, .int .i64 0, .int .i64 0, .slice none 0 0, .slice none 0 0, .slice none 0 0, .int .i64 0, .int .i64 0])
    have HX4 := Lib.hid ((HX3.out.alloc (.cells #[.slice na nn nc, .slice ma mn mc, .int .i64 0, .int .i64 4] 45)).alloc (.cells #[.int .i64 0, .int .i64 0, .int .i64 (-1), .int .i64 0, .int .i64 0, .int .i64 0, .slice none 0 0, .slice none 0 0, .slice none 0 0, .int .i64 0, .int .i64 0] 40))
    have HL4 := Lib.hid (ba_ (ba_ HL3.out (.cells #[.slice na nn nc, .slice ma mn mc, .int .i64 0, .int .i64 4] 45)) (.cells #[.int .i64 0, .int .i64 0, .int .i64 (-1), .int .i64 0, .int .i64 0, .int .i64 0, .slice none 0 0, .slice none 0 0, .slice none 0 0, .int .i64 0, .int .i64 0] 40))
    have HLQ4 := Lib.hid (ba_ (ba_ (show Hid (Below WQ.heap.size WQ w3) from HLQ3.out) (.cells #[.slice na nn nc, .slice ma mn mc, .int .i64 0, .int .i64 4] 45)) (.cells #[.int .i64 0, .int .i64 0, .int .i64 (-1), .int .i64 0, .int .i64 0, .int .i64 0, .slice none 0 0, .slice none 0 0, .slice none 0 0, .int .i64 0, .int .i64 0] 40))
    clear HX3 HL3 HLQ3
    generalize (w3.alloc (.cells #[.slice na nn nc, .slice ma mn mc, .int .i64 0, .int .i64 4] 45)).alloc (.cells #[.int .i64 0, .int .i64 0, .int .i64 (-1), .int .i64 0, .int .i64 0, .int .i64 0, .slice none 0 0, .slice none 0 0, .slice none 0 0, .int .i64 0, .int .i64 0] 40) = W4 at HN4 HB4 HX4 HL4 HLQ4 ⊢
    obtain ⟨Nb, hNb⟩ : ∃ x, x = w3.heap.size := ⟨_, rfl⟩
    rw [← hNb] at HN4 HB4 ⊢
    clear hNb
    obtain ⟨Bb, hBb⟩ : ∃ x, x = Nb + 1 := ⟨_, rfl⟩
    rw [← hBb] at HB4 ⊢
    clear hBb
    have HL : Hid (Below w.heap.size w W4) := HL4.out.out
    have HLQ : Hid (Below WQ.heap.size WQ W4) := HLQ4.out.out
    have HX := HX4; have HN := HN4; have HBst := HB4
    clear HL4 HLQ4 HX4 HN4 HB4
    go_loopg [9, 10] q.js.length (fun gg v9 v10 wr => ∃ k : Nat, k ≤ q.js.length ∧ q.js.length - k ≤ gg ∧ v10 = .int .i64 k ∧ v9 = .int .i64 (cntR q k) ∧ Hid (Below w.heap.size w wr) ∧ Hid (Below WQ.heap.size WQ wr) ∧ Hid (Blk wr Xb 29 [.slice qa q.qs.length qc, .slice ja q.js.length jc]) ∧ Hid (Blk wr Nb 45 [.slice na nn nc, .slice ma mn mc, .int .i64 0, .int .i64 4]) ∧ Hid (Blk wr Bb 40 [.int .i64 bj.id, .int .i64 bj.tn, .int .i64 bj.pr, .int .i64 bj.kn, .int .i64 bj.bd, .int .i64 bj.im.g, .slice bj.im.ar.a bj.im.ar.n bj.im.ar.c, .slice bj.im.gl.a bj.im.gl.n bj.im.gl.c, .slice bj.im.gr.a bj.im.gr.n bj.im.gr.c, .int .i64 bj.st, .int .i64 bj.av]))
    case atStart => exact ⟨0, Nat.zero_le _, by omega, rfl, rfl, HL.out, HLQ.out, HX.out, HN.out, HBst.out⟩
    case round =>
      clear HL HLQ HX HN HBst
      obtain ⟨k, hk, hg, rfl, rfl, HLr, HLq, HXr, HNr, HBr⟩ := hrel
      have x0 := HXr.out.cell 0 _ rfl
      have x1 := HXr.out.cell 1 _ rfl
      have n2 := HNr.out.cell 2 _ rfl
      have n3 := HNr.out.cell 3 _ rfl
      have hc := cntR_le q k
      by_cases hlt : k < q.js.length
      · obtain ⟨j, hj⟩ : ∃ j, q.js[k]? = some j := ⟨_, List.getElem?_eq_getElem hlt⟩
        obtain ⟨ad, hja, h0, h1, h2, h3, h4, h5, h6, h7, h8, h9, h10⟩ := (HQ.out.below HLq.out).job k hlt j hj
        cases hja
        have HJ := Lib.hid hj
        have HST := Lib.hid (cntR_step hj)
        have hlen := HM.out.len
        have zx := HXr.out.lt
        have zb := HBr.out.lt
        have zn := HNr.out.lt
        have bp := HBr.out.cell 2 _ rfl
        have HLr2 := Lib.hid (ba_ HLr (.cells #[.int .i64 j.id, .int .i64 j.tn, .int .i64 j.pr, .int .i64 j.kn, .int .i64 j.bd, .int .i64 j.im.g, .slice j.im.ar.a j.im.ar.n j.im.ar.c, .slice j.im.gl.a j.im.gl.n j.im.gl.c, .slice j.im.gr.a j.im.gr.n j.im.gr.c, .int .i64 j.st, .int .i64 j.av] 40))
        have HLq2 := Lib.hid (ba_ HLq (.cells #[.int .i64 j.id, .int .i64 j.tn, .int .i64 j.pr, .int .i64 j.kn, .int .i64 j.bd, .int .i64 j.im.g, .slice j.im.ar.a j.im.ar.n j.im.ar.c, .slice j.im.gl.a j.im.gl.n j.im.gl.c, .slice j.im.gr.a j.im.gr.n j.im.gr.c, .int .i64 j.st, .int .i64 j.av] 40))
        have HXr2 := Lib.hid (HXr.out.alloc (.cells #[.int .i64 j.id, .int .i64 j.tn, .int .i64 j.pr, .int .i64 j.kn, .int .i64 j.bd, .int .i64 j.im.g, .slice j.im.ar.a j.im.ar.n j.im.ar.c, .slice j.im.gl.a j.im.gl.n j.im.gl.c, .slice j.im.gr.a j.im.gr.n j.im.gr.c, .int .i64 j.st, .int .i64 j.av] 40))
        have HNr2 := Lib.hid (HNr.out.alloc (.cells #[.int .i64 j.id, .int .i64 j.tn, .int .i64 j.pr, .int .i64 j.kn, .int .i64 j.bd, .int .i64 j.im.g, .slice j.im.ar.a j.im.ar.n j.im.ar.c, .slice j.im.gl.a j.im.gl.n j.im.gl.c, .slice j.im.gr.a j.im.gr.n j.im.gr.c, .int .i64 j.st, .int .i64 j.av] 40))
        have HBr2 := Lib.hid (HBr.out.alloc (.cells #[.int .i64 j.id, .int .i64 j.tn, .int .i64 j.pr, .int .i64 j.kn, .int .i64 j.bd, .int .i64 j.im.g, .slice j.im.ar.a j.im.ar.n j.im.ar.c, .slice j.im.gl.a j.im.gl.n j.im.gl.c, .slice j.im.gr.a j.im.gr.n j.im.gr.c, .int .i64 j.st, .int .i64 j.av] 40))
        by_cases c1 : j.st = 1
        · have e1 : (j.st == 2) = false := beq_eq_false_iff_ne.2 (by omega)
          have e2 : (j.st != 1) = false := by simpa using c1
          have hcs : cntR q (k + 1) = cntR q k := by rw [HST.out, if_neg (by omega)]
          have HCS := Lib.hid hcs
          have hbd := HM.out.inv.bd hj
          have hu := HM.out.rt.fine.small.all j.tn
          have hqs := HM.out.inv.q3
          obtain ⟨ad2, hqa, hqc⟩ := (HQ.out.below HLq2.out.out).qcell j.tn hbd.1 (by omega)
          cases hqa
          have i0 := hbd.1
          have i1 : j.tn < (q.qs.length : Int) := by omega
          have hsum : IntKind.i64.wrap (j.bd + used j.tn q.js) = j.bd + used j.tn q.js := i64w _ (by omega) (by omega)
          have HU := Lib.hid (fun W hq => used_calls ⟨some ad2, qc, some ad, jc⟩ q j.tn W hq HM.out.rt.fine.small)
          by_cases c2 : quo q j.tn < j.bd + used j.tn q.js
          · have e3 : decide (quo q j.tn < j.bd + used j.tn q.js) = true := decide_eq_true c2
            clear hj c1 c2 hcs hbd hu hqs
            unfold Qv.val at HU
            go_wp2_with fail
            generalize hwz : wr.alloc (.cells #[.int .i64 j.id, .int .i64 j.tn, .int .i64 j.pr, .int .i64 j.kn, .int .i64 j.bd, .int .i64 j.im.g, .slice j.im.ar.a j.im.ar.n j.im.ar.c, .slice j.im.gl.a j.im.gl.n j.im.gl.c, .slice j.im.gr.a j.im.gr.n j.im.gr.c, .int .i64 j.st, .int .i64 j.av] 40) = wz at HLr2 HLq2 HXr2 HNr2 HBr2 hqc ⊢
            have HV := Lib.hid (show Blk wz wr.heap.size 40 j.cells from by rw [← hwz]; exact Blk.new wr 40 j.cells)
            clear hwz x0 x1 n2 n3 bp
            have x0 := HXr2.out.cell 0 _ rfl
            have x1 := HXr2.out.cell 1 _ rfl
            have v1 : wz.cell? ⟨wr.heap.size, 1, none⟩ = some (.int .i64 j.tn) := HV.out.cell 1 _ rfl
            have v4 : wz.cell? ⟨wr.heap.size, 4, none⟩ = some (.int .i64 j.bd) := HV.out.cell 4 _ rfl
            have v9 : wz.cell? ⟨wr.heap.size, 9, none⟩ = some (.int .i64 j.st) := HV.out.cell 9 _ rfl
            refine region_below (by kernel_rfl) (by kernel_rfl) ?_
            repeat
              first
                | go_big_quiet_skip
                | (go_big_quiet_want
                   apply Exists.intro
                   refine ⟨fun w' hC => ?_, ?_⟩
                   · have hk := hC.keep
                     first
                       | (go_simp; done)
                       | (go_simp; rfl)
                       | (go_simp; go_at_call 15; refine (HU.out _ (HQ.out.below (kb_ HLq2.out hC))).mono ?_; rintro e w2 ⟨rfl, hb⟩; exact ⟨rfl, hC.then hb⟩)
                   simp only [Act.put, List.setIfInBounds_toArray, List.set_cons_zero, List.set_cons_succ]
                   go_big_quiet_on)
            refine wpQuiet_nil ?_
            intro w2 hC
            clear hsum
            go_wp2
            go_roundg (q.js.length - (k + 1))
            case measure => omega
            case rel => exact ⟨k + 1, by omega, by omega, by go_num, by rw [HCS.out], (kb_ HLr2.out hC).out, (kb_ HLq2.out hC).out, HXr2.out.below hC, HNr2.out.below hC, HBr2.out.below hC⟩
          · have e3 : decide (quo q j.tn < j.bd + used j.tn q.js) = false := decide_eq_false c2
            have hrd : rdy q j = true := by simp only [rdy, Bool.and_eq_true, decide_eq_true_eq]; exact ⟨c1, by omega⟩
            have hnb := HRD.out k j hj hrd
            have e4 : decide (bj.pr < j.pr) = false := decide_eq_false (by have := hnb.1; omega)
            clear hj c1 c2 hcs hbd hu hqs hrd
            unfold Qv.val at HU
            by_cases c5 : j.pr = bj.pr
            · have e5 : (j.pr == bj.pr) = true := beq_iff_eq.2 c5
              have e6 : decide (j.id < 0) = false := decide_eq_false (fun h => hnb.2 ⟨c5, h⟩)
              clear c5 hnb
              go_wp2_with fail
              generalize hwz : wr.alloc (.cells #[.int .i64 j.id, .int .i64 j.tn, .int .i64 j.pr, .int .i64 j.kn, .int .i64 j.bd, .int .i64 j.im.g, .slice j.im.ar.a j.im.ar.n j.im.ar.c, .slice j.im.gl.a j.im.gl.n j.im.gl.c, .slice j.im.gr.a j.im.gr.n j.im.gr.c, .int .i64 j.st, .int .i64 j.av] 40) = wz at HLr2 HLq2 HXr2 HNr2 HBr2 hqc ⊢
              have HV := Lib.hid (show Blk wz wr.heap.size 40 j.cells from by rw [← hwz]; exact Blk.new wr 40 j.cells)
              clear hwz x0 x1 n2 n3 bp
              have x0 := HXr2.out.cell 0 _ rfl
              have x1 := HXr2.out.cell 1 _ rfl
              have v1 : wz.cell? ⟨wr.heap.size, 1, none⟩ = some (.int .i64 j.tn) := HV.out.cell 1 _ rfl
              have v4 : wz.cell? ⟨wr.heap.size, 4, none⟩ = some (.int .i64 j.bd) := HV.out.cell 4 _ rfl
              have v9 : wz.cell? ⟨wr.heap.size, 9, none⟩ = some (.int .i64 j.st) := HV.out.cell 9 _ rfl
              refine region_below (by kernel_rfl) (by kernel_rfl) ?_
              repeat
                first
                  | go_big_quiet_skip
                  | (go_big_quiet_want
                     apply Exists.intro
                     refine ⟨fun w' hC => ?_, ?_⟩
                     · have hk := hC.keep
                       first
                         | (go_simp; done)
                         | (go_simp; rfl)
                         | (go_simp; go_at_call 15; refine (HU.out _ (HQ.out.below (kb_ HLq2.out hC))).mono ?_; rintro e w2 ⟨rfl, hb⟩; exact ⟨rfl, hC.then hb⟩)
                     simp only [Act.put, List.setIfInBounds_toArray, List.set_cons_zero, List.set_cons_succ]
                     go_big_quiet_on)
              refine wpQuiet_nil ?_
              intro w2 hC
              clear hsum x0 x1
              have bp := (HBr2.out.below hC).cell 2 _ rfl
              have n2 := (HNr2.out.below hC).cell 2 _ rfl
              have v0 : w2.cell? ⟨wr.heap.size, 0, none⟩ = some (.int .i64 j.id) := (HV.out.below hC).cell 0 _ rfl
              have v2 : w2.cell? ⟨wr.heap.size, 2, none⟩ = some (.int .i64 j.pr) := (HV.out.below hC).cell 2 _ rfl
              go_wp2
              go_roundg (q.js.length - (k + 1))
              case measure => omega
              case rel => exact ⟨k + 1, by omega, by omega, by go_num, by rw [HCS.out], (kb_ HLr2.out hC).out, (kb_ HLq2.out hC).out, HXr2.out.below hC, HNr2.out.below hC, HBr2.out.below hC⟩
            · have e5 : (j.pr == bj.pr) = false := beq_eq_false_iff_ne.2 c5
              clear c5 hnb
              go_wp2_with fail
              generalize hwz : wr.alloc (.cells #[.int .i64 j.id, .int .i64 j.tn, .int .i64 j.pr, .int .i64 j.kn, .int .i64 j.bd, .int .i64 j.im.g, .slice j.im.ar.a j.im.ar.n j.im.ar.c, .slice j.im.gl.a j.im.gl.n j.im.gl.c, .slice j.im.gr.a j.im.gr.n j.im.gr.c, .int .i64 j.st, .int .i64 j.av] 40) = wz at HLr2 HLq2 HXr2 HNr2 HBr2 hqc ⊢
              have HV := Lib.hid (show Blk wz wr.heap.size 40 j.cells from by rw [← hwz]; exact Blk.new wr 40 j.cells)
              clear hwz x0 x1 n2 n3 bp
              have x0 := HXr2.out.cell 0 _ rfl
              have x1 := HXr2.out.cell 1 _ rfl
              have v1 : wz.cell? ⟨wr.heap.size, 1, none⟩ = some (.int .i64 j.tn) := HV.out.cell 1 _ rfl
              have v4 : wz.cell? ⟨wr.heap.size, 4, none⟩ = some (.int .i64 j.bd) := HV.out.cell 4 _ rfl
              have v9 : wz.cell? ⟨wr.heap.size, 9, none⟩ = some (.int .i64 j.st) := HV.out.cell 9 _ rfl
              refine region_below (by kernel_rfl) (by kernel_rfl) ?_
              repeat
                first
                  | go_big_quiet_skip
                  | (go_big_quiet_want
                     apply Exists.intro
                     refine ⟨fun w' hC => ?_, ?_⟩
                     · have hk := hC.keep
                       first
                         | (go_simp; done)
                         | (go_simp; rfl)
                         | (go_simp; go_at_call 15; refine (HU.out _ (HQ.out.below (kb_ HLq2.out hC))).mono ?_; rintro e w2 ⟨rfl, hb⟩; exact ⟨rfl, hC.then hb⟩)
                     simp only [Act.put, List.setIfInBounds_toArray, List.set_cons_zero, List.set_cons_succ]
                     go_big_quiet_on)
              refine wpQuiet_nil ?_
              intro w2 hC
              clear hsum x0 x1
              have bp := (HBr2.out.below hC).cell 2 _ rfl
              have n2 := (HNr2.out.below hC).cell 2 _ rfl
              have v0 : w2.cell? ⟨wr.heap.size, 0, none⟩ = some (.int .i64 j.id) := (HV.out.below hC).cell 0 _ rfl
              have v2 : w2.cell? ⟨wr.heap.size, 2, none⟩ = some (.int .i64 j.pr) := (HV.out.below hC).cell 2 _ rfl
              go_wp2
              go_roundg (q.js.length - (k + 1))
              case measure => omega
              case rel => exact ⟨k + 1, by omega, by omega, by go_num, by rw [HCS.out], (kb_ HLr2.out hC).out, (kb_ HLq2.out hC).out, HXr2.out.below hC, HNr2.out.below hC, HBr2.out.below hC⟩
        · have e2 : (j.st != 1) = true := by simpa using c1
          by_cases c3 : j.st = 2
          · have e1 : (j.st == 2) = true := beq_iff_eq.2 c3
            have hcs : cntR q (k + 1) = cntR q k + 1 := by rw [HST.out, if_pos c3]
            have HCS := Lib.hid hcs
            clear hj c1 c3 hcs
            go_wp2_with fail
            go_quiet (fail)
            go_wp2
            go_roundg (q.js.length - (k + 1))
            case measure => omega
            case rel => exact ⟨k + 1, by omega, by omega, by go_num, by rw [HCS.out]; go_num, pwdN HLr2.out nq, (show Below WQ.heap.size WQ _ from pwdN HLq2.out nq), HXr2.out.drewN nq, HNr2.out.drewN nq, HBr2.out.drewN nq⟩
          · have e1 : (j.st == 2) = false := beq_eq_false_iff_ne.2 c3
            have hcs : cntR q (k + 1) = cntR q k := by rw [HST.out, if_neg c3]
            have HCS := Lib.hid hcs
            clear hj c1 c3 hcs
            go_wp2_with fail
            go_quiet (fail)
            go_wp2
            go_roundg (q.js.length - (k + 1))
            case measure => omega
            case rel => exact ⟨k + 1, by omega, by omega, by go_num, by rw [HCS.out], pwdN HLr2.out nq, (show Below WQ.heap.size WQ _ from pwdN HLq2.out nq), HXr2.out.drewN nq, HNr2.out.drewN nq, HBr2.out.drewN nq⟩
      · by_cases hcn : cntR q k = 0
        · have e1 : decide (0 < cntR q k) = false := decide_eq_false (by omega)
          have hlen := HM.out.len
          have HW := Lib.hid (none_waits HM.out HNO.out (by rw [← hcn]; congr 1; omega))
          clear hcn
          go_wp2
          clear x0 x1 n2 n3
          obtain ⟨wo, hwo⟩ : ∃ wo : World, wo = wr := ⟨_, rfl⟩
          rw [← hwo] at HLr HLq HXr ⊢
          clear hwo HNr HBr
          go_loopg [12] q.js.length (fun gg v12 wr => ∃ k2 : Nat, k2 ≤ q.js.length ∧ q.js.length - k2 ≤ gg ∧ v12 = .int .i64 k2 ∧ Hid (wr = wo))
          case atStart => exact ⟨0, Nat.zero_le _, by omega, rfl, rfl⟩
          case round =>
            obtain ⟨k2, hk2, hg2, rfl, HWX⟩ := hrel
            have x0 := (show Hid (Blk wr Xb 29 [.slice qa q.qs.length qc, .slice ja q.js.length jc]) from by rw [HWX.out]; exact HXr.out).out.cell 0 _ rfl
            have x1 := (show Hid (Blk wr Xb 29 [.slice qa q.qs.length qc, .slice ja q.js.length jc]) from by rw [HWX.out]; exact HXr.out).out.cell 1 _ rfl
            by_cases hlt2 : k2 < q.js.length
            · obtain ⟨j, hj⟩ : ∃ j, q.js[k2]? = some j := ⟨_, List.getElem?_eq_getElem hlt2⟩
              obtain ⟨ad, hja, h0, h1, h2, h3, h4, h5, h6, h7, h8, h9, h10⟩ := (show QIn wr ⟨qa, qc, ja, jc⟩ q from by rw [HWX.out]; exact HQ.out.below HLq.out).job k2 hlt2 j hj
              cases hja
              have e1 : (j.st == 1) = false := beq_eq_false_iff_ne.2 (HW.out k2 j hj)
              clear hj h0 h1 h2 h3 h4 h5 h6 h7 h8 h10
              go_wp2
              go_roundg (q.js.length - (k2 + 1))
              case measure => omega
              case rel => exact ⟨k2 + 1, by omega, by omega, by go_num, HWX.out⟩
            · go_wp2
              go_ret
              exact ⟨rfl, by rw [HWX.out]; exact HLr.out⟩
        · have e1 : decide (0 < cntR q k) = true := decide_eq_true (by omega)
          clear hcn
          go_wp2
          go_ret
          exact ⟨rfl, HLr.out⟩
end Go.Proofs.Ytopmdgheacjkcaa
