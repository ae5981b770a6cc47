/- The reference's Ready, taken, with. -/
import Derived.Test.YtopmdgheacjkcaaT14
import Derived.Deep.RegionHeld3
set_option linter.unusedVariables false
set_option linter.unusedSimpArgs false
namespace Go.Proofs.Ytopmdgheacjkcaa
open Go.RowKit
set_option maxHeartbeats 1000000 in
set_option maxRecDepth 100000 in
theorem rready_calls (v : Qv) (q : Qu) (j : J) (w : World) (hq : QIn w v q) (hs : Fine q) (hok : okQ q j) :
    Calls Try.prog 42 #[v.val q, j.val] w fun e w' => e = .returned (.bool (rdy q j)) ∧ Below w.heap.size w w' := by
  obtain ⟨qa, qc, ja, jc⟩ := v
  obtain ⟨ht0, ht1, hb0, hb1⟩ := hok
  have hql := hs.quo
  have hc := rused_calls ⟨qa, qc, ja, jc⟩ q j.tn
  unfold Qv.val J.val
  unfold Qv.val at hc
  obtain ⟨ad, e, hcell⟩ := hq.qcell j.tn ht0 ht1
  cases e
  have HQ := Lib.hid hq; clear hq
  have HS := Lib.hid hs; clear hs
  have HC := Lib.hid hc; clear hc
  by_cases h : j.st = 1
  · have e1 : (j.st == 1) = true := beq_iff_eq.2 h
    clear h
    go_enter Try.func42, Try.ntmps42
    go_wp2
    go_region_held3 (fun w' => w'.cell? ⟨w.heap.size, 0, none⟩ = some (.slice (some ad) q.qs.length qc) ∧ w'.cell? ⟨w.heap.size, 1, none⟩ = some (.slice ja q.js.length jc) ∧
        w'.cell? ⟨w.heap.size + 1, 1, none⟩ = some (.int .i64 j.tn) ∧ w'.cell? ⟨w.heap.size + 1, 4, none⟩ = some (.int .i64 j.bd) ∧ w'.cell? ⟨w.heap.size + 1, 9, none⟩ = some (.int .i64 j.st) ∧ w'.cell? (ad.add j.tn.toNat) = some (.int .i64 (quo q j.tn)) ∧ Hid (Below w.heap.size w w'))
      (first | (go_split_ands; refine ⟨?_, ?_, ?_, ?_, ?_, ?_, ?_⟩ <;> first | exact kc_ hb (by assumption) | exact kb_ (by assumption) hb | exact bd_ (ba_ (ba_ (b0_ w) _) _) | (go_keep; done)))
      (first | (go_at_call 26; go_split_ands; refine (HC.out _ ?_ ?_).mono ?_; exact HQ.out.below (by assumption : Hid _).out; exact HS.out; rintro e w' ⟨rfl, hb⟩))
    go_wp2
    go_ret
    go_split_ands
    refine ⟨?_, (by assumption : Hid (Below w.heap.size w _)).out⟩
    have hu := HS.out.small.all j.tn
    show Ending.returned (.bool (decide (IntKind.i64.wrap (j.bd + used j.tn q.js) ≤ quo q j.tn))) = _
    rw [i64w (j.bd + used j.tn q.js) (by omega) (by omega)]
    simp [rdy, beq_iff_eq.1 e1]
  · have e1 : (j.st == 1) = false := beq_eq_false_iff_ne.2 h
    have hr : rdy q j = false := by simp [rdy, h]
    have HR := Lib.hid hr
    clear h hr
    go_enter Try.func42, Try.ntmps42
    go_wp2_with fail
    go_quiet (fail)
    go_wp2
    go_ret
    exact ⟨by rw [HR.out]; rfl, pwdN (ba_ (ba_ (b0_ w) _) _) _⟩
set_option maxHeartbeats 2000000 in
set_option maxRecDepth 100000 in
theorem taken_calls (v : Qv) (q : Qu) (dev : Int) (w : World) (hq : QIn w v q) (hl : q.js.length ≤ 1000) :
    Calls Try.prog 46 #[v.val q, .int .i64 dev] w fun e w' => e = .returned (.bool (q.js.any (hasD dev))) ∧ Below w.heap.size w w' := by
  obtain ⟨qa, qc, ja, jc⟩ := v
  unfold Qv.val
  have HQ := Lib.hid hq; clear hq
  go_enter Try.func46, Try.ntmps46
  go_wp2
  go_loopg [5] q.js.length (fun gg v5 wr => ∃ k : Nat, k ≤ q.js.length ∧ q.js.length - k ≤ gg ∧ v5 = .int .i64 k ∧ Hid (wr = w.alloc (.cells #[.slice qa q.qs.length qc, .slice ja q.js.length jc] 29)) ∧ Hid (∀ i x, i < k → q.js[i]? = some x → hasD dev x = false))
  case atStart => exact ⟨0, Nat.zero_le _, by omega, rfl, rfl, fun i x hi => absurd hi (Nat.not_lt_zero _)⟩
  case round =>
    obtain ⟨k, hk, hg, rfl, HW, HN⟩ := hrel
    have HB : Hid (Below w.heap.size w wr) := by rw [HW.out]; exact ba_ (b0_ w) _
    have HX : Hid (Blk wr w.heap.size 29 [.slice qa q.qs.length qc, .slice ja q.js.length jc]) := by rw [HW.out]; exact Blk.new w 29 _
    have q0 := HX.out.cell 0 _ rfl
    have q1 := HX.out.cell 1 _ rfl
    by_cases hlt : k < q.js.length
    · obtain ⟨j, hj⟩ : ∃ j, q.js[k]? = some j := ⟨_, List.getElem?_eq_getElem hlt⟩
      obtain ⟨ad, hja, h0, h1, h2, h3, h4, h5, h6, h7, h8, h9, h10⟩ := (HQ.out.below HB.out).job k hlt j hj
      cases hja
      have HJ := Lib.hid hj; clear hj h0 h1 h2 h3 h4 h5 h6 h7 h8
      by_cases c2 : j.st = 2
      · have e2 : (j.st == 2) = true := beq_iff_eq.2 c2
        by_cases c3 : j.av = dev
        · have e3 : (j.av == dev) = true := beq_iff_eq.2 c3
          have HH := Lib.hid (show q.js.any (hasD dev) = true from List.any_eq_true.2 ⟨j, List.mem_of_getElem? HJ.out, by simp [hasD, c2, c3]⟩)
          clear c2 c3
          go_wp2
          go_ret
          exact ⟨by rw [HH.out]; rfl, HB.out⟩
        · have e3 : (j.av == dev) = false := beq_eq_false_iff_ne.2 c3
          have HH := Lib.hid (show hasD dev j = false by simp [hasD, c2, c3])
          clear c2 c3
          go_wp2
          go_roundg (q.js.length - (k + 1))
          case measure => omega
          case rel =>
            refine ⟨k + 1, by omega, by omega, by go_num, HW, (show Hid _ from fun i x hi hx => ?_)⟩
            by_cases e : i = k
            · subst e; rw [HJ.out] at hx; cases hx; exact HH.out
            · exact HN.out i x (by omega) hx
      · have e2 : (j.st == 2) = false := beq_eq_false_iff_ne.2 c2
        have HH := Lib.hid (show hasD dev j = false by simp [hasD, c2])
        clear c2
        go_wp2
        go_roundg (q.js.length - (k + 1))
        case measure => omega
        case rel =>
          refine ⟨k + 1, by omega, by omega, by go_num, HW, (show Hid _ from fun i x hi hx => ?_)⟩
          by_cases e : i = k
          · subst e; rw [HJ.out] at hx; cases hx; exact HH.out
          · exact HN.out i x (by omega) hx
    · have HH := Lib.hid (show q.js.any (hasD dev) = false by
        rw [List.any_eq_false]
        intro x hx
        obtain ⟨i, hi, rfl⟩ := List.getElem_of_mem hx
        rw [HN.out i _ (by omega) (List.getElem?_eq_getElem hi)]
        simp)
      go_wp2
      go_ret
      exact ⟨by rw [HH.out]; rfl, HB.out⟩
theorem JRow.lit' (W : World) (base n : Nat) (hn : n = W.heap.size) (hb : base ≤ W.heap.size) : JRow (W.alloc (.cells #[] 40)) base (.slice (some ⟨n, 0, none⟩) 0 0) [] := by
  subst hn
  exact JRow.lit W base hb
theorem results_done {fn : Func} {p : Tmp} (h : fn.results = #[.cell p 45]) (tmps : Array Value) (w : World) (g : Nat) (cs : List Value) (hl : cs.length = 4)
    (hp : tmps.getD p undef = .pointer (some ⟨g, 0, none⟩)) (hg : Blk w g 45 cs) : (results fn tmps).run Try.prog w = .ok (.agg cs.toArray) w :=
  results_cell_row h tmps w g 45 cs.toArray (0, 0) _ hp hg Try.underlying45 rfl (by
    have h : (Try.prog.info? 45).map (·.size) = some 4 := by kernel_rfl
    rw [h]; simp [hl])
/-- A queue, a number and an error. -/
def Qv.done (v : Qv) (q : Qu) (i x : Int) : Value := .agg #[.slice v.qa q.qs.length v.qc, .slice v.ja q.js.length v.jc, .int .i64 i, .int .i64 x]
def Qv.dcells (v : Qv) (q : Qu) (i x : Int) : List Value := [.slice v.qa q.qs.length v.qc, .slice v.ja q.js.length v.jc, .int .i64 i, .int .i64 x]
def RetD (q : Qu) (i x : Int) (w : World) (e : Ending) (w' : World) : Prop := ∃ v, e = .returned (Qv.done v q i x) ∧ QIn w' v q ∧ Below w.heap.size w w'
set_option maxHeartbeats 2000000 in
set_option maxRecDepth 100000 in
theorem with_calls (v : Qv) (q : Qu) (j : J) (k : Nat) (w : World) (hq : QIn w v q) (hl : q.js.length ≤ 1000) (hk : k < q.js.length) (hj : j.id = (k : Int) + 1) :
    Calls Try.prog 47 #[v.val q, j.val] w (RetD { q with js := q.js.set k j } 0 0 w) := by
  obtain ⟨qa, qc, ja, jc⟩ := v
  obtain ⟨id, tn, pr, kn, bd, im, st, av⟩ := j
  have hj' : id = (k : Int) + 1 := hj
  subst hj'
  unfold Qv.val J.val
  have HQ := Lib.hid hq; clear hq
  have hb0 := ba_ (ba_ (ba_ (ba_ (b0_ w) (.cells #[.slice qa q.qs.length qc, .slice ja q.js.length jc] 29)) (.cells #[.int .i64 ((k : Int) + 1), .int .i64 tn, .int .i64 pr, .int .i64 kn, .int .i64 bd, .int .i64 im.g, .slice im.ar.a im.ar.n im.ar.c, .slice im.gl.a im.gl.n im.gl.c, .slice im.gr.a im.gr.n im.gr.c, .int .i64 st, .int .i64 av] 40)) (.cells #[.slice none 0 0, .slice none 0 0, .int .i64 0, .int .i64 0] 45)) (.cells #[] 40)
  have hq0 := Blk.alloc (Blk.alloc (Blk.alloc (Blk.new w 29 [.slice qa q.qs.length qc, .slice ja q.js.length jc]) (.cells #[.int .i64 ((k : Int) + 1), .int .i64 tn, .int .i64 pr, .int .i64 kn, .int .i64 bd, .int .i64 im.g, .slice im.ar.a im.ar.n im.ar.c, .slice im.gl.a im.gl.n im.gl.c, .slice im.gr.a im.gr.n im.gr.c, .int .i64 st, .int .i64 av] 40)) (.cells #[.slice none 0 0, .slice none 0 0, .int .i64 0, .int .i64 0] 45)) (.cells #[] 40)
  have hj0 := Blk.alloc (Blk.alloc (Blk.new (w.alloc (.cells #[.slice qa q.qs.length qc, .slice ja q.js.length jc] 29)) 40 [.int .i64 ((k : Int) + 1), .int .i64 tn, .int .i64 pr, .int .i64 kn, .int .i64 bd, .int .i64 im.g, .slice im.ar.a im.ar.n im.ar.c, .slice im.gl.a im.gl.n im.gl.c, .slice im.gr.a im.gr.n im.gr.c, .int .i64 st, .int .i64 av]) (.cells #[.slice none 0 0, .slice none 0 0, .int .i64 0, .int .i64 0] 45)) (.cells #[] 40)
  have hr0 := Blk.alloc (Blk.new ((w.alloc (.cells #[.slice qa q.qs.length qc, .slice ja q.js.length jc] 29)).alloc (.cells #[.int .i64 ((k : Int) + 1), .int .i64 tn, .int .i64 pr, .int .i64 kn, .int .i64 bd, .int .i64 im.g, .slice im.ar.a im.ar.n im.ar.c, .slice im.gl.a im.gl.n im.gl.c, .slice im.gr.a im.gr.n im.gr.c, .int .i64 st, .int .i64 av] 40)) 45 [.slice none 0 0, .slice none 0 0, .int .i64 0, .int .i64 0]) (.cells #[] 40)
  simp only [World.size_alloc] at hj0 hr0
  have HB0 := Lib.hid hb0; have HQ0 := Lib.hid hq0; have HJ0 := Lib.hid hj0; have HR0 := Lib.hid hr0
  clear hb0 hq0 hj0 hr0
  go_enter Try.func47, Try.ntmps47
  go_wp2_with (at_builtin; refine wpList_app rfl _ _ rfl (w.heap.size + 1 + 1 + 1) _ [] q.js ja jc rfl rfl (JRow.lit' _ _ _ ?hn ?h0) ?h1 ?h2 ?h3 ?_)
  case h1 => exact (HQ.out.below HB0.out.out).jobs
  case h3 => omega
  intro v1 w1 hown hg hat
  simp only [Value.ownBlock] at hg
  rcases hown.cases with ⟨_, h⟩ | ⟨gb, c, rfl, hc⟩
  · rw [h] at hk; cases hk
  have HOWN := Lib.hid hown
  have hgb := (World.ownsRow.lt hown gb rfl).1
  have HL := Lib.hid (kg_ HB0.out hg (by intro k hk; cases hk; omega))
  have A0 := Lib.hid (show Blk w1 w.heap.size 29 _ from (hg.block _ (by simp only [World.size_alloc]; omega) (by simp; omega)).trans HQ0.out)
  have A1 := Lib.hid (show Blk w1 (w.heap.size + 1) 40 _ from (hg.block _ (by simp only [World.size_alloc]; omega) (by simp)).trans HJ0.out)
  have A2 := Lib.hid (show Blk w1 (w.heap.size + 1 + 1) 45 _ from (hg.block _ (by simp only [World.size_alloc]; omega) (by simp)).trans HR0.out)
  clear hown hg hat HB0 HQ0 HJ0 HR0
  obtain ⟨jo, hjo⟩ : ∃ j, q.js[k]? = some j := ⟨_, List.getElem?_eq_getElem hk⟩
  obtain ⟨h0, h1, h2, h3, h4, h5, h6, h7, h8, h9, h10⟩ := HOWN.out.cell k jo hjo
  have HJO := Lib.hid hjo; clear hjo
  have hfz := HOWN.out.frozenAt
  have q0 := A0.out.cell 0 _ rfl
  have q1 := A0.out.cell 1 _ rfl
  have r0 := A2.out.cell 0 _ rfl
  have r1 := A2.out.cell 1 _ rfl
  have r2 := A2.out.cell 2 _ rfl
  have r3 := A2.out.cell 3 _ rfl
  have rf := A2.out.frozen
  have t0 := A1.out.cell 0 _ rfl
  have t1 := A1.out.cell 1 _ rfl
  have t2 := A1.out.cell 2 _ rfl
  have t3 := A1.out.cell 3 _ rfl
  have t4 := A1.out.cell 4 _ rfl
  have t5 := A1.out.cell 5 _ rfl
  have t6 := A1.out.cell 6 _ rfl
  have t7 := A1.out.cell 7 _ rfl
  have t8 := A1.out.cell 8 _ rfl
  have t9 := A1.out.cell 9 _ rfl
  have t10 := A1.out.cell 10 _ rfl
  have n0 : gb ≠ w.heap.size := by omega
  have n1 : gb ≠ w.heap.size + 1 := by omega
  have n2 : gb ≠ w.heap.size + 1 + 1 := by omega
  go_wp2
  have hR := (HOWN.out.put k hk rfl ⟨(k : Int) + 1, tn, pr, kn, bd, im, st, av⟩).fars n2 0 [.slice qa q.qs.length qc, .slice (some ⟨gb, 0, none⟩) q.js.length c, .int .i64 0, .int .i64 0]
  have hP := (A2.out.fars (Ne.symm n2) (k * 11) (J.cells ⟨(k : Int) + 1, tn, pr, kn, bd, im, st, av⟩)).put [.slice qa q.qs.length qc, .slice (some ⟨gb, 0, none⟩) q.js.length c, .int .i64 0, .int .i64 0] rfl
  have hL := below_setCells (w := 0) (g := w.heap.size + 1 + 1) [.slice qa q.qs.length qc, .slice (some ⟨gb, 0, none⟩) q.js.length c, .int .i64 0, .int .i64 0] 0 w _ (below_setCells (w := 0) (g := gb) (J.cells ⟨(k : Int) + 1, tn, pr, kn, bd, im, st, av⟩) (k * 11) w w1 HL.out.out (by omega)) (by omega)
  have hpost : RetD { q with js := q.js.set k ⟨(k : Int) + 1, tn, pr, kn, bd, im, st, av⟩ } 0 0 w (.returned (.agg #[.slice qa q.qs.length qc, .slice (some ⟨gb, 0, none⟩) q.js.length c, .int .i64 0, .int .i64 0]))
      ((w1.setCells gb (k * 11) (J.cells ⟨(k : Int) + 1, tn, pr, kn, bd, im, st, av⟩)).setCells (w.heap.size + 1 + 1) 0 [.slice qa q.qs.length qc, .slice (some ⟨gb, 0, none⟩) q.js.length c, .int .i64 0, .int .i64 0]) :=
    ⟨⟨qa, qc, some ⟨gb, 0, none⟩, c⟩, by simp [Qv.done], ⟨(HQ.out.below hL).quota, hR.row, HQ.out.qc, by simpa using hc⟩, hL⟩
  refine bodyPost_ret (results_done rfl _ _ (w.heap.size + 1 + 1) _ rfl rfl hP) rfl ?_
  exact hpost
end Go.Proofs.Ytopmdgheacjkcaa
