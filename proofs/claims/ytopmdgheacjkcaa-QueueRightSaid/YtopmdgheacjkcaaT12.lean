/- queue.Start. -/
import Derived.Test.YtopmdgheacjkcaaT11
import Derived.Laws.EntriesVeiled
set_option linter.unusedVariables false
set_option linter.unusedSimpArgs false
namespace Go.Proofs.Ytopmdgheacjkcaa
open Go.RowKit
def hasD (dev : Int) (j : J) : Bool := decide (j.st = 2) && decide (j.av = dev)
set_option maxHeartbeats 1000000 in
theorem start1_calls (j : J) (dev : Int) (db : Nat) (w : World) (hd : w.cell? ⟨db, 0, none⟩ = some (.int .i64 dev)) :
    Calls Try.prog 57 #[j.val, .pointer (some ⟨db, 0, none⟩)] w fun e w' => e = .returned (.bool (hasD dev j)) ∧ Below w.heap.size w w' := by
  have hlt := World.block_lt_of_cell? w _ hd
  unfold J.val
  by_cases h : j.st = 2
  · have e1 : (j.st == 2) = true := beq_iff_eq.2 h
    have HH := Lib.hid h; clear h
    go_enter Try.func57, Try.ntmps57
    go_wp2
    go_ret
    refine ⟨?_, (ba_ (b0_ w) _).out⟩
    show Ending.returned (.bool (j.av == dev)) = _
    simp [hasD, HH.out]
    rfl
  · have e1 : (j.st == 2) = false := beq_eq_false_iff_ne.2 h
    have HH := Lib.hid h; clear h
    go_enter Try.func57, Try.ntmps57
    go_wp2
    go_ret
    refine ⟨?_, (ba_ (b0_ w) _).out⟩
    have : hasD dev j = false := by simp [hasD, HH.out]
    rw [this]; rfl
def startF (q : Qu) (dev : Int) (j : J) : Int × J :=
  if (0 ≤ dev ∧ dev ≤ 99) ∧ q.js.any (hasD dev) = false then
    if j.st = 1 then
      if rdy q j = true then (0, { j with st := 2, av := dev }) else (410, j)
    else (430, j)
  else (1, j)
theorem grown_of_below {w w1 : World} (h : Below w.heap.size w w1) (r : Option Nat) : w.grownBy w1 r := ⟨h.os, h.tape, h.output, h.size, fun i hi _ => h.block i hi⟩
set_option maxHeartbeats 4000000 in
set_option maxRecDepth 100000 in
theorem start2_calls (v : Qv) (q : Qu) (dev : Int) (jb db qb hb : Nat) (j : J) (w : World) (hq : QIn w v q) (hF : Fine q) (hok : okQ q j) (hx : Box40 w jb j) (hd : w.cell? ⟨db, 0, none⟩ = some (.int .i64 dev))
    (hq0 : w.cell? ⟨qb, 0, none⟩ = some (.slice v.qa q.qs.length v.qc)) (hq1 : w.cell? ⟨qb, 1, none⟩ = some (.slice v.ja q.js.length v.jc)) (hh : w.cell? ⟨hb, 0, none⟩ = some (.func (.func 57) #[] #[.pointer (some ⟨db, 0, none⟩)])) (hne : jb ≠ db) :
    Calls Try.prog 59 #[.pointer (some ⟨jb, 0, none⟩), .pointer (some ⟨db, 0, none⟩), .pointer (some ⟨qb, 0, none⟩), .pointer (some ⟨hb, 0, none⟩)] w (RetE (startF q dev j).1 jb (startF q dev j).2 w) := by
  have e57 := enters Try.func57 (by kernel_rfl) rfl
  have ld := World.block_lt_of_cell? w _ hd
  have hc := containsFunc_calls 57 #[.pointer (some ⟨db, 0, none⟩)] e57 (hasD dev) (fun _ => True) v.ja v.jc q.js w w.heap.size (Nat.le_refl _) (fun W x hb _ => start1_calls x dev db W ((hb.cell (p := ⟨db, 0, none⟩) ld).trans hd)) hq.jobs (fun _ _ => trivial) hF.len
  have HC := Lib.hid hc; clear hc e57
  have HQ := Lib.hid hq; clear hq
  have HX := Lib.hid hx; clear hx
  have HF := Lib.hid hF; clear hF
  have HOK := Lib.hid hok; clear hok
  by_cases hdev : 0 ≤ dev ∧ dev ≤ 99
  · have hw : wi dev 0 99 = true := wi_t hdev.1 hdev.2
    cases hany : q.js.any (hasD dev) with
    | true =>
      have HS := Lib.hid (show startF q dev j = (1, j) by rw [startF, if_neg (by simp [hany])])
      rw [hany] at HC
      clear hany hdev
      go_enter Try.func59, Try.ntmps59
      go_wp2_with (go_at_call 31; refine (within_calls _ _ _ _).mono ?_; rintro e w' ⟨rfl, rfl⟩)
      refine HC.out.mono ?_
      rintro e w1 ⟨rfl, hb1⟩
      have HB1 := Lib.hid hb1; clear hb1
      go_wp2
      go_ret
      rw [HS.out]
      exact ⟨rfl, HX.out.below HB1.out, grown_of_below HB1.out _⟩
    | false =>
      by_cases hst : j.st = 1
      · have e1 : (j.st != 1) = false := by simpa using hst
        have hrc := fun W hq => ready_calls v q j W hq HF.out.small HOK.out.1 HOK.out.2.1 HOK.out.2.2.1 HOK.out.2.2.2 HF.out.quo
        unfold Qv.val J.val at hrc
        have HRC := Lib.hid hrc; clear hrc
        have HS := Lib.hid (show startF q dev j = if rdy q j = true then (0, { j with st := 2, av := dev }) else (410, j) by rw [startF, if_pos ⟨hdev, hany⟩, if_pos hst])
        rw [hany] at HC
        clear hany hdev hst
        go_enter Try.func59, Try.ntmps59
        go_wp2_with (go_at_call 31; refine (within_calls _ _ _ _).mono ?_; rintro e w' ⟨rfl, rfl⟩)
        refine HC.out.mono ?_
        rintro e w1 ⟨rfl, hb1⟩
        have q0 := kc_ hb1 hq0
        have q1 := kc_ hb1 hq1
        have d0 := kc_ hb1 hd
        have HB1 := Lib.hid hb1; clear hb1
        have HX1 := Lib.hid (HX.out.below HB1.out)
        obtain ⟨t0, t1, t2, t3, t4, t5, t6, t7, t8, t9, t10⟩ := HX1.out.cell
        clear hq0 hq1 hh hd
        go_wp2
        go_still_tail 4, (by kernel_rfl)
        go_wp2_with fail
        refine (HRC.out _ (HQ.out.below (bd_ HB1.out))).mono ?_
        rintro e w2 ⟨rfl, hb2⟩
        have q0' : w2.cell? ⟨db, 0, none⟩ = some (.int .i64 dev) := kc_ (w := w1.drew) hb2 d0
        have HB2 := Lib.hid (kb_ (bd_ HB1.out) hb2)
        have HX2 := Lib.hid (Box40.below (w := w1.drew) HX1.out hb2)
        clear t0 t1 t2 t3 t4 t5 t6 t7 t8 t9 t10 hb2 q0 q1 d0
        obtain ⟨t0, t1, t2, t3, t4, t5, t6, t7, t8, t9, t10⟩ := HX2.out.cell
        have hfz := HX2.out.frozen
        clear t0 t1 t2 t3 t4 t5 t6 t7 t8
        cases hr : rdy q j with
        | false =>
          have HS' := Lib.hid (show startF q dev j = (410, j) by rw [HS.out, hr]; rfl)
          clear HS hr
          go_wp2
          go_ret
          rw [HS'.out]
          exact ⟨rfl, HX2.out, grown_of_below HB2.out.out _⟩
        | true =>
          have HS' := Lib.hid (show startF q dev j = (0, { j with st := 2, av := dev }) by rw [HS.out, hr]; rfl)
          clear HS hr
          go_wp2
          go_region
          go_wp2
          go_ret
          rw [HS'.out]
          have g1 := (HX2.out.blk.set 9 (.int .i64 2)).set 10 (.int .i64 dev)
          have g2 := ((grown_of_below HB2.out.out (some jb)).trans (grown_setCell w2 jb 9 (.int .i64 2))).trans (grown_setCell _ jb 10 (.int .i64 dev))
          exact ⟨rfl, g1, grown_drew g2⟩
      · have e1 : (j.st != 1) = true := by simpa using hst
        have HS := Lib.hid (show startF q dev j = (430, j) by rw [startF, if_pos ⟨hdev, hany⟩, if_neg hst])
        rw [hany] at HC
        clear hany hdev hst
        go_enter Try.func59, Try.ntmps59
        go_wp2_with (go_at_call 31; refine (within_calls _ _ _ _).mono ?_; rintro e w' ⟨rfl, rfl⟩)
        refine HC.out.mono ?_
        rintro e w1 ⟨rfl, hb1⟩
        have HB1 := Lib.hid hb1; clear hb1
        have HX1 := Lib.hid (HX.out.below HB1.out)
        obtain ⟨_, _, _, _, _, _, _, _, _, t9, _⟩ := HX1.out.cell
        go_wp2
        go_ret
        rw [HS.out]
        exact ⟨rfl, HX1.out, grown_of_below HB1.out _⟩
  · have hw : wi dev 0 99 = false := wi_f (by omega)
    have HS := Lib.hid (show startF q dev j = (1, j) by rw [startF, if_neg (fun h => hdev h.1)])
    clear hdev HC
    go_enter Try.func59, Try.ntmps59
    go_wp2_with (go_at_call 31; refine (within_calls _ _ _ _).mono ?_; rintro e w' ⟨rfl, rfl⟩)
    go_ret
    rw [HS.out]
    exact ⟨rfl, HX.out, grown_refl _ _⟩
set_option maxHeartbeats 1000000 in
theorem start_calls (v : Qv) (q : Qu) (id dev : Int) (w : World) (hq : QIn w v q) (hF : Fine q) : Calls Try.prog 35 #[v.val q, .int .i64 id, .int .i64 dev] w (RetQ (changeS q id (startF q dev)).1 (changeS q id (startF q dev)).2 w) := by
  have e59 := enters Try.func59 (by kernel_rfl) rfl
  have hc := fun W hq hB hf => change_calls v q id 59 #[.pointer (some ⟨w.heap.size + 1, 0, none⟩), .pointer (some ⟨w.heap.size, 0, none⟩), .pointer (some ⟨w.heap.size + 1 + 1 + 1, 0, none⟩)] e59 (startF q dev) W hq hF.len (w.heap.size + 1 + 1 + 1 + 1) hB (okQ q) hF.jobs hf
  have HC := Lib.hid hc; clear hc e59
  unfold Qv.val at HC
  unfold Qv.val
  have HQ := Lib.hid hq; clear hq
  have HF := Lib.hid hF; clear hF
  have hb0 := ba_ (ba_ (ba_ (ba_ (b0_ w) (.cells #[.slice v.qa q.qs.length v.qc, .slice v.ja q.js.length v.jc] 29)) (.cells #[.int .i64 dev] 3)) (.cells #[.slice none 0 0, .slice none 0 0] 29)) (.cells #[.func (.func 57) #[] #[.pointer (some ⟨w.heap.size + 1, 0, none⟩)]] 80)
  have hq0 := Blk.alloc (Blk.alloc (Blk.alloc (Blk.new w 29 [.slice v.qa q.qs.length v.qc, .slice v.ja q.js.length v.jc]) (.cells #[.int .i64 dev] 3)) (.cells #[.slice none 0 0, .slice none 0 0] 29)) (.cells #[.func (.func 57) #[] #[.pointer (some ⟨w.heap.size + 1, 0, none⟩)]] 80)
  have hd0 := Blk.alloc (Blk.alloc (Blk.new (w.alloc (.cells #[.slice v.qa q.qs.length v.qc, .slice v.ja q.js.length v.jc] 29)) 3 [.int .i64 dev]) (.cells #[.slice none 0 0, .slice none 0 0] 29)) (.cells #[.func (.func 57) #[] #[.pointer (some ⟨w.heap.size + 1, 0, none⟩)]] 80)
  have hr0 := Blk.alloc (Blk.new ((w.alloc (.cells #[.slice v.qa q.qs.length v.qc, .slice v.ja q.js.length v.jc] 29)).alloc (.cells #[.int .i64 dev] 3)) 29 [.slice none 0 0, .slice none 0 0]) (.cells #[.func (.func 57) #[] #[.pointer (some ⟨w.heap.size + 1, 0, none⟩)]] 80)
  have hh0 := Blk.new (((w.alloc (.cells #[.slice v.qa q.qs.length v.qc, .slice v.ja q.js.length v.jc] 29)).alloc (.cells #[.int .i64 dev] 3)).alloc (.cells #[.slice none 0 0, .slice none 0 0] 29)) 80 [.func (.func 57) #[] #[.pointer (some ⟨w.heap.size + 1, 0, none⟩)]]
  simp only [World.size_alloc] at hd0 hr0 hh0
  have HB0 := Lib.hid hb0; have HQ0 := Lib.hid hq0; have HD0 := Lib.hid hd0; have HR0 := Lib.hid hr0; have HH0 := Lib.hid hh0
  clear hb0 hq0 hd0 hr0 hh0
  go_enter Try.func35, Try.ntmps35
  go_wp2_with fail
  refine (HC.out _ (HQ.out.below HB0.out.out) (by simp) (fun W' b j hok hb hB hx => start2_calls v q dev b (w.heap.size + 1) w.heap.size (w.heap.size + 1 + 1 + 1) j W' ?_ HF.out hok hx
    ((hb.cell (p := ⟨w.heap.size + 1, 0, none⟩) (by simp <;> omega)).trans (HD0.out.cell 0 _ rfl)) ((hb.cell (p := ⟨w.heap.size, 0, none⟩) (by simp <;> omega)).trans (HQ0.out.cell 0 _ rfl)) ((hb.cell (p := ⟨w.heap.size, 1, none⟩) (by simp <;> omega)).trans (HQ0.out.cell 1 _ rfl))
    ((hb.cell (p := ⟨w.heap.size + 1 + 1 + 1, 0, none⟩) (by simp)).trans (HH0.out.cell 0 _ rfl)) (by omega))).mono ?_
  · exact (HQ.out.below HB0.out.out).below (hb.mono (by simp))
  generalize hr : changeS q id (startF q dev) = r
  have HR := Lib.hid hr; clear hr
  obtain ⟨q', x⟩ := r
  rintro e w1 ⟨v', rfl, hq1, hb1⟩
  have HL := Lib.hid (kb_ HB0.out hb1)
  have HB1 := Lib.hid (HR0.out.below hb1)
  have HQ1 := Lib.hid hq1
  clear hq1 hb1 HB0 HQ0 HD0 HR0 HH0
  have b0 := HB1.out.cell 0 _ rfl
  have b1 := HB1.out.cell 1 _ rfl
  have fz1 := HB1.out.frozen
  unfold Qv.val
  go_wp2
  rw [HR.out]
  have hL3 := below_setCells (w := 0) (g := w.heap.size + 1 + 1) (v'.cells q') 0 w w1 HL.out.out (by omega)
  have hQ3 := HQ1.out.put HB1.out t29 0 (v'.cells q')
  refine bodyPost_ret (results_ct rfl _ _ (w.heap.size + 1 + 1) _ rfl rfl (HB1.out.put (v'.cells q') rfl)) rfl ?_
  exact ⟨v', rfl, hQ3, hL3⟩
end Go.Proofs.Ytopmdgheacjkcaa
