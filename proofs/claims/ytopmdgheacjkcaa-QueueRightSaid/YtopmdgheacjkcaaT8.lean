/- queue.Next. -/
import Derived.Test.YtopmdgheacjkcaaT7
import Derived.Outline
set_option linter.unusedVariables false
set_option linter.unusedSimpArgs false
namespace Go.Proofs.Ytopmdgheacjkcaa
open Go.RowKit
def ord (a b : J) : Int := if cmpI b.pr a.pr = 0 then cmpI a.id b.id else cmpI b.pr a.pr
def RetI (x : Int) (w : World) (e : Ending) (w' : World) : Prop := e = .returned (.int .i64 x) ∧ Below w.heap.size w w'
set_option maxHeartbeats 2000000 in
set_option maxRecDepth 100000 in
theorem by1_calls (a b : J) (bx lk : Nat) (w : World) (hx : w.cell? ⟨bx, 0, none⟩ = some (.slice (some ⟨lk, 0, none⟩) 2 2)) (hf0 : w.cell? ⟨lk, 0, none⟩ = some (.func (.func 52) #[] #[])) (hf1 : w.cell? ⟨lk, 1, none⟩ = some (.func (.func 54) #[] #[])) :
    Calls Try.prog 67 #[a.val, b.val, .pointer (some ⟨bx, 0, none⟩)] w (RetI (ord a b) w) := by
  have hbx : bx < w.heap.size := World.block_lt_of_cell? w _ hx
  have hlk : lk < w.heap.size := World.block_lt_of_cell? w _ hf0
  have hc2 := fun W => next2_calls a b W
  have hc3 := fun W => next3_calls a b W
  unfold J.val at hc2 hc3 ⊢
  have HC2 := Lib.hid hc2; clear hc2
  have HC3 := Lib.hid hc3; clear hc3
  by_cases h1 : cmpI b.pr a.pr = 0
  · have e1 : (cmpI b.pr a.pr != 0) = false := by simpa using h1
    have HO := Lib.hid (show ord a b = cmpI a.id b.id by rw [ord, if_pos h1]); clear h1
    by_cases h2 : cmpI a.id b.id = 0
    all_goals
      first
      | have e2 : (cmpI a.id b.id != 0) = false := by simpa using h2
        have e3 : cmpI a.id b.id = 0 := h2
      | have e2 : (cmpI a.id b.id != 0) = true := by simpa using h2
      clear h2
      try (have HE := Lib.hid e3; clear e3)
      go_enter Try.func67, Try.ntmps67
      go_wp2
      refine wp_loop_rounds 3 ?_
      rw [rounds_succ]
      go_wp2_with fail
      refine (HC2.out _).mono ?_
      rintro e w2 ⟨rfl, hb2⟩
      have HA := Lib.hid (Box40.below (g := w.heap.size) (j := a) (heap_alloc2_old w _ _) hb2)
      have HB := Lib.hid (Box40.below (g := w.heap.size + 1) (j := b) (heap_alloc2_new w _ _) hb2)
      have HL := Lib.hid (kb_ (ba_ (ba_ (b0_ w) _) _) hb2)
      clear hb2
      have hf1' := (HL.out.cell (p := ⟨lk, 1, none⟩) hlk).trans hf1
      obtain ⟨h0, h1, h2, h3, h4, h5, h6, h7, h8, h9, h10⟩ := HA.out.cell
      obtain ⟨t0, t1, t2, t3, t4, t5, t6, t7, t8, t9, t10⟩ := HB.out.cell
      go_wp2
      rw [rounds_succ]
      go_wp2_with fail
      refine (HC3.out _).mono ?_
      rintro e w3 ⟨rfl, hb3⟩
      have HL3 := Lib.hid (kb_ HL.out hb3)
      clear hb3 h0 h1 h2 h3 h4 h5 h6 h7 h8 h9 h10 t0 t1 t2 t3 t4 t5 t6 t7 t8 t9 t10
      go_wp2
      try (rw [rounds_succ]; go_wp2)
      go_ret
      exact ⟨by rw [HO.out]; first | rfl | (rw [HE.out]; rfl), HL3.out.out⟩
  · have e1 : (cmpI b.pr a.pr != 0) = true := by simpa using h1
    have HO := Lib.hid (show ord a b = cmpI b.pr a.pr by rw [ord, if_neg h1]); clear h1
    go_enter Try.func67, Try.ntmps67
    go_wp2
    refine wp_loop_rounds 1 ?_
    rw [rounds_succ]
    go_wp2_with fail
    refine (HC2.out _).mono ?_
    rintro e w2 ⟨rfl, hb2⟩
    have HL := Lib.hid (kb_ (ba_ (ba_ (b0_ w) _) _) hb2)
    clear hb2
    go_wp2
    go_ret
    exact ⟨by rw [HO.out]; rfl, HL.out.out⟩
theorem enters {f : FuncId} {fn : Func} (hf : Try.prog.funcs[f]? = some fn) (hn : (fn.name == "runtime.NumGoroutine") = false) (hb : fn.body.isSome = true) (args : Array Value) (w : World) : (callFunc f args).run Try.prog w = .ok (.enter f args) w := by
  have h1 : fn.name ≠ "runtime.NumGoroutine" := by simpa using hn
  obtain ⟨c, hc⟩ := Option.isSome_iff_exists.1 hb
  simp [callFunc, hf, h1, hc]
def okQ (q : Qu) (j : J) : Prop := 0 ≤ j.tn ∧ j.tn < q.qs.length ∧ 0 ≤ j.bd ∧ j.bd ≤ 1099511627776
/-- A right queue's bounds, as the walks want them. -/
structure Fine (q : Qu) : Prop where
  jobs : ∀ j ∈ q.js, okQ q j
  len : q.js.length ≤ 1000
  quo : q.qs.length ≤ 1000
theorem Fine.small {q : Qu} (h : Fine q) : Small q.js := ⟨h.len, fun j hj => ⟨(h.jobs j hj).2.2.1, (h.jobs j hj).2.2.2⟩⟩
set_option maxHeartbeats 1000000 in
theorem next1_calls (v : Qv) (q : Qu) (j : J) (bx : Nat) (w : World) (hq : QIn w v q) (hF : Fine q) (hj : okQ q j) (h0 : w.cell? ⟨bx, 0, none⟩ = some (.slice v.qa q.qs.length v.qc)) (h1 : w.cell? ⟨bx, 1, none⟩ = some (.slice v.ja q.js.length v.jc)) :
    Calls Try.prog 50 #[j.val, .pointer (some ⟨bx, 0, none⟩)] w fun e w' => e = .returned (.bool (!rdy q j)) ∧ Below w.heap.size w w' := by
  have hbx := World.block_lt_of_cell? w _ h0
  have hc := fun W hq => ready_calls v q j W hq hF.small hj.1 hj.2.1 hj.2.2.1 hj.2.2.2 hF.quo
  unfold Qv.val J.val at hc
  have HC := Lib.hid hc; clear hc
  have HQ := Lib.hid hq; clear hq
  clear hF hj
  unfold J.val
  go_enter Try.func50, Try.ntmps50
  go_wp2_with fail
  refine (HC.out _ (HQ.out.below (ba_ (b0_ w) _).out)).mono ?_
  rintro e w2 ⟨rfl, hb2⟩
  have HL := Lib.hid (kb_ (ba_ (b0_ w) _) hb2)
  clear hb2
  go_wp2
  go_ret
  exact ⟨rfl, HL.out.out⟩
theorem by_calls (A : Option Addr) (n c : Nat) (w : World) : Calls Try.prog 56 #[.slice A n c] w fun e w' => e = .returned (.func (.func 67) #[] #[.pointer (some ⟨w.heap.size, 0, none⟩)]) ∧ w.alloc (.cells #[.slice A n c] 93) = w' := by
  go_enter Try.func56, Try.ntmps56
  go_wp2
  go_ret
  exact ⟨rfl, rfl⟩
theorem field_id (j : J) (w : World) : (Instr.field 40 (.agg #[.int .i64 j.id, .int .i64 j.tn, .int .i64 j.pr, .int .i64 j.kn, .int .i64 j.bd, .int .i64 j.im.g, .slice j.im.ar.a j.im.ar.n j.im.ar.c, .slice j.im.gl.a j.im.gl.n j.im.gl.c, .slice j.im.gr.a j.im.gr.n j.im.gr.c, .int .i64 j.st, .int .i64 j.av]) 0).run Try.prog w = .ok (.int .i64 j.id) w := by kernel_rfl
def nextS (q : Qu) : Int × Int := match q.js.filter (rdy q) with
  | [] => (0, 4)
  | j :: l => ((minAll ord (j :: l)).id, 0)
def RetII (x y : Int) (w : World) (e : Ending) (w' : World) : Prop := e = .returned (.tuple #[.int .i64 x, .int .i64 y]) ∧ Below w.heap.size w w'
set_option maxHeartbeats 2000000 in
set_option maxRecDepth 100000 in
theorem next_calls (v : Qv) (q : Qu) (w : World) (hq : QIn w v q) (hF : Fine q) : Calls Try.prog 34 #[v.val q] w (RetII (nextS q).1 (nextS q).2 w) := by
  have hl := hF.len
  have e50 := enters Try.func50 (by kernel_rfl) rfl
  have e67 := enters Try.func67 (by kernel_rfl) rfl
  have E50 := Lib.hid e50; clear e50
  have E67 := Lib.hid e67; clear e67
  unfold Qv.val
  have HQ := Lib.hid hq; clear hq
  have HF := Lib.hid hF; clear hF
  go_enter Try.func34, Try.ntmps34
  go_wp2_with fail
  refine (clone_calls v.ja v.jc q.js _ (HQ.out.below (ba_ (b0_ w) _).out).jobs hl).mono ?_
  rintro e w1 ⟨v1, rfl, hrow, hb1⟩
  have HL1 := Lib.hid (kb_ (ba_ (b0_ w) _) hb1)
  have hx0 := kc_ hb1 (a := ⟨w.heap.size, 0, none⟩) (v := .slice v.qa q.qs.length v.qc) (by simp)
  have hx1 := kc_ hb1 (a := ⟨w.heap.size, 1, none⟩) (v := .slice v.ja q.js.length v.jc) (by simp)
  have hz1 : w.heap.size + 1 ≤ w1.heap.size := by have := hb1.size; simpa using this
  have HR1 := Lib.hid hrow; clear hrow hb1
  simp only [World.size_alloc] at HR1
  have HP : Hid (PredF 50 #[.pointer (some ⟨w.heap.size, 0, none⟩)] (fun j => !rdy q j) (okQ q) (w.heap.size + 1) w1) := fun W j hb hj => by
    refine next1_calls v q j w.heap.size W ?_ HF.out hj ?_ ?_
    · exact HQ.out.below ((HL1.out.trans (hb.mono (by omega))))
    · exact (hb.cell (p := ⟨w.heap.size, 0, none⟩) (by simp)).trans hx0
    · exact (hb.cell (p := ⟨w.heap.size, 1, none⟩) (by simp)).trans hx1
  have hx0' := Lib.hid hx0; have hx1' := Lib.hid hx1; clear hx0 hx1
  go_wp2_with fail
  refine (deleteFunc_any 50 _ E50.out _ (okQ q) v1 q.js w1 (w.heap.size + 1) hz1 HP.out HR1.out HF.out.jobs hl).mono ?_
  rintro e w2 ⟨v2, rfl, hr2, hb2⟩
  have HL2 := Lib.hid (Below.trans (HL1.out) (hb2.mono (Nat.le_succ _)))
  have HR2 := Lib.hid hr2; clear hr2 hb2 HP HR1 HL1 hx0' hx1' hz1
  have hff : (q.js.filter fun j => !!rdy q j) = q.js.filter (rdy q) := by simp
  rw [hff] at HR2
  clear hff
  have hfl : (q.js.filter (rdy q)).length ≤ 1000 := Nat.le_trans (List.length_filter_le ..) hl
  generalize hll : q.js.filter (rdy q) = l at HR2 hfl
  have HLL := Lib.hid hll; clear hll
  cases l with
  | nil =>
    have HN := Lib.hid (show nextS q = (0, 4) by rw [nextS, HLL.out])
    obtain ⟨A, c, hA, _⟩ := HR2.out.form
    cases hA
    clear HR2
    go_wp2
    go_ret2
    exact ⟨by rw [HN.out]; rfl, HL2.out⟩
  | cons j0 l =>
    rcases HR2.out.cases with ⟨_, h⟩ | ⟨gb, c, rfl, hc⟩
    · cases h
    · have hz2 : w.heap.size + 1 ≤ w2.heap.size := by
        have := World.ownsRow.lt HR2.out gb rfl
        omega
      have e0 : ((((j0 :: l).length : Nat) : Int) == 0) = false := beq_eq_false_iff_ne.2 (by simp only [List.length_cons]; omega)
      have hpos : 0 < (j0 :: l).length := by simp
      have HN := Lib.hid (show nextS q = ((minAll ord (j0 :: l)).id, 0) by rw [nextS, HLL.out])
      clear HLL
      generalize (j0 :: l) = L at HN HR2 hfl hc e0 hpos
      go_wp2_with fail
      refine (by_calls _ _ _ _).mono ?_
      rintro e w3 ⟨rfl, rfl⟩
      go_wp2_with fail
      have HW := Lib.hid (Below.refl w2.heap.size w2)
      have HC : Hid (CmpF 67 #[.pointer (some ⟨w2.heap.size + 1, 0, none⟩)] ord (w2.heap.size + 2) ((w2.alloc (.cells #[.func (.func 52) #[] #[], .func (.func 54) #[] #[]] 82)).alloc (.cells #[.slice (some ⟨w2.heap.size, 0, none⟩) 2 2] 93))) := fun W a b hb => by
        refine by1_calls a b (w2.heap.size + 1) w2.heap.size W ?_ ?_ ?_
        · exact (hb.cell (p := ⟨w2.heap.size + 1, 0, none⟩) (by simp)).trans (by simp)
        · exact (hb.cell (p := ⟨w2.heap.size, 0, none⟩) (by simp)).trans (by simp)
        · exact (hb.cell (p := ⟨w2.heap.size, 1, none⟩) (by simp)).trans (by simp)
      refine (minFunc_calls 67 _ E67.out ord gb c L _ (w2.heap.size + 2) (w.heap.size + 1) (by simp) HC.out (HR2.out.below (ba_ (ba_ (b0_ w2) _) _).out) hfl hpos).mono ?_
      rintro e w4 ⟨rfl, hb4⟩
      have HL4 := Lib.hid (kb_ (ba_ (ba_ HL2 _) _) hb4)
      clear hb4 HC HW
      unfold J.val
      have hfd := fun w => field_id (minAll ord L) w
      go_wp2
      go_ret2
      exact ⟨by rw [HN.out]; rfl, HL4.out.out⟩
end Go.Proofs.Ytopmdgheacjkcaa
