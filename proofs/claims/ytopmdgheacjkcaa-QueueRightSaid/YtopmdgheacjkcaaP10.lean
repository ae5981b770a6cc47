/- Words for a queue that is copied and changed: rows of the call's own. -/
import Derived.Test.YtopmdgheacjkcaaT30
import Derived.Test.YtopmdgheacjkcaaT23
import Derived.Test.YtopmdgheacjkcaaWInv
set_option linter.unusedVariables false
set_option linter.unusedSimpArgs false
namespace Go.Proofs.Ytopmdgheacjkcaa
open Go.RowKit
open Go.Proofs.YtopmdgheacjkcaaW.PrintWords (nums own_other own_type_ne own_ne own_setCell own_base own_lt pw_own_below own_at own_store own_take)
theorem exec_app {P : Program} {a : Act} {o : Oper} {w w1 : World} {v xv v1 : Value} {t : TypeId} (s x : Operand) (ho : o.op = .call { callee := .builtin .append, args := #[s, x], argTypes := #[t, t] }) (hs : a.eval s = v) (hx : a.eval x = xv)
    (hr : (Builtin.append_ #[t, t] o.type #[v, xv]).run P w = .ok v1 w1) : (execOp a.eval o).run P w = .ok (.value v1) w1 := by
  unfold execOp
  simp [ho, resolve, invoke, builtin, hs, hx, hr, Result.andThen]
theorem run_app_jobs (W : World) (base g0 c0 : Nat) (ys : List J) (A : Option Addr) (c : Nat) (ty : TypeId) (HO : JRow W base (.slice (some ⟨g0, 0, none⟩) 0 c0) []) (HR : Row W 11 A (ys.map J.cells)) (hbase : base ≤ W.heap.size) (hl : ys.length ≤ 1000) :
    ∃ A1 c1 w1, (Builtin.append_ #[27, 27] ty #[.slice (some ⟨g0, 0, none⟩) 0 c0, .slice A ys.length c]).run Try.prog W = .ok (.slice A1 ys.length c1) w1 ∧ JRow w1 base (.slice A1 ys.length c1) ys ∧ W.grownBy w1 (some g0) ∧ ys.length ≤ c1 := by
  obtain ⟨i0, hi, hzz⟩ := Option.map_eq_some_iff.1 info40
  simp only [Prod.mk.injEq] at hzz
  obtain ⟨hz0, hz1, hz2⟩ := hzz
  rcases A with _ | ad
  · have h0 : ys = [] := by
      rcases Nat.eq_zero_or_pos ys.length with h0 | h0
      · exact List.eq_nil_of_length_eq_zero h0
      · obtain ⟨_, e, _⟩ := HR (by simpa using h0)
        cases e
    subst h0
    refine ⟨some ⟨g0, 0, none⟩, c0, W, ?_, by simpa using HO, ⟨rfl, rfl, rfl, Nat.le_refl _, fun _ _ _ => rfl⟩, Nat.zero_le _⟩
    simp [Builtin.append_, run_underlying Try.underlying27, sizeOf, typeInfo, hi, Builtin.lenOf, Builtin.firstCells, storeCells]
  · obtain ⟨v1, w1, hr, hown, hg, _, _⟩ := run_append_own_at (P := Try.prog) (w := W) base 27 ty 40 i0 _ 11 136 Try.underlying27 hi hz0 hz1 hz2 rfl (by omega) (.slice (some ⟨g0, 0, none⟩) 0 c0) 0 (flat []) HO ad ys.length c (flat ys) (flat_length ys) HR.flat (flat_one ys) (by simp only [maxLen]; omega) (by omega) hbase
    have hj : JRow w1 base v1 ys := by
      unfold JRow
      simpa [flat] using hown
    obtain ⟨A1, c1, rfl, hc⟩ := hj.form
    exact ⟨A1, c1, w1, hr, hj, hg, hc⟩
theorem info3q : (Try.prog.info? 3).map (fun i => (i.zero, i.size, i.bytes)) = some (some (.int .i64 0), 1, 8) := by kernel_rfl
theorem run_app_ints (W : World) (base g0 c0 : Nat) (ys : List Int) (A : Option Addr) (c : Nat) (ty : TypeId) (HO : W.ownsRow base 3 1 (.slice (some ⟨g0, 0, none⟩) 0 c0) 0 []) (HR : Row W 1 A (ys.map fun n => [Value.int .i64 n])) (hbase : base ≤ W.heap.size) (h0 : 0 < ys.length) (hl : ys.length ≤ 1000) :
    ∃ g1 c1 w1, (Builtin.append_ #[26, 26] ty #[.slice (some ⟨g0, 0, none⟩) 0 c0, .slice A ys.length c]).run Try.prog W = .ok (.slice (some ⟨g1, 0, none⟩) ys.length c1) w1 ∧ w1.ownsRow base 3 1 (.slice (some ⟨g1, 0, none⟩) ys.length c1) ys.length (nums .i64 ys) ∧ W.grownBy w1 (some g0) := by
  obtain ⟨i0, hi, hzz⟩ := Option.map_eq_some_iff.1 info3q
  simp only [Prod.mk.injEq] at hzz
  obtain ⟨hz0, hz1, hz2⟩ := hzz
  obtain ⟨ad, rfl, _, hc⟩ := HR (by simpa using h0)
  obtain ⟨v1, w1, hr, hown, hg, _, _⟩ := run_append_own_at (P := Try.prog) (w := W) base 26 ty 3 i0 _ 1 8 Try.underlying26 hi hz0 hz1 hz2 rfl (by omega) (.slice (some ⟨g0, 0, none⟩) 0 c0) 0 [] HO ad ys.length c (nums .i64 ys) (by simp [nums]) (fun j u hu => by
      obtain ⟨n, hn, rfl⟩ : ∃ n, ys[j]? = some n ∧ Value.int .i64 n = u := by simpa [nums] using hu
      have := hc j [Value.int .i64 n] (by simp [hn]) 0 _ rfl
      simpa using this) (fun u hu => by
      obtain ⟨n, _, rfl⟩ : ∃ n, n ∈ ys ∧ Value.int .i64 n = u := by simpa [nums] using hu
      rfl) (by simp only [maxLen]; omega) (by omega) hbase
  have ho : w1.ownsRow base 3 1 v1 ys.length (nums .i64 ys) := by simpa using hown
  obtain ⟨g1, c1, rfl, _, _⟩ := World.ownsRow.form ho h0
  exact ⟨g1, c1, w1, hr, ho, hg⟩
theorem own_setCells {base g : Nat} {e : TypeId} {size n : Nat} {v : Value} {xs : List Value} : ∀ (vs : List Value) (o : Nat) (w : World), w.ownsRow base e size v n xs → some g ≠ v.ownBlock → (w.setCells g o vs).ownsRow base e size v n xs
  | [], _, _, h, _ => h
  | u :: r, o, w, h, hne => own_setCells r (o + 1) _ (own_setCell h (p := ⟨g, o, none⟩) hne u) hne
theorem Blk.grown {w w1 : World} {g : Nat} {t : TypeId} {cs : List Value} {row : Option Nat} (h : Blk w g t cs) (hg : w.grownBy w1 row) (hne : some g ≠ row) : Blk w1 g t cs := (hg.block g h.lt hne).trans h
theorem ilit (W : World) (base : Nat) (hb : base ≤ W.heap.size) : (W.alloc (.cells #[] 3)).ownsRow base 3 1 (.slice (some ⟨W.heap.size, 0, none⟩) 0 0) 0 [] := by
  have h := World.ownsRow_lit (base := base) (e := 3) (size := 1) W #[] 0 hb (by simp [maxLen]) (by simp)
  simpa using h
/-- The copy is a queue. -/
theorem qin_of {W : World} {B B' g c cj : Nat} {A : Option Addr} {qs : List Int} {js : List J} (hI : W.ownsRow B 3 1 (.slice (some ⟨g, 0, none⟩) qs.length c) qs.length (nums .i64 qs)) (hJ : JRow W B' (.slice A js.length cj) js) : QIn W ⟨some ⟨g, 0, none⟩, c, A, cj⟩ ⟨qs, js⟩ := by
  have hq : qs.length ≤ c ∧ ∃ cs fr, W.heap[g]? = some (.cells cs 3 fr) := by
    rcases hI.2 with ⟨h', _⟩ | ⟨g', cap', cur, h', _, hh, hnc, _⟩
    · cases h'
    · cases h'
      exact ⟨hnc, _, _, hh⟩
  obtain ⟨A2, c2, e, hc⟩ := hJ.form
  cases e
  refine ⟨fun _ => ⟨_, rfl, hq.2, fun i x hx j v hv => ?_⟩, hJ.row, hq.1, hc⟩
  obtain ⟨n, hn, rfl⟩ : ∃ n, qs[i]? = some n ∧ [Value.int .i64 n] = x := by simpa using hx
  obtain rfl : j = 0 := by
    have := (List.getElem?_eq_some_iff.1 hv).1
    simpa using this
  have := hI.cells (g := g) rfl i v (by simp [nums, hn]; simpa using hv)
  simpa using this
/-- The copy, as it is changed. -/
structure OddAt (wr : World) (g3 c3 g9 g7 c7 : Nat) (qs : List Int) (js : List J) (W : World) : Prop where
  below : Below wr.heap.size wr W
  own : W.ownsRow wr.heap.size 3 1 (.slice (some ⟨g3, 0, none⟩) qs.length c3) qs.length (nums .i64 qs)
  jrow : JRow W wr.heap.size (.slice (some ⟨g7, 0, none⟩) js.length c7) js
  blk : Blk W g9 29 [.slice (some ⟨g3, 0, none⟩) qs.length c3, .slice (some ⟨g7, 0, none⟩) js.length c7]
variable {wr W : World} {g3 c3 g9 g7 c7 : Nat} {qs : List Int} {js : List J}
theorem OddAt.ne37 (h : OddAt wr g3 c3 g9 g7 c7 qs js W) : g3 ≠ g7 := by
  intro e
  subst e
  rcases own_type_ne h.own h.jrow (by decide) with h1 | h1
  · cases h1
  · exact h1 rfl
theorem OddAt.ne93 (h : OddAt wr g3 c3 g9 g7 c7 qs js W) : g9 ≠ g3 := by
  intro e
  subst e
  exact own_ne h.own h.blk (by decide) rfl
theorem OddAt.ne97 (h : OddAt wr g3 c3 g9 g7 c7 qs js W) : g9 ≠ g7 := by
  intro e
  subst e
  exact own_ne h.jrow h.blk (by decide) rfl
theorem OddAt.setJ (h : OddAt wr g3 c3 g9 g7 c7 qs js W) {Jb : Nat} (hb : wr.heap.size ≤ Jb) (h3 : Jb ≠ g3) (h7 : Jb ≠ g7) (h9 : Jb ≠ g9) (f : Nat) (u : Value) : OddAt wr g3 c3 g9 g7 c7 qs js (W.setCell ⟨Jb, f, none⟩ u) :=
  ⟨h.below.setCell hb u, own_setCell h.own (p := ⟨Jb, f, none⟩) (fun e => h3 (by simpa [Value.ownBlock] using e)) u, own_setCell h.jrow (p := ⟨Jb, f, none⟩) (fun e => h7 (by simpa [Value.ownBlock] using e)) u, h.blk.far (Ne.symm h9) f u⟩
theorem OddAt.put (h : OddAt wr g3 c3 g9 g7 c7 qs js W) (n : Nat) (hn : n < js.length) (j : J) : OddAt wr g3 c3 g9 g7 c7 qs (js.set n j) (W.setCells g7 (n * 11) j.cells) := by
  have h7 := h.jrow.base
  refine ⟨below_setCells (w := 0) j.cells (n * 11) wr W h.below h7, own_setCells j.cells (n * 11) W h.own (fun e => h.ne37 (by simpa [Value.ownBlock] using e.symm)), ?_, ?_⟩
  · have := h.jrow.put n hn rfl j
    rw [List.length_set]
    exact this
  · rw [List.length_set]
    exact h.blk.fars h.ne97 (n * 11) j.cells
theorem OddAt.new (h : OddAt wr g3 c3 g9 g7 c7 qs js W) (o : Obj) : OddAt wr g3 c3 g9 g7 c7 qs js (W.alloc o).drew :=
  have hb := (bd_ (ba_ (b0_ W) o)).out
  ⟨(bd_ (ba_ (Lib.hid h.below) o)).out, pw_own_below h.own hb, h.jrow.below hb, h.blk.alloc o⟩
theorem OddAt.lts (h : OddAt wr g3 c3 g9 g7 c7 qs js W) : wr.heap.size ≤ W.heap.size ∧ W.heap.size ≠ g3 ∧ W.heap.size ≠ g7 ∧ W.heap.size ≠ g9 := by
  have h1 := own_lt h.own g3 rfl
  have h2 := own_lt h.jrow g7 rfl
  have h3 := h.blk.lt
  exact ⟨h.below.size, by omega, by omega, by omega⟩
end Go.Proofs.Ytopmdgheacjkcaa
