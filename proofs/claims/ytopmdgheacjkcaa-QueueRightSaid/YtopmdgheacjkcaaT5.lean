/- Rows of jobs that a call owns; append; slices.Clone, slices.Clip. -/
import Derived.Test.YtopmdgheacjkcaaT4
import Derived.ArgAppend
import Derived.Lib.SliceRun
import Derived.Maps.AppendAt
set_option linter.unusedVariables false
set_option linter.unusedSimpArgs false
namespace Go.Proofs.Ytopmdgheacjkcaa
open Go.RowKit
theorem info40 : (Try.prog.info? 40).map (fun i => (i.zero, i.size, i.bytes)) = some (some (.agg #[(.int .i64 0), (.int .i64 0), (.int .i64 0), (.int .i64 0), (.int .i64 0), (.int .i64 0), (.slice none 0 0), (.slice none 0 0), (.slice none 0 0), (.int .i64 0), (.int .i64 0)]), 11, 136) := by kernel_rfl
def flat (xs : List J) : List Value := xs.flatMap J.cells
theorem flat_length (xs : List J) : (flat xs).length = xs.length * 11 := by
  induction xs with
  | nil => rfl
  | cons x l ih => unfold flat at ih ⊢; rw [List.flatMap_cons, List.length_append, ih, J.cells_length, List.length_cons]; omega
theorem flat_append (xs ys : List J) : flat (xs ++ ys) = flat xs ++ flat ys := by simp [flat]
theorem flat_get (xs : List J) : ∀ (i : Nat) (j : J) (c : Nat), xs[i]? = some j → c < 11 → (flat xs)[i * 11 + c]? = j.cells[c]? := by
  induction xs with
  | nil => intro i j c h; simp at h
  | cons x l ih =>
    intro i j c h hc
    unfold flat at ih ⊢
    rw [List.flatMap_cons]
    cases i with
    | zero =>
      simp at h
      subst h
      rw [List.getElem?_append_left (by rw [J.cells_length]; omega)]
      simp
    | succ i =>
      rw [List.getElem?_append_right (by rw [J.cells_length]; omega), J.cells_length, show (i + 1) * 11 + c - 11 = i * 11 + c by omega]
      exact ih i j c (by simpa using h) hc
theorem J.one (j : J) : ∀ u ∈ j.cells, u.oneCell' = true := by
  intro u hu
  simp only [J.cells, List.mem_cons, List.mem_nil_iff, or_false] at hu
  rcases hu with h | h | h | h | h | h | h | h | h | h | h <;> (rw [h]; rfl)
theorem flat_one (xs : List J) : ∀ u ∈ flat xs, u.oneCell' = true := by
  intro u hu
  obtain ⟨j, _, hj⟩ := List.mem_flatMap.1 hu
  exact j.one u hj
/-- The cells of a list that is read. -/
theorem Row.flat {w : World} {ad : Addr} {xs : List J} (h : Row w 11 (some ad) (xs.map J.cells)) : ∀ j u, (flat xs)[j]? = some u → w.cell? (ad.add j) = some u := by
  intro j u hu
  have hl := (List.getElem?_eq_some_iff.1 hu).1
  rw [flat_length] at hl
  obtain ⟨ad', e, _, hc⟩ := h (by rw [List.length_map]; omega)
  cases e
  have hi : j / 11 < xs.length := by omega
  have hg := flat_get xs (j / 11) xs[j / 11] (j % 11) (List.getElem?_eq_getElem hi) (by omega)
  rw [show j / 11 * 11 + j % 11 = j by omega] at hg
  have := hc (j / 11) xs[j / 11].cells (by simp [hi]) (j % 11) u (by rw [← hg, hu])
  rwa [show j / 11 * 11 + j % 11 = j by omega] at this
def JRow (w : World) (base : Nat) (v : Value) (xs : List J) : Prop := w.ownsRow base 40 11 v xs.length (flat xs)
theorem JRow.row {w : World} {base : Nat} {A : Option Addr} {n c : Nat} {xs : List J} (h : JRow w base (.slice A n c) xs) : Row w 11 A (xs.map J.cells) := by
  intro hn
  rw [List.length_map] at hn
  obtain ⟨g, cap, e, _, hlt⟩ := World.ownsRow.form h hn
  cases e
  have hty : ∃ cs fr, w.heap[g]? = some (.cells cs (tyOf 11) fr) := by
    rcases h.2 with ⟨h', _⟩ | ⟨g', cap', cur, h', _, hh, _⟩
    · cases h'
    · cases h'
      exact ⟨_, _, hh⟩
  refine ⟨_, rfl, hty, fun i x hx j v hv => ?_⟩
  obtain ⟨j', hj', rfl⟩ : ∃ j', xs[i]? = some j' ∧ j'.cells = x := by simpa using hx
  have hjl := (List.getElem?_eq_some_iff.1 hv).1
  rw [J.cells_length] at hjl
  exact World.ownsRow.cells h (g := g) rfl _ v (by rw [flat_get xs i j' j hj' hjl, hv])
theorem JRow.form {w : World} {base : Nat} {v : Value} {xs : List J} (h : JRow w base v xs) : ∃ A c, v = .slice A xs.length c ∧ xs.length ≤ c := by
  rcases h.2 with ⟨rfl, h0⟩ | ⟨g, cap, cur, rfl, _, _, hc, _⟩
  · exact ⟨none, 0, by rw [h0], by omega⟩
  · exact ⟨_, cap, rfl, hc⟩
section
variable {ops : Array Oper} {rest : List Oper} {o : Oper} {a : Act} {Q : Exit → Act → World → Prop}
/-- append(v, ys...): v owned, ys read; nil let in. -/
theorem wpList_app {W : World} (hgd : o.guard = none) (s x : Operand) (ho : o.op = .call { callee := .builtin .append, args := #[s, x], argTypes := #[27, 27] })
    (base : Nat) (v : Value) (xs ys : List J) (A : Option Addr) (c : Nat) (hs : a.eval s = v) (hx : a.eval x = .slice A ys.length c) (HO : JRow W base v xs) (HR : Row W 11 A (ys.map J.cells)) (hbase : base ≤ W.heap.size) (hl : xs.length + ys.length ≤ 5000)
    (h : ∀ v1 w1, JRow w1 base v1 (xs ++ ys) → W.grownBy w1 v.ownBlock → (v1.ownBlock = v.ownBlock ∨ v1.ownBlock = some W.heap.size) → wpList Try.prog ops Q rest (a.put o.dst v1) w1) :
    wpList Try.prog ops Q (o :: rest) a W := by
  obtain ⟨i0, hi, hzz⟩ := Option.map_eq_some_iff.1 info40
  simp only [Prod.mk.injEq] at hzz
  obtain ⟨hz0, hz1, hz2⟩ := hzz
  unfold JRow at HO h
  rcases A with _ | ad
  · have h0 : ys = [] := by
      rcases Nat.eq_zero_or_pos ys.length with h0 | h0
      · exact List.eq_nil_of_length_eq_zero h0
      · obtain ⟨_, e, _⟩ := HR (by simpa using h0)
        cases e
    subst h0
    have hrun : (Builtin.append_ #[27, 27] o.type #[v, .slice none 0 c]).run Try.prog W = .ok v W := by
      rcases HO.2 with ⟨rfl, hn⟩ | ⟨g, cap, cur, rfl, _, _, hnc, _⟩
      · simp [Builtin.append_, run_underlying Try.underlying27, sizeOf, typeInfo, hi, Builtin.lenOf, Builtin.firstCells]
      · simp [Builtin.append_, run_underlying Try.underlying27, sizeOf, typeInfo, hi, Builtin.lenOf, Builtin.firstCells, hnc, storeCells]
    refine wpList_plain hgd fun K hK => ?_
    have hx' : a.eval x = .slice none 0 c := hx
    unfold Oper.wp
    simp [execOp, ho, resolve, invoke, builtin, hs, hx', hrun, Result.andThen]
    exact hK _ _ (h v W (by simpa using HO) ⟨rfl, rfl, rfl, Nat.le_refl _, fun _ _ _ => rfl⟩ (.inl rfl))
  · refine wpList_append_own_at W hgd s x 27 ho base 40 i0 _ 11 136 Try.underlying27 hi hz0 hz1 hz2 rfl (by omega) v xs.length (flat xs) hs HO ad ys.length c (flat ys) hx (flat_length ys) HR.flat (flat_one ys) (by simp only [maxLen]; omega) (by omega) hbase ?_
    intro v1 w1 hown hg _ hat
    refine h v1 w1 (by rw [flat_append, List.length_append]; exact hown) hg hat
end
theorem JRow.lit (W : World) (base : Nat) (hb : base ≤ W.heap.size) : JRow (W.alloc (.cells #[] 40)) base (.slice (some ⟨W.heap.size, 0, none⟩) 0 0) [] := by
  have h := World.ownsRow_lit (base := base) (e := 40) (size := 11) W #[] 0 hb (by simp [maxLen]) (by simp)
  simpa [JRow, flat] using h
theorem kg_ {w W W1 : World} (h : Hid (Below w.heap.size w W)) {row : Option Nat} (hg : W.grownBy W1 row) (hr : ∀ k, row = some k → w.heap.size ≤ k) : Hid (Below w.heap.size w W1) := h.grown hg h.size hr
set_option maxHeartbeats 1000000 in
theorem clone_calls (A : Option Addr) (c : Nat) (xs : List J) (w : World) (hr : Row w 11 A (xs.map J.cells)) (hl : xs.length ≤ 1000) :
    Calls Try.prog 49 #[.slice A xs.length c] w fun e w' => ∃ v, e = .returned v ∧ JRow w' w.heap.size v xs ∧ Below w.heap.size w w' := by
  have qT : ∀ (w : World) (a : Option Addr) (n c n' c' : Nat), (binOp .eql 27 (.slice a n c) (.slice none n' c')).run Try.prog w = .ok (.bool a.isNone) w := fun w a n c n' c' => Lib.run_eql_slice_nil w _ _ a n c n' c' Try.underlying27
  have HR := Lib.hid hr
  rcases A with _ | ad
  · have h0 : xs = [] := by
      rcases Nat.eq_zero_or_pos xs.length with h0 | h0
      · exact List.eq_nil_of_length_eq_zero h0
      · obtain ⟨_, e, _⟩ := hr (by simpa using h0)
        cases e
    subst h0
    clear hr HR
    go_enter Try.func49, Try.ntmps49
    go_wp2
    go_ret
    exact ⟨_, rfl, World.ownsRow_nil _ _ _ _, Below.refl _ _⟩
  · clear hr
    go_enter Try.func49, Try.ntmps49
    go_wp2_with (at_builtin; refine wpList_app rfl _ _ rfl w.heap.size _ [] xs (some ad) c rfl rfl (JRow.lit w _ (Nat.le_refl _)) ?h1 ?h2 ?h3 ?_)
    case h1 => exact HR.out.below (ba_ (b0_ w) _).out
    case h2 => simp
    case h3 => simp; omega
    intro v1 w1 hown hg hat
    have HOWN := Lib.hid hown; clear hown
    have HG := Lib.hid hg; clear hg
    clear hat
    go_wp2
    go_ret
    refine ⟨v1, rfl, by simpa using HOWN.out, (kg_ (ba_ (b0_ w) _) HG.out ?_).out⟩
    intro k hk
    simp [Value.ownBlock] at hk
    omega
set_option maxHeartbeats 1000000 in
theorem clip_calls (A : Option Addr) (n c : Nat) (w : World) (hn : n ≤ c) (hl : n ≤ 1000000) :
    Calls Try.prog 64 #[.slice A n c] w fun e w' => e = .returned (.slice A n n) ∧ w = w' := by
  have h1 : ¬ (c : Int) < (n : Int) := by omega
  go_enter Try.func64, Try.ntmps64
  go_wp2
  go_ret
  exact ⟨rfl, rfl⟩
end Go.Proofs.Ytopmdgheacjkcaa
