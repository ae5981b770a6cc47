/- slices.DeleteFunc, slices.MinFunc over jobs. -/
import Derived.Test.YtopmdgheacjkcaaT5
import Derived.Outline
import Derived.Laws.IdiomCopy
set_option linter.unusedVariables false
set_option linter.unusedSimpArgs false
namespace Go.Proofs.Ytopmdgheacjkcaa
open Go.RowKit
theorem idxP_cases (p : J → Bool) (xs : List J) : (idxP p xs = -1 ∧ ∀ j ∈ xs, p j = false) ∨ ∃ m : Nat, idxP p xs = m ∧ m < xs.length ∧ (xs.take m).filter (fun j => !p j) = xs.take m ∧ (xs.take (m + 1)).filter (fun j => !p j) = xs.take m := by
  by_cases h : xs.any p = true
  · refine .inr ⟨xs.findIdx p, by rw [idxP, if_pos h], ?_⟩
    have hlt : xs.findIdx p < xs.length := List.findIdx_lt_length_of_exists (by simpa using h)
    have h1 : (xs.take (xs.findIdx p)).filter (fun j => !p j) = xs.take (xs.findIdx p) := by
      rw [List.filter_eq_self]
      intro j hj
      obtain ⟨i, hi, rfl⟩ := List.getElem_of_mem hj
      rw [List.getElem_take]
      simpa using List.not_of_lt_findIdx (by rw [List.length_take] at hi; omega)
    refine ⟨hlt, h1, ?_⟩
    rw [List.take_succ_eq_append_getElem hlt, List.filter_append, h1]
    have := List.findIdx_getElem (w := hlt)
    simp [this]
  · refine .inl ⟨by rw [idxP, if_neg h], fun j hj => ?_⟩
    simp only [Bool.not_eq_true, List.any_eq_false] at h
    simpa using h j hj
theorem JRow.cell {w : World} {base : Nat} {g n c : Nat} {xs : List J} (h : JRow w base (.slice (some ⟨g, 0, none⟩) n c) xs) (i : Nat) (j : J) (hj : xs[i]? = some j) :
    w.cell? ⟨g, i * 11, none⟩ = some (.int .i64 j.id) ∧ w.cell? ⟨g, i * 11 + 1, none⟩ = some (.int .i64 j.tn) ∧ w.cell? ⟨g, i * 11 + 2, none⟩ = some (.int .i64 j.pr) ∧ w.cell? ⟨g, i * 11 + 3, none⟩ = some (.int .i64 j.kn) ∧
    w.cell? ⟨g, i * 11 + 4, none⟩ = some (.int .i64 j.bd) ∧ w.cell? ⟨g, i * 11 + 5, none⟩ = some (.int .i64 j.im.g) ∧ w.cell? ⟨g, i * 11 + 6, none⟩ = some (.slice j.im.ar.a j.im.ar.n j.im.ar.c) ∧
    w.cell? ⟨g, i * 11 + 7, none⟩ = some (.slice j.im.gl.a j.im.gl.n j.im.gl.c) ∧ w.cell? ⟨g, i * 11 + 8, none⟩ = some (.slice j.im.gr.a j.im.gr.n j.im.gr.c) ∧ w.cell? ⟨g, i * 11 + 9, none⟩ = some (.int .i64 j.st) ∧
    w.cell? ⟨g, i * 11 + 10, none⟩ = some (.int .i64 j.av) := by
  have hc : ∀ q u, (flat xs)[q]? = some u → w.cell? ⟨g, q, none⟩ = some u := fun q u hq => by
    have := World.ownsRow.cells h (g := g) rfl q u hq
    unfold Addr.add at this
    split at this <;> simp_all
  have hf := fun q hq => flat_get xs i j q hj hq
  refine ⟨hc _ _ ?_, hc _ _ ?_, hc _ _ ?_, hc _ _ ?_, hc _ _ ?_, hc _ _ ?_, hc _ _ ?_, hc _ _ ?_, hc _ _ ?_, hc _ _ ?_, hc _ _ ?_⟩
  · exact hf 0 (by omega)
  · exact hf 1 (by omega)
  · exact hf 2 (by omega)
  · exact hf 3 (by omega)
  · exact hf 4 (by omega)
  · exact hf 5 (by omega)
  · exact hf 6 (by omega)
  · exact hf 7 (by omega)
  · exact hf 8 (by omega)
  · exact hf 9 (by omega)
  · exact hf 10 (by omega)
theorem JRow.frozenAt {w : World} {base : Nat} {g n c : Nat} {xs : List J} (h : JRow w base (.slice (some ⟨g, 0, none⟩) n c) xs) (q : Nat) : w.frozen? ⟨g, q, none⟩ = false := by
  rcases h.2 with ⟨h', _⟩ | ⟨g', cap', cur, h', _, hh, _⟩
  · cases h'
  · have : g = g' := by injection h' with h'; injection h' with h'; injection h' with h'
    subst this
    simp [World.frozen?, hh]
theorem JRow.below {w w' : World} {base : Nat} {v : Value} {xs : List J} (h : JRow w base v xs) (hb : Below w.heap.size w w') : JRow w' base v xs :=
  World.ownsRow.kept h ⟨hb.os, hb.tape, hb.output, hb.size, fun k hk _ => hb.block k hk⟩ (row := none) (by cases v.ownBlock <;> simp)
theorem alloc_call {W w2 : World} {o : Obj} (hb : Below (W.alloc o).heap.size (W.alloc o) w2) : Below W.heap.size W w2 := (kb_ (ba_ (b0_ W) o) hb).out
theorem JRow.box {w w' : World} {base : Nat} {v : Value} {xs : List J} {o : Obj} (h : JRow w base v xs) (hb : Below (w.alloc o).heap.size (w.alloc o) w') : JRow w' base v xs := h.below (alloc_call hb)
theorem bbox {B : Nat} {w W w2 : World} {o : Obj} (h : Below B w W) (hB : B ≤ w.heap.size) (hb : Below (W.alloc o).heap.size (W.alloc o) w2) : Below B w w2 :=
  h.trans ((alloc_call hb).mono (Nat.le_trans hB h.size))
theorem box_cells (W w2 : World) (j : J) (hb : Below (W.alloc (.cells #[.int .i64 j.id, .int .i64 j.tn, .int .i64 j.pr, .int .i64 j.kn, .int .i64 j.bd, .int .i64 j.im.g, .slice j.im.ar.a j.im.ar.n j.im.ar.c, .slice j.im.gl.a j.im.gl.n j.im.gl.c, .slice j.im.gr.a j.im.gr.n j.im.gr.c, .int .i64 j.st, .int .i64 j.av] 40)).heap.size
      (W.alloc (.cells #[.int .i64 j.id, .int .i64 j.tn, .int .i64 j.pr, .int .i64 j.kn, .int .i64 j.bd, .int .i64 j.im.g, .slice j.im.ar.a j.im.ar.n j.im.ar.c, .slice j.im.gl.a j.im.gl.n j.im.gl.c, .slice j.im.gr.a j.im.gr.n j.im.gr.c, .int .i64 j.st, .int .i64 j.av] 40)) w2) :
    w2.cell? ⟨W.heap.size, 0, none⟩ = some (.int .i64 j.id) ∧ w2.cell? ⟨W.heap.size, 1, none⟩ = some (.int .i64 j.tn) ∧ w2.cell? ⟨W.heap.size, 2, none⟩ = some (.int .i64 j.pr) ∧ w2.cell? ⟨W.heap.size, 3, none⟩ = some (.int .i64 j.kn) ∧
    w2.cell? ⟨W.heap.size, 4, none⟩ = some (.int .i64 j.bd) ∧ w2.cell? ⟨W.heap.size, 5, none⟩ = some (.int .i64 j.im.g) ∧ w2.cell? ⟨W.heap.size, 6, none⟩ = some (.slice j.im.ar.a j.im.ar.n j.im.ar.c) ∧
    w2.cell? ⟨W.heap.size, 7, none⟩ = some (.slice j.im.gl.a j.im.gl.n j.im.gl.c) ∧ w2.cell? ⟨W.heap.size, 8, none⟩ = some (.slice j.im.gr.a j.im.gr.n j.im.gr.c) ∧ w2.cell? ⟨W.heap.size, 9, none⟩ = some (.int .i64 j.st) ∧
    w2.cell? ⟨W.heap.size, 10, none⟩ = some (.int .i64 j.av) := by
  have hc := fun (i : Nat) => cell_of_row _ W.heap.size i _ _ _ (heap_alloc_new W (.cells #[.int .i64 j.id, .int .i64 j.tn, .int .i64 j.pr, .int .i64 j.kn, .int .i64 j.bd, .int .i64 j.im.g, .slice j.im.ar.a j.im.ar.n j.im.ar.c, .slice j.im.gl.a j.im.gl.n j.im.gl.c, .slice j.im.gr.a j.im.gr.n j.im.gr.c, .int .i64 j.st, .int .i64 j.av] 40))
  refine ⟨kc_ hb ?_, kc_ hb ?_, kc_ hb ?_, kc_ hb ?_, kc_ hb ?_, kc_ hb ?_, kc_ hb ?_, kc_ hb ?_, kc_ hb ?_, kc_ hb ?_, kc_ hb ?_⟩ <;> rw [hc] <;> rfl
def setL (xs : List Value) : Nat → List Value → List Value
  | _, [] => xs
  | o, v :: r => setL (xs.set o v) (o + 1) r
theorem setL_take (o k : Nat) : ∀ (vs : List Value) (i : Nat) (xs : List Value), k ≤ i → (setL xs i vs).take k = xs.take k
  | [], i, xs, _ => rfl
  | v :: r, i, xs, h => by
    rw [setL, setL_take o k r (i + 1) _ (by omega), List.take_set_of_le h]
theorem ownsRow_setCells {base : Nat} {e : TypeId} {size g n cap : Nat} : ∀ (vs : List Value) (o : Nat) (w : World) (xs : List Value), w.ownsRow base e size (.slice (some ⟨g, 0, none⟩) n cap) n xs →
    (w.setCells g o vs).ownsRow base e size (.slice (some ⟨g, 0, none⟩) n cap) n (setL xs o vs)
  | [], o, w, xs, h => h
  | v :: r, o, w, xs, h => by
    rw [World.setCells, setL]
    exact ownsRow_setCells r (o + 1) _ _ (World.ownsRow.stored h o v).1
theorem below_setCells {B : Nat} {w g : Nat} : ∀ (vs : List Value) (o : Nat) (W0 W : World), Below B W0 W → B ≤ g → Below B W0 (W.setCells g o vs)
  | [], o, W0, W, h, _ => h
  | v :: r, o, W0, W, h, hg => by
    rw [World.setCells]
    exact below_setCells (w := w) r (o + 1) W0 _ (h.setCell hg v) hg
theorem flat_set (j : J) : ∀ (xs : List J) (m : Nat), m < xs.length → setL (flat xs) (m * 11) j.cells = flat (xs.set m j)
  | [], m, h => by simp at h
  | x :: l, 0, _ => by simp [flat, J.cells, setL]
  | x :: l, m + 1, h => by
    have ih := flat_set j l m (by simpa using h)
    have hs : ∀ (vs : List Value) (o : Nat) (ys : List Value), setL (x.cells ++ ys) (11 + o) vs = x.cells ++ setL ys o vs := by
      intro vs
      induction vs with
      | nil => intro o ys; rfl
      | cons v r ihv =>
        intro o ys
        rw [setL, setL, List.set_append_right _ _ (by rw [J.cells_length]; omega), J.cells_length, show 11 + o - 11 = o by omega, show 11 + o + 1 = 11 + (o + 1) by omega]
        exact ihv (o + 1) _
    have e1 : flat (x :: l) = x.cells ++ flat l := by simp [flat]
    have e2 : flat ((x :: l).set (m + 1) j) = x.cells ++ flat (l.set m j) := by simp [flat]
    rw [e1, e2, show (m + 1) * 11 = 11 + m * 11 by omega, hs, ih]
theorem JRow.put {w : World} {B g c n : Nat} {xs : List J} (h : JRow w B (.slice (some ⟨g, 0, none⟩) n c) xs) (m : Nat) (hm : m < xs.length) (hn : n = xs.length) (j : J) : JRow (w.setCells g (m * 11) j.cells) B (.slice (some ⟨g, 0, none⟩) n c) (xs.set m j) := by
  subst hn
  unfold JRow at h ⊢
  rw [← flat_set j xs m hm, List.length_set]
  exact ownsRow_setCells _ _ _ _ h
theorem JRow.base {w : World} {B g c n : Nat} {xs : List J} (h : JRow w B (.slice (some ⟨g, 0, none⟩) n c) xs) : B ≤ g := (World.ownsRow.lt h g rfl).1
theorem flat_take (xs : List J) (m : Nat) : flat (xs.take m) = (flat xs).take (m * 11) := by
  induction xs generalizing m with
  | nil => simp [flat]
  | cons x l ih =>
    cases m with
    | zero => simp [flat]
    | succ m =>
      have e1 : flat (x :: l) = x.cells ++ flat l := by simp [flat]
      have e2 : flat ((x :: l).take (m + 1)) = x.cells ++ flat (l.take m) := by simp [flat]
      rw [e1, e2, ih, List.take_append, J.cells_length, List.take_of_length_le (l := x.cells) (by rw [J.cells_length]; omega), show (m + 1) * 11 - 11 = m * 11 by omega]
theorem JRow.cut {w : World} {B g c n : Nat} {xs : List J} {cs : List Value} (h : w.ownsRow B 40 11 (.slice (some ⟨g, 0, none⟩) n c) n cs) (m : Nat) (hm : m ≤ n) (hl : xs.length = n) (hc : cs.take (m * 11) = flat (xs.take m)) : JRow w B (.slice (some ⟨g, 0, none⟩) m c) (xs.take m) := by
  have hlm : (xs.take m).length = m := by rw [List.length_take]; omega
  refine ⟨by rw [flat_length], .inr ?_⟩
  rw [hlm]
  rcases h.2 with ⟨h', _⟩ | ⟨g', cap, cur, h', h1, h2, h3, h4, h5, h6⟩
  · cases h'
  · cases h'
    refine ⟨g, _, cur, rfl, h1, h2, by omega, h4, h5, ?_⟩
    rw [← hc, ← h6, List.take_take, Nat.min_eq_left (Nat.mul_le_mul_right _ hm)]
structure DelRel (p : J → Bool) (xs ys : List J) (k m : Nat) : Prop where
  len : ys.length = xs.length
  take : ys.take m = (xs.take k).filter (fun j => !p j)
  drop : ys.drop k = xs.drop k
theorem DelRel.here {p : J → Bool} {xs ys : List J} {k m : Nat} {j : J} (h : DelRel p xs ys k m) (hj : ys[k]? = some j) : xs[k]? = some j := by
  have h1 := h.drop
  have : (ys.drop k)[0]? = some j := by simpa using hj
  rw [h1] at this
  simpa using this
theorem DelRel.tail {p : J → Bool} {xs ys : List J} {k m : Nat} (h : DelRel p xs ys k m) : ys.drop (k + 1) = xs.drop (k + 1) := by
  have h1 := congrArg (List.drop 1) h.drop
  rwa [List.drop_drop, List.drop_drop] at h1
theorem DelRel.skip {p : J → Bool} {xs ys : List J} {k m : Nat} {j : J} (h : DelRel p xs ys k m) (hj : ys[k]? = some j) (hp : p j = true) : DelRel p xs ys (k + 1) m := by
  have hx := h.here hj
  obtain ⟨hk, e⟩ := List.getElem?_eq_some_iff.1 hx
  refine ⟨h.len, ?_, h.tail⟩
  rw [List.take_succ_eq_append_getElem hk, List.filter_append, h.take, e]
  simp [hp]
theorem DelRel.keep {p : J → Bool} {xs ys : List J} {k m : Nat} {j : J} (h : DelRel p xs ys k m) (hmk : m < k) (hj : ys[k]? = some j) (hp : p j = false) : DelRel p xs (ys.set m j) (k + 1) (m + 1) := by
  have hx := h.here hj
  obtain ⟨hk, e⟩ := List.getElem?_eq_some_iff.1 hx
  have hl := h.len
  refine ⟨by rw [List.length_set]; exact hl, ?_, ?_⟩
  · rw [List.take_succ_eq_append_getElem hk, List.filter_append, ← h.take, e, List.take_succ_eq_append_getElem (by rw [List.length_set]; omega), List.take_set_of_le (Nat.le_refl _)]
    simp [hp]
  · rw [List.drop_set_of_lt (by omega), h.tail]
theorem run_clear_jobs (w : World) (g o n c : Nat) (hn : 0 < n) (hc : ∀ j, j < n * 11 → (w.cell? ⟨g, o + j, none⟩).isSome = true) (hf : ∀ q, w.frozen? ⟨g, q, none⟩ = false) :
    ∃ Z : List Value, ∀ ty, (Builtin.clear_ #[27] ty #[.slice (some ⟨g, o, none⟩) n c]).run Try.prog w = .ok (.tuple #[]) (w.setCells g o Z) := by
  obtain ⟨i0, hi, hzz⟩ := Option.map_eq_some_iff.1 info40
  simp only [Prod.mk.injEq] at hzz
  obtain ⟨hz0, hz1, hz2⟩ := hzz
  obtain ⟨m, rfl⟩ : ∃ m, n = m + 1 := ⟨n - 1, by omega⟩
  refine ⟨(Builtin.zeroCells (Value.cells (.agg #[(.int .i64 0), (.int .i64 0), (.int .i64 0), (.int .i64 0), (.int .i64 0), (.int .i64 0), (.slice none 0 0), (.slice none 0 0), (.slice none 0 0), (.int .i64 0), (.int .i64 0)])) (m + 1)).toList, fun ty => ?_⟩
  have hz : ∀ w, (zeroValue 40).run Try.prog w = .ok (.agg #[(.int .i64 0), (.int .i64 0), (.int .i64 0), (.int .i64 0), (.int .i64 0), (.int .i64 0), (.slice none 0 0), (.slice none 0 0), (.slice none 0 0), (.int .i64 0), (.int .i64 0)]) w := fun w => by
    simp [zeroValue, typeInfo, hi, hz0]
  have hlen : (Builtin.zeroCells (Value.cells (.agg #[(.int .i64 0), (.int .i64 0), (.int .i64 0), (.int .i64 0), (.int .i64 0), (.int .i64 0), (.slice none 0 0), (.slice none 0 0), (.slice none 0 0), (.int .i64 0), (.int .i64 0)])) (m + 1)).toList.length = (m + 1) * 11 := by
    rw [Array.length_toList, size_zeroCells]; rfl
  have hone : ∀ u ∈ (Builtin.zeroCells (Value.cells (.agg #[(.int .i64 0), (.int .i64 0), (.int .i64 0), (.int .i64 0), (.int .i64 0), (.int .i64 0), (.slice none 0 0), (.slice none 0 0), (.slice none 0 0), (.int .i64 0), (.int .i64 0)])) (m + 1)).toList, u.oneCell' = true := by
    intro u hu
    have h11 : ∀ r, r < 11 → ((Value.cells (.agg #[(.int .i64 0), (.int .i64 0), (.int .i64 0), (.int .i64 0), (.int .i64 0), (.int .i64 0), (.slice none 0 0), (.slice none 0 0), (.slice none 0 0), (.int .i64 0), (.int .i64 0)]))[r]!).oneCell' = true := by decide
    obtain ⟨i, _, rfl⟩ := Array.mem_map.1 (Array.mem_toList_iff.1 hu)
    exact h11 _ (Nat.mod_lt _ (by decide))
  have hst := run_storeCells_cells (P := Try.prog) g o _ 0 w (by rw [hlen]; simpa using hc) (by intro j _; exact hf _) hone
  simp only [Nat.add_zero] at hst
  simp [Builtin.clear_, run_underlying Try.underlying27, hz, hst]
/-- The result is a row of jobs of the call's own. -/
def RetRow (B : Nat) (xs : List J) (w : World) (e : Ending) (w' : World) : Prop := ∃ v, e = .returned v ∧ JRow w' B v xs ∧ Below B w w'
set_option maxHeartbeats 2000000 in
set_option maxRecDepth 100000 in
theorem deleteFunc_calls (g : Nat) (lb : Array Value) (eg : ∀ args w, (callFunc g args).run Try.prog w = .ok (.enter g args) w) (p : J → Bool) (ok : J → Prop) (gb c : Nat) (xs : List J) (w : World)
    (B : Nat) (hB : B ≤ w.heap.size) (hp : PredF g lb p ok B w) (hr : JRow w B (.slice (some ⟨gb, 0, none⟩) xs.length c) xs) (ho : ∀ j ∈ xs, ok j) (hl : xs.length ≤ 1000) :
    Calls Try.prog 48 #[.slice (some ⟨gb, 0, none⟩) xs.length c, .func (.func g) #[] lb] w (RetRow B (xs.filter fun j => !p j) w) := by
  have hi := indexFunc_calls g lb eg p ok (some ⟨gb, 0, none⟩) c xs w B hB hp hr.row ho hl
  have HP := Lib.hid hp; clear hp
  have HR := Lib.hid hr; clear hr
  have HO := Lib.hid ho; clear ho
  rcases idxP_cases p xs with ⟨h0, hn⟩ | ⟨m, h0, hm, hf⟩
  · rw [h0] at hi
    have HI := Lib.hid hi; clear hi
    have HN := Lib.hid hn; clear hn h0
    go_enter Try.func48, Try.ntmps48
    go_wp2_with fail
    refine HI.out.mono ?_
    rintro e w1 ⟨rfl, hb1⟩
    have HB1 := Lib.hid hb1; clear hb1
    go_wp2
    go_ret
    exact ⟨_, rfl, by rw [List.filter_eq_self.2 fun j hj => by rw [HN.out j hj]; rfl]; exact HR.out.kept ⟨HB1.out.os, HB1.out.tape, HB1.out.output, HB1.out.size, fun k hk _ => HB1.out.block k hk⟩ (row := none) (by simp [Value.ownBlock]), HB1.out.mono hB⟩
  · rw [h0] at hi
    have HI := Lib.hid hi; clear hi
    have HF := Lib.hid hf; clear hf h0
    go_enter Try.func48, Try.ntmps48
    go_wp2_with fail
    refine HI.out.mono ?_
    rintro e w1 ⟨rfl, hb1⟩
    have HB1 := Lib.hid hb1; clear hb1
    have em : ((m : Int) == -1) = false := beq_eq_false_iff_ne.2 (by omega)
    have HS := Lib.hid (show JRow w1 B (.slice (some ⟨gb, 0, none⟩) xs.length c) xs from HR.out.kept ⟨HB1.out.os, HB1.out.tape, HB1.out.output, HB1.out.size, fun k hk _ => HB1.out.block k hk⟩ (row := none) (by simp [Value.ownBlock]))
    have HBB := Lib.hid (HB1.out.mono hB)
    clear HR HB1
    go_wp2
    go_loopg [5, 6] xs.length (fun gg v5 v6 wr => ∃ k m : Nat, ∃ ys : List J, m < k ∧ k ≤ xs.length ∧ xs.length - k ≤ gg ∧ v6 = .int .i64 k ∧ v5 = .int .i64 m ∧ Hid (DelRel p xs ys k m) ∧ Hid (JRow wr B (.slice (some ⟨gb, 0, none⟩) xs.length c) ys) ∧ Hid (Below B w wr))
    case atStart => exact ⟨m + 1, m, xs, by omega, by omega, by omega, by go_num, rfl, ⟨rfl, HF.out.2.symm, rfl⟩, HS, HBB⟩
    case round =>
      obtain ⟨k, m, ys, hmk, hk, hg, rfl, rfl, HY, HS, HBB⟩ := hrel
      by_cases hlt : k < xs.length
      · obtain ⟨j, hj⟩ : ∃ j, ys[k]? = some j := ⟨_, List.getElem?_eq_getElem (by have := HY.out.len; omega)⟩
        obtain ⟨h0, h1, h2, h3, h4, h5, h6, h7, h8, h9, h10⟩ := HS.out.cell k j hj
        have hjm : j ∈ xs := List.mem_of_getElem? (HY.out.here hj)
        have hcall := fun W hb => HP.out W j hb (HO.out j hjm)
        unfold J.val at hcall
        have HC := Lib.hid hcall; clear hcall
        have HJ := Lib.hid hj; clear hj
        have HJM := Lib.hid hjm; clear hjm
        cases hq : p j with
        | false =>
          have HQ := Lib.hid hq; clear hq
          go_wp2_with fail
          refine (HC.out _ ?_).mono ?_
          · exact HBB.out.alloc (Nat.le_trans hB HBB.out.size) _
          rintro e w2 ⟨rfl, hb2⟩
          rw [HQ.out]
          have HB2 := Lib.hid hb2; clear hb2
          have HS2 := Lib.hid (HS.out.box HB2.out)
          have HBB2 := Lib.hid (bbox HBB.out hB HB2.out)
          clear h0 h1 h2 h3 h4 h5 h6 h7 h8 h9 h10
          obtain ⟨h0, h1, h2, h3, h4, h5, h6, h7, h8, h9, h10⟩ := box_cells wr w2 j HB2.out
          obtain ⟨j', hj'⟩ : ∃ j', ys[m]? = some j' := ⟨_, List.getElem?_eq_getElem (by have := HY.out.len; omega)⟩
          obtain ⟨t0, t1, t2, t3, t4, t5, t6, t7, t8, t9, t10⟩ := HS2.out.cell m j' hj'
          have HJ' := Lib.hid hj'; clear hj'
          have hfz := fun q => HS2.out.frozenAt q
          go_wp2
          go_roundg (xs.length - (k + 1))
          case measure => omega
          case rel =>
            exact ⟨k + 1, m + 1, ys.set m j, by omega, by omega, by omega, by go_num, by go_num, HY.out.keep hmk HJ.out HQ.out, HS2.out.put m (by have := HY.out.len; omega) HY.out.len.symm j, below_setCells (w := 0) j.cells (m * 11) w w2 HBB2.out HS2.out.base⟩
        | true =>
          have HQ := Lib.hid hq; clear hq
          go_wp2_with fail
          refine (HC.out _ ?_).mono ?_
          · exact HBB.out.alloc (Nat.le_trans hB HBB.out.size) _
          rintro e w2 ⟨rfl, hb2⟩
          rw [HQ.out]
          have HB2 := Lib.hid hb2; clear hb2
          have HS2 := Lib.hid (HS.out.box HB2.out)
          have HBB2 := Lib.hid (bbox HBB.out hB HB2.out)
          clear h0 h1 h2 h3 h4 h5 h6 h7 h8 h9 h10
          go_wp2
          go_roundg (xs.length - (k + 1))
          case measure => omega
          case rel =>
            exact ⟨k + 1, m, ys, by omega, by omega, by omega, by go_num, rfl, HY.out.skip HJ.out HQ.out, HS2, HBB2⟩
      · have hfz := HS.out.frozenAt
        have hcl : xs.length ≤ c := by
          obtain ⟨A, c', e, h⟩ := HS.out.form
          injection e with _ _ e3
          have := HY.out.len
          omega
        obtain ⟨Z, hZ⟩ := run_clear_jobs wr gb (m * 11) (xs.length - m) (c - m) (by omega) (fun q hq => by
          have hx := World.ownsRow.cells HS.out (g := gb) rfl (m * 11 + q)
          rw [List.getElem?_eq_getElem (by rw [flat_length, HY.out.len]; omega)] at hx
          have hx := hx _ rfl
          unfold Addr.add at hx
          split at hx <;> simp_all) hfz
        clear hfz
        have e1 : ¬ (c : Int) < (m : Int) := by omega
        have e2 : ¬ c = m := by omega
        go_wp2
        go_ret
        have hk' : k = xs.length := by omega
        have hy := HY.out.take
        rw [hk', List.take_length] at hy
        rw [← hy]
        have hS := HS.out
        unfold JRow at hS
        rw [HY.out.len] at hS
        exact ⟨_, rfl, JRow.cut (ownsRow_setCells Z (m * 11) _ _ hS) m (by omega) HY.out.len (by rw [setL_take (m * 11) (m * 11) _ _ _ (Nat.le_refl _), flat_take]), below_setCells (w := 0) Z (m * 11) w wr HBB.out HS.out.base⟩
theorem JRow.cases {w : World} {base : Nat} {v : Value} {xs : List J} (h : JRow w base v xs) : (v = .slice none 0 0 ∧ xs = []) ∨ ∃ g c, v = .slice (some ⟨g, 0, none⟩) xs.length c ∧ xs.length ≤ c := by
  rcases h.2 with ⟨rfl, h0⟩ | ⟨g, cap, cur, rfl, _, _, hc, _⟩
  · exact .inl ⟨rfl, List.eq_nil_of_length_eq_zero h0⟩
  · exact .inr ⟨g, cap, rfl, hc⟩
set_option maxHeartbeats 1000000 in
theorem deleteFunc_nil (g : Nat) (lb : Array Value) (eg : ∀ args w, (callFunc g args).run Try.prog w = .ok (.enter g args) w) (p : J → Bool) (ok : J → Prop) (w : World) (B : Nat) (hB : B ≤ w.heap.size) (hp : PredF g lb p ok B w) :
    Calls Try.prog 48 #[.slice none 0 0, .func (.func g) #[] lb] w (RetRow B [] w) := by
  have hi := indexFunc_calls g lb eg p ok none 0 [] w B hB hp (Row.nil _ _ _) (by simp) (by simp)
  have e0 : idxP p [] = -1 := rfl
  rw [e0] at hi
  have HI := Lib.hid hi; clear hi e0 hp
  go_enter Try.func48, Try.ntmps48
  go_wp2_with fail
  refine HI.out.mono ?_
  rintro e w1 ⟨rfl, hb1⟩
  have HB1 := Lib.hid hb1; clear hb1
  go_wp2
  go_ret
  exact ⟨_, rfl, World.ownsRow_nil _ _ _ _, HB1.out.mono hB⟩
theorem deleteFunc_any (g : Nat) (lb : Array Value) (eg : ∀ args w, (callFunc g args).run Try.prog w = .ok (.enter g args) w) (p : J → Bool) (ok : J → Prop) (v : Value) (xs : List J) (w : World)
    (B : Nat) (hB : B ≤ w.heap.size) (hp : PredF g lb p ok B w) (hr : JRow w B v xs) (ho : ∀ j ∈ xs, ok j) (hl : xs.length ≤ 1000) :
    Calls Try.prog 48 #[v, .func (.func g) #[] lb] w (RetRow B (xs.filter fun j => !p j) w) := by
  rcases hr.cases with ⟨rfl, rfl⟩ | ⟨gb, c, rfl, _⟩
  · exact deleteFunc_nil g lb eg p ok w B hB hp
  · exact deleteFunc_calls g lb eg p ok gb c xs w B hB hp hr ho hl
end Go.Proofs.Ytopmdgheacjkcaa
