/- Words for queues in memory: a queue's value, its rows of cells, and what keeps them; no condition. -/
import Derived.Test.YtopmdgheacjkcaaProg
import Derived.Below
import Derived.Deep.Draws
import Derived.Deep.AppendLies
import Derived.OwnWalk
import Derived.Laws.OwnMore
import Derived.WalkKit
import Derived.KernelRfl
import Derived.RowKit3
import Derived.Deep.LoopGhost
import Derived.Deep.QuietTactic
import Derived.BigQuiet
import Derived.WideLaws
import Derived.Deep.DeepCutAuto
import Derived.Deep.RegionHeld3
import Derived.Laws.Rows
import Derived.Lib.Hide
namespace Go.Proofs.Ytopmdgheacjkcaa
open Go.RowKit

/-- A slice's header. -/
structure Sl where
  a : Option Addr
  n : Nat
  c : Nat
def Sl.v (s : Sl) : Value := .slice s.a s.n s.c

/-- An image: a number, and three lists that are only handed on. -/
structure Img where
  g : Int
  ar : Sl
  gl : Sl
  gr : Sl
structure J where
  id : Int
  tn : Int
  pr : Int
  kn : Int
  bd : Int
  im : Img
  st : Int
  av : Int
def Img.cells (m : Img) : List Value := [.int .i64 m.g, m.ar.v, m.gl.v, m.gr.v]
def Img.val (m : Img) : Value := .agg #[.int .i64 m.g, .slice m.ar.a m.ar.n m.ar.c, .slice m.gl.a m.gl.n m.gl.c, .slice m.gr.a m.gr.n m.gr.c]
def J.cells (j : J) : List Value :=
  [.int .i64 j.id, .int .i64 j.tn, .int .i64 j.pr, .int .i64 j.kn, .int .i64 j.bd, .int .i64 j.im.g, .slice j.im.ar.a j.im.ar.n j.im.ar.c, .slice j.im.gl.a j.im.gl.n j.im.gl.c, .slice j.im.gr.a j.im.gr.n j.im.gr.c, .int .i64 j.st, .int .i64 j.av]
def J.val (j : J) : Value :=
  .agg #[.int .i64 j.id, .int .i64 j.tn, .int .i64 j.pr, .int .i64 j.kn, .int .i64 j.bd, .int .i64 j.im.g, .slice j.im.ar.a j.im.ar.n j.im.ar.c, .slice j.im.gl.a j.im.gl.n j.im.gl.c, .slice j.im.gr.a j.im.gr.n j.im.gr.c, .int .i64 j.st, .int .i64 j.av]
theorem J.cells_length (j : J) : j.cells.length = 11 := rfl
theorem J.val_eq (j : J) : j.val = .agg j.cells.toArray := rfl
structure Qu where
  qs : List Int
  js : List J
/-- A queue's two slices. -/
structure Qv where
  qa : Option Addr
  qc : Nat
  ja : Option Addr
  jc : Nat
def Qv.val (v : Qv) (q : Qu) : Value := .agg #[.slice v.qa q.qs.length v.qc, .slice v.ja q.js.length v.jc]

/-- The element type of rows of k cells: jobs, or numbers. -/
def tyOf (k : Nat) : TypeId := if k = 11 then 40 else 3
/-- A slice that reads as a list of rows of k cells. -/
def Row (w : World) (k : Nat) (A : Option Addr) (xs : List (List Value)) : Prop :=
  0 < xs.length → ∃ ad, A = some ad ∧ (∃ cs fr, w.heap[ad.block]? = some (.cells cs (tyOf k) fr)) ∧ ∀ i x, xs[i]? = some x → ∀ j v, x[j]? = some v → w.cell? (ad.add (i * k + j)) = some v
theorem block_add (a : Addr) (n : Nat) : (a.add n).block = a.block := by unfold Addr.add; split <;> rfl
theorem add_add (a : Addr) (i j : Nat) : (a.add i).add j = a.add (i + j) := by
  unfold Addr.add
  by_cases hi : i = 0 <;> by_cases hj : j = 0 <;> simp [hi, hj, Nat.add_assoc]
theorem add_fld (a : Addr) (i j : Nat) (hj : 0 < j) : a.add (i + j) = ⟨(a.add i).block, (a.add i).off + j, none⟩ := by
  rw [← add_add]
  unfold Addr.add
  simp [Nat.ne_of_gt hj]
theorem Row.below {w w' : World} {k : Nat} {A : Option Addr} {xs : List (List Value)} (h : Row w k A xs) (hb : Below w.heap.size w w') : Row w' k A xs := fun hn => by
  obtain ⟨ad, e, ⟨cs, fr, hh⟩, hc⟩ := h hn
  have hl : ad.block < w.heap.size := (Array.getElem?_eq_some_iff.1 hh).1
  exact ⟨ad, e, ⟨cs, fr, (hb.block _ hl).trans hh⟩, fun i x hx j v hv => (hb.cell (p := ad.add (i * k + j)) (by rw [block_add]; exact hl)).trans (hc i x hx j v hv)⟩
theorem Row.nil (w : World) (k : Nat) (A : Option Addr) : Row w k A [] := fun h => absurd h (by simp)

/-- A queue in memory. -/
structure QIn (w : World) (v : Qv) (q : Qu) : Prop where
  quota : Row w 1 v.qa (q.qs.map fun n => [Value.int .i64 n])
  jobs : Row w 11 v.ja (q.js.map J.cells)
  qc : q.qs.length ≤ v.qc
  jc : q.js.length ≤ v.jc
theorem QIn.below {w w' : World} {v : Qv} {q : Qu} (h : QIn w v q) (hb : Below w.heap.size w w') : QIn w' v q := ⟨h.quota.below hb, h.jobs.below hb, h.qc, h.jc⟩
/-- What a call that only makes memory leaves of a cell, and of the frame. -/
theorem kc_ {w w1 : World} (h : Below w.heap.size w w1) {a : Addr} {v : Value} (hc : w.cell? a = some v) : w1.cell? a = some v := (h.cell (World.block_lt_of_cell? w a hc)).trans hc
theorem kb_ {w W W1 : World} (h : Hid (Below w.heap.size w W)) (hb : Below W.heap.size W W1) : Hid (Below w.heap.size w W1) :=
  h.trans ⟨hb.os, hb.tape, hb.output, hb.size, fun i hi => hb.block i (Nat.lt_of_lt_of_le hi h.size)⟩
theorem b0_ (w : World) : Hid (Below w.heap.size w w) := Below.refl _ _
theorem ba_ {w W : World} (h : Hid (Below w.heap.size w W)) (o : Obj) : Hid (Below w.heap.size w (W.alloc o)) := h.alloc h.size o
theorem bd_ {w W : World} (h : Hid (Below w.heap.size w W)) : Hid (Below w.heap.size w W.drew) := h.drew
theorem bs_ {w W : World} (h : Hid (Below w.heap.size w W)) {p : Addr} (hp : w.heap.size ≤ p.block) (u : Value) : Hid (Below w.heap.size w (W.setCell p u)) := h.setCell hp u
def rj : J := ⟨0, 0, 0, 0, 0, ⟨0, ⟨none, 0, 0⟩, ⟨none, 0, 0⟩, ⟨none, 0, 0⟩⟩, 0, 0⟩
/-- The cells of one job. -/
theorem QIn.job {w : World} {v : Qv} {q : Qu} (h : QIn w v q) (i : Nat) (hi : i < q.js.length) (j : J) (hj : q.js[i]? = some j) : ∃ ad, v.ja = some ad ∧
    w.cell? (ad.add (i * 11)) = some (.int .i64 j.id) ∧
    w.cell? ⟨(ad.add (i * 11)).block, (ad.add (i * 11)).off + 1, none⟩ = some (.int .i64 j.tn) ∧
    w.cell? ⟨(ad.add (i * 11)).block, (ad.add (i * 11)).off + 2, none⟩ = some (.int .i64 j.pr) ∧
    w.cell? ⟨(ad.add (i * 11)).block, (ad.add (i * 11)).off + 3, none⟩ = some (.int .i64 j.kn) ∧
    w.cell? ⟨(ad.add (i * 11)).block, (ad.add (i * 11)).off + 4, none⟩ = some (.int .i64 j.bd) ∧
    w.cell? ⟨(ad.add (i * 11)).block, (ad.add (i * 11)).off + 5, none⟩ = some (.int .i64 j.im.g) ∧
    w.cell? ⟨(ad.add (i * 11)).block, (ad.add (i * 11)).off + 6, none⟩ = some (.slice j.im.ar.a j.im.ar.n j.im.ar.c) ∧
    w.cell? ⟨(ad.add (i * 11)).block, (ad.add (i * 11)).off + 7, none⟩ = some (.slice j.im.gl.a j.im.gl.n j.im.gl.c) ∧
    w.cell? ⟨(ad.add (i * 11)).block, (ad.add (i * 11)).off + 8, none⟩ = some (.slice j.im.gr.a j.im.gr.n j.im.gr.c) ∧
    w.cell? ⟨(ad.add (i * 11)).block, (ad.add (i * 11)).off + 9, none⟩ = some (.int .i64 j.st) ∧
    w.cell? ⟨(ad.add (i * 11)).block, (ad.add (i * 11)).off + 10, none⟩ = some (.int .i64 j.av) := by
  obtain ⟨ad, e, _, hc⟩ := h.jobs (by simp; omega)
  have hc := hc i j.cells (by simp [hj])
  refine ⟨ad, e, hc 0 _ rfl, ?_, ?_, ?_, ?_, ?_, ?_, ?_, ?_, ?_, ?_⟩
  all_goals rw [← add_fld _ _ _ (by omega)]
  · exact hc 1 _ rfl
  · exact hc 2 _ rfl
  · exact hc 3 _ rfl
  · exact hc 4 _ rfl
  · exact hc 5 _ rfl
  · exact hc 6 _ rfl
  · exact hc 7 _ rfl
  · exact hc 8 _ rfl
  · exact hc 9 _ rfl
  · exact hc 10 _ rfl
end Go.Proofs.Ytopmdgheacjkcaa
