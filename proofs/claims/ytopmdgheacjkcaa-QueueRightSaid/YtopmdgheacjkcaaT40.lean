/- The laws' arguments, opened: quotas, descriptions, numbers; and the end of such a law. -/
import Derived.Test.YtopmdgheacjkcaaT32
import Derived.Test.YtopmdgheacjkcaaRows
import Derived.ProofKit
import Derived.OpenShut
import Derived.SizedLaws
import Derived.Deep.Slices
import Derived.Deep.Fields
import Derived.ChangeSame
import Derived.Laws.IdiomArrays
import Derived.Lib.SmallJoins
set_option linter.unusedVariables false
set_option linter.unusedSimpArgs false
namespace Go.Proofs.Ytopmdgheacjkcaa
open Go.ChangeShapes Go.WideShapes Go.ChangeAt Go.RowKit Go.Deep
section
variable {H : Type} {enc : TypeId × Value → H} {P : Program} {w : World} {base : Nat} {spare : Nat → Bool} {held : Bool}
theorem open_slice_fields {t e : TypeId} {fs : Array Field} {fuel : Nat} {cs : List Value} {x : DataW H × List MemPlace} (ht : P.underlying t = some (.slice e)) (he : P.underlying e = some (.struct fs))
    (hone : oneCellFields P fs = true) (hC : P.cellsOf e = fs.size) (h : DataW.trod enc P w base spare held fuel t cs = some x) :
    (cs = [.slice none 0 0] ∧ x = (.nil, [])) ∨
    ∃ (a : Addr) (len cap m : Nat) (D : Nat → DataW H) (Pl : Nat → List MemPlace), cs = [.slice (some a) len cap] ∧ base ≤ a.block ∧ len ≤ cap ∧ cap ≤ maxLen ∧ m = (if spare a.block then cap else len) ∧
      x = (.slice ((List.range len).map D) ((List.range (m - len)).map fun j => D (len + j)), MemPlace.row a (m * fs.size) ++ (List.range m).flatMap Pl) ∧
      ∀ i, i < m → ∃ (ys : List (DataW H × List MemPlace)) (n : Nat), D i = .agg (ys.map (·.1)) ∧ Pl i = ys.flatMap (·.2) ∧ ys.length = fs.size ∧
        ∀ (j : Nat) (f : Field), fs[j]? = some f → ∃ (v : Value) (y : DataW H × List MemPlace), w.cell? (a.add (i * fs.size + j)) = some v ∧ ys[j]? = some y ∧ DataW.trod enc P w base spare held n f.type [v] = some y := by
  rcases open_slice ht h with h0 | ⟨a, len, cap, m, n, D, Pl, hcs, hb, hl, hm, hmm, hx, hi⟩
  · exact .inl h0
  · refine .inr ⟨a, len, cap, m, D, Pl, hcs, hb, hl, hm, hmm, by rw [hC] at hx; exact hx, fun i him => ?_⟩
    obtain ⟨cs', hc, ht'⟩ := hi i him
    rw [hC] at hc
    obtain ⟨ys, n', hn', hy, hlen, hyl, hf⟩ := DataW.trod_struct he ht'
    obtain ⟨_, hcl, hat⟩ := World.cells?_some hc
    simp only [Prod.mk.injEq] at hy
    refine ⟨ys, n', hy.1, hy.2, hyl, fun j f hj => ?_⟩
    obtain ⟨ho, hk⟩ := hone_of hone j f hj
    have hjl : j < fs.size := (Array.getElem?_eq_some_iff.1 hj).1
    have hcell := hat j hjl
    have hv : cs'[j]? = some (cs'[j]'(by omega)) := List.getElem?_eq_getElem (by omega)
    have h1 := hf j f hj
    rw [ho, hk] at h1
    have hone' : (cs'.drop j).take 1 = [cs'[j]'(by omega)] := by
      rw [List.drop_eq_getElem_cons (by omega)]
      rfl
    rw [hone'] at h1
    have hys : ys[j]? = some (ys[j]'(by omega)) := List.getElem?_eq_getElem (by omega)
    refine ⟨_, _, ?_, hys, h1.trans hys⟩
    rw [← Go.Deep.add_add, hcell, hv]
end
section
variable {H : Type} {enc : TypeId × Value → H} {P : Program}
theorem post_of_below {f : Func} {s : ChangeSpec} {apart fresh handsOn again : Bool} {W W' : World} {args : Array Value} {v : Value} {ds gs : List (DataW H)} {before pa pv : List MemPlace}
    (hW : DataW.Whole enc P f.params.toList s.vars apart W args.toList ds gs before)
    (hres : ∀ (b : Nat) (sp : Nat → Bool) (hd : Bool), DataW.TrodAll enc P W' b sp hd f.resultTypes.toList (v.resultList f.resultTypes.size) (s.fn H (ds ++ gs)).results [])
    (hargs : ∀ sp : Nat → Bool, (∀ p ∈ before, sp p.block = true) → DataW.TrodAll enc P W' 0 sp true f.params.toList args.toList (s.fn H (ds ++ gs)).args pa)
    (hvars : ∀ sp : Nat → Bool, (∀ p ∈ before, sp p.block = true) → DataW.TrodVars enc P W' sp s.vars (s.fn H (ds ++ gs)).vars pv)
    (hps : before = pa ++ pv) (hb : Below W.heap.size W W')
    (hok : ∀ (j : Nat) (t : TypeId) (r : Value), f.resultTypes[j]? = some t → (v.resultList f.resultTypes.size)[j]? = some r → Value.okWide P W' .any 0 t r) :
    s.post enc P f apart fresh handsOn again W args v W' := by
  have hlt : ∀ p ∈ before, p.block < W.heap.size := fun p hp => hW.lt p hp
  have hold : ∀ p ∈ before, (fun b => decide (b < W.heap.size)) p.block = true := fun p hp => by simpa using hlt p hp
  refine ⟨ds, gs, before, [], pa, pv, hW, hres _ _ _, hargs _ hold, hvars _ hold, World.keptBut_mono (fun p hp => ⟨hp, ?_⟩) (hb.frame (· ∈ before)), fun _ => ?_⟩
  · rw [hps, List.mem_append] at hp
    exact Or.inr hp
  · obtain ⟨_, _, _, _, _, hz, hn⟩ := hW
    refine ⟨hok, _, _, ([] ++ pa) ++ pv, ⟨[] ++ pa, pv, trodAll_append (hargs _ (fun _ _ => rfl)) (hres _ _ _), hvars _ (fun _ _ => rfl), rfl, ?_, ?_⟩, ?_⟩
    · intro b off hp
      have hin : MemPlace.cell b off ∈ before := by rw [hps]; simpa using hp
      rw [hb.frozen (hlt _ hin)]
      exact hz b off hin
    · intro ha
      have := hn ha
      rw [hps] at this
      simpa using this
    · intro p hp _
      rw [hps]
      simpa using hp
end
section
variable {H : Type} {enc : TypeId × Value → H} {w : World} {base : Nat}
theorem cells59 : Try.prog.cellsOf 59 = 4 := by kernel_rfl
theorem cells5 : Try.prog.cellsOf 5 = 1 := by kernel_rfl
theorem cells3 : Try.prog.cellsOf 3 = 1 := by kernel_rfl
/-- An array of three bytes. -/
theorem open_quota {r : Reach} {b0 : Nat} {v : Value} {d : DataW H} {p : List MemPlace} (hv : Value.okWide Try.prog w r b0 22 v) (h : DataW.Trod enc Try.prog w base (fun _ => true) true 22 v d p) :
    ∃ a b c : Int, v = .agg #[.int .u8 a, .int .u8 b, .int .u8 c] ∧ (0 ≤ a ∧ a ≤ 255) ∧ (0 ≤ b ∧ b ≤ 255) ∧ (0 ≤ c ∧ c ≤ 255) := by
  have hv' : ∃ cs : Array Value, v = .agg cs ∧ cs.size = 3 := by
    have h3 : Try.prog.cellsOf 22 = 3 := by kernel_rfl
    simp only [Value.okWide, Try.underlying22] at hv
    obtain ⟨cs, h1, h2, _⟩ := hv
    exact ⟨cs, h1, h2.trans h3⟩
  obtain ⟨cs, rfl, hsz⟩ := hv'
  obtain ⟨l⟩ := cs
  match l, hsz with
  | [c0, c1, c2], _ =>
    obtain ⟨fuel, hf⟩ := h
    obtain ⟨y0, y1, y2, n, _, h0, h1, h2⟩ := trod_array3 Try.underlying22 cells5 (by simpa [Value.cells] using hf)
    obtain ⟨a, e0, _, wa⟩ := DataW.trod_int Try.underlying5 h0
    obtain ⟨b, e1, _, wb⟩ := DataW.trod_int Try.underlying5 h1
    obtain ⟨c, e2, _, wc⟩ := DataW.trod_int Try.underlying5 h2
    cases e0; cases e1; cases e2
    exact ⟨a, b, c, rfl, bounds_u8 wa, bounds_u8 wb, bounds_u8 wc⟩
/-- A slice of descriptions. -/
theorem open_raws {A : Option Addr} {n c : Nat} {d : DataW H} {p : List MemPlace} (h : DataW.Trod enc Try.prog w 0 (fun _ => true) true 23 (.slice A n c) d p) :
    (d = .nil ∧ n = 0 ∨ ∃ el sp, d = .slice el sp ∧ el.length = n) ∧ ∃ l : List Raw, l.length = n ∧ (∀ x ∈ l, x.Ok) ∧ RRow w A l := by
  obtain ⟨fuel, hf⟩ := h
  rcases open_slice_fields (P := Try.prog) Try.underlying23 Try.underlying59 (by kernel_rfl) cells59 (by simpa [Value.cells] using hf) with ⟨hcs, hx⟩ | ⟨a, len, cap, m, D, Pl, hcs, _, hl, hm, hmm, hx, hi⟩
  · simp only [List.cons.injEq, Value.slice.injEq, and_true] at hcs
    obtain ⟨rfl, rfl, rfl⟩ := hcs
    simp only [Prod.mk.injEq] at hx
    exact ⟨.inl ⟨hx.1, rfl⟩, [], rfl, fun x hx => by simp at hx, RRow.nil _ _⟩
  · simp only [List.cons.injEq, Value.slice.injEq, and_true] at hcs
    obtain ⟨rfl, rfl, rfl⟩ := hcs
    simp only [Prod.mk.injEq] at hx
    refine ⟨.inr ⟨_, _, hx.1, by simp⟩, ?_⟩
    have hnm : n ≤ m := by rw [hmm]; simp; omega
    have key : ∀ i, ∃ x : Raw, i < n → x.Ok ∧ w.cell? (a.add (i * 4)) = some (.int .u8 x.k) ∧ w.cell? (a.add (i * 4 + 1)) = some (.int .u8 x.a) ∧ w.cell? (a.add (i * 4 + 2)) = some (.int .u8 x.b) ∧ w.cell? (a.add (i * 4 + 3)) = some (.int .u8 x.c) := by
      intro i
      by_cases hin : i < n
      · obtain ⟨ys, q, _, _, _, hg⟩ := hi i (by omega)
        obtain ⟨v0, y0, g0, _, k0⟩ := hg 0 _ rfl
        obtain ⟨v1, y1, g1, _, k1⟩ := hg 1 _ rfl
        obtain ⟨v2, y2, g2, _, k2⟩ := hg 2 _ rfl
        obtain ⟨v3, y3, g3, _, k3⟩ := hg 3 _ rfl
        obtain ⟨n0, e0, _, w0⟩ := DataW.trod_int Try.underlying5 k0
        obtain ⟨n1, e1, _, w1⟩ := DataW.trod_int Try.underlying5 k1
        obtain ⟨n2, e2, _, w2⟩ := DataW.trod_int Try.underlying5 k2
        obtain ⟨n3, e3, _, w3⟩ := DataW.trod_int Try.underlying5 k3
        cases e0; cases e1; cases e2; cases e3
        have b0 := bounds_u8 w0
        have b1 := bounds_u8 w1
        have b2 := bounds_u8 w2
        have b3 := bounds_u8 w3
        exact ⟨⟨n0, n1, n2, n3⟩, fun _ => ⟨⟨b0.1, b0.2, b1.1, b1.2, b2.1, b2.2, b3.1, b3.2⟩, g0, g1, g2, g3⟩⟩
      · exact ⟨⟨0, 0, 0, 0⟩, fun h => absurd h hin⟩
    obtain ⟨f, hfx⟩ := Classical.axiomOfChoice key
    refine ⟨(List.range n).map f, by simp, fun x hx => ?_, fun hn => ?_⟩
    · obtain ⟨i, hi', rfl⟩ := List.mem_map.1 hx
      exact (hfx i (List.mem_range.1 hi')).1
    · have hn' : 0 < n := by simpa using hn
      refine ⟨a, rfl, ?_, fun i x hx => ?_⟩
      · have := World.block_lt_of_cell? w _ (hfx 0 hn').2.1
        rwa [block_add] at this
      · have hin : i < n := by
          have := (List.getElem?_eq_some_iff.1 hx).1
          simpa using this
        obtain ⟨_, g0, g1, g2, g3⟩ := hfx i hin
        have ex : f i = x := by simpa [hin] using hx
        subst ex
        refine ⟨g0, ?_, ?_, ?_⟩
        all_goals rw [← add_fld _ _ _ (by omega)]; assumption
end
end Go.Proofs.Ytopmdgheacjkcaa
