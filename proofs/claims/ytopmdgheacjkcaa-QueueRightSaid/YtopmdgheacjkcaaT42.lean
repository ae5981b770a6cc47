/- The laws' third arguments, opened: a description, three numbers, two bytes, a job; the program's two facts. -/
import Derived.Test.YtopmdgheacjkcaaT40
set_option linter.unusedVariables false
set_option linter.unusedSimpArgs false
namespace Go.Proofs.Ytopmdgheacjkcaa
open Go.ChangeShapes Go.WideShapes Go.ChangeAt Go.RowKit Go.Deep Go.Joins
theorem Try.own : ownKnob Try.prog.godebug = none := by kernel_rfl
theorem Try.laidOut : laidOutB Try.prog = true := by kernel_rfl
theorem bytes59 : Try.prog.bytesOf 59 = 4 := by kernel_rfl
section
variable {H : Type} {enc : TypeId × Value → H} {w : World} {base : Nat}
theorem trod_two {P : Program} {spare : Nat → Bool} {held : Bool} {t e : TypeId} {fuel : Nat} {c0 c1 : Value} {x : DataW H × List MemPlace} (ht : P.underlying t = some (.array 2 e)) (hce : P.cellsOf e = 1)
    (h : DataW.trod enc P w base spare held fuel t [c0, c1] = some x) : ∃ y0 y1 n, DataW.trod enc P w base spare held n e [c0] = some y0 ∧ DataW.trod enc P w base spare held n e [c1] = some y1 := by
  obtain ⟨xs, m, _, _, _, hlen, hg⟩ := DataW.trod_array ht h
  match xs, hlen with
  | [y0, y1], _ =>
    have g0 := hg 0 (by omega)
    have g1 := hg 1 (by omega)
    rw [hce] at g0 g1
    exact ⟨y0, y1, m, by simpa using g0, by simpa using g1⟩
theorem open_raw {r : Reach} {b0 : Nat} {v : Value} {d : DataW H} {p : List MemPlace} (hv : Value.okWide Try.prog w r b0 59 v) (h : DataW.Trod enc Try.prog w base (fun _ => true) true 59 v d p) : ∃ x : Raw, v = x.val ∧ x.Ok := by
  obtain ⟨v0, v1, v2, v3, y0, y1, y2, y3, n, rfl, _, _, k0, k1, k2, k3⟩ := open_agg4 Try.underlying59 (by kernel_rfl) cells59 hv h
  obtain ⟨n0, e0, _, w0⟩ := DataW.trod_int Try.underlying5 k0
  obtain ⟨n1, e1, _, w1⟩ := DataW.trod_int Try.underlying5 k1
  obtain ⟨n2, e2, _, w2⟩ := DataW.trod_int Try.underlying5 k2
  obtain ⟨n3, e3, _, w3⟩ := DataW.trod_int Try.underlying5 k3
  cases e0; cases e1; cases e2; cases e3
  have b0 := bounds_u8 w0
  have b1 := bounds_u8 w1
  have b2 := bounds_u8 w2
  have b3 := bounds_u8 w3
  exact ⟨⟨n0, n1, n2, n3⟩, rfl, ⟨b0.1, b0.2, b1.1, b1.2, b2.1, b2.2, b3.1, b3.2⟩⟩
theorem open_ints3 {r : Reach} {b0 : Nat} {v : Value} {d : DataW H} {p : List MemPlace} (hv : Value.okWide Try.prog w r b0 24 v) (h : DataW.Trod enc Try.prog w base (fun _ => true) true 24 v d p) :
    ∃ a b c : Int, v = .agg #[.int .i64 a, .int .i64 b, .int .i64 c] ∧ ((Lit.int .i64 a).wf = true ∧ (Lit.int .i64 b).wf = true ∧ (Lit.int .i64 c).wf = true) := by
  have hv' : ∃ cs : Array Value, v = .agg cs ∧ cs.size = 3 := by
    have h3 : Try.prog.cellsOf 24 = 3 := by kernel_rfl
    simp only [Value.okWide, Try.underlying24] at hv
    obtain ⟨cs, h1, h2, _⟩ := hv
    exact ⟨cs, h1, h2.trans h3⟩
  obtain ⟨cs, rfl, hsz⟩ := hv'
  obtain ⟨l⟩ := cs
  match l, hsz with
  | [c0, c1, c2], _ =>
    obtain ⟨fuel, hf⟩ := h
    obtain ⟨y0, y1, y2, n, _, h0, h1, h2⟩ := trod_array3 Try.underlying24 cells3 (by simpa [Value.cells] using hf)
    obtain ⟨a, e0, _, wa⟩ := DataW.trod_int Try.underlying3 h0
    obtain ⟨b, e1, _, wb⟩ := DataW.trod_int Try.underlying3 h1
    obtain ⟨c, e2, _, wc⟩ := DataW.trod_int Try.underlying3 h2
    cases e0; cases e1; cases e2
    exact ⟨a, b, c, rfl, wa, wb, wc⟩
theorem open_bytes2 {r : Reach} {b0 : Nat} {v : Value} {d : DataW H} {p : List MemPlace} (hv : Value.okWide Try.prog w r b0 53 v) (h : DataW.Trod enc Try.prog w base (fun _ => true) true 53 v d p) :
    ∃ a b : Int, v = .agg #[.int .u8 a, .int .u8 b] ∧ (0 ≤ a ∧ a ≤ 255) ∧ (0 ≤ b ∧ b ≤ 255) := by
  have hv' : ∃ cs : Array Value, v = .agg cs ∧ cs.size = 2 := by
    have h3 : Try.prog.cellsOf 53 = 2 := by kernel_rfl
    simp only [Value.okWide, Try.underlying53] at hv
    obtain ⟨cs, h1, h2, _⟩ := hv
    exact ⟨cs, h1, h2.trans h3⟩
  obtain ⟨cs, rfl, hsz⟩ := hv'
  obtain ⟨l⟩ := cs
  match l, hsz with
  | [c0, c1], _ =>
    obtain ⟨fuel, hf⟩ := h
    obtain ⟨y0, y1, n, g0, g1⟩ := trod_two Try.underlying53 cells5 (by simpa [Value.cells] using hf)
    obtain ⟨a, e0, _, wa⟩ := DataW.trod_int Try.underlying5 g0
    obtain ⟨b, e1, _, wb⟩ := DataW.trod_int Try.underlying5 g1
    cases e0; cases e1
    exact ⟨a, b, rfl, bounds_u8 wa, bounds_u8 wb⟩
end
end Go.Proofs.Ytopmdgheacjkcaa
