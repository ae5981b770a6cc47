/- A job that came in, opened. -/
import Derived.Test.YtopmdgheacjkcaaT40
set_option linter.unusedVariables false
set_option linter.unusedSimpArgs false
namespace Go.Proofs.Ytopmdgheacjkcaa
open Go.ChangeShapes Go.WideShapes Go.ChangeAt Go.RowKit Go.Deep
section
variable {H : Type} {enc : TypeId × Value → H} {P : Program} {w : World} {base : Nat} {spare : Nat → Bool} {held : Bool}
theorem trod_sl {t e : TypeId} {n : Nat} {v : Value} {x : DataW H × List MemPlace} (ht : P.underlying t = some (.slice e)) (h : DataW.trod enc P w base spare held n t [v] = some x) : ∃ s : Sl, v = .slice s.a s.n s.c := by
  rcases open_slice ht h with ⟨h0, _⟩ | ⟨a, len, cap, m, n, D, Pl, hcs, _⟩
  · simp only [List.cons.injEq, and_true] at h0
    exact ⟨⟨none, 0, 0⟩, h0⟩
  · simp only [List.cons.injEq, and_true] at hcs
    exact ⟨⟨some a, len, cap⟩, hcs⟩
end
section
variable {H : Type} {enc : TypeId × Value → H} {w : World} {base : Nat}
theorem cells38 : Try.prog.cellsOf 38 = 4 := by kernel_rfl
theorem cells33 : Try.prog.cellsOf 33 = 2 := by kernel_rfl
theorem open_job {r : Reach} {b0 : Nat} {v : Value} {d : DataW H} {p : List MemPlace} (hv : Value.okWide Try.prog w r b0 40 v) (h : DataW.Trod enc Try.prog w base (fun _ => true) true 40 v d p) : ∃ j : J, v = j.val := by
  have hv' : ∃ cs : Array Value, v = .agg cs ∧ cs.size = 11 := by
    have h3 : Try.prog.cellsOf 40 = 11 := by kernel_rfl
    simp only [Value.okWide, Try.underlying40] at hv
    obtain ⟨cs, h1, h2, _⟩ := hv
    exact ⟨cs, h1, h2.trans h3⟩
  obtain ⟨cs, rfl, hsz⟩ := hv'
  obtain ⟨l⟩ := cs
  match l, hsz with
  | [c0, c1, c2, c3, c4, c5, c6, c7, c8, c9, c10], _ =>
    obtain ⟨fuel, hf0⟩ := h
    have hf1 : DataW.trod enc Try.prog w base (fun _ => true) true fuel 40 [c0, c1, c2, c3, c4, c5, c6, c7, c8, c9, c10] = some (d, p) := by simpa [Value.cells] using hf0
    obtain ⟨xs, n, _, _, _, hlen, hf⟩ := DataW.trod_struct Try.underlying40 hf1
    have hx : ∀ i, i < 8 → ∃ y, xs[i]? = some y := fun i hi => ⟨_, List.getElem?_eq_getElem (by rw [hlen]; exact hi)⟩
    have g0 : DataW.trod enc Try.prog w base (fun _ => true) true n 3 (([c0, c1, c2, c3, c4, c5, c6, c7, c8, c9, c10].drop 0).take (Try.prog.cellsOf 3)) = xs[0]? := hf 0 _ rfl
    have g1 : DataW.trod enc Try.prog w base (fun _ => true) true n 3 (([c0, c1, c2, c3, c4, c5, c6, c7, c8, c9, c10].drop 1).take (Try.prog.cellsOf 3)) = xs[1]? := hf 1 _ rfl
    have g2 : DataW.trod enc Try.prog w base (fun _ => true) true n 3 (([c0, c1, c2, c3, c4, c5, c6, c7, c8, c9, c10].drop 2).take (Try.prog.cellsOf 3)) = xs[2]? := hf 2 _ rfl
    have g3 : DataW.trod enc Try.prog w base (fun _ => true) true n 3 (([c0, c1, c2, c3, c4, c5, c6, c7, c8, c9, c10].drop 3).take (Try.prog.cellsOf 3)) = xs[3]? := hf 3 _ rfl
    have g4 : DataW.trod enc Try.prog w base (fun _ => true) true n 3 (([c0, c1, c2, c3, c4, c5, c6, c7, c8, c9, c10].drop 4).take (Try.prog.cellsOf 3)) = xs[4]? := hf 4 _ rfl
    have g5 : DataW.trod enc Try.prog w base (fun _ => true) true n 38 (([c0, c1, c2, c3, c4, c5, c6, c7, c8, c9, c10].drop 5).take (Try.prog.cellsOf 38)) = xs[5]? := hf 5 _ rfl
    have g6 : DataW.trod enc Try.prog w base (fun _ => true) true n 3 (([c0, c1, c2, c3, c4, c5, c6, c7, c8, c9, c10].drop 9).take (Try.prog.cellsOf 3)) = xs[6]? := hf 6 _ rfl
    have g7 : DataW.trod enc Try.prog w base (fun _ => true) true n 3 (([c0, c1, c2, c3, c4, c5, c6, c7, c8, c9, c10].drop 10).take (Try.prog.cellsOf 3)) = xs[7]? := hf 7 _ rfl
    rw [cells3] at g0 g1 g2 g3 g4 g6 g7
    rw [cells38] at g5
    obtain ⟨y0, e0⟩ := hx 0 (by omega)
    obtain ⟨y1, e1⟩ := hx 1 (by omega)
    obtain ⟨y2, e2⟩ := hx 2 (by omega)
    obtain ⟨y3, e3⟩ := hx 3 (by omega)
    obtain ⟨y4, e4⟩ := hx 4 (by omega)
    obtain ⟨y5, e5⟩ := hx 5 (by omega)
    obtain ⟨y6, e6⟩ := hx 6 (by omega)
    obtain ⟨y7, e7⟩ := hx 7 (by omega)
    rw [e0] at g0; rw [e1] at g1; rw [e2] at g2; rw [e3] at g3; rw [e4] at g4; rw [e5] at g5; rw [e6] at g6; rw [e7] at g7
    obtain ⟨n0, u0, _, _⟩ := DataW.trod_int Try.underlying3 g0
    obtain ⟨n1, u1, _, _⟩ := DataW.trod_int Try.underlying3 g1
    obtain ⟨n2, u2, _, _⟩ := DataW.trod_int Try.underlying3 g2
    obtain ⟨n3, u3, _, _⟩ := DataW.trod_int Try.underlying3 g3
    obtain ⟨n4, u4, _, _⟩ := DataW.trod_int Try.underlying3 g4
    obtain ⟨n6, u6, _, _⟩ := DataW.trod_int Try.underlying3 g6
    obtain ⟨n7, u7, _, _⟩ := DataW.trod_int Try.underlying3 g7
    obtain ⟨zs, m, _, _, _, zlen, zf⟩ := DataW.trod_struct Try.underlying38 g5
    have zx : ∀ i, i < 3 → ∃ y, zs[i]? = some y := fun i hi => ⟨_, List.getElem?_eq_getElem (by rw [zlen]; exact hi)⟩
    have k0 : DataW.trod enc Try.prog w base (fun _ => true) true m 33 (([c5, c6, c7, c8].drop 0).take (Try.prog.cellsOf 33)) = zs[0]? := zf 0 _ rfl
    have k1 : DataW.trod enc Try.prog w base (fun _ => true) true m 35 (([c5, c6, c7, c8].drop 2).take (Try.prog.cellsOf 35)) = zs[1]? := zf 1 _ rfl
    have k2 : DataW.trod enc Try.prog w base (fun _ => true) true m 36 (([c5, c6, c7, c8].drop 3).take (Try.prog.cellsOf 36)) = zs[2]? := zf 2 _ rfl
    have cells35 : Try.prog.cellsOf 35 = 1 := by kernel_rfl
    have cells36 : Try.prog.cellsOf 36 = 1 := by kernel_rfl
    rw [cells33] at k0
    rw [cells35] at k1
    rw [cells36] at k2
    obtain ⟨z0, f0⟩ := zx 0 (by omega)
    obtain ⟨z1, f1⟩ := zx 1 (by omega)
    obtain ⟨z2, f2⟩ := zx 2 (by omega)
    rw [f0] at k0; rw [f1] at k1; rw [f2] at k2
    obtain ⟨s1, v1⟩ := trod_sl Try.underlying35 k1
    obtain ⟨s2, v2⟩ := trod_sl Try.underlying36 k2
    obtain ⟨ls, q, _, _, _, llen, lf⟩ := DataW.trod_struct Try.underlying33 k0
    have lx : ∀ i, i < 2 → ∃ y, ls[i]? = some y := fun i hi => ⟨_, List.getElem?_eq_getElem (by rw [llen]; exact hi)⟩
    have o0 : DataW.trod enc Try.prog w base (fun _ => true) true q 3 (([c5, c6].drop 0).take (Try.prog.cellsOf 3)) = ls[0]? := lf 0 _ rfl
    have o1 : DataW.trod enc Try.prog w base (fun _ => true) true q 31 (([c5, c6].drop 1).take (Try.prog.cellsOf 31)) = ls[1]? := lf 1 _ rfl
    have cells31 : Try.prog.cellsOf 31 = 1 := by kernel_rfl
    rw [cells3] at o0
    rw [cells31] at o1
    obtain ⟨p0, h0⟩ := lx 0 (by omega)
    obtain ⟨p1, h1⟩ := lx 1 (by omega)
    rw [h0] at o0; rw [h1] at o1
    obtain ⟨n5, w0, _, _⟩ := DataW.trod_int Try.underlying3 o0
    obtain ⟨s0, w1⟩ := trod_sl Try.underlying31 o1
    cases u0; cases u1; cases u2; cases u3; cases u4; cases u6; cases u7; cases w0
    subst v1; subst v2; subst w1
    exact ⟨⟨n0, n1, n2, n3, n4, ⟨n5, s0, s1, s2⟩, n6, n7⟩, rfl⟩
end
end Go.Proofs.Ytopmdgheacjkcaa
