/- Regions that draw their order, and whose operations read, or call what makes memory only: walked once, in the text's order. -/
import Derived.Test.YtopmdgheacjkcaaRep
import Derived.Deep.QuietTactic
namespace Go.Proofs.Ytopmdgheacjkcaa
open Go.RowKit
/-- What stood at the region's beginning stands. -/
def BelC (w w' : World) : Prop := Below w.heap.size w w'
theorem BelC.keep {w w' : World} (h : BelC w w') (a : Addr) (hs : (w.cell? a).isSome = true) : w'.cell? a = w.cell? a := by
  obtain ⟨u, hu⟩ := Option.isSome_iff_exists.1 hs
  exact Below.cell h (World.block_lt_of_cell? w a hu)
theorem BelC.then {w w' w'' : World} (h : BelC w w') (hb : Below w'.heap.size w' w'') : BelC w w'' := kb_ (Lib.hid (show Below w.heap.size w w' from h)) hb
theorem region_below {P : Program} {id : Nat} {Q : Exit → Act → World → Prop} {a : Act} {w : World} {l : List Oper} (hm : P.follows .mixedOrders = true) (hB : Region.lexB .any l.toArray = true)
    (h : wpQuiet P l.toArray (BelC w) (fun a' => ∀ w', BelC w w' → Q .normal a' w') l a) : (Code.region id l.toArray true).wp P Q a w :=
  wp_region_quiet (C := BelC w) hm hB (show Below w.heap.size w w.drew from bd_ (b0_ w)) (by simpa using h)
theorem step_off {c : Bool} {A B : Prop} (h : c = false) (hb : B) : if c = true then A else B := by rw [h]; simpa using hb
theorem step_on {c : Bool} {A B : Prop} (h : c = true) (ha : A) : if c = true then A else B := by rw [if_pos h]; exact ha
end Go.Proofs.Ytopmdgheacjkcaa
