/- A queue's jobs lie apart from a variable that holds another job: a store to the one leaves the other. -/
import Derived.Test.YtopmdgheacjkcaaT10
set_option linter.unusedVariables false
set_option linter.unusedSimpArgs false
namespace Go.Proofs.Ytopmdgheacjkcaa
open Go.RowKit
theorem cell_off {w : World} {a : Addr} {v : Value} {g : Nat} {t : TypeId} {cs : List Value} (hb : Blk w g t cs) (h : w.cell? a = some v) (ha : a.block = g) : cs[a.off]? = some v := by
  unfold Blk at hb
  unfold World.cell? at h
  rw [ha, hb] at h
  simp only [] at h
  split at h
  · cases h
  · simpa using h
theorem Row.putL {w : World} {A : Option Addr} {xs : List (List Value)} {g : Nat} {cs : List Value} (h : Row w 11 A xs) (hb : Blk w g 40 cs) (hl : cs.length = 11) (hx : ∀ x ∈ xs, x.length = 11) (hne : ∀ x0, xs = [x0] → x0[0]? ≠ cs[0]?) (o : Nat) (vs : List Value) :
    Row (w.setCells g o vs) 11 A xs := by
  intro hn
  obtain ⟨ad, e, ⟨cs', fr, hh⟩, hc⟩ := h hn
  have hap : ad.block ≠ g := by
    intro he
    have hcell : ∀ i x, xs[i]? = some x → ∀ j v, x[j]? = some v → cs[ad.off + (i * 11 + j)]? = some v := fun i x hx j v hv => by
      have h1 := cell_off hb (hc i x hx j v hv) (by rw [block_add]; exact he)
      have ho : (ad.add (i * 11 + j)).off = ad.off + (i * 11 + j) := by
        unfold Addr.add
        split
        · rename_i h0; rw [h0]; rfl
        · rfl
      rwa [ho] at h1
    clear hc hh h
    have hoff : ∀ x0, xs[0]? = some x0 → x0.length = 11 → ad.off = 0 := fun x0 h0 l0 => by
      have h10 := hcell 0 x0 h0 10 (x0[10]'(by omega)) (List.getElem?_eq_getElem (by omega))
      have b10 := (List.getElem?_eq_some_iff.1 h10).1
      omega
    cases xs with
    | nil => exact absurd hn (Nat.lt_irrefl 0)
    | cons x0 r =>
      have l0 : x0.length = 11 := hx x0 (List.mem_cons_self ..)
      have h0 := hoff x0 rfl l0
      cases r with
      | nil =>
        have h00 := hcell 0 x0 rfl 0 (x0[0]'(by omega)) (List.getElem?_eq_getElem (by omega))
        refine hne x0 rfl ?_
        rw [List.getElem?_eq_getElem (show 0 < x0.length by omega)]
        rw [h0] at h00
        exact h00.symm
      | cons x1 r =>
        have l1 : x1.length = 11 := hx x1 (List.mem_cons_of_mem _ (List.mem_cons_self ..))
        have h11 := hcell 1 x1 rfl 0 (x1[0]'(by omega)) (List.getElem?_eq_getElem (by omega))
        have b11 := (List.getElem?_eq_some_iff.1 h11).1
        omega
  refine ⟨ad, e, ⟨cs', fr, (heap_setCells_other hap vs o w).trans hh⟩, fun i x hx' j v hv => ?_⟩
  rw [World.cell?_setCells_out g vs o w _ (fun h => absurd h (by rw [block_add]; exact hap))]
  exact hc i x hx' j v hv
theorem QIn.putL {w : World} {v : Qv} {q : Qu} {g : Nat} {z : J} (h : QIn w v q) (hb : Blk w g 40 z.cells) (hne : q.js.length = 1 → ∀ x, q.js[0]? = some x → x.id ≠ z.id) (o : Nat) (vs : List Value) : QIn (w.setCells g o vs) v q := by
  refine ⟨h.quota.put hb (show (40 : TypeId) ≠ 3 by decide) o vs, h.jobs.putL hb rfl (fun x hx => ?_) (fun x0 hx0 he => ?_) o vs, h.qc, h.jc⟩
  · obtain ⟨j, _, rfl⟩ := List.mem_map.1 hx
    rfl
  · match hq : q.js, hx0 with
    | [j], hx0 =>
      have e0 : x0 = j.cells := by
        simp only [hq, List.map_cons, List.map_nil] at hx0
        injection hx0 with h1 _
        exact h1.symm
      subst e0
      have hid : some (Value.int .i64 j.id) = some (Value.int .i64 z.id) := he
      injection hid with hid
      injection hid with _ hid
      exact hne (by rw [hq]; rfl) j (by rw [hq]; rfl) hid
    | [], hx0 => cases hx0
    | _ :: _ :: _, hx0 => cases hx0
end Go.Proofs.Ytopmdgheacjkcaa
