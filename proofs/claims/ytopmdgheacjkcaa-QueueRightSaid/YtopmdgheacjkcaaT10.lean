/- queue.Cancel, queue.Park, queue.End. -/
import Derived.Test.YtopmdgheacjkcaaT9
import Derived.RegionTactic
import Derived.BigRegion
import Derived.Outline
set_option linter.unusedVariables false
set_option linter.unusedSimpArgs false
namespace Go.Proofs.Ytopmdgheacjkcaa
open Go.RowKit
theorem Row.put {w : World} {k : Nat} {A : Option Addr} {xs : List (List Value)} {g : Nat} {t : TypeId} {cs : List Value} (h : Row w k A xs) (hb : Blk w g t cs) (ht : t ≠ tyOf k) (o : Nat) (vs : List Value) : Row (w.setCells g o vs) k A xs := by
  intro hn
  obtain ⟨ad, e, ⟨cs', fr, hh⟩, hc⟩ := h hn
  have hne : ad.block ≠ g := by
    intro he
    unfold Blk at hb
    rw [he, hb] at hh
    injection hh with hh
    injection hh with _ h2
    exact ht h2
  refine ⟨ad, e, ⟨cs', fr, (heap_setCells_other hne vs o w).trans hh⟩, fun i x hx' j v hv => ?_⟩
  rw [World.cell?_setCells_out g vs o w _ (fun h => absurd h (by rw [block_add]; exact hne))]
  exact hc i x hx' j v hv
theorem QIn.put {w : World} {v : Qv} {q : Qu} {g : Nat} {t : TypeId} {cs : List Value} (h : QIn w v q) (hb : Blk w g t cs) (ht : t ≠ 3 ∧ t ≠ 40) (o : Nat) (vs : List Value) : QIn (w.setCells g o vs) v q :=
  ⟨h.quota.put hb ht.1 o vs, h.jobs.put hb ht.2 o vs, h.qc, h.jc⟩
theorem t29 : (29 : TypeId) ≠ 3 ∧ (29 : TypeId) ≠ 40 := ⟨by decide, by decide⟩
theorem t45 : (45 : TypeId) ≠ 3 ∧ (45 : TypeId) ≠ 40 := ⟨by decide, by decide⟩
def cancelF (j : J) : Int × J := if j.st = 1 ∨ j.st = 2 then (0, { j with st := 4, av := -1 }) else (430, j)
theorem Box40.blk {w : World} {g : Nat} {j : J} (h : Box40 w g j) : Blk w g 40 j.cells := h
theorem grown_refl (w : World) (r : Option Nat) : w.grownBy w r := ⟨rfl, rfl, rfl, Nat.le_refl _, fun _ _ _ => rfl⟩
def RetE (x : Int) (b : Nat) (j : J) (w : World) (e : Ending) (w' : World) : Prop := e = .returned (.int .i64 x) ∧ Box40 w' b j ∧ w.grownBy w' (some b)
set_option maxHeartbeats 1000000 in
theorem cancel1_calls (b : Nat) (j : J) (w : World) (h : Box40 w b j) : Calls Try.prog 62 #[.pointer (some ⟨b, 0, none⟩)] w (RetE (cancelF j).1 b (cancelF j).2 w) := by
  obtain ⟨t0, t1, t2, t3, t4, t5, t6, t7, t8, t9, t10⟩ := h.cell
  have hfz := h.frozen
  have H := Lib.hid h; clear h
  clear t0 t1 t2 t3 t4 t5 t6 t7 t8
  by_cases h1 : j.st = 1
  · have e1 : (j.st != 1) = false := by simpa using h1
    have HC := Lib.hid (show cancelF j = (0, { j with st := 4, av := -1 }) by rw [cancelF, if_pos (.inl h1)])
    clear h1
    go_enter Try.func62, Try.ntmps62
    go_wp2
    go_ret
    rw [HC.out]
    exact ⟨rfl, (H.out.blk.set 9 (.int .i64 4)).set 10 (.int .i64 (-1)), (grown_setCell w b 9 _).trans (grown_setCell _ b 10 _)⟩
  · by_cases h2 : j.st = 2
    · have e1 : (j.st != 1) = true := by simpa using h1
      have e2 : (j.st != 2) = false := by simpa using h2
      have HC := Lib.hid (show cancelF j = (0, { j with st := 4, av := -1 }) by rw [cancelF, if_pos (.inr h2)])
      clear h1 h2
      go_enter Try.func62, Try.ntmps62
      go_wp2
      go_ret
      rw [HC.out]
      exact ⟨rfl, (H.out.blk.set 9 (.int .i64 4)).set 10 (.int .i64 (-1)), (grown_setCell w b 9 _).trans (grown_setCell _ b 10 _)⟩
    · have e1 : (j.st != 1) = true := by simpa using h1
      have e2 : (j.st != 2) = true := by simpa using h2
      have HC := Lib.hid (show cancelF j = (430, j) by rw [cancelF, if_neg (by simp [h1, h2])])
      clear h1 h2
      go_enter Try.func62, Try.ntmps62
      go_wp2
      go_ret
      rw [HC.out]
      exact ⟨rfl, H.out, grown_refl _ _⟩
theorem cancel_chf (B : Nat) (w : World) : ChF 62 #[] cancelF (fun _ => True) B w := fun W b j _ _ _ h => (cancel1_calls b j W h)
set_option maxHeartbeats 1000000 in
theorem cancel_calls (v : Qv) (q : Qu) (id : Int) (w : World) (hq : QIn w v q) (hl : q.js.length ≤ 1000) : Calls Try.prog 37 #[v.val q, .int .i64 id] w (RetQ (changeS q id cancelF).1 (changeS q id cancelF).2 w) := by
  have e62 := enters Try.func62 (by kernel_rfl) rfl
  have hc := fun W hq => change_calls v q id 62 #[] e62 cancelF W hq hl 0 (Nat.zero_le _) (fun _ => True) (fun _ _ => trivial) (cancel_chf 0 W)
  have HC := Lib.hid hc; clear hc e62
  unfold Qv.val at HC ⊢
  have HQ := Lib.hid hq; clear hq
  go_enter Try.func37, Try.ntmps37
  go_wp2_with fail
  refine (HC.out _ (HQ.out.below (ba_ (ba_ (b0_ w) _) _).out)).mono ?_
  generalize hr : changeS q id cancelF = r
  have HR := Lib.hid hr; clear hr
  obtain ⟨q', x⟩ := r
  rintro e w1 ⟨v', rfl, hq1, hb1⟩
  have HL := Lib.hid (kb_ (ba_ (ba_ (b0_ w) _) _) hb1)
  have HB1 := Lib.hid ((Blk.new (w.alloc (.cells #[.slice v.qa q.qs.length v.qc, .slice v.ja q.js.length v.jc] 29)) 29 [.slice none 0 0, .slice none 0 0]).below hb1)
  simp only [World.size_alloc] at HB1
  have HQ1 := Lib.hid hq1
  clear hq1 hb1
  have b0 := HB1.out.cell 0 _ rfl
  have b1 := HB1.out.cell 1 _ rfl
  have fz1 := HB1.out.frozen
  unfold Qv.val
  go_wp2
  rw [HR.out]
  have hL3 := below_setCells (w := 0) (g := w.heap.size + 1) (v'.cells q') 0 w w1 HL.out.out (Nat.le_succ _)
  have hQ3 := HQ1.out.put HB1.out t29 0 (v'.cells q')
  refine bodyPost_ret (results_ct rfl _ _ (w.heap.size + 1) _ rfl rfl (HB1.out.put (v'.cells q') rfl)) rfl ?_
  exact ⟨v', rfl, hQ3, hL3⟩
end Go.Proofs.Ytopmdgheacjkcaa
