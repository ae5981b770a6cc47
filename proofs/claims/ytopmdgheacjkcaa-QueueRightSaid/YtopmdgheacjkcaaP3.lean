/- Which job is next; plain laws. -/
import Derived.Test.YtopmdgheacjkcaaT27
set_option linter.unusedVariables false
set_option linter.unusedSimpArgs false
namespace Go.Proofs.Ytopmdgheacjkcaa
/-- One job comes ahead of another. -/
def Bef (a b : J) : Prop := b.pr < a.pr ∨ (a.pr = b.pr ∧ a.id < b.id)
theorem ord_bef (a b : J) : ord a b < 0 ↔ Bef a b := by
  unfold ord cmpI Bef
  repeat' split
  all_goals omega
theorem minF_spec : ∀ (l : List J) (m : J), minF ord m l ∈ m :: l ∧ ∀ x ∈ m :: l, ¬ Bef x (minF ord m l)
  | [], m => by
    refine ⟨by simp [minF], fun x hx => ?_⟩
    obtain rfl : x = m := by simpa using hx
    simp [minF, Bef]
  | y :: l, m => by
    obtain ⟨h1, h2⟩ := minF_spec l (if ord y m < 0 then y else m)
    have e : minF ord m (y :: l) = minF ord (if ord y m < 0 then y else m) l := rfl
    rw [e]
    by_cases c : ord y m < 0
    · rw [if_pos c] at h1 h2 ⊢
      have cb := (ord_bef y m).1 c
      refine ⟨List.mem_cons_of_mem _ h1, fun x hx => ?_⟩
      rcases List.mem_cons.1 hx with rfl | hx
      · intro hb
        have := h2 y (List.mem_cons_self ..)
        unfold Bef at *
        omega
      · exact h2 x hx
    · rw [if_neg c] at h1 h2 ⊢
      have cb : ¬ Bef y m := fun h => c ((ord_bef y m).2 h)
      refine ⟨?_, fun x hx => ?_⟩
      · rcases List.mem_cons.1 h1 with h | h
        · rw [h]; exact List.mem_cons_self ..
        · exact List.mem_cons_of_mem _ (List.mem_cons_of_mem _ h)
      · rcases List.mem_cons.1 hx with rfl | hx
        · exact h2 _ (List.mem_cons_self ..)
        · rcases List.mem_cons.1 hx with rfl | hx
          · intro hb
            have := h2 m (List.mem_cons_self ..)
            unfold Bef at *
            omega
          · exact h2 x (List.mem_cons_of_mem _ hx)
theorem next_spec {q : Qu} (hR : Rt q) : (∃ (k : Nat) (b : J), nextS q = ((k : Int) + 1, 0) ∧ q.js[k]? = some b ∧ rdy q b = true ∧ ∀ (m : Nat) (x : J), q.js[m]? = some x → rdy q x = true → ¬ Bef x b) ∨
    (nextS q = (0, 4) ∧ ∀ (m : Nat) (x : J), q.js[m]? = some x → rdy q x = false) := by
  cases hf : q.js.filter (rdy q) with
  | nil =>
    refine .inr ⟨by rw [nextS, hf], fun m x hx => ?_⟩
    cases hr : rdy q x with
    | false => rfl
    | true =>
      have : x ∈ q.js.filter (rdy q) := List.mem_filter.2 ⟨List.mem_of_getElem? hx, hr⟩
      rw [hf] at this
      cases this
  | cons y l =>
    obtain ⟨h1, h2⟩ := minF_spec l y
    have hmem : minAll ord (y :: l) ∈ q.js.filter (rdy q) := by rw [hf]; exact h1
    obtain ⟨hm, hr⟩ := List.mem_filter.1 hmem
    obtain ⟨k, hk⟩ := List.getElem?_of_mem hm
    refine .inl ⟨k, _, by rw [nextS, hf]; exact Prod.ext (hR.ids k _ hk) rfl, hk, hr, fun m x hx hrx => ?_⟩
    refine h2 x ?_
    rw [← hf]
    exact List.mem_filter.2 ⟨List.mem_of_getElem? hx, hrx⟩
/-- Devices are small. -/
def QDev (q : Qu) : Prop := ∀ (k : Nat) (j : J), q.js[k]? = some j → j.st = 2 → j.av ≤ 3
theorem QDev.set {q : Qu} (h : QDev q) {k : Nat} {j' : J} (hj : j'.st = 2 → j'.av ≤ 3) : QDev { q with js := q.js.set k j' } := fun i x hx hs => by
  rcases getElem?_set_cases hx with ⟨rfl, rfl, _⟩ | ⟨_, hx'⟩
  · exact hj hs
  · exact h i x hx' hs
theorem QDev.change {q : Qu} (h : QDev q) (id : Int) (f : J → Int × J) (hf : ∀ j, (f j).1 = 0 → (f j).2.st = 2 → (f j).2.av ≤ 3) : QDev (changeS q id f).1 := by
  rcases changeS_cases q id f with ⟨e, _⟩ | ⟨k, j, _, _, h0, e⟩
  · rw [e]; exact h
  · rw [e]; exact h.set (hf j h0)
theorem startF_dev (q : Qu) (dev : Int) (hd : dev ≤ 3) (j : J) (h0 : (startF q dev j).1 = 0) (h2 : (startF q dev j).2.st = 2) : (startF q dev j).2.av ≤ 3 := by
  unfold startF at *
  by_cases c1 : (0 ≤ dev ∧ dev ≤ 99) ∧ q.js.any (hasD dev) = false
  · rw [if_pos c1] at h0 h2 ⊢
    by_cases c2 : j.st = 1
    · rw [if_pos c2] at h0 h2 ⊢
      by_cases c3 : rdy q j = true
      · rw [if_pos c3]; exact hd
      · rw [if_neg c3] at h0; exact absurd (show (410 : Int) = 0 from h0) (by decide)
    · rw [if_neg c2] at h0; exact absurd (show (430 : Int) = 0 from h0) (by decide)
  · rw [if_neg c1] at h0; exact absurd (show (1 : Int) = 0 from h0) (by decide)
theorem leaveF_dev (st : Int) (hst : st = 1 ∨ st = 3) (im : Img) (j : J) (h0 : (leaveF st im j).1 = 0) (h2 : (leaveF st im j).2.st = 2) : (leaveF st im j).2.av ≤ 3 := by
  unfold leaveF at *
  split at h0
  · rename_i c
    rw [if_pos c] at h2
    have : st = 2 := h2
    omega
  · simp at h0
theorem cancelF_dev (j : J) (h0 : (cancelF j).1 = 0) (h2 : (cancelF j).2.st = 2) : (cancelF j).2.av ≤ 3 := by
  unfold cancelF at *
  split at h0
  · rename_i c
    rw [if_pos c] at h2
    simp at h2
  · simp at h0
theorem QDev.do {q : Qu} (h : QDev q) (x : Raw) : QDev (doS q x).1 := by
  unfold doS
  split
  · unfold submitS
    split
    · split
      · exact h
      · split
        · exact h
        · intro k j hj hs
          by_cases hk : k < q.js.length
          · rw [List.getElem?_append_left hk] at hj
            exact h k j hj hs
          · rw [List.getElem?_append_right (by omega)] at hj
            have : j = subJ q (jobR x) := by
              have h1 := (List.getElem?_eq_some_iff.1 hj).1
              have : k - q.js.length = 0 := by simpa using h1
              rw [this] at hj
              simpa using hj.symm
            subst this
            exact absurd (show (1 : Int) = 2 from hs) (by decide)
    · exact h
  · have hx := Int.emod_lt_of_pos x.b (show (0 : Int) < 4 by decide)
    split
    · exact h.change _ _ fun j => startF_dev q _ (by omega) j
    · split
      · exact h.change _ _ fun j => leaveF_dev _ (.inl rfl) _ j
      · split
        · exact h.change _ _ fun j => leaveF_dev _ (.inr rfl) _ j
        · exact h.change _ _ cancelF_dev
theorem foldS_dev : ∀ (l : List Raw) (q : Qu), QDev q → QDev (l.foldl (fun q x => (doS q x).1) q)
  | [], q, h => h
  | x :: l, q, h => foldS_dev l _ (h.do x)
theorem madeS_dev (qs : List Int) (l : List Raw) : QDev (madeS qs l) := foldS_dev l _ fun k j hj => by simp at hj
/-- A made queue, whole. -/
structure MadeQ (q : Qu) : Prop where
  inv : QInv q
  dev : QDev q
  len : q.js.length ≤ 20
theorem madeQ (a b c : Int) (l : List Raw) (h : (qsOf a b c).length = 3 ∧ ∀ n ∈ qsOf a b c, 0 ≤ n ∧ n ≤ 29) : MadeQ (madeS (qsOf a b c) (l.take 20)) := ⟨madeS_inv h.1 h.2 _, madeS_dev _ _, Nat.le_trans (madeS_len _ _) (by simp; omega)⟩
theorem MadeQ.rt {q : Qu} (h : MadeQ q) : Rt q := h.inv.rt (by have := h.len; omega)
/-- A ready job can be started on a free device. -/
theorem start_ok {q : Qu} (h : MadeQ q) {k : Nat} {b : J} (hb : q.js[k]? = some b) (hr : rdy q b = true) (dev : Int) (hd : 4 ≤ dev ∧ dev ≤ 99) : changeS q ((k : Int) + 1) (startF q dev) = ({ q with js := q.js.set k { b with st := 2, av := dev } }, 0) := by
  have hs : b.st = 1 := by
    simp only [rdy, Bool.and_eq_true, decide_eq_true_eq] at hr
    exact hr.1
  have hany : q.js.any (hasD dev) = false := by
    rw [List.any_eq_false]
    intro x hx
    obtain ⟨m, hm⟩ := List.getElem?_of_mem hx
    intro hd'
    simp only [hasD, Bool.and_eq_true, decide_eq_true_eq] at hd'
    have := h.dev m x hm hd'.1
    omega
  have e : startF q dev b = (0, { b with st := 2, av := dev }) := by
    unfold startF
    rw [if_pos ⟨by omega, hany⟩, if_pos hs, if_pos hr]
  rw [changeS_at _ hb, e]
  rfl
/-- How many of the first k run. -/
def cntR (q : Qu) (k : Nat) : Nat := ((q.js.take k).filter fun j => decide (j.st = 2)).length
theorem cntR_step {q : Qu} {k : Nat} {j : J} (hj : q.js[k]? = some j) : cntR q (k + 1) = if j.st = 2 then cntR q k + 1 else cntR q k := by
  obtain ⟨hk, rfl⟩ := List.getElem?_eq_some_iff.1 hj
  unfold cntR
  rw [List.take_succ_eq_append_getElem hk, List.filter_append]
  by_cases c : q.js[k].st = 2
  · rw [if_pos c]; simp [List.filter_cons, c]
  · rw [if_neg c]; simp [List.filter_cons, c]
theorem cntR_le (q : Qu) (k : Nat) : cntR q k ≤ q.js.length := by
  unfold cntR
  exact Nat.le_trans (List.length_filter_le _ _) (List.length_take_le' _ _)
/-- Where nothing runs and nothing is ready, nothing waits. -/
theorem none_waits {q : Qu} (h : MadeQ q) (hn : ∀ (m : Nat) (x : J), q.js[m]? = some x → rdy q x = false) (hc : cntR q q.js.length = 0) (k : Nat) (j : J) (hj : q.js[k]? = some j) : j.st ≠ 1 := by
  intro hs
  have hall : ∀ x ∈ q.js, x.st ≠ 2 := fun x hx h2 => by
    unfold cntR at hc
    rw [List.take_of_length_le (Nat.le_refl _)] at hc
    have hm : x ∈ q.js.filter fun j => decide (j.st = 2) := List.mem_filter.2 ⟨hx, by simpa using h2⟩
    have := List.length_pos_of_mem hm
    omega
  have hu : ∀ (l : List J), (∀ x ∈ l, x.st ≠ 2) → used j.tn l = 0 := fun l => by
    induction l with
    | nil => intro _; rfl
    | cons x r ih =>
      intro hl
      rw [used, ih fun y hy => hl y (List.mem_cons_of_mem _ hy), useOf, if_neg (fun h => hl x (List.mem_cons_self ..) h.2)]
      rfl
  have := hn k j hj
  have hb := h.inv.bd hj
  rw [rdy, hu q.js hall] at this
  simp [hs] at this
  omega
end Go.Proofs.Ytopmdgheacjkcaa
