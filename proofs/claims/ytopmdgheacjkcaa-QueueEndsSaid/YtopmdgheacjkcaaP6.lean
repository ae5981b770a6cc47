/- Running jobs are ended, then each next one is started and ended, till none waits; plain laws. -/
import Derived.Test.YtopmdgheacjkcaaP5
set_option linter.unusedVariables false
set_option linter.unusedSimpArgs false
namespace Go.Proofs.Ytopmdgheacjkcaa
def fin (im : Img) (b : J) : J := { b with st := 3, av := -1, im := im }
theorem leave3 {b : J} (hs : b.st = 2) (im : Img) : leaveF 3 im b = (0, fin im b) := by unfold leaveF; rw [if_pos hs]; rfl
/-- After the first i jobs, the running ones of these have ended. -/
structure E1 (F q : Qu) (i : Nat) : Prop where
  made : MadeQ q
  len : q.js.length = F.js.length
  old : ∀ (m : Nat) (x : J), F.js[m]? = some x → (i ≤ m ∨ x.st ≠ 2) → q.js[m]? = some x
  new : ∀ (m : Nat) (x : J), F.js[m]? = some x → m < i → x.st = 2 → ∃ y, q.js[m]? = some y ∧ y.pr = x.pr ∧ y.st = 3
theorem E1.start {F : Qu} (h : MadeQ F) : E1 F F 0 := ⟨h, rfl, fun _ _ hx _ => hx, fun _ _ _ hm _ => absurd hm (Nat.not_lt_zero _)⟩
theorem E1.skip {F q : Qu} {i : Nat} {x : J} (h : E1 F q i) (hx : F.js[i]? = some x) (hs : x.st ≠ 2) : E1 F q (i + 1) :=
  ⟨h.made, h.len, fun m y hy hc => h.old m y hy (by
    rcases hc with hc | hc
    · exact .inl (by omega)
    · exact .inr hc), fun m y hy hm h2 => by
    rcases Nat.lt_succ_iff_lt_or_eq.1 hm with hm | rfl
    · exact h.new m y hy hm h2
    · rw [hx] at hy; cases hy; exact absurd h2 hs⟩
theorem E1.step {F q : Qu} {i : Nat} {x : J} (h : E1 F q i) (hx : F.js[i]? = some x) (hs : x.st = 2) (im : Img) : ∃ q', changeS q ((i : Int) + 1) (leaveF 3 im) = (q', 0) ∧ E1 F q' (i + 1) := by
  have hq := h.old i x hx (.inl (Nat.le_refl _))
  have hil := (List.getElem?_eq_some_iff.1 hq).1
  have e : changeS q ((i : Int) + 1) (leaveF 3 im) = ({ q with js := q.js.set i (fin im x) }, 0) := by
    rw [changeS_at _ hq, leave3 hs im]; rfl
  have h1 := h.made.inv.leave ((i : Int) + 1) 3 (.inr rfl) im
  rw [e] at h1
  refine ⟨_, e, ⟨h1, h.made.dev.set (fun hh => absurd (show (3 : Int) = 2 from hh) (by decide)), ?_⟩, ?_, fun m y hy hc => ?_, fun m y hy hm h2 => ?_⟩
  · show (q.js.set i _).length ≤ 20
    rw [List.length_set]; exact h.made.len
  · show (q.js.set i _).length = _
    rw [List.length_set]; exact h.len
  · have hne : i ≠ m := fun hh => by
      subst hh
      rw [hx] at hy; cases hy
      rcases hc with hc | hc
      · omega
      · exact hc hs
    show (q.js.set i _)[m]? = _
    rw [List.getElem?_set_ne hne]
    refine h.old m y hy ?_
    rcases hc with hc | hc
    · exact .inl (by omega)
    · exact .inr hc
  · show ∃ z, (q.js.set i _)[m]? = some z ∧ _
    rcases Nat.lt_succ_iff_lt_or_eq.1 hm with hm | rfl
    · rw [List.getElem?_set_ne (by omega)]
      exact h.new m y hy hm h2
    · rw [List.getElem?_set_self hil]
      rw [hx] at hy; cases hy
      exact ⟨_, rfl, rfl, rfl⟩
def cntW : List J → Nat
  | [] => 0
  | j :: l => (if j.st = 1 then 1 else 0) + cntW l
theorem cntW_le : ∀ l : List J, cntW l ≤ l.length
  | [] => Nat.le_refl _
  | j :: l => by
    have := cntW_le l
    simp only [cntW, List.length_cons]
    split <;> omega
theorem cntW_set : ∀ (l : List J) (k : Nat) (j j' : J), l[k]? = some j → cntW (l.set k j') + (if j.st = 1 then 1 else 0) = cntW l + (if j'.st = 1 then 1 else 0)
  | [], k, j, j', h => by simp at h
  | x :: l, 0, j, j', h => by
    simp at h
    subst h
    simp only [List.set_cons_zero, cntW]
    omega
  | x :: l, k + 1, j, j', h => by
    have ih := cntW_set l k j j' (by simpa using h)
    simp only [List.set_cons_succ, cntW]
    omega
theorem used_none (t : Int) : ∀ l : List J, (∀ x ∈ l, x.st ≠ 2) → used t l = 0
  | [], _ => rfl
  | x :: l, h => by
    rw [used, used_none t l fun y hy => h y (List.mem_cons_of_mem _ hy), useOf, if_neg (fun hh => h x (List.mem_cons_self ..) hh.2)]
    rfl
/-- The rounds: k jobs have been ended since; the last one had the priority lp and the number li. -/
structure E2 (F q : Qu) (k : Nat) (lp li : Int) : Prop where
  made : MadeQ q
  len : q.js.length = F.js.length
  rel : ∀ (m : Nat) (x : J), F.js[m]? = some x → ∃ y, q.js[m]? = some y ∧ y.pr = x.pr ∧ (y.st = 1 ∨ y.st = 3 ∨ y.st = 4) ∧ (x.st = 4 ↔ y.st = 4)
  cnt : k + cntW q.js ≤ q.js.length
  ord : ∀ (m : Nat) (y : J), q.js[m]? = some y → y.st = 1 → y.pr < lp ∨ (y.pr = lp ∧ li < y.id)
structure E3 (F q : Qu) : Prop where
  made : MadeQ q
  len : q.js.length = F.js.length
  rel : ∀ (m : Nat) (x : J), F.js[m]? = some x → ∃ y, q.js[m]? = some y ∧ (y.st = 3 ∨ y.st = 4) ∧ (x.st = 4 ↔ y.st = 4)
theorem E1.done {F q : Qu} {i : Nat} (hF : MadeQ F) (h : E1 F q i) (hi : F.js.length ≤ i) : E2 F q 0 10 0 := by
  refine ⟨h.made, h.len, fun m x hx => ?_, by have := cntW_le q.js; omega, fun m y hy hs => ?_⟩
  · have hm := (List.getElem?_eq_some_iff.1 hx).1
    by_cases hs : x.st = 2
    · obtain ⟨y, h1, h2, h3⟩ := h.new m x hx (by omega) hs
      exact ⟨y, h1, h2, .inr (.inl h3), by omega⟩
    · have h1 := h.old m x hx (.inr hs)
      obtain ⟨_, _, _, _, _, h6, _⟩ := hF.inv.jobs m x hx
      exact ⟨x, h1, rfl, by omega, Iff.rfl⟩
  · obtain ⟨_, _, h3, _⟩ := h.made.inv.jobs m y hy
    exact .inl (by omega)
theorem E2.norun {F q : Qu} {k : Nat} {lp li : Int} (h : E2 F q k lp li) : ∀ y ∈ q.js, y.st ≠ 2 := fun y hy h2 => by
  obtain ⟨m, hm⟩ := List.getElem?_of_mem hy
  have hl := (List.getElem?_eq_some_iff.1 hm).1
  obtain ⟨z, hz, _, h3, _⟩ := h.rel m _ (List.getElem?_eq_getElem (by rw [← h.len]; exact hl))
  rw [hm] at hz; cases hz
  omega
theorem E2.ready {F q : Qu} {k : Nat} {lp li : Int} (h : E2 F q k lp li) {m : Nat} {y : J} (hy : q.js[m]? = some y) (hs : y.st = 1) : rdy q y = true := by
  simp only [rdy, Bool.and_eq_true, decide_eq_true_eq]
  refine ⟨hs, ?_⟩
  rw [used_none _ _ h.norun]
  have := h.made.inv.bd hy
  omega
theorem E2.next {F q : Qu} {k : Nat} {lp li : Int} (hF : MadeQ F) (h : E2 F q k lp li) (im : Img) :
    (∃ (k0 : Nat) (x : J) (q1 q2 : Qu), nextS q = ((k0 : Int) + 1, 0) ∧ F.js[k0]? = some x ∧ changeS q ((k0 : Int) + 1) (startF q 0) = (q1, 0) ∧ q1.js.length ≤ 1000 ∧
      changeS q1 ((k0 : Int) + 1) (leaveF 3 im) = (q2, 0) ∧ (x.pr < lp ∨ (x.pr = lp ∧ li < x.id)) ∧ E2 F q2 (k + 1) x.pr x.id ∧ k < F.js.length) ∨ (nextS q = (0, 4) ∧ E3 F q) := by
  rcases next_spec h.made.rt with ⟨k0, b, hn, hb, hr, hmin⟩ | ⟨hn, hno⟩
  · left
    have hs : b.st = 1 := by
      simp only [rdy, Bool.and_eq_true, decide_eq_true_eq] at hr
      exact hr.1
    have hk0 := (List.getElem?_eq_some_iff.1 hb).1
    obtain ⟨x, hx⟩ : ∃ x, F.js[k0]? = some x := ⟨_, List.getElem?_eq_getElem (by rw [← h.len]; exact hk0)⟩
    obtain ⟨b', hb', hpr, _, h4⟩ := h.rel k0 x hx
    rw [hb] at hb'; cases hb'
    have hxid : x.id = (k0 : Int) + 1 := (hF.inv.jobs k0 x hx).1
    have hbid : b.id = (k0 : Int) + 1 := (h.made.inv.jobs k0 b hb).1
    have hany : q.js.any (hasD 0) = false := by
      rw [List.any_eq_false]
      intro y hy hd
      simp only [hasD, Bool.and_eq_true, decide_eq_true_eq] at hd
      exact h.norun y hy hd.1
    have e1 : changeS q ((k0 : Int) + 1) (startF q 0) = ({ q with js := q.js.set k0 { b with st := 2, av := 0 } }, 0) := by
      have e : startF q 0 b = (0, { b with st := 2, av := 0 }) := by
        unfold startF
        rw [if_pos ⟨by omega, hany⟩, if_pos hs, if_pos hr]
      rw [changeS_at _ hb, e]
      rfl
    have hg : ({ q with js := q.js.set k0 { b with st := 2, av := 0 } } : Qu).js[k0]? = some { b with st := 2, av := 0 } := by
      show (q.js.set k0 _)[k0]? = _
      rw [List.getElem?_set_self hk0]
    have e2 : changeS { q with js := q.js.set k0 { b with st := 2, av := 0 } } ((k0 : Int) + 1) (leaveF 3 im) = ({ q with js := q.js.set k0 (fin im b) }, 0) := by
      rw [changeS_at _ hg, leave3 rfl im]
      show (({ qs := q.qs, js := (q.js.set k0 _).set k0 _ } : Qu), (0 : Int)) = _
      rw [List.set_set]
      rfl
    have i1 := h.made.inv.start ((k0 : Int) + 1) 0
    rw [e1] at i1
    have i2 := i1.leave ((k0 : Int) + 1) 3 (.inr rfl) im
    rw [e2] at i2
    have hcs := cntW_set q.js k0 b (fin im b) hb
    rw [if_pos hs, if_neg (show (fin im b).st ≠ 1 from by show (3 : Int) ≠ 1; decide)] at hcs
    have hcnt := h.cnt
    refine ⟨k0, x, _, _, hn, hx, e1, ?_, e2, ?_, ⟨⟨i2, h.made.dev.set (fun hh => absurd (show (3 : Int) = 2 from hh) (by decide)), ?_⟩, ?_, fun m z hz => ?_, ?_, fun m y hy hs' => ?_⟩, ?_⟩
    · show (q.js.set k0 _).length ≤ 1000
      rw [List.length_set]
      have := h.made.len
      omega
    · have := h.ord k0 b hb hs
      omega
    · show (q.js.set k0 _).length ≤ 20
      rw [List.length_set]; exact h.made.len
    · show (q.js.set k0 _).length = _
      rw [List.length_set]; exact h.len
    · show ∃ y, (q.js.set k0 _)[m]? = some y ∧ _
      by_cases hm : m = k0
      · subst hm
        rw [hx] at hz; cases hz
        rw [List.getElem?_set_self hk0]
        refine ⟨_, rfl, hpr, .inr (.inl rfl), ?_⟩
        rw [h4]
        constructor
        · intro hh; omega
        · intro hh; exact absurd (show (3 : Int) = 4 from hh) (by decide)
      · rw [List.getElem?_set_ne (Ne.symm hm)]
        exact h.rel m z hz
    · show k + 1 + cntW (q.js.set k0 _) ≤ (q.js.set k0 _).length
      rw [List.length_set]
      omega
    · rcases getElem?_set_cases (show (q.js.set k0 (fin im b))[m]? = some y from hy) with ⟨rfl, rfl, _⟩ | ⟨hne, hy'⟩
      · exact absurd (show (3 : Int) = 1 from hs') (by decide)
      · have hrd := h.ready hy' hs'
        have hnb := hmin m y hy' hrd
        have hyid : y.id = (m : Int) + 1 := (h.made.inv.jobs m y hy').1
        unfold Bef at hnb
        have hmk : (m : Int) ≠ (k0 : Int) := by omega
        omega
    · have := h.len
      omega
  · right
    refine ⟨hn, h.made, h.len, fun m x hx => ?_⟩
    obtain ⟨y, hy, _, h3, h4⟩ := h.rel m x hx
    refine ⟨y, hy, ?_, h4⟩
    rcases h3 with h3 | h3 | h3
    · have := hno m y hy
      rw [h.ready hy h3] at this
      cases this
    · exact .inl h3
    · exact .inr h3
theorem E3.cancel {F q : Qu} (h : E3 F q) {i : Nat} (hi : i < F.js.length) : changeS q ((i : Int) + 1) cancelF = (q, 430) := by
  obtain ⟨y, hy, h3, _⟩ := h.rel i _ (List.getElem?_eq_getElem hi)
  rw [changeS_at _ hy, show cancelF y = (430, y) from by unfold cancelF; rw [if_neg (by omega)]]
  rfl
theorem E3.start {F q : Qu} (h : E3 F q) {i : Nat} (hi : i < F.js.length) : changeS q ((i : Int) + 1) (startF q 3) = (q, 430) := by
  obtain ⟨y, hy, h3, _⟩ := h.rel i _ (List.getElem?_eq_getElem hi)
  have hany : q.js.any (hasD 3) = false := by
    rw [List.any_eq_false]
    intro z hz hd
    simp only [hasD, Bool.and_eq_true, decide_eq_true_eq] at hd
    obtain ⟨m, hm⟩ := List.getElem?_of_mem hz
    have hl := (List.getElem?_eq_some_iff.1 hm).1
    obtain ⟨z', hz', h3', _⟩ := h.rel m _ (List.getElem?_eq_getElem (by rw [← h.len]; exact hl))
    rw [hm] at hz'; cases hz'
    omega
  rw [changeS_at _ hy, show startF q 3 y = (430, y) from by unfold startF; rw [if_pos ⟨by omega, hany⟩, if_neg (by omega)]]
  rfl
end Go.Proofs.Ytopmdgheacjkcaa
