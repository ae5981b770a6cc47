/- What operations keep of a queue: plain laws. -/
import Derived.Test.YtopmdgheacjkcaaT25
set_option linter.unusedVariables false
set_option linter.unusedSimpArgs false
namespace Go.Proofs.Ytopmdgheacjkcaa
structure QInv (q : Qu) : Prop where
  q3 : q.qs.length = 3
  quos : ∀ n ∈ q.qs, 0 ≤ n ∧ n ≤ 29
  jobs : ∀ (k : Nat) (j : J), q.js[k]? = some j → JobOk q k j
  dev : ∀ (i k : Nat) (a b : J), i < k → q.js[i]? = some a → q.js[k]? = some b → a.st = 2 → b.st = 2 → a.av ≠ b.av
  use : ∀ t, 0 ≤ t → t < 3 → used t q.js ≤ quo q t
theorem quo_mem {q : Qu} {t : Int} (h0 : 0 ≤ t) (h1 : t < q.qs.length) : quo q t ∈ q.qs := by
  have h : t.toNat < q.qs.length := by omega
  rw [quo, List.getD_eq_getElem?_getD, List.getElem?_eq_getElem h]
  exact List.getElem_mem h
theorem QInv.bd {q : Qu} (h : QInv q) {k : Nat} {j : J} (hj : q.js[k]? = some j) : 0 ≤ j.tn ∧ j.tn < 3 ∧ 0 ≤ j.bd ∧ j.bd ≤ quo q j.tn ∧ quo q j.tn ≤ 29 := by
  obtain ⟨_, h2, _, _, h5, _⟩ := h.jobs k j hj
  have h3 := h.q3
  have h4 := h.quos _ (quo_mem h2.1 h2.2)
  omega
theorem QInv.rt {q : Qu} (h : QInv q) (hl : q.js.length ≤ 1000) : Rt q := by
  refine ⟨⟨fun j hj => ?_, hl, by rw [h.q3]; omega⟩, fun k j hj => (h.jobs k j hj).1⟩
  obtain ⟨k, hk⟩ := List.getElem?_of_mem hj
  have hb := h.bd hk
  have h3 := h.q3
  exact ⟨hb.1, by omega, hb.2.2.1, by omega⟩
theorem used_set (t : Int) : ∀ (l : List J) (k : Nat) (j j' : J), l[k]? = some j → used t (l.set k j') = used t l - useOf t j + useOf t j'
  | [], k, j, j', h => by simp at h
  | x :: l, 0, j, j', h => by
    simp at h
    subst h
    simp only [List.set_cons_zero, used]
    omega
  | x :: l, k + 1, j, j', h => by
    have h' : l[k]? = some j := by simpa using h
    have := used_set t l k j j' h'
    simp only [List.set_cons_succ, used]
    omega
theorem getElem?_set_cases {l : List J} {k i : Nat} {j x : J} (h : (l.set k j)[i]? = some x) : (i = k ∧ x = j ∧ k < l.length) ∨ (i ≠ k ∧ l[i]? = some x) := by
  rw [List.getElem?_set] at h
  by_cases e : k = i
  · rw [if_pos e] at h
    split at h
    · cases h; exact .inl ⟨e.symm, rfl, by omega⟩
    · cases h
  · rw [if_neg e] at h
    exact .inr ⟨Ne.symm e, h⟩
/-- One job is changed. -/
theorem QInv.set {q : Qu} (h : QInv q) {k : Nat} {j j' : J} (hj : q.js[k]? = some j) (hok : JobOk q k j') (hdev : j'.st = 2 → ∀ i x, i ≠ k → q.js[i]? = some x → x.st = 2 → x.av ≠ j'.av) (hu : ∀ t, 0 ≤ t → t < 3 → used t q.js - useOf t j + useOf t j' ≤ quo q t) : QInv { q with js := q.js.set k j' } := by
  refine ⟨h.q3, h.quos, fun i x hx => ?_, fun a b x y hab hx hy sx sy => ?_, fun t h0 h1 => ?_⟩
  · rcases getElem?_set_cases hx with ⟨rfl, rfl, _⟩ | ⟨_, hx'⟩
    · exact hok
    · exact h.jobs i x hx'
  · rcases getElem?_set_cases hx with ⟨rfl, rfl, _⟩ | ⟨na, hx'⟩
    · rcases getElem?_set_cases hy with ⟨rfl, rfl, _⟩ | ⟨nb, hy'⟩
      · omega
      · exact fun e => hdev sx b y nb hy' sy e.symm
    · rcases getElem?_set_cases hy with ⟨rfl, rfl, _⟩ | ⟨nb, hy'⟩
      · exact hdev sy a x na hx' sx
      · exact h.dev a b x y hab hx' hy' sx sy
  · rw [used_set t q.js k j j' hj]
    exact hu t h0 h1
/-- What a change does to the queue. -/
theorem changeS_cases (q : Qu) (id : Int) (f : J → Int × J) : ((changeS q id f).1 = q ∧ (changeS q id f).2 ≠ 0) ∨ ∃ (k : Nat) (j : J), id = (k : Int) + 1 ∧ q.js[k]? = some j ∧ (f j).1 = 0 ∧ changeS q id f = ({ q with js := q.js.set k (f j).2 }, 0) := by
  by_cases h : 1 ≤ id ∧ id ≤ q.js.length
  · obtain ⟨k, rfl⟩ : ∃ k : Nat, id = (k : Int) + 1 := ⟨(id - 1).toNat, by omega⟩
    have hk : k < q.js.length := by omega
    have hj := List.getElem?_eq_getElem hk
    rw [changeS_at f hj]
    by_cases e : (f q.js[k]).1 = 0
    · rw [if_pos e]; exact .inr ⟨k, _, rfl, hj, e, rfl⟩
    · rw [if_neg e]; exact .inl ⟨rfl, e⟩
  · rw [changeS_no h]; exact .inl ⟨rfl, fun e => absurd (show (411 : Int) = 0 from e) (by decide)⟩
theorem QInv.start {q : Qu} (h : QInv q) (id dev : Int) : QInv (changeS q id (startF q dev)).1 := by
  rcases changeS_cases q id (startF q dev) with ⟨e, _⟩ | ⟨k, j, rfl, hj, h0, e⟩
  · rw [e]; exact h
  · rw [e]
    unfold startF at h0 ⊢
    split at h0
    · rename_i c1
      split at h0
      · rename_i c2
        split at h0
        · rename_i c3
          rw [if_pos c1, if_pos c2, if_pos c3]
          obtain ⟨g1, g2, g3, g4, g5, g6, g7, g8⟩ := h.jobs k j hj
          have c3' : j.bd + used j.tn q.js ≤ quo q j.tn := by
            simp only [rdy, Bool.and_eq_true, decide_eq_true_eq] at c3
            exact c3.2
          refine h.set hj ⟨g1, g2, g3, g4, g5, ⟨by show (1 : Int) ≤ 2; decide, by show (2 : Int) ≤ 4; decide⟩, fun _ => c1.1, fun hh => absurd rfl hh⟩ (fun _ i x hi hx sx => ?_) (fun t t0 t1 => ?_)
          · intro he
            have := List.any_eq_false.1 c1.2 x (List.mem_of_getElem? hx)
            exact this (by simp [hasD, sx, he])
          · have u0 := h.use t t0 t1
            have e1 : useOf t j = 0 := by rw [useOf, if_neg (fun hh => by rw [c2] at hh; omega)]
            rw [e1]
            by_cases ht : j.tn = t
            · rw [useOf, if_pos ⟨ht, rfl⟩]
              subst ht
              show used j.tn q.js - 0 + j.bd ≤ _
              omega
            · rw [useOf, if_neg (fun hh => ht hh.1)]
              omega
        · cases h0
      · cases h0
    · cases h0
theorem QInv.leave {q : Qu} (h : QInv q) (id st : Int) (hst : st = 1 ∨ st = 3) (im : Img) : QInv (changeS q id (leaveF st im)).1 := by
  rcases changeS_cases q id (leaveF st im) with ⟨e, _⟩ | ⟨k, j, rfl, hj, h0, e⟩
  · rw [e]; exact h
  · rw [e]
    unfold leaveF at h0 ⊢
    split at h0
    · rename_i c1
      rw [if_pos c1]
      obtain ⟨g1, g2, g3, g4, g5, g6, g7, g8⟩ := h.jobs k j hj
      refine h.set hj ⟨g1, g2, g3, g4, g5, ?_, fun hh => ?_, fun _ => rfl⟩ (fun hh => ?_) (fun t t0 t1 => ?_)
      · show 1 ≤ st ∧ st ≤ 4
        omega
      · exact absurd (show st = 2 from hh) (by omega)
      · exact absurd (show st = 2 from hh) (by omega)
      · have u0 := h.use t t0 t1
        rw [show useOf t { j with st := st, av := -1, im := im } = 0 by rw [useOf, if_neg (fun hh => by have : st = 2 := hh.2; omega)]]
        unfold useOf
        split <;> omega
    · cases h0
theorem QInv.cancel {q : Qu} (h : QInv q) (id : Int) : QInv (changeS q id cancelF).1 := by
  rcases changeS_cases q id cancelF with ⟨e, _⟩ | ⟨k, j, rfl, hj, h0, e⟩
  · rw [e]; exact h
  · rw [e]
    unfold cancelF at h0 ⊢
    split at h0
    · rename_i c1
      rw [if_pos c1]
      obtain ⟨g1, g2, g3, g4, g5, g6, g7, g8⟩ := h.jobs k j hj
      refine h.set hj ⟨g1, g2, g3, g4, g5, ⟨by show (1 : Int) ≤ 4; decide, by show (4 : Int) ≤ 4; decide⟩, fun hh => ?_, fun _ => rfl⟩ (fun hh => ?_) (fun t t0 t1 => ?_)
      · exact absurd (show (4 : Int) = 2 from hh) (by decide)
      · exact absurd (show (4 : Int) = 2 from hh) (by decide)
      · have u0 := h.use t t0 t1
        rw [show useOf t { j with st := 4, av := -1 } = 0 by rw [useOf, if_neg (fun hh => by have : (4 : Int) = 2 := hh.2; omega)]]
        unfold useOf
        split <;> omega
    · cases h0
theorem QInv.submit {q : Qu} (h : QInv q) (j : J) : QInv (submitS q j).1 := by
  unfold submitS
  split
  · rename_i hA
    split
    · exact h
    · rename_i hb
      split
      · exact h
      · have hA' := hA
        unfold argOk at hA'
        simp only [Bool.and_eq_true] at hA'
        obtain ⟨⟨⟨h1, h2⟩, h3⟩, h4⟩ := hA'
        have h1 := wi_true h1
        have h2 := wi_true h2
        have h4 := wi_true h4
        simp at h3
        have hg : ∀ (i : Nat) (x : J), (q.js ++ [subJ q j])[i]? = some x → (i < q.js.length ∧ q.js[i]? = some x) ∨ (i = q.js.length ∧ x = subJ q j) := fun i x hx => by
          by_cases hi : i < q.js.length
          · rw [List.getElem?_append_left hi] at hx; exact .inl ⟨hi, hx⟩
          · rw [List.getElem?_append_right (by omega)] at hx
            have := (List.getElem?_eq_some_iff.1 hx).1
            simp at this
            have hi' : i = q.js.length := by omega
            subst hi'
            simp at hx
            exact .inr ⟨rfl, hx.symm⟩
        refine ⟨h.q3, h.quos, fun k x hx => ?_, fun a b x y hab hx hy sx sy => ?_, fun t t0 t1 => ?_⟩
        · rcases hg k x hx with ⟨_, hx'⟩ | ⟨rfl, rfl⟩
          · exact h.jobs k x hx'
          · exact ⟨rfl, ⟨h1.1, by show j.tn < (q.qs.length : Int); omega⟩, h2, by show 0 ≤ j.kn; omega, ⟨h4.1, by show j.bd ≤ quo q j.tn; omega⟩, ⟨by show (1 : Int) ≤ 1; decide, by show (1 : Int) ≤ 4; decide⟩, fun hh => absurd (show (1 : Int) = 2 from hh) (by decide), fun _ => rfl⟩
        · rcases hg a x hx with ⟨_, hx'⟩ | ⟨rfl, rfl⟩
          · rcases hg b y hy with ⟨_, hy'⟩ | ⟨rfl, rfl⟩
            · exact h.dev a b x y hab hx' hy' sx sy
            · exact absurd (show (1 : Int) = 2 from sy) (by decide)
          · exact absurd (show (1 : Int) = 2 from sx) (by decide)
        · show used t (q.js ++ [subJ q j]) ≤ quo q t
          rw [used_append]
          have u0 := h.use t t0 t1
          have e : used t [subJ q j] = 0 := by
            simp only [used]
            rw [useOf, if_neg (fun hh => by have : (1 : Int) = 2 := hh.2; omega)]
            omega
          omega
  · exact h
theorem chS_1 (q : Qu) (id : Int) (f : J → Int × J) : (chS q id f).1 = (changeS q id f).1 := rfl
theorem QInv.do {q : Qu} (h : QInv q) (x : Raw) : QInv (doS q x).1 := by
  unfold doS
  split
  · exact h.submit _
  · split
    · exact h.start _ _
    · split
      · exact h.leave _ _ (.inl rfl) _
      · split
        · exact h.leave _ _ (.inr rfl) _
        · exact h.cancel _
theorem changeS_len (q : Qu) (id : Int) (f : J → Int × J) : (changeS q id f).1.js.length = q.js.length := by
  rcases changeS_cases q id f with ⟨e, _⟩ | ⟨k, j, _, _, _, e⟩ <;> rw [e]
  simp
theorem doS_len (q : Qu) (x : Raw) : (doS q x).1.js.length ≤ q.js.length + 1 := by
  unfold doS
  split
  · unfold submitS
    split
    · split
      · simp
      · split <;> simp
    · simp
  · repeat' split
    all_goals (rw [chS_1, changeS_len]; omega)
/-- A queue that was made. -/
def madeS (qs : List Int) (l : List Raw) : Qu := l.foldl (fun q x => (doS q x).1) ⟨qs, []⟩
theorem madeS_snoc (qs : List Int) (l : List Raw) (x : Raw) : madeS qs (l ++ [x]) = (doS (madeS qs l) x).1 := by simp [madeS]
theorem foldS_len : ∀ (l : List Raw) (q : Qu), (l.foldl (fun q x => (doS q x).1) q).js.length ≤ q.js.length + l.length
  | [], q => by simp
  | x :: l, q => by
    have h1 := doS_len q x
    have h2 := foldS_len l (doS q x).1
    simp only [List.foldl_cons, List.length_cons]
    omega
theorem madeS_len (qs : List Int) (l : List Raw) : (madeS qs l).js.length ≤ l.length := by
  have := foldS_len l ⟨qs, []⟩
  simpa [madeS] using this
theorem foldS_inv : ∀ (l : List Raw) (q : Qu), QInv q → QInv (l.foldl (fun q x => (doS q x).1) q)
  | [], q, h => h
  | x :: l, q, h => foldS_inv l _ (h.do x)
theorem qinv_empty {qs : List Int} (h3 : qs.length = 3) (h : ∀ n ∈ qs, 0 ≤ n ∧ n ≤ 29) : QInv ⟨qs, []⟩ := by
  refine ⟨h3, h, fun k j hj => by simp at hj, fun i k a b _ ha => by simp at ha, fun t t0 t1 => ?_⟩
  have := h _ (quo_mem (q := ⟨qs, []⟩) t0 (by rw [h3]; omega))
  show (0 : Int) ≤ _
  omega
theorem madeS_inv {qs : List Int} (h3 : qs.length = 3) (h : ∀ n ∈ qs, 0 ≤ n ∧ n ≤ 29) (l : List Raw) : QInv (madeS qs l) := foldS_inv l _ (qinv_empty h3 h)
end Go.Proofs.Ytopmdgheacjkcaa
