/- A job that is parked, started again, and parked again; plain laws. -/
import Derived.Test.YtopmdgheacjkcaaP4
set_option linter.unusedVariables false
set_option linter.unusedSimpArgs false
namespace Go.Proofs.Ytopmdgheacjkcaa
def pk (im : Img) (b : J) : J := { b with st := 1, av := -1, im := im }
def qPk (q : Qu) (k : Nat) (b : J) (im : Img) : Qu := { q with js := q.js.set k (pk im b) }
def qSt (q : Qu) (k : Nat) (b : J) (im : Img) (dev : Int) : Qu := { qPk q k b im with js := (qPk q k b im).js.set k { pk im b with st := 2, av := dev } }
theorem park_no {q : Qu} {k : Nat} {b : J} (hb : q.js[k]? = some b) (hs : b.st ≠ 2) (im : Img) : changeS q ((k : Int) + 1) (leaveF 1 im) = (q, 430) := by
  rw [changeS_at _ hb, show leaveF 1 im b = (430, b) from by unfold leaveF; rw [if_neg hs]]
  rfl
theorem park_yes {q : Qu} {k : Nat} {b : J} (hb : q.js[k]? = some b) (hs : b.st = 2) (im : Img) : changeS q ((k : Int) + 1) (leaveF 1 im) = (qPk q k b im, 0) := by
  rw [changeS_at _ hb, show leaveF 1 im b = (0, pk im b) from by unfold leaveF; rw [if_pos hs]; rfl]
  rfl
theorem qPk_get {q : Qu} {k : Nat} {b : J} (hb : q.js[k]? = some b) (im : Img) : (qPk q k b im).js[k]? = some (pk im b) := by
  have hk := (List.getElem?_eq_some_iff.1 hb).1
  show (q.js.set k (pk im b))[k]? = _
  rw [List.getElem?_set_self hk]
theorem qPk_other (q : Qu) {k i : Nat} (b : J) (im : Img) (h : i ≠ k) : (qPk q k b im).js[i]? = q.js[i]? := by
  show (q.js.set k (pk im b))[i]? = _
  rw [List.getElem?_set_ne (Ne.symm h)]
theorem qPk_len (q : Qu) (k : Nat) (b : J) (im : Img) : (qPk q k b im).js.length = q.js.length := by
  show (q.js.set k (pk im b)).length = _
  rw [List.length_set]
theorem qSt_len (q : Qu) (k : Nat) (b : J) (im : Img) (dev : Int) : (qSt q k b im dev).js.length = q.js.length := by
  show ((qPk q k b im).js.set k _).length = _
  rw [List.length_set, qPk_len]
theorem qPk_made {q : Qu} (h : MadeQ q) {k : Nat} {b : J} (hb : q.js[k]? = some b) (hs : b.st = 2) (im : Img) : MadeQ (qPk q k b im) := by
  have h1 := h.inv.leave ((k : Int) + 1) 1 (.inl rfl) im
  rw [park_yes hb hs im] at h1
  exact ⟨h1, h.dev.set (fun hh => absurd (show (1 : Int) = 2 from hh) (by decide)), by rw [qPk_len]; exact h.len⟩
theorem qPk_rdy {q : Qu} (h : MadeQ q) {k : Nat} {b : J} (hb : q.js[k]? = some b) (hs : b.st = 2) (im : Img) : rdy (qPk q k b im) (pk im b) = true := by
  simp only [rdy, Bool.and_eq_true, decide_eq_true_eq]
  refine ⟨rfl, ?_⟩
  show b.bd + used b.tn (q.js.set k (pk im b)) ≤ quo q b.tn
  rw [used_set _ _ _ _ _ hb]
  have e1 : useOf b.tn b = b.bd := by rw [useOf, if_pos ⟨rfl, hs⟩]
  have e2 : useOf b.tn (pk im b) = 0 := by rw [useOf, if_neg (fun hh => absurd (show (1 : Int) = 2 from hh.2) (by decide))]
  have h1 := h.inv.bd hb
  have := h.inv.use b.tn h1.1 h1.2.1
  omega
theorem again_ok {q : Qu} (h : MadeQ q) {k : Nat} {b : J} (hb : q.js[k]? = some b) (hs : b.st = 2) (im : Img) (dev : Int) (hd : 4 ≤ dev ∧ dev ≤ 99) :
    changeS (qPk q k b im) ((k : Int) + 1) (startF (qPk q k b im) dev) = (qSt q k b im dev, 0) := start_ok (qPk_made h hb hs im) (qPk_get hb im) (qPk_rdy h hb hs im) dev hd
theorem back_ok {q : Qu} {k : Nat} {b : J} (hb : q.js[k]? = some b) (im : Img) (dev : Int) : changeS (qSt q k b im dev) ((k : Int) + 1) (leaveF 1 im) = (qPk q k b im, 0) := by
  have hk := (List.getElem?_eq_some_iff.1 hb).1
  have hg : (qSt q k b im dev).js[k]? = some { pk im b with st := 2, av := dev } := by
    show ((qPk q k b im).js.set k _)[k]? = _
    rw [List.getElem?_set_self (by rw [qPk_len]; exact hk)]
  rw [park_yes hg rfl im]
  show (({ qs := q.qs, js := (((q.js.set k (pk im b)).set k _).set k (pk im b)) } : Qu), (0 : Int)) = _
  rw [List.set_set, List.set_set]
  rfl
end Go.Proofs.Ytopmdgheacjkcaa
