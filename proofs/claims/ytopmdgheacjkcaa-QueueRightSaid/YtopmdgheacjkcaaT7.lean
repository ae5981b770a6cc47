/- slices.MinFunc over jobs. -/
import Derived.Test.YtopmdgheacjkcaaT6
import Derived.StillTailTactics
import Derived.Outline
set_option linter.unusedVariables false
set_option linter.unusedSimpArgs false
namespace Go.Proofs.Ytopmdgheacjkcaa
open Go.RowKit
def CmpF (g : Nat) (lb : Array Value) (f : J → J → Int) (B : Nat) (w : World) : Prop :=
  ∀ (W : World) (a b : J), Below B w W → Calls Try.prog g (#[a.val, b.val] ++ lb) W fun e w' => e = .returned (.int .i64 (f a b)) ∧ Below W.heap.size W w'
def minF (f : J → J → Int) (m : J) : List J → J
  | [] => m
  | x :: l => minF f (if f x m < 0 then x else m) l
theorem minF_snoc (f : J → J → Int) (l : List J) (x : J) : ∀ m, minF f m (l ++ [x]) = (if f x (minF f m l) < 0 then x else minF f m l) := by
  induction l with
  | nil => intro m; rfl
  | cons y l ih => intro m; exact ih _
def minAll (f : J → J → Int) : List J → J
  | [] => rj
  | x :: l => minF f x l
theorem minAll_take (f : J → J → Int) (xs : List J) (k : Nat) (j : J) (hk : 0 < k) (hj : xs[k]? = some j) : minAll f (xs.take (k + 1)) = (if f j (minAll f (xs.take k)) < 0 then j else minAll f (xs.take k)) := by
  obtain ⟨hl, rfl⟩ := List.getElem?_eq_some_iff.1 hj
  rw [List.take_succ_eq_append_getElem hl]
  obtain ⟨y, l, e⟩ : ∃ y l, xs.take k = y :: l := by
    cases h : xs.take k with
    | nil => have := congrArg List.length h; rw [List.length_take, List.length_nil] at this; omega
    | cons y l => exact ⟨y, l, rfl⟩
  rw [e]
  exact minF_snoc f l _ y
def RetJ (j : J) (w : World) (e : Ending) (w' : World) : Prop := e = .returned j.val ∧ Below w.heap.size w w'
def Box40 (w : World) (g : Nat) (j : J) : Prop := w.heap[g]? = some (.cells #[.int .i64 j.id, .int .i64 j.tn, .int .i64 j.pr, .int .i64 j.kn, .int .i64 j.bd, .int .i64 j.im.g, .slice j.im.ar.a j.im.ar.n j.im.ar.c, .slice j.im.gl.a j.im.gl.n j.im.gl.c, .slice j.im.gr.a j.im.gr.n j.im.gr.c, .int .i64 j.st, .int .i64 j.av] 40 (0, 0))
theorem Box40.cell {w : World} {g : Nat} {j : J} (h : Box40 w g j) : w.cell? ⟨g, 0, none⟩ = some (.int .i64 j.id) ∧ w.cell? ⟨g, 1, none⟩ = some (.int .i64 j.tn) ∧ w.cell? ⟨g, 2, none⟩ = some (.int .i64 j.pr) ∧ w.cell? ⟨g, 3, none⟩ = some (.int .i64 j.kn) ∧
    w.cell? ⟨g, 4, none⟩ = some (.int .i64 j.bd) ∧ w.cell? ⟨g, 5, none⟩ = some (.int .i64 j.im.g) ∧ w.cell? ⟨g, 6, none⟩ = some (.slice j.im.ar.a j.im.ar.n j.im.ar.c) ∧
    w.cell? ⟨g, 7, none⟩ = some (.slice j.im.gl.a j.im.gl.n j.im.gl.c) ∧ w.cell? ⟨g, 8, none⟩ = some (.slice j.im.gr.a j.im.gr.n j.im.gr.c) ∧ w.cell? ⟨g, 9, none⟩ = some (.int .i64 j.st) ∧
    w.cell? ⟨g, 10, none⟩ = some (.int .i64 j.av) := by
  have hc := fun (i : Nat) => cell_of_row _ g i _ _ _ h
  refine ⟨?_, ?_, ?_, ?_, ?_, ?_, ?_, ?_, ?_, ?_, ?_⟩ <;> rw [hc] <;> rfl
theorem Box40.frozen {w : World} {g : Nat} {j : J} (h : Box40 w g j) (q : Nat) : w.frozen? ⟨g, q, none⟩ = false := frozen_of_row _ _ _ _ _ h
theorem Box40.lt {w : World} {g : Nat} {j : J} (h : Box40 w g j) : g < w.heap.size := (Array.getElem?_eq_some_iff.1 h).1
theorem Box40.below {w w' : World} {g : Nat} {j : J} (h : Box40 w g j) (hb : Below w.heap.size w w') : Box40 w' g j := (hb.block g h.lt).trans h
def setA (cs : Array Value) : Nat → List Value → Array Value
  | _, [] => cs
  | o, v :: r => setA (cs.setIfInBounds o v) (o + 1) r
theorem setA_list : ∀ (vs : List Value) (o : Nat) (cs : Array Value), (setA cs o vs).toList = setL cs.toList o vs
  | [], _, _ => rfl
  | v :: r, o, cs => by rw [setA, setL, setA_list r (o + 1)]; simp
theorem setL_all : ∀ (vs ys p : List Value), ys.length = vs.length → setL (p ++ ys) p.length vs = p ++ vs
  | [], ys, p, h => by rw [List.eq_nil_of_length_eq_zero h]; rfl
  | v :: r, [], p, h => by simp at h
  | v :: r, y :: ys, p, h => by
    have ih := setL_all r ys (p ++ [v]) (by simpa using h)
    rw [setL]
    have e : (p ++ y :: ys).set p.length v = (p ++ [v]) ++ ys := by simp
    rw [e]
    rw [List.length_append] at ih
    simpa using ih
theorem heap_setCells_same {g : Nat} {t : TypeId} : ∀ (vs : List Value) (o : Nat) (w : World) (cs : Array Value), w.heap[g]? = some (.cells cs t (0, 0)) → (w.setCells g o vs).heap[g]? = some (.cells (setA cs o vs) t (0, 0))
  | [], _, _, _, h => h
  | v :: r, o, w, cs, h => by
    rw [World.setCells, setA]
    exact heap_setCells_same r (o + 1) _ _ (heap_setCell_same w g o cs t v h)
theorem heap_setCells_all {g : Nat} {t : TypeId} (vs : List Value) (w : World) (cs : Array Value) (h : w.heap[g]? = some (.cells cs t (0, 0))) (hl : cs.size = vs.length) : (w.setCells g 0 vs).heap[g]? = some (.cells vs.toArray t (0, 0)) := by
  rw [heap_setCells_same vs 0 w cs h]
  have e : setA cs 0 vs = vs.toArray := by
    apply Array.ext'
    rw [setA_list]
    exact setL_all vs cs.toList [] (by simpa using hl)
  rw [e]
theorem Box40.put {w : World} {g : Nat} {a : J} (h : Box40 w g a) (j : J) : Box40 (w.setCells g 0 j.cells) g j := heap_setCells_all j.cells w _ h rfl
theorem heap_setCells_other {g k : Nat} (hk : k ≠ g) : ∀ (vs : List Value) (o : Nat) (W : World), (W.setCells g o vs).heap[k]? = W.heap[k]?
  | [], _, _ => rfl
  | v :: r, o, W => by rw [World.setCells, heap_setCells_other hk r, heap_setCell_other _ _ _ _ hk]
theorem Box40.other {w : World} {g g' : Nat} {a : J} (h : Box40 w g a) (hg : g ≠ g') (j : J) : Box40 (w.setCells g' 0 j.cells) g a := (heap_setCells_other hg _ _ _).trans h
set_option maxHeartbeats 2000000 in
set_option maxRecDepth 100000 in
theorem minFunc_calls (g : Nat) (lb : Array Value) (eg : ∀ args w, (callFunc g args).run Try.prog w = .ok (.enter g args) w) (f : J → J → Int) (gb c : Nat) (xs : List J) (w : World)
    (B BB : Nat) (hB : B ≤ w.heap.size) (hp : CmpF g lb f B w) (hr : JRow w BB (.slice (some ⟨gb, 0, none⟩) xs.length c) xs) (hl : xs.length ≤ 1000) (hpos : 0 < xs.length) :
    Calls Try.prog 55 #[.slice (some ⟨gb, 0, none⟩) xs.length c, .func (.func g) #[] lb] w (RetJ (minAll f xs) w) := by
  have HP := Lib.hid hp; clear hp
  have HR := Lib.hid hr; clear hr
  obtain ⟨j0, hj0⟩ : ∃ j, xs[0]? = some j := ⟨_, List.getElem?_eq_getElem hpos⟩
  obtain ⟨h0, h1, h2, h3, h4, h5, h6, h7, h8, h9, h10⟩ := HR.out.cell 0 j0 hj0
  simp only [Nat.zero_mul, Nat.zero_add] at h0 h1 h2 h3 h4 h5 h6 h7 h8 h9 h10
  have HJ0 := Lib.hid hj0; clear hj0
  have hlt : gb < w.heap.size := World.block_lt_of_cell? w _ h0
  go_enter Try.func55, Try.ntmps55
  go_wp2
  go_loopg [6] xs.length (fun gg v6 wr => ∃ k : Nat, 0 < k ∧ k ≤ xs.length ∧ xs.length - k ≤ gg ∧ v6 = .int .i64 k ∧ Hid (Box40 wr (w.heap.size + 1) (minAll f (xs.take k))) ∧ Hid (Box40 wr w.heap.size rj) ∧ Hid (Below w.heap.size w wr))
  case atStart =>
    refine ⟨1, by omega, by omega, by omega, rfl, ?_, ?_, ba_ (ba_ (b0_ w) _) _⟩
    · have e : minAll f (xs.take 1) = j0 := by
        have h := HJ0.out
        cases xs with
        | nil => simp at h
        | cons x l => simp at h; subst h; rfl
      rw [e]
      exact heap_alloc2_new w _ _
    · exact heap_alloc2_old w _ _
  case round =>
    obtain ⟨k, hk0, hk, hg, rfl, HX, HZ, HB⟩ := hrel
    clear h0 h1 h2 h3 h4 h5 h6 h7 h8 h9 h10
    by_cases hlk : k < xs.length
    · obtain ⟨j, hj⟩ : ∃ j, xs[k]? = some j := ⟨_, List.getElem?_eq_getElem hlk⟩
      have HM := Lib.hid (minAll_take f xs k j hk0 hj)
      generalize minAll f (xs.take k) = mm at HX HM
      obtain ⟨h0, h1, h2, h3, h4, h5, h6, h7, h8, h9, h10⟩ := (HR.out.below HB.out).cell k j hj
      obtain ⟨t0, t1, t2, t3, t4, t5, t6, t7, t8, t9, t10⟩ := HX.out.cell
      have hcall := fun W hb => HP.out W j mm hb
      unfold J.val at hcall
      have HC := Lib.hid hcall; clear hcall
      have HJ := Lib.hid hj; clear hj
      go_wp2_with fail
      go_still_tail 6, (by kernel_rfl)
      clear h0 h1 h2 h3 h4 h5 h6 h7 h8 h9 h10 t0 t1 t2 t3 t4 t5 t6 t7 t8 t9 t10
      go_wp2_with fail
      refine (HC.out _ (HB.out.drew.mono hB)).mono ?_
      rintro e w2 ⟨rfl, hb2⟩
      have HB2 := Lib.hid (kb_ (bd_ HB) hb2)
      have HX2 : Hid (Box40 w2 (w.heap.size + 1) mm) := Box40.below (w := wr.drew) HX.out hb2
      have HZ2 : Hid (Box40 w2 w.heap.size rj) := Box40.below (w := wr.drew) HZ.out hb2
      clear hb2 HB HX HZ
      by_cases hf : f j mm < 0
      · have hs := HM.out
        rw [if_pos hf] at hs
        have HS := Lib.hid hs; clear hs HM
        obtain ⟨h0, h1, h2, h3, h4, h5, h6, h7, h8, h9, h10⟩ := (HR.out.below HB2.out).cell k j HJ.out
        obtain ⟨t0, t1, t2, t3, t4, t5, t6, t7, t8, t9, t10⟩ := HX2.out.cell
        have hfz := HX2.out.frozen
        go_wp2
        go_roundg (xs.length - (k + 1))
        case measure => omega
        case rel =>
          exact ⟨k + 1, by omega, by omega, by omega, by go_num, by rw [HS.out]; exact HX2.out.put j, HZ2.out.other (by omega) j, below_setCells (w := 0) j.cells 0 w w2 HB2.out (by omega)⟩
      · have hs := HM.out
        rw [if_neg hf] at hs
        have HS := Lib.hid hs; clear hs HM
        go_wp2
        go_roundg (xs.length - (k + 1))
        case measure => omega
        case rel =>
          exact ⟨k + 1, by omega, by omega, by omega, by go_num, by rw [HS.out]; exact HX2, HZ2, HB2⟩
    · obtain ⟨h0, h1, h2, h3, h4, h5, h6, h7, h8, h9, h10⟩ := HZ.out.cell
      obtain ⟨t0, t1, t2, t3, t4, t5, t6, t7, t8, t9, t10⟩ := HX.out.cell
      have hfz := HZ.out.frozen
      have HM := Lib.hid (show xs.take k = xs by rw [List.take_of_length_le (by omega)])
      generalize hmm : minAll f (xs.take k) = mm at HX t0 t1 t2 t3 t4 t5 t6 t7 t8 t9 t10
      have HMM := Lib.hid hmm; clear hmm
      go_wp2
      rw [HM.out] at HMM
      rw [HMM.out]
      exact bodyPost_ret (results_cell_row rfl _ _ w.heap.size 40 mm.cells.toArray (0, 0) _ rfl (HZ.out.put mm) Try.underlying40 rfl (by kernel_rfl)) rfl ⟨rfl, below_setCells (w := 0) mm.cells 0 w wr HB.out (Nat.le_refl _)⟩
end Go.Proofs.Ytopmdgheacjkcaa
