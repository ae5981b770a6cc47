/- The reference's Cancel, Park, End. -/
import Derived.Test.YtopmdgheacjkcaaT15
set_option linter.unusedVariables false
set_option linter.unusedSimpArgs false
namespace Go.Proofs.Ytopmdgheacjkcaa
open Go.RowKit
structure Rt (q : Qu) : Prop where
  fine : Fine q
  ids : ∀ (k : Nat) (j : J), q.js[k]? = some j → j.id = (k : Int) + 1
/-- The last step of these: a result of a call is stored, and handed back. -/
theorem fin45 {w w1 : World} {g : Nat} {cs : List Value} {v' : Qv} {q' : Qu} {i x : Int} (hb : Hid (Below w.heap.size w w1)) (hB : Blk w1 g 45 cs) (hg : w.heap.size ≤ g) (hq : QIn (w1.setCells g 0 (v'.dcells q' i x)) v' q') :
    RetD q' i x w (.returned (.agg (v'.dcells q' i x).toArray)) (w1.setCells g 0 (v'.dcells q' i x)) :=
  ⟨v', rfl, hq, below_setCells (w := 0) (g := g) _ 0 w w1 hb hg⟩
theorem fin45a {w w1 : World} {g : Nat} {cs : List Value} {v' : Qv} {q' : Qu} {i x : Int} (hb : Hid (Below w.heap.size w w1)) (hB : Blk w1 g 45 cs) (hg : w.heap.size ≤ g) (hq : QIn (w1.setCells g 0 (v'.dcells q' i x)) v' q') (o : Obj) :
    RetD q' i x w (.returned (.agg (v'.dcells q' i x).toArray)) ((w1.setCells g 0 (v'.dcells q' i x)).alloc o) :=
  ⟨v', rfl, hq.below (ba_ (b0_ _) o).out, ba_ (below_setCells (w := 0) (g := g) _ 0 w w1 hb hg) o⟩
theorem changeS_no {q : Qu} {id : Int} {f : J → Int × J} (h : ¬ (1 ≤ id ∧ id ≤ q.js.length)) : changeS q id f = (q, 411) := by rw [changeS, if_neg h]
theorem changeS_at {q : Qu} {k : Nat} {j : J} (f : J → Int × J) (hj : q.js[k]? = some j) : changeS q ((k : Int) + 1) f = if (f j).1 = 0 then ({ q with js := q.js.set k (f j).2 }, 0) else (q, (f j).1) := by
  have hk := (List.getElem?_eq_some_iff.1 hj).1
  have e : ((k : Int) + 1 - 1).toNat = k := by omega
  have e2 : q.js.getD k rj = j := by rw [List.getD_eq_getElem?_getD, hj]; rfl
  rw [changeS, if_pos (by omega), e, e2]
/-- A fixed row of the four cells of no result. -/
def z45 : List Value := [.slice none 0 0, .slice none 0 0, .int .i64 0, .int .i64 0]
set_option maxHeartbeats 600000 in
set_option maxRecDepth 100000 in
theorem rcancel_calls (v : Qv) (q : Qu) (id : Int) (w : World) (hq : QIn w v q) (hR : Rt q) : Calls Try.prog 30 #[v.val q, .int .i64 id] w (RetD (changeS q id cancelF).1 0 (changeS q id cancelF).2 w) := by
  have hl := hR.fine.len
  obtain ⟨qa, qc, ja, jc⟩ := v
  have hh := fun W => has_calls ⟨qa, qc, ja, jc⟩ q id W hl
  unfold Qv.val at hh ⊢
  have HH := Lib.hid hh; clear hh
  have HQ := Lib.hid hq; clear hq
  have HR := Lib.hid hR; clear hR
  have hb0 := ba_ (ba_ (b0_ w) (.cells #[.slice qa q.qs.length qc, .slice ja q.js.length jc] 29)) (.cells #[.slice none 0 0, .slice none 0 0, .int .i64 0, .int .i64 0] 45)
  have hq0 := Blk.alloc (Blk.new w 29 [.slice qa q.qs.length qc, .slice ja q.js.length jc]) (.cells #[.slice none 0 0, .slice none 0 0, .int .i64 0, .int .i64 0] 45)
  have hr0 := Blk.new (w.alloc (.cells #[.slice qa q.qs.length qc, .slice ja q.js.length jc] 29)) 45 [.slice none 0 0, .slice none 0 0, .int .i64 0, .int .i64 0]
  simp only [World.size_alloc] at hr0
  have HB0 := Lib.hid hb0; have HQ0 := Lib.hid hq0; have HR0 := Lib.hid hr0
  clear hb0 hq0 hr0
  go_enter Try.func30, Try.ntmps30
  go_wp2_with fail
  refine (HH.out _).mono ?_
  rintro e w1 ⟨rfl, hb1⟩
  have HB := Lib.hid (kb_ HB0.out hb1)
  have HX := Lib.hid (HQ0.out.below hb1)
  have HZ := Lib.hid (HR0.out.below hb1)
  clear hb1 HB0 HQ0 HR0
  have q0 := HX.out.cell 0 _ rfl
  have q1 := HX.out.cell 1 _ rfl
  have r0 := HZ.out.cell 0 _ rfl
  have r1 := HZ.out.cell 1 _ rfl
  have r2 := HZ.out.cell 2 _ rfl
  have r3 := HZ.out.cell 3 _ rfl
  have rf := HZ.out.frozen
  have zl := HX.out.lt
  have zl1 := HZ.out.lt
  by_cases hid : 1 ≤ id ∧ id ≤ q.js.length
  · obtain ⟨k, rfl⟩ : ∃ k : Nat, id = k + 1 := ⟨(id - 1).toNat, by omega⟩
    have hk : k < q.js.length := by omega
    obtain ⟨j, hj⟩ : ∃ j, q.js[k]? = some j := ⟨_, List.getElem?_eq_getElem hk⟩
    obtain ⟨ad, hja, h0, h1, h2, h3, h4, h5, h6, h7, h8, h9, h10⟩ := (HQ.out.below HB.out.out).job k hk j hj
    cases hja
    have hS := changeS_at cancelF hj
    rw [wi_t (show 1 ≤ (k : Int) + 1 by omega) (show (k : Int) + 1 ≤ q.js.length by omega)]
    clear hid
    have HJ := Lib.hid hj; clear hj
    by_cases c1 : j.st = 1
    · have e1 : (j.st != 1) = false := by simpa using c1
      have HS := Lib.hid (show changeS q ((k : Int) + 1) cancelF = ({ q with js := q.js.set k { j with st := 4, av := -1 } }, 0) by rw [hS, show cancelF j = (0, { j with st := 4, av := -1 }) by rw [cancelF, if_pos (Or.inl c1)]]; rfl)
      clear hS c1
      go_wp2_with fail
      have hw := fun W hq => with_calls ⟨qa, qc, some ad, jc⟩ q { j with st := 4, av := -1 } k W hq hl hk (HR.out.ids k j HJ.out)
      generalize ({ q with js := q.js.set k { j with st := 4, av := -1 } } : Qu) = q' at hw HS
      refine (hw _ ((HQ.out.below HB.out.out).below (ba_ (b0_ w1) _).out)).mono ?_
      clear hw
      rintro e w2 ⟨v', rfl, hq2, hb2⟩
      have HL2 := Lib.hid (kb_ (ba_ HB.out _) hb2)
      have HZ2 := Lib.hid ((HZ.out.alloc _).below hb2)
      have HQ2 := Lib.hid hq2
      clear hq2 hb2 q0 q1 r0 r1 r2 r3 rf h0 h1 h2 h3 h4 h5 h6 h7 h8 h9 h10
      have r0 := HZ2.out.cell 0 _ rfl
      have r1 := HZ2.out.cell 1 _ rfl
      have r2 := HZ2.out.cell 2 _ rfl
      have r3 := HZ2.out.cell 3 _ rfl
      have rf := HZ2.out.frozen
      unfold Qv.done
      go_wp2
      rw [HS.out]
      refine bodyPost_ret (results_done rfl _ _ (w.heap.size + 1) _ rfl rfl (HZ2.out.put (v'.dcells q' 0 0) rfl)) rfl ?_
      exact fin45 HL2.out HZ2.out (Nat.le_succ _) (HQ2.out.put HZ2.out t45 0 _)
    · by_cases c2 : j.st = 2
      · have e1 : (j.st != 1) = true := by simpa using c1
        have e2 : (j.st != 2) = false := by simpa using c2
        have HS := Lib.hid (show changeS q ((k : Int) + 1) cancelF = ({ q with js := q.js.set k { j with st := 4, av := -1 } }, 0) by rw [hS, show cancelF j = (0, { j with st := 4, av := -1 }) by rw [cancelF, if_pos (Or.inr c2)]]; rfl)
        clear hS c1 c2
        go_wp2_with fail
        have hw := fun W hq => with_calls ⟨qa, qc, some ad, jc⟩ q { j with st := 4, av := -1 } k W hq hl hk (HR.out.ids k j HJ.out)
        generalize ({ q with js := q.js.set k { j with st := 4, av := -1 } } : Qu) = q' at hw HS
        refine (hw _ ((HQ.out.below HB.out.out).below (ba_ (b0_ w1) _).out)).mono ?_
        clear hw
        rintro e w2 ⟨v', rfl, hq2, hb2⟩
        have HL2 := Lib.hid (kb_ (ba_ HB.out _) hb2)
        have HZ2 := Lib.hid ((HZ.out.alloc _).below hb2)
        have HQ2 := Lib.hid hq2
        clear hq2 hb2 q0 q1 r0 r1 r2 r3 rf h0 h1 h2 h3 h4 h5 h6 h7 h8 h9 h10
        have r0 := HZ2.out.cell 0 _ rfl
        have r1 := HZ2.out.cell 1 _ rfl
        have r2 := HZ2.out.cell 2 _ rfl
        have r3 := HZ2.out.cell 3 _ rfl
        have rf := HZ2.out.frozen
        unfold Qv.done
        go_wp2
        rw [HS.out]
        refine bodyPost_ret (results_done rfl _ _ (w.heap.size + 1) _ rfl rfl (HZ2.out.put (v'.dcells q' 0 0) rfl)) rfl ?_
        exact fin45 HL2.out HZ2.out (Nat.le_succ _) (HQ2.out.put HZ2.out t45 0 _)
      · have e1 : (j.st != 1) = true := by simpa using c1
        have e2 : (j.st != 2) = true := by simpa using c2
        have HS := Lib.hid (show changeS q ((k : Int) + 1) cancelF = (q, 430) by rw [hS, show cancelF j = (430, j) by rw [cancelF, if_neg (by simp [c1, c2])]]; rfl)
        clear hS c1 c2
        go_wp2
        rw [HS.out]
        refine bodyPost_ret (results_done rfl _ _ (w.heap.size + 1) _ rfl rfl ((HZ.out.put (Qv.dcells ⟨qa, qc, some ad, jc⟩ q 0 430) rfl).alloc _)) rfl ?_
        exact fin45a (v' := ⟨qa, qc, some ad, jc⟩) (q' := q) (i := 0) (x := 430) HB.out HZ.out (Nat.le_succ _) ((HQ.out.below HB.out.out).put HZ.out t45 0 _) _
  · have HS := Lib.hid (changeS_no (f := cancelF) hid)
    rw [show wi id 1 q.js.length = false from wi_f (by omega)]
    clear hid
    go_wp2
    rw [HS.out]
    refine bodyPost_ret (results_done rfl _ _ (w.heap.size + 1) _ rfl rfl (HZ.out.put (Qv.dcells ⟨qa, qc, ja, jc⟩ q 0 411) rfl)) rfl ?_
    exact fin45 HB.out HZ.out (Nat.le_succ _) (HQ.out.below (below_setCells (w := 0) (g := w.heap.size + 1) _ 0 w w1 HB.out.out (Nat.le_succ _)))
end Go.Proofs.Ytopmdgheacjkcaa
