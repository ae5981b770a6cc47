/- queue.change. -/
import Derived.Test.YtopmdgheacjkcaaT8
import Derived.Outline
set_option linter.unusedVariables false
set_option linter.unusedSimpArgs false
namespace Go.Proofs.Ytopmdgheacjkcaa
open Go.RowKit
theorem load29 (w : World) (g : Nat) (cs : List Value) (hl : cs.length = 2) (hg : w.heap[g]? = some (.cells cs.toArray 29 (0, 0))) : Sem.run Try.prog (loadVar 29 ⟨g, 0, none⟩) w = .ok (.agg cs.toArray) w :=
  run_loadVar_row w g 29 29 cs.toArray (0, 0) _ hg Try.underlying29 rfl (by
    have h : (Try.prog.info? 29).map (·.size) = some 2 := by kernel_rfl
    rw [h]; simp [hl])
theorem results_ct {fn : Func} {p u : Tmp} (h : fn.results = #[.cell p 29, .tmp u]) (tmps : Array Value) (w : World) (g : Nat) (cs : List Value) (hl : cs.length = 2)
    (hp : tmps.getD p undef = .pointer (some ⟨g, 0, none⟩)) (hg : w.heap[g]? = some (.cells cs.toArray 29 (0, 0))) :
    (results fn tmps).run Try.prog w = .ok (.tuple #[.agg cs.toArray, tmps.getD u undef]) w := by
  have hp' : tmps[p]?.getD undef = .pointer (some ⟨g, 0, none⟩) := by simpa using hp
  simp [results, h, hp', asAddr, load29 w g cs hl hg]
theorem results_ctt {fn : Func} {p u x : Tmp} (h : fn.results = #[.cell p 29, .tmp u, .tmp x]) (tmps : Array Value) (w : World) (g : Nat) (cs : List Value) (hl : cs.length = 2)
    (hp : tmps.getD p undef = .pointer (some ⟨g, 0, none⟩)) (hg : w.heap[g]? = some (.cells cs.toArray 29 (0, 0))) :
    (results fn tmps).run Try.prog w = .ok (.tuple #[.agg cs.toArray, tmps.getD u undef, tmps.getD x undef]) w := by
  have hp' : tmps[p]?.getD undef = .pointer (some ⟨g, 0, none⟩) := by simpa using hp
  simp [results, h, hp', asAddr, load29 w g cs hl hg]
def Blk (w : World) (g : Nat) (t : TypeId) (cs : List Value) : Prop := w.heap[g]? = some (.cells cs.toArray t (0, 0))
theorem Blk.lt {w : World} {g : Nat} {t : TypeId} {cs : List Value} (h : Blk w g t cs) : g < w.heap.size := (Array.getElem?_eq_some_iff.1 h).1
theorem Blk.below {w w' : World} {g : Nat} {t : TypeId} {cs : List Value} (h : Blk w g t cs) (hb : Below w.heap.size w w') : Blk w' g t cs := (hb.block g h.lt).trans h
theorem Blk.put {w : World} {g : Nat} {t : TypeId} {cs : List Value} (h : Blk w g t cs) (vs : List Value) (hl : cs.length = vs.length) : Blk (w.setCells g 0 vs) g t vs := heap_setCells_all vs w _ h (by simpa using hl)
theorem Blk.new (w : World) (t : TypeId) (cs : List Value) : Blk (w.alloc (.cells cs.toArray t)) w.heap.size t cs := heap_alloc_new w _
theorem Blk.alloc {w : World} {g : Nat} {t : TypeId} {cs : List Value} (h : Blk w g t cs) (o : Obj) : Blk (w.alloc o) g t cs := (heap_alloc_old w o h.lt).trans h
theorem Blk.set {w : World} {g : Nat} {t : TypeId} {cs : List Value} (h : Blk w g t cs) (i : Nat) (v : Value) : Blk (w.setCell ⟨g, i, none⟩ v) g t (cs.set i v) := by
  have := heap_setCell_same w g i _ t v h
  unfold Blk
  rw [this]
  simp
theorem Blk.far {w : World} {g g' : Nat} {t : TypeId} {cs : List Value} (h : Blk w g t cs) (hg : g ≠ g') (i : Nat) (v : Value) : Blk (w.setCell ⟨g', i, none⟩ v) g t cs := (heap_setCell_other w ⟨g', i, none⟩ g v hg).trans h
theorem Blk.fars {w : World} {g g' : Nat} {t : TypeId} {cs : List Value} (h : Blk w g t cs) (hg : g ≠ g') (o : Nat) (vs : List Value) : Blk (w.setCells g' o vs) g t cs := (heap_setCells_other hg vs o w).trans h
theorem Blk.cell {w : World} {g : Nat} {t : TypeId} {cs : List Value} (h : Blk w g t cs) (i : Nat) (v : Value) (hv : cs[i]? = some v) : w.cell? ⟨g, i, none⟩ = some v := by
  rw [cell_of_row w g i _ t (0, 0) h]
  simpa using hv
theorem Blk.frozen {w : World} {g : Nat} {t : TypeId} {cs : List Value} (h : Blk w g t cs) (q : Nat) : w.frozen? ⟨g, q, none⟩ = false := frozen_of_row _ _ _ _ _ h
def Qv.cells (v : Qv) (q : Qu) : List Value := [.slice v.qa q.qs.length v.qc, .slice v.ja q.js.length v.jc]
theorem grown_setCell (w : World) (g i : Nat) (u : Value) : w.grownBy (w.setCell ⟨g, i, none⟩ u) (some g) := ⟨rfl, rfl, rfl, by simp [World.setCell], fun k _ hk => heap_setCell_other w ⟨g, i, none⟩ k u (fun e => hk (by rw [e]))⟩
theorem grown_setCells (g : Nat) : ∀ (vs : List Value) (o : Nat) (w : World), w.grownBy (w.setCells g o vs) (some g)
  | [], o, w => ⟨rfl, rfl, rfl, Nat.le_refl _, fun _ _ _ => rfl⟩
  | v :: r, o, w => (grown_setCell w g o v).trans (grown_setCells g r (o + 1) _)
theorem JRow.far {w : World} {B g g' n c : Nat} {xs : List J} (h : JRow w B (.slice (some ⟨g, 0, none⟩) n c) xs) (hg : g ≠ g') (i : Nat) (u : Value) : JRow (w.setCell ⟨g', i, none⟩ u) B (.slice (some ⟨g, 0, none⟩) n c) xs :=
  World.ownsRow.kept h (grown_setCell w g' i u) (by simp [Value.ownBlock, hg])
theorem JRow.fars {w : World} {B g g' n c : Nat} {xs : List J} (h : JRow w B (.slice (some ⟨g, 0, none⟩) n c) xs) (hg : g ≠ g') (o : Nat) (vs : List Value) : JRow (w.setCells g' o vs) B (.slice (some ⟨g, 0, none⟩) n c) xs :=
  World.ownsRow.kept h (grown_setCells g' vs o w) (by simp [Value.ownBlock, hg])
/-- What is asked of a function value that changes a job behind a pointer. -/
def ChF (g : Nat) (lb : Array Value) (f : J → Int × J) (ok : J → Prop) (B : Nat) (w : World) : Prop :=
  ∀ (W : World) (b : Nat) (j : J), ok j → Below B w W → B ≤ b → Box40 W b j → Calls Try.prog g (#[.pointer (some ⟨b, 0, none⟩)] ++ lb) W fun e w' => e = .returned (.int .i64 (f j).1) ∧ Box40 w' b (f j).2 ∧ W.grownBy w' (some b)
def changeS (q : Qu) (id : Int) (f : J → Int × J) : Qu × Int :=
  if 1 ≤ id ∧ id ≤ q.js.length then
    if (f (q.js.getD (id - 1).toNat rj)).1 = 0 then ({ q with js := q.js.set (id - 1).toNat (f (q.js.getD (id - 1).toNat rj)).2 }, 0)
    else (q, (f (q.js.getD (id - 1).toNat rj)).1)
  else (q, 411)
def RetQ (q : Qu) (x : Int) (w : World) (e : Ending) (w' : World) : Prop := ∃ v, e = .returned (.tuple #[Qv.val v q, .int .i64 x]) ∧ QIn w' v q ∧ Below w.heap.size w w'
theorem QIn.grown {w w' : World} {v : Qv} {q : Qu} (h : QIn w v q) (hb : Below w.heap.size w w') : QIn w' v q := h.below hb
set_option maxHeartbeats 2000000 in
set_option maxRecDepth 100000 in
theorem change_calls (v : Qv) (q : Qu) (id : Int) (g : Nat) (lb : Array Value) (eg : ∀ args w, (callFunc g args).run Try.prog w = .ok (.enter g args) w) (f : J → Int × J) (w : World) (hq : QIn w v q) (hl : q.js.length ≤ 1000)
    (B : Nat) (hB : B ≤ w.heap.size) (ok : J → Prop) (ho : ∀ j ∈ q.js, ok j) (hf : ChF g lb f ok B w) : Calls Try.prog 58 #[v.val q, .int .i64 id, .func (.func g) #[] lb] w (RetQ (changeS q id f).1 (changeS q id f).2 w) := by
  unfold Qv.val
  have HQ := Lib.hid hq; clear hq
  have HF := Lib.hid hf; clear hf
  have HO := Lib.hid ho; clear ho
  by_cases hid : 1 ≤ id ∧ id ≤ q.js.length
  · obtain ⟨k, rfl⟩ : ∃ k : Nat, id = k + 1 := ⟨(id - 1).toNat, by omega⟩
    have hk : k < q.js.length := by omega
    have hw : wi ((k : Int) + 1) 1 q.js.length = true := wi_t (by omega) (by omega)
    obtain ⟨j, hj⟩ : ∃ j, q.js[k]? = some j := ⟨_, List.getElem?_eq_getElem hk⟩
    obtain ⟨ad, hja, h0, h1, h2, h3, h4, h5, h6, h7, h8, h9, h10⟩ := HQ.out.job k hk j hj
    have hlt : ad.block < w.heap.size := by have := World.block_lt_of_cell? w _ h0; rwa [block_add] at this
    have hlt2 : (ad.add (k * 11)).block < w.heap.size := by rw [block_add]; exact hlt
    obtain ⟨qa, qc, ja, jc⟩ := v
    cases hja
    have HS := Lib.hid (show changeS q ((k : Int) + 1) f = if (f j).1 = 0 then ({ q with js := q.js.set k (f j).2 }, 0) else (q, (f j).1) by
      have e : ((k : Int) + 1 - 1).toNat = k := by omega
      have e2 : q.js.getD k rj = j := by rw [List.getD_eq_getElem?_getD, hj]; rfl
      rw [changeS, if_pos hid, e, e2])
    clear hid
    have HJ := Lib.hid hj; clear hj
    go_enter Try.func58, Try.ntmps58
    go_wp2_with (go_at_call 31; refine (within_calls _ _ _ _).mono ?_; rintro e w' ⟨rfl, rfl⟩)
    have HW0 := Lib.hid (Blk.alloc (Blk.alloc (Blk.new w 29 [.slice qa q.qs.length qc, .slice (some ad) q.js.length jc]) (.cells #[.slice none 0 0, .slice none 0 0] 29)) (.cells #[.int .i64 j.id, .int .i64 j.tn, .int .i64 j.pr, .int .i64 j.kn, .int .i64 j.bd, .int .i64 j.im.g, .slice j.im.ar.a j.im.ar.n j.im.ar.c, .slice j.im.gl.a j.im.gl.n j.im.gl.c, .slice j.im.gr.a j.im.gr.n j.im.gr.c, .int .i64 j.st, .int .i64 j.av] 40))
    have HW1 := Lib.hid (Blk.alloc (Blk.new (w.alloc (.cells #[.slice qa q.qs.length qc, .slice (some ad) q.js.length jc] 29)) 29 [.slice none 0 0, .slice none 0 0]) (.cells #[.int .i64 j.id, .int .i64 j.tn, .int .i64 j.pr, .int .i64 j.kn, .int .i64 j.bd, .int .i64 j.im.g, .slice j.im.ar.a j.im.ar.n j.im.ar.c, .slice j.im.gl.a j.im.gl.n j.im.gl.c, .slice j.im.gr.a j.im.gr.n j.im.gr.c, .int .i64 j.st, .int .i64 j.av] 40))
    simp only [World.size_alloc] at HW1
    refine (HF.out _ (w.heap.size + 1 + 1) j (HO.out j (List.mem_of_getElem? HJ.out)) (((((Below.refl B w).alloc hB _).alloc (by simp; omega) _).alloc (by simp; omega) _)) (by omega) (by have := heap_alloc_new ((w.alloc (.cells #[.slice qa q.qs.length qc, .slice (some ad) q.js.length jc] 29)).alloc (.cells #[.slice none 0 0, .slice none 0 0] 29)) (.cells #[.int .i64 j.id, .int .i64 j.tn, .int .i64 j.pr, .int .i64 j.kn, .int .i64 j.bd, .int .i64 j.im.g, .slice j.im.ar.a j.im.ar.n j.im.ar.c, .slice j.im.gl.a j.im.gl.n j.im.gl.c, .slice j.im.gr.a j.im.gr.n j.im.gr.c, .int .i64 j.st, .int .i64 j.av] 40); simp only [World.size_alloc] at this; exact this)).mono ?_
    generalize f j = r at HS
    obtain ⟨ee, j'⟩ := r
    rintro e w1 ⟨rfl, hbx, hgr⟩
    have HL1 := Lib.hid (kg_ (ba_ (ba_ (ba_ (b0_ w) _) _) _) hgr (by intro k hk; cases hk; omega))
    have HB0 : Hid (Blk w1 w.heap.size 29 [.slice qa q.qs.length qc, .slice (some ad) q.js.length jc]) := (hgr.block _ (by simp; omega) (by simp; omega)).trans HW0.out
    have HB1 : Hid (Blk w1 (w.heap.size + 1) 29 [.slice none 0 0, .slice none 0 0]) := (hgr.block _ (by simp) (by simp)).trans HW1.out
    have HX := Lib.hid hbx
    clear HW0 HW1 hbx hgr h0 h1 h2 h3 h4 h5 h6 h7 h8 h9 h10 HF
    have a0 := HB0.out.cell 0 _ rfl
    have a1 := HB0.out.cell 1 _ rfl
    by_cases he : ee = 0
    · subst he
      have HS' := Lib.hid (show changeS q ((k : Int) + 1) f = ({ q with js := q.js.set k j' }, 0) by rw [HS.out, if_pos rfl])
      clear HS
      go_wp2_with fail
      refine (clone_calls (some ad) jc q.js w1 (HQ.out.below HL1.out).jobs hl).mono ?_
      rintro e w2 ⟨v2, rfl, hr2, hb2⟩
      rcases hr2.cases with ⟨_, h⟩ | ⟨gb, c, rfl, hc⟩
      · rw [h] at hk; cases hk
      have HR2 := Lib.hid hr2
      have hgb := World.ownsRow.lt hr2 gb rfl
      have hz1 : w.heap.size + 1 + 1 < w1.heap.size := HX.out.lt
      have HL2 := Lib.hid (kb_ HL1 hb2)
      have HB0' := Lib.hid (HB0.out.below hb2)
      have HB1' := Lib.hid (HB1.out.below hb2)
      have HX' := Lib.hid (HX.out.below hb2)
      clear hr2 hb2 HL1 HB0 HB1 HX a0 a1
      have a0 := HB0'.out.cell 0 _ rfl
      have a1 := HB0'.out.cell 1 _ rfl
      have fz0 := HB0'.out.frozen
      have b0 := HB1'.out.cell 0 _ rfl
      have b1 := HB1'.out.cell 1 _ rfl
      have fz1 := HB1'.out.frozen
      obtain ⟨t0, t1, t2, t3, t4, t5, t6, t7, t8, t9, t10⟩ := HX'.out.cell
      obtain ⟨h0, h1, h2, h3, h4, h5, h6, h7, h8, h9, h10⟩ := HR2.out.cell k j HJ.out
      have fz2 := HR2.out.frozenAt
      have hne0 : gb ≠ w.heap.size := by omega
      have hne1 : gb ≠ w.heap.size + 1 := by omega
      have hne2 : gb ≠ w.heap.size + 1 + 1 := by omega
      go_wp2
      rw [HS'.out]
      have hR3 := ((HR2.out.far hne0 1 (.slice (some ⟨gb, 0, none⟩) q.js.length c)).put k hk rfl j').fars hne1 0 [.slice qa q.qs.length qc, .slice (some ⟨gb, 0, none⟩) q.js.length c]
      have hL3 := below_setCells (w := 0) (g := w.heap.size + 1) [.slice qa q.qs.length qc, .slice (some ⟨gb, 0, none⟩) q.js.length c] 0 w _ (below_setCells (w := 0) (g := gb) j'.cells (k * 11) w _ (HL2.out.out.setCell (p := ⟨w.heap.size, 1, none⟩) (Nat.le_refl _) (.slice (some ⟨gb, 0, none⟩) q.js.length c)) (by omega)) (Nat.le_succ _)
      have hB3a := Blk.far (g' := w.heap.size) HB1'.out (Nat.succ_ne_self _) 1 (.slice (some ⟨gb, 0, none⟩) q.js.length c)
      have hB3b := Blk.fars (g' := gb) hB3a (Ne.symm hne1) (k * 11) j'.cells
      have hB3 := hB3b.put [.slice qa q.qs.length qc, .slice (some ⟨gb, 0, none⟩) q.js.length c] rfl
      clear hB3a hB3b
      have hQ3 : QIn ((((w2.setCell ⟨w.heap.size, 1, none⟩ (.slice (some ⟨gb, 0, none⟩) q.js.length c)).setCells gb (k * 11) j'.cells).setCells (w.heap.size + 1) 0 [.slice qa q.qs.length qc, .slice (some ⟨gb, 0, none⟩) q.js.length c])) ⟨qa, qc, some ⟨gb, 0, none⟩, c⟩ { q with js := q.js.set k j' } :=
        ⟨(HQ.out.below hL3).quota, hR3.row, HQ.out.qc, by simpa using hc⟩
      have hpost : RetQ { q with js := q.js.set k j' } 0 w (.returned (.tuple #[.agg #[.slice qa q.qs.length qc, .slice (some ⟨gb, 0, none⟩) q.js.length c], .int .i64 0])) (((w2.setCell ⟨w.heap.size, 1, none⟩ (.slice (some ⟨gb, 0, none⟩) q.js.length c)).setCells gb (k * 11) j'.cells).setCells (w.heap.size + 1) 0 [.slice qa q.qs.length qc, .slice (some ⟨gb, 0, none⟩) q.js.length c]) :=
        ⟨_, by rw [Qv.val, List.length_set], hQ3, hL3⟩
      refine bodyPost_ret (results_ct rfl _ _ (w.heap.size + 1) _ rfl rfl hB3) rfl ?_
      exact hpost
    · have he' : (ee != 0) = true := by simpa using he
      have HS' := Lib.hid (show changeS q ((k : Int) + 1) f = (q, ee) by rw [HS.out, if_neg he])
      clear HS he
      have b0 := HB1.out.cell 0 _ rfl
      have b1 := HB1.out.cell 1 _ rfl
      have hfz := HB1.out.frozen
      go_wp2
      rw [HS'.out]
      exact bodyPost_ret (results_ct rfl _ _ (w.heap.size + 1) _ rfl rfl (HB1.out.put [.slice qa q.qs.length qc, .slice (some ad) q.js.length jc] rfl)) rfl ⟨⟨qa, qc, some ad, jc⟩, rfl, HQ.out.below (below_setCells (w := 0) (g := w.heap.size + 1) [.slice qa q.qs.length qc, .slice (some ad) q.js.length jc] 0 w w1 HL1.out (Nat.le_succ _)), below_setCells (w := 0) (g := w.heap.size + 1) [.slice qa q.qs.length qc, .slice (some ad) q.js.length jc] 0 w w1 HL1.out (Nat.le_succ _)⟩
  · have hw : wi id 1 q.js.length = false := wi_f (by omega)
    have HS := Lib.hid (show changeS q id f = (q, 411) by rw [changeS, if_neg hid])
    clear hid
    go_enter Try.func58, Try.ntmps58
    go_wp2_with (go_at_call 31; refine (within_calls _ _ _ _).mono ?_; rintro e w' ⟨rfl, rfl⟩)
    rw [HS.out]
    exact bodyPost_ret (results_ct rfl _ _ (w.heap.size + 1) (v.cells q) rfl rfl (heap_alloc2_new w _ _)) rfl ⟨v, rfl, HQ.out.below (ba_ (ba_ (b0_ w) _) _).out, (ba_ (ba_ (b0_ w) _) _).out⟩
end Go.Proofs.Ytopmdgheacjkcaa
