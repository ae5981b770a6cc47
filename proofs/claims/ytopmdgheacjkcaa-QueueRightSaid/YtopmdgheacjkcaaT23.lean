/- The reference's Submit, where the arguments are right. -/
import Derived.Test.YtopmdgheacjkcaaT22
import Derived.Deep.RegionHeld3
import Derived.Outline
import Derived.BigQuiet
set_option linter.unusedVariables false
set_option linter.unusedSimpArgs false
namespace Go.Proofs.Ytopmdgheacjkcaa
open Go.RowKit
/-- append(v, ys...): v owned, ys read; nil let in: the run. -/
theorem run_app (W : World) (ty : TypeId) (base : Nat) (v : Value) (xs ys : List J) (A : Option Addr) (c : Nat) (HO : JRow W base v xs) (HR : Row W 11 A (ys.map J.cells)) (hbase : base ≤ W.heap.size) (hl : xs.length + ys.length ≤ 5000) :
    ∃ v1 w1, (Builtin.append_ #[27, 27] ty #[v, .slice A ys.length c]).run Try.prog W = .ok v1 w1 ∧ JRow w1 base v1 (xs ++ ys) ∧ W.grownBy w1 v.ownBlock ∧ (v1.ownBlock = v.ownBlock ∨ v1.ownBlock = some W.heap.size) := by
  obtain ⟨i0, hi, hzz⟩ := Option.map_eq_some_iff.1 info40
  simp only [Prod.mk.injEq] at hzz
  obtain ⟨hz0, hz1, hz2⟩ := hzz
  unfold JRow at HO ⊢
  rcases A with _ | ad
  · have h0 : ys = [] := by
      rcases Nat.eq_zero_or_pos ys.length with h0 | h0
      · exact List.eq_nil_of_length_eq_zero h0
      · obtain ⟨_, e, _⟩ := HR (by simpa using h0)
        cases e
    subst h0
    have hrun : (Builtin.append_ #[27, 27] ty #[v, .slice none 0 c]).run Try.prog W = .ok v W := by
      rcases HO.2 with ⟨rfl, hn⟩ | ⟨g, cap, cur, rfl, _, _, hnc, _⟩
      · simp [Builtin.append_, run_underlying Try.underlying27, sizeOf, typeInfo, hi, Builtin.lenOf, Builtin.firstCells]
      · simp [Builtin.append_, run_underlying Try.underlying27, sizeOf, typeInfo, hi, Builtin.lenOf, Builtin.firstCells, hnc, storeCells]
    exact ⟨v, W, hrun, by simpa using HO, ⟨rfl, rfl, rfl, Nat.le_refl _, fun _ _ _ => rfl⟩, .inl rfl⟩
  · obtain ⟨v', w', hr, h2, h3, _, h5⟩ := run_append_own_at (P := Try.prog) W base 27 ty 40 i0 _ 11 136 Try.underlying27 hi hz0 hz1 hz2 rfl (by omega) v xs.length (flat xs) HO ad ys.length c (flat ys) (flat_length ys) HR.flat (flat_one ys) (by simp only [maxLen]; omega) (by omega) hbase
    exact ⟨v', w', hr, by rw [flat_append, List.length_append]; exact h2, h3, h5⟩
theorem step_app {ops : Array Oper} {o : Oper} {a : Act} {W : World} {K : Act → World → Prop} {Q : Exit → Act → World → Prop} {E : Prop} (hg : o.guard = none) (s x : Operand)
    (hop : o.op = Op.call { callee := Callee.builtin Builtin.append, args := #[s, x], argTypes := #[27, 27] }) (base : Nat) (v : Value) (xs ys : List J) (A : Option Addr) (c : Nat) (hs : a.eval s = v) (hx : a.eval x = .slice A ys.length c)
    (HO : JRow W base v xs) (HR : Row W 11 A (ys.map J.cells)) (hbase : base ≤ W.heap.size) (hl : xs.length + ys.length ≤ 5000)
    (hK : ∀ v1 w1, Hid (JRow w1 base v1 (xs ++ ys)) → Hid (W.grownBy w1 v.ownBlock) → K (a.put o.dst v1) w1) :
    if Region.wanted o (yielded ops a.tmps) = true then Oper.wp Try.prog o a W K Q else E := by
  have hw : Region.wanted o (yielded ops a.tmps) = true := by simp [Region.wanted, hg]
  rw [if_pos hw]
  obtain ⟨v1, w1, hrun, h1, h2, _⟩ := run_app W o.type base v xs ys A c HO HR hbase hl
  unfold Oper.wp
  simp [execOp, hop, resolve, invoke, builtin, hs, hx, hrun, Result.andThen]
  exact hK v1 w1 h1 h2
theorem Blk.drewN {w : World} {g : Nat} {t : TypeId} {cs : List Value} (h : Blk w g t cs) (n : Nat) : Blk (w.drewN n) g t cs := h
theorem JRow.of_blk {W : World} {g base : Nat} (h : Blk W g 40 []) (hb : base ≤ g) : JRow W base (.slice (some ⟨g, 0, none⟩) 0 0) [] := by
  refine ⟨by simp [flat], .inr ⟨g, 0, #[], rfl, hb, ?_, by simp, by simp [maxLen], by simp, by simp [flat]⟩⟩
  exact h
theorem far4 {w : World} {g b i : Nat} {v u0 u1 u2 u3 : Value} (h : w.cell? ⟨b, i, none⟩ = some v) (hne : b ≠ g) : World.cell? ((((w.setCell ⟨g, 0, none⟩ u0).setCell ⟨g, 1, none⟩ u1).setCell ⟨g, 2, none⟩ u2).setCell ⟨g, 3, none⟩ u3) ⟨b, i, none⟩ = some v :=
  (World.cell?_setCells_out g [u0, u1, u2, u3] 0 w ⟨b, i, none⟩ (fun e => absurd e hne)).trans h
theorem blk_new' (w : World) (n : Nat) (hn : n = w.heap.size) (t : TypeId) (cs : List Value) : Blk (w.alloc (.cells cs.toArray t)) n t cs := by subst hn; exact Blk.new w t cs
theorem row_one {W : World} {g : Nat} {j : J} (h : Blk W g 40 j.cells) : Row W 11 (some ⟨g, 0, none⟩) ([j].map J.cells) := by
  intro _
  refine ⟨⟨g, 0, none⟩, rfl, ⟨_, _, h⟩, fun i x hx k u hu => ?_⟩
  obtain rfl : i = 0 := by
    have := (List.getElem?_eq_some_iff.1 hx).1
    simpa using this
  obtain rfl : j.cells = x := by simpa using hx
  have hadd : (⟨g, 0, none⟩ : Addr).add (0 * 11 + k) = ⟨g, k, none⟩ := by unfold Addr.add; split <;> simp_all
  rw [hadd]
  exact h.cell k u hu
set_option maxHeartbeats 4000000 in
set_option maxRecDepth 100000 in
theorem rsubmit_good (v : Qv) (q : Qu) (j : J) (w : World) (hq : QIn w v q) (hl : q.js.length ≤ 1000) (hql : q.qs.length ≤ 1000) (hA : argOk q j = true) : Calls Try.prog 28 #[v.val q, j.val] w (RetD (submitS q j).1 (submitS q j).2.1 (submitS q j).2.2 w) := by
  obtain ⟨qa, qc, ja, jc⟩ := v
  obtain ⟨id, tn, pr, kn, bd, im, st, av⟩ := j
  have ht := fun W => tenant_calls ⟨qa, qc, ja, jc⟩ q tn W hql
  obtain ⟨c1, c2, c3, c4, c5, c6⟩ := argOk_good hA
  unfold Qv.val at ht ⊢
  unfold J.val
  have hb := wi_true (show wi tn 0 ((q.qs.length : Int) - 1) = true by rw [← tenB_wi]; exact c1)
  obtain ⟨ad, e, hcell⟩ := hq.qcell tn hb.1 (by omega)
  cases e
  have HT := Lib.hid ht; clear ht
  have HQ := Lib.hid hq; clear hq
  have HC1 := Lib.hid c1; clear c1
  have hb0 := ba_ (ba_ (ba_ (b0_ w) (.cells #[.slice (some ad) q.qs.length qc, .slice ja q.js.length jc] 29)) (.cells (J.cells ⟨id, tn, pr, kn, bd, im, st, av⟩).toArray 40)) (.cells #[.slice none 0 0, .slice none 0 0, .int .i64 0, .int .i64 0] 45)
  have hq0 := Blk.alloc (Blk.alloc (Blk.new w 29 [.slice (some ad) q.qs.length qc, .slice ja q.js.length jc]) (.cells (J.cells ⟨id, tn, pr, kn, bd, im, st, av⟩).toArray 40)) (.cells #[.slice none 0 0, .slice none 0 0, .int .i64 0, .int .i64 0] 45)
  have hj0 := Blk.alloc (Blk.new (w.alloc (.cells #[.slice (some ad) q.qs.length qc, .slice ja q.js.length jc] 29)) 40 (J.cells ⟨id, tn, pr, kn, bd, im, st, av⟩)) (.cells #[.slice none 0 0, .slice none 0 0, .int .i64 0, .int .i64 0] 45)
  have hr0 := Blk.new ((w.alloc (.cells #[.slice (some ad) q.qs.length qc, .slice ja q.js.length jc] 29)).alloc (.cells (J.cells ⟨id, tn, pr, kn, bd, im, st, av⟩).toArray 40)) 45 [.slice none 0 0, .slice none 0 0, .int .i64 0, .int .i64 0]
  simp only [World.size_alloc] at hj0 hr0
  have HB0 := Lib.hid hb0; have HQ0 := Lib.hid hq0; have HJ0 := Lib.hid hj0; have HR0 := Lib.hid hr0
  clear hb0 hq0 hj0 hr0
  have i0 : 0 ≤ tn := hb.1
  have i1 : tn < (q.qs.length : Int) := by omega
  clear hb
  have hlt : (ad.add tn.toNat).block < w.heap.size := World.block_lt_of_cell? w _ hcell
  go_enter Try.func28, Try.ntmps28
  go_wp2_with fail
  refine (HT.out _).mono ?_
  rintro e w1 ⟨rfl, hb1⟩
  have HB := Lib.hid (kb_ HB0.out hb1)
  have HX := Lib.hid (HQ0.out.below hb1)
  have HY := Lib.hid (HJ0.out.below hb1)
  have HZ := Lib.hid (HR0.out.below hb1)
  have hcell := (HB.out.cell hlt).trans hcell
  clear hb1 HB0 HQ0 HJ0 HR0 HT hlt
  have q0 := HX.out.cell 0 _ rfl
  have q1 := HX.out.cell 1 _ rfl
  have r0 := HZ.out.cell 0 _ rfl
  have r1 := HZ.out.cell 1 _ rfl
  have r2 := HZ.out.cell 2 _ rfl
  have r3 := HZ.out.cell 3 _ rfl
  have rf := HZ.out.frozen
  have t1 : w1.cell? ⟨w.heap.size + 1, 1, none⟩ = some (.int .i64 tn) := HY.out.cell 1 _ rfl
  have t2 : w1.cell? ⟨w.heap.size + 1, 2, none⟩ = some (.int .i64 pr) := HY.out.cell 2 _ rfl
  have t3 : w1.cell? ⟨w.heap.size + 1, 3, none⟩ = some (.int .i64 kn) := HY.out.cell 3 _ rfl
  have t4 : w1.cell? ⟨w.heap.size + 1, 4, none⟩ = some (.int .i64 bd) := HY.out.cell 4 _ rfl
  rw [show tenB q tn = true from HC1.out]
  cases c7 : decide (quo q tn < bd) with
  | true =>
    have HS := Lib.hid (show submitS q ⟨id, tn, pr, kn, bd, im, st, av⟩ = (q, 0, 410) by simp [submitS, hA, of_decide_eq_true c7])
    clear hA
    go_wp2_with fail
    go_quiet (fail)
    go_wp2
    rw [HS.out]
    refine bodyPost_ret (results_done rfl _ _ (w.heap.size + 1 + 1) _ rfl rfl ((HZ.out.drewN nq).put (Qv.dcells ⟨some ad, qc, ja, jc⟩ q 0 410) rfl)) rfl ?_
    exact fin45 (v' := ⟨some ad, qc, ja, jc⟩) (q' := q) (i := 0) (x := 410) (pwdN HB.out nq) (HZ.out.drewN nq) (Nat.le_succ_of_le (Nat.le_succ _)) ((HQ.out.below (pwdN HB.out nq)).put (HZ.out.drewN nq) t45 0 _)
  | false =>
    cases c8 : decide ((200 : Int) ≤ (q.js.length : Int)) with
    | true =>
      have HS := Lib.hid (show submitS q ⟨id, tn, pr, kn, bd, im, st, av⟩ = (q, 0, 2) by
        have h5 := of_decide_eq_false c7
        have h6 := of_decide_eq_true c8
        rw [submitS, if_pos hA, if_neg h5, if_pos (by omega)])
      clear hA
      go_wp2_with fail
      go_quiet (fail)
      go_wp2
      rw [HS.out]
      refine bodyPost_ret (results_done rfl _ _ (w.heap.size + 1 + 1) _ rfl rfl ((HZ.out.drewN nq).put (Qv.dcells ⟨some ad, qc, ja, jc⟩ q 0 2) rfl)) rfl ?_
      exact fin45 (v' := ⟨some ad, qc, ja, jc⟩) (q' := q) (i := 0) (x := 2) (pwdN HB.out nq) (HZ.out.drewN nq) (Nat.le_succ_of_le (Nat.le_succ _)) ((HQ.out.below (pwdN HB.out nq)).put (HZ.out.drewN nq) t45 0 _)
    | false =>
      have HS := Lib.hid (show submitS q ⟨id, tn, pr, kn, bd, im, st, av⟩ = ({ q with js := q.js ++ [subJ q ⟨id, tn, pr, kn, bd, im, st, av⟩] }, (q.js.length : Int) + 1, 0) by
        have h5 := of_decide_eq_false c7
        have h6 := of_decide_eq_false c8
        rw [submitS, if_pos hA, if_neg h5, if_neg (by omega)])
      clear hA
      have t0 : w1.cell? ⟨w.heap.size + 1, 0, none⟩ = some (.int .i64 id) := HY.out.cell 0 _ rfl
      have t9 : w1.cell? ⟨w.heap.size + 1, 9, none⟩ = some (.int .i64 st) := HY.out.cell 9 _ rfl
      have t10 : w1.cell? ⟨w.heap.size + 1, 10, none⟩ = some (.int .i64 av) := HY.out.cell 10 _ rfl
      have jf := HY.out.frozen
      go_wp2_with fail
      go_quiet (fail)
      go_wp2_with fail
      have k1 : Hid (Blk ((((w1.drewN nq).setCell ⟨w.heap.size + 1, 0, none⟩ (.int .i64 ((q.js.length : Int) + 1))).setCell ⟨w.heap.size + 1, 9, none⟩ (.int .i64 1)).setCell ⟨w.heap.size + 1, 10, none⟩ (.int .i64 (-1))) (w.heap.size + 1) 40 (subJ q ⟨id, tn, pr, kn, bd, im, st, av⟩).cells) := (((HY.out.drewN nq).set 0 (.int .i64 ((q.js.length : Int) + 1))).set 9 (.int .i64 1)).set 10 (.int .i64 (-1))
      have k0 := Lib.hid ((((HX.out.drewN nq).far (g' := w.heap.size + 1) (by omega) 0 (.int .i64 ((q.js.length : Int) + 1))).far (g' := w.heap.size + 1) (by omega) 9 (.int .i64 1)).far (g' := w.heap.size + 1) (by omega) 10 (.int .i64 (-1)))
      have k2 := Lib.hid ((((HZ.out.drewN nq).far (g' := w.heap.size + 1) (by omega) 0 (.int .i64 ((q.js.length : Int) + 1))).far (g' := w.heap.size + 1) (by omega) 9 (.int .i64 1)).far (g' := w.heap.size + 1) (by omega) 10 (.int .i64 (-1)))
      have kL := bs_ (bs_ (bs_ (show Hid _ from pwdN HB.out nq) (p := ⟨w.heap.size + 1, 0, none⟩) (Nat.le_succ _) (.int .i64 ((q.js.length : Int) + 1))) (p := ⟨w.heap.size + 1, 9, none⟩) (Nat.le_succ _) (.int .i64 1)) (p := ⟨w.heap.size + 1, 10, none⟩) (Nat.le_succ _) (.int .i64 (-1))
      clear q0 q1 r0 r1 r2 r3 rf t0 t1 t2 t3 t4 t9 t10 jf HX HY HZ HB hcell
      generalize (((w1.drewN nq).setCell ⟨w.heap.size + 1, 0, none⟩ (.int .i64 ((q.js.length : Int) + 1))).setCell ⟨w.heap.size + 1, 9, none⟩ (.int .i64 1)).setCell ⟨w.heap.size + 1, 10, none⟩ (.int .i64 (-1)) = W2 at k0 k1 k2 kL ⊢
      have HID := Lib.hid (show (subJ q ⟨id, tn, pr, kn, bd, im, st, av⟩).id = (q.js.length : Int) + 1 from rfl)
      generalize subJ q ⟨id, tn, pr, kn, bd, im, st, av⟩ = jj at HID k1 HS
      have zl := k0.out.lt
      have zl1 := k1.out.lt
      have zl2 := k2.out.lt
      have s0 := k0.out.cell 0 _ rfl
      have s1 := k0.out.cell 1 _ rfl
      have t0 := k1.out.cell 0 _ rfl
      have t1 := k1.out.cell 1 _ rfl
      have t2 := k1.out.cell 2 _ rfl
      have t3 := k1.out.cell 3 _ rfl
      have t4 := k1.out.cell 4 _ rfl
      have t5 := k1.out.cell 5 _ rfl
      have t6 := k1.out.cell 6 _ rfl
      have t7 := k1.out.cell 7 _ rfl
      have t8 := k1.out.cell 8 _ rfl
      have t9 := k1.out.cell 9 _ rfl
      have t10 := k1.out.cell 10 _ rfl
      have r0 := k2.out.cell 0 _ rfl
      have r1 := k2.out.cell 1 _ rfl
      have r2 := k2.out.cell 2 _ rfl
      have r3 := k2.out.cell 3 _ rfl
      go_region_held3 (fun w' => w'.cell? ⟨w.heap.size, 0, none⟩ = some (.slice (some ad) q.qs.length qc) ∧ w'.cell? ⟨w.heap.size, 1, none⟩ = some (.slice ja q.js.length jc) ∧ w'.cell? ⟨w.heap.size + 1, 0, none⟩ = some (.int .i64 jj.id) ∧
          w'.cell? ⟨w.heap.size + 1, 1, none⟩ = some (.int .i64 jj.tn) ∧ w'.cell? ⟨w.heap.size + 1, 2, none⟩ = some (.int .i64 jj.pr) ∧ w'.cell? ⟨w.heap.size + 1, 3, none⟩ = some (.int .i64 jj.kn) ∧ w'.cell? ⟨w.heap.size + 1, 4, none⟩ = some (.int .i64 jj.bd) ∧
          w'.cell? ⟨w.heap.size + 1, 5, none⟩ = some (.int .i64 jj.im.g) ∧ w'.cell? ⟨w.heap.size + 1, 6, none⟩ = some (.slice jj.im.ar.a jj.im.ar.n jj.im.ar.c) ∧ w'.cell? ⟨w.heap.size + 1, 7, none⟩ = some (.slice jj.im.gl.a jj.im.gl.n jj.im.gl.c) ∧ w'.cell? ⟨w.heap.size + 1, 8, none⟩ = some (.slice jj.im.gr.a jj.im.gr.n jj.im.gr.c) ∧
          w'.cell? ⟨w.heap.size + 1, 9, none⟩ = some (.int .i64 jj.st) ∧ w'.cell? ⟨w.heap.size + 1, 10, none⟩ = some (.int .i64 jj.av))
        ((repeat' apply And.intro) <;> first | (with_reducible exact far4 (kc_ hbm.out (by assumption)) (by omega)) | (with_reducible exact kc_ hbm.out (by assumption)) | (with_reducible exact kc_ hbn.out (by assumption)) | (go_keep; done))
        (first
          | (refine step_app (W := (W2.alloc (.cells #[] 40)).drew) ?_ (.tmp 63) (.tmp 65) ?_ W2.heap.size (.slice (some ⟨W2.heap.size, 0, none⟩) 0 0) [] q.js ja jc ?_ ?_ ?_ ?_ ?_ ?_ ?_
             · rfl
             · rfl
             · rfl
             · rfl
             · exact JRow.of_blk (Blk.new W2 40 []) (Nat.le_refl _)
             · exact (HQ.out.below (bd_ (ba_ kL (.cells #[] 40))).out).jobs
             · simp
             · (simp; omega)
             intro v1 w2 hown hg
             have hbn : Hid (Below W2.heap.size W2 w2) := kg_ (bd_ (ba_ (b0_ W2) (.cells #[] 40))) hg.out (by intro k hk; simp [Value.ownBlock] at hk; omega)
             have hpp := Lib.hid (show JRow w2 W2.heap.size v1 q.js from by simpa using hown.out)
             clear hown hg)
          | (refine step_app (W := ((W2.alloc (.cells #[] 40)).alloc (.cells #[.int .i64 jj.id, .int .i64 jj.tn, .int .i64 jj.pr, .int .i64 jj.kn, .int .i64 jj.bd, .int .i64 jj.im.g, .slice jj.im.ar.a jj.im.ar.n jj.im.ar.c, .slice jj.im.gl.a jj.im.gl.n jj.im.gl.c, .slice jj.im.gr.a jj.im.gr.n jj.im.gr.c, .int .i64 jj.st, .int .i64 jj.av] 40)).drew) ?_ (.tmp 63) (.tmp 65) ?_ W2.heap.size (.slice (some ⟨W2.heap.size, 0, none⟩) 0 0) [] q.js ja jc ?_ ?_ ?_ ?_ ?_ ?_ ?_
             · rfl
             · rfl
             · rfl
             · rfl
             · exact JRow.of_blk ((Blk.new W2 40 []).alloc (.cells #[.int .i64 jj.id, .int .i64 jj.tn, .int .i64 jj.pr, .int .i64 jj.kn, .int .i64 jj.bd, .int .i64 jj.im.g, .slice jj.im.ar.a jj.im.ar.n jj.im.ar.c, .slice jj.im.gl.a jj.im.gl.n jj.im.gl.c, .slice jj.im.gr.a jj.im.gr.n jj.im.gr.c, .int .i64 jj.st, .int .i64 jj.av] 40)) (Nat.le_refl _)
             · exact (HQ.out.below (bd_ (ba_ (ba_ kL (.cells #[] 40)) (.cells #[.int .i64 jj.id, .int .i64 jj.tn, .int .i64 jj.pr, .int .i64 jj.kn, .int .i64 jj.bd, .int .i64 jj.im.g, .slice jj.im.ar.a jj.im.ar.n jj.im.ar.c, .slice jj.im.gl.a jj.im.gl.n jj.im.gl.c, .slice jj.im.gr.a jj.im.gr.n jj.im.gr.c, .int .i64 jj.st, .int .i64 jj.av] 40))).out).jobs
             · (simp; omega)
             · (simp; omega)
             intro v1 w2 hown hg
             have hbn : Hid (Below W2.heap.size W2 w2) := kg_ (bd_ (ba_ (ba_ (b0_ W2) (.cells #[] 40)) (.cells #[.int .i64 jj.id, .int .i64 jj.tn, .int .i64 jj.pr, .int .i64 jj.kn, .int .i64 jj.bd, .int .i64 jj.im.g, .slice jj.im.ar.a jj.im.ar.n jj.im.ar.c, .slice jj.im.gl.a jj.im.gl.n jj.im.gl.c, .slice jj.im.gr.a jj.im.gr.n jj.im.gr.c, .int .i64 jj.st, .int .i64 jj.av] 40))) hg.out (by intro k hk; simp [Value.ownBlock] at hk; omega)
             have hpp := Lib.hid (show JRow w2 W2.heap.size v1 q.js from by simpa using hown.out)
             have hJb : Hid (Blk w2 (W2.heap.size + 1) 40 jj.cells) := (hg.out.block (W2.heap.size + 1) (by simp) (by simp [Value.ownBlock])).trans (blk_new' (W2.alloc (.cells #[] 40)) (W2.heap.size + 1) (by simp) 40 jj.cells)
             clear hown hg)
          | (refine step_app (W := ((W2.alloc (.cells #[.int .i64 jj.id, .int .i64 jj.tn, .int .i64 jj.pr, .int .i64 jj.kn, .int .i64 jj.bd, .int .i64 jj.im.g, .slice jj.im.ar.a jj.im.ar.n jj.im.ar.c, .slice jj.im.gl.a jj.im.gl.n jj.im.gl.c, .slice jj.im.gr.a jj.im.gr.n jj.im.gr.c, .int .i64 jj.st, .int .i64 jj.av] 40)).alloc (.cells #[] 40)).drew) ?_ (.tmp 63) (.tmp 65) ?_ W2.heap.size (.slice (some ⟨W2.heap.size + 1, 0, none⟩) 0 0) [] q.js ja jc ?_ ?_ ?_ ?_ ?_ ?_ ?_
             · rfl
             · rfl
             · rfl
             · rfl
             · exact JRow.of_blk (g := W2.heap.size + 1) (blk_new' (W2.alloc (.cells #[.int .i64 jj.id, .int .i64 jj.tn, .int .i64 jj.pr, .int .i64 jj.kn, .int .i64 jj.bd, .int .i64 jj.im.g, .slice jj.im.ar.a jj.im.ar.n jj.im.ar.c, .slice jj.im.gl.a jj.im.gl.n jj.im.gl.c, .slice jj.im.gr.a jj.im.gr.n jj.im.gr.c, .int .i64 jj.st, .int .i64 jj.av] 40)) (W2.heap.size + 1) (by simp) 40 []) (Nat.le_succ _)
             · exact (HQ.out.below (bd_ (ba_ (ba_ kL (.cells #[.int .i64 jj.id, .int .i64 jj.tn, .int .i64 jj.pr, .int .i64 jj.kn, .int .i64 jj.bd, .int .i64 jj.im.g, .slice jj.im.ar.a jj.im.ar.n jj.im.ar.c, .slice jj.im.gl.a jj.im.gl.n jj.im.gl.c, .slice jj.im.gr.a jj.im.gr.n jj.im.gr.c, .int .i64 jj.st, .int .i64 jj.av] 40)) (.cells #[] 40))).out).jobs
             · (simp; omega)
             · (simp; omega)
             intro v1 w2 hown hg
             have hbn : Hid (Below W2.heap.size W2 w2) := kg_ (bd_ (ba_ (ba_ (b0_ W2) (.cells #[.int .i64 jj.id, .int .i64 jj.tn, .int .i64 jj.pr, .int .i64 jj.kn, .int .i64 jj.bd, .int .i64 jj.im.g, .slice jj.im.ar.a jj.im.ar.n jj.im.ar.c, .slice jj.im.gl.a jj.im.gl.n jj.im.gl.c, .slice jj.im.gr.a jj.im.gr.n jj.im.gr.c, .int .i64 jj.st, .int .i64 jj.av] 40)) (.cells #[] 40))) hg.out (by intro k hk; simp [Value.ownBlock] at hk; omega)
             have hpp := Lib.hid (show JRow w2 W2.heap.size v1 q.js from by simpa using hown.out)
             have hJb : Hid (Blk w2 W2.heap.size 40 jj.cells) := (hg.out.block W2.heap.size (by simp; omega) (by simp [Value.ownBlock])).trans ((Blk.new W2 40 jj.cells).alloc (.cells #[] 40))
             clear hown hg)
          | (refine step_app (W := w2.alloc (.cells #[.int .i64 jj.id, .int .i64 jj.tn, .int .i64 jj.pr, .int .i64 jj.kn, .int .i64 jj.bd, .int .i64 jj.im.g, .slice jj.im.ar.a jj.im.ar.n jj.im.ar.c, .slice jj.im.gl.a jj.im.gl.n jj.im.gl.c, .slice jj.im.gr.a jj.im.gr.n jj.im.gr.c, .int .i64 jj.st, .int .i64 jj.av] 40)) ?_ (.tmp 66) (.tmp 68) ?_ W2.heap.size v1 q.js [jj] (some ⟨w2.heap.size, 0, none⟩) 1 ?_ ?_ ?_ ?_ ?_ ?_ ?_
             · rfl
             · rfl
             · rfl
             · rfl
             · exact hpp.out.below (ba_ (b0_ w2) (.cells #[.int .i64 jj.id, .int .i64 jj.tn, .int .i64 jj.pr, .int .i64 jj.kn, .int .i64 jj.bd, .int .i64 jj.im.g, .slice jj.im.ar.a jj.im.ar.n jj.im.ar.c, .slice jj.im.gl.a jj.im.gl.n jj.im.gl.c, .slice jj.im.gr.a jj.im.gr.n jj.im.gr.c, .int .i64 jj.st, .int .i64 jj.av] 40)).out
             · exact row_one (Blk.new w2 40 jj.cells)
             · (simp; have := hbn.out.size; omega)
             · (simp; omega)
             intro v2 w3 hown hg
             have hbm : Hid (Below W2.heap.size W2 w3) := kg_ (ba_ hbn (.cells #[.int .i64 jj.id, .int .i64 jj.tn, .int .i64 jj.pr, .int .i64 jj.kn, .int .i64 jj.bd, .int .i64 jj.im.g, .slice jj.im.ar.a jj.im.ar.n jj.im.ar.c, .slice jj.im.gl.a jj.im.gl.n jj.im.gl.c, .slice jj.im.gr.a jj.im.gr.n jj.im.gr.c, .int .i64 jj.st, .int .i64 jj.av] 40)) hg.out (by intro k hk; exact (World.ownsRow.lt hpp.out k hk).1)
             obtain ⟨A2, c2, rfl, hc2⟩ := JRow.form hown.out
             have HC2 := Lib.hid hc2
             have z0 := kc_ hbm.out r0
             have z1 := kc_ hbm.out r1
             have z2 := kc_ hbm.out r2
             have z3 := kc_ hbm.out r3
             have zf := (k2.out.below hbm.out).frozen
             clear hg hc2 hpp hbn)
          | (refine step_app (W := w2) ?_ (.tmp 66) (.tmp 68) ?_ W2.heap.size v1 q.js [jj] (some ⟨W2.heap.size + 1, 0, none⟩) 1 ?_ ?_ ?_ ?_ ?_ ?_ ?_
             · rfl
             · rfl
             · rfl
             · rfl
             · exact hpp.out
             · exact row_one hJb.out
             · exact hbn.out.size
             · (simp; omega)
             intro v2 w3 hown hg
             have hbm : Hid (Below W2.heap.size W2 w3) := kg_ (hbn) hg.out (by intro k hk; exact (World.ownsRow.lt hpp.out k hk).1)
             obtain ⟨A2, c2, rfl, hc2⟩ := JRow.form hown.out
             have HC2 := Lib.hid hc2
             have z0 := kc_ hbm.out r0
             have z1 := kc_ hbm.out r1
             have z2 := kc_ hbm.out r2
             have z3 := kc_ hbm.out r3
             have zf := (k2.out.below hbm.out).frozen
             clear hg hc2 hpp hbn)
          | (refine step_app (W := w2) ?_ (.tmp 66) (.tmp 68) ?_ W2.heap.size v1 q.js [jj] (some ⟨W2.heap.size, 0, none⟩) 1 ?_ ?_ ?_ ?_ ?_ ?_ ?_
             · rfl
             · rfl
             · rfl
             · rfl
             · exact hpp.out
             · exact row_one hJb.out
             · exact hbn.out.size
             · (simp; omega)
             intro v2 w3 hown hg
             have hbm : Hid (Below W2.heap.size W2 w3) := kg_ (hbn) hg.out (by intro k hk; exact (World.ownsRow.lt hpp.out k hk).1)
             obtain ⟨A2, c2, rfl, hc2⟩ := JRow.form hown.out
             have HC2 := Lib.hid hc2
             have z0 := kc_ hbm.out r0
             have z1 := kc_ hbm.out r1
             have z2 := kc_ hbm.out r2
             have z3 := kc_ hbm.out r3
             have zf := (k2.out.below hbm.out).frozen
             clear hg hc2 hpp hbn))
      all_goals
        have hL2 := below_setCells (w := 0) (g := w.heap.size + 1 + 1) [.slice (some ad) q.qs.length qc, .slice A2 (q.js.length + 1) c2, .int .i64 jj.id, .int .i64 0] 0 w w3 (kb_ kL hbm.out).out (by omega)
        have HL2 := Lib.hid hL2
        have hR := (hown.out.row.put (k2.out.below hbm.out) (by decide) 0 [.slice (some ad) q.qs.length qc, .slice A2 (q.js.length + 1) c2, .int .i64 jj.id, .int .i64 0])
        have HR2 := Lib.hid hR
        have HP := Lib.hid ((k2.out.below hbm.out).put [.slice (some ad) q.qs.length qc, .slice A2 (q.js.length + 1) c2, .int .i64 jj.id, .int .i64 0] rfl)
        have HON := Lib.hid hown; clear hL2 hR hown
        go_wp2
        rw [HS.out]
        refine bodyPost_ret (results_done rfl _ _ (w.heap.size + 1 + 1) _ rfl rfl HP.out) rfl ?_
        exact ⟨⟨some ad, qc, A2, c2⟩, by rw [HID.out]; simp [Qv.done], ⟨(HQ.out.below HL2.out).quota, HR2.out, HQ.out.qc, by simpa using HC2.out⟩, HL2.out⟩
end Go.Proofs.Ytopmdgheacjkcaa
