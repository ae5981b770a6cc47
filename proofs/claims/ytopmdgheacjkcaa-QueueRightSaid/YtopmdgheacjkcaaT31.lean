/- The program's Right. -/
import Derived.Test.YtopmdgheacjkcaaP2
set_option linter.unusedVariables false
set_option linter.unusedSimpArgs false
namespace Go.Proofs.Ytopmdgheacjkcaa
open Go.RowKit Go.Maps
theorem jobR_of {q : Qu} {k : Nat} {j : J} (h : JobOk q k j) (hd : j.st = 2 → DevC q k j) : JobR q k j := ⟨⟨h.1, h.2.1, h.2.2.1, h.2.2.2.1, h.2.2.2.2.1, h.2.2.2.2.2.1⟩, fun h2 => ⟨hd h2, h.2.2.2.2.2.2.1 h2⟩, h.2.2.2.2.2.2.2⟩
theorem jobR_ok {q : Qu} {k : Nat} {j : J} (h : JobR q k j) : JobOk q k j := ⟨h.1.1, h.1.2.1, h.1.2.2.1, h.1.2.2.2.1, h.1.2.2.2.2.1, h.1.2.2.2.2.2, fun h2 => (h.2.1 h2).2, h.2.2⟩
theorem made_zero (n : Nat) : madeCells (Value.int .i64 0).cells n = (List.replicate n (Value.int .i64 0)).toArray := by
  apply Array.ext_getElem?
  intro i
  simp [madeCells, Value.cells]
  by_cases h : i < n
  · simp [h, Nat.mod_one]
  · simp [h]
theorem run_make_used (w : World) (q : Qu) (hql : q.qs.length ≤ 1000) : (Instr.makeSlice 26 (.int .i64 (q.qs.length : Int)) (.int .i64 (q.qs.length : Int))).run Try.prog w = .ok (.slice (some ⟨w.heap.size, 0, none⟩) q.qs.length q.qs.length) (w.alloc (.cells (uL q 0).toArray 3)) := by
  have hi : (Try.prog.info? 3).map (fun i => (i.zero, i.size, i.bytes)) = some (some (.int .i64 0), 1, 8) := by kernel_rfl
  obtain ⟨i0, hi0, hzz⟩ := Option.map_eq_some_iff.1 hi
  simp only [Prod.mk.injEq] at hzz
  obtain ⟨hz0, hz1, hz2⟩ := hzz
  have h := run_makeSlice (P := Try.prog) w 26 3 i0 _ Try.underlying26 hi0 hz0 .i64 .i64 (q.qs.length : Int) (q.qs.length : Int) (by omega) (Int.le_refl _) (by rw [hz1]; omega) (by rw [hz2]; omega) (by omega)
  rw [hz1, made_zero] at h
  simp only [Int.toNat_natCast, Nat.mul_one] at h
  rw [uL_zero]
  exact h
theorem wf_i64 {a : Int} (h1 : -9223372036854775808 ≤ a) (h2 : a ≤ 9223372036854775807) : (Lit.int .i64 a).wf = true := by
  have g1 : IntKind.i64.min = -9223372036854775808 := by decide
  have g2 : IntKind.i64.max = 9223372036854775807 := by decide
  simp only [Lit.wf, g1, g2, Bool.and_eq_true, decide_eq_true_eq]
  exact ⟨h1, h2⟩
/-- What holds after k rounds. -/
structure RightK (q : Qu) (k : Nat) : Prop where
  jobs : ∀ (m : Nat) (j : J), m < k → q.js[m]? = some j → JobR q m j
  use : ∀ (t : Nat), t < q.qs.length → used t (q.js.take k) ≤ quo q t
set_option maxHeartbeats 8000000 in
set_option maxRecDepth 100000 in
theorem pright_calls (v : Qv) (q : Qu) (w : World) (hq : QIn w v q) (hl : q.js.length ≤ 1000) (hql : q.qs.length ≤ 1000) : Calls Try.prog 11 #[v.val q] w (RetB (RightQ q) w) := by
  obtain ⟨qa, qc, ja, jc⟩ := v
  have hjb := fun i j W hq hi => pjob_calls ⟨qa, qc, ja, jc⟩ q i j W hq hql hi
  unfold Qv.val at hjb ⊢
  unfold J.val at hjb
  have HJB := Lib.hid hjb; clear hjb
  have HQ := Lib.hid hq; clear hq
  have HB0 := Lib.hid (ba_ (b0_ w) (.cells #[.slice qa q.qs.length qc, .slice ja q.js.length jc] 29))
  have HX0 := Lib.hid (Blk.new w 29 [.slice qa q.qs.length qc, .slice ja q.js.length jc])
  by_cases l1 : q.qs.length ≤ 16
  · by_cases l2 : q.js.length ≤ 200
    · have e1 : decide ((16 : Int) < (q.qs.length : Int)) = false := decide_eq_false (by omega)
      have e2 : decide ((200 : Int) < (q.js.length : Int)) = false := decide_eq_false (by omega)
      go_enter Try.func11, Try.ntmps11
      go_wp2_with fail
      generalize hW : w.alloc (.cells #[.slice qa q.qs.length qc, .slice ja q.js.length jc] 29) = W at HB0 HX0 ⊢
      clear hW e1 e2
      go_loopg [22] q.qs.length (fun gg v22 wr => ∃ k : Nat, k ≤ q.qs.length ∧ q.qs.length - k ≤ gg ∧ v22 = .int .i64 k ∧ Hid (wr = W) ∧ Hid (∀ (m : Nat) (n : Int), m < k → q.qs[m]? = some n → 0 ≤ n ∧ n ≤ 1099511627776))
      case atStart => exact ⟨0, Nat.zero_le _, by omega, rfl, rfl, fun m n hm => absurd hm (Nat.not_lt_zero _)⟩
      case round =>
        obtain ⟨k, hk, hg, rfl, HW, HN⟩ := hrel
        have HB : Hid (Below w.heap.size w wr) := by rw [HW.out]; exact HB0.out.out
        have HX : Hid (Blk wr w.heap.size 29 [.slice qa q.qs.length qc, .slice ja q.js.length jc]) := by rw [HW.out]; exact HX0.out
        have q0 := HX.out.cell 0 _ rfl
        have q1 := HX.out.cell 1 _ rfl
        by_cases hlt : k < q.qs.length
        · obtain ⟨n, hn⟩ : ∃ n, q.qs[k]? = some n := ⟨_, List.getElem?_eq_getElem hlt⟩
          obtain ⟨ad, e, hc⟩ := (HQ.out.below HB.out).qcellN k n hn
          cases e
          have HNE := Lib.hid hn; clear hn
          cases d1 : wi n 0 1099511627776 with
          | false =>
            have HNO := Lib.hid (show ¬ RightQ q from fun h => wi_not d1 (h.quos k n HNE.out))
            go_wp2_with (go_at_call 31; refine (within_calls _ _ _ _).mono ?_; rintro e w' ⟨rfl, rfl⟩)
            go_ret
            exact retB_no HNO.out HB.out
          | true =>
            have HN2 := Lib.hid (show ∀ (m : Nat) (x : Int), m < k + 1 → q.qs[m]? = some x → 0 ≤ x ∧ x ≤ 1099511627776 from fun m x hm hx => by
                by_cases e : m = k
                · subst e; rw [HNE.out] at hx; cases hx; exact wi_true d1
                · exact HN.out m x (by omega) hx)
            clear HN
            go_wp2_with (go_at_call 31; refine (within_calls _ _ _ _).mono ?_; rintro e w' ⟨rfl, rfl⟩)
            go_roundg (q.qs.length - (k + 1))
            case measure => omega
            case rel => exact ⟨k + 1, by omega, by omega, by go_num, HW, HN2⟩
        · have HQS := Lib.hid (show ∀ (k : Nat) (n : Int), q.qs[k]? = some n → 0 ≤ n ∧ n ≤ 1099511627776 from fun m n hn => HN.out m n (by have := (List.getElem?_eq_some_iff.1 hn).1; omega) hn)
          clear HN HB0 HX0
          have hmm := @run_makeMap Try.prog
          have hmk := run_make_used wr q hql
          have zl := HX.out.lt
          go_wp2
          clear hmm hmk q0 q1 HW
          have HB1 := Lib.hid (ba_ (ba_ HB (.cells (uL q 0).toArray 3)) (.map #[] 0))
          have HX1 := Lib.hid (Blk.alloc (Blk.alloc HX.out (.cells (uL q 0).toArray 3)) (.map #[] 0))
          have HU1 := Lib.hid (Blk.alloc (Blk.new wr 3 (uL q 0)) (.map #[] 0))
          have hM1 : (((wr.alloc (.cells (uL q 0).toArray 3)).alloc (.map #[] 0))).ownsMap Try.prog 3 (plainElem (H := Unit) Try.prog 4) (wr.heap.size + 1) 0 (.map []) := by
            have := World.ownsMap_made (wr.alloc (.cells (uL q 0).toArray 3)) Try.prog 3 (plainElem (H := Unit) Try.prog 4)
            simpa using this
          have HM1 := Lib.hid hM1; clear hM1
          obtain ⟨U, hU⟩ : ∃ U, U = wr.heap.size := ⟨_, rfl⟩
          rw [← hU] at zl HU1 HM1 ⊢
          have zB := HB.out.size
          rw [← hU] at zB
          clear hU HB HX
          generalize (wr.alloc (.cells (uL q 0).toArray 3)).alloc (.map #[] 0) = W1 at HB1 HX1 HU1 HM1 ⊢
          have HK0 := Lib.hid (show RightK q 0 from ⟨fun m j hm => absurd hm (Nat.not_lt_zero _), fun t ht => by
            have := HQS.out t _ (List.getElem?_eq_getElem ht)
            rw [quo_get (List.getElem?_eq_getElem ht)]
            simp [used]; omega⟩)
          go_loopg [38] q.js.length (fun gg v38 wr => ∃ k : Nat, k ≤ q.js.length ∧ q.js.length - k ≤ gg ∧ v38 = .int .i64 k ∧ Hid (Below w.heap.size w wr) ∧ Hid (Blk wr w.heap.size 29 [.slice qa q.qs.length qc, .slice ja q.js.length jc]) ∧ Hid (Blk wr U 3 (uL q k)) ∧
              Hid (wr.ownsMap Try.prog 3 (plainElem (H := Unit) Try.prog 4) (U + 1) k (devD q k)) ∧ Hid (RightK q k))
          case atStart => exact ⟨0, Nat.zero_le _, by omega, rfl, HB1.out, HX1.out, HU1.out, HM1.out, HK0.out⟩
          case round =>
            clear HB1 HX1 HU1 HM1 HK0
            obtain ⟨k, hk, hg, rfl, HB, HX, HU, HM, HK⟩ := hrel
            have q0 := HX.out.cell 0 _ rfl
            have q1 := HX.out.cell 1 _ rfl
            by_cases hlt : k < q.js.length
            · obtain ⟨j, hj⟩ : ∃ j, q.js[k]? = some j := ⟨_, List.getElem?_eq_getElem hlt⟩
              obtain ⟨ad, hja, h0, h1, h2, h3, h4, h5, h6, h7, h8, h9, h10⟩ := (HQ.out.below HB.out).job k hlt j hj
              cases hja
              have HJ := Lib.hid hj; clear hj
              have hcall := fun W hq => HJB.out k j W hq (by omega)
              have HC := Lib.hid hcall; clear hcall
              obtain ⟨id, tn, pr, kn, bd, im, st, av⟩ := j
              have zl2 := HX.out.lt
              go_wp2_with fail
              refine (HC.out _ (HQ.out.below (ba_ HB (.cells #[.int .i64 id, .int .i64 tn, .int .i64 pr, .int .i64 kn, .int .i64 bd, .int .i64 im.g, .slice im.ar.a im.ar.n im.ar.c, .slice im.gl.a im.gl.n im.gl.c, .slice im.gr.a im.gr.n im.gr.c, .int .i64 st, .int .i64 av] 40)).out)).mono ?_
              rintro e w1 ⟨b, hbj, rfl, hb1⟩
              have HB1 := Lib.hid (kb_ (ba_ HB (.cells #[.int .i64 id, .int .i64 tn, .int .i64 pr, .int .i64 kn, .int .i64 bd, .int .i64 im.g, .slice im.ar.a im.ar.n im.ar.c, .slice im.gl.a im.gl.n im.gl.c, .slice im.gr.a im.gr.n im.gr.c, .int .i64 st, .int .i64 av] 40)) hb1)
              have HX1 := Lib.hid ((HX.out.alloc (.cells #[.int .i64 id, .int .i64 tn, .int .i64 pr, .int .i64 kn, .int .i64 bd, .int .i64 im.g, .slice im.ar.a im.ar.n im.ar.c, .slice im.gl.a im.gl.n im.gl.c, .slice im.gr.a im.gr.n im.gr.c, .int .i64 st, .int .i64 av] 40)).below hb1)
              have HU1 := Lib.hid ((HU.out.alloc (.cells #[.int .i64 id, .int .i64 tn, .int .i64 pr, .int .i64 kn, .int .i64 bd, .int .i64 im.g, .slice im.ar.a im.ar.n im.ar.c, .slice im.gl.a im.gl.n im.gl.c, .slice im.gr.a im.gr.n im.gr.c, .int .i64 st, .int .i64 av] 40)).below hb1)
              have HM1 := Lib.hid ((HM.out.alloc (.cells #[.int .i64 id, .int .i64 tn, .int .i64 pr, .int .i64 kn, .int .i64 bd, .int .i64 im.g, .slice im.ar.a im.ar.n im.ar.c, .slice im.gl.a im.gl.n im.gl.c, .slice im.gr.a im.gr.n im.gr.c, .int .i64 st, .int .i64 av] 40)).kept (grown_of_below hb1 none) (by simp))
              have HV1 := Lib.hid ((Blk.new wr 40 [.int .i64 id, .int .i64 tn, .int .i64 pr, .int .i64 kn, .int .i64 bd, .int .i64 im.g, .slice im.ar.a im.ar.n im.ar.c, .slice im.gl.a im.gl.n im.gl.c, .slice im.gr.a im.gr.n im.gr.c, .int .i64 st, .int .i64 av]).below hb1)
              have zU := HM.out.lt
              clear hb1 q0 q1 h0 h1 h2 h3 h4 h5 h6 h7 h8 h9 h10 HB HX HU HM HC
              obtain ⟨V, hV⟩ : ∃ V, V = wr.heap.size := ⟨_, rfl⟩
              rw [← hV] at HV1 zU zl2 ⊢
              clear hV
              cases b with
              | false =>
                have HNO := Lib.hid (show ¬ RightQ q from fun h => by have := hbj.2 (jobR_ok (h.jobs k _ HJ.out)); cases this)
                clear hbj
                go_wp2
                go_ret
                exact retB_no HNO.out HB1.out.out
              | true =>
                have hok := hbj.1 rfl
                clear hbj
                have HOK := Lib.hid hok
                have t9 : w1.cell? ⟨V, 9, none⟩ = some (.int .i64 st) := HV1.out.cell 9 _ rfl
                by_cases c2 : st = 2
                · have e2 : (st != 2) = false := by simpa using c2
                  obtain ⟨t, rfl⟩ : ∃ t : Nat, tn = t := ⟨tn.toNat, by have := hok.2.1.1; simp only [] at this; omega⟩
                  have ht : t < q.qs.length := by have := hok.2.1.2; simp only [] at this; omega
                  have hbd : 0 ≤ bd ∧ bd ≤ quo q t := hok.2.2.2.2.1
                  have hav : 0 ≤ av ∧ av ≤ 99 := hok.2.2.2.2.2.2.1 c2
                  clear hok
                  have hqt := HQS.out t _ (List.getElem?_eq_getElem ht)
                  have hqe := quo_get (List.getElem?_eq_getElem ht)
                  have hu := HK.out.use t ht
                  have hu0 : 0 ≤ used t (q.js.take k) := (used_bd t (q.js.take k) fun x hx => by
                    obtain ⟨m, hm⟩ := List.getElem?_of_mem hx
                    have hmk : m < k := by
                      have := (List.getElem?_eq_some_iff.1 hm).1
                      simp at this; omega
                    rw [List.getElem?_take_of_lt hmk] at hm
                    have h5 := (HK.out.jobs m x hmk hm).1
                    have h6 := HQS.out x.tn.toNat (quo q x.tn) (by
                      rw [quo, List.getD_eq_getElem?_getD, List.getElem?_eq_getElem (show x.tn.toNat < q.qs.length by have := h5.2.1; omega)]; rfl)
                    exact ⟨h5.2.2.2.2.1.1, by have := h5.2.2.2.2.1.2; omega⟩).1
                  have HSET := Lib.hid (uL_set HJ.out c2 rfl ht)
                  have HDEV := Lib.hid (devD_run HJ.out c2)
                  have HUC := Lib.hid (uL_get (k := k) ht)
                  have hnext : used t (q.js.take (k + 1)) = used t (q.js.take k) + bd := by
                    rw [used_take t q.js k _ HJ.out, useOf, if_pos ⟨rfl, c2⟩]
                  have HNEXT := Lib.hid hnext; clear hnext
                  have HC2 := Lib.hid c2; clear c2
                  obtain ⟨uk, huk⟩ : ∃ uk, uk = used t (q.js.take k) := ⟨_, rfl⟩
                  rw [← huk] at HSET HUC hu hu0 HNEXT
                  have HUK := Lib.hid huk; clear huk
                  rw [← hqe] at hqt
                  obtain ⟨qt, hqt2⟩ : ∃ qt, qt = quo q t := ⟨_, rfl⟩
                  rw [← hqt2] at hqt hbd hu
                  have HQT := Lib.hid hqt2; clear hqt2 hqe
                  obtain ⟨b0, b1⟩ := hbd
                  obtain ⟨av0, av1⟩ := hav
                  obtain ⟨n0, n1⟩ := hqt
                  have uc := HU1.out.cell t _ HUC.out
                  have uf := HU1.out.frozen
                  have t1 : w1.cell? ⟨V, 1, none⟩ = some (.int .i64 t) := HV1.out.cell 1 _ rfl
                  have t4 : w1.cell? ⟨V, 4, none⟩ = some (.int .i64 bd) := HV1.out.cell 4 _ rfl
                  go_wp2_with fail
                  go_region
                  have HU2 := Lib.hid (show Blk (w1.setCell ⟨U, t, none⟩ (.int .i64 (uk + bd))).drew U 3 (uL q (k + 1)) from by rw [← HSET.out]; exact HU1.out.set t (.int .i64 (uk + bd)))
                  have HX2 := Lib.hid (show Blk (w1.setCell ⟨U, t, none⟩ (.int .i64 (uk + bd))).drew w.heap.size 29 [.slice qa q.qs.length qc, .slice (some ad) q.js.length jc] from HX1.out.far (g' := U) (by omega) t (.int .i64 (uk + bd)))
                  have HV2 := Lib.hid (show Blk (w1.setCell ⟨U, t, none⟩ (.int .i64 (uk + bd))).drew V 40 [.int .i64 id, .int .i64 t, .int .i64 pr, .int .i64 kn, .int .i64 bd, .int .i64 im.g, .slice im.ar.a im.ar.n im.ar.c, .slice im.gl.a im.gl.n im.gl.c, .slice im.gr.a im.gr.n im.gr.c, .int .i64 st, .int .i64 av] from HV1.out.far (g' := U) (by omega) t (.int .i64 (uk + bd)))
                  have HM2 := Lib.hid (show (w1.setCell ⟨U, t, none⟩ (.int .i64 (uk + bd))).drew.ownsMap Try.prog 3 (plainElem (H := Unit) Try.prog 4) (U + 1) k (devD q k) from HM1.out.setCell (a := ⟨U, t, none⟩) (by simp) (.int .i64 (uk + bd)))
                  have HB2 := Lib.hid (bd_ (bs_ HB1.out (p := ⟨U, t, none⟩) (Nat.le_of_lt zl) (.int .i64 (uk + bd))))
                  clear HU1 HX1 HV1 HM1 HB1 uc uf t1 t4 t9 HSET HUC
                  generalize (w1.setCell ⟨U, t, none⟩ (.int .i64 (uk + bd))).drew = W2 at HU2 HX2 HV2 HM2 HB2 ⊢
                  obtain ⟨ad2, hqa, hqc⟩ := (HQ.out.below HB2.out.out).qcellN t qt (by rw [HQT.out, quo_get (List.getElem?_eq_getElem ht)]; exact List.getElem?_eq_getElem ht)
                  cases hqa
                  have q0 := HX2.out.cell 0 _ rfl
                  have q1 := HX2.out.cell 1 _ rfl
                  have uc := HU2.out.cell t _ (uL_get ht)
                  rw [HNEXT.out] at uc
                  have t1 : W2.cell? ⟨V, 1, none⟩ = some (.int .i64 t) := HV2.out.cell 1 _ rfl
                  have t10 : W2.cell? ⟨V, 10, none⟩ = some (.int .i64 av) := HV2.out.cell 10 _ rfl
                  cases hany : (q.js.take k).any (hasD av) with
                  | true =>
                    have hlk : ∀ n, (Instr.lookup 65 (.map (some (U + 1))) (.int .i64 av) false).run Try.prog (W2.drewN n) = .ok (.bool true) (W2.drewN n) := fun n => by
                      have := look_dev (show (W2.drewN n).ownsMap Try.prog 3 (plainElem (H := Unit) Try.prog 4) (U + 1) k (devD q k) from HM2.out) hk av ⟨av0, av1⟩
                      rw [hany] at this
                      exact this
                    have HNO := Lib.hid (show ¬ RightQ q from fun h => by
                      obtain ⟨x, hx, hxd⟩ := List.any_eq_true.1 hany
                      simp only [hasD, Bool.and_eq_true, decide_eq_true_eq] at hxd
                      obtain ⟨m, hm⟩ := List.getElem?_of_mem hx
                      have hmk : m < k := by
                        have := (List.getElem?_eq_some_iff.1 hm).1
                        simp at this; omega
                      rw [List.getElem?_take_of_lt hmk] at hm
                      exact ((h.jobs k _ HJ.out).2.1 HC2.out).1 m x hmk hm hxd.1 hxd.2)
                    clear hany
                    go_wp2_with fail
                    go_quiet (fail)
                    go_wp2
                    go_ret
                    exact retB_no HNO.out (pwdN HB2.out nq)
                  | false =>
                    have hlk : ∀ n, (Instr.lookup 65 (.map (some (U + 1))) (.int .i64 av) false).run Try.prog (W2.drewN n) = .ok (.bool false) (W2.drewN n) := fun n => by
                      have := look_dev (show (W2.drewN n).ownsMap Try.prog 3 (plainElem (H := Unit) Try.prog 4) (U + 1) k (devD q k) from HM2.out) hk av ⟨av0, av1⟩
                      rw [hany] at this
                      exact this
                    have HANY := Lib.hid hany; clear hany
                    by_cases c3 : qt < uk + bd
                    · have e3 : decide (qt < uk + bd) = true := decide_eq_true c3
                      have HNO := Lib.hid (show ¬ RightQ q from fun h => by
                        have h1 := h.use t ht
                        have h2 := used_take_le t q.js (k + 1) fun x hx => by
                          obtain ⟨m, hm⟩ := List.getElem?_of_mem hx
                          exact (h.jobs m x hm).1.2.2.2.2.1.1
                        rw [HNEXT.out] at h2
                        rw [← HQT.out] at h1
                        omega)
                      clear c3
                      go_wp2_with fail
                      go_quiet (fail)
                      go_wp2
                      go_ret
                      exact retB_no HNO.out (pwdN HB2.out nq)
                    · have e3 : decide (qt < uk + bd) = false := decide_eq_false c3
                      have HKN := Lib.hid (show RightK q (k + 1) from ⟨fun m x hm hx => by
                        by_cases e : m = k
                        · subst e
                          rw [HJ.out] at hx
                          cases hx
                          refine jobR_of HOK.out fun _ i a hi ha sa hav => ?_
                          have := List.any_eq_false.1 HANY.out a (List.mem_of_getElem? (by rw [List.getElem?_take_of_lt hi]; exact ha))
                          exact this (by simp [hasD, sa, hav])
                        · exact HK.out.jobs m x (by omega) hx, fun t' ht' => by
                        by_cases e : t' = t
                        · subst e; rw [HNEXT.out, ← HQT.out]; omega
                        · rw [used_take t' q.js k _ HJ.out, useOf, if_neg (fun h => e (by have := h.1; simp only [] at this; omega)), Int.add_zero]
                          exact HK.out.use t' ht'⟩)
                      clear c3 HK
                      go_wp2_with fail
                      go_quiet (fail)
                      clear hlk
                      have HU3 := Lib.hid (show Blk (W2.drewN nq) U 3 (uL q (k + 1)) from HU2.out)
                      have HX3 := Lib.hid (show Blk (W2.drewN nq) w.heap.size 29 [.slice (some ad2) q.qs.length qc, .slice (some ad) q.js.length jc] from HX2.out)
                      have HV3 := Lib.hid (show Blk (W2.drewN nq) V 40 [.int .i64 id, .int .i64 t, .int .i64 pr, .int .i64 kn, .int .i64 bd, .int .i64 im.g, .slice im.ar.a im.ar.n im.ar.c, .slice im.gl.a im.gl.n im.gl.c, .slice im.gr.a im.gr.n im.gr.c, .int .i64 st, .int .i64 av] from HV2.out)
                      have HM3 := Lib.hid (show (W2.drewN nq).ownsMap Try.prog 3 (plainElem (H := Unit) Try.prog 4) (U + 1) k (devD q k) from HM2.out)
                      have HB3 := Lib.hid (pwdN HB2.out nq)
                      clear HU2 HX2 HV2 HM2 HB2 q0 q1 uc t1 t10 hqc
                      generalize W2.drewN nq = W3 at HU3 HX3 HV3 HM3 HB3 ⊢
                      have t10 : W3.cell? ⟨V, 10, none⟩ = some (.int .i64 av) := HV3.out.cell 10 _ rfl
                      have hkey := keyOf_int_mk (P := Try.prog) Try.underlying3 (a := av) (wf_i64 (by omega) (by omega))
                      have HKEY := Lib.hid hkey; clear hkey
                      go_wp2_with (at_mapUpdate; refine wpList_mapUpdate_own _ rfl _ _ _ 65 rfl 3 4 (int_keyed Try.underlying3) Try.underlying65 _ (U + 1) k _ rfl HM3.out (by unfold maxLen; omega) _ _ _ rfl rfl HKEY.out _ [] (plainElem_bool Try.underlying4 true) ?_)
                      intro w4 hown hgrow
                      rw [← HDEV.out] at hown
                      have HM4 := Lib.hid hown
                      have HU4 := Lib.hid (show Blk w4 U 3 (uL q (k + 1)) from (hgrow.block U HU3.out.lt (by simp)).trans HU3.out)
                      have HX4 := Lib.hid (show Blk w4 w.heap.size 29 [.slice (some ad2) q.qs.length qc, .slice (some ad) q.js.length jc] from (hgrow.block _ HX3.out.lt (by simp; omega)).trans HX3.out)
                      have HB4 := Lib.hid (kg_ (show Hid (Below w.heap.size w W3) from HB3.out) hgrow (by intro m hm; cases hm; omega))
                      clear hown hgrow HU3 HX3 HV3 HM3 HB3 t10 HKEY
                      go_wp2
                      go_roundg (q.js.length - (k + 1))
                      case measure => omega
                      case rel => exact ⟨k + 1, by omega, by omega, by go_num, HB4.out.out, HX4.out, HU4.out, HM4.out, HKN.out⟩
                · have e2 : (st != 2) = true := by simpa using c2
                  have HKN := Lib.hid (show RightK q (k + 1) from ⟨fun m x hm hx => by
                    by_cases e : m = k
                    · subst e; rw [HJ.out] at hx; cases hx; exact jobR_of HOK.out (fun h => absurd h c2)
                    · exact HK.out.jobs m x (by omega) hx, fun t ht => by
                    rw [used_take t q.js k _ HJ.out, useOf, if_neg (fun h => c2 h.2), Int.add_zero]
                    exact HK.out.use t ht⟩)
                  have HS1 := Lib.hid (uL_same HJ.out c2)
                  have HS2 := Lib.hid (devD_same HJ.out c2)
                  clear c2 hok HK
                  go_wp2
                  go_roundg (q.js.length - (k + 1))
                  case measure => omega
                  case rel => exact ⟨k + 1, by omega, by omega, by go_num, HB1.out.out, HX1.out, by rw [HS1.out]; exact HU1.out, by rw [HS2.out]; exact HM1.out.mono (by omega), HKN.out⟩
            · have HYES := Lib.hid (show RightQ q from ⟨l1, l2, HQS.out, fun m j hj => HK.out.jobs m j (by have := (List.getElem?_eq_some_iff.1 hj).1; omega) hj, fun m hm => by
                have := HK.out.use m hm
                rwa [List.take_of_length_le (by omega)] at this⟩)
              go_wp2
              go_ret
              exact retB_yes HYES.out HB.out
    · have HNO := Lib.hid (show ¬ RightQ q from fun h => l2 h.lj)
      have e1 : decide ((16 : Int) < (q.qs.length : Int)) = false := decide_eq_false (by omega)
      have e2 : decide ((200 : Int) < (q.js.length : Int)) = true := decide_eq_true (by omega)
      go_enter Try.func11, Try.ntmps11
      go_wp2
      go_ret
      exact retB_no HNO.out HB0.out.out
  · have HNO := Lib.hid (show ¬ RightQ q from fun h => l1 h.lq)
    have e1 : decide ((16 : Int) < (q.qs.length : Int)) = true := decide_eq_true (by omega)
    go_enter Try.func11, Try.ntmps11
    go_wp2
    go_ret
    exact retB_no HNO.out HB0.out.out
end Go.Proofs.Ytopmdgheacjkcaa
