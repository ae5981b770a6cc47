/- The reference's job: where all but the device is right; its contract. -/
import Derived.Test.YtopmdgheacjkcaaT28
set_option linter.unusedVariables false
set_option linter.unusedSimpArgs false
namespace Go.Proofs.Ytopmdgheacjkcaa
open Go.RowKit
def JobR (q : Qu) (i : Nat) (j : J) : Prop := JobC q i j ∧ (j.st = 2 → DevC q i j ∧ 0 ≤ j.av ∧ j.av ≤ 99) ∧ (j.st ≠ 2 → j.av = -1)
set_option maxHeartbeats 8000000 in
set_option maxRecDepth 100000 in
theorem rjob_good (v : Qv) (q : Qu) (i : Nat) (j : J) (w : World) (hq : QIn w v q) (hl : q.js.length ≤ 1000) (hql : q.qs.length ≤ 1000) (hj : q.js[i]? = some j) (hN : JobC q i j) : Calls Try.prog 33 #[v.val q, .int .i64 i] w (RetB (JobR q i j) w) := by
  have hi := (List.getElem?_eq_some_iff.1 hj).1
  obtain ⟨qa, qc, ja, jc⟩ := v
  have ht := fun W => tenant_calls ⟨qa, qc, ja, jc⟩ q j.tn W hql
  obtain ⟨ad, hja, h0, h1, h2, h3, h4, h5, h6, h7, h8, h9, h10⟩ := (hq.below (ba_ (b0_ w) (.cells #[.slice qa q.qs.length qc, .slice ja q.js.length jc] 29)).out).job i hi j hj
  cases hja
  rcases jobC_cases q i j with ⟨c, _⟩ | ⟨_, c1, c2, c3, c4, c5, c6, c7, c8, c9⟩
  · exact absurd hN c
  have tq := hq.qcell j.tn (of_tenB c2).1 (of_tenB c2).2
  obtain ⟨ad2, e2, hqc⟩ := tq
  cases e2
  have HQ := Lib.hid hq; clear hq
  have HNN := Lib.hid hN; clear hN
  have i0 := (of_tenB c2).1
  have i1 := (of_tenB c2).2
  unfold Qv.val at ht ⊢
  rw [c2] at ht
  have HT := Lib.hid ht; clear ht
  clear c2
  have HB0 := Lib.hid (ba_ (ba_ (b0_ w) (.cells #[.slice (some ad2) q.qs.length qc, .slice (some ad) q.js.length jc] 29)) (.cells #[.int .i64 j.id, .int .i64 j.tn, .int .i64 j.pr, .int .i64 j.kn, .int .i64 j.bd, .int .i64 j.im.g, .slice j.im.ar.a j.im.ar.n j.im.ar.c, .slice j.im.gl.a j.im.gl.n j.im.gl.c, .slice j.im.gr.a j.im.gr.n j.im.gr.c, .int .i64 j.st, .int .i64 j.av] 40))
  have HX0 := Lib.hid (Blk.alloc (Blk.new w 29 [.slice (some ad2) q.qs.length qc, .slice (some ad) q.js.length jc]) (.cells #[.int .i64 j.id, .int .i64 j.tn, .int .i64 j.pr, .int .i64 j.kn, .int .i64 j.bd, .int .i64 j.im.g, .slice j.im.ar.a j.im.ar.n j.im.ar.c, .slice j.im.gl.a j.im.gl.n j.im.gl.c, .slice j.im.gr.a j.im.gr.n j.im.gr.c, .int .i64 j.st, .int .i64 j.av] 40))
  have HY0 := Lib.hid (show Blk ((w.alloc (.cells #[.slice (some ad2) q.qs.length qc, .slice (some ad) q.js.length jc] 29)).alloc (.cells #[.int .i64 j.id, .int .i64 j.tn, .int .i64 j.pr, .int .i64 j.kn, .int .i64 j.bd, .int .i64 j.im.g, .slice j.im.ar.a j.im.ar.n j.im.ar.c, .slice j.im.gl.a j.im.gl.n j.im.gl.c, .slice j.im.gr.a j.im.gr.n j.im.gr.c, .int .i64 j.st, .int .i64 j.av] 40)) (w.heap.size + 1) 40 j.cells from blk_new' (w.alloc (.cells #[.slice (some ad2) q.qs.length qc, .slice (some ad) q.js.length jc] 29)) (w.heap.size + 1) (by simp) 40 j.cells)
  have HJ := Lib.hid hj; clear hj
  go_enter Try.func33, Try.ntmps33
  go_wp2_with fail
  generalize hW : ((w.alloc (.cells #[.slice (some ad2) q.qs.length qc, .slice (some ad) q.js.length jc] 29)).alloc (.cells #[.int .i64 j.id, .int .i64 j.tn, .int .i64 j.pr, .int .i64 j.kn, .int .i64 j.bd, .int .i64 j.im.g, .slice j.im.ar.a j.im.ar.n j.im.ar.c, .slice j.im.gl.a j.im.gl.n j.im.gl.c, .slice j.im.gr.a j.im.gr.n j.im.gr.c, .int .i64 j.st, .int .i64 j.av] 40)) = W at HB0 HX0 HY0 ⊢
  have hqc := kc_ HB0.out hqc
  clear hW h0 h1 h2 h3 h4 h5 h6 h7 h8 h9 h10
  have q0 := HX0.out.cell 0 _ rfl
  have q1 := HX0.out.cell 1 _ rfl
  have t0 : W.cell? ⟨w.heap.size + 1, 0, none⟩ = some (.int .i64 j.id) := HY0.out.cell 0 _ rfl
  have t1 : W.cell? ⟨w.heap.size + 1, 1, none⟩ = some (.int .i64 j.tn) := HY0.out.cell 1 _ rfl
  have t2 : W.cell? ⟨w.heap.size + 1, 2, none⟩ = some (.int .i64 j.pr) := HY0.out.cell 2 _ rfl
  have t3 : W.cell? ⟨w.heap.size + 1, 3, none⟩ = some (.int .i64 j.kn) := HY0.out.cell 3 _ rfl
  have t4 : W.cell? ⟨w.heap.size + 1, 4, none⟩ = some (.int .i64 j.bd) := HY0.out.cell 4 _ rfl
  have t9 : W.cell? ⟨w.heap.size + 1, 9, none⟩ = some (.int .i64 j.st) := HY0.out.cell 9 _ rfl
  have t10 : W.cell? ⟨w.heap.size + 1, 10, none⟩ = some (.int .i64 j.av) := HY0.out.cell 10 _ rfl
  have hsum : IntKind.i64.wrap ((i : Int) + 1) = (i : Int) + 1 := i64w _ (by omega) (by omega)
  refine region_below (by kernel_rfl) (by kernel_rfl) ?_
  repeat
    first
      | go_big_quiet_skip
      | (go_big_quiet_want
         apply Exists.intro
         refine ⟨fun w' hC => ?_, ?_⟩
         · have hk := hC.keep
           first
             | (go_simp; done)
             | (go_simp; rfl)
             | (go_simp; go_at_call 43; refine (HT.out _).mono ?_; rintro e w2 ⟨rfl, hb⟩; exact ⟨rfl, hC.then hb⟩)
         simp only [Act.put, List.setIfInBounds_toArray, List.set_cons_zero, List.set_cons_succ]
         go_big_quiet_on)
  refine wpQuiet_nil ?_
  intro w2 hC
  clear hsum
  have HB := Lib.hid (kb_ HB0.out hC)
  have HX := Lib.hid (HX0.out.below hC)
  have HY := Lib.hid (HY0.out.below hC)
  clear hC HB0 HX0 HY0 q0 q1 t0 t1 t2 t3 t4 t9 t10 hqc HT c1 c3 c4 c5 c6 c7 c8 c9
  have t9 : w2.cell? ⟨w.heap.size + 1, 9, none⟩ = some (.int .i64 j.st) := HY.out.cell 9 _ rfl
  have t10 : w2.cell? ⟨w.heap.size + 1, 10, none⟩ = some (.int .i64 j.av) := HY.out.cell 10 _ rfl
  by_cases h2 : j.st = 2
  · have e2 : (j.st != 2) = false := by simpa using h2
    have H2 := Lib.hid h2; clear h2
    go_wp2
    clear t9 t10
    go_loopg [6] i (fun gg v6 wr => ∃ k : Nat, k ≤ i ∧ i - k ≤ gg ∧ v6 = .int .i64 k ∧ Hid (Below w.heap.size w wr) ∧ Hid (Blk wr w.heap.size 29 [.slice (some ad2) q.qs.length qc, .slice (some ad) q.js.length jc]) ∧ Hid (Blk wr (w.heap.size + 1) 40 j.cells) ∧ Hid (∀ (m : Nat) (a : J), m < k → q.js[m]? = some a → a.st = 2 → a.av ≠ j.av))
    case atStart => exact ⟨0, Nat.zero_le _, by omega, rfl, HB.out, HX.out, HY.out, fun m a hm => absurd hm (Nat.not_lt_zero _)⟩
    case round =>
      obtain ⟨k, hk, hg, rfl, HBr, HXr, HYr, HN⟩ := hrel
      clear HB HX HY
      have t10 : wr.cell? ⟨w.heap.size + 1, 10, none⟩ = some (.int .i64 j.av) := HYr.out.cell 10 _ rfl
      by_cases hlt : k < i
      · have hkl : k < q.js.length := by omega
        obtain ⟨a, ha⟩ : ∃ a, q.js[k]? = some a := ⟨_, List.getElem?_eq_getElem hkl⟩
        have hjob := (HQ.out.below HBr.out).job k hkl a ha
        obtain ⟨_, hja, h0, h1, h2, h3, h4, h5, h6, h7, h8, h9, h10⟩ := hjob
        cases hja
        have q0 := HXr.out.cell 0 _ rfl
        have q1 := HXr.out.cell 1 _ rfl
        have HA := Lib.hid ha; clear ha h0 h1 h2 h3 h4 h5 h6 h7 h8
        by_cases c2 : a.st = 2
        · have e3 : (a.st == 2) = true := beq_iff_eq.2 c2
          by_cases c3 : a.av = j.av
          · have e4 : (a.av == j.av) = true := beq_iff_eq.2 c3
            have HNO := Lib.hid (show ¬ JobR q i j from fun h => (h.2.1 H2.out).1 k a hlt HA.out c2 c3)
            clear c2 c3
            go_wp2_with fail
            go_quiet (fail)
            go_wp2
            go_ret
            exact retB_no HNO.out (pwdN HBr.out nq)
          · have e4 : (a.av == j.av) = false := beq_eq_false_iff_ne.2 c3
            have HN2 := Lib.hid (show ∀ (m : Nat) (x : J), m < k + 1 → q.js[m]? = some x → x.st = 2 → x.av ≠ j.av from fun m x hm hx hs => by
              by_cases e : m = k
              · subst e; rw [HA.out] at hx; cases hx; exact c3
              · exact HN.out m x (by omega) hx hs)
            clear c2 c3 HN
            go_wp2_with fail
            go_quiet (fail)
            go_wp2
            go_roundg (i - (k + 1))
            case measure => omega
            case rel => exact ⟨k + 1, by omega, by omega, by go_num, pwdN HBr.out nq, HXr.out, HYr.out, HN2.out⟩
        · have e3 : (a.st == 2) = false := beq_eq_false_iff_ne.2 c2
          have HN2 := Lib.hid (show ∀ (m : Nat) (x : J), m < k + 1 → q.js[m]? = some x → x.st = 2 → x.av ≠ j.av from fun m x hm hx hs => by
              by_cases e : m = k
              · subst e; rw [HA.out] at hx; cases hx; exact absurd hs c2
              · exact HN.out m x (by omega) hx hs)
          clear c2 HN
          go_wp2_with fail
          go_quiet (fail)
          go_wp2
          go_roundg (i - (k + 1))
          case measure => omega
          case rel => exact ⟨k + 1, by omega, by omega, by go_num, pwdN HBr.out nq, HXr.out, HYr.out, HN2.out⟩
      · have hD := Lib.hid (show DevC q i j from fun m a hm ha hs => HN.out m a (by omega) ha hs)
        by_cases c4 : 0 ≤ j.av
        · by_cases c5 : j.av ≤ 99
          · have HY2 := Lib.hid (show JobR q i j from ⟨HNN.out, fun _ => ⟨hD.out, c4, c5⟩, fun h => absurd H2.out h⟩)
            have e5 : decide (0 ≤ j.av) = true := decide_eq_true c4
            have e6 : decide (j.av ≤ 99) = true := decide_eq_true c5
            clear c4 c5
            go_wp2
            go_ret
            exact retB_yes HY2.out HBr.out
          · have HY2 := Lib.hid (show ¬ JobR q i j from fun h => c5 (h.2.1 H2.out).2.2)
            have e5 : decide (0 ≤ j.av) = true := decide_eq_true c4
            have e6 : decide (j.av ≤ 99) = false := decide_eq_false c5
            clear c4 c5
            go_wp2
            go_ret
            exact retB_no HY2.out HBr.out
        · have HY2 := Lib.hid (show ¬ JobR q i j from fun h => c4 (h.2.1 H2.out).2.1)
          have e5 : decide (0 ≤ j.av) = false := decide_eq_false c4
          clear c4
          go_wp2
          go_ret
          exact retB_no HY2.out HBr.out
  · have e2 : (j.st != 2) = true := by simpa using h2
    have HN := Lib.hid (show (j.av == -1) = true ↔ JobR q i j from by
      rw [beq_iff_eq]
      exact ⟨fun h => ⟨HNN.out, fun h' => absurd h' h2, fun _ => h⟩, fun h => h.2.2 h2⟩)
    clear h2
    go_wp2
    go_ret
    exact ⟨_, HN.out, rfl, HB.out.out⟩
theorem rjob_calls (v : Qv) (q : Qu) (i : Nat) (j : J) (w : World) (hq : QIn w v q) (hl : q.js.length ≤ 1000) (hql : q.qs.length ≤ 1000) (hj : q.js[i]? = some j) : Calls Try.prog 33 #[v.val q, .int .i64 i] w (RetB (JobR q i j) w) := by
  by_cases hN : JobC q i j
  · exact rjob_good v q i j w hq hl hql hj hN
  · exact (rjob_bad v q i j w hq hl hql hj hN).mono fun e w' h => by
      rw [h.1]
      exact retB_no (fun h' => hN h'.1) h.2
end Go.Proofs.Ytopmdgheacjkcaa
