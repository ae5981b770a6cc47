/- The reference's job: whether a job is as it has to be. -/
import Derived.Test.YtopmdgheacjkcaaT23
import Derived.Test.YtopmdgheacjkcaaT20
import Derived.BigQuiet
set_option linter.unusedVariables false
set_option linter.unusedSimpArgs false
namespace Go.Proofs.Ytopmdgheacjkcaa
open Go.RowKit
/-- What is asked of a job, but for its device. -/
def JobC (q : Qu) (i : Nat) (j : J) : Prop := j.id = (i : Int) + 1 ∧ (0 ≤ j.tn ∧ j.tn < q.qs.length) ∧ (0 ≤ j.pr ∧ j.pr ≤ 9) ∧ 0 ≤ j.kn ∧ (0 ≤ j.bd ∧ j.bd ≤ quo q j.tn) ∧ (1 ≤ j.st ∧ j.st ≤ 4)
/-- No job ahead of it that runs has its device. -/
def DevC (q : Qu) (i : Nat) (j : J) : Prop := ∀ (k : Nat) (a : J), k < i → q.js[k]? = some a → a.st = 2 → a.av ≠ j.av
theorem jobC_cases (q : Qu) (i : Nat) (j : J) : (¬ JobC q i j ∧ ((j.id != (i : Int) + 1) = true ∨ ((j.id != (i : Int) + 1) = false ∧ (tenB q j.tn = false ∨ (tenB q j.tn = true ∧ (decide (j.pr < 0) = true ∨ (decide (j.pr < 0) = false ∧ (decide (9 < j.pr) = true ∨ (decide (9 < j.pr) = false ∧
    (decide (j.kn < 0) = true ∨ (decide (j.kn < 0) = false ∧ (decide (j.bd < 0) = true ∨ (decide (j.bd < 0) = false ∧ (decide (quo q j.tn < j.bd) = true ∨ (decide (quo q j.tn < j.bd) = false ∧ (decide (j.st < 1) = true ∨ (decide (j.st < 1) = false ∧ decide (4 < j.st) = true))))))))))))))))) ∨
    (JobC q i j ∧ (j.id != (i : Int) + 1) = false ∧ tenB q j.tn = true ∧ decide (j.pr < 0) = false ∧ decide (9 < j.pr) = false ∧ decide (j.kn < 0) = false ∧ decide (j.bd < 0) = false ∧ decide (quo q j.tn < j.bd) = false ∧ decide (j.st < 1) = false ∧ decide (4 < j.st) = false) := by
  have ht : tenB q j.tn = true ↔ 0 ≤ j.tn ∧ j.tn < q.qs.length := by simp [tenB]
  have ht' : tenB q j.tn = false ↔ ¬ (0 ≤ j.tn ∧ j.tn < q.qs.length) := by rw [← ht]; simp
  rw [ht, ht']
  simp only [JobC, bne_iff_ne, bne_eq_false_iff_eq, decide_eq_true_eq, decide_eq_false_iff_not]
  omega
theorem of_tenB {q : Qu} {t : Int} (h : tenB q t = true) : 0 ≤ t ∧ t < q.qs.length := by simpa [tenB] using h
set_option maxHeartbeats 8000000 in
set_option maxRecDepth 100000 in
theorem rjob_bad (v : Qv) (q : Qu) (i : Nat) (j : J) (w : World) (hq : QIn w v q) (hl : q.js.length ≤ 1000) (hql : q.qs.length ≤ 1000) (hj : q.js[i]? = some j) (hN : ¬ JobC q i j) : Calls Try.prog 33 #[v.val q, .int .i64 i] w fun e w' => e = .returned (.bool false) ∧ Below w.heap.size w w' := by
  have hi := (List.getElem?_eq_some_iff.1 hj).1
  obtain ⟨qa, qc, ja, jc⟩ := v
  have ht := fun W => tenant_calls ⟨qa, qc, ja, jc⟩ q j.tn W hql
  obtain ⟨ad, hja, h0, h1, h2, h3, h4, h5, h6, h7, h8, h9, h10⟩ := (hq.below (ba_ (b0_ w) (.cells #[.slice qa q.qs.length qc, .slice ja q.js.length jc] 29)).out).job i hi j hj
  cases hja
  have hcell : 0 ≤ j.tn → j.tn < q.qs.length → _ := fun t0 t1 => hq.qcell j.tn t0 t1
  have HCELL := Lib.hid hcell; clear hcell
  have HQ := Lib.hid hq; clear hq
  have HC := Lib.hid (jobC_cases q i j)
  have HNN := Lib.hid hN; clear hN
  unfold Qv.val at ht ⊢
  have HB0 := Lib.hid (ba_ (ba_ (b0_ w) (.cells #[.slice qa q.qs.length qc, .slice (some ad) q.js.length jc] 29)) (.cells #[.int .i64 j.id, .int .i64 j.tn, .int .i64 j.pr, .int .i64 j.kn, .int .i64 j.bd, .int .i64 j.im.g, .slice j.im.ar.a j.im.ar.n j.im.ar.c, .slice j.im.gl.a j.im.gl.n j.im.gl.c, .slice j.im.gr.a j.im.gr.n j.im.gr.c, .int .i64 j.st, .int .i64 j.av] 40))
  have HX0 := Lib.hid (Blk.alloc (Blk.new w 29 [.slice qa q.qs.length qc, .slice (some ad) q.js.length jc]) (.cells #[.int .i64 j.id, .int .i64 j.tn, .int .i64 j.pr, .int .i64 j.kn, .int .i64 j.bd, .int .i64 j.im.g, .slice j.im.ar.a j.im.ar.n j.im.ar.c, .slice j.im.gl.a j.im.gl.n j.im.gl.c, .slice j.im.gr.a j.im.gr.n j.im.gr.c, .int .i64 j.st, .int .i64 j.av] 40))
  have HY0 := Lib.hid (show Blk ((w.alloc (.cells #[.slice qa q.qs.length qc, .slice (some ad) q.js.length jc] 29)).alloc (.cells #[.int .i64 j.id, .int .i64 j.tn, .int .i64 j.pr, .int .i64 j.kn, .int .i64 j.bd, .int .i64 j.im.g, .slice j.im.ar.a j.im.ar.n j.im.ar.c, .slice j.im.gl.a j.im.gl.n j.im.gl.c, .slice j.im.gr.a j.im.gr.n j.im.gr.c, .int .i64 j.st, .int .i64 j.av] 40)) (w.heap.size + 1) 40 j.cells from blk_new' (w.alloc (.cells #[.slice qa q.qs.length qc, .slice (some ad) q.js.length jc] 29)) (w.heap.size + 1) (by simp) 40 j.cells)
  have HJ := Lib.hid hj; clear hj
  rcases HC.out with ⟨_, c⟩ | ⟨c, _⟩
  · clear HC
    rcases c with c1 | ⟨c1, c2 | ⟨c2, c⟩⟩
    · clear ht HCELL
      go_enter Try.func33, Try.ntmps33
      go_wp2_with fail
      generalize hW : ((w.alloc (.cells #[.slice qa q.qs.length qc, .slice (some ad) q.js.length jc] 29)).alloc (.cells #[.int .i64 j.id, .int .i64 j.tn, .int .i64 j.pr, .int .i64 j.kn, .int .i64 j.bd, .int .i64 j.im.g, .slice j.im.ar.a j.im.ar.n j.im.ar.c, .slice j.im.gl.a j.im.gl.n j.im.gl.c, .slice j.im.gr.a j.im.gr.n j.im.gr.c, .int .i64 j.st, .int .i64 j.av] 40)) = W at HB0 HX0 HY0 ⊢
      clear hW h0 h1 h2 h3 h4 h5 h6 h7 h8 h9 h10
      have q0 := HX0.out.cell 0 _ rfl
      have q1 := HX0.out.cell 1 _ rfl
      have t0 : W.cell? ⟨w.heap.size + 1, 0, none⟩ = some (.int .i64 j.id) := HY0.out.cell 0 _ rfl
      have t1 : W.cell? ⟨w.heap.size + 1, 1, none⟩ = some (.int .i64 j.tn) := HY0.out.cell 1 _ rfl
      have t2 : W.cell? ⟨w.heap.size + 1, 2, none⟩ = some (.int .i64 j.pr) := HY0.out.cell 2 _ rfl
      have t3 : W.cell? ⟨w.heap.size + 1, 3, none⟩ = some (.int .i64 j.kn) := HY0.out.cell 3 _ rfl
      have t4 : W.cell? ⟨w.heap.size + 1, 4, none⟩ = some (.int .i64 j.bd) := HY0.out.cell 4 _ rfl
      have t9 : W.cell? ⟨w.heap.size + 1, 9, none⟩ = some (.int .i64 j.st) := HY0.out.cell 9 _ rfl
      have t10 : W.cell? ⟨w.heap.size + 1, 10, none⟩ = some (.int .i64 j.av) := HY0.out.cell 10 _ rfl
      have hsum : IntKind.i64.wrap ((i : Int) + 1) = (i : Int) + 1 := i64w _ (by omega) (by omega)
      refine region_below (by kernel_rfl) (by kernel_rfl) ?_
      repeat
        first
          | go_big_quiet_skip
          | (go_big_quiet_want
             apply Exists.intro
             refine ⟨fun w' hC => ?_, ?_⟩
             · have hk := hC.keep
               first
                 | (go_simp; done)
                 | (go_simp; rfl)
                 | (go_simp; fail)
             simp only [Act.put, List.setIfInBounds_toArray, List.set_cons_zero, List.set_cons_succ]
             go_big_quiet_on)
      refine wpQuiet_nil ?_
      intro w2 hC
      clear hsum
      go_wp2
      go_ret
      exact ⟨rfl, (kb_ HB0.out hC).out⟩
    · clear HCELL
      rw [c2] at ht
      have HT := Lib.hid ht; clear ht
      clear c2
      go_enter Try.func33, Try.ntmps33
      go_wp2_with fail
      generalize hW : ((w.alloc (.cells #[.slice qa q.qs.length qc, .slice (some ad) q.js.length jc] 29)).alloc (.cells #[.int .i64 j.id, .int .i64 j.tn, .int .i64 j.pr, .int .i64 j.kn, .int .i64 j.bd, .int .i64 j.im.g, .slice j.im.ar.a j.im.ar.n j.im.ar.c, .slice j.im.gl.a j.im.gl.n j.im.gl.c, .slice j.im.gr.a j.im.gr.n j.im.gr.c, .int .i64 j.st, .int .i64 j.av] 40)) = W at HB0 HX0 HY0 ⊢
      clear hW h0 h1 h2 h3 h4 h5 h6 h7 h8 h9 h10
      have q0 := HX0.out.cell 0 _ rfl
      have q1 := HX0.out.cell 1 _ rfl
      have t0 : W.cell? ⟨w.heap.size + 1, 0, none⟩ = some (.int .i64 j.id) := HY0.out.cell 0 _ rfl
      have t1 : W.cell? ⟨w.heap.size + 1, 1, none⟩ = some (.int .i64 j.tn) := HY0.out.cell 1 _ rfl
      have t2 : W.cell? ⟨w.heap.size + 1, 2, none⟩ = some (.int .i64 j.pr) := HY0.out.cell 2 _ rfl
      have t3 : W.cell? ⟨w.heap.size + 1, 3, none⟩ = some (.int .i64 j.kn) := HY0.out.cell 3 _ rfl
      have t4 : W.cell? ⟨w.heap.size + 1, 4, none⟩ = some (.int .i64 j.bd) := HY0.out.cell 4 _ rfl
      have t9 : W.cell? ⟨w.heap.size + 1, 9, none⟩ = some (.int .i64 j.st) := HY0.out.cell 9 _ rfl
      have t10 : W.cell? ⟨w.heap.size + 1, 10, none⟩ = some (.int .i64 j.av) := HY0.out.cell 10 _ rfl
      have hsum : IntKind.i64.wrap ((i : Int) + 1) = (i : Int) + 1 := i64w _ (by omega) (by omega)
      refine region_below (by kernel_rfl) (by kernel_rfl) ?_
      repeat
        first
          | go_big_quiet_skip
          | (go_big_quiet_want
             apply Exists.intro
             refine ⟨fun w' hC => ?_, ?_⟩
             · have hk := hC.keep
               first
                 | (go_simp; done)
                 | (go_simp; rfl)
                 | (go_simp; go_at_call 43; refine (HT.out _).mono ?_; rintro e w2 ⟨rfl, hb⟩; exact ⟨rfl, hC.then hb⟩)
             simp only [Act.put, List.setIfInBounds_toArray, List.set_cons_zero, List.set_cons_succ]
             go_big_quiet_on)
      refine wpQuiet_nil ?_
      intro w2 hC
      clear hsum
      go_wp2
      go_ret
      exact ⟨rfl, (kb_ HB0.out hC).out⟩
    · rcases c with c3 | ⟨c3, c4 | ⟨c4, c5 | ⟨c5, c6 | ⟨c6, c⟩⟩⟩⟩
      iterate 4
       · (
        clear HCELL
        rw [c2] at ht
        have HT := Lib.hid ht; clear ht
        clear c2
        go_enter Try.func33, Try.ntmps33
        go_wp2_with fail
        generalize hW : ((w.alloc (.cells #[.slice qa q.qs.length qc, .slice (some ad) q.js.length jc] 29)).alloc (.cells #[.int .i64 j.id, .int .i64 j.tn, .int .i64 j.pr, .int .i64 j.kn, .int .i64 j.bd, .int .i64 j.im.g, .slice j.im.ar.a j.im.ar.n j.im.ar.c, .slice j.im.gl.a j.im.gl.n j.im.gl.c, .slice j.im.gr.a j.im.gr.n j.im.gr.c, .int .i64 j.st, .int .i64 j.av] 40)) = W at HB0 HX0 HY0 ⊢
        clear hW h0 h1 h2 h3 h4 h5 h6 h7 h8 h9 h10
        have q0 := HX0.out.cell 0 _ rfl
        have q1 := HX0.out.cell 1 _ rfl
        have t0 : W.cell? ⟨w.heap.size + 1, 0, none⟩ = some (.int .i64 j.id) := HY0.out.cell 0 _ rfl
        have t1 : W.cell? ⟨w.heap.size + 1, 1, none⟩ = some (.int .i64 j.tn) := HY0.out.cell 1 _ rfl
        have t2 : W.cell? ⟨w.heap.size + 1, 2, none⟩ = some (.int .i64 j.pr) := HY0.out.cell 2 _ rfl
        have t3 : W.cell? ⟨w.heap.size + 1, 3, none⟩ = some (.int .i64 j.kn) := HY0.out.cell 3 _ rfl
        have t4 : W.cell? ⟨w.heap.size + 1, 4, none⟩ = some (.int .i64 j.bd) := HY0.out.cell 4 _ rfl
        have t9 : W.cell? ⟨w.heap.size + 1, 9, none⟩ = some (.int .i64 j.st) := HY0.out.cell 9 _ rfl
        have t10 : W.cell? ⟨w.heap.size + 1, 10, none⟩ = some (.int .i64 j.av) := HY0.out.cell 10 _ rfl
        have hsum : IntKind.i64.wrap ((i : Int) + 1) = (i : Int) + 1 := i64w _ (by omega) (by omega)
        refine region_below (by kernel_rfl) (by kernel_rfl) ?_
        repeat
          first
            | go_big_quiet_skip
            | (go_big_quiet_want
               apply Exists.intro
               refine ⟨fun w' hC => ?_, ?_⟩
               · have hk := hC.keep
                 first
                   | (go_simp; done)
                   | (go_simp; rfl)
                   | (go_simp; go_at_call 43; refine (HT.out _).mono ?_; rintro e w2 ⟨rfl, hb⟩; exact ⟨rfl, hC.then hb⟩)
               simp only [Act.put, List.setIfInBounds_toArray, List.set_cons_zero, List.set_cons_succ]
               go_big_quiet_on)
        refine wpQuiet_nil ?_
        intro w2 hC
        clear hsum
        go_wp2
        go_ret
        exact ⟨rfl, (kb_ HB0.out hC).out⟩)
      rcases c with c7 | ⟨c7, c8 | ⟨c8, c9⟩⟩
      all_goals
        have tq := HCELL.out (of_tenB c2).1 (of_tenB c2).2
        obtain ⟨ad2, e2, hqc⟩ := tq
        cases e2
        have i0 := (of_tenB c2).1
        have i1 := (of_tenB c2).2
        clear HCELL
        rw [c2] at ht
        have HT := Lib.hid ht; clear ht
        clear c2
        go_enter Try.func33, Try.ntmps33
        go_wp2_with fail
        generalize hW : ((w.alloc (.cells #[.slice (some ad2) q.qs.length qc, .slice (some ad) q.js.length jc] 29)).alloc (.cells #[.int .i64 j.id, .int .i64 j.tn, .int .i64 j.pr, .int .i64 j.kn, .int .i64 j.bd, .int .i64 j.im.g, .slice j.im.ar.a j.im.ar.n j.im.ar.c, .slice j.im.gl.a j.im.gl.n j.im.gl.c, .slice j.im.gr.a j.im.gr.n j.im.gr.c, .int .i64 j.st, .int .i64 j.av] 40)) = W at HB0 HX0 HY0 ⊢
        have hqc := kc_ HB0.out hqc
        clear hW h0 h1 h2 h3 h4 h5 h6 h7 h8 h9 h10
        have q0 := HX0.out.cell 0 _ rfl
        have q1 := HX0.out.cell 1 _ rfl
        have t0 : W.cell? ⟨w.heap.size + 1, 0, none⟩ = some (.int .i64 j.id) := HY0.out.cell 0 _ rfl
        have t1 : W.cell? ⟨w.heap.size + 1, 1, none⟩ = some (.int .i64 j.tn) := HY0.out.cell 1 _ rfl
        have t2 : W.cell? ⟨w.heap.size + 1, 2, none⟩ = some (.int .i64 j.pr) := HY0.out.cell 2 _ rfl
        have t3 : W.cell? ⟨w.heap.size + 1, 3, none⟩ = some (.int .i64 j.kn) := HY0.out.cell 3 _ rfl
        have t4 : W.cell? ⟨w.heap.size + 1, 4, none⟩ = some (.int .i64 j.bd) := HY0.out.cell 4 _ rfl
        have t9 : W.cell? ⟨w.heap.size + 1, 9, none⟩ = some (.int .i64 j.st) := HY0.out.cell 9 _ rfl
        have t10 : W.cell? ⟨w.heap.size + 1, 10, none⟩ = some (.int .i64 j.av) := HY0.out.cell 10 _ rfl
        have hsum : IntKind.i64.wrap ((i : Int) + 1) = (i : Int) + 1 := i64w _ (by omega) (by omega)
        refine region_below (by kernel_rfl) (by kernel_rfl) ?_
        repeat
          first
            | go_big_quiet_skip
            | (go_big_quiet_want
               apply Exists.intro
               refine ⟨fun w' hC => ?_, ?_⟩
               · have hk := hC.keep
                 first
                   | (go_simp; done)
                   | (go_simp; rfl)
                   | (go_simp; go_at_call 43; refine (HT.out _).mono ?_; rintro e w2 ⟨rfl, hb⟩; exact ⟨rfl, hC.then hb⟩)
               simp only [Act.put, List.setIfInBounds_toArray, List.set_cons_zero, List.set_cons_succ]
               go_big_quiet_on)
        refine wpQuiet_nil ?_
        intro w2 hC
        clear hsum
        go_wp2
        go_ret
        exact ⟨rfl, (kb_ HB0.out hC).out⟩
  · exact absurd c HNN.out
end Go.Proofs.Ytopmdgheacjkcaa
