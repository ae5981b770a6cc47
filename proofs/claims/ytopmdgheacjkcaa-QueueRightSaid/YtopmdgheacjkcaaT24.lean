/- The law's calls of the program: submit, next, start, end, cancel, park. -/
import Derived.Test.YtopmdgheacjkcaaT23
set_option linter.unusedVariables false
set_option linter.unusedSimpArgs false
namespace Go.Proofs.Ytopmdgheacjkcaa
open Go.RowKit
set_option maxHeartbeats 600000 in
set_option maxRecDepth 100000 in
theorem lstart_calls (v : Qv) (q : Qu) (id dev : Int) (w : World) (hq : QIn w v q) (hF : Fine q) : Calls Try.prog 14 #[v.val q, .int .i64 id, .int .i64 dev] w (RetD (changeS q id (startF q dev)).1 0 (changeS q id (startF q dev)).2 w) := by
  obtain ⟨qa, qc, ja, jc⟩ := v
  have hc := fun W hq => start_calls ⟨qa, qc, ja, jc⟩ q id dev W hq hF
  generalize changeS q id (startF q dev) = r at hc ⊢
  obtain ⟨q', x⟩ := r
  unfold Qv.val at hc ⊢
  have HC := Lib.hid hc; have HQ := Lib.hid hq; clear hc hq
  have HB0 := Lib.hid (ba_ (ba_ (b0_ w) (.cells #[.slice qa q.qs.length qc, .slice ja q.js.length jc] 29)) (.cells #[.slice none 0 0, .slice none 0 0, .int .i64 0, .int .i64 0] 45))
  have HR0 := Lib.hid (blk_new' (w.alloc (.cells #[.slice qa q.qs.length qc, .slice ja q.js.length jc] 29)) (w.heap.size + 1) (by simp) 45 [.slice none 0 0, .slice none 0 0, .int .i64 0, .int .i64 0])
  go_enter Try.func14, Try.ntmps14
  go_wp2_with fail
  refine (HC.out _ (HQ.out.below HB0.out.out)).mono ?_
  rintro e w1 ⟨⟨qb, qd, jb, jd⟩, rfl, hq1, hb1⟩
  have HB := Lib.hid (kb_ HB0.out hb1)
  have HZ := Lib.hid (HR0.out.below hb1)
  have HQ1 := Lib.hid hq1
  clear hb1 hq1 HB0 HR0
  unfold Qv.val
  have r0 := HZ.out.cell 0 _ rfl
  have r1 := HZ.out.cell 1 _ rfl
  have r2 := HZ.out.cell 2 _ rfl
  have r3 := HZ.out.cell 3 _ rfl
  have rf := HZ.out.frozen
  have zl := HZ.out.lt
  go_wp2
  refine bodyPost_ret (results_done rfl _ _ (w.heap.size + 1) _ rfl rfl ((HZ.out.put (Qv.dcells ⟨qb, qd, jb, jd⟩ q' 0 x) rfl).alloc _)) rfl ?_
  exact fin45a (v' := ⟨qb, qd, jb, jd⟩) (q' := q') (i := 0) (x := x) HB.out.out HZ.out (by omega) (HQ1.out.put HZ.out t45 0 _) _
set_option maxHeartbeats 600000 in
set_option maxRecDepth 100000 in
theorem lcancel_calls (v : Qv) (q : Qu) (id : Int) (w : World) (hq : QIn w v q) (hl : q.js.length ≤ 1000) : Calls Try.prog 18 #[v.val q, .int .i64 id] w (RetD (changeS q id cancelF).1 0 (changeS q id cancelF).2 w) := by
  obtain ⟨qa, qc, ja, jc⟩ := v
  have hc := fun W hq => cancel_calls ⟨qa, qc, ja, jc⟩ q id W hq hl
  generalize changeS q id cancelF = r at hc ⊢
  obtain ⟨q', x⟩ := r
  unfold Qv.val at hc ⊢
  have HC := Lib.hid hc; have HQ := Lib.hid hq; clear hc hq
  have HB0 := Lib.hid (ba_ (ba_ (b0_ w) (.cells #[.slice qa q.qs.length qc, .slice ja q.js.length jc] 29)) (.cells #[.slice none 0 0, .slice none 0 0, .int .i64 0, .int .i64 0] 45))
  have HR0 := Lib.hid (blk_new' (w.alloc (.cells #[.slice qa q.qs.length qc, .slice ja q.js.length jc] 29)) (w.heap.size + 1) (by simp) 45 [.slice none 0 0, .slice none 0 0, .int .i64 0, .int .i64 0])
  go_enter Try.func18, Try.ntmps18
  go_wp2_with fail
  refine (HC.out _ (HQ.out.below HB0.out.out)).mono ?_
  rintro e w1 ⟨⟨qb, qd, jb, jd⟩, rfl, hq1, hb1⟩
  have HB := Lib.hid (kb_ HB0.out hb1)
  have HZ := Lib.hid (HR0.out.below hb1)
  have HQ1 := Lib.hid hq1
  clear hb1 hq1 HB0 HR0
  unfold Qv.val
  have r0 := HZ.out.cell 0 _ rfl
  have r1 := HZ.out.cell 1 _ rfl
  have r2 := HZ.out.cell 2 _ rfl
  have r3 := HZ.out.cell 3 _ rfl
  have rf := HZ.out.frozen
  have zl := HZ.out.lt
  go_wp2
  refine bodyPost_ret (results_done rfl _ _ (w.heap.size + 1) _ rfl rfl ((HZ.out.put (Qv.dcells ⟨qb, qd, jb, jd⟩ q' 0 x) rfl).alloc _)) rfl ?_
  exact fin45a (v' := ⟨qb, qd, jb, jd⟩) (q' := q') (i := 0) (x := x) HB.out.out HZ.out (by omega) (HQ1.out.put HZ.out t45 0 _) _
set_option maxHeartbeats 600000 in
set_option maxRecDepth 100000 in
theorem lend_calls (v : Qv) (q : Qu) (id : Int) (im : Img) (w : World) (hq : QIn w v q) (hl : q.js.length ≤ 1000) : Calls Try.prog 16 #[v.val q, .int .i64 id, im.val] w (RetD (changeS q id (leaveF 3 im)).1 0 (changeS q id (leaveF 3 im)).2 w) := by
  obtain ⟨qa, qc, ja, jc⟩ := v
  have hc := fun W hq => end_calls ⟨qa, qc, ja, jc⟩ q id im W hq hl
  generalize changeS q id (leaveF 3 im) = r at hc ⊢
  obtain ⟨q', x⟩ := r
  unfold Qv.val Img.val at hc ⊢
  have HC := Lib.hid hc; have HQ := Lib.hid hq; clear hc hq
  have HB0 := Lib.hid (ba_ (ba_ (ba_ (b0_ w) (.cells #[.slice qa q.qs.length qc, .slice ja q.js.length jc] 29)) (.cells #[.int .i64 im.g, .slice im.ar.a im.ar.n im.ar.c, .slice im.gl.a im.gl.n im.gl.c, .slice im.gr.a im.gr.n im.gr.c] 38)) (.cells #[.slice none 0 0, .slice none 0 0, .int .i64 0, .int .i64 0] 45))
  have HR0 := Lib.hid (blk_new' ((w.alloc (.cells #[.slice qa q.qs.length qc, .slice ja q.js.length jc] 29)).alloc (.cells #[.int .i64 im.g, .slice im.ar.a im.ar.n im.ar.c, .slice im.gl.a im.gl.n im.gl.c, .slice im.gr.a im.gr.n im.gr.c] 38)) (w.heap.size + 1 + 1) (by simp) 45 [.slice none 0 0, .slice none 0 0, .int .i64 0, .int .i64 0])
  go_enter Try.func16, Try.ntmps16
  go_wp2_with fail
  refine (HC.out _ (HQ.out.below HB0.out.out)).mono ?_
  rintro e w1 ⟨⟨qb, qd, jb, jd⟩, rfl, hq1, hb1⟩
  have HB := Lib.hid (kb_ HB0.out hb1)
  have HZ := Lib.hid (HR0.out.below hb1)
  have HQ1 := Lib.hid hq1
  clear hb1 hq1 HB0 HR0
  unfold Qv.val
  have r0 := HZ.out.cell 0 _ rfl
  have r1 := HZ.out.cell 1 _ rfl
  have r2 := HZ.out.cell 2 _ rfl
  have r3 := HZ.out.cell 3 _ rfl
  have rf := HZ.out.frozen
  have zl := HZ.out.lt
  go_wp2
  refine bodyPost_ret (results_done rfl _ _ (w.heap.size + 1 + 1) _ rfl rfl ((HZ.out.put (Qv.dcells ⟨qb, qd, jb, jd⟩ q' 0 x) rfl).alloc _)) rfl ?_
  exact fin45a (v' := ⟨qb, qd, jb, jd⟩) (q' := q') (i := 0) (x := x) HB.out.out HZ.out (by omega) (HQ1.out.put HZ.out t45 0 _) _
set_option maxHeartbeats 600000 in
set_option maxRecDepth 100000 in
theorem lpark_calls (v : Qv) (q : Qu) (id : Int) (im : Img) (w : World) (hq : QIn w v q) (hl : q.js.length ≤ 1000) : Calls Try.prog 19 #[v.val q, .int .i64 id, im.val] w (RetD (changeS q id (leaveF 1 im)).1 0 (changeS q id (leaveF 1 im)).2 w) := by
  obtain ⟨qa, qc, ja, jc⟩ := v
  have hc := fun W hq => park_calls ⟨qa, qc, ja, jc⟩ q id im W hq hl
  generalize changeS q id (leaveF 1 im) = r at hc ⊢
  obtain ⟨q', x⟩ := r
  unfold Qv.val Img.val at hc ⊢
  have HC := Lib.hid hc; have HQ := Lib.hid hq; clear hc hq
  have HB0 := Lib.hid (ba_ (ba_ (ba_ (b0_ w) (.cells #[.slice qa q.qs.length qc, .slice ja q.js.length jc] 29)) (.cells #[.int .i64 im.g, .slice im.ar.a im.ar.n im.ar.c, .slice im.gl.a im.gl.n im.gl.c, .slice im.gr.a im.gr.n im.gr.c] 38)) (.cells #[.slice none 0 0, .slice none 0 0, .int .i64 0, .int .i64 0] 45))
  have HR0 := Lib.hid (blk_new' ((w.alloc (.cells #[.slice qa q.qs.length qc, .slice ja q.js.length jc] 29)).alloc (.cells #[.int .i64 im.g, .slice im.ar.a im.ar.n im.ar.c, .slice im.gl.a im.gl.n im.gl.c, .slice im.gr.a im.gr.n im.gr.c] 38)) (w.heap.size + 1 + 1) (by simp) 45 [.slice none 0 0, .slice none 0 0, .int .i64 0, .int .i64 0])
  go_enter Try.func19, Try.ntmps19
  go_wp2_with fail
  refine (HC.out _ (HQ.out.below HB0.out.out)).mono ?_
  rintro e w1 ⟨⟨qb, qd, jb, jd⟩, rfl, hq1, hb1⟩
  have HB := Lib.hid (kb_ HB0.out hb1)
  have HZ := Lib.hid (HR0.out.below hb1)
  have HQ1 := Lib.hid hq1
  clear hb1 hq1 HB0 HR0
  unfold Qv.val
  have r0 := HZ.out.cell 0 _ rfl
  have r1 := HZ.out.cell 1 _ rfl
  have r2 := HZ.out.cell 2 _ rfl
  have r3 := HZ.out.cell 3 _ rfl
  have rf := HZ.out.frozen
  have zl := HZ.out.lt
  go_wp2
  refine bodyPost_ret (results_done rfl _ _ (w.heap.size + 1 + 1) _ rfl rfl ((HZ.out.put (Qv.dcells ⟨qb, qd, jb, jd⟩ q' 0 x) rfl).alloc _)) rfl ?_
  exact fin45a (v' := ⟨qb, qd, jb, jd⟩) (q' := q') (i := 0) (x := x) HB.out.out HZ.out (by omega) (HQ1.out.put HZ.out t45 0 _) _
set_option maxHeartbeats 600000 in
set_option maxRecDepth 100000 in
theorem lsubmit_calls (v : Qv) (q : Qu) (j : J) (w : World) (hq : QIn w v q) (hl : q.js.length ≤ 1000) (hql : q.qs.length ≤ 1000) : Calls Try.prog 27 #[v.val q, j.val] w (RetD (submitS q j).1 (submitS q j).2.1 (submitS q j).2.2 w) := by
  obtain ⟨qa, qc, ja, jc⟩ := v
  have hc := fun W hq => submit_calls ⟨qa, qc, ja, jc⟩ q j W hq hl hql
  generalize submitS q j = r at hc ⊢
  obtain ⟨q', i, x⟩ := r
  unfold Qv.val J.val at hc ⊢
  have HC := Lib.hid hc; have HQ := Lib.hid hq; clear hc hq
  have HB0 := Lib.hid (ba_ (ba_ (ba_ (b0_ w) (.cells #[.slice qa q.qs.length qc, .slice ja q.js.length jc] 29)) (.cells #[.int .i64 j.id, .int .i64 j.tn, .int .i64 j.pr, .int .i64 j.kn, .int .i64 j.bd, .int .i64 j.im.g, .slice j.im.ar.a j.im.ar.n j.im.ar.c, .slice j.im.gl.a j.im.gl.n j.im.gl.c, .slice j.im.gr.a j.im.gr.n j.im.gr.c, .int .i64 j.st, .int .i64 j.av] 40)) (.cells #[.slice none 0 0, .slice none 0 0, .int .i64 0, .int .i64 0] 45))
  have HR0 := Lib.hid (blk_new' ((w.alloc (.cells #[.slice qa q.qs.length qc, .slice ja q.js.length jc] 29)).alloc (.cells #[.int .i64 j.id, .int .i64 j.tn, .int .i64 j.pr, .int .i64 j.kn, .int .i64 j.bd, .int .i64 j.im.g, .slice j.im.ar.a j.im.ar.n j.im.ar.c, .slice j.im.gl.a j.im.gl.n j.im.gl.c, .slice j.im.gr.a j.im.gr.n j.im.gr.c, .int .i64 j.st, .int .i64 j.av] 40)) (w.heap.size + 1 + 1) (by simp) 45 [.slice none 0 0, .slice none 0 0, .int .i64 0, .int .i64 0])
  go_enter Try.func27, Try.ntmps27
  go_wp2_with fail
  refine (HC.out _ (HQ.out.below HB0.out.out)).mono ?_
  rintro e w1 ⟨⟨qb, qd, jb, jd⟩, rfl, hq1, hb1⟩
  have HB := Lib.hid (kb_ HB0.out hb1)
  have HZ := Lib.hid (HR0.out.below hb1)
  have HQ1 := Lib.hid hq1
  clear hb1 hq1 HB0 HR0
  unfold Qv.val
  have r0 := HZ.out.cell 0 _ rfl
  have r1 := HZ.out.cell 1 _ rfl
  have r2 := HZ.out.cell 2 _ rfl
  have r3 := HZ.out.cell 3 _ rfl
  have rf := HZ.out.frozen
  have zl := HZ.out.lt
  go_wp2
  refine bodyPost_ret (results_done rfl _ _ (w.heap.size + 1 + 1) _ rfl rfl ((HZ.out.put (Qv.dcells ⟨qb, qd, jb, jd⟩ q' i x) rfl).alloc _)) rfl ?_
  exact fin45a (v' := ⟨qb, qd, jb, jd⟩) (q' := q') (i := i) (x := x) HB.out.out HZ.out (by omega) (HQ1.out.put HZ.out t45 0 _) _
set_option maxHeartbeats 600000 in
set_option maxRecDepth 100000 in
theorem lnext_calls (v : Qv) (q : Qu) (w : World) (hq : QIn w v q) (hF : Fine q) : Calls Try.prog 13 #[v.val q] w (RetD ⟨[], []⟩ (nextS q).1 (nextS q).2 w) := by
  obtain ⟨qa, qc, ja, jc⟩ := v
  have hc := fun W hq => next_calls ⟨qa, qc, ja, jc⟩ q W hq hF
  generalize nextS q = r at hc ⊢
  obtain ⟨i, x⟩ := r
  unfold Qv.val at hc ⊢
  have HC := Lib.hid hc; have HQ := Lib.hid hq; clear hc hq
  have HB0 := Lib.hid (ba_ (ba_ (b0_ w) (.cells #[.slice qa q.qs.length qc, .slice ja q.js.length jc] 29)) (.cells #[.slice none 0 0, .slice none 0 0, .int .i64 0, .int .i64 0] 45))
  have HR0 := Lib.hid (blk_new' (w.alloc (.cells #[.slice qa q.qs.length qc, .slice ja q.js.length jc] 29)) (w.heap.size + 1) (by simp) 45 [.slice none 0 0, .slice none 0 0, .int .i64 0, .int .i64 0])
  go_enter Try.func13, Try.ntmps13
  go_wp2_with fail
  refine (HC.out _ (HQ.out.below HB0.out.out)).mono ?_
  rintro e w1 ⟨rfl, hb1⟩
  have HB := Lib.hid (kb_ HB0.out hb1)
  have HZ := Lib.hid (HR0.out.below hb1)
  clear hb1 HB0 HR0
  have r0 := HZ.out.cell 0 _ rfl
  have r1 := HZ.out.cell 1 _ rfl
  have r2 := HZ.out.cell 2 _ rfl
  have r3 := HZ.out.cell 3 _ rfl
  have rf := HZ.out.frozen
  have zl := HZ.out.lt
  go_wp2
  refine bodyPost_ret (results_done rfl _ _ (w.heap.size + 1) _ rfl rfl (HZ.out.put (Qv.dcells ⟨none, 0, none, 0⟩ ⟨[], []⟩ i x) rfl)) rfl ?_
  exact fin45 (v' := ⟨none, 0, none, 0⟩) (q' := ⟨[], []⟩) (i := i) (x := x) HB.out.out HZ.out (by omega) ⟨Row.nil _ _ _, Row.nil _ _ _, Nat.le_refl _, Nat.le_refl _⟩
end Go.Proofs.Ytopmdgheacjkcaa
