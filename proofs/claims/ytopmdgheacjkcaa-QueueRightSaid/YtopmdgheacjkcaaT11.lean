/- queue.Park, queue.End. -/
import Derived.Test.YtopmdgheacjkcaaT10
set_option linter.unusedVariables false
set_option linter.unusedSimpArgs false
namespace Go.Proofs.Ytopmdgheacjkcaa
open Go.RowKit
theorem grown_drew {a w : World} {r : Option Nat} (h : a.grownBy w r) : a.grownBy w.drew r := ⟨h.os, h.tape, h.output, h.size, h.block⟩
def leaveF (st : Int) (im : Img) (j : J) : Int × J := if j.st = 2 then (0, { j with st := st, av := -1, im := im }) else (430, j)
set_option maxHeartbeats 4000000 in
set_option maxRecDepth 100000 in
theorem leave1_calls (b sb ib : Nat) (st : Int) (im : Img) (j : J) (w : World) (h : Box40 w b j) (hs : w.cell? ⟨sb, 0, none⟩ = some (.int .i64 st))
    (hi : Blk w ib 38 im.cells) (n1 : b ≠ sb) (n2 : b ≠ ib) : Calls Try.prog 68 #[.pointer (some ⟨b, 0, none⟩), .pointer (some ⟨sb, 0, none⟩), .pointer (some ⟨ib, 0, none⟩)] w (RetE (leaveF st im j).1 b (leaveF st im j).2 w) := by
  obtain ⟨t0, t1, t2, t3, t4, t5, t6, t7, t8, t9, t10⟩ := h.cell
  have hfz := h.frozen
  have H := Lib.hid h; clear h
  have i0 := hi.cell 0 _ rfl
  have i1 := hi.cell 1 _ rfl
  have i2 := hi.cell 2 _ rfl
  have i3 := hi.cell 3 _ rfl
  clear t0 t1 t2 t3 t4 hi
  unfold Sl.v at i1 i2 i3
  by_cases h1 : j.st = 2
  · have e1 : (j.st != 2) = false := by simpa using h1
    have HC := Lib.hid (show leaveF st im j = (0, { j with st := st, av := -1, im := im }) by rw [leaveF, if_pos h1])
    clear h1
    go_enter Try.func68, Try.ntmps68
    go_wp2
    go_region
    go_wp2
    go_ret
    rw [HC.out]
    have g1 := (((((H.out.blk.set 9 (.int .i64 st)).set 10 (.int .i64 (-1))).set 5 (.int .i64 im.g)).set 6 (.slice im.ar.a im.ar.n im.ar.c)).set 7 (.slice im.gl.a im.gl.n im.gl.c)).set 8 (.slice im.gr.a im.gr.n im.gr.c)
    have g2 := (((((grown_setCell w b 9 (.int .i64 st)).trans (grown_setCell _ b 10 (.int .i64 (-1)))).trans (grown_setCell _ b 5 (.int .i64 im.g))).trans (grown_setCell _ b 6 (.slice im.ar.a im.ar.n im.ar.c))).trans (grown_setCell _ b 7 (.slice im.gl.a im.gl.n im.gl.c))).trans (grown_setCell _ b 8 (.slice im.gr.a im.gr.n im.gr.c))
    generalize ((((((w.setCell ⟨b, 9, none⟩ (.int .i64 st)).setCell ⟨b, 10, none⟩ (.int .i64 (-1))).setCell ⟨b, 5, none⟩ (.int .i64 im.g)).setCell ⟨b, 6, none⟩ (.slice im.ar.a im.ar.n im.ar.c)).setCell ⟨b, 7, none⟩ (.slice im.gl.a im.gl.n im.gl.c)).setCell ⟨b, 8, none⟩ (.slice im.gr.a im.gr.n im.gr.c)) = w9 at g1 g2 ⊢
    refine ⟨rfl, ?_, grown_drew g2⟩
    exact g1
  · have e1 : (j.st != 2) = true := by simpa using h1
    have HC := Lib.hid (show leaveF st im j = (430, j) by rw [leaveF, if_neg h1])
    clear h1
    go_enter Try.func68, Try.ntmps68
    go_wp2
    go_ret
    rw [HC.out]
    exact ⟨rfl, H.out, grown_refl _ _⟩
set_option maxHeartbeats 1000000 in
theorem leave_calls (v : Qv) (q : Qu) (id st : Int) (im : Img) (w : World) (hq : QIn w v q) (hl : q.js.length ≤ 1000) : Calls Try.prog 61 #[v.val q, .int .i64 id, .int .i64 st, im.val] w (RetQ (changeS q id (leaveF st im)).1 (changeS q id (leaveF st im)).2 w) := by
  have e68 := enters Try.func68 (by kernel_rfl) rfl
  have hc := fun W hq hB hf => change_calls v q id 68 #[.pointer (some ⟨w.heap.size + 1, 0, none⟩), .pointer (some ⟨w.heap.size + 1 + 1, 0, none⟩)] e68 (leaveF st im) W hq hl (w.heap.size + 1 + 1 + 1) hB (fun _ => True) (fun _ _ => trivial) hf
  have HC := Lib.hid hc; clear hc e68
  unfold Qv.val at HC
  unfold Qv.val Img.val
  have HQ := Lib.hid hq; clear hq
  have hb0 := ba_ (ba_ (ba_ (ba_ (b0_ w) (.cells #[.slice v.qa q.qs.length v.qc, .slice v.ja q.js.length v.jc] 29)) (.cells #[.int .i64 st] 3)) (.cells #[.int .i64 im.g, .slice im.ar.a im.ar.n im.ar.c, .slice im.gl.a im.gl.n im.gl.c, .slice im.gr.a im.gr.n im.gr.c] 38)) (.cells #[.slice none 0 0, .slice none 0 0] 29)
  have hs0 := Blk.alloc (Blk.alloc (Blk.new (w.alloc (.cells #[.slice v.qa q.qs.length v.qc, .slice v.ja q.js.length v.jc] 29)) 3 [.int .i64 st]) (.cells #[.int .i64 im.g, .slice im.ar.a im.ar.n im.ar.c, .slice im.gl.a im.gl.n im.gl.c, .slice im.gr.a im.gr.n im.gr.c] 38)) (.cells #[.slice none 0 0, .slice none 0 0] 29)
  have hi0 := Blk.alloc (Blk.new ((w.alloc (.cells #[.slice v.qa q.qs.length v.qc, .slice v.ja q.js.length v.jc] 29)).alloc (.cells #[.int .i64 st] 3)) 38 [.int .i64 im.g, .slice im.ar.a im.ar.n im.ar.c, .slice im.gl.a im.gl.n im.gl.c, .slice im.gr.a im.gr.n im.gr.c]) (.cells #[.slice none 0 0, .slice none 0 0] 29)
  have hr0 := Blk.new (((w.alloc (.cells #[.slice v.qa q.qs.length v.qc, .slice v.ja q.js.length v.jc] 29)).alloc (.cells #[.int .i64 st] 3)).alloc (.cells #[.int .i64 im.g, .slice im.ar.a im.ar.n im.ar.c, .slice im.gl.a im.gl.n im.gl.c, .slice im.gr.a im.gr.n im.gr.c] 38)) 29 [.slice none 0 0, .slice none 0 0]
  simp only [World.size_alloc] at hs0 hi0 hr0
  have HB0 := Lib.hid hb0; have HS0 := Lib.hid hs0; have HI0 := Lib.hid hi0; have HR0 := Lib.hid hr0
  clear hb0 hs0 hi0 hr0
  go_enter Try.func61, Try.ntmps61
  go_wp2_with fail
  refine (HC.out _ (HQ.out.below HB0.out.out) (by simp) (fun W' b j _ hb hB hx => leave1_calls b (w.heap.size + 1) (w.heap.size + 1 + 1) st im j W' hx
    ((hb.cell (p := ⟨w.heap.size + 1, 0, none⟩) (by simp)).trans (HS0.out.cell 0 _ rfl)) ((hb.block (w.heap.size + 1 + 1) (by omega)).trans HI0.out) (by omega) (by omega))).mono ?_
  generalize hr : changeS q id (leaveF st im) = r
  have HR := Lib.hid hr; clear hr
  obtain ⟨q', x⟩ := r
  rintro e w1 ⟨v', rfl, hq1, hb1⟩
  have HL := Lib.hid (kb_ HB0.out hb1)
  have HB1 := Lib.hid (HR0.out.below hb1)
  have HQ1 := Lib.hid hq1
  clear hq1 hb1 HB0 HS0 HI0 HR0
  have b0 := HB1.out.cell 0 _ rfl
  have b1 := HB1.out.cell 1 _ rfl
  have fz1 := HB1.out.frozen
  unfold Qv.val
  go_wp2
  rw [HR.out]
  have hL3 := below_setCells (w := 0) (g := w.heap.size + 1 + 1 + 1) (v'.cells q') 0 w w1 HL.out.out (by omega)
  have hQ3 := HQ1.out.put HB1.out t29 0 (v'.cells q')
  refine bodyPost_ret (results_ct rfl _ _ (w.heap.size + 1 + 1 + 1) _ rfl rfl (HB1.out.put (v'.cells q') rfl)) rfl ?_
  exact ⟨v', rfl, hQ3, hL3⟩
set_option maxHeartbeats 1000000 in
theorem end_calls (v : Qv) (q : Qu) (id : Int) (im : Img) (w : World) (hq : QIn w v q) (hl : q.js.length ≤ 1000) : Calls Try.prog 36 #[v.val q, .int .i64 id, im.val] w (RetQ (changeS q id (leaveF 3 im)).1 (changeS q id (leaveF 3 im)).2 w) := by
  have hc := fun W hq => leave_calls v q id 3 im W hq hl
  have HC := Lib.hid hc; clear hc
  unfold Qv.val Img.val at HC
  unfold Qv.val Img.val
  have HQ := Lib.hid hq; clear hq
  go_enter Try.func36, Try.ntmps36
  go_wp2_with fail
  refine (HC.out _ (HQ.out.below (ba_ (ba_ (ba_ (b0_ w) _) _) _).out)).mono ?_
  generalize hr : changeS q id (leaveF 3 im) = r
  have HR := Lib.hid hr; clear hr
  obtain ⟨q', x⟩ := r
  rintro e w1 ⟨v', rfl, hq1, hb1⟩
  have HL := Lib.hid (kb_ (ba_ (ba_ (ba_ (b0_ w) _) _) _) hb1)
  have HB1 := Lib.hid ((Blk.new ((w.alloc (.cells #[.slice v.qa q.qs.length v.qc, .slice v.ja q.js.length v.jc] 29)).alloc (.cells #[.int .i64 im.g, .slice im.ar.a im.ar.n im.ar.c, .slice im.gl.a im.gl.n im.gl.c, .slice im.gr.a im.gr.n im.gr.c] 38)) 29 [.slice none 0 0, .slice none 0 0]).below hb1)
  simp only [World.size_alloc] at HB1
  have HQ1 := Lib.hid hq1
  clear hq1 hb1
  have b0 := HB1.out.cell 0 _ rfl
  have b1 := HB1.out.cell 1 _ rfl
  have fz1 := HB1.out.frozen
  unfold Qv.val
  go_wp2
  rw [HR.out]
  have hL3 := below_setCells (w := 0) (g := w.heap.size + 1 + 1) (v'.cells q') 0 w w1 HL.out.out (by omega)
  have hQ3 := HQ1.out.put HB1.out t29 0 (v'.cells q')
  refine bodyPost_ret (results_ct rfl _ _ (w.heap.size + 1 + 1) _ rfl rfl (HB1.out.put (v'.cells q') rfl)) rfl ?_
  exact ⟨v', rfl, hQ3, hL3⟩
set_option maxHeartbeats 1000000 in
theorem park_calls (v : Qv) (q : Qu) (id : Int) (im : Img) (w : World) (hq : QIn w v q) (hl : q.js.length ≤ 1000) : Calls Try.prog 38 #[v.val q, .int .i64 id, im.val] w (RetQ (changeS q id (leaveF 1 im)).1 (changeS q id (leaveF 1 im)).2 w) := by
  have hc := fun W hq => leave_calls v q id 1 im W hq hl
  have HC := Lib.hid hc; clear hc
  unfold Qv.val Img.val at HC
  unfold Qv.val Img.val
  have HQ := Lib.hid hq; clear hq
  go_enter Try.func38, Try.ntmps38
  go_wp2_with fail
  refine (HC.out _ (HQ.out.below (ba_ (ba_ (ba_ (b0_ w) _) _) _).out)).mono ?_
  generalize hr : changeS q id (leaveF 1 im) = r
  have HR := Lib.hid hr; clear hr
  obtain ⟨q', x⟩ := r
  rintro e w1 ⟨v', rfl, hq1, hb1⟩
  have HL := Lib.hid (kb_ (ba_ (ba_ (ba_ (b0_ w) _) _) _) hb1)
  have HB1 := Lib.hid ((Blk.new ((w.alloc (.cells #[.slice v.qa q.qs.length v.qc, .slice v.ja q.js.length v.jc] 29)).alloc (.cells #[.int .i64 im.g, .slice im.ar.a im.ar.n im.ar.c, .slice im.gl.a im.gl.n im.gl.c, .slice im.gr.a im.gr.n im.gr.c] 38)) 29 [.slice none 0 0, .slice none 0 0]).below hb1)
  simp only [World.size_alloc] at HB1
  have HQ1 := Lib.hid hq1
  clear hq1 hb1
  have b0 := HB1.out.cell 0 _ rfl
  have b1 := HB1.out.cell 1 _ rfl
  have fz1 := HB1.out.frozen
  unfold Qv.val
  go_wp2
  rw [HR.out]
  have hL3 := below_setCells (w := 0) (g := w.heap.size + 1 + 1) (v'.cells q') 0 w w1 HL.out.out (by omega)
  have hQ3 := HQ1.out.put HB1.out t29 0 (v'.cells q')
  refine bodyPost_ret (results_ct rfl _ _ (w.heap.size + 1 + 1) _ rfl rfl (HB1.out.put (v'.cells q') rfl)) rfl ?_
  exact ⟨v', rfl, hQ3, hL3⟩
end Go.Proofs.Ytopmdgheacjkcaa
