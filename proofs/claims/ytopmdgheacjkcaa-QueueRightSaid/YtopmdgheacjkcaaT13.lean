/- queue.Submit. -/
import Derived.Test.YtopmdgheacjkcaaT12
import Derived.Deep.RegionLaw
import Derived.Deep.RegionLawGrows
import Derived.Deep.RegionHeld3
import Derived.BigQuiet
set_option linter.unusedVariables false
set_option linter.unusedSimpArgs false
namespace Go.Proofs.Ytopmdgheacjkcaa
open Go.RowKit
def subJ (q : Qu) (j : J) : J := { j with id := q.js.length + 1, st := 1, av := -1 }
def argOk (q : Qu) (j : J) : Bool := wi j.tn 0 ((q.qs.length : Int) - 1) && wi j.pr 0 9 && !decide (j.kn < 0) && wi j.bd 0 1099511627776
def submitS (q : Qu) (j : J) : Qu × Int × Int :=
  if argOk q j = true then
    if quo q j.tn < j.bd then (q, 0, 410)
    else if 200 ≤ q.js.length then (q, 0, 2)
    else ({ q with js := q.js ++ [subJ q j] }, q.js.length + 1, 0)
  else (q, 0, 1)
theorem heap_alloc3_new (w : World) (A B C : Obj) : (((w.alloc A).alloc B).alloc C).heap[w.heap.size + 1 + 1]? = some C := by
  have := heap_alloc_new ((w.alloc A).alloc B) C
  simpa only [World.size_alloc] using this
theorem wi_true {n lo hi : Int} (h : wi n lo hi = true) : lo ≤ n ∧ n ≤ hi := by simpa [wi] using h
theorem three (w : World) (A B C : Array Value) (t u x : TypeId) (n : Nat) :
    ((((w.alloc (.cells A t)).alloc (.cells B u)).alloc (.cells C x)).drewN n).heap[w.heap.size]? = some (.cells A t (0, 0)) ∧ ((((w.alloc (.cells A t)).alloc (.cells B u)).alloc (.cells C x)).drewN n).heap[w.heap.size + 1]? = some (.cells B u (0, 0)) ∧
    ((((w.alloc (.cells A t)).alloc (.cells B u)).alloc (.cells C x)).drewN n).heap[w.heap.size + 1 + 1]? = some (.cells C x (0, 0)) ∧ Below w.heap.size w ((((w.alloc (.cells A t)).alloc (.cells B u)).alloc (.cells C x)).drewN n) := by
  refine ⟨?_, ?_, ?_, pwdN (ba_ (ba_ (ba_ (b0_ w) _) _) _) n⟩
  · have h := Blk.alloc (Blk.alloc (Blk.new w t A.toList) (.cells B u)) (.cells C x)
    simpa [Blk] using h
  · have h := Blk.alloc (Blk.new (w.alloc (.cells A t)) u B.toList) (.cells C x)
    simpa [Blk] using h
  · exact heap_alloc3_new w _ _ _
theorem step_app_full {ops : Array Oper} {o : Oper} {a : Act} {W : World} {K : Act → World → Prop} {Q : Exit → Act → World → Prop} {E : Prop} (hg : o.guard = none) (s x : Operand)
    (hop : o.op = Op.call { callee := Callee.builtin Builtin.append, args := #[s, x], argTypes := #[27, 27] }) (A : Option Addr) (xs : List J) (hs : a.eval s = .slice A xs.length xs.length) (HR : Row W 11 A (xs.map J.cells))
    (jj : J) (hx : a.eval x = .slice (some ⟨W.heap.size, 0, none⟩) 1 1) (hl : xs.length ≤ 5000)
    (hK : ∀ gb c w1, Hid (JRow w1 W.heap.size (.slice (some ⟨gb, 0, none⟩) (xs.length + 1) c) (xs ++ [jj])) → Hid (xs.length + 1 ≤ c) → Hid (Below W.heap.size W w1) → K (a.put o.dst (.slice (some ⟨gb, 0, none⟩) (xs.length + 1) c)) w1) :
    if Region.wanted o (yielded ops a.tmps) = true then Oper.wp Try.prog o a ((W.alloc (.cells #[.int .i64 jj.id, .int .i64 jj.tn, .int .i64 jj.pr, .int .i64 jj.kn, .int .i64 jj.bd, .int .i64 jj.im.g, .slice jj.im.ar.a jj.im.ar.n jj.im.ar.c, .slice jj.im.gl.a jj.im.gl.n jj.im.gl.c, .slice jj.im.gr.a jj.im.gr.n jj.im.gr.c, .int .i64 jj.st, .int .i64 jj.av] 40)).drew) K Q else E := by
  obtain ⟨i0, hi0, hzz⟩ := Option.map_eq_some_iff.1 info40
  simp only [Prod.mk.injEq] at hzz
  obtain ⟨hz0, hz1, hz2⟩ := hzz
  have HR' := HR.below (bd_ (ba_ (b0_ W) (.cells #[.int .i64 jj.id, .int .i64 jj.tn, .int .i64 jj.pr, .int .i64 jj.kn, .int .i64 jj.bd, .int .i64 jj.im.g, .slice jj.im.ar.a jj.im.ar.n jj.im.ar.c, .slice jj.im.gl.a jj.im.gl.n jj.im.gl.c, .slice jj.im.gr.a jj.im.gr.n jj.im.gr.c, .int .i64 jj.st, .int .i64 jj.av] 40))).out
  refine step_append_grows hg s x 27 hop 40 i0 _ 11 136 Try.underlying27 hi0 hz0 hz1 hz2 rfl (by omega) A xs.length xs.length (flat xs) hs (fun e => ?_) (flat_length _) (fun b e => ?_) ⟨W.heap.size, 0, none⟩ 1 1 jj.cells hx rfl
    (World.news_of_block (cs := #[.int .i64 jj.id, .int .i64 jj.tn, .int .i64 jj.pr, .int .i64 jj.kn, .int .i64 jj.bd, .int .i64 jj.im.g, .slice jj.im.ar.a jj.im.ar.n jj.im.ar.c, .slice jj.im.gl.a jj.im.gl.n jj.im.gl.c, .slice jj.im.gr.a jj.im.gr.n jj.im.gr.c, .int .i64 jj.st, .int .i64 jj.av]) (t := 40) (fr := (0, 0)) (heap_alloc_new W _)) (J.one jj) (by omega) (by simp only [maxLen]; omega) (by omega) ?_
  · rcases Nat.eq_zero_or_pos xs.length with h | h
    · exact ⟨h, h⟩
    · obtain ⟨_, e', _⟩ := HR (by rw [List.length_map]; exact h)
      rw [e] at e'; cases e'
  · subst e
    exact HR'.flat
  · intro v' w1 hown hgrow
    have hJ : JRow w1 ((W.alloc (.cells #[.int .i64 jj.id, .int .i64 jj.tn, .int .i64 jj.pr, .int .i64 jj.kn, .int .i64 jj.bd, .int .i64 jj.im.g, .slice jj.im.ar.a jj.im.ar.n jj.im.ar.c, .slice jj.im.gl.a jj.im.gl.n jj.im.gl.c, .slice jj.im.gr.a jj.im.gr.n jj.im.gr.c, .int .i64 jj.st, .int .i64 jj.av] 40)).drew).heap.size v' (xs ++ [jj]) := by
      unfold JRow
      rw [flat_append, List.length_append]
      simpa [flat] using hown
    have hJ' : JRow w1 W.heap.size v' (xs ++ [jj]) := by
      refine ⟨hJ.1, ?_⟩
      rcases hJ.2 with h | ⟨g, cap, cur, h1, h2, h3⟩
      · exact .inl h
      · have h2' : W.heap.size + 1 ≤ g := by simpa [World.drew] using h2
        exact .inr ⟨g, cap, cur, h1, by omega, h3⟩
    rcases hJ'.cases with ⟨_, h⟩ | ⟨gb, c, e, hc⟩
    · simp at h
    · have hl2 : (xs ++ [jj]).length = xs.length + 1 := by simp
      rw [hl2] at e hc
      subst e
      exact hK gb c w1 hJ' hc (kb_ (bd_ (ba_ (b0_ W) _)) (show Below _ _ w1 from ⟨hgrow.os, hgrow.tape, hgrow.output, hgrow.size, fun k hk => hgrow.block k hk (by simp)⟩))
def RetQ3 (q : Qu) (i x : Int) (w : World) (e : Ending) (w' : World) : Prop := ∃ v, e = .returned (.tuple #[Qv.val v q, .int .i64 i, .int .i64 x]) ∧ QIn w' v q ∧ Below w.heap.size w w'
set_option maxHeartbeats 4000000 in
set_option maxRecDepth 100000 in
theorem submit_calls (v : Qv) (q : Qu) (j : J) (w : World) (hq : QIn w v q) (hl : q.js.length ≤ 1000) (hql : q.qs.length ≤ 1000) :
    Calls Try.prog 44 #[v.val q, j.val] w (RetQ3 (submitS q j).1 (submitS q j).2.1 (submitS q j).2.2 w) := by
  unfold Qv.val J.val
  have hjc := hq.jc
  have hjn : v.ja = none → q.js.length = 0 ∧ q.js.length = 0 := fun e => by
    rcases Nat.eq_zero_or_pos q.js.length with h | h
    · exact ⟨h, h⟩
    · obtain ⟨_, e', _⟩ := hq.jobs (by rw [List.length_map]; exact h)
      rw [e] at e'; cases e'
  obtain ⟨i0, hi0, hzz⟩ := Option.map_eq_some_iff.1 info40
  simp only [Prod.mk.injEq] at hzz
  obtain ⟨hz0, hz1, hz2⟩ := hzz
  have HQ := Lib.hid hq; clear hq
  cases c1 : wi j.tn 0 ((q.qs.length : Int) - 1) with
  | false =>
    have HS := Lib.hid (show submitS q j = (q, 0, 1) by simp [submitS, argOk, c1])
    go_enter Try.func44, Try.ntmps44
    go_wp2_with (go_at_call 31; refine (within_calls _ _ _ _).mono ?_; rintro e w' ⟨rfl, rfl⟩)
    rw [HS.out]
    exact bodyPost_ret (results_ctt rfl _ _ (w.heap.size + 1 + 1) (v.cells q) rfl rfl (heap_alloc3_new w _ _ _)) rfl ⟨v, rfl, HQ.out.below (ba_ (ba_ (ba_ (b0_ w) _) _) _).out, (ba_ (ba_ (ba_ (b0_ w) _) _) _).out⟩
  | true =>
    cases c2 : wi j.pr 0 9 with
    | false =>
      have HS := Lib.hid (show submitS q j = (q, 0, 1) by simp [submitS, argOk, c2])
      go_enter Try.func44, Try.ntmps44
      go_wp2_with (go_at_call 31; refine (within_calls _ _ _ _).mono ?_; rintro e w' ⟨rfl, rfl⟩)
      rw [HS.out]
      exact bodyPost_ret (results_ctt rfl _ _ (w.heap.size + 1 + 1) (v.cells q) rfl rfl (heap_alloc3_new w _ _ _)) rfl ⟨v, rfl, HQ.out.below (ba_ (ba_ (ba_ (b0_ w) _) _) _).out, (ba_ (ba_ (ba_ (b0_ w) _) _) _).out⟩
    | true =>
      cases c3 : decide (j.kn < 0) with
      | true =>
        have HS := Lib.hid (show submitS q j = (q, 0, 1) by simp [submitS, argOk, c3])
        go_enter Try.func44, Try.ntmps44
        go_wp2_with (go_at_call 31; refine (within_calls _ _ _ _).mono ?_; rintro e w' ⟨rfl, rfl⟩)
        rw [HS.out]
        exact bodyPost_ret (results_ctt rfl _ _ (w.heap.size + 1 + 1) (v.cells q) rfl rfl (heap_alloc3_new w _ _ _)) rfl ⟨v, rfl, HQ.out.below (ba_ (ba_ (ba_ (b0_ w) _) _) _).out, (ba_ (ba_ (ba_ (b0_ w) _) _) _).out⟩
      | false =>
        cases c4 : wi j.bd 0 1099511627776 with
        | false =>
          have HS := Lib.hid (show submitS q j = (q, 0, 1) by simp [submitS, argOk, c4])
          go_enter Try.func44, Try.ntmps44
          go_wp2_with (go_at_call 31; refine (within_calls _ _ _ _).mono ?_; rintro e w' ⟨rfl, rfl⟩)
          rw [HS.out]
          exact bodyPost_ret (results_ctt rfl _ _ (w.heap.size + 1 + 1) (v.cells q) rfl rfl (heap_alloc3_new w _ _ _)) rfl ⟨v, rfl, HQ.out.below (ba_ (ba_ (ba_ (b0_ w) _) _) _).out, (ba_ (ba_ (ba_ (b0_ w) _) _) _).out⟩
        | true =>
          have hb := wi_true c1
          have hb2 := wi_true c4
          obtain ⟨ad, e, hcell⟩ := HQ.out.qcell j.tn hb.1 (by omega)
          have hlt : (ad.add j.tn.toNat).block < w.heap.size := World.block_lt_of_cell? w _ hcell
          have hc3 := fun A B C => ((ba_ (ba_ (ba_ (b0_ w) A) B) C).out.cell hlt).trans hcell
          obtain ⟨qa, qc, ja, jc⟩ := v
          cases e
          have i0 : 0 ≤ j.tn := hb.1
          have i1 : j.tn < (q.qs.length : Int) := by omega
          have hA : argOk q j = true := by simp [argOk, c1, c2, c3, c4]
          cases c5 : decide (quo q j.tn < j.bd) with
          | true =>
            have HS := Lib.hid (show submitS q j = (q, 0, 410) by simp [submitS, hA, of_decide_eq_true c5])
            clear hb hb2 hA
            go_enter Try.func44, Try.ntmps44
            go_wp2_with (go_at_call 31; refine (within_calls _ _ _ _).mono ?_; rintro e w' ⟨rfl, rfl⟩)
            go_quiet (fail)
            have h3 := three w #[.slice (some ad) q.qs.length qc, .slice ja q.js.length jc] #[.int .i64 j.id, .int .i64 j.tn, .int .i64 j.pr, .int .i64 j.kn, .int .i64 j.bd, .int .i64 j.im.g, .slice j.im.ar.a j.im.ar.n j.im.ar.c, .slice j.im.gl.a j.im.gl.n j.im.gl.c, .slice j.im.gr.a j.im.gr.n j.im.gr.c, .int .i64 j.st, .int .i64 j.av] #[.slice none 0 0, .slice none 0 0] 29 40 29 nq
            generalize (((w.alloc (.cells #[.slice (some ad) q.qs.length qc, .slice ja q.js.length jc] 29)).alloc (.cells #[.int .i64 j.id, .int .i64 j.tn, .int .i64 j.pr, .int .i64 j.kn, .int .i64 j.bd, .int .i64 j.im.g, .slice j.im.ar.a j.im.ar.n j.im.ar.c, .slice j.im.gl.a j.im.gl.n j.im.gl.c, .slice j.im.gr.a j.im.gr.n j.im.gr.c, .int .i64 j.st, .int .i64 j.av] 40)).alloc (.cells #[.slice none 0 0, .slice none 0 0] 29)).drewN nq = W at h3 ⊢
            obtain ⟨hA0, hA1, hA2, hAL⟩ := h3
            have HA0 : Hid (Blk W w.heap.size 29 [.slice (some ad) q.qs.length qc, .slice ja q.js.length jc]) := hA0
            have HA1 : Hid (Blk W (w.heap.size + 1) 40 j.cells) := hA1
            have HA2 : Hid (Blk W (w.heap.size + 1 + 1) 29 [.slice none 0 0, .slice none 0 0]) := hA2
            clear hA0 hA1 hA2
            have HAL := Lib.hid hAL
            clear hAL hc3
            have q0 := HA0.out.cell 0 _ rfl
            have q1 := HA0.out.cell 1 _ rfl
            have r0 := HA2.out.cell 0 _ rfl
            have r1 := HA2.out.cell 1 _ rfl
            have rf := HA2.out.frozen
            go_wp2
            rw [HS.out]
            have hP := HA2.out.put [.slice (some ad) q.qs.length qc, .slice ja q.js.length jc] rfl
            have hL := below_setCells (w := 0) (g := w.heap.size + 1 + 1) [.slice (some ad) q.qs.length qc, .slice ja q.js.length jc] 0 w W HAL.out (by omega)
            refine bodyPost_ret (results_ctt rfl _ _ (w.heap.size + 1 + 1) [.slice (some ad) q.qs.length qc, .slice ja q.js.length jc] rfl rfl hP) rfl ?_
            exact ⟨⟨some ad, qc, ja, jc⟩, rfl, HQ.out.below hL, hL⟩
          | false =>
            cases c6 : decide ((200 : Int) ≤ (q.js.length : Int)) with
            | true =>
              have HS := Lib.hid (show submitS q j = (q, 0, 2) by
                have h5 := of_decide_eq_false c5
                have h6 := of_decide_eq_true c6
                rw [submitS, if_pos hA, if_neg h5, if_pos (by omega)])
              clear hb hb2 hA
              go_enter Try.func44, Try.ntmps44
              go_wp2_with (go_at_call 31; refine (within_calls _ _ _ _).mono ?_; rintro e w' ⟨rfl, rfl⟩)
              go_quiet (fail)
              have h3 := three w #[.slice (some ad) q.qs.length qc, .slice ja q.js.length jc] #[.int .i64 j.id, .int .i64 j.tn, .int .i64 j.pr, .int .i64 j.kn, .int .i64 j.bd, .int .i64 j.im.g, .slice j.im.ar.a j.im.ar.n j.im.ar.c, .slice j.im.gl.a j.im.gl.n j.im.gl.c, .slice j.im.gr.a j.im.gr.n j.im.gr.c, .int .i64 j.st, .int .i64 j.av] #[.slice none 0 0, .slice none 0 0] 29 40 29 nq
              generalize (((w.alloc (.cells #[.slice (some ad) q.qs.length qc, .slice ja q.js.length jc] 29)).alloc (.cells #[.int .i64 j.id, .int .i64 j.tn, .int .i64 j.pr, .int .i64 j.kn, .int .i64 j.bd, .int .i64 j.im.g, .slice j.im.ar.a j.im.ar.n j.im.ar.c, .slice j.im.gl.a j.im.gl.n j.im.gl.c, .slice j.im.gr.a j.im.gr.n j.im.gr.c, .int .i64 j.st, .int .i64 j.av] 40)).alloc (.cells #[.slice none 0 0, .slice none 0 0] 29)).drewN nq = W at h3 ⊢
              obtain ⟨hA0, hA1, hA2, hAL⟩ := h3
              have HA0 : Hid (Blk W w.heap.size 29 [.slice (some ad) q.qs.length qc, .slice ja q.js.length jc]) := hA0
              have HA1 : Hid (Blk W (w.heap.size + 1) 40 j.cells) := hA1
              have HA2 : Hid (Blk W (w.heap.size + 1 + 1) 29 [.slice none 0 0, .slice none 0 0]) := hA2
              clear hA0 hA1 hA2
              have HAL := Lib.hid hAL
              clear hAL hc3
              have q0 := HA0.out.cell 0 _ rfl
              have q1 := HA0.out.cell 1 _ rfl
              have r0 := HA2.out.cell 0 _ rfl
              have r1 := HA2.out.cell 1 _ rfl
              have rf := HA2.out.frozen
              go_wp2
              rw [HS.out]
              have hP := HA2.out.put [.slice (some ad) q.qs.length qc, .slice ja q.js.length jc] rfl
              have hL := below_setCells (w := 0) (g := w.heap.size + 1 + 1) [.slice (some ad) q.qs.length qc, .slice ja q.js.length jc] 0 w W HAL.out (by omega)
              refine bodyPost_ret (results_ctt rfl _ _ (w.heap.size + 1 + 1) [.slice (some ad) q.qs.length qc, .slice ja q.js.length jc] rfl rfl hP) rfl ?_
              exact ⟨⟨some ad, qc, ja, jc⟩, rfl, HQ.out.below hL, hL⟩
            | false =>
              have HS := Lib.hid (show submitS q j = ({ q with js := q.js ++ [subJ q j] }, (q.js.length : Int) + 1, 0) by
                have h5 := of_decide_eq_false c5
                have h6 := of_decide_eq_false c6
                rw [submitS, if_pos hA, if_neg h5, if_neg (by omega)])
              clear hb hb2 hA
              go_enter Try.func44, Try.ntmps44
              go_wp2_with (go_at_call 31; refine (within_calls _ _ _ _).mono ?_; rintro e w' ⟨rfl, rfl⟩)
              go_quiet (fail)
              have h3 := three w #[.slice (some ad) q.qs.length qc, .slice ja q.js.length jc] #[.int .i64 j.id, .int .i64 j.tn, .int .i64 j.pr, .int .i64 j.kn, .int .i64 j.bd, .int .i64 j.im.g, .slice j.im.ar.a j.im.ar.n j.im.ar.c, .slice j.im.gl.a j.im.gl.n j.im.gl.c, .slice j.im.gr.a j.im.gr.n j.im.gr.c, .int .i64 j.st, .int .i64 j.av] #[.slice none 0 0, .slice none 0 0] 29 40 29 nq
              generalize (((w.alloc (.cells #[.slice (some ad) q.qs.length qc, .slice ja q.js.length jc] 29)).alloc (.cells #[.int .i64 j.id, .int .i64 j.tn, .int .i64 j.pr, .int .i64 j.kn, .int .i64 j.bd, .int .i64 j.im.g, .slice j.im.ar.a j.im.ar.n j.im.ar.c, .slice j.im.gl.a j.im.gl.n j.im.gl.c, .slice j.im.gr.a j.im.gr.n j.im.gr.c, .int .i64 j.st, .int .i64 j.av] 40)).alloc (.cells #[.slice none 0 0, .slice none 0 0] 29)).drewN nq = W at h3 ⊢
              obtain ⟨hA0, hA1, hA2, hAL⟩ := h3
              have HA0 : Hid (Blk W w.heap.size 29 [.slice (some ad) q.qs.length qc, .slice ja q.js.length jc]) := hA0
              have HA1 : Hid (Blk W (w.heap.size + 1) 40 j.cells) := hA1
              have HA2 : Hid (Blk W (w.heap.size + 1 + 1) 29 [.slice none 0 0, .slice none 0 0]) := hA2
              clear hA0 hA1 hA2
              have HAL := Lib.hid hAL
              clear hAL hc3
              have q0 := HA0.out.cell 0 _ rfl
              have q1 := HA0.out.cell 1 _ rfl
              have r0 := HA2.out.cell 0 _ rfl
              have r1 := HA2.out.cell 1 _ rfl
              have rf := HA2.out.frozen
              have jf := HA1.out.frozen
              have j0 := HA1.out.cell 0 _ rfl
              have j9 := HA1.out.cell 9 _ rfl
              have j10 := HA1.out.cell 10 _ rfl
              go_wp2
              have k1 : Hid (Blk (((W.setCell ⟨w.heap.size + 1, 0, none⟩ (.int .i64 ((q.js.length : Int) + 1))).setCell ⟨w.heap.size + 1, 9, none⟩ (.int .i64 1)).setCell ⟨w.heap.size + 1, 10, none⟩ (.int .i64 (-1))) (w.heap.size + 1) 40 (subJ q j).cells) := ((HA1.out.set 0 (.int .i64 ((q.js.length : Int) + 1))).set 9 (.int .i64 1)).set 10 (.int .i64 (-1))
              have k0 := Lib.hid (((HA0.out.far (g' := w.heap.size + 1) (by omega) 0 (.int .i64 ((q.js.length : Int) + 1))).far (g' := w.heap.size + 1) (by omega) 9 (.int .i64 1)).far (g' := w.heap.size + 1) (by omega) 10 (.int .i64 (-1)))
              have k2 := Lib.hid (((HA2.out.far (g' := w.heap.size + 1) (by omega) 0 (.int .i64 ((q.js.length : Int) + 1))).far (g' := w.heap.size + 1) (by omega) 9 (.int .i64 1)).far (g' := w.heap.size + 1) (by omega) 10 (.int .i64 (-1)))
              have kL := bs_ (bs_ (bs_ HAL.out (p := ⟨w.heap.size + 1, 0, none⟩) (Nat.le_succ _) (.int .i64 ((q.js.length : Int) + 1))) (p := ⟨w.heap.size + 1, 9, none⟩) (Nat.le_succ _) (.int .i64 1)) (p := ⟨w.heap.size + 1, 10, none⟩) (Nat.le_succ _) (.int .i64 (-1))
              clear q0 q1 r0 r1 rf jf j0 j9 j10 HA0 HA1 HA2 HAL
              generalize ((W.setCell ⟨w.heap.size + 1, 0, none⟩ (.int .i64 ((q.js.length : Int) + 1))).setCell ⟨w.heap.size + 1, 9, none⟩ (.int .i64 1)).setCell ⟨w.heap.size + 1, 10, none⟩ (.int .i64 (-1)) = W2 at k0 k1 k2 kL ⊢
              have s1 := k0.out.cell 1 _ rfl
              have t0 := k1.out.cell 0 _ rfl
              have t1 := k1.out.cell 1 _ rfl
              have t2 := k1.out.cell 2 _ rfl
              have t3 := k1.out.cell 3 _ rfl
              have t4 := k1.out.cell 4 _ rfl
              have t5 := k1.out.cell 5 _ rfl
              have t6 := k1.out.cell 6 _ rfl
              have t7 := k1.out.cell 7 _ rfl
              have t8 := k1.out.cell 8 _ rfl
              have t9 := k1.out.cell 9 _ rfl
              have t10 := k1.out.cell 10 _ rfl
              have HID := Lib.hid (show (subJ q j).id = (q.js.length : Int) + 1 from rfl)
              generalize subJ q j = jj at HID k1 t0 t1 t2 t3 t4 t5 t6 t7 t8 t9 t10 HS
              have zl := k0.out.lt
              have zl1 := k1.out.lt
              go_region_law (first
                | (refine step_app_full (by rfl) _ _ (by rfl) ja q.js (by rfl) ?_ jj (by rfl) (by omega) ?_; exact (HQ.out.below kL.out).jobs; intro gb c w1 hown hc hbb; have hb := hbb.out; have fz := (hb.frozen (p := ⟨w.heap.size, 1, none⟩) k0.out.lt).trans (k0.out.frozen 1); have hz := kc_ hb s1)
                | (go_simp; go_at_call 64; refine (clip_calls _ _ _ _ hjc (by omega)).mono ?_; rintro e w' ⟨rfl, rfl⟩))
              all_goals
                have m0 := ((k0.out.below hb).set 1 (.slice (some ⟨gb, 0, none⟩) (q.js.length + 1) c))
                have m1 := (k1.out.below hb).far (g' := w.heap.size) (by omega) 1 (.slice (some ⟨gb, 0, none⟩) (q.js.length + 1) c)
                have m2 := (k2.out.below hb).far (g' := w.heap.size) (by omega) 1 (.slice (some ⟨gb, 0, none⟩) (q.js.length + 1) c)
                have mL := bs_ (kb_ kL hb) (p := ⟨w.heap.size, 1, none⟩) (Nat.le_refl _) (.slice (some ⟨gb, 0, none⟩) (q.js.length + 1) c)
                have mg : w.heap.size < gb := Nat.lt_of_lt_of_le zl (World.ownsRow.lt hown.out gb rfl).1
                have mR := hown.out.far (g' := w.heap.size) (by omega) 1 (.slice (some ⟨gb, 0, none⟩) (q.js.length + 1) c)
                clear s1 t0 t1 t2 t3 t4 t5 t6 t7 t8 t9 t10 hz fz
                generalize w1.setCell ⟨w.heap.size, 1, none⟩ (.slice (some ⟨gb, 0, none⟩) (q.js.length + 1) c) = W3 at m0 m1 m2 mL mR ⊢
                have M0 := Lib.hid m0; have M1 := Lib.hid m1; have M2 := Lib.hid m2; have MR := Lib.hid mR
                clear m0 m1 m2 mR
                have q0 := M0.out.cell 0 _ rfl
                have q1 := M0.out.cell 1 _ rfl
                have j0 := M1.out.cell 0 _ rfl
                have r0 := M2.out.cell 0 _ rfl
                have r1 := M2.out.cell 1 _ rfl
                have rf := M2.out.frozen
                go_wp2_with fail
                go_region
                go_wp2
                rw [HS.out]
                have hP := M2.out.put [.slice (some ad) q.qs.length qc, .slice (some ⟨gb, 0, none⟩) (q.js.length + 1) c] rfl
                have hL := below_setCells (w := 0) (g := w.heap.size + 1 + 1) [.slice (some ad) q.qs.length qc, .slice (some ⟨gb, 0, none⟩) (q.js.length + 1) c] 0 w W3 mL.out (by omega)
                have hne : gb ≠ w.heap.size + 1 + 1 := by
                  have h1 := k2.out.lt
                  have h2 := (World.ownsRow.lt hown.out gb rfl).1
                  omega
                have hR := MR.out.fars hne 0 [.slice (some ad) q.qs.length qc, .slice (some ⟨gb, 0, none⟩) (q.js.length + 1) c]
                have hpost : RetQ3 { q with js := q.js ++ [jj] } ((q.js.length : Int) + 1) 0 w (.returned (.tuple #[.agg #[.slice (some ad) q.qs.length qc, .slice (some ⟨gb, 0, none⟩) (q.js.length + 1) c], .int .i64 jj.id, .int .i64 0])) ((W3.setCells (w.heap.size + 1 + 1) 0 [.slice (some ad) q.qs.length qc, .slice (some ⟨gb, 0, none⟩) (q.js.length + 1) c]).drew) :=
                  ⟨⟨some ad, qc, some ⟨gb, 0, none⟩, c⟩, by rw [HID.out]; simp [Qv.val], ⟨(HQ.out.below (bd_ hL)).quota, hR.row, HQ.out.qc, by simpa using hc.out⟩, bd_ hL⟩
                refine bodyPost_ret (results_ctt rfl _ _ (w.heap.size + 1 + 1) [.slice (some ad) q.qs.length qc, .slice (some ⟨gb, 0, none⟩) (q.js.length + 1) c] rfl rfl hP) rfl ?_
                exact hpost
end Go.Proofs.Ytopmdgheacjkcaa
