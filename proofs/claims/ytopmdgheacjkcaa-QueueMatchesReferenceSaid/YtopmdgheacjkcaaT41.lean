/- The reference's SameJob, Same, SameDone: of equal ones. -/
import Derived.Test.YtopmdgheacjkcaaT40
set_option linter.unusedVariables false
set_option linter.unusedSimpArgs false
namespace Go.Proofs.Ytopmdgheacjkcaa
open Go.RowKit
set_option maxHeartbeats 2000000 in
set_option maxRecDepth 100000 in
theorem samejob_calls (j : J) (w : World) : Calls Try.prog 21 #[j.val, j.val] w fun e w' => e = .returned (.bool true) ∧ Below w.heap.size w w' := by
  obtain ⟨id, tn, pr, kn, bd, ⟨g, ⟨ara, arn, arc⟩, ⟨gla, gln, glc⟩, ⟨gra, grn, grc⟩⟩, st, av⟩ := j
  unfold J.val
  go_enter Try.func21, Try.ntmps21
  go_wp2
  go_ret
  exact ⟨by simp, (ba_ (ba_ (b0_ w) _) _).out⟩
set_option maxHeartbeats 4000000 in
set_option maxRecDepth 100000 in
theorem same_calls (v v' : Qv) (q : Qu) (w : World) (hq : QIn w v q) (hq' : QIn w v' q) (hl : q.js.length ≤ 1000) (hql : q.qs.length ≤ 1000) : Calls Try.prog 20 #[v.val q, v'.val q] w fun e w' => e = .returned (.bool true) ∧ Below w.heap.size w w' := by
  obtain ⟨qa, qc, ja, jc⟩ := v
  obtain ⟨pa, pc, ka, kc⟩ := v'
  unfold Qv.val
  have HQ := Lib.hid hq; have HP := Lib.hid hq'; clear hq hq'
  have HB0 := Lib.hid (ba_ (ba_ (b0_ w) (.cells #[.slice qa q.qs.length qc, .slice ja q.js.length jc] 29)) (.cells #[.slice pa q.qs.length pc, .slice ka q.js.length kc] 29))
  have HX0 := Lib.hid ((Blk.new w 29 [.slice qa q.qs.length qc, .slice ja q.js.length jc]).alloc (.cells #[.slice pa q.qs.length pc, .slice ka q.js.length kc] 29))
  have HY0 := Lib.hid (blk_new' (w.alloc (.cells #[.slice qa q.qs.length qc, .slice ja q.js.length jc] 29)) (w.heap.size + 1) (by simp) 29 [.slice pa q.qs.length pc, .slice ka q.js.length kc])
  go_enter Try.func20, Try.ntmps20
  go_wp2
  generalize (w.alloc (.cells #[.slice qa q.qs.length qc, .slice ja q.js.length jc] 29)).alloc (.cells #[.slice pa q.qs.length pc, .slice ka q.js.length kc] 29) = W at HB0 HX0 HY0 ⊢
  go_loopg [5] q.qs.length (fun gg v5 wr => ∃ k : Nat, k ≤ q.qs.length ∧ q.qs.length - k ≤ gg ∧ v5 = .int .i64 k ∧ Hid (Below w.heap.size w wr) ∧ Hid (Blk wr w.heap.size 29 [.slice qa q.qs.length qc, .slice ja q.js.length jc]) ∧ Hid (Blk wr (w.heap.size + 1) 29 [.slice pa q.qs.length pc, .slice ka q.js.length kc]))
  case atStart => exact ⟨0, Nat.zero_le _, by omega, rfl, HB0.out.out, HX0.out, HY0.out⟩
  case round =>
    obtain ⟨k, hk, hg, rfl, HB, HX, HY⟩ := hrel
    clear HB0 HX0 HY0
    have q0 := HX.out.cell 0 _ rfl
    have q1 := HX.out.cell 1 _ rfl
    have p0 := HY.out.cell 0 _ rfl
    have p1 := HY.out.cell 1 _ rfl
    by_cases hlt : k < q.qs.length
    · obtain ⟨n, hn⟩ : ∃ n, q.qs[k]? = some n := ⟨_, List.getElem?_eq_getElem hlt⟩
      obtain ⟨ad, e, hc⟩ := (HQ.out.below HB.out).qcellN k n hn
      cases e
      obtain ⟨ad', e, hc'⟩ := (HP.out.below HB.out).qcellN k n hn
      cases e
      clear hn
      go_wp2_with fail
      go_quiet (fail)
      go_wp2
      go_roundg (q.qs.length - (k + 1))
      case measure => omega
      case rel => exact ⟨k + 1, by omega, by omega, by go_num, pwdN HB.out nq, HX.out.drewN nq, HY.out.drewN nq⟩
    · go_wp2
      clear q0 q1 p0 p1
      go_loopg [6] q.js.length (fun gg v6 wr => ∃ k : Nat, k ≤ q.js.length ∧ q.js.length - k ≤ gg ∧ v6 = .int .i64 k ∧ Hid (Below w.heap.size w wr) ∧ Hid (Blk wr w.heap.size 29 [.slice qa q.qs.length qc, .slice ja q.js.length jc]) ∧ Hid (Blk wr (w.heap.size + 1) 29 [.slice pa q.qs.length pc, .slice ka q.js.length kc]))
      case atStart => exact ⟨0, Nat.zero_le _, by omega, rfl, HB.out, HX.out, HY.out⟩
      case round =>
        clear HB HX HY
        obtain ⟨k, hk, hg, rfl, HB, HX, HY⟩ := hrel
        have q0 := HX.out.cell 0 _ rfl
        have q1 := HX.out.cell 1 _ rfl
        have p0 := HY.out.cell 0 _ rfl
        have p1 := HY.out.cell 1 _ rfl
        by_cases hlt : k < q.js.length
        · obtain ⟨j, hj⟩ : ∃ j, q.js[k]? = some j := ⟨_, List.getElem?_eq_getElem hlt⟩
          obtain ⟨ad, e, h0, h1, h2, h3, h4, h5, h6, h7, h8, h9, h10⟩ := (HQ.out.below HB.out).job k hlt j hj
          cases e
          obtain ⟨ad', e, g0, g1, g2, g3, g4, g5, g6, g7, g8, g9, g10⟩ := (HP.out.below HB.out).job k hlt j hj
          cases e
          have hs := fun W => samejob_calls j W
          unfold J.val at hs
          have HS := Lib.hid hs; clear hs hj
          go_wp2_with fail
          refine region_below (by kernel_rfl) (by kernel_rfl) ?_
          repeat
            first
              | go_big_quiet_skip
              | (go_big_quiet_want
                 apply Exists.intro
                 refine ⟨fun w' hC => ?_, ?_⟩
                 · have hk := hC.keep
                   first
                     | (go_simp; done)
                     | (go_simp; rfl)
                     | (go_simp; go_at_call 21; refine (HS.out _).mono ?_; rintro e w2 ⟨rfl, hb⟩; exact ⟨rfl, hC.then hb⟩)
                 simp only [Act.put, List.setIfInBounds_toArray, List.set_cons_zero, List.set_cons_succ]
                 go_big_quiet_on)
          refine wpQuiet_nil ?_
          intro w2 hC
          go_wp2
          go_roundg (q.js.length - (k + 1))
          case measure => omega
          case rel => exact ⟨k + 1, by omega, by omega, by go_num, (kb_ HB hC).out, HX.out.below hC, HY.out.below hC⟩
        · go_wp2
          go_ret
          exact ⟨rfl, HB.out⟩
set_option maxHeartbeats 2000000 in
set_option maxRecDepth 100000 in
theorem samedone_calls (v v' : Qv) (q : Qu) (i x : Int) (w : World) (hq : QIn w v q) (hq' : QIn w v' q) (hl : q.js.length ≤ 1000) (hql : q.qs.length ≤ 1000) : Calls Try.prog 24 #[v.done q i x, v'.done q i x] w fun e w' => e = .returned (.bool true) ∧ Below w.heap.size w w' := by
  obtain ⟨qa, qc, ja, jc⟩ := v
  obtain ⟨pa, pc, ka, kc⟩ := v'
  have hs := fun W hq hq' => same_calls ⟨qa, qc, ja, jc⟩ ⟨pa, pc, ka, kc⟩ q W hq hq' hl hql
  unfold Qv.val at hs
  unfold Qv.done
  have HS := Lib.hid hs; clear hs
  have HB0 := Lib.hid (ba_ (ba_ (b0_ w) (.cells #[.slice qa q.qs.length qc, .slice ja q.js.length jc, .int .i64 i, .int .i64 x] 45)) (.cells #[.slice pa q.qs.length pc, .slice ka q.js.length kc, .int .i64 i, .int .i64 x] 45))
  have HQ := Lib.hid hq; have HP := Lib.hid hq'; clear hq hq'
  go_enter Try.func24, Try.ntmps24
  go_wp2_with fail
  refine (HS.out _ (HQ.out.below HB0.out.out) (HP.out.below HB0.out.out)).mono ?_
  rintro e w1 ⟨rfl, hb1⟩
  have HB1 := Lib.hid (kb_ HB0.out hb1)
  clear hb1
  go_wp2
  go_ret
  exact ⟨by simp, HB1.out.out⟩
end Go.Proofs.Ytopmdgheacjkcaa
