/- The reference's Made. -/
import Derived.Test.YtopmdgheacjkcaaP1
import Derived.Test.YtopmdgheacjkcaaT26
import Derived.Deep.RegionLaw
set_option linter.unusedVariables false
set_option linter.unusedSimpArgs false
namespace Go.Proofs.Ytopmdgheacjkcaa
open Go.RowKit
/-- A slice of descriptions. -/
def RRow (w : World) (A : Option Addr) (xs : List Raw) : Prop :=
  0 < xs.length → ∃ ad, A = some ad ∧ ad.block < w.heap.size ∧ ∀ i x, xs[i]? = some x → w.cell? (ad.add (i * 4)) = some (.int .u8 x.k) ∧ w.cell? ⟨(ad.add (i * 4)).block, (ad.add (i * 4)).off + 1, none⟩ = some (.int .u8 x.a) ∧
    w.cell? ⟨(ad.add (i * 4)).block, (ad.add (i * 4)).off + 2, none⟩ = some (.int .u8 x.b) ∧ w.cell? ⟨(ad.add (i * 4)).block, (ad.add (i * 4)).off + 3, none⟩ = some (.int .u8 x.c)
theorem RRow.below {w w' : World} {A : Option Addr} {xs : List Raw} (h : RRow w A xs) (hb : Below w.heap.size w w') : RRow w' A xs := fun hn => by
  obtain ⟨ad, e, hl, hc⟩ := h hn
  refine ⟨ad, e, Nat.lt_of_lt_of_le hl hb.size, fun i x hx => ?_⟩
  obtain ⟨h0, h1, h2, h3⟩ := hc i x hx
  exact ⟨kc_ hb h0, kc_ hb h1, kc_ hb h2, kc_ hb h3⟩
theorem RRow.nil (w : World) (A : Option Addr) : RRow w A [] := fun h => absurd h (by simp)
def RetV (q : Qu) (w : World) (e : Ending) (w' : World) : Prop := ∃ v, e = .returned (Qv.val v q) ∧ QIn w' v q ∧ Below w.heap.size w w'
theorem far2 {w : World} {g b i : Nat} {v u0 u1 : Value} (h : w.cell? ⟨b, i, none⟩ = some v) (hne : b ≠ g) : World.cell? ((w.setCell ⟨g, 0, none⟩ u0).setCell ⟨g, 1, none⟩ u1) ⟨b, i, none⟩ = some v :=
  (World.cell?_setCells_out g [u0, u1] 0 w ⟨b, i, none⟩ (fun e => absurd e hne)).trans h
theorem far2' {w : World} {g : Nat} {p : Addr} {v u0 u1 : Value} (h : w.cell? p = some v) (hne : p.block ≠ g) : World.cell? ((w.setCell ⟨g, 0, none⟩ u0).setCell ⟨g, 1, none⟩ u1) p = some v :=
  (World.cell?_setCells_out g [u0, u1] 0 w p (fun e => absurd e hne)).trans h
theorem field_q (a a' : Option Addr) (n n' c c' : Nat) (i x : Int) (w : World) : (Instr.field 45 (.agg #[.slice a n c, .slice a' n' c', .int .i64 i, .int .i64 x]) 0).run Try.prog w = .ok (.agg #[.slice a n c, .slice a' n' c']) w := by kernel_rfl
theorem results_v {fn : Func} {p : Tmp} (h : fn.results = #[.cell p 29]) (tmps : Array Value) (w : World) (g : Nat) (cs : List Value) (hl : cs.length = 2)
    (hp : tmps.getD p undef = .pointer (some ⟨g, 0, none⟩)) (hg : Blk w g 29 cs) : (results fn tmps).run Try.prog w = .ok (.agg cs.toArray) w :=
  results_cell_row h tmps w g 29 cs.toArray (0, 0) _ hp hg Try.underlying29 rfl (by
    have h : (Try.prog.info? 29).map (·.size) = some 2 := by kernel_rfl
    rw [h]; simp [hl])
theorem row_ints (W : World) (g : Nat) (xs : List Int) (h : Blk W g 3 (xs.map (Value.int .i64))) : Row W 1 (some ⟨g, 0, none⟩) (xs.map fun n => [Value.int .i64 n]) := by
  intro _
  refine ⟨⟨g, 0, none⟩, rfl, ⟨_, _, h⟩, fun i x hx k u hu => ?_⟩
  obtain ⟨n, hn, rfl⟩ : ∃ n, xs[i]? = some n ∧ [Value.int .i64 n] = x := by simpa using hx
  obtain rfl : k = 0 := by
    have := (List.getElem?_eq_some_iff.1 hu).1
    simpa using this
  obtain rfl : Value.int .i64 n = u := by simpa using hu
  have hadd : (⟨g, 0, none⟩ : Addr).add (i * 1 + 0) = ⟨g, i, none⟩ := by unfold Addr.add; split <;> simp_all
  rw [hadd]
  exact h.cell i _ (by simp [hn])
def qsOf (a b c : Int) : List Int := [a % 30, b % 30, c % 30]
theorem qsOf_ok (a b c : Int) : (qsOf a b c).length = 3 ∧ ∀ n ∈ qsOf a b c, 0 ≤ n ∧ n ≤ 29 := by
  refine ⟨rfl, fun n hn => ?_⟩
  simp only [qsOf, List.mem_cons, List.not_mem_nil, or_false] at hn
  omega
theorem foldS_qs (qs : List Int) : ∀ (l : List Raw), (madeS qs l).qs = qs := by
  have hd : ∀ (q : Qu) (x : Raw), (doS q x).1.qs = q.qs := fun q x => by
    have hc : ∀ (id : Int) (f : J → Int × J), (changeS q id f).1.qs = q.qs := fun id f => by
      rcases changeS_cases q id f with ⟨e, _⟩ | ⟨k, j, _, _, _, e⟩ <;> rw [e]
    unfold doS
    split
    · unfold submitS
      repeat' split
      all_goals rfl
    · repeat' split
      all_goals (rw [chS_1, hc])
  have hf : ∀ (l : List Raw) (q : Qu), (l.foldl (fun q x => (doS q x).1) q).qs = q.qs := fun l => by
    induction l with
    | nil => intro q; rfl
    | cons x l ih => intro q; rw [List.foldl_cons, ih, hd]
  intro l
  exact hf l _
set_option maxHeartbeats 4000000 in
set_option maxRecDepth 100000 in
theorem made_calls (a b c : Int) (A : Option Addr) (cap : Nat) (l : List Raw) (w : World) (ha : 0 ≤ a ∧ a ≤ 255) (hb : 0 ≤ b ∧ b ≤ 255) (hc : 0 ≤ c ∧ c ≤ 255) (hl : l.length ≤ 100000000000000) (hr : RRow w A l) (hok : ∀ x ∈ l, x.Ok) :
    Calls Try.prog 10 #[.agg #[.int .u8 a, .int .u8 b, .int .u8 c], .slice A l.length cap] w (RetV (madeS (qsOf a b c) (l.take 20)) w) := by
  obtain ⟨a0, a1⟩ := ha
  obtain ⟨b0, b1⟩ := hb
  obtain ⟨c0, c1⟩ := hc
  have HR := Lib.hid hr; clear hr
  have HOK := Lib.hid hok; clear hok
  have hq := madeS_inv (qsOf_ok a b c).1 (qsOf_ok a b c).2
  have HQI := Lib.hid hq; clear hq
  have HQS := Lib.hid (foldS_qs (qsOf a b c))
  go_enter Try.func10, Try.ntmps10
  go_wp2_with fail
  have hB0 := ba_ (ba_ (ba_ (ba_ (b0_ w) (.cells #[.int .u8 a, .int .u8 b, .int .u8 c] 22)) (.cells #[.slice none 0 0, .slice none 0 0] 29)) (.cells #[.int .i64 (a % 30), .int .i64 (b % 30), .int .i64 (c % 30)] 3)) (.cells #[.slice (some ⟨w.heap.size + 1 + 1, 0, none⟩) 3 3, .slice none 0 0] 29)
  have hR0 := Blk.alloc (Blk.alloc (blk_new' (w.alloc (.cells #[.int .u8 a, .int .u8 b, .int .u8 c] 22)) (w.heap.size + 1) (by simp) 29 [.slice none 0 0, .slice none 0 0]) (.cells #[.int .i64 (a % 30), .int .i64 (b % 30), .int .i64 (c % 30)] 3)) (.cells #[.slice (some ⟨w.heap.size + 1 + 1, 0, none⟩) 3 3, .slice none 0 0] 29)
  have hD0 := Blk.alloc (blk_new' ((w.alloc (.cells #[.int .u8 a, .int .u8 b, .int .u8 c] 22)).alloc (.cells #[.slice none 0 0, .slice none 0 0] 29)) (w.heap.size + 1 + 1) (by simp) 3 [.int .i64 (a % 30), .int .i64 (b % 30), .int .i64 (c % 30)]) (.cells #[.slice (some ⟨w.heap.size + 1 + 1, 0, none⟩) 3 3, .slice none 0 0] 29)
  have hE0 := blk_new' (((w.alloc (.cells #[.int .u8 a, .int .u8 b, .int .u8 c] 22)).alloc (.cells #[.slice none 0 0, .slice none 0 0] 29)).alloc (.cells #[.int .i64 (a % 30), .int .i64 (b % 30), .int .i64 (c % 30)] 3)) (w.heap.size + 1 + 1 + 1) (by simp) 29 [.slice (some ⟨w.heap.size + 1 + 1, 0, none⟩) 3 3, .slice none 0 0]
  have hQ0 : QIn ((((w.alloc (.cells #[.int .u8 a, .int .u8 b, .int .u8 c] 22)).alloc (.cells #[.slice none 0 0, .slice none 0 0] 29)).alloc (.cells #[.int .i64 (a % 30), .int .i64 (b % 30), .int .i64 (c % 30)] 3)).alloc (.cells #[.slice (some ⟨w.heap.size + 1 + 1, 0, none⟩) 3 3, .slice none 0 0] 29)) ⟨some ⟨w.heap.size + 1 + 1, 0, none⟩, 3, none, 0⟩ ⟨qsOf a b c, []⟩ := ⟨row_ints _ _ (qsOf a b c) hD0, Row.nil _ _ _, Nat.le_refl _, Nat.le_refl _⟩
  generalize (((w.alloc (.cells #[.int .u8 a, .int .u8 b, .int .u8 c] 22)).alloc (.cells #[.slice none 0 0, .slice none 0 0] 29)).alloc (.cells #[.int .i64 (a % 30), .int .i64 (b % 30), .int .i64 (c % 30)] 3)).alloc (.cells #[.slice (some ⟨w.heap.size + 1 + 1, 0, none⟩) 3 3, .slice none 0 0] 29) = W0 at hB0 hR0 hE0 hQ0 ⊢
  have HB0 := Lib.hid hB0; have HR0 := Lib.hid hR0; have HE0 := Lib.hid hE0; have HQ0 := Lib.hid hQ0
  clear hB0 hR0 hD0 hE0 hQ0 a0 a1 b0 b1 c0 c1
  go_loopg [6] 20 (fun gg v6 wr => ∃ k : Nat, k ≤ 20 ∧ k ≤ l.length ∧ 20 - k ≤ gg ∧ v6 = .int .i64 k ∧ ∃ v : Qv, Hid (Below w.heap.size w wr) ∧ Hid (Blk wr (w.heap.size + 1) 29 [.slice none 0 0, .slice none 0 0]) ∧
      Hid (Blk wr (w.heap.size + 1 + 1 + 1) 29 (v.cells (madeS (qsOf a b c) (l.take k)))) ∧ Hid (QIn wr v (madeS (qsOf a b c) (l.take k))))
  case atStart => exact ⟨0, by omega, by omega, by omega, rfl, ⟨some ⟨w.heap.size + 1 + 1, 0, none⟩, 3, none, 0⟩, HB0.out, HR0.out, HE0.out, HQ0.out⟩
  case round =>
    obtain ⟨k, hk, hkl, hg, rfl, ⟨qa, qc, ja, jc⟩, HB, HX, HE, HQ⟩ := hrel
    clear HB0 HR0 HE0 HQ0
    have hrt := (HQI.out (l.take k)).rt (Nat.le_trans (madeS_len _ _) (by simp; omega))
    by_cases h1 : k < l.length
    · obtain ⟨x, hx⟩ : ∃ x, l[k]? = some x := ⟨_, List.getElem?_eq_getElem h1⟩
      by_cases h2 : k < 20
      · have hcall := fun W hq => rdo_calls ⟨qa, qc, ja, jc⟩ (madeS (qsOf a b c) (l.take k)) x W hq hrt (HOK.out x (List.mem_of_getElem? hx))
        have hsn := madeS_snoc (qsOf a b c) (l.take k) x
        have htk : l.take (k + 1) = l.take k ++ [x] := by
          obtain ⟨hk', rfl⟩ := List.getElem?_eq_some_iff.1 hx
          exact List.take_succ_eq_append_getElem hk'
        rw [← htk] at hsn
        have HSN := Lib.hid hsn
        clear hrt hsn htk
        generalize madeS (qsOf a b c) (l.take k) = q at HE HQ hcall HSN
        generalize doS q x = r at hcall HSN
        obtain ⟨q', i, y⟩ := r
        unfold Qv.val Raw.val at hcall
        have HC := Lib.hid hcall; clear hcall
        obtain ⟨ad, e, hlt, hcells⟩ := HR.out (by omega)
        subst e
        obtain ⟨x0, x1, x2, x3⟩ := hcells k x hx
        have y0 := kc_ HB.out x0
        have y1 := kc_ HB.out x1
        have y2 := kc_ HB.out x2
        have y3 := kc_ HB.out x3
        clear x0 x1 x2 x3 hcells
        have q0 := HE.out.cell 0 _ rfl
        have q1 := HE.out.cell 1 _ rfl
        have zl := HE.out.lt
        have e1 : decide (k < l.length) = true := decide_eq_true h1
        have e2 : decide (k < 20) = true := decide_eq_true h2
        have hfd := field_q
        clear hx
        unfold Qv.cells at HE
        go_wp2_with fail
        go_region_law (first
            | (go_simp; go_at_call 23; refine (HC.out _ (HQ.out.below (bd_ (b0_ wr)).out)).mono ?_; rintro e w2 ⟨⟨qb, qd, jb, jd⟩, rfl, hq20, hb2⟩; have hq2 := Lib.hid hq20; have hbs := (kb_ (bd_ (b0_ wr)) hb2).out; clear hq20 hb2; have z0 := kc_ hbs q0; have z1 := kc_ hbs q1; have zf := (HE.out.below hbs).frozen; simp only [Qv.done]))
        all_goals
          have HE2 := Lib.hid ((HE.out.below hbs).put [.slice qb q'.qs.length qd, .slice jb q'.js.length jd] rfl)
          have HX2 := Lib.hid ((HX.out.below hbs).fars (g' := w.heap.size + 1 + 1 + 1) (by omega) 0 [.slice qb q'.qs.length qd, .slice jb q'.js.length jd])
          have HB2 := Lib.hid (below_setCells (w := 0) (g := w.heap.size + 1 + 1 + 1) [.slice qb q'.qs.length qd, .slice jb q'.js.length jd] 0 w w2 (kb_ HB hbs) (by omega))
          have HQ2 := Lib.hid (hq2.out.put (HE.out.below hbs) t29 0 [.slice qb q'.qs.length qd, .slice jb q'.js.length jd])
          clear hq2 HE HX HB HQ HC q0 q1 y0 y1 y2 y3 z0 z1 zf hfd hbs
          go_wp2
          go_roundg (20 - (k + 1))
          case measure => omega
          case rel => exact ⟨k + 1, by omega, by omega, by omega, by go_num, ⟨qb, qd, jb, jd⟩, HB2.out, HX2.out, by rw [HSN.out]; exact HE2.out, by rw [HSN.out]; exact HQ2.out⟩
      · have e1 : decide (k < l.length) = true := decide_eq_true h1
        have e2 : decide (k < 20) = false := decide_eq_false h2
        clear hx
        have hT : l.take k = l.take 20 := by rw [show k = 20 by omega]
        rw [hT] at HE HQ
        obtain ⟨q, HG⟩ : ∃ q, Hid (madeS (qsOf a b c) (l.take 20) = q) := ⟨_, rfl⟩
        rw [HG.out] at HE HQ
        clear hrt hT
        unfold Qv.cells at HE
        have q0 := HE.out.cell 0 _ rfl
        have q1 := HE.out.cell 1 _ rfl
        have x0 := HX.out.cell 0 _ rfl
        have x1 := HX.out.cell 1 _ rfl
        have xf := HX.out.frozen
        have zl := HX.out.lt
        have HP := Lib.hid (HX.out.put [.slice qa q.qs.length qc, .slice ja q.js.length jc] rfl)
        have HL := Lib.hid (below_setCells (w := 0) (g := w.heap.size + 1) [.slice qa q.qs.length qc, .slice ja q.js.length jc] 0 w wr HB.out (by omega))
        have HQ3 := Lib.hid (HQ.out.put HX.out t29 0 [.slice qa q.qs.length qc, .slice ja q.js.length jc])
        go_wp2
        rw [HG.out]
        refine bodyPost_ret (results_v rfl _ _ (w.heap.size + 1) _ rfl rfl HP.out) rfl ?_
        exact ⟨⟨qa, qc, ja, jc⟩, rfl, HQ3.out, HL.out⟩
    · have e1 : decide (k < l.length) = false := decide_eq_false h1
      have hT : l.take k = l.take 20 := by rw [List.take_of_length_le (by omega), List.take_of_length_le (by omega)]
      rw [hT] at HE HQ
      obtain ⟨q, HG⟩ : ∃ q, Hid (madeS (qsOf a b c) (l.take 20) = q) := ⟨_, rfl⟩
      rw [HG.out] at HE HQ
      clear hrt hT
      unfold Qv.cells at HE
      have q0 := HE.out.cell 0 _ rfl
      have q1 := HE.out.cell 1 _ rfl
      have x0 := HX.out.cell 0 _ rfl
      have x1 := HX.out.cell 1 _ rfl
      have xf := HX.out.frozen
      have zl := HX.out.lt
      have HP := Lib.hid (HX.out.put [.slice qa q.qs.length qc, .slice ja q.js.length jc] rfl)
      have HL := Lib.hid (below_setCells (w := 0) (g := w.heap.size + 1) [.slice qa q.qs.length qc, .slice ja q.js.length jc] 0 w wr HB.out (by omega))
      have HQ3 := Lib.hid (HQ.out.put HX.out t29 0 [.slice qa q.qs.length qc, .slice ja q.js.length jc])
      go_wp2
      rw [HG.out]
      refine bodyPost_ret (results_v rfl _ _ (w.heap.size + 1) _ rfl rfl HP.out) rfl ?_
      exact ⟨⟨qa, qc, ja, jc⟩, rfl, HQ3.out, HL.out⟩
end Go.Proofs.Ytopmdgheacjkcaa
