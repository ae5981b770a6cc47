/- The reference's Image, Job. -/
import Derived.Test.YtopmdgheacjkcaaT15
import Derived.Deep.RegionHeld3
set_option linter.unusedVariables false
set_option linter.unusedSimpArgs false
namespace Go.Proofs.Ytopmdgheacjkcaa
open Go.RowKit
def img (n : Int) : Img := ⟨n, ⟨none, 0, 0⟩, ⟨none, 0, 0⟩, ⟨none, 0, 0⟩⟩
theorem results_img {fn : Func} {p : Tmp} (h : fn.results = #[.cell p 38]) (tmps : Array Value) (w : World) (g : Nat) (cs : List Value) (hl : cs.length = 4)
    (hp : tmps.getD p undef = .pointer (some ⟨g, 0, none⟩)) (hg : Blk w g 38 cs) : (results fn tmps).run Try.prog w = .ok (.agg cs.toArray) w :=
  results_cell_row h tmps w g 38 cs.toArray (0, 0) _ hp hg Try.underlying38 rfl (by
    have h : (Try.prog.info? 38).map (·.size) = some 4 := by kernel_rfl
    rw [h]; simp [hl])
set_option maxHeartbeats 400000 in
theorem image_calls (n : Int) (w : World) : Calls Try.prog 17 #[.int .i64 n] w fun e w' => e = .returned (img n).val ∧ Below w.heap.size w w' := by
  go_enter Try.func17, Try.ntmps17
  go_wp2
  exact bodyPost_ret (results_img rfl _ _ w.heap.size [.int .i64 n, .slice none 0 0, .slice none 0 0, .slice none 0 0] rfl rfl (Blk.new w 38 _)) rfl ⟨rfl, (ba_ (b0_ w) _).out⟩
theorem far11 {w : World} {g b i : Nat} {v u0 u1 u2 u3 u4 u5 u6 u7 u8 u9 u10 : Value} (h : w.cell? ⟨b, i, none⟩ = some v) (hne : b ≠ g) : World.cell? (((((((((((w.setCell ⟨g, 0, none⟩ u0).setCell ⟨g, 1, none⟩ u1).setCell ⟨g, 2, none⟩ u2).setCell ⟨g, 3, none⟩ u3).setCell ⟨g, 4, none⟩ u4).setCell ⟨g, 5, none⟩ u5).setCell ⟨g, 6, none⟩ u6).setCell ⟨g, 7, none⟩ u7).setCell ⟨g, 8, none⟩ u8).setCell ⟨g, 9, none⟩ u9).setCell ⟨g, 10, none⟩ u10) ⟨b, i, none⟩ = some v := by
  have := World.cell?_setCells_out g [u0, u1, u2, u3, u4, u5, u6, u7, u8, u9, u10] 0 w ⟨b, i, none⟩ (fun e => absurd e hne)
  exact this.trans h
set_option maxHeartbeats 400000 in
theorem image_exact (n : Int) (w : World) : Calls Try.prog 17 #[.int .i64 n] w fun e w' => e = .returned (.agg #[.int .i64 n, .slice none 0 0, .slice none 0 0, .slice none 0 0]) ∧ w.alloc (.cells #[.int .i64 n, .slice none 0 0, .slice none 0 0, .slice none 0 0] 38) = w' := by
  go_enter Try.func17, Try.ntmps17
  go_wp2
  exact bodyPost_ret (results_img rfl _ _ w.heap.size [.int .i64 n, .slice none 0 0, .slice none 0 0, .slice none 0 0] rfl rfl (Blk.new w 38 _)) rfl ⟨rfl, rfl⟩
/-- What is done, in four bytes. -/
structure Raw where
  k : Int
  a : Int
  b : Int
  c : Int
def Raw.val (x : Raw) : Value := .agg #[.int .u8 x.k, .int .u8 x.a, .int .u8 x.b, .int .u8 x.c]
structure Raw.Ok (x : Raw) : Prop where
  k0 : 0 ≤ x.k
  k1 : x.k ≤ 255
  a0 : 0 ≤ x.a
  a1 : x.a ≤ 255
  b0 : 0 ≤ x.b
  b1 : x.b ≤ 255
  c0 : 0 ≤ x.c
  c1 : x.c ≤ 255
def jobR (x : Raw) : J := { id := 7, tn := x.a % 5 - 1, pr := x.b % 11, kn := x.c % 3, bd := x.c % 13, im := img x.a, st := x.b % 6, av := x.c }
def RetJ' (j : J) (w : World) (e : Ending) (w' : World) : Prop := e = .returned j.val ∧ Below w.heap.size w w'
set_option maxHeartbeats 800000 in
set_option maxRecDepth 100000 in
theorem job_calls (x : Raw) (w : World) (hx : x.Ok) : Calls Try.prog 39 #[x.val] w (RetJ' (jobR x) w) := by
  obtain ⟨h1, h2, h3, h4, h5, h6, h7, h8⟩ := hx
  unfold Raw.val
  go_enter Try.func39, Try.ntmps39
  go_wp2_with fail
  go_region_held3 (fun w' => w'.cell? ⟨w.heap.size, 1, none⟩ = some (.int .u8 x.a) ∧ w'.cell? ⟨w.heap.size, 2, none⟩ = some (.int .u8 x.b) ∧ w'.cell? ⟨w.heap.size, 3, none⟩ = some (.int .u8 x.c))
    (first | go_keep)
    (first | (go_at_call 17; refine (image_exact _ _).mono ?_; rintro e w' ⟨rfl, rfl⟩))
  go_wp2
  have e1 : ∀ n m : Int, 0 ≤ n → n ≤ 255 → 0 < m → m ≤ 100 → IntKind.i64.wrap (n.tmod m) = n % m := fun n m hn hn' hm hm' => by
    have h1 := Int.emod_nonneg n (Int.ne_of_gt hm)
    have h2 := Int.emod_lt_of_pos n hm
    rw [Int.tmod_eq_emod_of_nonneg hn]
    exact i64w _ (by omega) (by omega)
  have e2 : ∀ n : Int, 0 ≤ n → n ≤ 255 → IntKind.i64.wrap n = n := fun n _ _ => i64w _ (by omega) (by omega)
  rw [e1 x.a 5 h3 h4 (by decide) (by decide), e1 x.b 11 h5 h6 (by decide) (by decide), e1 x.c 3 h7 h8 (by decide) (by decide), e1 x.c 13 h7 h8 (by decide) (by decide), e1 x.b 6 h5 h6 (by decide) (by decide), e2 x.a h3 h4, e2 x.c h7 h8, i64w (x.a % 5 - 1) (by omega) (by omega)]
  have hb := (bd_ (ba_ (ba_ (ba_ (b0_ w) (.cells #[.int .u8 x.k, .int .u8 x.a, .int .u8 x.b, .int .u8 x.c] 59)) (.cells (jobR x).cells.toArray 40)) (.cells (img x.a).cells.toArray 38))).out
  have hB := Blk.alloc (Blk.new (w.alloc (.cells #[.int .u8 x.k, .int .u8 x.a, .int .u8 x.b, .int .u8 x.c] 59)) 40 (jobR x).cells) (.cells (img x.a).cells.toArray 38)
  exact bodyPost_ret (results_cell_row rfl _ _ (w.alloc (.cells #[.int .u8 x.k, .int .u8 x.a, .int .u8 x.b, .int .u8 x.c] 59)).heap.size 40 (jobR x).cells.toArray (0, 0) _ (by simp) hB Try.underlying40 rfl (by kernel_rfl)) rfl ⟨rfl, hb⟩
end Go.Proofs.Ytopmdgheacjkcaa
