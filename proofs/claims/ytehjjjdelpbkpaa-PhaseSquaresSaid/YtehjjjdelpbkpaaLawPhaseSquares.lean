/-
  The squares: the law's walk, and its row.
-/
import Derived.Test.YtehjjjdelpbkpaaP9
import Derived.Test.YtehjjjdelpbkpaaP4c
namespace Go.Proofs.Ytehjjjdelpbkpaa
open Go.RowKit Go Go.Proofs.YtehjjjdelpbkpaaW.PrintWords
open F
theorem row8_size' (x y : Nat → Int) : (row8 x y).size = 8 := rfl
theorem row8_one' (x y : Nat → Int) : (row8 x y).all (·.oneCell') = true := by simp [row8, Value.oneCell']
theorem sq_le (a : Int) (B : Nat) (h : a.natAbs ≤ B) : 0 ≤ a * a ∧ a * a ≤ ((B * B : Nat) : Int) := by
  rw [← Int.natAbs_mul_self]
  exact ⟨by omega, by exact_mod_cast Nat.mul_le_mul h h⟩
/-- The two sums of squares, so far. -/
def sqA (X Y : Nat → Int) : Nat → Int
  | 0 => 0
  | k + 1 => sqA X Y k + (X k * X k + Y k * Y k)
def sqB (x y : Nat → Int) : Nat → Int
  | 0 => 0
  | k + 1 => sqB x y k + x k * x k + y k * y k
theorem sqA_le (X Y : Nat → Int) (B : Nat) (hX : ∀ j, j < 4 → (X j).natAbs ≤ B) (hY : ∀ j, j < 4 → (Y j).natAbs ≤ B) : ∀ k : Nat, k ≤ 4 → 0 ≤ sqA X Y k ∧ sqA X Y k ≤ ((k * (2 * (B * B)) : Nat) : Int)
  | 0, _ => by simp [sqA]
  | k + 1, h => by
    have h1 := sqA_le X Y B hX hY k (by omega)
    have h2 := sq_le (X k) B (hX k (by omega))
    have h3 := sq_le (Y k) B (hY k (by omega))
    have e : (k + 1) * (2 * (B * B)) = k * (2 * (B * B)) + 2 * (B * B) := Nat.succ_mul _ _
    simp only [sqA]
    rw [e]
    omega
theorem sqB_le (X Y : Nat → Int) (B : Nat) (hX : ∀ j, j < 4 → (X j).natAbs ≤ B) (hY : ∀ j, j < 4 → (Y j).natAbs ≤ B) : ∀ k : Nat, k ≤ 4 → 0 ≤ sqB X Y k ∧ sqB X Y k ≤ ((k * (2 * (B * B)) : Nat) : Int)
  | 0, _ => by simp [sqB]
  | k + 1, h => by
    have h1 := sqB_le X Y B hX hY k (by omega)
    have h2 := sq_le (X k) B (hX k (by omega))
    have h3 := sq_le (Y k) B (hY k (by omega))
    have e : (k + 1) * (2 * (B * B)) = k * (2 * (B * B)) + 2 * (B * B) := Nat.succ_mul _ _
    simp only [sqB]
    rw [e]
    omega
/-- The squares of the four waves are four times those of what was sent forth. -/
theorem squares (x y : Nat → Int) : sqB (fun k => Sr x y (-(k : Int)) 4) (fun k => Si x y (-(k : Int)) 4) 4 = 4 * sqA x y 4 := by
  simp [sqB, sqA, Sr, Si, rotr, roti]
  grind
def cutM (M : Int) (x : Nat → Int) (j : Nat) : Int := (x j).tmod M
/-- What 'four' gives, and what its waves are. -/
theorem four_waves (x y : Nat → Int) (w : World) : Calls Try.prog 16 #[.agg (row8 x y), .int .u64 18] w fun e w' => ∃ c0 c1 c2 c3 : Value, e = .returned (.tuple #[.agg (row8 (cutM 262144 x) (cutM 262144 y)), .agg #[c0, c1, c2, c3]]) ∧ (c0.oneCell' = true ∧ c1.oneCell' = true ∧ c2.oneCell' = true ∧ c3.oneCell' = true) ∧
    (∀ w, Calls Try.prog 17 #[.agg #[c0, c1, c2, c3]] w fun e w' => ∃ r i : Nat → Nat, e = .returned (arr4 r i) ∧ (∀ k, k < 4 → Fl (r k) (Sr (cutM 262144 x) (cutM 262144 y) (-(k : Int)) 4) ∧ Fl (i k) (Si (cutM 262144 x) (cutM 262144 y) (-(k : Int)) 4)) ∧ Below w.heap.size w w') ∧ Below w.heap.size w w' :=
  (four18_any x y w).mono fun e w' ⟨a, b, h1, h2, h3⟩ => ⟨_, _, _, _, h1, ⟨rfl, rfl, rfl, rfl⟩, fun w => Forth_any a b _ _ 262144 (by omega) (fun j hj => (h2 j hj).1) (fun j hj => (h2 j hj).2) (fun j _ => Nat.le_of_lt (tmod_lt (x j) 262144 (by omega))) (fun j _ => Nat.le_of_lt (tmod_lt (y j) 262144 (by omega))) w, h3⟩
theorem row8_get (X Y : Nat → Int) (j : Nat) (h : j < 4) : (row8 X Y)[2 * j]? = some (.int .i64 (X j)) ∧ (row8 X Y)[2 * j + 1]? = some (.int .i64 (Y j)) := by
  have h1 : j = 0 ∨ j = 1 ∨ j = 2 ∨ j = 3 := by omega
  rcases h1 with rfl | rfl | rfl | rfl <;> exact ⟨rfl, rfl⟩
theorem wrap_id (a : Int) (h : 0 ≤ a) (h2 : a < 9223372036854775808) : wrap64 a = a := by unfold wrap64; omega
set_option maxHeartbeats 4000000 in
theorem PhaseSquares_any (x y : Nat → Int) (w : World) : Calls Try.prog 5 #[arr8 x y] w fun e w' => e = .returned (.bool true) ∧ Below w.heap.size w w' := by
  have HF := Lib.hid (four_waves x y)
  have a1 := row8_size' x y
  unfold arr8
  generalize row8 x y = A8 at HF a1
  have hXb : ∀ j, j < 4 → (cutM 262144 x j).natAbs ≤ 262144 := fun j _ => Nat.le_of_lt (tmod_lt (x j) 262144 (by omega))
  have hYb : ∀ j, j < 4 → (cutM 262144 y j).natAbs ≤ 262144 := fun j _ => Nat.le_of_lt (tmod_lt (y j) 262144 (by omega))
  generalize cutM 262144 x = X at HF hXb
  generalize cutM 262144 y = Y at HF hYb
  have HXb : Hid (∀ j, j < 4 → (X j).natAbs ≤ 262144) := hXb
  have HYb : Hid (∀ j, j < 4 → (Y j).natAbs ≤ 262144) := hYb
  have HSq := Lib.hid (squares X Y)
  have HZ : Hid (∀ k : Nat, k < 4 → (Sr X Y (-(k : Int)) 4).natAbs ≤ 1048576 ∧ (Si X Y (-(k : Int)) 4).natAbs ≤ 1048576) := fun k _ => ⟨Sr_abs X Y _ 262144 HXb HYb 4 (by omega), Si_abs X Y _ 262144 HXb HYb 4 (by omega)⟩
  clear hXb hYb
  have b1 := row8_size' X Y
  have b2 := Lib.hid (row8_one' X Y)
  have HG := Lib.hid (row8_get X Y)
  generalize row8 X Y = B8 at HF b1 b2 HG
  generalize hP : (fun k : Nat => Sr X Y (-(k : Int)) 4) = P at HSq
  generalize hQ : (fun k : Nat => Si X Y (-(k : Int)) 4) = Q at HSq
  have HFW : Hid (∀ w, Calls Try.prog 16 #[.agg A8, .int .u64 18] w fun e w' => ∃ c0 c1 c2 c3 : Value, e = .returned (.tuple #[.agg B8, .agg #[c0, c1, c2, c3]]) ∧ (c0.oneCell' = true ∧ c1.oneCell' = true ∧ c2.oneCell' = true ∧ c3.oneCell' = true) ∧
    (∀ w, Calls Try.prog 17 #[.agg #[c0, c1, c2, c3]] w fun e w' => ∃ r i : Nat → Nat, e = .returned (arr4 r i) ∧ (∀ k, k < 4 → Fl (r k) (P k) ∧ Fl (i k) (Q k)) ∧ Below w.heap.size w w') ∧ Below w.heap.size w w') := by rw [← hP, ← hQ]; exact HF
  have HZP : Hid (∀ k : Nat, k < 4 → (P k).natAbs ≤ 1048576 ∧ (Q k).natAbs ≤ 1048576) := by rw [← hP, ← hQ]; exact HZ
  clear hP hQ HF HZ
  unfold arr4 at HFW
  go_enter Try.func5, Try.ntmps5
  go_wp2_with (first | (refine wpList_load_row rfl 30 (.tmp 1) rfl w.heap.size rfl 30 A8 (0, 0) (.array 4 26) (blk_new w _) Try.underlying30 rfl (by rw [a1]; kernel_rfl) ?_) | (go_at_call 16; (refine (HFW.out _).mono ?_); rintro e w1 ⟨c0, c1, c2, c3, rfl, ⟨o0, o1, o2, o3⟩, hG, hb1⟩; have HG17 := Lib.hid hG; have HB1 := Lib.hid (below_two (below_one w _) hb1); have H0 := Lib.hid (blk_below (blk_new w _) hb1); clear hG hb1) | (refine wpList_store_row rfl 30 (.tmp 1) (.tmp 13) rfl w.heap.size B8 rfl rfl 30 _ (blk_keep H0.out _) (by rw [b1]; kernel_rfl) (by rw [b1]; exact a1) b2.out ?_) | (refine wpList_store_row rfl 31 (.tmp 3) (.tmp 14) rfl w1.heap.size #[c0, c1, c2, c3] rfl rfl 31 _ (row_far (blk_new w1 _) (by have := blk_lt H0.out; omega) _) (by kernel_rfl) (by rfl) (by simp [o0, o1, o2, o3]) ?_) | (refine wpList_load_row rfl 31 (.tmp 3) rfl w1.heap.size rfl 31 #[c0, c1, c2, c3] (0, 0) (.array 4 23) (setRow_heap _ _ _ _ _ _ (row_far (blk_new w1 _) (by have := blk_lt H0.out; omega) _)) Try.underlying31 rfl (by kernel_rfl) ?_) | (go_at_call 17; (refine (HG17.out _).mono ?_); rintro e w2 ⟨r, i, rfl, hri, hb2⟩; have HB2 := Lib.hid (below_two (below_setRow (below_setRow (below_more HB1.out _) (Nat.le_refl _) _) HB1.out.size _) hb2); have H02 := Lib.hid (blk_below (row_far (setRow_heap _ _ _ B8 _ _ (blk_keep H0.out _)) (by have := blk_lt H0.out; omega) _) hb2); have HRI := Lib.hid hri; clear hri hb2) | (refine wpList_store_row rfl 31 (.tmp 4) (.tmp 16) rfl w2.heap.size #[.complex .f64 (r 0) (i 0), .complex .f64 (r 1) (i 1), .complex .f64 (r 2) (i 2), .complex .f64 (r 3) (i 3)] rfl rfl 31 _ (blk_new w2 _) (by kernel_rfl) (by rfl) (by simp [Value.oneCell']) ?_))
  have HB3 := Lib.hid (below_setRow (below_more HB2.out (.cells #[.complex .f64 0 0, .complex .f64 0 0, .complex .f64 0 0, .complex .f64 0 0] 31 (0, 0))) HB2.out.size #[.complex .f64 (r 0) (i 0), .complex .f64 (r 1) (i 1), .complex .f64 (r 2) (i 2), .complex .f64 (r 3) (i 3)])
  have H03 := Lib.hid (row_far (blk_keep H02.out (.cells #[.complex .f64 0 0, .complex .f64 0 0, .complex .f64 0 0, .complex .f64 0 0] 31 (0, 0))) (Nat.ne_of_lt (blk_lt H02.out)) #[.complex .f64 (r 0) (i 0), .complex .f64 (r 1) (i 1), .complex .f64 (r 2) (i 2), .complex .f64 (r 3) (i 3)])
  have H43 := Lib.hid (setRow_heap _ _ _ #[.complex .f64 (r 0) (i 0), .complex .f64 (r 1) (i 1), .complex .f64 (r 2) (i 2), .complex .f64 (r 3) (i 3)] _ _ (blk_new w2 (.cells #[.complex .f64 0 0, .complex .f64 0 0, .complex .f64 0 0, .complex .f64 0 0] 31 (0, 0))))
  generalize w2.heap.size = g4 at H43 HB3 H03
  go_loopw [5, 6, 17] (fun v5 v6 v17 wr => ∃ (k bb : Nat) (kz : Int), k ≤ 4 ∧ Hid (kz = k) ∧ v17 = .int .i64 kz ∧ v5 = .int .i64 (sqA X Y k) ∧ v6 = .float .f64 bb ∧ Hid (Fl bb (sqB P Q k)) ∧ Hid (wr.heap[w.heap.size]? = some (.cells B8 30 (0, 0))) ∧ Hid (wr.heap[g4]? = some (.cells #[.complex .f64 (r 0) (i 0), .complex .f64 (r 1) (i 1), .complex .f64 (r 2) (i 2), .complex .f64 (r 3) (i 3)] 31 (0, 0))) ∧ Hid (Below w.heap.size w wr)) (fun _ _ v17 _ => 4 - (intOf v17).toNat)
  case atStart => exact ⟨0, 0, 0, by omega, rfl, rfl, rfl, rfl, fl_zero, H03, H43, HB3⟩
  case round =>
    obtain ⟨k, bb, kz, hk, hz, rfl, rfl, rfl, hbb, h0, h4, hbw⟩ := hrel
    have hkk : k = 0 ∨ k = 1 ∨ k = 2 ∨ k = 3 ∨ k = 4 := by omega
    rcases hkk with rfl | rfl | rfl | rfl | rfl
    · obtain rfl : kz = 0 := hz.out
      have hxc : wr.cell? ⟨w.heap.size, 0, none⟩ = some (.int .i64 (X 0)) := (blk_cell h0.out 0).trans (HG.out 0 (by omega)).1
      have hyc : wr.cell? ⟨w.heap.size, 1, none⟩ = some (.int .i64 (Y 0)) := (blk_cell h0.out 1).trans (HG.out 0 (by omega)).2
      have hzc : wr.cell? ⟨g4, 0, none⟩ = some (.complex .f64 (r 0) (i 0)) := blk_cell h4.out 0
      have sx := sq_le (X 0) 262144 (HXb.out 0 (by omega))
      have sy := sq_le (Y 0) 262144 (HYb.out 0 (by omega))
      have sp := sq_le (P 0) 1048576 (HZP.out 0 (by omega)).1
      have sq := sq_le (Q 0) 1048576 (HZP.out 0 (by omega)).2
      have sa := sqA_le X Y 262144 HXb.out HYb.out 0 (by omega)
      have sb := sqB_le P Q 1048576 (fun j hj => (HZP.out j hj).1) (fun j hj => (HZP.out j hj).2) 0 (by omega)
      have ea : sqA X Y 1 = sqA X Y 0 + (X 0 * X 0 + Y 0 * Y 0) := rfl
      have eb : sqB P Q 1 = sqB P Q 0 + P 0 * P 0 + Q 0 * Q 0 := rfl
      have w1' : wrap64 (X 0 * X 0) = X 0 * X 0 := wrap_id _ (by omega) (by omega)
      have w2' : wrap64 (Y 0 * Y 0) = Y 0 * Y 0 := wrap_id _ (by omega) (by omega)
      have w3' : wrap64 (X 0 * X 0 + Y 0 * Y 0) = X 0 * X 0 + Y 0 * Y 0 := wrap_id _ (by omega) (by omega)
      have w4' : wrap64 (sqA X Y 0 + (X 0 * X 0 + Y 0 * Y 0)) = sqA X Y 0 + (X 0 * X 0 + Y 0 * Y 0) := wrap_id _ (by omega) (by omega)
      obtain ⟨m1, e1, f1⟩ := fl_mul (HRI.out 0 (by omega)).1 (HRI.out 0 (by omega)).1 (by omega)
      obtain ⟨m2, e2, f2⟩ := fl_mul (HRI.out 0 (by omega)).2 (HRI.out 0 (by omega)).2 (by omega)
      obtain ⟨m3, e3, f3⟩ := fl_add hbb.out f1 (by omega)
      obtain ⟨m4, e4, f4⟩ := fl_add f3 f2 (by omega)
      have hm1 := fun W : World => run_float_arith (P := Try.prog) W .mul 38 .f64 _ _ _ e1
      have hm2 := fun W : World => run_float_arith (P := Try.prog) W .mul 38 .f64 _ _ _ e2
      have hm3 := fun W : World => run_float_arith (P := Try.prog) W .add 38 .f64 _ _ _ e3
      have hm4 := fun W : World => run_float_arith (P := Try.prog) W .add 38 .f64 _ _ _ e4
      have EA := Lib.hid (ea.trans w4'.symm)
      clear w4'
      have F4 : Hid (Fl m4 (sqB P Q 1)) := by rw [eb]; exact f4
      clear sx sy sp sq sa sb ea eb f1 f2 f3 f4 e1 e2 e3 e4
      go_wp2
      go_quiet (fail)
      go_wp2
      go_quiet (fail)
      go_wp2
      go_roundw
      case rel => exact ⟨1, m4, 1, by omega, rfl, rfl, by rw [EA.out], rfl, F4, h0, h4, ⟨hbw.out.os, hbw.out.tape, hbw.out.output, hbw.out.size, hbw.out.block⟩⟩
      case measure => simp [intOf]
    · obtain rfl : kz = 1 := hz.out
      have hxc : wr.cell? ⟨w.heap.size, 2, none⟩ = some (.int .i64 (X 1)) := (blk_cell h0.out 2).trans (HG.out 1 (by omega)).1
      have hyc : wr.cell? ⟨w.heap.size, 3, none⟩ = some (.int .i64 (Y 1)) := (blk_cell h0.out 3).trans (HG.out 1 (by omega)).2
      have hzc : wr.cell? ⟨g4, 1, none⟩ = some (.complex .f64 (r 1) (i 1)) := blk_cell h4.out 1
      have sx := sq_le (X 1) 262144 (HXb.out 1 (by omega))
      have sy := sq_le (Y 1) 262144 (HYb.out 1 (by omega))
      have sp := sq_le (P 1) 1048576 (HZP.out 1 (by omega)).1
      have sq := sq_le (Q 1) 1048576 (HZP.out 1 (by omega)).2
      have sa := sqA_le X Y 262144 HXb.out HYb.out 1 (by omega)
      have sb := sqB_le P Q 1048576 (fun j hj => (HZP.out j hj).1) (fun j hj => (HZP.out j hj).2) 1 (by omega)
      have ea : sqA X Y 2 = sqA X Y 1 + (X 1 * X 1 + Y 1 * Y 1) := rfl
      have eb : sqB P Q 2 = sqB P Q 1 + P 1 * P 1 + Q 1 * Q 1 := rfl
      have w1' : wrap64 (X 1 * X 1) = X 1 * X 1 := wrap_id _ (by omega) (by omega)
      have w2' : wrap64 (Y 1 * Y 1) = Y 1 * Y 1 := wrap_id _ (by omega) (by omega)
      have w3' : wrap64 (X 1 * X 1 + Y 1 * Y 1) = X 1 * X 1 + Y 1 * Y 1 := wrap_id _ (by omega) (by omega)
      have w4' : wrap64 (sqA X Y 1 + (X 1 * X 1 + Y 1 * Y 1)) = sqA X Y 1 + (X 1 * X 1 + Y 1 * Y 1) := wrap_id _ (by omega) (by omega)
      obtain ⟨m1, e1, f1⟩ := fl_mul (HRI.out 1 (by omega)).1 (HRI.out 1 (by omega)).1 (by omega)
      obtain ⟨m2, e2, f2⟩ := fl_mul (HRI.out 1 (by omega)).2 (HRI.out 1 (by omega)).2 (by omega)
      obtain ⟨m3, e3, f3⟩ := fl_add hbb.out f1 (by omega)
      obtain ⟨m4, e4, f4⟩ := fl_add f3 f2 (by omega)
      have hm1 := fun W : World => run_float_arith (P := Try.prog) W .mul 38 .f64 _ _ _ e1
      have hm2 := fun W : World => run_float_arith (P := Try.prog) W .mul 38 .f64 _ _ _ e2
      have hm3 := fun W : World => run_float_arith (P := Try.prog) W .add 38 .f64 _ _ _ e3
      have hm4 := fun W : World => run_float_arith (P := Try.prog) W .add 38 .f64 _ _ _ e4
      have EA := Lib.hid (ea.trans w4'.symm)
      clear w4'
      have F4 : Hid (Fl m4 (sqB P Q 2)) := by rw [eb]; exact f4
      clear sx sy sp sq sa sb ea eb f1 f2 f3 f4 e1 e2 e3 e4
      go_wp2
      go_quiet (fail)
      go_wp2
      go_quiet (fail)
      go_wp2
      go_roundw
      case rel => exact ⟨2, m4, 2, by omega, rfl, rfl, by rw [EA.out], rfl, F4, h0, h4, ⟨hbw.out.os, hbw.out.tape, hbw.out.output, hbw.out.size, hbw.out.block⟩⟩
      case measure => simp [intOf]
    · obtain rfl : kz = 2 := hz.out
      have hxc : wr.cell? ⟨w.heap.size, 4, none⟩ = some (.int .i64 (X 2)) := (blk_cell h0.out 4).trans (HG.out 2 (by omega)).1
      have hyc : wr.cell? ⟨w.heap.size, 5, none⟩ = some (.int .i64 (Y 2)) := (blk_cell h0.out 5).trans (HG.out 2 (by omega)).2
      have hzc : wr.cell? ⟨g4, 2, none⟩ = some (.complex .f64 (r 2) (i 2)) := blk_cell h4.out 2
      have sx := sq_le (X 2) 262144 (HXb.out 2 (by omega))
      have sy := sq_le (Y 2) 262144 (HYb.out 2 (by omega))
      have sp := sq_le (P 2) 1048576 (HZP.out 2 (by omega)).1
      have sq := sq_le (Q 2) 1048576 (HZP.out 2 (by omega)).2
      have sa := sqA_le X Y 262144 HXb.out HYb.out 2 (by omega)
      have sb := sqB_le P Q 1048576 (fun j hj => (HZP.out j hj).1) (fun j hj => (HZP.out j hj).2) 2 (by omega)
      have ea : sqA X Y 3 = sqA X Y 2 + (X 2 * X 2 + Y 2 * Y 2) := rfl
      have eb : sqB P Q 3 = sqB P Q 2 + P 2 * P 2 + Q 2 * Q 2 := rfl
      have w1' : wrap64 (X 2 * X 2) = X 2 * X 2 := wrap_id _ (by omega) (by omega)
      have w2' : wrap64 (Y 2 * Y 2) = Y 2 * Y 2 := wrap_id _ (by omega) (by omega)
      have w3' : wrap64 (X 2 * X 2 + Y 2 * Y 2) = X 2 * X 2 + Y 2 * Y 2 := wrap_id _ (by omega) (by omega)
      have w4' : wrap64 (sqA X Y 2 + (X 2 * X 2 + Y 2 * Y 2)) = sqA X Y 2 + (X 2 * X 2 + Y 2 * Y 2) := wrap_id _ (by omega) (by omega)
      obtain ⟨m1, e1, f1⟩ := fl_mul (HRI.out 2 (by omega)).1 (HRI.out 2 (by omega)).1 (by omega)
      obtain ⟨m2, e2, f2⟩ := fl_mul (HRI.out 2 (by omega)).2 (HRI.out 2 (by omega)).2 (by omega)
      obtain ⟨m3, e3, f3⟩ := fl_add hbb.out f1 (by omega)
      obtain ⟨m4, e4, f4⟩ := fl_add f3 f2 (by omega)
      have hm1 := fun W : World => run_float_arith (P := Try.prog) W .mul 38 .f64 _ _ _ e1
      have hm2 := fun W : World => run_float_arith (P := Try.prog) W .mul 38 .f64 _ _ _ e2
      have hm3 := fun W : World => run_float_arith (P := Try.prog) W .add 38 .f64 _ _ _ e3
      have hm4 := fun W : World => run_float_arith (P := Try.prog) W .add 38 .f64 _ _ _ e4
      have EA := Lib.hid (ea.trans w4'.symm)
      clear w4'
      have F4 : Hid (Fl m4 (sqB P Q 3)) := by rw [eb]; exact f4
      clear sx sy sp sq sa sb ea eb f1 f2 f3 f4 e1 e2 e3 e4
      go_wp2
      go_quiet (fail)
      go_wp2
      go_quiet (fail)
      go_wp2
      go_roundw
      case rel => exact ⟨3, m4, 3, by omega, rfl, rfl, by rw [EA.out], rfl, F4, h0, h4, ⟨hbw.out.os, hbw.out.tape, hbw.out.output, hbw.out.size, hbw.out.block⟩⟩
      case measure => simp [intOf]
    · obtain rfl : kz = 3 := hz.out
      have hxc : wr.cell? ⟨w.heap.size, 6, none⟩ = some (.int .i64 (X 3)) := (blk_cell h0.out 6).trans (HG.out 3 (by omega)).1
      have hyc : wr.cell? ⟨w.heap.size, 7, none⟩ = some (.int .i64 (Y 3)) := (blk_cell h0.out 7).trans (HG.out 3 (by omega)).2
      have hzc : wr.cell? ⟨g4, 3, none⟩ = some (.complex .f64 (r 3) (i 3)) := blk_cell h4.out 3
      have sx := sq_le (X 3) 262144 (HXb.out 3 (by omega))
      have sy := sq_le (Y 3) 262144 (HYb.out 3 (by omega))
      have sp := sq_le (P 3) 1048576 (HZP.out 3 (by omega)).1
      have sq := sq_le (Q 3) 1048576 (HZP.out 3 (by omega)).2
      have sa := sqA_le X Y 262144 HXb.out HYb.out 3 (by omega)
      have sb := sqB_le P Q 1048576 (fun j hj => (HZP.out j hj).1) (fun j hj => (HZP.out j hj).2) 3 (by omega)
      have ea : sqA X Y 4 = sqA X Y 3 + (X 3 * X 3 + Y 3 * Y 3) := rfl
      have eb : sqB P Q 4 = sqB P Q 3 + P 3 * P 3 + Q 3 * Q 3 := rfl
      have w1' : wrap64 (X 3 * X 3) = X 3 * X 3 := wrap_id _ (by omega) (by omega)
      have w2' : wrap64 (Y 3 * Y 3) = Y 3 * Y 3 := wrap_id _ (by omega) (by omega)
      have w3' : wrap64 (X 3 * X 3 + Y 3 * Y 3) = X 3 * X 3 + Y 3 * Y 3 := wrap_id _ (by omega) (by omega)
      have w4' : wrap64 (sqA X Y 3 + (X 3 * X 3 + Y 3 * Y 3)) = sqA X Y 3 + (X 3 * X 3 + Y 3 * Y 3) := wrap_id _ (by omega) (by omega)
      obtain ⟨m1, e1, f1⟩ := fl_mul (HRI.out 3 (by omega)).1 (HRI.out 3 (by omega)).1 (by omega)
      obtain ⟨m2, e2, f2⟩ := fl_mul (HRI.out 3 (by omega)).2 (HRI.out 3 (by omega)).2 (by omega)
      obtain ⟨m3, e3, f3⟩ := fl_add hbb.out f1 (by omega)
      obtain ⟨m4, e4, f4⟩ := fl_add f3 f2 (by omega)
      have hm1 := fun W : World => run_float_arith (P := Try.prog) W .mul 38 .f64 _ _ _ e1
      have hm2 := fun W : World => run_float_arith (P := Try.prog) W .mul 38 .f64 _ _ _ e2
      have hm3 := fun W : World => run_float_arith (P := Try.prog) W .add 38 .f64 _ _ _ e3
      have hm4 := fun W : World => run_float_arith (P := Try.prog) W .add 38 .f64 _ _ _ e4
      have EA := Lib.hid (ea.trans w4'.symm)
      clear w4'
      have F4 : Hid (Fl m4 (sqB P Q 4)) := by rw [eb]; exact f4
      clear sx sy sp sq sa sb ea eb f1 f2 f3 f4 e1 e2 e3 e4
      go_wp2
      go_quiet (fail)
      go_wp2
      go_quiet (fail)
      go_wp2
      go_roundw
      case rel => exact ⟨4, m4, 4, by omega, rfl, rfl, by rw [EA.out], rfl, F4, h0, h4, ⟨hbw.out.os, hbw.out.tape, hbw.out.output, hbw.out.size, hbw.out.block⟩⟩
      case measure => simp [intOf]
    · obtain rfl : kz = 4 := hz.out
      have q1 := sqA_le X Y 262144 HXb.out HYb.out 4 (by omega)
      have q2 := sqB_le P Q 1048576 (fun j hj => (HZP.out j hj).1) (fun j hj => (HZP.out j hj).2) 4 (by omega)
      have hw4 : wrap64 (4 * sqA X Y 4) = 4 * sqA X Y 4 := wrap_id _ (by omega) (by omega)
      have hfe0 : (FloatKind.f64.format.order bb (FloatKind.f64.nearest (4 * sqA X Y 4)) == some .eq) = true := by rw [fl_eq' hbb.out (fl_int (by omega)), HSq.out]; simp
      have hfe : FloatKind.f64.format.order bb (floatOfInt FloatKind.f64 (4 * sqA X Y 4)) = some Ordering.eq := eq_of_beq hfe0
      clear hfe0
      clear q1 q2
      go_wp2_with (go_at_call 15; (with_reducible refine (awake_any _).mono ?_); rintro e w4 ⟨rfl, rfl⟩)
      go_ret
      exact ⟨rfl, hbw.out⟩
end Go.Proofs.Ytehjjjdelpbkpaa
namespace Go.Proofs.Ytehjjjdelpbkpaa.phaseSquares
open Go.ChangeShapes Go.WideShapes Go.ChangeAt Go.RowKit
theorem own : ownKnob Try.prog.godebug = none := by kernel_rfl
theorem laidOut : laidOutB Try.prog = true := by kernel_rfl
set_option maxRecDepth 100000 in
theorem lifted (os : Os) (started : os.Started) (H : Type) (enc : TypeId × Value → H) :
    ReturnsInHanded {} Try.checked os 5 .any (Rows.phaseSquaresSpec.pre6 enc Try.prog Try.f5 Rows.phaseSquaresRow.domain false) (Rows.phaseSquaresSpec.post enc Try.prog Try.f5 false true false false) := by
  refine returnsInHanded_of_change (C := Try.checked) own started (by kernel_rfl) Try.func5
    (ChangeSpec.witness6 (enc := enc) (C := Try.checked) false ⟨#[], #[.agg #[.int .i64 0, .int .i64 0, .int .i64 0, .int .i64 0, .int .i64 0, .int .i64 0, .int .i64 0, .int .i64 0]], []⟩ 8 (by kernel_rfl) (by kernel_rfl) (by kernel_rfl) (by kernel_rfl)) ?_
  intro W base args ds gs before hval0 hW hcnd _
  have hval : ∀ (j : Nat) t v, Try.f5.params[j]? = some t → args[j]? = some v → Value.okWide Try.prog W .any base t v := hval0
  have hW' := hW
  have hlt := hW'.lt
  obtain ⟨p, q, hA0, hV, rfl, hfz, hnd⟩ := hW
  have hA : DataW.TrodAll enc Try.prog W 0 (fun _ => true) true Try.f5.params.toList args.toList ds p := hA0
  rw [Try.params5] at hA hval
  obtain ⟨v0, vs0, d0, ds0, p0, q0, hargs, rfl, rfl, h0, r0⟩ := trodAll_cons hA
  obtain ⟨rfl, rfl, rfl⟩ := trodAll_nil r0
  obtain rfl : args = #[v0] := by cases args; simp_all
  obtain ⟨rfl, rfl⟩ := trodVars_none hV
  have k0 := h0
  have l0 : ∀ x ∈ p0, x.block < W.heap.size := fun x hx => hlt x (by simp [hx])
  obtain ⟨x0, y0, rfl⟩ := open_arr8 h0
  clear hA0 hval0
  refine (PhaseSquares_any x0 y0 W).mono fun e W' ⟨he, bel⟩ => ?_
  subst he
  exact ⟨_, rfl, _, _, _, [], _, [], hW', trodAll_mk1 (shut_bool Try.underlying4 _), trodAll_mk1 (Below.trod laidOut (by kernel_rfl) (of_decide_eq_true (by kernel_rfl)) k0 bel l0), rfl, bel.frame _, fun h => by cases h⟩
theorem over : Rows.phaseSquaresRow.holds Try.pinned (OpenSpec.ofChange Rows.phaseSquaresSpec) :=
  OpenClaim.holds_of_wide 5 Try.f5 rfl rfl rfl rfl rfl rfl rfl ⟨rfl, rfl, rfl, rfl, rfl⟩ rfl rfl rfl rfl rfl (by kernel_rfl) Try.func5 (by kernel_rfl)
    (of_decide_eq_true (by kernel_rfl)) (by unfold Func.isWrapper; first | (rw [if_pos (by decide +kernel)]; kernel_rfl) | (rw [if_neg (by decide +kernel)]; exact ⟨rfl, rfl⟩))
    (fun os started H enc _ => lifted os started H enc)
theorem proved : Rows.PhaseSquaresSaid := over
end Go.Proofs.Ytehjjjdelpbkpaa.phaseSquares
namespace Go.Proofs.Ytehjjjdelpbkpaa
theorem phaseSquares_holds : Rows.PhaseSquaresSaid := phaseSquares.proved
end Go.Proofs.Ytehjjjdelpbkpaa
