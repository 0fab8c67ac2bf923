/-
  Package phase: the meter.
-/
import Derived.Test.YtehjjjdelpbkpaaP3
namespace Go.Proofs.Ytehjjjdelpbkpaa
open Go.RowKit Go.Proofs.YtehjjjdelpbkpaaW.PrintWords
open F
attribute [local go_sem] run_store_complex
/-- A meter's cells. -/
def mt (n : Nat → Int) : Array Value := #[.int .i64 (n 0), .int .i64 (n 1), .int .i64 (n 2), .int .i64 (n 3)]
theorem mt_one (n : Nat → Int) : (mt n).all (·.oneCell') = true := by simp [mt, Value.oneCell']
set_option maxHeartbeats 1000000 in
theorem Counts_nil (w : World) : Calls Try.prog 23 #[.pointer none] w fun e w' => e = .returned (.agg (mt fun _ => 0)) ∧ Below w.heap.size w w' := by
  go_enter Try.func23, Try.ntmps23
  go_wp2_with (refine wpList_store_row rfl 49 (.tmp 2) (.tmp 5) rfl w.heap.size (mt fun _ => 0) rfl rfl 49 _ (blk_new _ _) (by kernel_rfl) (by rfl) (mt_one _) ?_)
  exact bodyPost_ret (results_cell_row (by rfl) _ _ w.heap.size 49 (mt fun _ => 0) (0, 0) (.array 4 2) rfl (setRow_heap _ _ _ _ _ _ (blk_new _ _)) Try.underlying49 rfl (by kernel_rfl)) rfl ⟨rfl, below_setRow (below_one _ _) (Nat.le_refl _) _⟩
set_option maxHeartbeats 1000000 in
theorem Counts_any (g : Nat) (n : Nat → Int) (w : World) (h : w.heap[g]? = some (.cells (mt n) 58 (0, 0))) : Calls Try.prog 23 #[.pointer (some ⟨g, 0, none⟩)] w fun e w' => e = .returned (.agg (mt n)) ∧ Below w.heap.size w w' := by
  have H1 := Lib.hid (mt_one n)
  have s1 : (mt n).size = 4 := rfl
  have hg : g < w.heap.size := blk_lt h
  generalize mt n = A at h H1 s1
  have H := Lib.hid h
  clear h
  go_enter Try.func23, Try.ntmps23
  go_wp2_with (first | (refine wpList_load_row rfl 49 (.tmp 8) rfl g rfl 58 A (0, 0) (.array 4 2) (blk_keep H.out _) Try.underlying49 rfl (by rw [s1]; kernel_rfl) ?_) | (refine wpList_store_row rfl 49 (.tmp 2) (.tmp 9) rfl w.heap.size A rfl rfl 49 _ (blk_new _ _) (by rw [s1]; kernel_rfl) (by rw [s1]; rfl) H1.out ?_))
  exact bodyPost_ret (results_cell_row (by rfl) _ _ w.heap.size 49 A (0, 0) (.array 4 2) rfl (setRow_heap _ _ _ _ _ _ (blk_new _ _)) Try.underlying49 rfl (by rw [s1]; kernel_rfl)) rfl ⟨rfl, below_setRow (below_one _ _) (Nat.le_refl _) _⟩
/-- The wave of a row of counts: which power of i turns the j-th. -/
theorem fl_conv (n : Nat → Int) (B : Nat) (hB : 4 * B < 9007199254740992) (hn : ∀ j, j < 4 → (n j).natAbs ≤ B) (j : Nat) (hj : j < 4) : Fl (FloatKind.f64.nearest (n j)) (n j) := fl_int (by have := hn j hj; omega)
theorem idxm0 (c0 c1 c2 c3 : Value) (W : World) : (Instr.index 49 (.agg #[c0, c1, c2, c3]) (.int .i64 0)).run Try.prog W = .ok c0 W := by kernel_rfl
theorem idxm1 (c0 c1 c2 c3 : Value) (W : World) : (Instr.index 49 (.agg #[c0, c1, c2, c3]) (.int .i64 1)).run Try.prog W = .ok c1 W := by kernel_rfl
theorem idxm2 (c0 c1 c2 c3 : Value) (W : World) : (Instr.index 49 (.agg #[c0, c1, c2, c3]) (.int .i64 2)).run Try.prog W = .ok c2 W := by kernel_rfl
theorem idxm3 (c0 c1 c2 c3 : Value) (W : World) : (Instr.index 49 (.agg #[c0, c1, c2, c3]) (.int .i64 3)).run Try.prog W = .ok c3 W := by kernel_rfl
theorem negmod (k : Int) : ∃ m : Nat, m < 4 ∧ k % 4 = m := ⟨(k % 4).toNat, by omega, by omega⟩
set_option maxHeartbeats 2000000 in
theorem Wave_any (p : Value) (n : Nat → Int) (k : Int) (B : Nat) (hB : 4 * B < 9007199254740992) (hn : ∀ j, j < 4 → (n j).natAbs ≤ B) (w : World)
    (HC : ∀ W, Below w.heap.size w W → Calls Try.prog 23 #[p] W fun e w' => e = .returned (.agg (mt n)) ∧ Below W.heap.size W w') :
    Calls Try.prog 22 #[p, .int .i64 k] w fun e w' => ∃ re im, e = .returned (.complex .f64 re im) ∧ Fl re (Sr n (fun _ => 0) (-(k % 4)) 4) ∧ Fl im (Si n (fun _ => 0) (-(k % 4)) 4) ∧ Below w.heap.size w w' := by
  have HCH := Lib.hid HC
  have HFo : Hid (∀ W, Calls Try.prog 17 #[arr4 (fun j => FloatKind.f64.nearest (n j)) (fun _ => 0)] W fun e w' => ∃ r i : Nat → Nat, e = .returned (arr4 r i) ∧ (∀ k, k < 4 → Fl (r k) (Sr n (fun _ => 0) (-(k : Int)) 4) ∧ Fl (i k) (Si n (fun _ => 0) (-(k : Int)) 4)) ∧ Below W.heap.size W w') :=
    fun W => Forth_any _ _ n (fun _ => 0) B hB (fl_conv n B hB hn) (fun _ _ => fl_zero) hn (fun _ _ => Nat.zero_le _) W
  obtain ⟨m, hm4, hm⟩ := negmod k
  have HM := Lib.hid (mod_as k m hm)
  have HK : Hid (-(k % 4) = -(m : Int)) := by rw [hm]; rfl
  clear HC hn hB hm
  unfold arr4 at HFo
  unfold mt at HCH
  go_enter Try.func22, Try.ntmps22
  go_wp2_with (go_at_call 23; (refine (HCH.out _ (below_one _ _)).mono ?_); rintro e w1 ⟨rfl, hb1⟩; have HB1 := Lib.hid (below_two (below_one w _) hb1); have H5 := Lib.hid (blk_below (blk_new w _) hb1); clear hb1)
  go_loopw [6, 7, 10] (fun v6 v7 v10 wr => ∃ (q : Nat) (kz : Int), q ≤ 4 ∧ Hid (kz = q) ∧ v10 = .int .i64 kz ∧ Hid (wr.heap[w.heap.size]? = some (.cells #[fillC (fun j => FloatKind.f64.nearest (n j)) (fun _ => 0) q 0, fillC (fun j => FloatKind.f64.nearest (n j)) (fun _ => 0) q 1, fillC (fun j => FloatKind.f64.nearest (n j)) (fun _ => 0) q 2, fillC (fun j => FloatKind.f64.nearest (n j)) (fun _ => 0) q 3] 31 (0, 0))) ∧ Hid (Below w.heap.size w wr)) (fun _ _ v10 _ => 4 - (intOf v10).toNat)
  case atStart => exact ⟨0, 0, by omega, rfl, rfl, H5, HB1⟩
  case round =>
    obtain ⟨q, kz, hq, hz, rfl, h5, hbw⟩ := hrel
    have hqq : q = 0 ∨ q = 1 ∨ q = 2 ∨ q = 3 ∨ q = 4 := by omega
    rcases hqq with rfl | rfl | rfl | rfl | rfl
    · obtain rfl : kz = 0 := hz.out
      have hcell : wr.cell? ⟨w.heap.size, 0, none⟩ = some (.complex .f64 0 0) := blk_cell h5.out 0
      have hfree : wr.frozen? ⟨w.heap.size, 0, none⟩ = false := blk_frozen h5.out 0
      have hidx : ∀ W, (Instr.index 49 (.agg #[.int .i64 (n 0), .int .i64 (n 1), .int .i64 (n 2), .int .i64 (n 3)]) (.int .i64 0)).run Try.prog W = .ok (.int .i64 (n 0)) W := fun W => idxm0 _ _ _ _ W
      go_wp2
      go_roundw
      case rel => exact ⟨1, 1, by omega, rfl, rfl, blk_put h5.out 0 _ rfl, hbw.out.setCell (by simp) _⟩
      case measure => simp [intOf]
    · obtain rfl : kz = 1 := hz.out
      have hcell : wr.cell? ⟨w.heap.size, 1, none⟩ = some (.complex .f64 0 0) := blk_cell h5.out 1
      have hfree : wr.frozen? ⟨w.heap.size, 1, none⟩ = false := blk_frozen h5.out 1
      have hidx : ∀ W, (Instr.index 49 (.agg #[.int .i64 (n 0), .int .i64 (n 1), .int .i64 (n 2), .int .i64 (n 3)]) (.int .i64 1)).run Try.prog W = .ok (.int .i64 (n 1)) W := fun W => idxm1 _ _ _ _ W
      go_wp2
      go_roundw
      case rel => exact ⟨2, 2, by omega, rfl, rfl, blk_put h5.out 1 _ rfl, hbw.out.setCell (by simp) _⟩
      case measure => simp [intOf]
    · obtain rfl : kz = 2 := hz.out
      have hcell : wr.cell? ⟨w.heap.size, 2, none⟩ = some (.complex .f64 0 0) := blk_cell h5.out 2
      have hfree : wr.frozen? ⟨w.heap.size, 2, none⟩ = false := blk_frozen h5.out 2
      have hidx : ∀ W, (Instr.index 49 (.agg #[.int .i64 (n 0), .int .i64 (n 1), .int .i64 (n 2), .int .i64 (n 3)]) (.int .i64 2)).run Try.prog W = .ok (.int .i64 (n 2)) W := fun W => idxm2 _ _ _ _ W
      go_wp2
      go_roundw
      case rel => exact ⟨3, 3, by omega, rfl, rfl, blk_put h5.out 2 _ rfl, hbw.out.setCell (by simp) _⟩
      case measure => simp [intOf]
    · obtain rfl : kz = 3 := hz.out
      have hcell : wr.cell? ⟨w.heap.size, 3, none⟩ = some (.complex .f64 0 0) := blk_cell h5.out 3
      have hfree : wr.frozen? ⟨w.heap.size, 3, none⟩ = false := blk_frozen h5.out 3
      have hidx : ∀ W, (Instr.index 49 (.agg #[.int .i64 (n 0), .int .i64 (n 1), .int .i64 (n 2), .int .i64 (n 3)]) (.int .i64 3)).run Try.prog W = .ok (.int .i64 (n 3)) W := fun W => idxm3 _ _ _ _ W
      go_wp2
      go_roundw
      case rel => exact ⟨4, 4, by omega, rfl, rfl, blk_put h5.out 3 _ rfl, hbw.out.setCell (by simp) _⟩
      case measure => simp [intOf]
    · obtain rfl : kz = 4 := hz.out
      have h5f : Hid (wr.heap[w.heap.size]? = some (.cells #[.complex .f64 (FloatKind.f64.nearest (n 0)) 0, .complex .f64 (FloatKind.f64.nearest (n 1)) 0, .complex .f64 (FloatKind.f64.nearest (n 2)) 0, .complex .f64 (FloatKind.f64.nearest (n 3)) 0] 31 (0, 0))) := h5.out
      go_wp2_with (first | (refine wpList_load_row rfl 31 (.tmp 5) rfl w.heap.size rfl 31 #[.complex .f64 (FloatKind.f64.nearest (n 0)) 0, .complex .f64 (FloatKind.f64.nearest (n 1)) 0, .complex .f64 (FloatKind.f64.nearest (n 2)) 0, .complex .f64 (FloatKind.f64.nearest (n 3)) 0] (0, 0) (.array 4 23) h5f.out Try.underlying31 rfl (by kernel_rfl) ?_) | (go_at_call 17; (refine (HFo.out _).mono ?_); rintro e w2 ⟨r, i, rfl, hri, hb2⟩; have HB2 := Lib.hid (below_two hbw.out hb2); have HR := Lib.hid (hri m hm4); have HI : ∀ W, (Instr.index 31 (.agg #[.complex .f64 (r 0) (i 0), .complex .f64 (r 1) (i 1), .complex .f64 (r 2) (i 2), .complex .f64 (r 3) (i 3)]) (.int .i64 (m : Int))).run Try.prog W = .ok (.complex .f64 (r m) (i m)) W := arr4_index r i m hm4; clear hb2 hri) | (go_at_call 26; (with_reducible refine (HM.out _).mono ?_); rintro e w3 ⟨rfl, rfl⟩))
      go_ret
      refine ⟨_, _, rfl, ?_, ?_, HB2.out⟩
      · rw [HK.out]; exact HR.out.1
      · rw [HK.out]; exact HR.out.2
/-- The first of the first j + 1 phases with the most. -/
def pk (n : Nat → Int) : Nat → Nat
  | 0 => 0
  | j + 1 => if n (pk n j) < n j then j else pk n j
theorem pk_lt (n : Nat → Int) : ∀ j, j ≤ 4 → pk n j < 4
  | 0, _ => by simp [pk]
  | j + 1, h => by
    have := pk_lt n j (by omega)
    simp only [pk]
    split <;> omega
theorem mt_get (n : Nat → Int) (j : Nat) (h : j < 4) : (mt n)[j]? = some (.int .i64 (n j)) := by
  match j, h with
  | 0, _ => rfl
  | 1, _ => rfl
  | 2, _ => rfl
  | 3, _ => rfl
set_option maxHeartbeats 2000000 in
theorem Peak_any (p : Value) (n : Nat → Int) (w : World)
    (HC : ∀ W, Below w.heap.size w W → Calls Try.prog 23 #[p] W fun e w' => e = .returned (.agg (mt n)) ∧ Below W.heap.size W w') :
    Calls Try.prog 24 #[p] w fun e w' => e = .returned (.int .i64 (pk n 4)) ∧ Below w.heap.size w w' := by
  have HCH := Lib.hid HC
  have H1 := Lib.hid (mt_one n)
  have HG : Hid (∀ j, j < 4 → (mt n)[j]? = some (.int .i64 (n j))) := fun j h => mt_get n j h
  have s1 : (mt n).size = 4 := rfl
  clear HC
  generalize mt n = A at HCH H1 s1 HG
  go_enter Try.func24, Try.ntmps24
  go_wp2_with (first | (go_at_call 23; (refine (HCH.out _ (Below.refl _ _)).mono ?_); rintro e w1 ⟨rfl, hb1⟩; have HB1 := Lib.hid hb1; clear hb1) | (refine wpList_store_row rfl 49 (.tmp 4) (.tmp 7) rfl w1.heap.size A rfl rfl 49 _ (blk_new _ _) (by rw [s1]; kernel_rfl) (by rw [s1]; rfl) H1.out ?_))
  have HB2 := Lib.hid (below_setRow (below_more HB1.out (.cells #[.int .i64 0, .int .i64 0, .int .i64 0, .int .i64 0] 49 (0, 0))) HB1.out.size A)
  have H4 := Lib.hid (setRow_heap _ _ _ A _ _ (blk_new w1 (.cells #[.int .i64 0, .int .i64 0, .int .i64 0, .int .i64 0] 49 (0, 0))))
  generalize w1.heap.size = g at H4 HB2
  go_loopw [3, 5, 8] (fun v3 v5 v8 wr => ∃ (j : Nat), j ≤ 4 ∧ v8 = .int .i64 (j : Int) ∧ v3 = .int .i64 (pk n j : Int) ∧ Hid (wr.heap[g]? = some (.cells A 49 (0, 0))) ∧ Hid (Below w.heap.size w wr)) (fun _ _ v8 _ => 4 - (intOf v8).toNat)
  case atStart => exact ⟨0, by omega, rfl, rfl, H4, HB2⟩
  case round =>
    obtain ⟨j, hj, rfl, rfl, h4, hbw⟩ := hrel
    by_cases hlt : j < 4
    · have hb4 := pk_lt n j hj
      have hc1 : wr.cell? ⟨g, j, none⟩ = some (.int .i64 (n j)) := (blk_cell h4.out j).trans (HG.out j hlt)
      have hc2 : wr.cell? ⟨g, pk n j, none⟩ = some (.int .i64 (n (pk n j))) := (blk_cell h4.out _).trans (HG.out _ hb4)
      have hpk : pk n (j + 1) = if n (pk n j) < n j then j else pk n j := rfl
      have hI1 : (0 : Int) ≤ (j : Int) := by omega
      have hI2 : (j : Int) < 4 := by omega
      have hI3 : (0 : Int) ≤ (pk n j : Int) := by omega
      have hI4 : (pk n j : Int) < 4 := by omega
      generalize pk n j = b at hb4 hc2 hpk hI3 hI4
      by_cases hgt : n b < n j
      · rw [if_pos hgt] at hpk
        have HP := Lib.hid hpk
        clear hpk
        go_wp2
        go_quiet (fail)
        go_wp2
        go_roundw
        case rel => exact ⟨j + 1, by omega, by go_num, by rw [HP.out], h4, ⟨hbw.out.os, hbw.out.tape, hbw.out.output, hbw.out.size, hbw.out.block⟩⟩
        case measure => simp [intOf]; omega
      · rw [if_neg hgt] at hpk
        have HP := Lib.hid hpk
        clear hpk
        go_wp2
        go_quiet (fail)
        go_wp2
        go_roundw
        case rel => exact ⟨j + 1, by omega, by go_num, by rw [HP.out], h4, ⟨hbw.out.os, hbw.out.tape, hbw.out.output, hbw.out.size, hbw.out.block⟩⟩
        case measure => simp [intOf]; omega
    · obtain rfl : j = 4 := by omega
      go_wp2
      go_ret
      exact ⟨rfl, hbw.out⟩
end Go.Proofs.Ytehjjjdelpbkpaa
