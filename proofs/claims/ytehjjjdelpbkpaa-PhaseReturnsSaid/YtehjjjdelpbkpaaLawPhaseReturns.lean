/-
  A meter's counts out of its waves: the law's walk, and its row.
-/
import Derived.Test.YtehjjjdelpbkpaaPA
namespace Go.Proofs.Ytehjjjdelpbkpaa
open Go.RowKit Go Go.Proofs.YtehjjjdelpbkpaaW.PrintWords
open F
set_option maxHeartbeats 4000000 in
theorem PhaseReturns_any (A : Option Addr) (len cap b off : Nat) (T N : Nat → Int) (w : World) (hL : Adds w A len b off T N) : Calls Try.prog 11 #[.slice A len cap] w fun e w' => e = .returned (.bool true) ∧ Below w.heap.size w w' := by
  have HL := Lib.hid hL
  clear hL
  go_enter Try.func11, Try.ntmps11
  go_wp2_with (go_at_call 20; (refine (New_any _).mono ?_); rintro e w1 ⟨rfl, rfl⟩)
  have H0 := Lib.hid (blk_new w (.cells (mt fun _ => 0) 58 (0, 0)))
  have HB0 := Lib.hid (below_one w (.cells (mt fun _ => 0) 58 (0, 0)))
  generalize World.alloc w (.cells (mt fun _ => 0) 58 (0, 0)) = w1 at H0 HB0
  go_loopw [4] (fun v4 wr => ∃ (k : Nat) (n : Nat → Int), k ≤ 100 ∧ v4 = .int .i64 (k : Int) ∧ Hid (∀ j, j < 4 → 0 ≤ n j ∧ n j ≤ 274877906944) ∧ Hid (wr.heap[w.heap.size]? = some (.cells (mt n) 58 (0, 0))) ∧ Hid (Below w.heap.size w wr)) (fun v4 _ => 100 - (intOf v4).toNat)
  case atStart => exact ⟨0, fun _ => 0, by omega, rfl, fun j _ => ⟨Int.le_refl 0, show (0 : Int) ≤ 274877906944 by decide⟩, H0, HB0⟩
  case round =>
    obtain ⟨k, n, hk, rfl, hn, hrow, hbw⟩ := hrel
    by_cases hlen : k < len
    · by_cases h100 : k < 100
      · have hb := HL.out.low (by omega)
        obtain ⟨hc1, hc2⟩ := HL.out.cells k hlen
        obtain rfl : A = some ⟨b, off, none⟩ := HL.out.place (by omega)
        have hd1 : wr.drew.cell? ⟨b, off + k * 2, none⟩ = some (.int .i64 (T k)) := (hbw.out.cell (p := ⟨b, off + k * 2, none⟩) hb).trans hc1
        have hd2 : wr.drew.cell? ⟨b, off + k * 2 + 1, none⟩ = some (.int .i64 (N k)) := (hbw.out.cell (p := ⟨b, off + k * 2 + 1, none⟩) hb).trans hc2
        have hS0 := And.intro (Lib.hid hbw.out.drew) (And.intro hd1 hd2)
        have hrow' : wr.drew.heap[w.heap.size]? = some (.cells (mt n) 58 (0, 0)) := hrow.out
        have HA := Lib.hid (Add_any w.heap.size n (T k) (N k) hn.out wr.drew hrow')
        clear hd1 hd2 hrow'
        have HC1 := Lib.hid hc1
        have HC2 := Lib.hid hc2
        clear hc1 hc2
        go_wp2
        go_region_held3 (fun W => Hid (Below w.heap.size w W) ∧ W.cell? ⟨b, off + k * 2, none⟩ = some (.int .i64 (T k)) ∧ W.cell? ⟨b, off + k * 2 + 1, none⟩ = some (.int .i64 (N k))) (assumption)
          (first
            | (go_at_call 21; (refine HA.out.mono ?_); rintro e w3 ⟨rfl, hadd⟩; have HAd := Lib.hid hadd; have hS1 := And.intro (Lib.hid (hadd.below _ _ (Nat.le_refl _) hbw.out.drew)) (And.intro (((hadd.below _ _ (Nat.le_refl _) hbw.out.drew).cell (p := ⟨b, off + k * 2, none⟩) hb).trans HC1.out) (((hadd.below _ _ (Nat.le_refl _) hbw.out.drew).cell (p := ⟨b, off + k * 2 + 1, none⟩) hb).trans HC2.out)); clear hadd))
        go_wp2
        go_roundw
        case rel => exact ⟨k + 1, addTo n (T k) (N k), by omega, by go_num, addTo_ok n (T k) (N k) hn.out, HAd.out.row, hS1.1⟩
        case measure => simp [intOf]; omega
      · have HA : Hid (∀ j, j < 4 → (n j).natAbs ≤ 274877906944) := fun j hj => by have := hn.out j hj; omega
        have HR := hrow
        have HB := hbw
        clear hrow hbw
        go_wp2_with (first | (go_at_call_of 22 (Value.int IntKind.i64 0); (refine (Wave_any (.pointer (some ⟨w.heap.size, 0, none⟩)) n _ 274877906944 (by omega) HA.out _ (fun W hW => Counts_any w.heap.size n W (blk_below HR.out hW))).mono ?_); rintro e wv0 ⟨re0, im0, rfl, f0, g0, hb2⟩; have FF0 := Lib.hid f0; have GG0 := Lib.hid g0; have HRn := Lib.hid (blk_below HR.out hb2); have HBn := Lib.hid (below_two HB.out hb2); clear HR HB; have HR := HRn; have HB := HBn; clear HRn HBn f0 g0 hb2) | (go_at_call_of 22 (Value.int IntKind.i64 1); (refine (Wave_any (.pointer (some ⟨w.heap.size, 0, none⟩)) n _ 274877906944 (by omega) HA.out _ (fun W hW => Counts_any w.heap.size n W (blk_below HR.out hW))).mono ?_); rintro e wv1 ⟨re1, im1, rfl, f1, g1, hb2⟩; have FF1 := Lib.hid f1; have GG1 := Lib.hid g1; have HRn := Lib.hid (blk_below HR.out hb2); have HBn := Lib.hid (below_two HB.out hb2); clear HR HB; have HR := HRn; have HB := HBn; clear HRn HBn f1 g1 hb2) | (go_at_call_of 22 (Value.int IntKind.i64 2); (refine (Wave_any (.pointer (some ⟨w.heap.size, 0, none⟩)) n _ 274877906944 (by omega) HA.out _ (fun W hW => Counts_any w.heap.size n W (blk_below HR.out hW))).mono ?_); rintro e wv2 ⟨re2, im2, rfl, f2, g2, hb2⟩; have FF2 := Lib.hid f2; have GG2 := Lib.hid g2; have HRn := Lib.hid (blk_below HR.out hb2); have HBn := Lib.hid (below_two HB.out hb2); clear HR HB; have HR := HRn; have HB := HBn; clear HRn HBn f2 g2 hb2) | (go_at_call_of 22 (Value.int IntKind.i64 3); (refine (Wave_any (.pointer (some ⟨w.heap.size, 0, none⟩)) n _ 274877906944 (by omega) HA.out _ (fun W hW => Counts_any w.heap.size n W (blk_below HR.out hW))).mono ?_); rintro e wv3 ⟨re3, im3, rfl, f3, g3, hb2⟩; have FF3 := Lib.hid f3; have GG3 := Lib.hid g3; have HRn := Lib.hid (blk_below HR.out hb2); have HBn := Lib.hid (below_two HB.out hb2); clear HR HB; have HR := HRn; have HB := HBn; clear HRn HBn f3 g3 hb2) | (go_at_call 19; (refine (Back_four n HA.out re0 re1 re2 re3 im0 im1 im2 im3 FF0.out FF1.out FF2.out FF3.out GG0.out GG1.out GG2.out GG3.out _).mono ?_); rintro e wb ⟨r, i, rfl, hri, hb2⟩; have HRI := Lib.hid hri; have HRn := Lib.hid (blk_below HR.out hb2); have HBn := Lib.hid (below_two HB.out hb2); clear HR HB; have HR := HRn; have HB := HBn; clear HRn HBn hri hb2) | (refine wpList_store_row rfl 31 (.tmp 5) (.tmp 40) rfl wb.heap.size #[.complex .f64 (r 0) (i 0), .complex .f64 (r 1) (i 1), .complex .f64 (r 2) (i 2), .complex .f64 (r 3) (i 3)] rfl rfl 31 _ (blk_new wb _) (by kernel_rfl) (by rfl) (by simp [Value.oneCell']) ?_) | (go_at_call 23; (refine (Counts_any w.heap.size n _ (row_far (blk_keep HR.out _) (Nat.ne_of_lt (blk_lt HR.out)) _)).mono ?_); rintro e wc ⟨rfl, hb2⟩; have HRn := Lib.hid (blk_below (row_far (blk_keep HR.out _) (Nat.ne_of_lt (blk_lt HR.out)) _) hb2); have HX := Lib.hid (blk_below (setRow_heap _ _ _ _ _ _ (blk_new wb _)) hb2); have HBn := Lib.hid (below_two (below_setRow (below_more HB.out _) HB.out.size _) hb2); clear HR HB; have HR := HRn; have HB := HBn; clear HRn HBn hb2) | (refine wpList_store_row rfl 49 (.tmp 6) (.tmp 42) rfl wc.heap.size (mt n) rfl rfl 49 _ (blk_new wc _) (by kernel_rfl) (by rfl) (mt_one n) ?_))
        have HK := Lib.hid (KR.mk (w := w) (n := n) (r := r) (i := i) (row_far (blk_keep HR.out (.cells #[.int .i64 0, .int .i64 0, .int .i64 0, .int .i64 0] 49 (0, 0))) (Nat.ne_of_lt (blk_lt HR.out)) (mt n)) (row_far (blk_keep HX.out (.cells #[.int .i64 0, .int .i64 0, .int .i64 0, .int .i64 0] 49 (0, 0))) (Nat.ne_of_lt (blk_lt HX.out)) (mt n)) (setRow_heap _ _ _ (mt n) _ _ (blk_new wc (.cells #[.int .i64 0, .int .i64 0, .int .i64 0, .int .i64 0] 49 (0, 0)))) (below_setRow (below_more HB.out (.cells #[.int .i64 0, .int .i64 0, .int .i64 0, .int .i64 0] 49 (0, 0))) HB.out.size (mt n)))
        have HPK : Hid (∀ W : World, W.heap[w.heap.size]? = some (.cells (mt n) 58 (0, 0)) → Calls Try.prog 24 #[.pointer (some ⟨w.heap.size, 0, none⟩)] W fun e w' => e = .returned (.int .i64 (pk n 4 : Int)) ∧ Below W.heap.size W w') := fun W h => Peak_any _ n W (fun W' hW => Counts_any w.heap.size n W' (blk_below h hW))
        have hp4 := pk_lt n 4 (by omega)
        have HMX : Hid (∀ j, j < 4 → n j ≤ n (pk n 4)) := (pk_max n 4 (by omega)).1
        generalize pk n 4 = p at HPK hp4 HMX
        have hpand := and_three p hp4
        have hI3 : (0 : Int) ≤ (p : Int) := by omega
        have hI4 : (p : Int) < 4 := by omega
        clear HR HX HB
        generalize wc.heap.size = g6 at HK
        generalize wb.heap.size = g5 at HK
        go_loopw [7, 43] (fun v7 v43 wr => ∃ (k : Nat), k ≤ 4 ∧ v43 = .int .i64 (k : Int) ∧ Hid (KR w n r i g5 g6 wr)) (fun _ v43 _ => 4 - (intOf v43).toNat)
        case atStart => exact ⟨0, by omega, rfl, HK⟩
        case round =>
          obtain ⟨k, hk, rfl, hkr⟩ := hrel
          by_cases hlt : k < 4
          · have hS0 := KR.cells hkr.out.drew hlt hp4
            have hI1 : (0 : Int) ≤ (k : Int) := by omega
            have hI2 : (k : Int) < 4 := by omega
            have hbd := HA.out k hlt
            have fe0 : (FloatKind.f64.format.order (r k) (floatOfInt FloatKind.f64 (n k)) == some .eq) = true := (fl_eq' (HRI.out k hlt).1 (fl_int (by omega))).trans (by simp)
            have ge0 : (FloatKind.f64.format.order (i k) 0 == some .eq) = true := (fl_eq' (HRI.out k hlt).2 fl_zero).trans (by simp)
            have hmx := HMX.out k hlt
            clear hbd
            go_wp2
            go_region_held3 (fun W => KR w n r i g5 g6 W ∧ W.cell? ⟨g5, k, none⟩ = some (.complex .f64 (r k) (i k)) ∧ W.cell? ⟨g6, k, none⟩ = some (.int .i64 (n k)) ∧ W.cell? ⟨g6, p, none⟩ = some (.int .i64 (n p))) (assumption)
              (first
                | (go_at_call 24; (refine (HPK.out _ (And.left ‹KR w n r i g5 g6 _ ∧ _›).m).mono ?_); rintro e w5 ⟨rfl, hb5⟩; have hS1 := KR.cells (KR.step (And.left ‹KR w n r i g5 g6 _ ∧ _›) hb5) hlt hp4; clear hb5))
            go_wp2
            go_roundw
            case rel => exact ⟨k + 1, by omega, by go_num, Lib.hid hS1.1⟩
            case measure => simp [intOf]; omega
          · obtain rfl : k = 4 := by omega
            have hkr' := hkr
            go_wp2_with (first | (go_at_call 24; (refine (HPK.out _ hkr.out.m).mono ?_); rintro e w5 ⟨rfl, hb5⟩; have HKn := Lib.hid (hkr.out.step hb5); clear hkr; have hkr := HKn; clear HKn hb5) | (go_at_call 15; (with_reducible refine (awake_any _).mono ?_); rintro e w6 ⟨rfl, rfl⟩))
            go_ret
            exact ⟨rfl, hkr.out.below⟩
    · have HA : Hid (∀ j, j < 4 → (n j).natAbs ≤ 274877906944) := fun j hj => by have := hn.out j hj; omega
      have HR := hrow
      have HB := hbw
      clear hrow hbw
      go_wp2_with (first | (go_at_call_of 22 (Value.int IntKind.i64 0); (refine (Wave_any (.pointer (some ⟨w.heap.size, 0, none⟩)) n _ 274877906944 (by omega) HA.out _ (fun W hW => Counts_any w.heap.size n W (blk_below HR.out hW))).mono ?_); rintro e wv0 ⟨re0, im0, rfl, f0, g0, hb2⟩; have FF0 := Lib.hid f0; have GG0 := Lib.hid g0; have HRn := Lib.hid (blk_below HR.out hb2); have HBn := Lib.hid (below_two HB.out hb2); clear HR HB; have HR := HRn; have HB := HBn; clear HRn HBn f0 g0 hb2) | (go_at_call_of 22 (Value.int IntKind.i64 1); (refine (Wave_any (.pointer (some ⟨w.heap.size, 0, none⟩)) n _ 274877906944 (by omega) HA.out _ (fun W hW => Counts_any w.heap.size n W (blk_below HR.out hW))).mono ?_); rintro e wv1 ⟨re1, im1, rfl, f1, g1, hb2⟩; have FF1 := Lib.hid f1; have GG1 := Lib.hid g1; have HRn := Lib.hid (blk_below HR.out hb2); have HBn := Lib.hid (below_two HB.out hb2); clear HR HB; have HR := HRn; have HB := HBn; clear HRn HBn f1 g1 hb2) | (go_at_call_of 22 (Value.int IntKind.i64 2); (refine (Wave_any (.pointer (some ⟨w.heap.size, 0, none⟩)) n _ 274877906944 (by omega) HA.out _ (fun W hW => Counts_any w.heap.size n W (blk_below HR.out hW))).mono ?_); rintro e wv2 ⟨re2, im2, rfl, f2, g2, hb2⟩; have FF2 := Lib.hid f2; have GG2 := Lib.hid g2; have HRn := Lib.hid (blk_below HR.out hb2); have HBn := Lib.hid (below_two HB.out hb2); clear HR HB; have HR := HRn; have HB := HBn; clear HRn HBn f2 g2 hb2) | (go_at_call_of 22 (Value.int IntKind.i64 3); (refine (Wave_any (.pointer (some ⟨w.heap.size, 0, none⟩)) n _ 274877906944 (by omega) HA.out _ (fun W hW => Counts_any w.heap.size n W (blk_below HR.out hW))).mono ?_); rintro e wv3 ⟨re3, im3, rfl, f3, g3, hb2⟩; have FF3 := Lib.hid f3; have GG3 := Lib.hid g3; have HRn := Lib.hid (blk_below HR.out hb2); have HBn := Lib.hid (below_two HB.out hb2); clear HR HB; have HR := HRn; have HB := HBn; clear HRn HBn f3 g3 hb2) | (go_at_call 19; (refine (Back_four n HA.out re0 re1 re2 re3 im0 im1 im2 im3 FF0.out FF1.out FF2.out FF3.out GG0.out GG1.out GG2.out GG3.out _).mono ?_); rintro e wb ⟨r, i, rfl, hri, hb2⟩; have HRI := Lib.hid hri; have HRn := Lib.hid (blk_below HR.out hb2); have HBn := Lib.hid (below_two HB.out hb2); clear HR HB; have HR := HRn; have HB := HBn; clear HRn HBn hri hb2) | (refine wpList_store_row rfl 31 (.tmp 5) (.tmp 40) rfl wb.heap.size #[.complex .f64 (r 0) (i 0), .complex .f64 (r 1) (i 1), .complex .f64 (r 2) (i 2), .complex .f64 (r 3) (i 3)] rfl rfl 31 _ (blk_new wb _) (by kernel_rfl) (by rfl) (by simp [Value.oneCell']) ?_) | (go_at_call 23; (refine (Counts_any w.heap.size n _ (row_far (blk_keep HR.out _) (Nat.ne_of_lt (blk_lt HR.out)) _)).mono ?_); rintro e wc ⟨rfl, hb2⟩; have HRn := Lib.hid (blk_below (row_far (blk_keep HR.out _) (Nat.ne_of_lt (blk_lt HR.out)) _) hb2); have HX := Lib.hid (blk_below (setRow_heap _ _ _ _ _ _ (blk_new wb _)) hb2); have HBn := Lib.hid (below_two (below_setRow (below_more HB.out _) HB.out.size _) hb2); clear HR HB; have HR := HRn; have HB := HBn; clear HRn HBn hb2) | (refine wpList_store_row rfl 49 (.tmp 6) (.tmp 42) rfl wc.heap.size (mt n) rfl rfl 49 _ (blk_new wc _) (by kernel_rfl) (by rfl) (mt_one n) ?_))
      have HK := Lib.hid (KR.mk (w := w) (n := n) (r := r) (i := i) (row_far (blk_keep HR.out (.cells #[.int .i64 0, .int .i64 0, .int .i64 0, .int .i64 0] 49 (0, 0))) (Nat.ne_of_lt (blk_lt HR.out)) (mt n)) (row_far (blk_keep HX.out (.cells #[.int .i64 0, .int .i64 0, .int .i64 0, .int .i64 0] 49 (0, 0))) (Nat.ne_of_lt (blk_lt HX.out)) (mt n)) (setRow_heap _ _ _ (mt n) _ _ (blk_new wc (.cells #[.int .i64 0, .int .i64 0, .int .i64 0, .int .i64 0] 49 (0, 0)))) (below_setRow (below_more HB.out (.cells #[.int .i64 0, .int .i64 0, .int .i64 0, .int .i64 0] 49 (0, 0))) HB.out.size (mt n)))
      have HPK : Hid (∀ W : World, W.heap[w.heap.size]? = some (.cells (mt n) 58 (0, 0)) → Calls Try.prog 24 #[.pointer (some ⟨w.heap.size, 0, none⟩)] W fun e w' => e = .returned (.int .i64 (pk n 4 : Int)) ∧ Below W.heap.size W w') := fun W h => Peak_any _ n W (fun W' hW => Counts_any w.heap.size n W' (blk_below h hW))
      have hp4 := pk_lt n 4 (by omega)
      have HMX : Hid (∀ j, j < 4 → n j ≤ n (pk n 4)) := (pk_max n 4 (by omega)).1
      generalize pk n 4 = p at HPK hp4 HMX
      have hpand := and_three p hp4
      have hI3 : (0 : Int) ≤ (p : Int) := by omega
      have hI4 : (p : Int) < 4 := by omega
      clear HR HX HB
      generalize wc.heap.size = g6 at HK
      generalize wb.heap.size = g5 at HK
      go_loopw [7, 43] (fun v7 v43 wr => ∃ (k : Nat), k ≤ 4 ∧ v43 = .int .i64 (k : Int) ∧ Hid (KR w n r i g5 g6 wr)) (fun _ v43 _ => 4 - (intOf v43).toNat)
      case atStart => exact ⟨0, by omega, rfl, HK⟩
      case round =>
        obtain ⟨k, hk, rfl, hkr⟩ := hrel
        by_cases hlt : k < 4
        · have hS0 := KR.cells hkr.out.drew hlt hp4
          have hI1 : (0 : Int) ≤ (k : Int) := by omega
          have hI2 : (k : Int) < 4 := by omega
          have hbd := HA.out k hlt
          have fe0 : (FloatKind.f64.format.order (r k) (floatOfInt FloatKind.f64 (n k)) == some .eq) = true := (fl_eq' (HRI.out k hlt).1 (fl_int (by omega))).trans (by simp)
          have ge0 : (FloatKind.f64.format.order (i k) 0 == some .eq) = true := (fl_eq' (HRI.out k hlt).2 fl_zero).trans (by simp)
          have hmx := HMX.out k hlt
          clear hbd
          go_wp2
          go_region_held3 (fun W => KR w n r i g5 g6 W ∧ W.cell? ⟨g5, k, none⟩ = some (.complex .f64 (r k) (i k)) ∧ W.cell? ⟨g6, k, none⟩ = some (.int .i64 (n k)) ∧ W.cell? ⟨g6, p, none⟩ = some (.int .i64 (n p))) (assumption)
            (first
              | (go_at_call 24; (refine (HPK.out _ (And.left ‹KR w n r i g5 g6 _ ∧ _›).m).mono ?_); rintro e w5 ⟨rfl, hb5⟩; have hS1 := KR.cells (KR.step (And.left ‹KR w n r i g5 g6 _ ∧ _›) hb5) hlt hp4; clear hb5))
          go_wp2
          go_roundw
          case rel => exact ⟨k + 1, by omega, by go_num, Lib.hid hS1.1⟩
          case measure => simp [intOf]; omega
        · obtain rfl : k = 4 := by omega
          have hkr' := hkr
          go_wp2_with (first | (go_at_call 24; (refine (HPK.out _ hkr.out.m).mono ?_); rintro e w5 ⟨rfl, hb5⟩; have HKn := Lib.hid (hkr.out.step hb5); clear hkr; have hkr := HKn; clear HKn hb5) | (go_at_call 15; (with_reducible refine (awake_any _).mono ?_); rintro e w6 ⟨rfl, rfl⟩))
          go_ret
          exact ⟨rfl, hkr.out.below⟩
end Go.Proofs.Ytehjjjdelpbkpaa
namespace Go.Proofs.Ytehjjjdelpbkpaa.phaseReturns
open Go.ChangeShapes Go.WideShapes Go.ChangeAt Go.RowKit
theorem own : ownKnob Try.prog.godebug = none := by kernel_rfl
theorem laidOut : laidOutB Try.prog = true := by kernel_rfl
set_option maxRecDepth 100000 in
theorem lifted (os : Os) (started : os.Started) (H : Type) (enc : TypeId × Value → H) :
    ReturnsInHanded {} Try.checked os 11 .any (Rows.phaseReturnsSpec.pre6 enc Try.prog Try.f11 Rows.phaseReturnsRow.domain false) (Rows.phaseReturnsSpec.post enc Try.prog Try.f11 false true false false) := by
  refine returnsInHanded_of_change (C := Try.checked) own started (by kernel_rfl) Try.func11
    (ChangeSpec.witness6 (enc := enc) (C := Try.checked) false ⟨#[], #[.slice none 0 0], []⟩ 8 (by kernel_rfl) (by kernel_rfl) (by kernel_rfl) (by kernel_rfl)) ?_
  intro W base args ds gs before hval0 hW hcnd _
  have hval : ∀ (j : Nat) t v, Try.f11.params[j]? = some t → args[j]? = some v → Value.okWide Try.prog W .any base t v := hval0
  have hW' := hW
  have hlt := hW'.lt
  obtain ⟨p, q, hA0, hV, rfl, hfz, hnd⟩ := hW
  have hA : DataW.TrodAll enc Try.prog W 0 (fun _ => true) true Try.f11.params.toList args.toList ds p := hA0
  rw [Try.params11] at hA hval
  obtain ⟨v0, vs0, d0, ds0, p0, q0, hargs, rfl, rfl, h0, r0⟩ := trodAll_cons hA
  obtain ⟨rfl, rfl, rfl⟩ := trodAll_nil r0
  obtain rfl : args = #[v0] := by cases args; simp_all
  obtain ⟨rfl, rfl⟩ := trodVars_none hV
  have k0 := h0
  have l0 : ∀ x ∈ p0, x.block < W.heap.size := fun x hx => hlt x (by simp [hx])
  obtain ⟨A0, n0, c0, b0, f0, T0, N0, rfl, HA0⟩ := open_adds h0 (okWide_slice Try.underlying41 (hval 0 41 v0 rfl rfl))
  clear hA0 hval0
  refine (PhaseReturns_any A0 n0 c0 b0 f0 T0 N0 W HA0).mono fun e W' ⟨he, bel⟩ => ?_
  subst he
  exact ⟨_, rfl, _, _, _, [], _, [], hW', trodAll_mk1 (shut_bool Try.underlying4 _), trodAll_mk1 (Below.trod laidOut (by kernel_rfl) (of_decide_eq_true (by kernel_rfl)) k0 bel l0), rfl, bel.frame _, fun h => by cases h⟩
theorem over : Rows.phaseReturnsRow.holds Try.pinned (OpenSpec.ofChange Rows.phaseReturnsSpec) :=
  OpenClaim.holds_of_wide 11 Try.f11 rfl rfl rfl rfl rfl rfl rfl ⟨rfl, rfl, rfl, rfl, rfl⟩ rfl rfl rfl rfl rfl (by kernel_rfl) Try.func11 (by kernel_rfl)
    (of_decide_eq_true (by kernel_rfl)) (by unfold Func.isWrapper; first | (rw [if_pos (by decide +kernel)]; kernel_rfl) | (rw [if_neg (by decide +kernel)]; exact ⟨rfl, rfl⟩))
    (fun os started H enc _ => lifted os started H enc)
theorem proved : Rows.PhaseReturnsSaid := over
end Go.Proofs.Ytehjjjdelpbkpaa.phaseReturns
namespace Go.Proofs.Ytehjjjdelpbkpaa
theorem phaseReturns_holds : Rows.PhaseReturnsSaid := phaseReturns.proved
end Go.Proofs.Ytehjjjdelpbkpaa
