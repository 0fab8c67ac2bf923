/-
  One phase later: the law's walk, and its row.
-/
import Derived.Test.YtehjjjdelpbkpaaPA
namespace Go.Proofs.Ytehjjjdelpbkpaa
open Go.RowKit Go Go.Proofs.YtehjjjdelpbkpaaW.PrintWords
open F
/-- One phase later. -/
def Shift (n n2 : Nat → Int) : Prop := n2 0 = n 3 ∧ n2 1 = n 0 ∧ n2 2 = n 1 ∧ n2 3 = n 2
theorem later_pure (n n2 : Nat → Int) (h : Shift n n2) : Sr n2 (fun _ => 0) (-((1 : Int) % 4)) 4 = Si n (fun _ => 0) (-((1 : Int) % 4)) 4 ∧ Si n2 (fun _ => 0) (-((1 : Int) % 4)) 4 = -(Sr n (fun _ => 0) (-((1 : Int) % 4)) 4) ∧
    Sr n (fun _ => 0) (-((3 : Int) % 4)) 4 = Sr n (fun _ => 0) (-((1 : Int) % 4)) 4 ∧ Si n (fun _ => 0) (-((3 : Int) % 4)) 4 = -(Si n (fun _ => 0) (-((1 : Int) % 4)) 4) ∧
    Sr n (fun _ => 0) (-((0 : Int) % 4)) 4 = n 0 + n 1 + n 2 + n 3 ∧ Si n (fun _ => 0) (-((0 : Int) % 4)) 4 = 0 ∧ Sr n2 (fun _ => 0) (-((0 : Int) % 4)) 4 = n 0 + n 1 + n 2 + n 3 ∧ Si n2 (fun _ => 0) (-((0 : Int) % 4)) 4 = 0 := by
  obtain ⟨h0, h1, h2, h3⟩ := h
  simp [Sr, Si, rotr, roti, h0, h1, h2, h3]
  omega
theorem wrapk_id (x : Int) (h1 : -9223372036854775808 ≤ x) (h2 : x < 9223372036854775808) : IntKind.i64.wrap x = x := by
  simp [IntKind.wrap, IntKind.min, IntKind.max, IntKind.signed, IntKind.bits]
  omega
theorem shift_ok {n n2 : Nat → Int} (h : Shift n n2) (t N : Int) : addOk n2 (wrap64 (t + 1)) N = addOk n t N := by
  obtain ⟨h0, h1, h2, h3⟩ := h
  obtain ⟨m, hm4, hm⟩ := negmod t
  have hw : wrap64 (t + 1) % 4 = ((m + 1) % 4 : Nat) := by rw [wrap_mod]; omega
  rw [addOk_at hm, addOk_at hw]
  have hmm : m = 0 ∨ m = 1 ∨ m = 2 ∨ m = 3 := by omega
  rcases hmm with rfl | rfl | rfl | rfl <;> simp [h0, h1, h2, h3]
theorem shift_to {n n2 : Nat → Int} (h : Shift n n2) (t N : Int) (hk : addOk n t N = true) : Shift (addTo n t N) (addTo n2 (wrap64 (t + 1)) N) := by
  have hk2 := (shift_ok h t N).trans hk
  obtain ⟨h0, h1, h2, h3⟩ := h
  obtain ⟨m, hm4, hm⟩ := negmod t
  have hw : wrap64 (t + 1) % 4 = ((m + 1) % 4 : Nat) := by rw [wrap_mod]; omega
  rw [addTo_yes hm hk, addTo_yes hw hk2]
  have hmm : m = 0 ∨ m = 1 ∨ m = 2 ∨ m = 3 := by omega
  rcases hmm with rfl | rfl | rfl | rfl <;> simp [Shift, h0, h1, h2, h3]
theorem sum_to {n : Nat → Int} (t N : Int) (hk : addOk n t N = true) : addTo n t N 0 + addTo n t N 1 + addTo n t N 2 + addTo n t N 3 = n 0 + n 1 + n 2 + n 3 + N := by
  obtain ⟨m, hm4, hm⟩ := negmod t
  rw [addTo_yes hm hk]
  have hmm : m = 0 ∨ m = 1 ∨ m = 2 ∨ m = 3 := by omega
  rcases hmm with rfl | rfl | rfl | rfl <;> simp <;> omega
theorem run_unary_neg {P : Program} (w : World) (b : Nat) : (Op.unary .neg (.float .f64 b)).run P w = .ok (.float .f64 (Op.negFloat .f64 b)) w := by
  simp [Op.unary]
theorem Wave_at (g : Nat) (n : Nat → Int) (k : Int) (hn : ∀ j, j < 4 → (n j).natAbs ≤ 274877906944) (w : World) (h : w.heap[g]? = some (.cells (mt n) 58 (0, 0))) :
    Calls Try.prog 22 #[.pointer (some ⟨g, 0, none⟩), .int .i64 k] w fun e w' => ∃ re im, e = .returned (.complex .f64 re im) ∧ Fl re (Sr n (fun _ => 0) (-(k % 4)) 4) ∧ Fl im (Si n (fun _ => 0) (-(k % 4)) 4) ∧ Below w.heap.size w w' :=
  Wave_any (.pointer (some ⟨g, 0, none⟩)) n k 274877906944 (by omega) hn w (fun W hW => Counts_any g n W (blk_below h hW))
/-- The first wave turned by -i. -/
theorem turned {a b c d : Nat} {p q : Int} (ha : Fl a p) (hb : Fl b q) (hc : Fl c q) (hd : Fl d (-p)) (hp : p.natAbs ≤ 1099511627776) (hq : q.natAbs ≤ 1099511627776) :
    ∃ re im, (FloatKind.f64.format.order c re == some .eq) = true ∧ (FloatKind.f64.format.order d im == some .eq) = true ∧ ∀ (t : TypeId) (W : World), (binOp .mul t (.complex .f64 a b) (.complex .f64 0 13830554455654793216)).run Try.prog W = .ok (.complex .f64 re im) W := by
  obtain ⟨re, im, f1, f2, h⟩ := cmul ha hb fl_zero fl_negone (by omega) (by omega) (by omega) (by omega) (by omega) (by omega)
  refine ⟨re, im, ?_, ?_, h⟩
  · rw [fl_eq' hc f1]; simp only [decide_eq_true_eq]; omega
  · rw [fl_eq' hd f2]; simp only [decide_eq_true_eq]; omega
set_option maxHeartbeats 4000000 in
theorem PhaseLater_any (A : Option Addr) (len cap b off : Nat) (T N : Nat → Int) (w : World) (hL : Adds w A len b off T N) : Calls Try.prog 8 #[.slice A len cap] w fun e w' => e = .returned (.bool true) ∧ Below w.heap.size w w' := by
  have HL := Lib.hid hL
  clear hL
  go_enter Try.func8, Try.ntmps8
  go_wp2_with (go_at_call 20; (refine (New_any _).mono ?_); rintro e w1 ⟨rfl, rfl⟩)
  have es : (w.alloc (.cells (mt fun _ => 0) 58 (0, 0))).heap.size = w.heap.size + 1 := by simp
  have H0 := Lib.hid (blk_keep (blk_new w (.cells (mt fun _ => 0) 58 (0, 0))) (.cells (mt fun _ => 0) 58 (0, 0)))
  have H1 := Lib.hid (blk_at (o := .cells (mt fun _ => 0) 58 (0, 0)) es)
  have HB0 := Lib.hid (below_more (below_one w (.cells (mt fun _ => 0) 58 (0, 0))) (.cells (mt fun _ => 0) 58 (0, 0)))
  generalize World.alloc (World.alloc w (.cells (mt fun _ => 0) 58 (0, 0))) (.cells (mt fun _ => 0) 58 (0, 0)) = w1 at H0 H1 HB0
  go_loopw [5, 6] (fun v5 v6 wr => ∃ (k : Nat) (n n2 : Nat → Int), k ≤ 100 ∧ v6 = .int .i64 (k : Int) ∧ v5 = .int .i64 (n 0 + n 1 + n 2 + n 3) ∧ Hid (∀ j, j < 4 → 0 ≤ n j ∧ n j ≤ 274877906944) ∧ Hid (∀ j, j < 4 → 0 ≤ n2 j ∧ n2 j ≤ 274877906944) ∧ Hid (Shift n n2) ∧ Hid (wr.heap[w.heap.size]? = some (.cells (mt n) 58 (0, 0))) ∧ Hid (wr.heap[w.heap.size + 1]? = some (.cells (mt n2) 58 (0, 0))) ∧ Hid (Below w.heap.size w wr)) (fun _ v6 _ => 100 - (intOf v6).toNat)
  case atStart => exact ⟨0, fun _ => 0, fun _ => 0, by omega, rfl, rfl, fun j _ => ⟨Int.le_refl 0, show (0 : Int) ≤ 274877906944 by decide⟩, fun j _ => ⟨Int.le_refl 0, show (0 : Int) ≤ 274877906944 by decide⟩, ⟨rfl, rfl, rfl, rfl⟩, H0, H1, HB0⟩
  case round =>
    obtain ⟨k, n, n2, hk, rfl, rfl, hn, hn2, hsh, hrow, hrow2, hbw⟩ := hrel
    by_cases hlen : k < len
    · by_cases h100 : k < 100
      · have hb := HL.out.low (by omega)
        obtain ⟨hc1, hc2⟩ := HL.out.cells k hlen
        obtain rfl : A = some ⟨b, off, none⟩ := HL.out.place (by omega)
        have hd1 : wr.cell? ⟨b, off + k * 2, none⟩ = some (.int .i64 (T k)) := (hbw.out.cell (p := ⟨b, off + k * 2, none⟩) hb).trans hc1
        have hd2 : wr.cell? ⟨b, off + k * 2 + 1, none⟩ = some (.int .i64 (N k)) := (hbw.out.cell (p := ⟨b, off + k * 2 + 1, none⟩) hb).trans hc2
        have HC1 := Lib.hid hc1
        have HC2 := Lib.hid hc2
        clear hc1 hc2
        by_cases hlo : T k < -1099511627776
        · go_wp2
          go_roundw
          case rel => exact ⟨k + 1, n, n2, by omega, by go_num, rfl, hn, hn2, hsh, hrow, hrow2, hbw⟩
          case measure => simp [intOf]; omega
        by_cases hhi : 1099511627776 < T k
        · go_wp2
          go_roundw
          case rel => exact ⟨k + 1, n, n2, by omega, by go_num, rfl, hn, hn2, hsh, hrow, hrow2, hbw⟩
          case measure => simp [intOf]; omega
        have hS0 := And.intro (Lib.hid hbw.out.drew) (And.intro (show wr.drew.cell? ⟨b, off + k * 2, none⟩ = some (.int .i64 (T k)) from hd1) (show wr.drew.cell? ⟨b, off + k * 2 + 1, none⟩ = some (.int .i64 (N k)) from hd2))
        have hwT : wrap64 (T k + 1) = T k + 1 := by unfold wrap64; omega
        by_cases hok : addOk n (T k) (N k) = true
        · have HA1 : Hid (Calls Try.prog 21 #[.pointer (some ⟨w.heap.size, 0, none⟩), .int .i64 (T k), .int .i64 (N k)] wr.drew fun e w' => e = .returned (.bool true) ∧ Added wr.drew w' w.heap.size (addTo n (T k) (N k))) := by
            have h := Add_any w.heap.size n (T k) (N k) hn.out wr.drew hrow.out
            rw [hok] at h
            exact h
          have HOK := Lib.hid hok
          have hwt : wrap64 (n 0 + n 1 + n 2 + n 3 + N k) = n 0 + n 1 + n 2 + n 3 + N k := by
            have h0 := hn.out 0 (by omega)
            have h1 := hn.out 1 (by omega)
            have h2 := hn.out 2 (by omega)
            have h3 := hn.out 3 (by omega)
            simp only [addOk, decide_eq_true_eq] at hok
            unfold wrap64
            omega
          clear hok
          go_wp2
          go_region_held3 (fun W => Hid (Below w.heap.size w W) ∧ W.cell? ⟨b, off + k * 2, none⟩ = some (.int .i64 (T k)) ∧ W.cell? ⟨b, off + k * 2 + 1, none⟩ = some (.int .i64 (N k))) (assumption)
            (first | (go_at_call 21; (with_reducible refine HA1.out.mono ?_); rintro e w3 ⟨rfl, hadd⟩; have HAd := Lib.hid hadd; have hS1 := And.intro (Lib.hid (hadd.below _ _ (Nat.le_refl _) hbw.out.drew)) (And.intro (((hadd.below _ _ (Nat.le_refl _) hbw.out.drew).cell (p := ⟨b, off + k * 2, none⟩) hb).trans HC1.out) (((hadd.below _ _ (Nat.le_refl _) hbw.out.drew).cell (p := ⟨b, off + k * 2 + 1, none⟩) hb).trans HC2.out)); clear hadd) | (go_at_call 21; exact (0 : Nat)))
          have hr2 : Hid (w3.heap[w.heap.size + 1]? = some (.cells (mt n2) 58 (0, 0))) := (HAd.out.far (w.heap.size + 1) (by omega)).trans hrow2.out
          have HA2 : Hid (Calls Try.prog 21 #[.pointer (some ⟨w.heap.size + 1, 0, none⟩), .int .i64 (IntKind.i64.wrap (T k + 1)), .int .i64 (N k)] w3.drew fun e w' => e = .returned (.bool true) ∧ Added w3.drew w' (w.heap.size + 1) (addTo n2 (T k + 1) (N k))) := by
            have h := Add_any (w.heap.size + 1) n2 (T k + 1) (N k) hn2.out w3.drew hr2.out
            have e := (shift_ok hsh.out (T k) (N k)).trans HOK.out
            rw [hwT] at e
            rw [e] at h
            rw [wrapk_id (T k + 1) (by omega) (by omega)]
            exact h
          have hS2 := And.intro (Lib.hid hS1.1.out.drew) (And.intro (show w3.drew.cell? ⟨b, off + k * 2, none⟩ = some (.int .i64 (T k)) from hS1.2.1) (show w3.drew.cell? ⟨b, off + k * 2 + 1, none⟩ = some (.int .i64 (N k)) from hS1.2.2))
          have hq2 := hS1.2.2
          go_wp2
          go_region_held3 (fun W => Hid (Below w.heap.size w W) ∧ W.cell? ⟨b, off + k * 2, none⟩ = some (.int .i64 (T k)) ∧ W.cell? ⟨b, off + k * 2 + 1, none⟩ = some (.int .i64 (N k))) (assumption)
            (first | (go_at_call 21; (with_reducible refine HA2.out.mono ?_); rintro e w4 ⟨rfl, hadd⟩; have HAe := Lib.hid hadd; have hS3 := And.intro (Lib.hid (hadd.below _ _ (Nat.le_succ _) hS2.1.out)) (And.intro (((hadd.below _ _ (Nat.le_succ _) hS2.1.out).cell (p := ⟨b, off + k * 2, none⟩) hb).trans HC1.out) (((hadd.below _ _ (Nat.le_succ _) hS2.1.out).cell (p := ⟨b, off + k * 2 + 1, none⟩) hb).trans HC2.out)); clear hadd) | (go_at_call 21; exact (0 : Nat)))
          go_wp2
          go_roundw
          case rel => exact ⟨k + 1, addTo n (T k) (N k), addTo n2 (T k + 1) (N k), by omega, by go_num, by rw [sum_to (T k) (N k) HOK.out], addTo_ok n (T k) (N k) hn.out, addTo_ok n2 (T k + 1) (N k) hn2.out, (by have h := shift_to hsh.out (T k) (N k) HOK.out; rw [hwT] at h; exact h), (HAe.out.far w.heap.size (by omega)).trans HAd.out.row, HAe.out.row, hS3.1⟩
          case measure => simp [intOf]; omega
        · have HA1 : Hid (Calls Try.prog 21 #[.pointer (some ⟨w.heap.size, 0, none⟩), .int .i64 (T k), .int .i64 (N k)] wr.drew fun e w' => e = .returned (.bool false) ∧ Added wr.drew w' w.heap.size n) := by
            have h := Add_any w.heap.size n (T k) (N k) hn.out wr.drew hrow.out
            have hf : addOk n (T k) (N k) = false := by simpa using hok
            rw [hf, addTo_no hf] at h
            exact h
          clear hok
          go_wp2
          go_region_held3 (fun W => Hid (Below w.heap.size w W) ∧ W.cell? ⟨b, off + k * 2, none⟩ = some (.int .i64 (T k)) ∧ W.cell? ⟨b, off + k * 2 + 1, none⟩ = some (.int .i64 (N k))) (assumption)
            (first | (go_at_call 21; (with_reducible refine HA1.out.mono ?_); rintro e w3 ⟨rfl, hadd⟩; have HAd := Lib.hid hadd; have hS1 := And.intro (Lib.hid (hadd.below _ _ (Nat.le_refl _) hbw.out.drew)) (And.intro (((hadd.below _ _ (Nat.le_refl _) hbw.out.drew).cell (p := ⟨b, off + k * 2, none⟩) hb).trans HC1.out) (((hadd.below _ _ (Nat.le_refl _) hbw.out.drew).cell (p := ⟨b, off + k * 2 + 1, none⟩) hb).trans HC2.out)); clear hadd) | (go_at_call 21; exact (0 : Nat)))
          go_wp2
          go_roundw
          case rel => exact ⟨k + 1, n, n2, by omega, by go_num, rfl, hn, hn2, hsh, HAd.out.row, (HAd.out.far (w.heap.size + 1) (by omega)).trans hrow2.out, hS1.1⟩
          case measure => simp [intOf]; omega
      · have HA : Hid (∀ j, j < 4 → (n j).natAbs ≤ 274877906944) := fun j hj => by have := hn.out j hj; omega
        have HA2 : Hid (∀ j, j < 4 → (n2 j).natAbs ≤ 274877906944) := fun j hj => by have := hn2.out j hj; omega
        have LP := Lib.hid (later_pure n n2 hsh.out)
        have HP1 := Lib.hid (Sr_abs n (fun _ => 0) (-((1 : Int) % 4)) 274877906944 HA.out (fun _ _ => Nat.zero_le _) 4 (by omega))
        have HP2 := Lib.hid (Si_abs n (fun _ => 0) (-((1 : Int) % 4)) 274877906944 HA.out (fun _ _ => Nat.zero_le _) 4 (by omega))
        have HSM : Hid ((n 0 + n 1 + n 2 + n 3).natAbs < 9007199254740992) := by
          have h0 := HA.out 0 (by omega)
          have h1 := HA.out 1 (by omega)
          have h2 := HA.out 2 (by omega)
          have h3 := HA.out 3 (by omega)
          show _ < _
          omega
        have HR := hrow
        have HR2 := hrow2
        have HB := hbw
        clear hrow hrow2 hbw
        go_wp2_with fail
        (with_reducible refine (Wave_at w.heap.size n _ HA.out _ HR.out).mono ?_); rintro e wa ⟨ra, ia, rfl, FA', GA', hb2⟩
        have FA := Lib.hid FA'; have GA := Lib.hid GA'; clear FA' GA'; have HRn := Lib.hid (blk_below HR.out hb2); have HRm := Lib.hid (blk_below HR2.out hb2); have HBn := Lib.hid (below_two HB.out hb2); clear HR HR2 HB; have HR := HRn; have HR2 := HRm; have HB := HBn; clear HRn HRm HBn hb2
        go_wp2_with fail
        (with_reducible refine (Wave_at (w.heap.size + 1) n2 _ HA2.out _ HR2.out).mono ?_); rintro e wb ⟨rb, ib, rfl, FB', GB', hb2⟩
        have FB := Lib.hid FB'; have GB := Lib.hid GB'; clear FB' GB'; have HRn := Lib.hid (blk_below HR.out hb2); have HRm := Lib.hid (blk_below HR2.out hb2); have HBn := Lib.hid (below_two HB.out hb2); clear HR HR2 HB; have HR := HRn; have HR2 := HRm; have HB := HBn; clear HRn HRm HBn hb2
        obtain ⟨pr, pi, eq1, eq2, hmul⟩ := turned FA.out GA.out (by rw [← LP.out.1]; exact FB.out) (by rw [← LP.out.2.1]; exact GB.out) HP1.out HP2.out
        clear FB GB
        have FR := FA
        go_wp2_with fail
        (with_reducible refine (Wave_at w.heap.size n _ HA.out _ HR.out).mono ?_); rintro e wc ⟨rc, ic, rfl, FC', GC', hb2⟩
        have eq3 : (FloatKind.f64.format.order rc ra == some .eq) = true := (fl_eq' FC' FA.out).trans (decide_eq_true LP.out.2.2.1)
        have eq4 : (FloatKind.f64.format.order ic (Op.negFloat .f64 ia) == some .eq) = true := (fl_eq' GC' (fl_neg GA.out)).trans (decide_eq_true LP.out.2.2.2.1)
        clear FC' GC'
        have HRn := Lib.hid (blk_below HR.out hb2); have HRm := Lib.hid (blk_below HR2.out hb2); have HBn := Lib.hid (below_two HB.out hb2); clear HR HR2 HB; have HR := HRn; have HR2 := HRm; have HB := HBn; clear HRn HRm HBn hb2
        have hneg := fun W : World => run_unary_neg (P := Try.prog) W ia
        clear FR
        go_wp2_with fail
        (with_reducible refine (Wave_at w.heap.size n _ HA.out _ HR.out).mono ?_); rintro e wd ⟨rd, jd, rfl, FD', GD', hb2⟩
        have eq5 : (FloatKind.f64.format.order rd (floatOfInt FloatKind.f64 (n 0 + n 1 + n 2 + n 3)) == some .eq) = true := (fl_eq' FD' (fl_int HSM.out)).trans (decide_eq_true LP.out.2.2.2.2.1)
        have eq6 : (FloatKind.f64.format.order jd 0 == some .eq) = true := (fl_eq' GD' fl_zero).trans (decide_eq_true LP.out.2.2.2.2.2.1)
        clear FD' GD' hneg
        have HRn := Lib.hid (blk_below HR.out hb2); have HRm := Lib.hid (blk_below HR2.out hb2); have HBn := Lib.hid (below_two HB.out hb2); clear HR HR2 HB; have HR := HRn; have HR2 := HRm; have HB := HBn; clear HRn HRm HBn hb2
        go_wp2_with fail
        (with_reducible refine (Wave_at (w.heap.size + 1) n2 _ HA2.out _ HR2.out).mono ?_); rintro e we ⟨re', ie', rfl, FE', GE', hb2⟩
        have FE := Lib.hid FE'; have GE := Lib.hid GE'; clear FE' GE'
        have HRn := Lib.hid (blk_below HR.out hb2); have HRm := Lib.hid (blk_below HR2.out hb2); have HBn := Lib.hid (below_two HB.out hb2); clear HR HR2 HB; have HR := HRn; have HR2 := HRm; have HB := HBn; clear HRn HRm HBn hb2
        go_wp2_with fail
        (with_reducible refine (Wave_at w.heap.size n _ HA.out _ HR.out).mono ?_); rintro e wf ⟨rf, jf, rfl, FF', GF', hb2⟩
        have eq7 : (FloatKind.f64.format.order re' rf == some .eq) = true := (fl_eq' FE.out FF').trans (decide_eq_true (LP.out.2.2.2.2.2.2.1.trans LP.out.2.2.2.2.1.symm))
        have eq8 : (FloatKind.f64.format.order ie' jf == some .eq) = true := (fl_eq' GE.out GF').trans (decide_eq_true (LP.out.2.2.2.2.2.2.2.trans LP.out.2.2.2.2.2.1.symm))
        clear FF' GF'
        have HRn := Lib.hid (blk_below HR.out hb2); have HRm := Lib.hid (blk_below HR2.out hb2); have HBn := Lib.hid (below_two HB.out hb2); clear HR HR2 HB; have HR := HRn; have HR2 := HRm; have HB := HBn; clear HRn HRm HBn hb2
        go_wp2_with fail
        (with_reducible refine (awake_any _).mono ?_); rintro e w6 ⟨rfl, rfl⟩
        go_wp2
        go_ret
        exact ⟨rfl, HB.out⟩
    · have HA : Hid (∀ j, j < 4 → (n j).natAbs ≤ 274877906944) := fun j hj => by have := hn.out j hj; omega
      have HA2 : Hid (∀ j, j < 4 → (n2 j).natAbs ≤ 274877906944) := fun j hj => by have := hn2.out j hj; omega
      have LP := Lib.hid (later_pure n n2 hsh.out)
      have HP1 := Lib.hid (Sr_abs n (fun _ => 0) (-((1 : Int) % 4)) 274877906944 HA.out (fun _ _ => Nat.zero_le _) 4 (by omega))
      have HP2 := Lib.hid (Si_abs n (fun _ => 0) (-((1 : Int) % 4)) 274877906944 HA.out (fun _ _ => Nat.zero_le _) 4 (by omega))
      have HSM : Hid ((n 0 + n 1 + n 2 + n 3).natAbs < 9007199254740992) := by
        have h0 := HA.out 0 (by omega)
        have h1 := HA.out 1 (by omega)
        have h2 := HA.out 2 (by omega)
        have h3 := HA.out 3 (by omega)
        show _ < _
        omega
      have HR := hrow
      have HR2 := hrow2
      have HB := hbw
      clear hrow hrow2 hbw
      go_wp2_with fail
      (with_reducible refine (Wave_at w.heap.size n _ HA.out _ HR.out).mono ?_); rintro e wa ⟨ra, ia, rfl, FA', GA', hb2⟩
      have FA := Lib.hid FA'; have GA := Lib.hid GA'; clear FA' GA'; have HRn := Lib.hid (blk_below HR.out hb2); have HRm := Lib.hid (blk_below HR2.out hb2); have HBn := Lib.hid (below_two HB.out hb2); clear HR HR2 HB; have HR := HRn; have HR2 := HRm; have HB := HBn; clear HRn HRm HBn hb2
      go_wp2_with fail
      (with_reducible refine (Wave_at (w.heap.size + 1) n2 _ HA2.out _ HR2.out).mono ?_); rintro e wb ⟨rb, ib, rfl, FB', GB', hb2⟩
      have FB := Lib.hid FB'; have GB := Lib.hid GB'; clear FB' GB'; have HRn := Lib.hid (blk_below HR.out hb2); have HRm := Lib.hid (blk_below HR2.out hb2); have HBn := Lib.hid (below_two HB.out hb2); clear HR HR2 HB; have HR := HRn; have HR2 := HRm; have HB := HBn; clear HRn HRm HBn hb2
      obtain ⟨pr, pi, eq1, eq2, hmul⟩ := turned FA.out GA.out (by rw [← LP.out.1]; exact FB.out) (by rw [← LP.out.2.1]; exact GB.out) HP1.out HP2.out
      clear FB GB
      have FR := FA
      go_wp2_with fail
      (with_reducible refine (Wave_at w.heap.size n _ HA.out _ HR.out).mono ?_); rintro e wc ⟨rc, ic, rfl, FC', GC', hb2⟩
      have eq3 : (FloatKind.f64.format.order rc ra == some .eq) = true := (fl_eq' FC' FA.out).trans (decide_eq_true LP.out.2.2.1)
      have eq4 : (FloatKind.f64.format.order ic (Op.negFloat .f64 ia) == some .eq) = true := (fl_eq' GC' (fl_neg GA.out)).trans (decide_eq_true LP.out.2.2.2.1)
      clear FC' GC'
      have HRn := Lib.hid (blk_below HR.out hb2); have HRm := Lib.hid (blk_below HR2.out hb2); have HBn := Lib.hid (below_two HB.out hb2); clear HR HR2 HB; have HR := HRn; have HR2 := HRm; have HB := HBn; clear HRn HRm HBn hb2
      have hneg := fun W : World => run_unary_neg (P := Try.prog) W ia
      clear FR
      go_wp2_with fail
      (with_reducible refine (Wave_at w.heap.size n _ HA.out _ HR.out).mono ?_); rintro e wd ⟨rd, jd, rfl, FD', GD', hb2⟩
      have eq5 : (FloatKind.f64.format.order rd (floatOfInt FloatKind.f64 (n 0 + n 1 + n 2 + n 3)) == some .eq) = true := (fl_eq' FD' (fl_int HSM.out)).trans (decide_eq_true LP.out.2.2.2.2.1)
      have eq6 : (FloatKind.f64.format.order jd 0 == some .eq) = true := (fl_eq' GD' fl_zero).trans (decide_eq_true LP.out.2.2.2.2.2.1)
      clear FD' GD' hneg
      have HRn := Lib.hid (blk_below HR.out hb2); have HRm := Lib.hid (blk_below HR2.out hb2); have HBn := Lib.hid (below_two HB.out hb2); clear HR HR2 HB; have HR := HRn; have HR2 := HRm; have HB := HBn; clear HRn HRm HBn hb2
      go_wp2_with fail
      (with_reducible refine (Wave_at (w.heap.size + 1) n2 _ HA2.out _ HR2.out).mono ?_); rintro e we ⟨re', ie', rfl, FE', GE', hb2⟩
      have FE := Lib.hid FE'; have GE := Lib.hid GE'; clear FE' GE'
      have HRn := Lib.hid (blk_below HR.out hb2); have HRm := Lib.hid (blk_below HR2.out hb2); have HBn := Lib.hid (below_two HB.out hb2); clear HR HR2 HB; have HR := HRn; have HR2 := HRm; have HB := HBn; clear HRn HRm HBn hb2
      go_wp2_with fail
      (with_reducible refine (Wave_at w.heap.size n _ HA.out _ HR.out).mono ?_); rintro e wf ⟨rf, jf, rfl, FF', GF', hb2⟩
      have eq7 : (FloatKind.f64.format.order re' rf == some .eq) = true := (fl_eq' FE.out FF').trans (decide_eq_true (LP.out.2.2.2.2.2.2.1.trans LP.out.2.2.2.2.1.symm))
      have eq8 : (FloatKind.f64.format.order ie' jf == some .eq) = true := (fl_eq' GE.out GF').trans (decide_eq_true (LP.out.2.2.2.2.2.2.2.trans LP.out.2.2.2.2.2.1.symm))
      clear FF' GF'
      have HRn := Lib.hid (blk_below HR.out hb2); have HRm := Lib.hid (blk_below HR2.out hb2); have HBn := Lib.hid (below_two HB.out hb2); clear HR HR2 HB; have HR := HRn; have HR2 := HRm; have HB := HBn; clear HRn HRm HBn hb2
      go_wp2_with fail
      (with_reducible refine (awake_any _).mono ?_); rintro e w6 ⟨rfl, rfl⟩
      go_wp2
      go_ret
      exact ⟨rfl, HB.out⟩
end Go.Proofs.Ytehjjjdelpbkpaa
namespace Go.Proofs.Ytehjjjdelpbkpaa.phaseLater
open Go.ChangeShapes Go.WideShapes Go.ChangeAt Go.RowKit
theorem own : ownKnob Try.prog.godebug = none := by kernel_rfl
theorem laidOut : laidOutB Try.prog = true := by kernel_rfl
set_option maxRecDepth 100000 in
theorem lifted (os : Os) (started : os.Started) (H : Type) (enc : TypeId × Value → H) :
    ReturnsInHanded {} Try.checked os 8 .any (Rows.phaseLaterSpec.pre6 enc Try.prog Try.f8 Rows.phaseLaterRow.domain false) (Rows.phaseLaterSpec.post enc Try.prog Try.f8 false true false false) := by
  refine returnsInHanded_of_change (C := Try.checked) own started (by kernel_rfl) Try.func8
    (ChangeSpec.witness6 (enc := enc) (C := Try.checked) false ⟨#[], #[.slice none 0 0], []⟩ 8 (by kernel_rfl) (by kernel_rfl) (by kernel_rfl) (by kernel_rfl)) ?_
  intro W base args ds gs before hval0 hW hcnd _
  have hval : ∀ (j : Nat) t v, Try.f8.params[j]? = some t → args[j]? = some v → Value.okWide Try.prog W .any base t v := hval0
  have hW' := hW
  have hlt := hW'.lt
  obtain ⟨p, q, hA0, hV, rfl, hfz, hnd⟩ := hW
  have hA : DataW.TrodAll enc Try.prog W 0 (fun _ => true) true Try.f8.params.toList args.toList ds p := hA0
  rw [Try.params8] at hA hval
  obtain ⟨v0, vs0, d0, ds0, p0, q0, hargs, rfl, rfl, h0, r0⟩ := trodAll_cons hA
  obtain ⟨rfl, rfl, rfl⟩ := trodAll_nil r0
  obtain rfl : args = #[v0] := by cases args; simp_all
  obtain ⟨rfl, rfl⟩ := trodVars_none hV
  have k0 := h0
  have l0 : ∀ x ∈ p0, x.block < W.heap.size := fun x hx => hlt x (by simp [hx])
  obtain ⟨A0, n0, c0, b0, f0, T0, N0, rfl, HA0⟩ := open_adds h0 (okWide_slice Try.underlying41 (hval 0 41 v0 rfl rfl))
  clear hA0 hval0
  refine (PhaseLater_any A0 n0 c0 b0 f0 T0 N0 W HA0).mono fun e W' ⟨he, bel⟩ => ?_
  subst he
  exact ⟨_, rfl, _, _, _, [], _, [], hW', trodAll_mk1 (shut_bool Try.underlying4 _), trodAll_mk1 (Below.trod laidOut (by kernel_rfl) (of_decide_eq_true (by kernel_rfl)) k0 bel l0), rfl, bel.frame _, fun h => by cases h⟩
theorem over : Rows.phaseLaterRow.holds Try.pinned (OpenSpec.ofChange Rows.phaseLaterSpec) :=
  OpenClaim.holds_of_wide 8 Try.f8 rfl rfl rfl rfl rfl rfl rfl ⟨rfl, rfl, rfl, rfl, rfl⟩ rfl rfl rfl rfl rfl (by kernel_rfl) Try.func8 (by kernel_rfl)
    (of_decide_eq_true (by kernel_rfl)) (by unfold Func.isWrapper; first | (rw [if_pos (by decide +kernel)]; kernel_rfl) | (rw [if_neg (by decide +kernel)]; exact ⟨rfl, rfl⟩))
    (fun os started H enc _ => lifted os started H enc)
theorem proved : Rows.PhaseLaterSaid := over
end Go.Proofs.Ytehjjjdelpbkpaa.phaseLater
namespace Go.Proofs.Ytehjjjdelpbkpaa
theorem phaseLater_holds : Rows.PhaseLaterSaid := phaseLater.proved
end Go.Proofs.Ytehjjjdelpbkpaa
