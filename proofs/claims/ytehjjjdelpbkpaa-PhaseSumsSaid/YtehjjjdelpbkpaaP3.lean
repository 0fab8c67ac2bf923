/-
  Package phase: the four waves, and back.
-/
import Derived.Test.YtehjjjdelpbkpaaP2
import Derived.Test.YtehjjjdelpbkpaaWWords
import Derived.Laws.CopyOwn
namespace Go.Proofs.Ytehjjjdelpbkpaa
open Go.RowKit Go.Proofs.YtehjjjdelpbkpaaW.PrintWords
open F

theorem run_store_complex {P : Program} (w : World) (a : Addr) (m : Mode) (k : FloatKind) (p q : Nat) : (store a (.complex k p q) m).run P w = stored P w a (.complex k p q) m := run_store P w a _ m rfl
attribute [local go_sem] run_store_complex
/-- What has been put into an array's first k cells; the others hold nothing yet. -/
def fillC (r i : Nat → Nat) (k j : Nat) : Value := if j < k then .complex .f64 (r j) (i j) else .complex .f64 0 0
def upd (f : Nat → Nat) (k v : Nat) : Nat → Nat := fun j => if j = k then v else f j
theorem blk_below {w w1 : World} {g : Nat} {o : Obj} (h : w.heap[g]? = some o) (hb : Below w.heap.size w w1) : w1.heap[g]? = some o := (hb.block g (blk_lt h)).trans h
theorem below_two {w w1 w2 : World} (h : Below w.heap.size w w1) (k : Below w1.heap.size w1 w2) : Below w.heap.size w w2 := below_then h h.size k
theorem blk_keep {w : World} {g : Nat} {o : Obj} (h : w.heap[g]? = some o) (o' : Obj) : (w.alloc o').heap[g]? = some o := by
  have hl := blk_lt h
  show (w.heap.push o')[g]? = some o
  rw [Array.getElem?_push, if_neg (by omega)]
  exact h
theorem below_one (w : World) (o : Obj) : Below w.heap.size w (w.alloc o) := (Below.refl _ _).alloc (Nat.le_refl _) _
theorem below_more {w W : World} (h : Below w.heap.size w W) (o : Obj) : Below w.heap.size w (W.alloc o) := h.alloc h.size o
set_option maxHeartbeats 2000000 in
theorem Forth_any (a b : Nat → Nat) (x y : Nat → Int) (B : Nat) (hB : 4 * B < 9007199254740992) (ha : ∀ j, j < 4 → Fl (a j) (x j)) (hb : ∀ j, j < 4 → Fl (b j) (y j)) (hx : ∀ j, j < 4 → (x j).natAbs ≤ B) (hy : ∀ j, j < 4 → (y j).natAbs ≤ B) (w : World) :
    Calls Try.prog 17 #[arr4 a b] w fun e w' => ∃ r i : Nat → Nat, e = .returned (arr4 r i) ∧ (∀ k, k < 4 → Fl (r k) (Sr x y (-(k : Int)) 4) ∧ Fl (i k) (Si x y (-(k : Int)) 4)) ∧ Below w.heap.size w w' := by
  have HS : Hid (∀ (k : Int) (w : World), Calls Try.prog 28 #[arr4 a b, .int .i64 k] w fun e w' => ∃ re im, e = .returned (.complex .f64 re im) ∧ Fl re (Sr x y k 4) ∧ Fl im (Si x y k 4) ∧ Below w.heap.size w w') := fun k w => sum_any a b x y k B hB ha hb hx hy w
  clear ha hb hx hy hB
  unfold arr4 at HS ⊢
  generalize hc0 : Value.complex .f64 (a 0) (b 0) = c0 at HS
  generalize hc1 : Value.complex .f64 (a 1) (b 1) = c1 at HS
  generalize hc2 : Value.complex .f64 (a 2) (b 2) = c2 at HS
  generalize hc3 : Value.complex .f64 (a 3) (b 3) = c3 at HS
  have o0 : c0.oneCell' = true := by rw [← hc0]; rfl
  have o1 : c1.oneCell' = true := by rw [← hc1]; rfl
  have o2 : c2.oneCell' = true := by rw [← hc2]; rfl
  have o3 : c3.oneCell' = true := by rw [← hc3]; rfl
  clear hc0 hc1 hc2 hc3
  go_enter Try.func17, Try.ntmps17
  go_wp2
  go_loopw [4, 5] (fun v4 v5 wr => ∃ (k : Nat) (kz : Int) (r i : Nat → Nat), k ≤ 4 ∧ Hid (kz = k) ∧ v5 = .int .i64 kz ∧ Hid (∀ j, j < k → Fl (r j) (Sr x y (-(j : Int)) 4) ∧ Fl (i j) (Si x y (-(j : Int)) 4)) ∧
      Hid (wr.heap[w.heap.size]? = some (.cells #[c0, c1, c2, c3] 31 (0, 0))) ∧ Hid (wr.heap[w.heap.size + 1]? = some (.cells #[.complex .f64 0 0, .complex .f64 0 0, .complex .f64 0 0, .complex .f64 0 0] 31 (0, 0))) ∧
      Hid (wr.heap[w.heap.size + 1 + 1]? = some (.cells #[fillC r i k 0, fillC r i k 1, fillC r i k 2, fillC r i k 3] 31 (0, 0))) ∧ Hid (Below w.heap.size w wr)) (fun _ v5 _ => 4 - (intOf v5).toNat)
  case atStart =>
    have e1 : (w.alloc (.cells #[c0, c1, c2, c3] 31 (0, 0))).heap.size = w.heap.size + 1 := by simp
    refine ⟨0, 0, fun _ => 0, fun _ => 0, by omega, rfl, rfl, fun j hj => absurd hj (by omega), blk_keep (blk_keep (blk_new _ _) _) _, ?_, ?_, below_more (below_more (below_one _ _) _) _⟩
    · exact blk_keep (by rw [← e1]; exact blk_new _ _) _
    · have e2 : ∀ o, ((w.alloc (.cells #[c0, c1, c2, c3] 31 (0, 0))).alloc o).heap.size = w.heap.size + 1 + 1 := by intro o; simp
      rw [← e2]
      exact blk_new _ _
  case round =>
    obtain ⟨k, kz, r, i, hk, hz, rfl, hf, h0, h1, h2, hbw⟩ := hrel
    have hkk : k = 0 ∨ k = 1 ∨ k = 2 ∨ k = 3 ∨ k = 4 := by omega
    rcases hkk with rfl | rfl | rfl | rfl | rfl
    · obtain rfl : kz = 0 := hz.out
      have hc3 : wr.cell? ⟨w.heap.size + 1 + 1, 0, none⟩ = some (fillC r i 0 0) := blk_cell h2.out 0
      go_wp2_with (first | (refine wpList_load_row rfl 31 (.tmp 1) rfl w.heap.size rfl 31 #[c0, c1, c2, c3] (0, 0) (.array 4 23) h0.out Try.underlying31 rfl (by kernel_rfl) ?_) | (go_at_call 28; (refine (HS.out _ _).mono ?_); rintro e w1 ⟨re, im, rfl, hre, him, hb1⟩; have F1 := Lib.hid hre; have F2 := Lib.hid him; have h0' := Lib.hid (blk_below h0.out hb1); have h1' := Lib.hid (blk_below h1.out hb1); have h2' := Lib.hid (blk_below h2.out hb1); have hbw' := Lib.hid (below_two hbw.out hb1); have hcell : w1.cell? ⟨w.heap.size + 1 + 1, 0, none⟩ = some (fillC r i 0 0) := blk_cell h2'.out 0; have hfree : w1.frozen? ⟨w.heap.size + 1 + 1, 0, none⟩ = false := blk_frozen h2'.out 0; clear hre him hb1 hc3))
      go_roundw
      case rel =>
        refine ⟨1, 1, upd r 0 re, upd i 0 im, by omega, rfl, rfl, ?_, blk_far h0'.out (by simp only [ne_eq]; omega) _, blk_far h1'.out (by simp only [ne_eq]; omega) _, blk_put h2'.out 0 _ rfl, hbw'.out.setCell (by simp; omega) _⟩
        intro j hj
        by_cases hjk : j = 0
        · subst hjk; exact ⟨F1.out, F2.out⟩
        · have := hf.out j (by omega)
          simp only [upd, if_neg hjk]
          exact this
      case measure => simp [intOf]
    · obtain rfl : kz = 1 := hz.out
      have hc3 : wr.cell? ⟨w.heap.size + 1 + 1, 1, none⟩ = some (fillC r i 1 1) := blk_cell h2.out 1
      go_wp2_with (first | (refine wpList_load_row rfl 31 (.tmp 1) rfl w.heap.size rfl 31 #[c0, c1, c2, c3] (0, 0) (.array 4 23) h0.out Try.underlying31 rfl (by kernel_rfl) ?_) | (go_at_call 28; (refine (HS.out _ _).mono ?_); rintro e w1 ⟨re, im, rfl, hre, him, hb1⟩; have F1 := Lib.hid hre; have F2 := Lib.hid him; have h0' := Lib.hid (blk_below h0.out hb1); have h1' := Lib.hid (blk_below h1.out hb1); have h2' := Lib.hid (blk_below h2.out hb1); have hbw' := Lib.hid (below_two hbw.out hb1); have hcell : w1.cell? ⟨w.heap.size + 1 + 1, 1, none⟩ = some (fillC r i 1 1) := blk_cell h2'.out 1; have hfree : w1.frozen? ⟨w.heap.size + 1 + 1, 1, none⟩ = false := blk_frozen h2'.out 1; clear hre him hb1 hc3))
      go_roundw
      case rel =>
        refine ⟨2, 2, upd r 1 re, upd i 1 im, by omega, rfl, rfl, ?_, blk_far h0'.out (by simp only [ne_eq]; omega) _, blk_far h1'.out (by simp only [ne_eq]; omega) _, blk_put h2'.out 1 _ rfl, hbw'.out.setCell (by simp; omega) _⟩
        intro j hj
        by_cases hjk : j = 1
        · subst hjk; exact ⟨F1.out, F2.out⟩
        · have := hf.out j (by omega)
          simp only [upd, if_neg hjk]
          exact this
      case measure => simp [intOf]
    · obtain rfl : kz = 2 := hz.out
      have hc3 : wr.cell? ⟨w.heap.size + 1 + 1, 2, none⟩ = some (fillC r i 2 2) := blk_cell h2.out 2
      go_wp2_with (first | (refine wpList_load_row rfl 31 (.tmp 1) rfl w.heap.size rfl 31 #[c0, c1, c2, c3] (0, 0) (.array 4 23) h0.out Try.underlying31 rfl (by kernel_rfl) ?_) | (go_at_call 28; (refine (HS.out _ _).mono ?_); rintro e w1 ⟨re, im, rfl, hre, him, hb1⟩; have F1 := Lib.hid hre; have F2 := Lib.hid him; have h0' := Lib.hid (blk_below h0.out hb1); have h1' := Lib.hid (blk_below h1.out hb1); have h2' := Lib.hid (blk_below h2.out hb1); have hbw' := Lib.hid (below_two hbw.out hb1); have hcell : w1.cell? ⟨w.heap.size + 1 + 1, 2, none⟩ = some (fillC r i 2 2) := blk_cell h2'.out 2; have hfree : w1.frozen? ⟨w.heap.size + 1 + 1, 2, none⟩ = false := blk_frozen h2'.out 2; clear hre him hb1 hc3))
      go_roundw
      case rel =>
        refine ⟨3, 3, upd r 2 re, upd i 2 im, by omega, rfl, rfl, ?_, blk_far h0'.out (by simp only [ne_eq]; omega) _, blk_far h1'.out (by simp only [ne_eq]; omega) _, blk_put h2'.out 2 _ rfl, hbw'.out.setCell (by simp; omega) _⟩
        intro j hj
        by_cases hjk : j = 2
        · subst hjk; exact ⟨F1.out, F2.out⟩
        · have := hf.out j (by omega)
          simp only [upd, if_neg hjk]
          exact this
      case measure => simp [intOf]
    · obtain rfl : kz = 3 := hz.out
      have hc3 : wr.cell? ⟨w.heap.size + 1 + 1, 3, none⟩ = some (fillC r i 3 3) := blk_cell h2.out 3
      go_wp2_with (first | (refine wpList_load_row rfl 31 (.tmp 1) rfl w.heap.size rfl 31 #[c0, c1, c2, c3] (0, 0) (.array 4 23) h0.out Try.underlying31 rfl (by kernel_rfl) ?_) | (go_at_call 28; (refine (HS.out _ _).mono ?_); rintro e w1 ⟨re, im, rfl, hre, him, hb1⟩; have F1 := Lib.hid hre; have F2 := Lib.hid him; have h0' := Lib.hid (blk_below h0.out hb1); have h1' := Lib.hid (blk_below h1.out hb1); have h2' := Lib.hid (blk_below h2.out hb1); have hbw' := Lib.hid (below_two hbw.out hb1); have hcell : w1.cell? ⟨w.heap.size + 1 + 1, 3, none⟩ = some (fillC r i 3 3) := blk_cell h2'.out 3; have hfree : w1.frozen? ⟨w.heap.size + 1 + 1, 3, none⟩ = false := blk_frozen h2'.out 3; clear hre him hb1 hc3))
      go_roundw
      case rel =>
        refine ⟨4, 4, upd r 3 re, upd i 3 im, by omega, rfl, rfl, ?_, blk_far h0'.out (by simp only [ne_eq]; omega) _, blk_far h1'.out (by simp only [ne_eq]; omega) _, blk_put h2'.out 3 _ rfl, hbw'.out.setCell (by simp; omega) _⟩
        intro j hj
        by_cases hjk : j = 3
        · subst hjk; exact ⟨F1.out, F2.out⟩
        · have := hf.out j (by omega)
          simp only [upd, if_neg hjk]
          exact this
      case measure => simp [intOf]
    · obtain rfl : kz = 4 := hz.out
      have h2f : Hid (wr.heap[w.heap.size + 1 + 1]? = some (.cells #[.complex .f64 (r 0) (i 0), .complex .f64 (r 1) (i 1), .complex .f64 (r 2) (i 2), .complex .f64 (r 3) (i 3)] 31 (0, 0))) := h2.out
      go_wp2_with (first | (refine wpList_load_row rfl 31 (.tmp 3) rfl (w.heap.size + 1 + 1) rfl 31 #[.complex .f64 (r 0) (i 0), .complex .f64 (r 1) (i 1), .complex .f64 (r 2) (i 2), .complex .f64 (r 3) (i 3)] (0, 0) (.array 4 23) h2f.out Try.underlying31 rfl (by kernel_rfl) ?_) | (refine wpList_store_row rfl 31 (.tmp 2) (.tmp 15) rfl (w.heap.size + 1) #[.complex .f64 (r 0) (i 0), .complex .f64 (r 1) (i 1), .complex .f64 (r 2) (i 2), .complex .f64 (r 3) (i 3)] rfl rfl 31 _ h1.out (by kernel_rfl) rfl (by simp [Value.oneCell']) ?_))
      exact bodyPost_ret (results_cell_row (by rfl) _ _ (w.heap.size + 1) 31 _ (0, 0) (.array 4 23) rfl (setRow_heap _ _ _ _ _ _ h1.out) Try.underlying31 rfl (by kernel_rfl)) rfl ⟨r, i, rfl, hf.out, below_setRow hbw.out (by omega) _⟩
set_option maxHeartbeats 2000000 in
theorem Back_any (a b : Nat → Nat) (x y c d : Nat → Int) (B : Nat) (hB : 4 * B < 9007199254740992) (ha : ∀ j, j < 4 → Fl (a j) (x j)) (hb : ∀ j, j < 4 → Fl (b j) (y j)) (hx : ∀ j, j < 4 → (x j).natAbs ≤ B) (hy : ∀ j, j < 4 → (y j).natAbs ≤ B)
    (hc : ∀ j : Nat, j < 4 → Sr x y (j : Int) 4 = 4 * c j) (hd : ∀ j : Nat, j < 4 → Si x y (j : Int) 4 = 4 * d j) (w : World) :
    Calls Try.prog 19 #[arr4 a b] w fun e w' => ∃ r i : Nat → Nat, e = .returned (arr4 r i) ∧ (∀ k, k < 4 → Fl (r k) (c k) ∧ Fl (i k) (d k)) ∧ Below w.heap.size w w' := by
  have HS : Hid (∀ (k : Int) (w : World), Calls Try.prog 28 #[arr4 a b, .int .i64 k] w fun e w' => ∃ re im, e = .returned (.complex .f64 re im) ∧ Fl re (Sr x y k 4) ∧ Fl im (Si x y k 4) ∧ Below w.heap.size w w') := fun k w => sum_any a b x y k B hB ha hb hx hy w
  have HD : Hid (∀ j : Nat, j < 4 → ∀ re im, Fl re (Sr x y (j : Int) 4) → Fl im (Si x y (j : Int) 4) → Fl re (4 * c j) ∧ Fl im (4 * d j)) := fun j hj re im h1 h2 => ⟨by rw [← hc j hj]; exact h1, by rw [← hd j hj]; exact h2⟩
  have HC : Hid (∀ j, j < 4 → (c j).natAbs < 9007199254740992 ∧ (d j).natAbs < 9007199254740992) := fun j hj => by
    have h1 := Sr_abs x y (j : Int) B hx hy 4 (by omega)
    have h2 := Si_abs x y (j : Int) B hx hy 4 (by omega)
    have h3 := hc j hj
    have h4 := hd j hj
    constructor <;> omega
  clear ha hb hx hy hB hc hd
  unfold arr4 at HS ⊢
  generalize hc0 : Value.complex .f64 (a 0) (b 0) = c0 at HS
  generalize hc1 : Value.complex .f64 (a 1) (b 1) = c1 at HS
  generalize hc2 : Value.complex .f64 (a 2) (b 2) = c2 at HS
  generalize hc3 : Value.complex .f64 (a 3) (b 3) = c3 at HS
  have o0 : c0.oneCell' = true := by rw [← hc0]; rfl
  have o1 : c1.oneCell' = true := by rw [← hc1]; rfl
  have o2 : c2.oneCell' = true := by rw [← hc2]; rfl
  have o3 : c3.oneCell' = true := by rw [← hc3]; rfl
  clear hc0 hc1 hc2 hc3
  go_enter Try.func19, Try.ntmps19
  go_wp2
  go_loopw [4, 5, 6] (fun v4 v5 v6 wr => ∃ (k : Nat) (kz : Int) (r i : Nat → Nat), k ≤ 4 ∧ Hid (kz = k) ∧ v6 = .int .i64 kz ∧ Hid (∀ j, j < k → Fl (r j) (c j) ∧ Fl (i j) (d j)) ∧
      Hid (wr.heap[w.heap.size]? = some (.cells #[c0, c1, c2, c3] 31 (0, 0))) ∧ Hid (wr.heap[w.heap.size + 1]? = some (.cells #[.complex .f64 0 0, .complex .f64 0 0, .complex .f64 0 0, .complex .f64 0 0] 31 (0, 0))) ∧
      Hid (wr.heap[w.heap.size + 1 + 1]? = some (.cells #[fillC r i k 0, fillC r i k 1, fillC r i k 2, fillC r i k 3] 31 (0, 0))) ∧ Hid (Below w.heap.size w wr)) (fun _ _ v6 _ => 4 - (intOf v6).toNat)
  case atStart =>
    have e1 : (w.alloc (.cells #[c0, c1, c2, c3] 31 (0, 0))).heap.size = w.heap.size + 1 := by simp
    refine ⟨0, 0, fun _ => 0, fun _ => 0, by omega, rfl, rfl, fun j hj => absurd hj (by omega), blk_keep (blk_keep (blk_new _ _) _) _, ?_, ?_, below_more (below_more (below_one _ _) _) _⟩
    · exact blk_keep (by rw [← e1]; exact blk_new _ _) _
    · have e2 : ∀ o, ((w.alloc (.cells #[c0, c1, c2, c3] 31 (0, 0))).alloc o).heap.size = w.heap.size + 1 + 1 := by intro o; simp
      rw [← e2]
      exact blk_new _ _
  case round =>
    obtain ⟨k, kz, r, i, hk, hz, rfl, hf, h0, h1, h2, hbw⟩ := hrel
    have hkk : k = 0 ∨ k = 1 ∨ k = 2 ∨ k = 3 ∨ k = 4 := by omega
    rcases hkk with rfl | rfl | rfl | rfl | rfl
    · obtain rfl : kz = 0 := hz.out
      go_wp2_with (first | (refine wpList_load_row rfl 31 (.tmp 1) rfl w.heap.size rfl 31 #[c0, c1, c2, c3] (0, 0) (.array 4 23) h0.out Try.underlying31 rfl (by kernel_rfl) ?_) | (go_at_call 28; (refine (HS.out _ _).mono ?_); rintro e w1 ⟨re, im, rfl, hre, him, hb1⟩; obtain ⟨q1, e1, g1⟩ := fl_quarter (HD.out 0 (by omega) re im hre him).1 (HC.out 0 (by omega)).1; obtain ⟨q2, e2, g2⟩ := fl_quarter (HD.out 0 (by omega) re im hre him).2 (HC.out 0 (by omega)).2; have hq1 := fun W : World => run_float_arith (P := Try.prog) W .quo 38 .f64 _ _ _ e1; have hq2 := fun W : World => run_float_arith (P := Try.prog) W .quo 38 .f64 _ _ _ e2; have F1 := Lib.hid g1; have F2 := Lib.hid g2; have h0' := Lib.hid (blk_below h0.out hb1); have h1' := Lib.hid (blk_below h1.out hb1); have h2' := Lib.hid (blk_below h2.out hb1); have hbw' := Lib.hid (below_two hbw.out hb1); have hcell : w1.cell? ⟨w.heap.size + 1 + 1, 0, none⟩ = some (fillC r i 0 0) := blk_cell h2'.out 0; have hfree : w1.frozen? ⟨w.heap.size + 1 + 1, 0, none⟩ = false := blk_frozen h2'.out 0; clear hre him hb1 e1 e2 g1 g2))
      go_roundw
      case rel =>
        refine ⟨1, 1, upd r 0 q1, upd i 0 q2, by omega, rfl, rfl, ?_, blk_far h0'.out (by simp only [ne_eq]; omega) _, blk_far h1'.out (by simp only [ne_eq]; omega) _, blk_put h2'.out 0 _ rfl, hbw'.out.setCell (by simp; omega) _⟩
        intro j hj
        by_cases hjk : j = 0
        · subst hjk; exact ⟨F1.out, F2.out⟩
        · have := hf.out j (by omega)
          simp only [upd, if_neg hjk]
          exact this
      case measure => simp [intOf]
    · obtain rfl : kz = 1 := hz.out
      go_wp2_with (first | (refine wpList_load_row rfl 31 (.tmp 1) rfl w.heap.size rfl 31 #[c0, c1, c2, c3] (0, 0) (.array 4 23) h0.out Try.underlying31 rfl (by kernel_rfl) ?_) | (go_at_call 28; (refine (HS.out _ _).mono ?_); rintro e w1 ⟨re, im, rfl, hre, him, hb1⟩; obtain ⟨q1, e1, g1⟩ := fl_quarter (HD.out 1 (by omega) re im hre him).1 (HC.out 1 (by omega)).1; obtain ⟨q2, e2, g2⟩ := fl_quarter (HD.out 1 (by omega) re im hre him).2 (HC.out 1 (by omega)).2; have hq1 := fun W : World => run_float_arith (P := Try.prog) W .quo 38 .f64 _ _ _ e1; have hq2 := fun W : World => run_float_arith (P := Try.prog) W .quo 38 .f64 _ _ _ e2; have F1 := Lib.hid g1; have F2 := Lib.hid g2; have h0' := Lib.hid (blk_below h0.out hb1); have h1' := Lib.hid (blk_below h1.out hb1); have h2' := Lib.hid (blk_below h2.out hb1); have hbw' := Lib.hid (below_two hbw.out hb1); have hcell : w1.cell? ⟨w.heap.size + 1 + 1, 1, none⟩ = some (fillC r i 1 1) := blk_cell h2'.out 1; have hfree : w1.frozen? ⟨w.heap.size + 1 + 1, 1, none⟩ = false := blk_frozen h2'.out 1; clear hre him hb1 e1 e2 g1 g2))
      go_roundw
      case rel =>
        refine ⟨2, 2, upd r 1 q1, upd i 1 q2, by omega, rfl, rfl, ?_, blk_far h0'.out (by simp only [ne_eq]; omega) _, blk_far h1'.out (by simp only [ne_eq]; omega) _, blk_put h2'.out 1 _ rfl, hbw'.out.setCell (by simp; omega) _⟩
        intro j hj
        by_cases hjk : j = 1
        · subst hjk; exact ⟨F1.out, F2.out⟩
        · have := hf.out j (by omega)
          simp only [upd, if_neg hjk]
          exact this
      case measure => simp [intOf]
    · obtain rfl : kz = 2 := hz.out
      go_wp2_with (first | (refine wpList_load_row rfl 31 (.tmp 1) rfl w.heap.size rfl 31 #[c0, c1, c2, c3] (0, 0) (.array 4 23) h0.out Try.underlying31 rfl (by kernel_rfl) ?_) | (go_at_call 28; (refine (HS.out _ _).mono ?_); rintro e w1 ⟨re, im, rfl, hre, him, hb1⟩; obtain ⟨q1, e1, g1⟩ := fl_quarter (HD.out 2 (by omega) re im hre him).1 (HC.out 2 (by omega)).1; obtain ⟨q2, e2, g2⟩ := fl_quarter (HD.out 2 (by omega) re im hre him).2 (HC.out 2 (by omega)).2; have hq1 := fun W : World => run_float_arith (P := Try.prog) W .quo 38 .f64 _ _ _ e1; have hq2 := fun W : World => run_float_arith (P := Try.prog) W .quo 38 .f64 _ _ _ e2; have F1 := Lib.hid g1; have F2 := Lib.hid g2; have h0' := Lib.hid (blk_below h0.out hb1); have h1' := Lib.hid (blk_below h1.out hb1); have h2' := Lib.hid (blk_below h2.out hb1); have hbw' := Lib.hid (below_two hbw.out hb1); have hcell : w1.cell? ⟨w.heap.size + 1 + 1, 2, none⟩ = some (fillC r i 2 2) := blk_cell h2'.out 2; have hfree : w1.frozen? ⟨w.heap.size + 1 + 1, 2, none⟩ = false := blk_frozen h2'.out 2; clear hre him hb1 e1 e2 g1 g2))
      go_roundw
      case rel =>
        refine ⟨3, 3, upd r 2 q1, upd i 2 q2, by omega, rfl, rfl, ?_, blk_far h0'.out (by simp only [ne_eq]; omega) _, blk_far h1'.out (by simp only [ne_eq]; omega) _, blk_put h2'.out 2 _ rfl, hbw'.out.setCell (by simp; omega) _⟩
        intro j hj
        by_cases hjk : j = 2
        · subst hjk; exact ⟨F1.out, F2.out⟩
        · have := hf.out j (by omega)
          simp only [upd, if_neg hjk]
          exact this
      case measure => simp [intOf]
    · obtain rfl : kz = 3 := hz.out
      go_wp2_with (first | (refine wpList_load_row rfl 31 (.tmp 1) rfl w.heap.size rfl 31 #[c0, c1, c2, c3] (0, 0) (.array 4 23) h0.out Try.underlying31 rfl (by kernel_rfl) ?_) | (go_at_call 28; (refine (HS.out _ _).mono ?_); rintro e w1 ⟨re, im, rfl, hre, him, hb1⟩; obtain ⟨q1, e1, g1⟩ := fl_quarter (HD.out 3 (by omega) re im hre him).1 (HC.out 3 (by omega)).1; obtain ⟨q2, e2, g2⟩ := fl_quarter (HD.out 3 (by omega) re im hre him).2 (HC.out 3 (by omega)).2; have hq1 := fun W : World => run_float_arith (P := Try.prog) W .quo 38 .f64 _ _ _ e1; have hq2 := fun W : World => run_float_arith (P := Try.prog) W .quo 38 .f64 _ _ _ e2; have F1 := Lib.hid g1; have F2 := Lib.hid g2; have h0' := Lib.hid (blk_below h0.out hb1); have h1' := Lib.hid (blk_below h1.out hb1); have h2' := Lib.hid (blk_below h2.out hb1); have hbw' := Lib.hid (below_two hbw.out hb1); have hcell : w1.cell? ⟨w.heap.size + 1 + 1, 3, none⟩ = some (fillC r i 3 3) := blk_cell h2'.out 3; have hfree : w1.frozen? ⟨w.heap.size + 1 + 1, 3, none⟩ = false := blk_frozen h2'.out 3; clear hre him hb1 e1 e2 g1 g2))
      go_roundw
      case rel =>
        refine ⟨4, 4, upd r 3 q1, upd i 3 q2, by omega, rfl, rfl, ?_, blk_far h0'.out (by simp only [ne_eq]; omega) _, blk_far h1'.out (by simp only [ne_eq]; omega) _, blk_put h2'.out 3 _ rfl, hbw'.out.setCell (by simp; omega) _⟩
        intro j hj
        by_cases hjk : j = 3
        · subst hjk; exact ⟨F1.out, F2.out⟩
        · have := hf.out j (by omega)
          simp only [upd, if_neg hjk]
          exact this
      case measure => simp [intOf]
    · obtain rfl : kz = 4 := hz.out
      have h2f : Hid (wr.heap[w.heap.size + 1 + 1]? = some (.cells #[.complex .f64 (r 0) (i 0), .complex .f64 (r 1) (i 1), .complex .f64 (r 2) (i 2), .complex .f64 (r 3) (i 3)] 31 (0, 0))) := h2.out
      go_wp2_with (first | (refine wpList_load_row rfl 31 (.tmp 3) rfl (w.heap.size + 1 + 1) rfl 31 #[.complex .f64 (r 0) (i 0), .complex .f64 (r 1) (i 1), .complex .f64 (r 2) (i 2), .complex .f64 (r 3) (i 3)] (0, 0) (.array 4 23) h2f.out Try.underlying31 rfl (by kernel_rfl) ?_) | (refine wpList_store_row rfl 31 (.tmp 2) (.tmp 22) rfl (w.heap.size + 1) #[.complex .f64 (r 0) (i 0), .complex .f64 (r 1) (i 1), .complex .f64 (r 2) (i 2), .complex .f64 (r 3) (i 3)] rfl rfl 31 _ h1.out (by kernel_rfl) rfl (by simp [Value.oneCell']) ?_))
      exact bodyPost_ret (results_cell_row (by rfl) _ _ (w.heap.size + 1) 31 _ (0, 0) (.array 4 23) rfl (setRow_heap _ _ _ _ _ _ h1.out) Try.underlying31 rfl (by kernel_rfl)) rfl ⟨r, i, rfl, hf.out, below_setRow hbw.out (by omega) _⟩
end Go.Proofs.Ytehjjjdelpbkpaa
