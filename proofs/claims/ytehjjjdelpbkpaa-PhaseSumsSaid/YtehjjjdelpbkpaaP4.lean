/-
  Package phase: four numbers cut to a size, as both.
-/
import Derived.Test.YtehjjjdelpbkpaaP3
import Derived.Deep.MidRow
import Derived.Deep.RegionHeld3
namespace Go.Proofs.Ytehjjjdelpbkpaa
open Go.RowKit Go.Proofs.YtehjjjdelpbkpaaW.PrintWords
open F
attribute [local go_sem] run_store_complex
/-- What has been cut among the first k. -/
def cutC (x : Nat → Int) (M : Int) (k j : Nat) : Value := .int .i64 (if j < k then (x j).tmod M else x j)
/-- Four pairs as an array. -/
def row8 (x y : Nat → Int) : Array Value := #[.int .i64 (x 0), .int .i64 (y 0), .int .i64 (x 1), .int .i64 (y 1), .int .i64 (x 2), .int .i64 (y 2), .int .i64 (x 3), .int .i64 (y 3)]
def arr8 (x y : Nat → Int) : Value := .agg (row8 x y)
theorem tmod_lt (a : Int) (M : Nat) (h : 0 < M) : (a.tmod M).natAbs < M := by
  have := Int.tmod_lt_of_pos a (b := M) (by omega)
  have h2 : -(M : Int) < a.tmod M := by
    have := Int.tmod_lt_of_pos (-a) (b := M) (by omega)
    rw [Int.neg_tmod] at this
    omega
  omega
theorem blk_at {w : World} {g : Nat} {o : Obj} (h : w.heap.size = g) : (w.alloc o).heap[g]? = some o := by subst h; exact blk_new _ _
theorem results_rows {P : Program} {fn : Func} {p q : Tmp} {ty uy : TypeId} (h : fn.results = #[.cell p ty, .cell q uy]) (tmps : Array Value) (w : World) (g g' : Nat) (cs cs' : Array Value) (d d' : TypeDesc)
    (hp : tmps.getD p undef = .pointer (some ⟨g, 0, none⟩)) (hq : tmps.getD q undef = .pointer (some ⟨g', 0, none⟩)) (hg : w.heap[g]? = some (.cells cs ty (0, 0))) (hg' : w.heap[g']? = some (.cells cs' uy (0, 0)))
    (hu : P.underlying ty = some d) (hu' : P.underlying uy = some d') (hd : (match d with | .struct _ | .array _ _ => true | _ => false) = true) (hd' : (match d' with | .struct _ | .array _ _ => true | _ => false) = true) (hi : (P.info? ty).map (·.size) = some cs.size) (hi' : (P.info? uy).map (·.size) = some cs'.size) :
    (results fn tmps).run P w = .ok (.tuple #[.agg cs, .agg cs']) w := by
  have hp' : tmps[p]?.getD undef = .pointer (some ⟨g, 0, none⟩) := by simpa using hp
  have hq' : tmps[q]?.getD undef = .pointer (some ⟨g', 0, none⟩) := by simpa using hq
  simp [results, h, hp', hq', asAddr, Sem.run_bind, run_loadVar_row w g ty ty cs (0, 0) d hg hu hd hi, run_loadVar_row w g' uy uy cs' (0, 0) d' hg' hu' hd' hi']
theorem row_far {w : World} {g g' : Nat} {o : Obj} (h : w.heap[g]? = some o) (hne : g ≠ g') (cs : Array Value) : (w.setRow g' cs).heap[g]? = some o := by
  simpa [World.setRow, Array.getElem?_modify, Ne.symm hne] using h
theorem wpOp_of {P : Program} {ops : Array Oper} {Q : Exit → Act → World → Prop} {i : Nat} {K : Act → World → Prop} {a : Act} {w : World} {o : Oper} (hi : ops[i]? = some o) (hw : Region.wanted o (yielded ops a.tmps) = true) (h : o.wp P a w K Q) : wpOp P ops Q i K a w := by
  unfold wpOp
  rw [hi]
  simp only [hw, if_true]
  exact .inl h
set_option maxHeartbeats 2000000 in
theorem four36_any (x y : Nat → Int) (w : World) :
    Calls Try.prog 16 #[arr8 x y, .int .u64 36] w fun e w' => ∃ a b : Nat → Nat, e = .returned (.tuple #[arr8 (fun j => (x j).tmod 68719476736) (fun j => (y j).tmod 68719476736), arr4 a b]) ∧ (∀ k, k < 4 → Fl (a k) ((x k).tmod 68719476736) ∧ Fl (b k) ((y k).tmod 68719476736)) ∧ Below w.heap.size w w' := by
  unfold arr8 row8
  generalize hX0 : Value.int .i64 (x 0) = X0
  go_enter Try.func16, Try.ntmps16
  subst hX0
  go_wp2
  go_loopw [8, 11] (fun v8 v11 wr => ∃ (k : Nat) (kz : Int) (r i : Nat → Nat), k ≤ 4 ∧ Hid (kz = k) ∧ v11 = .int .i64 kz ∧ Hid (∀ j, j < k → Fl (r j) ((x j).tmod 68719476736) ∧ Fl (i j) ((y j).tmod 68719476736)) ∧
      Hid (wr.heap[w.heap.size]? = some (.cells #[cutC x 68719476736 k 0, cutC y 68719476736 k 0, cutC x 68719476736 k 1, cutC y 68719476736 k 1, cutC x 68719476736 k 2, cutC y 68719476736 k 2, cutC x 68719476736 k 3, cutC y 68719476736 k 3] 30 (0, 0))) ∧ 
      Hid (wr.heap[w.heap.size + 1]? = some (.cells #[.int .i64 0, .int .i64 0, .int .i64 0, .int .i64 0, .int .i64 0, .int .i64 0, .int .i64 0, .int .i64 0] 30 (0, 0))) ∧ Hid (wr.heap[w.heap.size + 1 + 1]? = some (.cells #[.complex .f64 0 0, .complex .f64 0 0, .complex .f64 0 0, .complex .f64 0 0] 31 (0, 0))) ∧
      Hid (wr.heap[w.heap.size + 1 + 1 + 1]? = some (.cells #[fillC r i k 0, fillC r i k 1, fillC r i k 2, fillC r i k 3] 31 (0, 0))) ∧ Hid (Below w.heap.size w wr)) (fun _ v11 _ => 4 - (intOf v11).toNat)
  case atStart =>
    refine ⟨0, 0, fun _ => 0, fun _ => 0, by omega, rfl, rfl, fun j hj => absurd hj (by omega), blk_keep (blk_keep (blk_keep (blk_new _ _) _) _) _, ?_, ?_, ?_, below_more (below_more (below_more (below_one _ _) _) _) _⟩
    · exact blk_keep (blk_keep (blk_at (by simp)) _) _
    · exact blk_keep (blk_at (by simp)) _
    · exact blk_at (by simp)
  case round =>
    obtain ⟨k, kz, r, i, hk, hz, rfl, hf, h0, h1, h2, h3, hbw⟩ := hrel
    have hkk : k = 0 ∨ k = 1 ∨ k = 2 ∨ k = 3 ∨ k = 4 := by omega
    rcases hkk with rfl | rfl | rfl | rfl | rfl
    · obtain rfl : kz = 0 := hz.out
      have hcr : wr.cell? ⟨w.heap.size, 0, none⟩ = some (.int .i64 (x 0)) := blk_cell h0.out 0
      have hci : wr.cell? ⟨w.heap.size, 1, none⟩ = some (.int .i64 (y 0)) := blk_cell h0.out 1
      have hfr : wr.frozen? ⟨w.heap.size, 0, none⟩ = false := blk_frozen h0.out 0
      have hfi : wr.frozen? ⟨w.heap.size, 1, none⟩ = false := blk_frozen h0.out 1
      go_wp2_with (go_at_call 27; (refine (Of_any _ _ _).mono ?_); rintro e w1 ⟨rfl, hb1⟩; have h0' := Lib.hid (blk_below (blk_put (blk_put h0.out 0 (.int .i64 ((x 0).tmod 68719476736)) rfl) 1 (.int .i64 ((y 0).tmod 68719476736)) rfl) hb1); have h1' := Lib.hid (blk_below (blk_far (blk_far h1.out (p := ⟨w.heap.size, 0, none⟩) (by simp only [ne_eq]; omega) _) (p := ⟨w.heap.size, 1, none⟩) (by simp only [ne_eq]; omega) _) hb1); have h2' := Lib.hid (blk_below (blk_far (blk_far h2.out (p := ⟨w.heap.size, 0, none⟩) (by simp only [ne_eq]; omega) _) (p := ⟨w.heap.size, 1, none⟩) (by simp only [ne_eq]; omega) _) hb1); have h3' := Lib.hid (blk_below (blk_far (blk_far h3.out (p := ⟨w.heap.size, 0, none⟩) (by simp only [ne_eq]; omega) _) (p := ⟨w.heap.size, 1, none⟩) (by simp only [ne_eq]; omega) _) hb1); have hbw' := Lib.hid (below_two ((hbw.out.setCell (p := ⟨w.heap.size, 0, none⟩) (by simp) _).setCell (p := ⟨w.heap.size, 1, none⟩) (by simp) _) hb1); have hcell : w1.cell? ⟨w.heap.size + 1 + 1 + 1, 0, none⟩ = some (fillC r i 0 0) := blk_cell h3'.out 0; have hfree : w1.frozen? ⟨w.heap.size + 1 + 1 + 1, 0, none⟩ = false := blk_frozen h3'.out 0; clear hb1)
      go_roundw
      case rel =>
        refine ⟨1, 1, upd r 0 _, upd i 0 _, by omega, rfl, rfl, ?_, blk_far h0'.out (by simp only [ne_eq]; omega) _, blk_far h1'.out (by simp only [ne_eq]; omega) _, blk_far h2'.out (by simp only [ne_eq]; omega) _, blk_put h3'.out 0 _ rfl, hbw'.out.setCell (by simp; omega) _⟩
        intro j hj
        by_cases hjk : j = 0
        · subst hjk
          exact ⟨fl_int (Nat.lt_trans (tmod_lt _ 68719476736 (by omega)) (by omega)), fl_int (Nat.lt_trans (tmod_lt _ 68719476736 (by omega)) (by omega))⟩
        · have := hf.out j (by omega)
          simp only [upd, if_neg hjk]
          exact this
      case measure => simp [intOf]
    · obtain rfl : kz = 1 := hz.out
      have hcr : wr.cell? ⟨w.heap.size, 2, none⟩ = some (.int .i64 (x 1)) := blk_cell h0.out 2
      have hci : wr.cell? ⟨w.heap.size, 3, none⟩ = some (.int .i64 (y 1)) := blk_cell h0.out 3
      have hfr : wr.frozen? ⟨w.heap.size, 2, none⟩ = false := blk_frozen h0.out 2
      have hfi : wr.frozen? ⟨w.heap.size, 3, none⟩ = false := blk_frozen h0.out 3
      go_wp2_with (go_at_call 27; (refine (Of_any _ _ _).mono ?_); rintro e w1 ⟨rfl, hb1⟩; have h0' := Lib.hid (blk_below (blk_put (blk_put h0.out 2 (.int .i64 ((x 1).tmod 68719476736)) rfl) 3 (.int .i64 ((y 1).tmod 68719476736)) rfl) hb1); have h1' := Lib.hid (blk_below (blk_far (blk_far h1.out (p := ⟨w.heap.size, 2, none⟩) (by simp only [ne_eq]; omega) _) (p := ⟨w.heap.size, 3, none⟩) (by simp only [ne_eq]; omega) _) hb1); have h2' := Lib.hid (blk_below (blk_far (blk_far h2.out (p := ⟨w.heap.size, 2, none⟩) (by simp only [ne_eq]; omega) _) (p := ⟨w.heap.size, 3, none⟩) (by simp only [ne_eq]; omega) _) hb1); have h3' := Lib.hid (blk_below (blk_far (blk_far h3.out (p := ⟨w.heap.size, 2, none⟩) (by simp only [ne_eq]; omega) _) (p := ⟨w.heap.size, 3, none⟩) (by simp only [ne_eq]; omega) _) hb1); have hbw' := Lib.hid (below_two ((hbw.out.setCell (p := ⟨w.heap.size, 2, none⟩) (by simp) _).setCell (p := ⟨w.heap.size, 3, none⟩) (by simp) _) hb1); have hcell : w1.cell? ⟨w.heap.size + 1 + 1 + 1, 1, none⟩ = some (fillC r i 1 1) := blk_cell h3'.out 1; have hfree : w1.frozen? ⟨w.heap.size + 1 + 1 + 1, 1, none⟩ = false := blk_frozen h3'.out 1; clear hb1)
      go_roundw
      case rel =>
        refine ⟨2, 2, upd r 1 _, upd i 1 _, by omega, rfl, rfl, ?_, blk_far h0'.out (by simp only [ne_eq]; omega) _, blk_far h1'.out (by simp only [ne_eq]; omega) _, blk_far h2'.out (by simp only [ne_eq]; omega) _, blk_put h3'.out 1 _ rfl, hbw'.out.setCell (by simp; omega) _⟩
        intro j hj
        by_cases hjk : j = 1
        · subst hjk
          exact ⟨fl_int (Nat.lt_trans (tmod_lt _ 68719476736 (by omega)) (by omega)), fl_int (Nat.lt_trans (tmod_lt _ 68719476736 (by omega)) (by omega))⟩
        · have := hf.out j (by omega)
          simp only [upd, if_neg hjk]
          exact this
      case measure => simp [intOf]
    · obtain rfl : kz = 2 := hz.out
      have hcr : wr.cell? ⟨w.heap.size, 4, none⟩ = some (.int .i64 (x 2)) := blk_cell h0.out 4
      have hci : wr.cell? ⟨w.heap.size, 5, none⟩ = some (.int .i64 (y 2)) := blk_cell h0.out 5
      have hfr : wr.frozen? ⟨w.heap.size, 4, none⟩ = false := blk_frozen h0.out 4
      have hfi : wr.frozen? ⟨w.heap.size, 5, none⟩ = false := blk_frozen h0.out 5
      go_wp2_with (go_at_call 27; (refine (Of_any _ _ _).mono ?_); rintro e w1 ⟨rfl, hb1⟩; have h0' := Lib.hid (blk_below (blk_put (blk_put h0.out 4 (.int .i64 ((x 2).tmod 68719476736)) rfl) 5 (.int .i64 ((y 2).tmod 68719476736)) rfl) hb1); have h1' := Lib.hid (blk_below (blk_far (blk_far h1.out (p := ⟨w.heap.size, 4, none⟩) (by simp only [ne_eq]; omega) _) (p := ⟨w.heap.size, 5, none⟩) (by simp only [ne_eq]; omega) _) hb1); have h2' := Lib.hid (blk_below (blk_far (blk_far h2.out (p := ⟨w.heap.size, 4, none⟩) (by simp only [ne_eq]; omega) _) (p := ⟨w.heap.size, 5, none⟩) (by simp only [ne_eq]; omega) _) hb1); have h3' := Lib.hid (blk_below (blk_far (blk_far h3.out (p := ⟨w.heap.size, 4, none⟩) (by simp only [ne_eq]; omega) _) (p := ⟨w.heap.size, 5, none⟩) (by simp only [ne_eq]; omega) _) hb1); have hbw' := Lib.hid (below_two ((hbw.out.setCell (p := ⟨w.heap.size, 4, none⟩) (by simp) _).setCell (p := ⟨w.heap.size, 5, none⟩) (by simp) _) hb1); have hcell : w1.cell? ⟨w.heap.size + 1 + 1 + 1, 2, none⟩ = some (fillC r i 2 2) := blk_cell h3'.out 2; have hfree : w1.frozen? ⟨w.heap.size + 1 + 1 + 1, 2, none⟩ = false := blk_frozen h3'.out 2; clear hb1)
      go_roundw
      case rel =>
        refine ⟨3, 3, upd r 2 _, upd i 2 _, by omega, rfl, rfl, ?_, blk_far h0'.out (by simp only [ne_eq]; omega) _, blk_far h1'.out (by simp only [ne_eq]; omega) _, blk_far h2'.out (by simp only [ne_eq]; omega) _, blk_put h3'.out 2 _ rfl, hbw'.out.setCell (by simp; omega) _⟩
        intro j hj
        by_cases hjk : j = 2
        · subst hjk
          exact ⟨fl_int (Nat.lt_trans (tmod_lt _ 68719476736 (by omega)) (by omega)), fl_int (Nat.lt_trans (tmod_lt _ 68719476736 (by omega)) (by omega))⟩
        · have := hf.out j (by omega)
          simp only [upd, if_neg hjk]
          exact this
      case measure => simp [intOf]
    · obtain rfl : kz = 3 := hz.out
      have hcr : wr.cell? ⟨w.heap.size, 6, none⟩ = some (.int .i64 (x 3)) := blk_cell h0.out 6
      have hci : wr.cell? ⟨w.heap.size, 7, none⟩ = some (.int .i64 (y 3)) := blk_cell h0.out 7
      have hfr : wr.frozen? ⟨w.heap.size, 6, none⟩ = false := blk_frozen h0.out 6
      have hfi : wr.frozen? ⟨w.heap.size, 7, none⟩ = false := blk_frozen h0.out 7
      go_wp2_with (go_at_call 27; (refine (Of_any _ _ _).mono ?_); rintro e w1 ⟨rfl, hb1⟩; have h0' := Lib.hid (blk_below (blk_put (blk_put h0.out 6 (.int .i64 ((x 3).tmod 68719476736)) rfl) 7 (.int .i64 ((y 3).tmod 68719476736)) rfl) hb1); have h1' := Lib.hid (blk_below (blk_far (blk_far h1.out (p := ⟨w.heap.size, 6, none⟩) (by simp only [ne_eq]; omega) _) (p := ⟨w.heap.size, 7, none⟩) (by simp only [ne_eq]; omega) _) hb1); have h2' := Lib.hid (blk_below (blk_far (blk_far h2.out (p := ⟨w.heap.size, 6, none⟩) (by simp only [ne_eq]; omega) _) (p := ⟨w.heap.size, 7, none⟩) (by simp only [ne_eq]; omega) _) hb1); have h3' := Lib.hid (blk_below (blk_far (blk_far h3.out (p := ⟨w.heap.size, 6, none⟩) (by simp only [ne_eq]; omega) _) (p := ⟨w.heap.size, 7, none⟩) (by simp only [ne_eq]; omega) _) hb1); have hbw' := Lib.hid (below_two ((hbw.out.setCell (p := ⟨w.heap.size, 6, none⟩) (by simp) _).setCell (p := ⟨w.heap.size, 7, none⟩) (by simp) _) hb1); have hcell : w1.cell? ⟨w.heap.size + 1 + 1 + 1, 3, none⟩ = some (fillC r i 3 3) := blk_cell h3'.out 3; have hfree : w1.frozen? ⟨w.heap.size + 1 + 1 + 1, 3, none⟩ = false := blk_frozen h3'.out 3; clear hb1)
      go_roundw
      case rel =>
        refine ⟨4, 4, upd r 3 _, upd i 3 _, by omega, rfl, rfl, ?_, blk_far h0'.out (by simp only [ne_eq]; omega) _, blk_far h1'.out (by simp only [ne_eq]; omega) _, blk_far h2'.out (by simp only [ne_eq]; omega) _, blk_put h3'.out 3 _ rfl, hbw'.out.setCell (by simp; omega) _⟩
        intro j hj
        by_cases hjk : j = 3
        · subst hjk
          exact ⟨fl_int (Nat.lt_trans (tmod_lt _ 68719476736 (by omega)) (by omega)), fl_int (Nat.lt_trans (tmod_lt _ 68719476736 (by omega)) (by omega))⟩
        · have := hf.out j (by omega)
          simp only [upd, if_neg hjk]
          exact this
      case measure => simp [intOf]
    · obtain rfl : kz = 4 := hz.out
      have H0 : wr.drew.heap[w.heap.size]? = some (.cells (row8 (fun j => (x j).tmod 68719476736) (fun j => (y j).tmod 68719476736)) 30 (0, 0)) := h0.out
      have H3 : wr.drew.heap[w.heap.size + 1 + 1 + 1]? = some (.cells #[.complex .f64 (r 0) (i 0), .complex .f64 (r 1) (i 1), .complex .f64 (r 2) (i 2), .complex .f64 (r 3) (i 3)] 31 (0, 0)) := h3.out
      generalize hA : row8 (fun j => (x j).tmod 68719476736) (fun j => (y j).tmod 68719476736) = A at H0
      generalize hB : (#[.complex .f64 (r 0) (i 0), .complex .f64 (r 1) (i 1), .complex .f64 (r 2) (i 2), .complex .f64 (r 3) (i 3)] : Array Value) = B at H3
      have a1 : A.size = 8 := by subst hA; rfl
      have a2 : A.all (·.oneCell') = true := by subst hA; simp [row8, Value.oneCell']
      have b1 : B.size = 4 := by subst hB; rfl
      have b2 : B.all (·.oneCell') = true := by subst hB; simp [Value.oneCell']
      have H1 : wr.drew.heap[w.heap.size + 1]? = _ := h1.out
      have H2 : (wr.drew.setRow (w.heap.size + 1) A).heap[w.heap.size + 1 + 1]? = _ := row_far h2.out (by omega) A
      have i1 : (Try.prog.info? 30).map (·.size) = some A.size := by rw [a1]; kernel_rfl
      have i2 : (Try.prog.info? 31).map (·.size) = some B.size := by rw [b1]; kernel_rfl
      have R1 : ((wr.drew.setRow (w.heap.size + 1) A).setRow (w.heap.size + 1 + 1) B).heap[w.heap.size + 1]? = some (.cells A 30 (0, 0)) := row_far (setRow_heap _ _ _ _ _ _ H1) (by omega) _
      have R2 : ((wr.drew.setRow (w.heap.size + 1) A).setRow (w.heap.size + 1 + 1) B).heap[w.heap.size + 1 + 1]? = some (.cells B 31 (0, 0)) := setRow_heap _ _ _ _ _ _ H2
      have HBel : Below w.heap.size w ((wr.drew.setRow (w.heap.size + 1) A).setRow (w.heap.size + 1 + 1) B) := below_setRow (below_setRow hbw.out.drew (by omega) _) (by omega) _
      have hfin : arr8 (fun j => (x j).tmod 68719476736) (fun j => (y j).tmod 68719476736) = .agg A ∧ arr4 r i = .agg B := ⟨by rw [← hA]; rfl, by rw [← hB]; rfl⟩
      have HF := hf.out
      clear h0 h1 h2 h3 hbw hA hB hf hz
      go_wp2
      refine wp_region_any (by kernel_rfl) ?_
      refine wpAny_all (rs := [0, 1]) (by kernel_rfl) (by decide) ?_; intro i' hi'; simp only [List.mem_cons, List.mem_nil_iff, or_false] at hi'
      rcases hi' with rfl | rfl
      · refine wpOp_of rfl (by rfl) (wp_load_row 30 (.tmp 2) rfl w.heap.size rfl 30 A (0, 0) (.array 4 26) H0 Try.underlying30 rfl i1 ?_)
        refine wpAny_all (rs := [1, 2]) (by kernel_rfl) (by decide) ?_; intro i' hi'; simp only [List.mem_cons, List.mem_nil_iff, or_false] at hi'
        rcases hi' with rfl | rfl
        · refine wpOp_of rfl (by rfl) (wp_load_row 31 (.tmp 6) rfl (w.heap.size + 1 + 1 + 1) rfl 31 B (0, 0) (.array 4 23) H3 Try.underlying31 rfl i2 ?_)
          refine wpAny_all (rs := [2]) (by kernel_rfl) (by decide) ?_; intro i' hi'; simp only [List.mem_cons, List.mem_nil_iff, or_false] at hi'
          subst hi'
          refine wpOp_of rfl (by rfl) (wp_store_row 30 (.tmp 4) (.tmp 37) rfl (w.heap.size + 1) A rfl rfl 30 _ H1 i1 (by rw [a1]; rfl) a2 ?_)
          refine wpAny_all (rs := [3]) (by kernel_rfl) (by decide) ?_; intro i' hi'; simp only [List.mem_cons, List.mem_nil_iff, or_false] at hi'
          subst hi'
          refine wpOp_of rfl (by rfl) (wp_store_row 31 (.tmp 5) (.tmp 38) rfl (w.heap.size + 1 + 1) B rfl rfl 31 _ H2 i2 (by rw [b1]; rfl) b2 ?_)
          refine wpAny_done (by kernel_rfl) ?_ _; go_wp2; exact bodyPost_ret (results_rows (by rfl) _ _ (w.heap.size + 1) (w.heap.size + 1 + 1) A B (.array 4 26) (.array 4 23) rfl rfl R1 R2 Try.underlying30 Try.underlying31 rfl rfl i1 i2) rfl ⟨r, i, by rw [← hfin.1, ← hfin.2]; rfl, HF, HBel⟩
        · refine wpOp_of rfl (by rfl) (wp_store_row 30 (.tmp 4) (.tmp 37) rfl (w.heap.size + 1) A rfl rfl 30 _ H1 i1 (by rw [a1]; rfl) a2 ?_)
          refine wpAny_all (rs := [1]) (by kernel_rfl) (by decide) ?_; intro i' hi'; simp only [List.mem_cons, List.mem_nil_iff, or_false] at hi'
          subst hi'
          refine wpOp_of rfl (by rfl) (wp_load_row 31 (.tmp 6) rfl (w.heap.size + 1 + 1 + 1) rfl 31 B (0, 0) (.array 4 23) (row_far H3 (by omega) A) Try.underlying31 rfl i2 ?_)
          refine wpAny_all (rs := [3]) (by kernel_rfl) (by decide) ?_; intro i' hi'; simp only [List.mem_cons, List.mem_nil_iff, or_false] at hi'
          subst hi'
          refine wpOp_of rfl (by rfl) (wp_store_row 31 (.tmp 5) (.tmp 38) rfl (w.heap.size + 1 + 1) B rfl rfl 31 _ H2 i2 (by rw [b1]; rfl) b2 ?_)
          refine wpAny_done (by kernel_rfl) ?_ _; go_wp2; exact bodyPost_ret (results_rows (by rfl) _ _ (w.heap.size + 1) (w.heap.size + 1 + 1) A B (.array 4 26) (.array 4 23) rfl rfl R1 R2 Try.underlying30 Try.underlying31 rfl rfl i1 i2) rfl ⟨r, i, by rw [← hfin.1, ← hfin.2]; rfl, HF, HBel⟩
      · refine wpOp_of rfl (by rfl) (wp_load_row 31 (.tmp 6) rfl (w.heap.size + 1 + 1 + 1) rfl 31 B (0, 0) (.array 4 23) H3 Try.underlying31 rfl i2 ?_)
        refine wpAny_all (rs := [0]) (by kernel_rfl) (by decide) ?_; intro i' hi'; simp only [List.mem_cons, List.mem_nil_iff, or_false] at hi'
        subst hi'
        refine wpOp_of rfl (by rfl) (wp_load_row 30 (.tmp 2) rfl w.heap.size rfl 30 A (0, 0) (.array 4 26) H0 Try.underlying30 rfl i1 ?_)
        refine wpAny_all (rs := [2]) (by kernel_rfl) (by decide) ?_; intro i' hi'; simp only [List.mem_cons, List.mem_nil_iff, or_false] at hi'
        subst hi'
        refine wpOp_of rfl (by rfl) (wp_store_row 30 (.tmp 4) (.tmp 37) rfl (w.heap.size + 1) A rfl rfl 30 _ H1 i1 (by rw [a1]; rfl) a2 ?_)
        refine wpAny_all (rs := [3]) (by kernel_rfl) (by decide) ?_; intro i' hi'; simp only [List.mem_cons, List.mem_nil_iff, or_false] at hi'
        subst hi'
        refine wpOp_of rfl (by rfl) (wp_store_row 31 (.tmp 5) (.tmp 38) rfl (w.heap.size + 1 + 1) B rfl rfl 31 _ H2 i2 (by rw [b1]; rfl) b2 ?_)
        refine wpAny_done (by kernel_rfl) ?_ _; go_wp2; exact bodyPost_ret (results_rows (by rfl) _ _ (w.heap.size + 1) (w.heap.size + 1 + 1) A B (.array 4 26) (.array 4 23) rfl rfl R1 R2 Try.underlying30 Try.underlying31 rfl rfl i1 i2) rfl ⟨r, i, by rw [← hfin.1, ← hfin.2]; rfl, HF, HBel⟩
end Go.Proofs.Ytehjjjdelpbkpaa
