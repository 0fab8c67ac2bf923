/-
  The four sums: the law's walk, and its row.
-/
import Derived.Test.YtehjjjdelpbkpaaP9
import Derived.Test.YtehjjjdelpbkpaaPB
namespace Go.Proofs.Ytehjjjdelpbkpaa
open Go.RowKit Go Go.Proofs.YtehjjjdelpbkpaaW.PrintWords
open F
def cutM (M : Int) (x : Nat → Int) (j : Nat) : Int := (x j).tmod M
/-- What 'four' gives, and what its waves are. -/
theorem four_waves (x y : Nat → Int) (w : World) : Calls Try.prog 16 #[.agg (row8 x y), .int .u64 36] w fun e w' => ∃ c0 c1 c2 c3 : Value, e = .returned (.tuple #[.agg (row8 (cutM 68719476736 x) (cutM 68719476736 y)), .agg #[c0, c1, c2, c3]]) ∧ (c0.oneCell' = true ∧ c1.oneCell' = true ∧ c2.oneCell' = true ∧ c3.oneCell' = true) ∧
    (∀ w, Calls Try.prog 17 #[.agg #[c0, c1, c2, c3]] w fun e w' => ∃ r i : Nat → Nat, e = .returned (arr4 r i) ∧ (∀ k, k < 4 → Fl (r k) (Sr (cutM 68719476736 x) (cutM 68719476736 y) (-(k : Int)) 4) ∧ Fl (i k) (Si (cutM 68719476736 x) (cutM 68719476736 y) (-(k : Int)) 4)) ∧ Below w.heap.size w w') ∧ Below w.heap.size w w' :=
  (four36_any x y w).mono fun e w' ⟨a, b, h1, h2, h3⟩ => ⟨_, _, _, _, h1, ⟨rfl, rfl, rfl, rfl⟩, fun w => Forth_any a b _ _ 68719476736 (by omega) (fun j hj => (h2 j hj).1) (fun j hj => (h2 j hj).2) (fun j _ => Nat.le_of_lt (tmod_lt (x j) 68719476736 (by omega))) (fun j _ => Nat.le_of_lt (tmod_lt (y j) 68719476736 (by omega))) w, h3⟩
theorem i8x0 (a b c d e f g h : Value) (W : World) : (Instr.index 30 (.agg #[a, b, c, d, e, f, g, h]) (.int .i64 0)).run Try.prog W = .ok (.agg #[a, b]) W := by kernel_rfl
theorem i8x1 (a b c d e f g h : Value) (W : World) : (Instr.index 30 (.agg #[a, b, c, d, e, f, g, h]) (.int .i64 1)).run Try.prog W = .ok (.agg #[c, d]) W := by kernel_rfl
theorem i8x2 (a b c d e f g h : Value) (W : World) : (Instr.index 30 (.agg #[a, b, c, d, e, f, g, h]) (.int .i64 2)).run Try.prog W = .ok (.agg #[e, f]) W := by kernel_rfl
theorem i8x3 (a b c d e f g h : Value) (W : World) : (Instr.index 30 (.agg #[a, b, c, d, e, f, g, h]) (.int .i64 3)).run Try.prog W = .ok (.agg #[g, h]) W := by kernel_rfl
theorem row8_idx (X Y : Nat → Int) (k : Nat) (hk : k < 4) (W : World) : (Instr.index 30 (.agg (row8 X Y)) (.int .i64 (k : Int))).run Try.prog W = .ok (.agg #[.int .i64 (X k), .int .i64 (Y k)]) W := by
  match k, hk with
  | 0, _ => exact i8x0 _ _ _ _ _ _ _ _ W
  | 1, _ => exact i8x1 _ _ _ _ _ _ _ _ W
  | 2, _ => exact i8x2 _ _ _ _ _ _ _ _ W
  | 3, _ => exact i8x3 _ _ _ _ _ _ _ _ W
theorem ri_at (r i : Nat → Nat) (k : Nat) (hk : k < 4) : (#[.complex .f64 (r 0) (i 0), .complex .f64 (r 1) (i 1), .complex .f64 (r 2) (i 2), .complex .f64 (r 3) (i 3)] : Array Value)[k]? = some (.complex .f64 (r k) (i k)) := by
  have h4 : k = 0 ∨ k = 1 ∨ k = 2 ∨ k = 3 := by omega
  rcases h4 with rfl | rfl | rfl | rfl <;> rfl
set_option maxHeartbeats 4000000 in
theorem PhaseForth_any (x y : Nat → Int) (w : World) : Calls Try.prog 4 #[arr8 x y] w fun e w' => e = .returned (.bool true) ∧ Below w.heap.size w w' := by
  have HF := Lib.hid (four_waves x y)
  have a1 := r8_size x y
  unfold arr8
  generalize row8 x y = A8 at HF a1
  have hXb : ∀ j, j < 4 → (cutM 68719476736 x j).natAbs ≤ 68719476736 := fun j _ => Nat.le_of_lt (tmod_lt (x j) 68719476736 (by omega))
  have hYb : ∀ j, j < 4 → (cutM 68719476736 y j).natAbs ≤ 68719476736 := fun j _ => Nat.le_of_lt (tmod_lt (y j) 68719476736 (by omega))
  generalize cutM 68719476736 x = X at HF hXb
  generalize cutM 68719476736 y = Y at HF hYb
  have HXb : Hid (∀ j, j < 4 → (X j).natAbs ≤ 68719476736) := hXb
  have HYb : Hid (∀ j, j < 4 → (Y j).natAbs ≤ 68719476736) := hYb
  have HRF := Lib.hid (rForth_any X Y (fun j hj => by have := hXb j hj; omega) (fun j hj => by have := hYb j hj; omega))
  have HZ : Hid (∀ k : Nat, k < 4 → (Sr X Y (-(k : Int)) 4).natAbs < 9007199254740992 ∧ (Si X Y (-(k : Int)) 4).natAbs < 9007199254740992) := fun k _ => ⟨Nat.lt_of_le_of_lt (Sr_abs X Y _ 68719476736 HXb.out HYb.out 4 (by omega)) (by omega), Nat.lt_of_le_of_lt (Si_abs X Y _ 68719476736 HXb.out HYb.out 4 (by omega)) (by omega)⟩
  clear hXb hYb
  have b1 := r8_size X Y
  have b2 := Lib.hid (r8_one X Y)
  unfold arr8 at HRF
  generalize hP : (fun k : Nat => Sr X Y (-(k : Int)) 4) = P at HRF
  generalize hQ : (fun k : Nat => Si X Y (-(k : Int)) 4) = Q at HRF
  have HFW : Hid (∀ w, Calls Try.prog 16 #[.agg A8, .int .u64 36] w fun e w' => ∃ c0 c1 c2 c3 : Value, e = .returned (.tuple #[.agg (row8 X Y), .agg #[c0, c1, c2, c3]]) ∧ (c0.oneCell' = true ∧ c1.oneCell' = true ∧ c2.oneCell' = true ∧ c3.oneCell' = true) ∧
    (∀ w, Calls Try.prog 17 #[.agg #[c0, c1, c2, c3]] w fun e w' => ∃ r i : Nat → Nat, e = .returned (arr4 r i) ∧ (∀ k, k < 4 → Fl (r k) (P k) ∧ Fl (i k) (Q k)) ∧ Below w.heap.size w w') ∧ Below w.heap.size w w') := by rw [← hP, ← hQ]; exact HF
  have HZP : Hid (∀ k : Nat, k < 4 → (P k).natAbs < 9007199254740992 ∧ (Q k).natAbs < 9007199254740992) := by rw [← hP, ← hQ]; exact HZ
  clear hP hQ HF HZ HXb HYb
  have HIX := Lib.hid (row8_idx P Q)
  generalize row8 X Y = B8 at HFW b1 b2 HRF
  generalize row8 P Q = C8 at HRF HIX
  unfold arr4 at HFW
  have tok1 : True := trivial
  have tok2 : True := trivial
  have tok3 : True := trivial
  have tok4 : True := trivial
  have tok5 : True := trivial
  have tok6 : True := trivial
  go_enter Try.func4, Try.ntmps4
  go_wp2_with (first | (have _t := tok1; refine wpList_load_row rfl 30 (.tmp 1) rfl w.heap.size rfl 30 A8 (0, 0) (.array 4 26) (blk_new w _) Try.underlying30 rfl (by rw [a1]; kernel_rfl) ?_; clear _t tok1) | (go_at_call 16; (refine (HFW.out _).mono ?_); rintro e w1 ⟨c0, c1, c2, c3, rfl, ⟨o0, o1, o2, o3⟩, hG, hb1⟩; have HG17 := Lib.hid hG; have HB1 := Lib.hid (below_two (below_one w _) hb1); have H0 := Lib.hid (blk_below (blk_new w _) hb1); clear hG hb1) | (have _t := tok2; refine wpList_store_row rfl 30 (.tmp 1) (.tmp 10) rfl w.heap.size B8 rfl rfl 30 _ (blk_keep H0.out _) (by rw [b1]; kernel_rfl) (by rw [b1]; exact a1) b2.out ?_; clear _t tok2) | (have _t := tok3; refine wpList_store_row rfl 31 (.tmp 3) (.tmp 11) rfl w1.heap.size #[c0, c1, c2, c3] rfl rfl 31 _ (row_far (blk_new w1 _) (by have := blk_lt H0.out; omega) _) (by kernel_rfl) (by rfl) (by simp [o0, o1, o2, o3]) ?_; clear _t tok3) | (have _t := tok4; refine wpList_load_row rfl 31 (.tmp 3) rfl w1.heap.size rfl 31 #[c0, c1, c2, c3] (0, 0) (.array 4 23) (setRow_heap _ _ _ _ _ _ (row_far (blk_new w1 _) (by have := blk_lt H0.out; omega) _)) Try.underlying31 rfl (by kernel_rfl) ?_; clear _t tok4) | (go_at_call 17; (refine (HG17.out _).mono ?_); rintro e w2 ⟨r, i, rfl, hri, hb2⟩; have HB2 := Lib.hid (below_two (below_setRow (below_setRow (below_more HB1.out _) (Nat.le_refl _) _) HB1.out.size _) hb2); have H02 := Lib.hid (blk_below (row_far (setRow_heap _ _ _ B8 _ _ (blk_keep H0.out _)) (by have := blk_lt H0.out; omega) _) hb2); have HRI := Lib.hid hri; clear hri hb2) | (have _t := tok5; refine wpList_store_row rfl 31 (.tmp 4) (.tmp 13) rfl w2.heap.size #[.complex .f64 (r 0) (i 0), .complex .f64 (r 1) (i 1), .complex .f64 (r 2) (i 2), .complex .f64 (r 3) (i 3)] rfl rfl 31 _ (blk_new w2 _) (by kernel_rfl) (by rfl) (by simp [Value.oneCell']) ?_; clear _t tok5) | (have _t := tok6; refine wpList_load_row rfl 30 (.tmp 1) rfl w.heap.size rfl 30 B8 (0, 0) (.array 4 26) (row_far (blk_keep H02.out _) (Nat.ne_of_lt (blk_lt H02.out)) _) Try.underlying30 rfl (by rw [b1]; kernel_rfl) ?_; clear _t tok6) | (go_at_call 18; (refine (HRF.out _).mono ?_); rintro e w3 ⟨rfl, hb3⟩; have HB3 := Lib.hid (below_two (below_setRow (below_more HB2.out (.cells #[.complex .f64 0 0, .complex .f64 0 0, .complex .f64 0 0, .complex .f64 0 0] 31 (0, 0))) HB2.out.size #[.complex .f64 (r 0) (i 0), .complex .f64 (r 1) (i 1), .complex .f64 (r 2) (i 2), .complex .f64 (r 3) (i 3)]) hb3); have H43 := Lib.hid (blk_below (setRow_heap _ _ _ #[.complex .f64 (r 0) (i 0), .complex .f64 (r 1) (i 1), .complex .f64 (r 2) (i 2), .complex .f64 (r 3) (i 3)] _ _ (blk_new w2 (.cells #[.complex .f64 0 0, .complex .f64 0 0, .complex .f64 0 0, .complex .f64 0 0] 31 (0, 0)))) hb3); clear hb3))
  generalize w2.heap.size = g4 at H43
  clear HB1 HB2 H0 H02 HG17 HFW HRF
  go_loopw [5, 6, 16] (fun v5 v6 v16 wr => ∃ (k : Nat), k ≤ 4 ∧ v16 = .int .i64 (k : Int) ∧ Hid (wr.heap[g4]? = some (.cells #[.complex .f64 (r 0) (i 0), .complex .f64 (r 1) (i 1), .complex .f64 (r 2) (i 2), .complex .f64 (r 3) (i 3)] 31 (0, 0))) ∧ Hid (Below w.heap.size w wr)) (fun _ _ v16 _ => 4 - (intOf v16).toNat)
  case atStart => exact ⟨0, by omega, rfl, H43, HB3⟩
  case round =>
    obtain ⟨k, hk, rfl, h4, hbw⟩ := hrel
    by_cases hlt : k < 4
    · have hI1 : (0 : Int) ≤ (k : Int) := by omega
      have hI2 : (k : Int) < 4 := by omega
      have hix : ∀ W, (Instr.index 30 (.agg C8) (.int .i64 (k : Int))).run Try.prog W = .ok (.agg #[.int .i64 (P k), .int .i64 (Q k)]) W := HIX.out k hlt
      have hz := HZP.out k hlt
      have hIs : Hid (∀ W : World, Calls Try.prog 12 #[.complex .f64 (r k) (i k), .agg #[.int .i64 (P k), .int .i64 (Q k)]] W fun e w' => e = .returned (.bool true) ∧ Below W.heap.size W w') := fun W => by
        have h := Is_any (r k) (i k) (P k) (Q k) (P k) (Q k) W (HRI.out k hlt).1 (HRI.out k hlt).2 hz.1 hz.2
        simpa using h
      have hzc : wr.cell? ⟨g4, k, none⟩ = some (.complex .f64 (r k) (i k)) := (blk_cell h4.out k).trans (ri_at r i k hlt)
      clear hz
      go_wp2
      have hzd : (wr.alloc (.cells #[.int .i64 (P k), .int .i64 (Q k)] 26 (0, 0))).cell? ⟨g4, k, none⟩ = some (.complex .f64 (r k) (i k)) := (blk_cell (blk_keep h4.out _) k).trans (ri_at r i k hlt)
      have hp0 : (wr.alloc (.cells #[.int .i64 (P k), .int .i64 (Q k)] 26 (0, 0))).cell? ⟨wr.heap.size, 0, none⟩ = some (.int .i64 (P k)) := blk_cell (blk_new wr _) 0
      have hp1 : (wr.alloc (.cells #[.int .i64 (P k), .int .i64 (Q k)] 26 (0, 0))).cell? ⟨wr.heap.size, 1, none⟩ = some (.int .i64 (Q k)) := blk_cell (blk_new wr _) 1
      have H4 := Lib.hid (blk_keep h4.out (.cells #[.int .i64 (P k), .int .i64 (Q k)] 26 (0, 0)))
      have HBW := Lib.hid (below_more hbw.out (.cells #[.int .i64 (P k), .int .i64 (Q k)] 26 (0, 0)))
      clear hzc
      generalize World.alloc wr (.cells #[.int .i64 (P k), .int .i64 (Q k)] 26 (0, 0)) = W2 at hzd hp0 hp1 H4 HBW ⊢
      go_still_tail 4, (by kernel_rfl)
      change wpList _ _ _ _ _ W2.drew
      go_wp2_with (go_at_call 12; (refine (hIs.out _).mono ?_); rintro e w5 ⟨rfl, hb5⟩; have H5 := Lib.hid (blk_below (w := W2.drew) H4.out hb5); have HB5 := Lib.hid (below_two HBW.out.drew hb5); clear hb5)
      go_roundw
      case rel => exact ⟨k + 1, by omega, by go_num, H5, HB5⟩
      case measure => simp [intOf]; omega
    · obtain rfl : k = 4 := by omega
      go_wp2_with (go_at_call 15; (with_reducible refine (awake_any _).mono ?_); rintro e w6 ⟨rfl, rfl⟩)
      go_ret
      exact ⟨rfl, hbw.out⟩
end Go.Proofs.Ytehjjjdelpbkpaa
namespace Go.Proofs.Ytehjjjdelpbkpaa.phaseForth
open Go.ChangeShapes Go.WideShapes Go.ChangeAt Go.RowKit
theorem own : ownKnob Try.prog.godebug = none := by kernel_rfl
theorem laidOut : laidOutB Try.prog = true := by kernel_rfl
set_option maxRecDepth 100000 in
theorem lifted (os : Os) (started : os.Started) (H : Type) (enc : TypeId × Value → H) :
    ReturnsInHanded {} Try.checked os 4 .any (Rows.phaseForthSpec.pre6 enc Try.prog Try.f4 Rows.phaseForthRow.domain false) (Rows.phaseForthSpec.post enc Try.prog Try.f4 false true false false) := by
  refine returnsInHanded_of_change (C := Try.checked) own started (by kernel_rfl) Try.func4
    (ChangeSpec.witness6 (enc := enc) (C := Try.checked) false ⟨#[], #[.agg #[.int .i64 0, .int .i64 0, .int .i64 0, .int .i64 0, .int .i64 0, .int .i64 0, .int .i64 0, .int .i64 0]], []⟩ 8 (by kernel_rfl) (by kernel_rfl) (by kernel_rfl) (by kernel_rfl)) ?_
  intro W base args ds gs before hval0 hW hcnd _
  have hval : ∀ (j : Nat) t v, Try.f4.params[j]? = some t → args[j]? = some v → Value.okWide Try.prog W .any base t v := hval0
  have hW' := hW
  have hlt := hW'.lt
  obtain ⟨p, q, hA0, hV, rfl, hfz, hnd⟩ := hW
  have hA : DataW.TrodAll enc Try.prog W 0 (fun _ => true) true Try.f4.params.toList args.toList ds p := hA0
  rw [Try.params4] at hA hval
  obtain ⟨v0, vs0, d0, ds0, p0, q0, hargs, rfl, rfl, h0, r0⟩ := trodAll_cons hA
  obtain ⟨rfl, rfl, rfl⟩ := trodAll_nil r0
  obtain rfl : args = #[v0] := by cases args; simp_all
  obtain ⟨rfl, rfl⟩ := trodVars_none hV
  have k0 := h0
  have l0 : ∀ x ∈ p0, x.block < W.heap.size := fun x hx => hlt x (by simp [hx])
  obtain ⟨x0, y0, rfl⟩ := open_arr8 h0
  clear hA0 hval0
  refine (PhaseForth_any x0 y0 W).mono fun e W' ⟨he, bel⟩ => ?_
  subst he
  exact ⟨_, rfl, _, _, _, [], _, [], hW', trodAll_mk1 (shut_bool Try.underlying4 _), trodAll_mk1 (Below.trod laidOut (by kernel_rfl) (of_decide_eq_true (by kernel_rfl)) k0 bel l0), rfl, bel.frame _, fun h => by cases h⟩
theorem over : Rows.phaseForthRow.holds Try.pinned (OpenSpec.ofChange Rows.phaseForthSpec) :=
  OpenClaim.holds_of_wide 4 Try.f4 rfl rfl rfl rfl rfl rfl rfl ⟨rfl, rfl, rfl, rfl, rfl⟩ rfl rfl rfl rfl rfl (by kernel_rfl) Try.func4 (by kernel_rfl)
    (of_decide_eq_true (by kernel_rfl)) (by unfold Func.isWrapper; first | (rw [if_pos (by decide +kernel)]; kernel_rfl) | (rw [if_neg (by decide +kernel)]; exact ⟨rfl, rfl⟩))
    (fun os started H enc _ => lifted os started H enc)
theorem proved : Rows.PhaseForthSaid := over
end Go.Proofs.Ytehjjjdelpbkpaa.phaseForth
namespace Go.Proofs.Ytehjjjdelpbkpaa
theorem phaseForth_holds : Rows.PhaseForthSaid := phaseForth.proved
end Go.Proofs.Ytehjjjdelpbkpaa
