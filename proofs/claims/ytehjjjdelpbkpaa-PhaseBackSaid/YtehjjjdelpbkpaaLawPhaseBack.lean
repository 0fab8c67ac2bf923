/-
  Forth and back: the law's walk, and its row.
-/
import Derived.Test.YtehjjjdelpbkpaaP9
namespace Go.Proofs.Ytehjjjdelpbkpaa
open Go.RowKit Go Go.Proofs.YtehjjjdelpbkpaaW.PrintWords
open F
theorem floatEq_of {a b : Nat} {n : Int} (ha : Fl a n) (hb : Fl b n) : Op.floatEq .f64 a b = true := (fl_eq' ha hb).trans (by simp)
theorem back_pure (x y : Nat → Int) (B : Nat) (hB : 16 * B < 9007199254740992) (hx : ∀ j, j < 4 → (x j).natAbs ≤ B) (hy : ∀ j, j < 4 → (y j).natAbs ≤ B) (a b : Nat → Nat) (ha : ∀ j, j < 4 → Fl (a j) (x j)) (hb : ∀ j, j < 4 → Fl (b j) (y j)) (w : World) :
    Calls Try.prog 17 #[.agg (row4 a b)] w fun e w' => ∃ d0 d1 d2 d3 : Value, e = .returned (.agg #[d0, d1, d2, d3]) ∧ (∀ w, Calls Try.prog 19 #[.agg #[d0, d1, d2, d3]] w fun e w' => ∃ e0 e1 e2 e3 : Value, e = .returned (.agg #[e0, e1, e2, e3]) ∧ (∀ W, (Op.equalIn 10000 31 (.agg #[e0, e1, e2, e3]) (.agg (row4 a b))).run Try.prog W = .ok true W) ∧ Below w.heap.size w w') ∧ Below w.heap.size w w' := by
  refine (Forth_any a b x y B (by omega) ha hb hx hy w).mono fun e w' ⟨r, i, h1, h2, h3⟩ => ⟨_, _, _, _, h1, fun w => ?_, h3⟩
  have q1 : ∀ j : Nat, j < 4 → (Sr x y (-(j : Int)) 4).natAbs ≤ 4 * B := fun j _ => Sr_abs x y _ B hx hy 4 (by omega)
  have q2 : ∀ j : Nat, j < 4 → (Si x y (-(j : Int)) 4).natAbs ≤ 4 * B := fun j _ => Si_abs x y _ B hx hy 4 (by omega)
  refine (Back_any r i (fun k => Sr x y (-(k : Int)) 4) (fun k => Si x y (-(k : Int)) 4) x y (4 * B) (by omega) (fun j hj => (h2 j hj).1) (fun j hj => (h2 j hj).2) q1 q2 (fun j hj => back_re x y j hj) (fun j hj => back_im x y j hj) w).mono fun e w' ⟨r', i', k1, k2, k3⟩ => ⟨_, _, _, _, k1, fun W => ?_, k3⟩
  rw [show (Value.agg #[Value.complex .f64 (r' 0) (i' 0), Value.complex .f64 (r' 1) (i' 1), Value.complex .f64 (r' 2) (i' 2), Value.complex .f64 (r' 3) (i' 3)]) = .agg (row4 r' i') from rfl, eq31]
  have z : ∀ j, j < 4 → Op.floatEq .f64 (r' j) (a j) = true ∧ Op.floatEq .f64 (i' j) (b j) = true := fun j hj => ⟨floatEq_of (k2 j hj).1 (ha j hj), floatEq_of (k2 j hj).2 (hb j hj)⟩
  rw [(z 0 (by omega)).1, (z 0 (by omega)).2, (z 1 (by omega)).1, (z 1 (by omega)).2, (z 2 (by omega)).1, (z 2 (by omega)).2, (z 3 (by omega)).1, (z 3 (by omega)).2]
  rfl
/-- What 'four' gives: a row that comes back. -/
def Good (c0 c1 c2 c3 : Value) : Prop := (c0.oneCell' = true ∧ c1.oneCell' = true ∧ c2.oneCell' = true ∧ c3.oneCell' = true) ∧ ∀ w, Calls Try.prog 17 #[.agg #[c0, c1, c2, c3]] w fun e w' => ∃ d0 d1 d2 d3 : Value, e = .returned (.agg #[d0, d1, d2, d3]) ∧ (∀ w, Calls Try.prog 19 #[.agg #[d0, d1, d2, d3]] w fun e w' => ∃ e0 e1 e2 e3 : Value, e = .returned (.agg #[e0, e1, e2, e3]) ∧ (∀ W, (Op.equalIn 10000 31 (.agg #[e0, e1, e2, e3]) (.agg #[c0, c1, c2, c3])).run Try.prog W = .ok true W) ∧ Below w.heap.size w w') ∧ Below w.heap.size w w'
theorem row8_size (x y : Nat → Int) : (row8 x y).size = 8 := rfl
theorem row8_one (x y : Nat → Int) : (row8 x y).all (·.oneCell') = true := by simp [row8, Value.oneCell']
theorem four_good (x y : Nat → Int) : ∃ A : Array Value, A.size = 8 ∧ A.all (·.oneCell') = true ∧ ∀ w, Calls Try.prog 16 #[.agg (row8 x y), .int .u64 36] w fun e w' => ∃ c0 c1 c2 c3 : Value, e = .returned (.tuple #[.agg A, .agg #[c0, c1, c2, c3]]) ∧ Good c0 c1 c2 c3 ∧ Below w.heap.size w w' := by
  refine ⟨row8 _ _, row8_size _ _, row8_one _ _, fun w => (four36_any x y w).mono fun e w' ⟨a, b, h1, h2, h3⟩ => ⟨_, _, _, _, h1, ⟨⟨rfl, rfl, rfl, rfl⟩, fun w => ?_⟩, h3⟩⟩
  exact back_pure _ _ 68719476736 (by omega) (fun j _ => Nat.le_of_lt (tmod_lt (x j) 68719476736 (by omega))) (fun j _ => Nat.le_of_lt (tmod_lt (y j) 68719476736 (by omega))) a b (fun j hj => (h2 j hj).1) (fun j hj => (h2 j hj).2) w
theorem wrapk_mod (x : Int) : IntKind.i64.wrap x % 4 = x % 4 := by
  simp [IntKind.wrap, IntKind.min, IntKind.max, IntKind.signed, IntKind.bits]
  omega
theorem sum_mod (p q : Int) (m n : Nat) (hp : p % 4 = m) (hq : q % 4 = n) : IntKind.i64.wrap (IntKind.i64.wrap p + IntKind.i64.wrap q) % 4 = ((m + n) % 4 : Nat) := by
  have h1 := wrapk_mod p
  have h2 := wrapk_mod q
  rw [wrapk_mod]
  omega
theorem turn_as (k : Int) (m : Nat) (h : k % 4 = m) (w : World) : Calls Try.prog 13 #[.int .i64 k] w fun e w' => e = .returned (.complex .f64 (tre m) (tim m)) ∧ w = w' := by
  have := Turn_any k w
  rw [h, Int.toNat_natCast] at this
  exact this
set_option maxHeartbeats 2000000 in
theorem PhaseBack_any (x y : Nat → Int) (p q : Int) (w : World) : Calls Try.prog 7 #[arr8 x y, .int .i32 p, .int .i32 q] w fun e w' => e = .returned (.bool true) ∧ Below w.heap.size w w' := by
  obtain ⟨B8, hB1, hB2, hF⟩ := four_good x y
  have HF := Lib.hid hF
  obtain ⟨m, hm4, hm⟩ := negmod p
  obtain ⟨n, hn4, hn⟩ := negmod q
  have HT1 := Lib.hid (turn_as (IntKind.i64.wrap p) m ((wrapk_mod p).trans hm))
  have HT2 := Lib.hid (turn_as (IntKind.i64.wrap q) n ((wrapk_mod q).trans hn))
  have HT3 := Lib.hid (turn_as (IntKind.i64.wrap (IntKind.i64.wrap p + IntKind.i64.wrap q)) ((m + n) % 4) (sum_mod p q m n hm hn))
  obtain ⟨re, im, e1, e2, hmul⟩ := tpow m n hm4 hn4
  have a1 := row8_size x y
  unfold arr8
  generalize row8 x y = A8 at HF a1
  clear hF hm hn hm4 hn4
  generalize tre ((m + n) % 4) = t3 at HT3 e1
  generalize tim ((m + n) % 4) = s3 at HT3 e2
  generalize tre m = t1 at HT1 hmul
  generalize tim m = s1 at HT1 hmul
  generalize tre n = t2 at HT2 hmul
  generalize tim n = s2 at HT2 hmul
  go_enter Try.func7, Try.ntmps7
  go_wp2_with (first | (refine wpList_load_row rfl 30 (.tmp 3) rfl w.heap.size rfl 30 A8 (0, 0) (.array 4 26) (blk_new w _) Try.underlying30 rfl (by rw [a1]; kernel_rfl) ?_) | (go_at_call 16; (refine (HF.out _).mono ?_); rintro e w1 ⟨c0, c1, c2, c3, rfl, hG, hb1⟩; have HG := Lib.hid hG.2; obtain ⟨o0, o1, o2, o3⟩ := hG.1; have HB1 := Lib.hid (below_two (below_one w _) hb1); clear hG hb1) | (refine wpList_store_row rfl 30 (.tmp 7) (.tmp 12) rfl w1.heap.size B8 rfl rfl 30 _ (blk_keep (blk_new w1 _) _) (by rw [hB1]; kernel_rfl) (by rw [hB1]; rfl) hB2 ?_) | (refine wpList_store_row rfl 31 (.tmp 8) (.tmp 13) rfl (w1.heap.size + 1) #[c0, c1, c2, c3] rfl rfl 31 _ (row_far (blk_at (by simp)) (by omega) _) (by kernel_rfl) (by rfl) (by simp [o0, o1, o2, o3]) ?_))
  dsimp only [Act.put]
  have hS0 := KS.all (w := w) (g := w1.heap.size + 1) (c0 := c0) (c1 := c1) (c2 := c2) (c3 := c3) (W := World.drew ((((w1.alloc (.cells #[.int .i64 0, .int .i64 0, .int .i64 0, .int .i64 0, .int .i64 0, .int .i64 0, .int .i64 0, .int .i64 0] 30 (0, 0))).alloc (.cells #[.complex .f64 0 0, .complex .f64 0 0, .complex .f64 0 0, .complex .f64 0 0] 31 (0, 0))).setRow w1.heap.size B8).setRow (w1.heap.size + 1) #[c0, c1, c2, c3]))
    ⟨setRow_heap _ _ _ _ _ _ (row_far (blk_at (by simp)) (by omega) _), (below_setRow (below_setRow (below_more (below_more HB1.out _) _) HB1.out.size _) (by have := HB1.out.size; omega) _).drew⟩
  generalize World.setRow (World.setRow (World.alloc (World.alloc w1 (.cells #[.int .i64 0, .int .i64 0, .int .i64 0, .int .i64 0, .int .i64 0, .int .i64 0, .int .i64 0, .int .i64 0] 30 (0, 0))) (.cells #[.complex .f64 0 0, .complex .f64 0 0, .complex .f64 0 0, .complex .f64 0 0] 31 (0, 0))) w1.heap.size B8) (w1.heap.size + 1) #[c0, c1, c2, c3] = W2 at hS0 ⊢
  clear HB1 HF
  go_region_held3 (fun W => KS w (w1.heap.size + 1) #[c0, c1, c2, c3] W ∧ W.cell? ⟨w1.heap.size + 1, 0, none⟩ = some c0 ∧ W.cell? ⟨w1.heap.size + 1, 1, none⟩ = some c1 ∧ W.cell? ⟨w1.heap.size + 1, 2, none⟩ = some c2 ∧ W.cell? ⟨w1.heap.size + 1, 3, none⟩ = some c3) (assumption)
    (first
      | (go_at_call 17; (refine (HG.out _).mono ?_); rintro e w3 ⟨d0, d1, d2, d3, rfl, hG2, hb3⟩; have HG2 := Lib.hid hG2; have hS3 := KS.all (KS.step (And.left ‹KS w (w1.heap.size + 1) #[c0, c1, c2, c3] _ ∧ _›) hb3); clear hG2)
      | (go_at_call 19; (refine (HG2.out _).mono ?_); rintro e w4 ⟨e0, e1', e2', e3', rfl, hEQ, hb4⟩; have hS4 := KS.all (KS.step (And.left hS3) hb4))
      | (go_at_call 13; (with_reducible refine (HT1.out _).mono ?_); rintro e w5 ⟨rfl, rfl⟩)
      | (go_at_call 13; (with_reducible refine (HT2.out _).mono ?_); rintro e w5 ⟨rfl, rfl⟩)
      | (go_at_call 13; (with_reducible refine (HT3.out _).mono ?_); rintro e w5 ⟨rfl, rfl⟩)
      | (go_at_call 15; (with_reducible refine (awake_any _).mono ?_); rintro e w6 ⟨rfl, rfl⟩))
  go_wp2
  go_ret
  exact ⟨rfl, hS4.1.below⟩
end Go.Proofs.Ytehjjjdelpbkpaa
namespace Go.Proofs.Ytehjjjdelpbkpaa.phaseBack
open Go.ChangeShapes Go.WideShapes Go.ChangeAt Go.RowKit
theorem own : ownKnob Try.prog.godebug = none := by kernel_rfl
theorem laidOut : laidOutB Try.prog = true := by kernel_rfl
set_option maxRecDepth 100000 in
theorem lifted (os : Os) (started : os.Started) (H : Type) (enc : TypeId × Value → H) :
    ReturnsInHanded {} Try.checked os 7 .any (Rows.phaseBackSpec.pre6 enc Try.prog Try.f7 Rows.phaseBackRow.domain false) (Rows.phaseBackSpec.post enc Try.prog Try.f7 false true false false) := by
  refine returnsInHanded_of_change (C := Try.checked) own started (by kernel_rfl) Try.func7
    (ChangeSpec.witness6 (enc := enc) (C := Try.checked) false ⟨#[], #[.agg #[.int .i64 0, .int .i64 0, .int .i64 0, .int .i64 0, .int .i64 0, .int .i64 0, .int .i64 0, .int .i64 0], .int .i32 0, .int .i32 0], []⟩ 8 (by kernel_rfl) (by kernel_rfl) (by kernel_rfl) (by kernel_rfl)) ?_
  intro W base args ds gs before hval0 hW hcnd _
  have hval : ∀ (j : Nat) t v, Try.f7.params[j]? = some t → args[j]? = some v → Value.okWide Try.prog W .any base t v := hval0
  have hW' := hW
  have hlt := hW'.lt
  obtain ⟨p, q, hA0, hV, rfl, hfz, hnd⟩ := hW
  have hA : DataW.TrodAll enc Try.prog W 0 (fun _ => true) true Try.f7.params.toList args.toList ds p := hA0
  rw [Try.params7] at hA hval
  obtain ⟨v0, vs0, d0, ds0, p0, q0, hargs, rfl, rfl, h0, r0⟩ := trodAll_cons hA
  obtain ⟨v1, vs1, d1, ds1, p1, q1, rfl, rfl, rfl, h1, r1⟩ := trodAll_cons r0
  obtain ⟨v2, vs2, d2, ds2, p2, q2, rfl, rfl, rfl, h2, r2⟩ := trodAll_cons r1
  obtain ⟨rfl, rfl, rfl⟩ := trodAll_nil r2
  obtain rfl : args = #[v0, v1, v2] := by cases args; simp_all
  obtain ⟨rfl, rfl⟩ := trodVars_none hV
  have k0 := h0
  have l0 : ∀ x ∈ p0, x.block < W.heap.size := fun x hx => hlt x (by simp [hx])
  obtain ⟨x0, y0, rfl⟩ := open_arr8 h0
  obtain ⟨a1, rfl, rfl, rfl, w1⟩ := open_int Try.underlying21 (hval 1 21 v1 rfl rfl) h1
  obtain ⟨a2, rfl, rfl, rfl, w2⟩ := open_int Try.underlying21 (hval 2 21 v2 rfl rfl) h2
  clear hA0 hval0
  refine (PhaseBack_any x0 y0 a1 a2 W).mono fun e W' ⟨he, bel⟩ => ?_
  subst he
  exact ⟨_, rfl, _, _, _, [], _, [], hW', trodAll_mk1 (shut_bool Try.underlying4 _), trodAll_mk3 (Below.trod laidOut (by kernel_rfl) (of_decide_eq_true (by kernel_rfl)) k0 bel l0) (shut_int Try.underlying21 w1) (shut_int Try.underlying21 w2), rfl, bel.frame _, fun h => by cases h⟩
theorem over : Rows.phaseBackRow.holds Try.pinned (OpenSpec.ofChange Rows.phaseBackSpec) :=
  OpenClaim.holds_of_wide 7 Try.f7 rfl rfl rfl rfl rfl rfl rfl ⟨rfl, rfl, rfl, rfl, rfl⟩ rfl rfl rfl rfl rfl (by kernel_rfl) Try.func7 (by kernel_rfl)
    (of_decide_eq_true (by kernel_rfl)) (by unfold Func.isWrapper; first | (rw [if_pos (by decide +kernel)]; kernel_rfl) | (rw [if_neg (by decide +kernel)]; exact ⟨rfl, rfl⟩))
    (fun os started H enc _ => lifted os started H enc)
theorem proved : Rows.PhaseBackSaid := over
end Go.Proofs.Ytehjjjdelpbkpaa.phaseBack
namespace Go.Proofs.Ytehjjjdelpbkpaa
theorem phaseBack_holds : Rows.PhaseBackSaid := phaseBack.proved
end Go.Proofs.Ytehjjjdelpbkpaa
