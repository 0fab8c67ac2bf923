/-
  Package phase: the sum of four numbers, each turned, in whole numbers.
-/
import Derived.Test.YtehjjjdelpbkpaaP1
import Derived.Below
namespace Go.Proofs.Ytehjjjdelpbkpaa
open Go.RowKit
open F

/-- A number turned m times: its parts. -/
def rotr : Nat → Int → Int → Int
  | 0, a, _ => a
  | 1, _, b => -b
  | 2, a, _ => -a
  | _, _, b => b
def roti : Nat → Int → Int → Int
  | 0, _, b => b
  | 1, a, _ => a
  | 2, _, b => -b
  | _, a, _ => -a
/-- The sum of the first j, the i-th turned i * k times. -/
def Sr (x y : Nat → Int) (k : Int) : Nat → Int
  | 0 => 0
  | j + 1 => Sr x y k j + rotr (((j : Int) * k) % 4).toNat (x j) (y j)
def Si (x y : Nat → Int) (k : Int) : Nat → Int
  | 0 => 0
  | j + 1 => Si x y k j + roti (((j : Int) * k) % 4).toNat (x j) (y j)
theorem rotr_abs (m : Nat) {a b : Int} {B : Nat} (ha : a.natAbs ≤ B) (hb : b.natAbs ≤ B) : (rotr m a b).natAbs ≤ B := by
  match m with
  | 0 => exact ha
  | 1 => simp only [rotr]; omega
  | 2 => simp only [rotr]; omega
  | _ + 3 => exact hb
theorem roti_abs (m : Nat) {a b : Int} {B : Nat} (ha : a.natAbs ≤ B) (hb : b.natAbs ≤ B) : (roti m a b).natAbs ≤ B := by
  match m with
  | 0 => exact hb
  | 1 => exact ha
  | 2 => simp only [roti]; omega
  | _ + 3 => simp only [roti]; omega
theorem Sr_abs (x y : Nat → Int) (k : Int) (B : Nat) (hx : ∀ j, j < 4 → (x j).natAbs ≤ B) (hy : ∀ j, j < 4 → (y j).natAbs ≤ B) : ∀ j, j ≤ 4 → (Sr x y k j).natAbs ≤ j * B
  | 0, _ => by simp [Sr]
  | j + 1, h => by
    have h1 := Sr_abs x y k B hx hy j (by omega)
    have h2 := rotr_abs (((j : Int) * k) % 4).toNat (hx j (by omega)) (hy j (by omega))
    simp only [Sr, Nat.succ_mul]
    omega
theorem Si_abs (x y : Nat → Int) (k : Int) (B : Nat) (hx : ∀ j, j < 4 → (x j).natAbs ≤ B) (hy : ∀ j, j < 4 → (y j).natAbs ≤ B) : ∀ j, j ≤ 4 → (Si x y k j).natAbs ≤ j * B
  | 0, _ => by simp [Si]
  | j + 1, h => by
    have h1 := Si_abs x y k B hx hy j (by omega)
    have h2 := roti_abs (((j : Int) * k) % 4).toNat (hx j (by omega)) (hy j (by omega))
    simp only [Si, Nat.succ_mul]
    omega
theorem wrap_mod (x : Int) : wrap64 x % 4 = x % 4 := by unfold wrap64; omega
theorem mod_as (k : Int) (m : Nat) (h : k % 4 = m) (w : World) : Calls Try.prog 26 #[.int .i64 k] w fun e w' => e = .returned (.int .i64 (m : Int)) ∧ w = w' := by
  rw [← h]
  exact mod_any k w
/-- A float's sign turned: a law for the walk. -/
theorem wpList_negf {P : Program} {ops : Array Oper} {rest : List Oper} {o : Oper} {a : Act} {w : World} {Q : Exit → Act → World → Prop} (hgd : o.guard = none) (t : TypeId) (x : Operand) (ho : o.op = .unOp .neg t x) (k : FloatKind) (b : Nat) (hx : a.eval x = .float k b)
    (h : wpList P ops Q rest (a.put o.dst (.float k (Op.negFloat k b))) w) : wpList P ops Q (o :: rest) a w := by
  refine wpList_plain hgd fun K hK => ?_
  have hrun : (execOp a.eval o).run P w = .ok (.value (.float k (Op.negFloat k b))) w := by
    simp [execOp, ho, hx, Op.unary]
  unfold Oper.wp
  rw [hrun, Oper.upon_value]
  exact hK _ _ h
/-- Two complex numbers added. -/
theorem cadd {a b c d : Nat} {p q r s : Int} (ha : Fl a p) (hb : Fl b q) (hc : Fl c r) (hd : Fl d s) (h1 : (p + r).natAbs < 9007199254740992) (h2 : (q + s).natAbs < 9007199254740992) :
    ∃ re im, Fl re (p + r) ∧ Fl im (q + s) ∧ ∀ (t : TypeId) (W : World), (binOp .add t (.complex .f64 a b) (.complex .f64 c d)).run Try.prog W = .ok (.complex .f64 re im) W := by
  obtain ⟨re, e1, f1⟩ := fl_add ha hc h1
  obtain ⟨im, e2, f2⟩ := fl_add hb hd h2
  refine ⟨re, im, f1, f2, fun t W => run_complex_sum W .add (.inl rfl) t .f64 a b c d re im ?_⟩
  have g1 : floatBits .add .f64 a c = some re := e1
  have g2 : floatBits .add .f64 b d = some im := e2
  simp [cSumBits, g1, g2]
/-- Four complex numbers as an array. -/
def arr4 (a b : Nat → Nat) : Value := .agg #[.complex .f64 (a 0) (b 0), .complex .f64 (a 1) (b 1), .complex .f64 (a 2) (b 2), .complex .f64 (a 3) (b 3)]
theorem idx0 (c0 c1 c2 c3 : Value) (W : World) : (Instr.index 31 (.agg #[c0, c1, c2, c3]) (.int .i64 0)).run Try.prog W = .ok c0 W := by kernel_rfl
theorem idx1 (c0 c1 c2 c3 : Value) (W : World) : (Instr.index 31 (.agg #[c0, c1, c2, c3]) (.int .i64 1)).run Try.prog W = .ok c1 W := by kernel_rfl
theorem idx2 (c0 c1 c2 c3 : Value) (W : World) : (Instr.index 31 (.agg #[c0, c1, c2, c3]) (.int .i64 2)).run Try.prog W = .ok c2 W := by kernel_rfl
theorem idx3 (c0 c1 c2 c3 : Value) (W : World) : (Instr.index 31 (.agg #[c0, c1, c2, c3]) (.int .i64 3)).run Try.prog W = .ok c3 W := by kernel_rfl
theorem arr4_index (a b : Nat → Nat) (j : Nat) (h : j < 4) (W : World) : (Instr.index 31 (.agg #[.complex .f64 (a 0) (b 0), .complex .f64 (a 1) (b 1), .complex .f64 (a 2) (b 2), .complex .f64 (a 3) (b 3)]) (.int .i64 (j : Int))).run Try.prog W = .ok (.complex .f64 (a j) (b j)) W := by
  match j, h with
  | 0, _ => exact idx0 _ _ _ _ W
  | 1, _ => exact idx1 _ _ _ _ W
  | 2, _ => exact idx2 _ _ _ _ W
  | 3, _ => exact idx3 _ _ _ _ W
set_option maxHeartbeats 2000000 in
theorem sum_any (a b : Nat → Nat) (x y : Nat → Int) (k : Int) (B : Nat) (hB : 4 * B < 9007199254740992) (ha : ∀ j, j < 4 → Fl (a j) (x j)) (hb : ∀ j, j < 4 → Fl (b j) (y j)) (hx : ∀ j, j < 4 → (x j).natAbs ≤ B) (hy : ∀ j, j < 4 → (y j).natAbs ≤ B) (w : World) :
    Calls Try.prog 28 #[arr4 a b, .int .i64 k] w fun e w' => ∃ re im, e = .returned (.complex .f64 re im) ∧ Fl re (Sr x y k 4) ∧ Fl im (Si x y k 4) ∧ Below w.heap.size w w' := by
  have HA := Lib.hid ha
  have HBf := Lib.hid hb
  have HX := Lib.hid hx
  have HY := Lib.hid hy
  have HBd := Lib.hid hB
  clear ha hb hx hy hB
  have HI := Lib.hid (arr4_index a b)
  unfold arr4
  generalize hc0 : Value.complex .f64 (a 0) (b 0) = c0 at HI
  generalize hc1 : Value.complex .f64 (a 1) (b 1) = c1 at HI
  generalize hc2 : Value.complex .f64 (a 2) (b 2) = c2 at HI
  generalize hc3 : Value.complex .f64 (a 3) (b 3) = c3 at HI
  have o0 : c0.oneCell' = true := by rw [← hc0]; rfl
  have o1 : c1.oneCell' = true := by rw [← hc1]; rfl
  have o2 : c2.oneCell' = true := by rw [← hc2]; rfl
  have o3 : c3.oneCell' = true := by rw [← hc3]; rfl
  clear hc0 hc1 hc2 hc3
  go_enter Try.func28, Try.ntmps28
  go_wp2
  go_loop [5, 11] (fun v5 v11 => ∃ (j re im : Nat), j ≤ 4 ∧ v11 = .int .i64 (j : Int) ∧ v5 = .complex .f64 re im ∧ Hid (Fl re (Sr x y k j)) ∧ Hid (Fl im (Si x y k j))) (fun _ v11 => 4 - (intOf v11).toNat)
  case atStart => exact ⟨0, 0, 0, by omega, rfl, rfl, fl_zero, fl_zero⟩
  case round =>
    obtain ⟨j, re, im, hj, rfl, rfl, hre, him⟩ := hrel
    by_cases hlt : j < 4
    · have hidx : ∀ W, (Instr.index 31 (.agg #[c0, c1, c2, c3]) (.int .i64 (j : Int))).run Try.prog W = .ok (.complex .f64 (a j) (b j)) W := HI.out j hlt
      obtain ⟨m, hm⟩ : ∃ m : Nat, (wrap64 ((j : Int) * k)) % 4 = m := ⟨(wrap64 ((j : Int) * k) % 4).toNat, by omega⟩
      have hm4 : m = 0 ∨ m = 1 ∨ m = 2 ∨ m = 3 := by omega
      have hmj : (((j : Int) * k) % 4).toNat = m := by rw [← wrap_mod, hm, Int.toNat_natCast]
      have hS := Sr_abs x y k B HX.out HY.out (j + 1) (by omega)
      have hT := Si_abs x y k B HX.out HY.out (j + 1) (by omega)
      have hB := HBd.out
      have hjB : (j + 1) * B ≤ 4 * B := Nat.mul_le_mul_right _ (by omega)
      have HS1 : Hid (Sr x y k (j + 1) = Sr x y k j + rotr m (x j) (y j)) := by show Sr x y k j + rotr _ _ _ = _; rw [hmj]
      have HS2 : Hid (Si x y k (j + 1) = Si x y k j + roti m (x j) (y j)) := by show Si x y k j + roti _ _ _ = _; rw [hmj]
      have hS' : Hid ((Sr x y k j + rotr m (x j) (y j)).natAbs < 9007199254740992) := by rw [← HS1.out]; exact Nat.lt_of_le_of_lt (Nat.le_trans hS hjB) hB
      have hT' : Hid ((Si x y k j + roti m (x j) (y j)).natAbs < 9007199254740992) := by rw [← HS2.out]; exact Nat.lt_of_le_of_lt (Nat.le_trans hT hjB) hB
      have HM := Lib.hid (mod_as (wrap64 ((j : Int) * k)) m hm)
      have fa := HA.out j hlt
      have fb := HBf.out j hlt
      clear hm hmj hjB hS hT hB
      rcases hm4 with rfl | rfl | rfl | rfl
      · obtain ⟨re', im', f1, f2, hadd⟩ := cadd hre.out him.out fa fb hS'.out hT'.out
        have F1 : Hid (Fl re' (Sr x y k (j + 1))) := by rw [HS1.out]; exact f1
        have F2 : Hid (Fl im' (Si x y k (j + 1))) := by rw [HS2.out]; exact f2
        clear f1 f2 fa fb hS' hT' HS1 HS2
        go_wp2_with (first | (go_at_call 26; (with_reducible refine (HM.out _).mono ?_); rintro e w' ⟨rfl, rfl⟩) | (refine wpList_negf rfl 38 (.tmp 25) rfl .f64 _ rfl ?_) | (refine wpList_negf rfl 38 (.tmp 30) rfl .f64 _ rfl ?_) | (refine wpList_negf rfl 38 (.tmp 32) rfl .f64 _ rfl ?_) | (refine wpList_negf rfl 38 (.tmp 37) rfl .f64 _ rfl ?_))
        go_round
        case rel => exact ⟨j + 1, re', im', by omega, by go_num, rfl, F1, F2⟩
        case measure => simp [intOf]; omega
      · obtain ⟨re', im', f1, f2, hadd⟩ := cadd hre.out him.out (fl_neg fb) fa hS'.out hT'.out
        have F1 : Hid (Fl re' (Sr x y k (j + 1))) := by rw [HS1.out]; exact f1
        have F2 : Hid (Fl im' (Si x y k (j + 1))) := by rw [HS2.out]; exact f2
        clear f1 f2 fa fb hS' hT' HS1 HS2
        go_wp2_with (first | (go_at_call 26; (with_reducible refine (HM.out _).mono ?_); rintro e w' ⟨rfl, rfl⟩) | (refine wpList_negf rfl 38 (.tmp 25) rfl .f64 _ rfl ?_) | (refine wpList_negf rfl 38 (.tmp 30) rfl .f64 _ rfl ?_) | (refine wpList_negf rfl 38 (.tmp 32) rfl .f64 _ rfl ?_) | (refine wpList_negf rfl 38 (.tmp 37) rfl .f64 _ rfl ?_))
        go_round
        case rel => exact ⟨j + 1, re', im', by omega, by go_num, rfl, F1, F2⟩
        case measure => simp [intOf]; omega
      · obtain ⟨re', im', f1, f2, hadd⟩ := cadd hre.out him.out (fl_neg fa) (fl_neg fb) hS'.out hT'.out
        have F1 : Hid (Fl re' (Sr x y k (j + 1))) := by rw [HS1.out]; exact f1
        have F2 : Hid (Fl im' (Si x y k (j + 1))) := by rw [HS2.out]; exact f2
        clear f1 f2 fa fb hS' hT' HS1 HS2
        go_wp2_with (first | (go_at_call 26; (with_reducible refine (HM.out _).mono ?_); rintro e w' ⟨rfl, rfl⟩) | (refine wpList_negf rfl 38 (.tmp 25) rfl .f64 _ rfl ?_) | (refine wpList_negf rfl 38 (.tmp 30) rfl .f64 _ rfl ?_) | (refine wpList_negf rfl 38 (.tmp 32) rfl .f64 _ rfl ?_) | (refine wpList_negf rfl 38 (.tmp 37) rfl .f64 _ rfl ?_))
        go_round
        case rel => exact ⟨j + 1, re', im', by omega, by go_num, rfl, F1, F2⟩
        case measure => simp [intOf]; omega
      · obtain ⟨re', im', f1, f2, hadd⟩ := cadd hre.out him.out fb (fl_neg fa) hS'.out hT'.out
        have F1 : Hid (Fl re' (Sr x y k (j + 1))) := by rw [HS1.out]; exact f1
        have F2 : Hid (Fl im' (Si x y k (j + 1))) := by rw [HS2.out]; exact f2
        clear f1 f2 fa fb hS' hT' HS1 HS2
        go_wp2_with (first | (go_at_call 26; (with_reducible refine (HM.out _).mono ?_); rintro e w' ⟨rfl, rfl⟩) | (refine wpList_negf rfl 38 (.tmp 25) rfl .f64 _ rfl ?_) | (refine wpList_negf rfl 38 (.tmp 30) rfl .f64 _ rfl ?_) | (refine wpList_negf rfl 38 (.tmp 32) rfl .f64 _ rfl ?_) | (refine wpList_negf rfl 38 (.tmp 37) rfl .f64 _ rfl ?_))
        go_round
        case rel => exact ⟨j + 1, re', im', by omega, by go_num, rfl, F1, F2⟩
        case measure => simp [intOf]; omega
    · have hj4 : j = 4 := by omega
      subst hj4
      go_wp2
      go_ret
      exact ⟨re, im, rfl, hre.out, him.out, (Below.refl _ _).alloc (Nat.le_refl _) _⟩
end Go.Proofs.Ytehjjjdelpbkpaa
