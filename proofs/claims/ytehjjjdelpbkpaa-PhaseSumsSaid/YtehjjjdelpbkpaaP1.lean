/-
  Package phase and its reference: what the small functions answer.
-/
import Derived.Test.YtehjjjdelpbkpaaRows
import Derived.Test.YtehjjjdelpbkpaaF
import Derived.WalkKit
import Derived.WalkSpells
import Derived.WalkLawsBesides
import Derived.Deep.LoopGhost
import Derived.Deep.QuietTactic
import Derived.BigQuiet
import Derived.ScopeJumps
import Derived.WalkMore
import Derived.Laws.Rows
import Derived.Lib.Hide
namespace Go.Proofs.Ytehjjjdelpbkpaa
open Go.RowKit
open F

/-- What a label's passes do, by a number that each pass lowers. -/
theorem wp_scope_ghost {P : Program} {a : Act} {w : World} {Q : Exit → Act → World → Prop} {c rest : Code} (l : Nat) (J : Nat → Act → World → Prop) (hf : findLabel c l = some (Code.skip.seq rest))
    (pass : ∀ (X : Act → World → Prop) k a w, J k a w → Hid (∀ k' a' w', k' < k → J k' a' w' → X a' w') → rest.wp P (Exit.jump l X Q) a w)
    (first : (∀ (X : Act → World → Prop) k a w, J k a w → Hid (∀ k' a' w', k' < k → J k' a' w' → X a' w') → rest.wp P (Exit.jump l X Q) a w) → c.wp P (Exit.jump l (fun a' w' => ∃ k, J k a' w') Q) a w) : (Code.scope c).wp P Q a w := by
  replace first := first pass
  have pass0 := pass
  clear pass
  have pass : ∀ (X : Act → World → Prop) k a w, J k a w → Hid (∀ k' a' w', k' < k → J k' a' w' → X a' w') → (Code.skip.seq rest).wp P (Exit.jump l X Q) a w := fun X k a w hJ hX => wp_seq (wp_skip (pass0 X k a w hJ hX))
  replace pass : ∀ k a w, J k a w → (Code.skip.seq rest).wp P (Exit.jump l (fun a' w' => ∃ k', k' < k ∧ J k' a' w') Q) a w := fun k a w hJ => pass _ k a w hJ (fun k' a' w' hk hJ' => ⟨k', hk, hJ'⟩)
  intro b k cs
  have hg : gotoIn l (.inScope c :: k) = some (.code (Code.skip.seq rest) :: .inScope c :: k) := by simp [gotoIn, hf]
  have key : ∀ n a w, J n a w → ∃ e a' w', Q e a' w' ∧ Arrives P (lone (b.at a (.code (Code.skip.seq rest) :: .inScope c :: k)) cs w) b k cs e a' w' := by
    intro n
    induction n using Nat.strongRecOn with
    | _ n ih =>
      intro a w hJ
      obtain ⟨e, a₁, w₁, hq, harr⟩ := pass n a w hJ b (.inScope c :: k) cs
      cases e with
      | normal => exact ⟨.normal, a₁, w₁, hq, Steps.trans harr (.one step_inScope)⟩
      | exit id => exact ⟨.exit id, a₁, w₁, hq, fun k' hk => harr k' (by simp [exitTo, hk])⟩
      | goto l' =>
        obtain ⟨rfl, n', hlt, hJ'⟩ := hq
        obtain ⟨e₂, a₂, w₂, hq₂, harr₂⟩ := ih _ hlt a₁ w₁ hJ'
        exact ⟨e₂, a₂, w₂, hq₂, .of_steps (harr _ hg) harr₂⟩
      | ret => exact ⟨_, a₁, w₁, hq, harr⟩
      | panic ch => exact ⟨_, a₁, w₁, hq, harr⟩
      | outgrown => exact ⟨_, a₁, w₁, hq, harr⟩
  obtain ⟨e, a₁, w₁, hq, harr⟩ := first b (.inScope c :: k) cs
  cases e with
  | normal => exact ⟨.normal, a₁, w₁, hq, .head step_scope (Steps.trans harr (.one step_inScope))⟩
  | exit id => exact ⟨.exit id, a₁, w₁, hq, fun k' hk => .head step_scope (harr k' (by simp [exitTo, hk]))⟩
  | goto l' =>
    obtain ⟨rfl, n', hJ'⟩ := hq
    obtain ⟨e₂, a₂, w₂, hq₂, harr₂⟩ := key _ a₁ w₁ hJ'
    exact ⟨e₂, a₂, w₂, hq₂, .of_steps (.head step_scope (harr _ hg)) harr₂⟩
  | ret => exact ⟨_, a₁, w₁, hq, .of_steps (.one step_scope) harr⟩
  | panic ch => exact ⟨_, a₁, w₁, hq, .of_steps (.one step_scope) harr⟩
  | outgrown => exact ⟨_, a₁, w₁, hq, .of_steps (.one step_scope) harr⟩

theorem and3 (k : Int) : Go.bits .and .i64 k 3 = k % 4 := by
  have h : (BitVec.ofInt 64 k &&& BitVec.ofInt 64 3).toNat = (BitVec.ofInt 64 k).toNat % 4 := by
    rw [BitVec.toNat_and]
    exact Nat.and_two_pow_sub_one_eq_mod _ 2
  have h2 : ((BitVec.ofInt 64 k).toNat : Int) = k % 18446744073709551616 := by
    rw [BitVec.toNat_ofInt]
    simp
    omega
  have h3 : bits .and .i64 k 3 = IntKind.i64.wrap (((BitVec.ofInt 64 k &&& BitVec.ofInt 64 3).toNat : Nat) : Int) := rfl
  rw [h3, h, Int.natCast_emod, h2, IntKind.wrap_i64]
  omega
set_option maxHeartbeats 400000 in
theorem mod_any (k : Int) (w : World) : Calls Try.prog 26 #[.int .i64 k] w fun e w' => e = .returned (.int .i64 (k % 4)) ∧ w = w' := by
  have h := Lib.hid (and3 k)
  go_enter Try.func26, Try.ntmps26
  go_wp2
  go_ret
  exact ⟨by rw [h.out]; rfl, rfl⟩
/-- The unit's powers, as bits. -/
def tre : Nat → Nat
  | 0 => 4607182418800017408
  | 1 => 0
  | 2 => 13830554455654793216
  | _ => 9223372036854775808
def tim : Nat → Nat
  | 0 => 0
  | 1 => 4607182418800017408
  | 2 => 0
  | _ => 13830554455654793216
/-- The unit's powers, as whole numbers. -/
def ire : Nat → Int
  | 0 => 1
  | 1 => 0
  | 2 => -1
  | _ => 0
def iim : Nat → Int
  | 0 => 0
  | 1 => 1
  | 2 => 0
  | _ => -1
theorem fl_tre (m : Nat) : Fl (tre m) (ire m) := by
  match m with
  | 0 => exact fl_one
  | 1 => exact fl_zero
  | 2 => exact fl_negone
  | _ + 3 => exact fl_negzero
theorem fl_tim (m : Nat) : Fl (tim m) (iim m) := by
  match m with
  | 0 => exact fl_zero
  | 1 => exact fl_one
  | 2 => exact fl_zero
  | _ + 3 => exact fl_negone
theorem turn_step (i : Nat) (h : i < 3) : cMulBits (tre i) (tim i) 0 4607182418800017408 = some (tre (i + 1), tim (i + 1)) := by
  match i, h with
  | 0, _ => decide +kernel
  | 1, _ => decide +kernel
  | 2, _ => decide +kernel
set_option maxHeartbeats 1000000 in
theorem Turn_any (k : Int) (w : World) : Calls Try.prog 13 #[.int .i64 k] w fun e w' => e = .returned (.complex .f64 (tre (k % 4).toNat) (tim (k % 4).toNat)) ∧ w = w' := by
  obtain ⟨m, hm⟩ : ∃ m : Nat, k % 4 = m := ⟨(k % 4).toNat, by omega⟩
  have hm4 : m < 4 := by omega
  have HM := Lib.hid hm
  rw [hm, Int.toNat_natCast]
  clear hm
  go_enter Try.func13, Try.ntmps13
  go_wp2
  refine wp_scope_ghost 0 (fun g a' w' => w = w' ∧ ∃ (i : Nat) (u5 u6 u7 u8 u9 u10 u11 u12 u13 : Value), i ≤ m ∧ Hid (g = m - i) ∧ a' = { tmps := #[.int .i64 k, undef, .complex .f64 0 0, .complex .f64 (tre i) (tim i), .int .i64 ((m - i : Nat) : Int), u5, u6, u7, u8, u9, u10, u11, u12, u13], defers := [] }) rfl ?_ ?_
  · rintro X g a' w' ⟨rfl, i, u5, u6, u7, u8, u9, u10, u11, u12, u13, hi, hg, rfl⟩ hX
    by_cases h : i < m
    · have hmul : ∀ W, (binOp .mul 23 (.complex .f64 (tre i) (tim i)) (.complex .f64 0 4607182418800017408)).run Try.prog W = .ok (.complex .f64 (tre (i + 1)) (tim (i + 1))) W := fun W => run_complex_mul W 23 _ _ _ _ _ _ (turn_step i (by omega))
      have hpos : 0 < m - i := by omega
      obtain ⟨j, hj⟩ : ∃ j, m - i = j + 1 := ⟨m - i - 1, by omega⟩
      have hj2 : m - (i + 1) = j := by omega
      have HJ := Lib.hid hj2
      rw [hj]
      have hjb : j ≤ 4 := by omega
      have hlt : m - (i + 1) < m - i := by omega
      have HLT := Lib.hid hlt
      clear hj hj2 hpos hlt
      go_wp2
      go_step3
      exact ⟨rfl, hX.out (m - (i + 1)) _ _ (by rw [hg.out]; exact HLT.out) ⟨rfl, i + 1, _, _, _, _, _, _, _, _, _, by omega, rfl, by rw [HJ.out]⟩⟩
    · have hz : m - i = 0 := by omega
      have hmi : i = m := by omega
      subst hmi
      rw [hz]
      clear hz
      go_wp2
      simp only [Exit.jump]
      go_ret
      exact ⟨rfl, rfl⟩
  · intro hp
    go_wp2_with (go_at_call 26; refine (mod_any _ _).mono ?_; rintro e w' ⟨rfl, rfl⟩)
    rw [HM.out]
    go_wp2
    go_step3
    refine ‹∀ (a : Act) (w : World), Code.wp _ _ _ a w → _› _ _ ?_
    refine hp _ m _ _ ⟨rfl, 0, _, _, _, _, _, _, _, _, _, Nat.zero_le _, rfl, rfl⟩ ?_
    intro k' a' w' _ hJ
    exact ⟨k', hJ⟩
/-- Powers of i below 4. -/
theorem tmod4 (k : Int) : -3 ≤ k.tmod 4 ∧ k.tmod 4 ≤ 3 ∧ (k.tmod 4 + 4) % 4 = k % 4 := by
  by_cases h : 0 ≤ k
  · rw [Int.tmod_eq_emod_of_nonneg h]
    omega
  · obtain ⟨j, rfl⟩ : ∃ j, k = -j := ⟨-k, by omega⟩
    rw [Int.neg_tmod, Int.tmod_eq_emod_of_nonneg (by omega)]
    omega
theorem turn_mod (k : Int) : (wrap64 (k.tmod 4 + 4)).tmod 4 = k % 4 := by
  have h := tmod4 k
  have h2 : wrap64 (k.tmod 4 + 4) = k.tmod 4 + 4 := by unfold wrap64; omega
  rw [h2, Int.tmod_eq_emod_of_nonneg (by omega)]
  exact h.2.2
set_option maxHeartbeats 1000000 in
theorem rTurn_any (k : Int) (w : World) : Calls Try.prog 14 #[.int .i64 k] w fun e w' => e = .returned (.agg #[.int .i64 (ire (k % 4).toNat), .int .i64 (iim (k % 4).toNat)]) ∧ Below w.heap.size w w' := by
  obtain ⟨m, hm⟩ : ∃ m : Nat, k % 4 = m := ⟨(k % 4).toNat, by omega⟩
  rw [hm, Int.toNat_natCast]
  have hm4 : m = 0 ∨ m = 1 ∨ m = 2 ∨ m = 3 := by omega
  have ht := turn_mod k
  rw [hm] at ht
  generalize hz : (wrap64 (k.tmod 4 + 4)).tmod 4 = z at ht
  have HZ := Lib.hid hz
  clear hm hz
  rcases hm4 with rfl | rfl | rfl | rfl
  all_goals
    have c0 := congrArg (· == (0 : Int)) (HZ.out.trans ht)
    have c1 := congrArg (· == (1 : Int)) (HZ.out.trans ht)
    have c2 := congrArg (· == (2 : Int)) (HZ.out.trans ht)
    clear ht HZ
    simp only [show (((0 : Nat) : Int) == 0) = true from rfl, show (((0 : Nat) : Int) == 1) = false from rfl, show (((0 : Nat) : Int) == 2) = false from rfl, show (((1 : Nat) : Int) == 0) = false from rfl, show (((1 : Nat) : Int) == 1) = true from rfl, show (((1 : Nat) : Int) == 2) = false from rfl, show (((2 : Nat) : Int) == 0) = false from rfl, show (((2 : Nat) : Int) == 1) = false from rfl, show (((2 : Nat) : Int) == 2) = true from rfl, show (((3 : Nat) : Int) == 0) = false from rfl, show (((3 : Nat) : Int) == 1) = false from rfl, show (((3 : Nat) : Int) == 2) = false from rfl] at c0 c1 c2
    go_enter Try.func14, Try.ntmps14
    go_wp2
    exact bodyPost_ret (v := .agg #[.int .i64 _, .int .i64 _]) (by simp [results, Try.results14, go_sem]; exact ⟨rfl, rfl⟩) rfl ⟨rfl, (Below.refl _ _).alloc (Nat.le_refl _) _⟩
set_option maxHeartbeats 1000000 in
theorem Phase_any (k : Int) (w : World) : Calls Try.prog 25 #[.int .i64 k] w fun e w' => e = .returned (.int .i64 (k % 4)) ∧ w = w' := by
  have h := Lib.hid (turn_mod k)
  go_enter Try.func25, Try.ntmps25
  go_wp2
  go_ret
  exact ⟨by rw [← h.out]; rfl, rfl⟩
set_option maxHeartbeats 1000000 in
theorem Is_any (a b : Nat) (p q x y : Int) (w : World) (ha : Fl a x) (hb : Fl b y) (hp : p.natAbs < 9007199254740992) (hq : q.natAbs < 9007199254740992) : Calls Try.prog 12 #[.complex .f64 a b, .agg #[.int .i64 p, .int .i64 q]] w fun e w' => e = .returned (.bool (decide (x = p) && decide (y = q))) ∧ Below w.heap.size w w' := by
  have h1 := Lib.hid (fl_eq' ha (fl_int hp))
  have h2 := Lib.hid (fl_eq' hb (fl_int hq))
  clear ha hb hp hq
  go_enter Try.func12, Try.ntmps12
  go_wp2
  go_ret
  refine ⟨?_, (Below.refl _ _).alloc (Nat.le_refl _) _⟩
  rw [← h1.out, ← h2.out]
  rfl
set_option maxHeartbeats 1000000 in
theorem Of_any (p q : Int) (w : World) : Calls Try.prog 27 #[.agg #[.int .i64 p, .int .i64 q]] w fun e w' => e = .returned (.complex .f64 (FloatKind.f64.nearest p) (FloatKind.f64.nearest q)) ∧ Below w.heap.size w w' := by
  go_enter Try.func27, Try.ntmps27
  go_wp2
  go_ret
  exact ⟨rfl, (Below.refl _ _).alloc (Nat.le_refl _) _⟩
theorem awk1 : (FloatKind.f64.format.order (tre 2) 13830554455654793216 == some .eq) = true := (fl_eq' (fl_tre 2) fl_negone).trans (by decide)
theorem awk2 : (FloatKind.f64.format.order (tim 2) 0 == some .eq) = true := (fl_eq' (fl_tim 2) fl_zero).trans (by decide)
theorem awk3 : (FloatKind.f64.format.order (tre 1) 0 == some .eq) = true := (fl_eq' (fl_tre 1) fl_zero).trans (by decide)
theorem awk4 : (FloatKind.f64.format.order (tim 1) 4607182418800017408 == some .eq) = true := (fl_eq' (fl_tim 1) fl_one).trans (by decide)
theorem awt1 (w : World) : Calls Try.prog 13 #[.int .i64 2] w fun e w' => e = .returned (.complex .f64 (tre 2) (tim 2)) ∧ w = w' := by
  have h := Turn_any 2 w
  rw [show ((2 : Int) % 4).toNat = 2 from rfl] at h
  exact h
theorem awt2 (w : World) : Calls Try.prog 13 #[.int .i64 (-3)] w fun e w' => e = .returned (.complex .f64 (tre 1) (tim 1)) ∧ w = w' := by
  have h := Turn_any (-3) w
  rw [show ((-3 : Int) % 4).toNat = 1 from rfl] at h
  exact h
set_option maxHeartbeats 1000000 in
theorem awake_of (A B C D : Nat) (w : World) (e1 : (FloatKind.f64.format.order A 13830554455654793216 == some .eq) = true) (e2 : (FloatKind.f64.format.order B 0 == some .eq) = true) (e3 : (FloatKind.f64.format.order C 0 == some .eq) = true) (e4 : (FloatKind.f64.format.order D 4607182418800017408 == some .eq) = true)
    (t1 : Hid (∀ w, Calls Try.prog 13 #[.int .i64 2] w fun e w' => e = .returned (.complex .f64 A B) ∧ w = w')) (t2 : Hid (∀ w, Calls Try.prog 13 #[.int .i64 (-3)] w fun e w' => e = .returned (.complex .f64 C D) ∧ w = w')) :
    Calls Try.prog 15 #[] w fun e w' => e = .returned (.bool true) ∧ w = w' := by
  go_enter Try.func15, Try.ntmps15
  go_wp2_with (first | (go_at_call 13; (with_reducible refine (t1.out _).mono ?_); rintro e w' ⟨rfl, rfl⟩) | (go_at_call 13; (with_reducible refine (t2.out _).mono ?_); rintro e w' ⟨rfl, rfl⟩))
  go_ret
  exact ⟨rfl, rfl⟩
theorem awake_any (w : World) : Calls Try.prog 15 #[] w fun e w' => e = .returned (.bool true) ∧ w = w' := awake_of _ _ _ _ w awk1 awk2 awk3 awk4 awt1 awt2
end Go.Proofs.Ytehjjjdelpbkpaa
