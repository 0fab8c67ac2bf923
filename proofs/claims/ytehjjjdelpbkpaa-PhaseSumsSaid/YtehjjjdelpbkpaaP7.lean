/-
  Package phase: two rows of four told apart.
-/
import Derived.Test.YtehjjjdelpbkpaaP6
import Derived.ChangeKeysEq
namespace Go.Proofs.Ytehjjjdelpbkpaa
open Go.RowKit Go
theorem eqi (d : Nat) (a b : Int) (W : World) : (Op.equalIn (d + 1) 2 (.int .i64 a) (.int .i64 b)).run Try.prog W = .ok (a == b) W := by
  simp [Op.equalIn, Sem.run_bind, run_underlying Try.underlying2]
theorem eqc (d : Nat) (a b a' b' : Nat) (W : World) : (Op.equalIn (d + 1) 23 (.complex .f64 a b) (.complex .f64 a' b')).run Try.prog W = .ok (Op.floatEq .f64 a a' && Op.floatEq .f64 b b') W := by
  simp [Op.equalIn, Sem.run_bind, run_underlying Try.underlying23]
theorem part2 (cs : Array Value) (j : Nat) (v : Value) (h : cs[j]? = some v) (W : World) : (part 2 cs j).run Try.prog W = .ok v W := by
  simp [part, Sem.run_bind, isAgg, run_underlying Try.underlying2, h]
theorem part23 (cs : Array Value) (j : Nat) (v : Value) (h : cs[j]? = some v) (W : World) : (part 23 cs j).run Try.prog W = .ok v W := by
  simp [part, Sem.run_bind, isAgg, run_underlying Try.underlying23, h]
def row4 (a b : Nat → Nat) : Array Value := #[.complex .f64 (a 0) (b 0), .complex .f64 (a 1) (b 1), .complex .f64 (a 2) (b 2), .complex .f64 (a 3) (b 3)]
theorem eq49 (n m : Nat → Int) (W : World) : (Op.equalIn 10000 49 (.agg (mt n)) (.agg (mt m))).run Try.prog W = .ok ((n 0 == m 0) && (n 1 == m 1) && (n 2 == m 2) && (n 3 == m 3)) W := by
  rw [run_equalIn_array W 9999 (mt n) (mt m) Try.underlying49 (show Try.prog.info? 2 = some Try.prog.types[2] from by kernel_rfl)]
  have hc : Try.prog.cellsOf 2 = 1 := by kernel_rfl
  have hr : List.range 4 = [0, 1, 2, 3] := rfl
  have a0 : ∀ W, (part 2 (mt n) 0).run Try.prog W = .ok (.int .i64 (n 0)) W := part2 (mt n) 0 _ rfl
  have b0 : ∀ W, (part 2 (mt m) 0).run Try.prog W = .ok (.int .i64 (m 0)) W := part2 (mt m) 0 _ rfl
  have c0 : ∀ W, (Op.equalIn 9999 2 (.int .i64 (n 0)) (.int .i64 (m 0))).run Try.prog W = .ok ((n 0 == m 0)) W := eqi 9998 _ _
  generalize (n 0 == m 0) = r0 at c0 ⊢
  have a1 : ∀ W, (part 2 (mt n) 1).run Try.prog W = .ok (.int .i64 (n 1)) W := part2 (mt n) 1 _ rfl
  have b1 : ∀ W, (part 2 (mt m) 1).run Try.prog W = .ok (.int .i64 (m 1)) W := part2 (mt m) 1 _ rfl
  have c1 : ∀ W, (Op.equalIn 9999 2 (.int .i64 (n 1)) (.int .i64 (m 1))).run Try.prog W = .ok ((n 1 == m 1)) W := eqi 9998 _ _
  generalize (n 1 == m 1) = r1 at c1 ⊢
  have a2 : ∀ W, (part 2 (mt n) 2).run Try.prog W = .ok (.int .i64 (n 2)) W := part2 (mt n) 2 _ rfl
  have b2 : ∀ W, (part 2 (mt m) 2).run Try.prog W = .ok (.int .i64 (m 2)) W := part2 (mt m) 2 _ rfl
  have c2 : ∀ W, (Op.equalIn 9999 2 (.int .i64 (n 2)) (.int .i64 (m 2))).run Try.prog W = .ok ((n 2 == m 2)) W := eqi 9998 _ _
  generalize (n 2 == m 2) = r2 at c2 ⊢
  have a3 : ∀ W, (part 2 (mt n) 3).run Try.prog W = .ok (.int .i64 (n 3)) W := part2 (mt n) 3 _ rfl
  have b3 : ∀ W, (part 2 (mt m) 3).run Try.prog W = .ok (.int .i64 (m 3)) W := part2 (mt m) 3 _ rfl
  have c3 : ∀ W, (Op.equalIn 9999 2 (.int .i64 (n 3)) (.int .i64 (m 3))).run Try.prog W = .ok ((n 3 == m 3)) W := eqi 9998 _ _
  generalize (n 3 == m 3) = r3 at c3 ⊢
  simp only [hr, hc, Op.eqItems, Sem.run_bind, Nat.zero_mul, Nat.mul_one, a0, a1, a2, a3, b0, b1, b2, b3, c0, c1, c2, c3, Result.andThen_ok]
  cases r0 <;> cases r1 <;> cases r2 <;> cases r3 <;> simp [a0, a1, a2, a3, b0, b1, b2, b3, c0, c1, c2, c3]
theorem eq31 (a b c d : Nat → Nat) (W : World) : (Op.equalIn 10000 31 (.agg (row4 a b)) (.agg (row4 c d))).run Try.prog W = .ok ((Op.floatEq .f64 (a 0) (c 0) && Op.floatEq .f64 (b 0) (d 0)) && (Op.floatEq .f64 (a 1) (c 1) && Op.floatEq .f64 (b 1) (d 1)) && (Op.floatEq .f64 (a 2) (c 2) && Op.floatEq .f64 (b 2) (d 2)) && (Op.floatEq .f64 (a 3) (c 3) && Op.floatEq .f64 (b 3) (d 3))) W := by
  rw [run_equalIn_array W 9999 (row4 a b) (row4 c d) Try.underlying31 (show Try.prog.info? 23 = some Try.prog.types[23] from by kernel_rfl)]
  have hc : Try.prog.cellsOf 23 = 1 := by kernel_rfl
  have hr : List.range 4 = [0, 1, 2, 3] := rfl
  have a0 : ∀ W, (part 23 (row4 a b) 0).run Try.prog W = .ok (.complex .f64 (a 0) (b 0)) W := part23 (row4 a b) 0 _ rfl
  have b0 : ∀ W, (part 23 (row4 c d) 0).run Try.prog W = .ok (.complex .f64 (c 0) (d 0)) W := part23 (row4 c d) 0 _ rfl
  have c0 : ∀ W, (Op.equalIn 9999 23 (.complex .f64 (a 0) (b 0)) (.complex .f64 (c 0) (d 0))).run Try.prog W = .ok ((Op.floatEq .f64 (a 0) (c 0) && Op.floatEq .f64 (b 0) (d 0))) W := eqc 9998 _ _ _ _
  generalize (Op.floatEq .f64 (a 0) (c 0) && Op.floatEq .f64 (b 0) (d 0)) = r0 at c0 ⊢
  have a1 : ∀ W, (part 23 (row4 a b) 1).run Try.prog W = .ok (.complex .f64 (a 1) (b 1)) W := part23 (row4 a b) 1 _ rfl
  have b1 : ∀ W, (part 23 (row4 c d) 1).run Try.prog W = .ok (.complex .f64 (c 1) (d 1)) W := part23 (row4 c d) 1 _ rfl
  have c1 : ∀ W, (Op.equalIn 9999 23 (.complex .f64 (a 1) (b 1)) (.complex .f64 (c 1) (d 1))).run Try.prog W = .ok ((Op.floatEq .f64 (a 1) (c 1) && Op.floatEq .f64 (b 1) (d 1))) W := eqc 9998 _ _ _ _
  generalize (Op.floatEq .f64 (a 1) (c 1) && Op.floatEq .f64 (b 1) (d 1)) = r1 at c1 ⊢
  have a2 : ∀ W, (part 23 (row4 a b) 2).run Try.prog W = .ok (.complex .f64 (a 2) (b 2)) W := part23 (row4 a b) 2 _ rfl
  have b2 : ∀ W, (part 23 (row4 c d) 2).run Try.prog W = .ok (.complex .f64 (c 2) (d 2)) W := part23 (row4 c d) 2 _ rfl
  have c2 : ∀ W, (Op.equalIn 9999 23 (.complex .f64 (a 2) (b 2)) (.complex .f64 (c 2) (d 2))).run Try.prog W = .ok ((Op.floatEq .f64 (a 2) (c 2) && Op.floatEq .f64 (b 2) (d 2))) W := eqc 9998 _ _ _ _
  generalize (Op.floatEq .f64 (a 2) (c 2) && Op.floatEq .f64 (b 2) (d 2)) = r2 at c2 ⊢
  have a3 : ∀ W, (part 23 (row4 a b) 3).run Try.prog W = .ok (.complex .f64 (a 3) (b 3)) W := part23 (row4 a b) 3 _ rfl
  have b3 : ∀ W, (part 23 (row4 c d) 3).run Try.prog W = .ok (.complex .f64 (c 3) (d 3)) W := part23 (row4 c d) 3 _ rfl
  have c3 : ∀ W, (Op.equalIn 9999 23 (.complex .f64 (a 3) (b 3)) (.complex .f64 (c 3) (d 3))).run Try.prog W = .ok ((Op.floatEq .f64 (a 3) (c 3) && Op.floatEq .f64 (b 3) (d 3))) W := eqc 9998 _ _ _ _
  generalize (Op.floatEq .f64 (a 3) (c 3) && Op.floatEq .f64 (b 3) (d 3)) = r3 at c3 ⊢
  simp only [hr, hc, Op.eqItems, Sem.run_bind, Nat.zero_mul, Nat.mul_one, a0, a1, a2, a3, b0, b1, b2, b3, c0, c1, c2, c3, Result.andThen_ok]
  cases r0 <;> cases r1 <;> cases r2 <;> cases r3 <;> simp [a0, a1, a2, a3, b0, b1, b2, b3, c0, c1, c2, c3]
end Go.Proofs.Ytehjjjdelpbkpaa
