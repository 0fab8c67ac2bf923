/-
  Plain facts on the functions of package key: a part comes back out of its bytes; a number out of its eight.
-/
import Derived.Test.YtldndnjajpjajaaEn
import Derived.Test.YtldndnjajpjajaaKf20
namespace Go.Proofs.Ytldndnjajpjajaa.E
open Go.RowKit Go.Proofs.Ytldndnjajpjajaa.K Go.Proofs.YtldndnjajpjajaaW.PrintWords Go.Proofs.YtldndnjajpjajaaW.PrintLast Go.Proofs.YtldndnjajpjajaaW.PrintMore

theorem tbg_zero (y : Int) (r acc : List Int) (i : Int) : tbg (0 :: y :: r) acc i = if y = 255 then tbg r (acc ++ [0]) (i + 2) else if y = 1 then (acc, i + 2, 0) else ([], 0, 3) := by
  simp [tbg]
theorem tbg_other {x : Int} (h : x ≠ 0) (r acc : List Int) (i : Int) : tbg (x :: r) acc i = tbg r (acc ++ [x]) (i + 1) := by
  cases r <;> simp [tbg, h]
theorem tbg_enc (behind : List Int) : ∀ (p acc : List Int) (i : Int), tbg (enc p ++ 0 :: 1 :: behind) acc i = (acc ++ p, i + (enc p).length + 2, 0)
  | [], acc, i => by
    simp only [enc, List.nil_append]
    rw [tbg_zero]
    simp
  | x :: r, acc, i => by
    by_cases h : x = 0
    · subst h
      simp only [enc, if_true, List.cons_append]
      rw [tbg_zero, if_pos rfl, tbg_enc behind r]
      simp
      omega
    · simp only [enc, if_neg h, List.cons_append]
      rw [tbg_other h, tbg_enc behind r]
      simp
      omega
theorem tbg_short : ∀ (p : List Int) (n : Nat) (acc : List Int) (i : Int), n < (enc p).length + 2 → tbg ((enc p ++ [0, 1]).take n) acc i = ([], 0, 5)
  | [], n, acc, i, h => by
    simp only [enc, List.nil_append, List.length_nil] at h ⊢
    match n, h with
    | 0, _ => rfl
    | 1, _ => simp [tbg]
    | n + 2, h => omega
  | x :: r, n, acc, i, h => by
    by_cases h0 : x = 0
    · subst h0
      simp only [enc, if_true, List.length_cons, List.cons_append] at h ⊢
      match n, h with
      | 0, _ => rfl
      | 1, _ => simp [tbg]
      | n + 2, h =>
        simp only [List.take_succ_cons]
        rw [tbg_zero, if_pos rfl]
        exact tbg_short r n _ _ (by omega)
    · simp only [enc, if_neg h0, List.length_cons, List.cons_append] at h ⊢
      match n, h with
      | 0, _ => rfl
      | n + 1, h =>
        simp only [List.take_succ_cons]
        rw [tbg_other h0]
        exact tbg_short r n _ _ (by omega)
theorem val_num8 {u : Int} (h0 : 0 ≤ u) (h1 : u < 18446744073709551616) : val (num8 u) 0 = u := by
  have e (a : Int) (b : Int) (h : a = b / 256) : a * 256 + b % 256 = b := by omega
  simp only [val, num8]
  have h7 : u / 72057594037927936 % 256 = u / 72057594037927936 := by omega
  rw [h7, Int.zero_mul, Int.zero_add]
  rw [e (u / 72057594037927936) (u / 281474976710656) (by rw [Int.ediv_ediv_of_nonneg (by decide)]; rfl)]
  rw [e (u / 281474976710656) (u / 1099511627776) (by rw [Int.ediv_ediv_of_nonneg (by decide)]; rfl)]
  rw [e (u / 1099511627776) (u / 4294967296) (by rw [Int.ediv_ediv_of_nonneg (by decide)]; rfl)]
  rw [e (u / 4294967296) (u / 16777216) (by rw [Int.ediv_ediv_of_nonneg (by decide)]; rfl)]
  rw [e (u / 16777216) (u / 65536) (by rw [Int.ediv_ediv_of_nonneg (by decide)]; rfl)]
  rw [e (u / 65536) (u / 256) (by rw [Int.ediv_ediv_of_nonneg (by decide)]; rfl)]
  rw [e (u / 256) (u / 1) (by simp)]
  simp
theorem tnum_num8 {n : Int} (h0 : -9223372036854775808 ≤ n) (h1 : n < 9223372036854775808) (behind : List Int) : tnum (num8 (lift n) ++ behind) = (n, 0) := by
  unfold tnum
  rw [if_neg (by simp [num8_len])]
  rw [List.take_append_of_le_length (by simp [num8_len]), List.take_of_length_le (by simp [num8_len]), val_num8 (by unfold lift; omega) (by unfold lift; omega)]
  rw [xor_top (by unfold lift; omega) (by unfold lift; omega)]
  unfold lift wrap64
  simp only [Prod.mk.injEq, and_true]
  omega
end Go.Proofs.Ytldndnjajpjajaa.E
