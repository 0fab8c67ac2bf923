/-
  Plain facts on the functions of package key: a number's eight bytes.
-/
import Derived.Test.YtldndnjajpjajaaE
import Derived.Test.YtldndnjajpjajaaKf14
import Derived.Test.YtldndnjajpjajaaKf17
import Derived.Test.YtldndnjajpjajaaKf18
import Derived.Test.YtldndnjajpjajaaKf19
namespace Go.Proofs.Ytldndnjajpjajaa.E
open Go.RowKit Go.Proofs.Ytldndnjajpjajaa.K Go.Proofs.YtldndnjajpjajaaW.PrintWords Go.Proofs.YtldndnjajpjajaaW.PrintLast Go.Proofs.YtldndnjajpjajaaW.PrintMore

theorem wrap_u64_in {x : Int} (h0 : 0 ≤ x) (h1 : x < 18446744073709551616) : IntKind.u64.wrap x = x := by
  simp [IntKind.wrap, IntKind.bits, IntKind.signed]; omega
theorem xor_top_nat (a : Nat) (h : a < 18446744073709551616) : a ^^^ 9223372036854775808 = (a + 9223372036854775808) % 18446744073709551616 := by
  have h1 : (a ^^^ 2 ^ 63) / 2 ^ 63 = (a / 2 ^ 63) ^^^ (2 ^ 63 / 2 ^ 63) := Nat.xor_div_two_pow
  have h2 : (a ^^^ 2 ^ 63) % 2 ^ 63 = (a % 2 ^ 63) ^^^ (2 ^ 63 % 2 ^ 63) := Nat.xor_mod_two_pow
  have h3 : a / 2 ^ 63 = 0 ∨ a / 2 ^ 63 = 1 := by omega
  simp only [Nat.mod_self, Nat.xor_zero] at h2
  rw [show 2 ^ 63 / 2 ^ 63 = 1 from rfl] at h1
  rw [show (9223372036854775808 : Nat) = 2 ^ 63 from rfl]
  rcases h3 with h3 | h3
  · rw [h3] at h1
    have : (0 : Nat) ^^^ 1 = 1 := rfl
    omega
  · rw [h3] at h1
    have : (1 : Nat) ^^^ 1 = 0 := rfl
    omega
theorem xor_top {x : Int} (h0 : 0 ≤ x) (h1 : x < 18446744073709551616) : Go.bits .xor .u64 x 9223372036854775808 = (x + 9223372036854775808) % 18446744073709551616 := by
  obtain ⟨a, rfl⟩ := Int.eq_ofNat_of_zero_le h0
  have ha : a < 18446744073709551616 := by omega
  have ha' : a % 2 ^ IntKind.u64.bits = a := Nat.mod_eq_of_lt ha
  have hb' : 9223372036854775808 % 2 ^ IntKind.u64.bits = 9223372036854775808 := rfl
  have hx : bits .xor .u64 (a : Int) ((9223372036854775808 : Nat) : Int) = IntKind.u64.wrap ((a ^^^ 9223372036854775808 : Nat) : Int) := by
    simp only [bits, BitVec.ofInt_natCast, BitVec.toNat_xor, BitVec.toNat_ofNat, ha', hb']
  refine hx.trans ?_
  rw [xor_top_nat a ha, wrap_u64_in (by omega) (by omega)]
  omega
/-- A number as it is written: from 0 on. -/
def lift (n : Int) : Int := n + 9223372036854775808
theorem lift_eval {n : Int} (h0 : -9223372036854775808 ≤ n) (h1 : n < 9223372036854775808) : Go.bits .xor .u64 (IntKind.u64.wrap n) 9223372036854775808 = lift n := by
  have hw : IntKind.u64.wrap n = n % 18446744073709551616 := by simp [IntKind.wrap, IntKind.bits, IntKind.signed]
  rw [hw, xor_top (by omega) (by omega)]
  unfold lift
  omega
def num8 (u : Int) : List Int := [u / 72057594037927936 % 256, u / 281474976710656 % 256, u / 1099511627776 % 256, u / 4294967296 % 256, u / 16777216 % 256, u / 65536 % 256, u / 256 % 256, u / 1 % 256]
theorem num8_len (u : Int) : (num8 u).length = 8 := rfl
theorem By.num8 (u : Int) : By (num8 u) := fun x hx => by
  simp only [E.num8, List.mem_cons, List.not_mem_nil, or_false] at hx
  omega
theorem key_Number_eval (b : List Int) {n : Int} (h0 : -9223372036854775808 ≤ n) (h1 : n < 9223372036854775808) (hl : b.length + 8 < 140737488355328) (k : Nat) : key_Number.f (k + 9) b n = some (b ++ num8 (lift n)) := by
  unfold key_Number.f
  rw [if_pos (by simp; omega), lift_eval h0 h1]
  generalize lift n = u
  simp only [List.nil_append, key_Number.l0, wrap64, shr, IntKind.bits]
  simp only [show ((7 : Int) ≥ 0) from by decide, if_true]
  simp [List.length_append, num8]
  omega
/-- Bytes as a number. -/
def val : List Int → Int → Int
  | [], v => v
  | x :: r, v => val r (v * 256 + x)
theorem or_byte {v x : Int} (h0 : 0 ≤ v) (h1 : v < 72057594037927936) (hx : 0 ≤ x ∧ x < 256) : Go.bits .or .u64 (IntKind.u64.wrap (v * 256)) (IntKind.u64.wrap x) = v * 256 + x := by
  rw [wrap_u64_in (by omega) (by omega), wrap_u64_in (by omega) (by omega)]
  exact bits_join .u64 64 (by decide) (fun n a b => wrap_u64_in a (by omega)) 8 (v * 256) x (by omega) (by omega) (by omega) hx.1 (by omega) (by omega)
theorem val_take {l : List Int} {i : Nat} {v : Int} : val (l.take (i + 1)) v = if i < l.length then val (l.take i) v * 256 + rd l i else val l v := by
  induction l generalizing i v with
  | nil => simp [val]
  | cons x r ih =>
    cases i with
    | zero => simp [val, Go.Proofs.YtldndnjajpjajaaW.PrintWords.rd]
    | succ i =>
      simp only [List.take_succ_cons, val, ih, List.length_cons]
      by_cases h : i < r.length
      · rw [if_pos h, if_pos (by omega)]
        congr 1
      · rw [if_neg h, if_neg (by omega)]
theorem val_bound {l : List Int} (hb : By l) : ∀ {v B : Int}, 0 ≤ v → v < B → 0 ≤ val l v ∧ val l v < B * 256 ^ l.length := by
  induction l with
  | nil => intro v B h0 h1; simp [val]; exact ⟨h0, h1⟩
  | cons x r ih =>
    intro v B h0 h1
    have := ih hb.cons.2 (v := v * 256 + x) (B := B * 256) (by have := hb.cons.1; omega) (by have := hb.cons.1; omega)
    simp only [val, List.length_cons]
    rw [Int.pow_succ, Int.mul_comm (256 ^ r.length) 256, ← Int.mul_assoc]
    exact this
theorem pow256_le {i : Nat} (h : i ≤ 7) : (256 : Int) ^ i ≤ 72057594037927936 := by
  have : (256 : Nat) ^ i ≤ 256 ^ 7 := Nat.pow_le_pow_right (by decide) h
  have h2 : ((256 ^ i : Nat) : Int) ≤ ((256 ^ 7 : Nat) : Int) := by exact_mod_cast this
  simpa using h2
theorem val_lt {l : List Int} (hb : By l) (h : l.length ≤ 7) : 0 ≤ val l 0 ∧ val l 0 < 72057594037927936 := by
  have h1 := val_bound hb (v := 0) (B := 1) (by omega) (by omega)
  have h2 := pow256_le h
  omega
theorem val_lt8 {l : List Int} (hb : By l) (h : l.length ≤ 8) : 0 ≤ val l 0 ∧ val l 0 < 18446744073709551616 := by
  have h1 := val_bound hb (v := 0) (B := 1) (by omega) (by omega)
  have h2 : (256 : Nat) ^ l.length ≤ 256 ^ 8 := Nat.pow_le_pow_right (by decide) h
  have h3 : ((256 ^ l.length : Nat) : Int) ≤ ((256 ^ 8 : Nat) : Int) := by exact_mod_cast h2
  simp at h3
  omega
theorem take_loop (y : List Int) (hy : y.length ≤ 8) (hb : By y) : ∀ (d k i : Nat), i + d = y.length → d < k →
    key_TakeNumber.l0 k (val (y.take i) 0) y (y.length : Int) (i : Int) = some (wrap64 (Go.bits .xor .u64 (val y 0) 9223372036854775808), 0)
  | 0, k, i, hi, hk => by
    obtain ⟨k, rfl⟩ : ∃ m, k = m + 1 := ⟨k - 1, by omega⟩
    simp only [key_TakeNumber.l0]
    rw [if_neg (by omega), List.take_of_length_le (by omega)]
  | d + 1, k, i, hi, hk => by
    obtain ⟨k, rfl⟩ : ∃ m, k = m + 1 := ⟨k - 1, by omega⟩
    simp only [key_TakeNumber.l0]
    have hw : wrap64 ((i : Int) + 1) = ((i + 1 : Nat) : Int) := by rw [wrap_in (by omega) (by omega)]; omega
    have hv := val_lt (hb.take i) (by rw [List.length_take]; omega)
    have ht := val_take (l := y) (i := i) (v := 0)
    rw [if_pos (by omega)] at ht
    rw [if_pos (by omega), if_pos (by omega), if_pos (by omega), hw, or_byte hv.1 hv.2 (hb.rd i), ← ht]
    exact take_loop y hy hb d k (i + 1) (by omega) (by omega)
theorem read_loop (y : List Int) (hy : y.length ≤ 8) (hb : By y) : ∀ (d k i : Nat), i + d = y.length → d < k →
    halyardref2_Read.l0 k (val (y.take i) 0) y (y.length : Int) (i : Int) = some (val y 0, 0)
  | 0, k, i, hi, hk => by
    obtain ⟨k, rfl⟩ : ∃ m, k = m + 1 := ⟨k - 1, by omega⟩
    simp only [halyardref2_Read.l0]
    rw [if_neg (by omega), List.take_of_length_le (by omega)]
  | d + 1, k, i, hi, hk => by
    obtain ⟨k, rfl⟩ : ∃ m, k = m + 1 := ⟨k - 1, by omega⟩
    simp only [halyardref2_Read.l0]
    have hw : wrap64 ((i : Int) + 1) = ((i + 1 : Nat) : Int) := by rw [wrap_in (by omega) (by omega)]; omega
    have hv := val_lt (hb.take i) (by rw [List.length_take]; omega)
    have ht := val_take (l := y) (i := i) (v := 0)
    rw [if_pos (by omega)] at ht
    rw [if_pos (by omega), if_pos (by omega), if_pos (by omega), hw, or_byte hv.1 hv.2 (hb.rd i), ← ht]
    exact read_loop y hy hb d k (i + 1) (by omega) (by omega)
/-- The number at the front of bytes. -/
def tnum (l : List Int) : Int × Int := if l.length < 8 then (0, 5) else (wrap64 (Go.bits .xor .u64 (val (l.take 8) 0) 9223372036854775808), 0)
theorem key_TakeNumber_eval {l : List Int} (hb : By l) (k : Nat) : key_TakeNumber.f (k + 9) l = some (tnum l) := by
  unfold key_TakeNumber.f tnum
  by_cases h : l.length < 8
  · rw [if_pos (by omega), if_pos h]
  · rw [if_neg (by omega), if_pos (by omega), if_neg h]
    have hl : (l.take 8).length = 8 := by rw [List.length_take]; omega
    exact take_loop (l.take 8) (by omega) (hb.take 8) 8 (k + 9) 0 (by omega) (by omega)
theorem ref_TakeNumber_eval {l : List Int} (hb : By l) (k : Nat) : halyardref2_TakeNumber.f (k + 10) l = some (tnum l) := by
  unfold halyardref2_TakeNumber.f halyardref2_Read.f tnum
  rw [if_neg (by decide)]
  simp only [halyardref2_Read.j0]
  rw [if_neg (by decide)]
  by_cases h : l.length < 8
  · rw [if_pos (by omega), if_pos h]
    rfl
  · rw [if_neg (by omega), if_pos (by decide), if_pos (by omega), if_neg h]
    have hl : (l.take 8).length = 8 := by rw [List.length_take]; omega
    have := read_loop (l.take 8) (by omega) (hb.take 8) 8 (k + 9) 0 (by omega) (by omega)
    simp only [Option.bind_some, show ((8 : Int).toNat) = 8 from rfl]
    have e : halyardref2_Read.l0 (k + 9) 0 (l.take 8) ((l.take 8).length : Int) 0 = some (val (l.take 8) 0, 0) := this
    rw [e]
    rfl
theorem ref_Number_eval (b : List Int) {n : Int} (h0 : -9223372036854775808 ≤ n) (h1 : n < 9223372036854775808) (hl : b.length + 8 < 140737488355328) (k : Nat) : halyardref2_Number.f (k + 10) b n = some (b ++ num8 (lift n)) := by
  unfold halyardref2_Number.f halyardref2_Fixed.f
  rw [lift_eval h0 h1, if_neg (by decide)]
  generalize lift n = u
  simp only [halyardref2_Fixed.j0, halyardref2_Fixed.l0, wrap64, shr, IntKind.bits]
  simp [List.length_append, num8, IntKind.wrap, IntKind.bits, IntKind.signed]
  omega
end Go.Proofs.Ytldndnjajpjajaa.E
