/-
  Whole numbers in floats of 64 bits: as long as all is whole and below 2 to the 53rd, sums, differences, products, quarters and comparisons of floats are those of the numbers.
-/
import Derived.Laws.ComplexArith
import Derived.Laws.FloatArith
namespace Go.Proofs.Ytehjjjdelpbkpaa.F
open Ieee

/-- The word stands for the whole number n (a zero may have either sign). -/
def Fl (b : Nat) (n : Int) : Prop :=
  (∃ s p, double.read b = .number s 0 p ∧ n = 0) ∨ ∃ s m p, double.read b = .number s m p ∧ m ≠ 0 ∧ -52 ≤ p ∧ signed s m (p + 52).toNat = n * 2 ^ 52

theorem bin : double.binade = 4503599627370496 := by decide
theorem sgn : double.signWeight = 9223372036854775808 := by decide
theorem inf : double.infRung = 9218868437227405312 := by decide
theorem lp : double.leastPlace = -1074 := by decide

theorem read_zero (neg : Bool) : double.read (double.word neg 0) = .number neg 0 (-1074) := by cases neg <;> decide
theorem log_bounds {n : Nat} (h : n ≠ 0) : 2 ^ n.log2 ≤ n ∧ n < 2 ^ (n.log2 + 1) := ⟨Nat.log2_self_le h, Nat.lt_log2_self⟩
theorem log_shift {m k : Nat} (h : m ≠ 0) : (m * 2 ^ k).log2 = m.log2 + k := by
  have h1 := log_bounds h
  have hm : m * 2 ^ k ≠ 0 := Nat.mul_ne_zero h (Nat.pos_iff_ne_zero.1 (Nat.two_pow_pos k))
  rw [Nat.log2_eq_iff hm]
  rw [Nat.pow_add, Nat.pow_add, Nat.pow_add, Nat.pow_one]
  have h2 := Nat.two_pow_pos k
  refine ⟨Nat.mul_le_mul_right _ h1.1, ?_⟩
  have := Nat.mul_lt_mul_of_pos_right h1.2 h2
  rw [Nat.pow_add, Nat.pow_one] at this
  rw [Nat.mul_assoc, Nat.mul_comm (2 ^ k) 2, ← Nat.mul_assoc]
  exact this
theorem pow_eq {a b : Nat} (h : a = b) : 2 ^ a = 2 ^ b := by rw [h]
/-- Nothing is dropped: 2^d divides n. -/
theorem cut_exact (neg : Bool) {n d : Nat} (hn : n ≠ 0) (q : Nat) (h : n = q * 2 ^ d) : Toward.even.cut neg n d = q := by
  have hq : q ≠ 0 := by rintro rfl; simp at h; exact hn h
  have hl : n.log2 = q.log2 + d := by rw [h]; exact log_shift hq
  have hmin : min d (n.log2 + 2) = d := by omega
  unfold Toward.cut
  simp only [hmin, Nat.one_shiftLeft]
  have h1 : n / 2 ^ d = q := by rw [h]; exact Nat.mul_div_cancel _ (Nat.two_pow_pos d)
  have h2 : n % 2 ^ d = 0 := by rw [h]; exact Nat.mul_mod_left _ _
  rw [h1, h2]
  have : ¬ (2 ^ d < 2 * 0) := by omega
  have h3 : ¬ (2 ^ d = 0) := Nat.pos_iff_ne_zero.1 (Nat.two_pow_pos d)
  simp [this, h3]
theorem key1 {mag N A a c S : Nat} (hN : mag * 2 ^ A = N * 2 ^ S) (h : a + S = A + c) : mag * 2 ^ a = N * 2 ^ c := by
  refine Nat.eq_of_mul_eq_mul_right (Nat.two_pow_pos S) ?_
  rw [Nat.mul_assoc, ← Nat.pow_add, h, Nat.pow_add, ← Nat.mul_assoc, hN, Nat.mul_assoc, Nat.mul_assoc, Nat.mul_comm (2 ^ S)]
theorem key2 {mag N A D c S : Nat} (hN : mag * 2 ^ A = N * 2 ^ S) (h : A + D + c = S) : mag = N * 2 ^ c * 2 ^ D := by
  refine Nat.eq_of_mul_eq_mul_right (Nat.two_pow_pos A) ?_
  rw [hN, Nat.mul_assoc, Nat.mul_assoc, ← Nat.pow_add, ← Nat.pow_add]
  exact congrArg (N * ·) (pow_eq (by omega))
theorem word_div {W r : Nat} {neg : Bool} (hr : r < W) : (if neg = true then W + r else r) / W % 2 = if neg = true then 1 else 0 := by
  cases neg
  · simp [Nat.div_eq_of_lt hr]
  · have : 0 < W := by omega
    simp [Nat.add_div_left _ this, Nat.div_eq_of_lt hr]
theorem word_mod {W r : Nat} {neg : Bool} (hr : r < W) : (if neg = true then W + r else r) % W = r := by
  cases neg <;> simp [Nat.mod_eq_of_lt hr]
theorem rung_eq {B e K : Nat} (h1 : B ≤ K) : (e + 1022) * B + K = (K - B) + B * (e + 1023) := by
  obtain ⟨j, rfl⟩ := Nat.exists_eq_add_of_le h1
  have h2 : B * (e + 1023) = (e + 1022) * B + B := by rw [Nat.mul_comm B, ← Nat.succ_mul]
  rw [h2]
  omega
theorem rung_mod {B e K : Nat} (h1 : B ≤ K) (h2 : K < 2 * B) : ((e + 1022) * B + K) % B = K - B := by
  rw [rung_eq h1, Nat.add_mul_mod_self_left, Nat.mod_eq_of_lt (by omega)]
theorem rung_div {B e K : Nat} (h1 : B ≤ K) (h2 : K < 2 * B) : ((e + 1022) * B + K) / B = e + 1023 := by
  rw [rung_eq h1, Nat.add_mul_div_left _ _ (by omega), Nat.div_eq_of_lt (by omega), Nat.zero_add]
theorem rung_big {B e K : Nat} (h1 : B ≤ K) : B ≤ (e + 1022) * B + K := Nat.le_trans h1 (Nat.le_add_left _ _)
theorem rung_small0 (B e K : Nat) (he : e ≤ 52) (hk : K < 2 * B) : (e + 1022) * B + K < 2047 * B := by
  have h1 : (e + 1022) * B ≤ 1074 * B := Nat.mul_le_mul_right _ (by omega)
  omega
theorem inf_eq : double.infRung = 2047 * double.binade := rfl
theorem rung_small {e K : Nat} (he : e ≤ 52) (hk : K < 2 * double.binade) : (e + 1022) * double.binade + K < double.infRung := by
  rw [inf_eq]
  exact rung_small0 _ e K he hk
theorem inf_lt : double.infRung < double.signWeight := by decide
/-- THE LAW: a whole number below 2^53, written in whatever way, is read back. -/
theorem read_nearest (neg : Bool) (mag : Nat) (place : Int) (S : Nat) (N : Nat) (hmag : mag ≠ 0) (hS : 0 ≤ place + S) (hN : mag * 2 ^ (place + S).toNat = N * 2 ^ S) (hlt : N < 9007199254740992) :
    double.read (double.nearest neg mag place) = .number neg (N * 2 ^ (52 - N.log2)) ((N.log2 : Int) - 52) := by
  have hN0 : N ≠ 0 := by
    rintro rfl
    rw [Nat.zero_mul] at hN
    rcases Nat.mul_eq_zero.1 hN with h | h
    · exact hmag h
    · exact absurd h (Nat.pos_iff_ne_zero.1 (Nat.two_pow_pos _))
  have hlN := log_bounds hN0
  have he : N.log2 ≤ 52 := by
    have : N.log2 < 53 := (Nat.log2_lt hN0).2 (by rw [show (2 : Nat) ^ 53 = 9007199254740992 from rfl]; exact hlt)
    omega
  have hll : mag.log2 + (place + S).toNat = N.log2 + S := by rw [← log_shift hmag, ← log_shift hN0, hN]
  have hplace : place + mag.log2 = N.log2 := by omega
  -- the digits that are kept
  have hkept : ∀ last : Int, last = (N.log2 : Int) - 52 → Toward.even.cut neg (mag <<< (place - last).toNat) (last - place).toNat = N * 2 ^ (52 - N.log2) := by
    rintro last rfl
    rw [Nat.shiftLeft_eq]
    refine cut_exact neg (Nat.mul_ne_zero hmag (Nat.pos_iff_ne_zero.1 (Nat.two_pow_pos _))) _ ?_
    rcases Int.le_total ((N.log2 : Int) - 52) place with h | h
    · have e2 : (((N.log2 : Int) - 52) - place).toNat = 0 := by omega
      rw [e2, Nat.pow_zero, Nat.mul_one]
      exact key1 hN (by omega)
    · have e1 : (place - ((N.log2 : Int) - 52)).toNat = 0 := by omega
      rw [e1, Nat.pow_zero, Nat.mul_one]
      exact key2 hN (by omega)
  have hlast : max (place + mag.log2 - double.fractionBits) double.leastPlace = (N.log2 : Int) - 52 := by
    rw [hplace, lp]
    show max ((N.log2 : Int) - (52 : Nat)) (-1074) = _
    omega
  have hk1 : 2 ^ 52 ≤ N * 2 ^ (52 - N.log2) := by
    have : (2 : Nat) ^ 52 = 2 ^ N.log2 * 2 ^ (52 - N.log2) := by rw [← Nat.pow_add]; exact pow_eq (by omega)
    rw [this]
    exact Nat.mul_le_mul_right _ hlN.1
  have hk2 : N * 2 ^ (52 - N.log2) < 2 ^ 53 := by
    have : (2 : Nat) ^ 53 = 2 ^ (N.log2 + 1) * 2 ^ (52 - N.log2) := by rw [← Nat.pow_add]; exact pow_eq (by omega)
    rw [this]
    exact Nat.mul_lt_mul_of_pos_right hlN.2 (Nat.two_pow_pos _)
  have hB : double.binade ≤ N * 2 ^ (52 - N.log2) := hk1
  have hB2 : N * 2 ^ (52 - N.log2) < 2 * double.binade := hk2
  unfold Format.nearest
  rw [if_neg hmag]
  simp only [hlast]
  rw [hkept _ rfl]
  clear hkept hlast hk1 hk2
  generalize N * 2 ^ (52 - N.log2) = K at hB hB2 ⊢
  have e4 : (((N.log2 : Int) - 52) - double.leastPlace).toNat = N.log2 + 1022 := by rw [lp]; omega
  rw [e4]
  have hsmall := rung_small he hB2
  rw [Nat.min_eq_left (Nat.le_of_lt hsmall)]
  have hW : (N.log2 + 1022) * double.binade + K < double.signWeight := Nat.lt_trans hsmall inf_lt
  unfold Format.read Format.word
  rw [word_div hW, word_mod hW]
  simp only []
  rw [if_neg (by have := rung_big (e := N.log2) hB; omega), if_pos hsmall, rung_mod hB hB2, rung_div hB hB2]
  have e7 : double.binade + (K - double.binade) = K := by omega
  rw [e7]
  have e8 : double.leastPlace + ((N.log2 + 1023 - 1 : Nat) : Int) = (N.log2 : Int) - 52 := by rw [lp]; omega
  rw [e8]
  cases neg <;> rfl
theorem signed_pow (s : Bool) (m k j : Nat) : signed s m (k + j) = signed s m k * 2 ^ j := by
  unfold signed
  have h : ((m <<< (k + j) : Nat) : Int) = ((m <<< k : Nat) : Int) * 2 ^ j := by
    rw [Nat.shiftLeft_eq, Nat.shiftLeft_eq, Nat.pow_add, ← Nat.mul_assoc]
    push_cast
    rfl
  cases s <;> simp only [Bool.false_eq_true, if_false, if_true, h, Int.neg_mul]
theorem signed_zero (s : Bool) (k : Nat) : signed s 0 k = 0 := by cases s <;> simp [signed, Nat.shiftLeft_eq]
theorem signed_abs (s : Bool) (m k : Nat) : (signed s m k).natAbs = m * 2 ^ k := by
  rw [← Nat.shiftLeft_eq]
  unfold signed
  cases s
  · simp only [Bool.false_eq_true, if_false]; exact Int.natAbs_natCast _
  · simp only [if_true, Int.natAbs_neg]; exact Int.natAbs_natCast _
/-- The datum is a number of the value a. -/
def Dv (d : Datum) (a : Int) : Prop := ∃ s m p, d = .number s m p ∧ ∀ T : Nat, 52 ≤ T → 0 ≤ p + T → signed s m (p + T).toNat = a * 2 ^ T
theorem Fl.dv {b : Nat} {n : Int} (h : Fl b n) : Dv (double.read b) n := by
  rcases h with ⟨s, p, h, rfl⟩ | ⟨s, m, p, h, _, hp, hv⟩
  · exact ⟨s, 0, p, h, fun T _ _ => by rw [signed_zero, Int.zero_mul]⟩
  · refine ⟨s, m, p, h, fun T hT _ => ?_⟩
    have e : (p + T).toNat = (p + 52).toNat + (T - 52) := by omega
    rw [e, signed_pow, hv, Int.mul_assoc, ← Int.pow_add]
    congr 2
    omega
theorem fl_nearest (neg : Bool) (mag : Nat) (place : Int) (S : Nat) (N : Nat) (hS : 0 ≤ place + S) (hN : mag * 2 ^ (place + S).toNat = N * 2 ^ S) (hlt : N < 9007199254740992) : Fl (double.nearest neg mag place) (if neg = true then -(N : Int) else N) := by
  by_cases hm : mag = 0
  · subst hm
    have hN0 : N = 0 := by
      rw [Nat.zero_mul] at hN
      rcases Nat.mul_eq_zero.1 hN.symm with h | h
      · exact h
      · exact absurd h (Nat.pos_iff_ne_zero.1 (Nat.two_pow_pos _))
    subst hN0
    refine .inl ⟨neg, -1074, ?_, by cases neg <;> rfl⟩
    unfold Format.nearest
    rw [if_pos rfl]
    exact read_zero neg
  · have hN0 : N ≠ 0 := by
      rintro rfl
      rw [Nat.zero_mul] at hN
      rcases Nat.mul_eq_zero.1 hN with h | h
      · exact hm h
      · exact absurd h (Nat.pos_iff_ne_zero.1 (Nat.two_pow_pos _))
    have he : N.log2 ≤ 52 := by
      have : N.log2 < 53 := (Nat.log2_lt hN0).2 (by rw [show (2 : Nat) ^ 53 = 9007199254740992 from rfl]; exact hlt)
      omega
    refine .inr ⟨neg, _, _, read_nearest neg mag place S N hm hS hN hlt, Nat.mul_ne_zero hN0 (Nat.pos_iff_ne_zero.1 (Nat.two_pow_pos _)), by omega, ?_⟩
    have e : (((N.log2 : Int) - 52) + 52).toNat = N.log2 := by omega
    rw [e]
    unfold signed
    have h : ((N * 2 ^ (52 - N.log2)) <<< N.log2 : Nat) = N * 2 ^ 52 := by
      rw [Nat.shiftLeft_eq, Nat.mul_assoc, ← Nat.pow_add]
      exact congrArg (N * ·) (pow_eq (by omega))
    rw [h]
    cases neg
    · simp
    · simp only [if_true]
      rw [Int.neg_mul, Int.natCast_mul]
      rfl
theorem abs_if {a : Int} {c : Bool} (h : a ≠ 0 → c = decide (a < 0)) : (if c = true then -((a.natAbs : Nat) : Int) else (a.natAbs : Int)) = a := by
  by_cases h0 : a = 0
  · subst h0; cases c <;> simp
  · rw [h h0]
    by_cases h1 : a < 0
    · simp [h1]; omega
    · simp [h1]; omega
theorem Dv.sum {d e : Datum} {a b : Int} (hd : Dv d a) (he : Dv e b) (hl : (a + b).natAbs < 9007199254740992) : ∃ g, d.sum e = some g ∧ Fl (double.write g) (a + b) := by
  obtain ⟨s, m, i, rfl, hi⟩ := hd
  obtain ⟨t, n, j, rfl, hj⟩ := he
  obtain ⟨base, hbase⟩ : ∃ base, base = min i j := ⟨_, rfl⟩
  obtain ⟨T, hT⟩ : ∃ T : Nat, T = 52 + base.natAbs := ⟨_, rfl⟩
  have h1 := hi T (by omega) (by omega)
  have h2 := hj T (by omega) (by omega)
  have e1 : (i + T).toNat = (i - base).toNat + (base + T).toNat := by omega
  have e2 : (j + T).toNat = (j - base).toNat + (base + T).toNat := by omega
  rw [e1, signed_pow] at h1
  rw [e2, signed_pow] at h2
  simp only [Datum.sum, ← hbase]
  generalize signed s m (i - base).toNat = X at h1 ⊢
  generalize signed t n (j - base).toNat = Y at h2 ⊢
  have h3 : (X + Y) * 2 ^ (base + T).toNat = (a + b) * 2 ^ T := by rw [Int.add_mul, Int.add_mul, h1, h2]
  refine ⟨_, rfl, ?_⟩
  have h4 : (X + Y).natAbs * 2 ^ (base + T).toNat = (a + b).natAbs * 2 ^ T := by
    have := congrArg Int.natAbs h3
    rw [Int.natAbs_mul, Int.natAbs_mul, Int.natAbs_pow, Int.natAbs_pow] at this
    exact this
  have h5 := fl_nearest (if X + Y = 0 then s && t else decide (X + Y < 0)) (X + Y).natAbs base T (a + b).natAbs (by omega) h4 hl
  have h6 : (if (if X + Y = 0 then s && t else decide (X + Y < 0)) = true then -(((a + b).natAbs : Nat) : Int) else ((a + b).natAbs : Int)) = a + b := by
    apply abs_if
    intro h0
    have p1 : (0 : Int) < 2 ^ (base + T).toNat := Int.pow_pos (by decide)
    have p2 : (0 : Int) < 2 ^ T := Int.pow_pos (by decide)
    have h7 : X + Y ≠ 0 := by
      intro h
      rw [h, Int.zero_mul] at h3
      rcases Int.mul_eq_zero.1 h3.symm with h | h
      · exact h0 h
      · omega
    rw [if_neg h7]
    apply decide_eq_decide.2
    constructor
    · intro h
      have := Int.mul_neg_of_neg_of_pos h p1
      rw [h3] at this
      exact Int.lt_of_not_ge fun hge => by have := Int.mul_nonneg hge (Int.le_of_lt p2); omega
    · intro h
      have := Int.mul_neg_of_neg_of_pos h p2
      rw [← h3] at this
      exact Int.lt_of_not_ge fun hge => by have := Int.mul_nonneg hge (Int.le_of_lt p1); omega
  rw [h6] at h5
  exact h5
theorem Dv.opposite {d : Datum} {a : Int} (h : Dv d a) : Dv d.opposite (-a) := by
  obtain ⟨s, m, i, rfl, hi⟩ := h
  refine ⟨!s, m, i, rfl, fun T h1 h2 => ?_⟩
  have := hi T h1 h2
  rw [Int.neg_mul, ← this]
  cases s <;> simp [signed]
theorem fl_add {x y : Nat} {a b : Int} (hx : Fl x a) (hy : Fl y b) (hl : (a + b).natAbs < 9007199254740992) : ∃ r, double.add x y = some r ∧ Fl r (a + b) := by
  obtain ⟨g, h1, h2⟩ := hx.dv.sum hy.dv hl
  exact ⟨_, by rw [Format.add, h1]; rfl, h2⟩
theorem fl_sub {x y : Nat} {a b : Int} (hx : Fl x a) (hy : Fl y b) (hl : (a - b).natAbs < 9007199254740992) : ∃ r, double.sub x y = some r ∧ Fl r (a - b) := by
  obtain ⟨g, h1, h2⟩ := hx.dv.sum hy.dv.opposite (by rw [← Int.sub_eq_add_neg]; exact hl)
  exact ⟨_, by rw [Format.sub, h1]; rfl, by rw [Int.sub_eq_add_neg]; exact h2⟩
theorem fl_mul {x y : Nat} {a b : Int} (hx : Fl x a) (hy : Fl y b) (hl : (a * b).natAbs < 9007199254740992) : ∃ r, double.mul x y = some r ∧ Fl r (a * b) := by
  obtain ⟨s, m, i, h1, hi⟩ := hx.dv
  obtain ⟨t, n, j, h2, hj⟩ := hy.dv
  obtain ⟨T, hT⟩ : ∃ T : Nat, T = 52 + i.natAbs + j.natAbs := ⟨_, rfl⟩
  have h3 := hi T (by omega) (by omega)
  have h4 := hj T (by omega) (by omega)
  refine ⟨double.nearest (s ^^ t) (m * n) (i + j), by rw [Format.mul, h1, h2]; rfl, ?_⟩
  have h5 : m * n * 2 ^ (i + j + (2 * T : Nat)).toNat = (a * b).natAbs * 2 ^ (2 * T) := by
    have e : (i + j + (2 * T : Nat)).toNat = (i + T).toNat + (j + T).toNat := by omega
    have h6 := congrArg Int.natAbs h3
    have h7 := congrArg Int.natAbs h4
    rw [signed_abs, Int.natAbs_mul, Int.natAbs_pow] at h6 h7
    rw [e, Nat.pow_add, Int.natAbs_mul, Nat.two_mul, Nat.pow_add]
    have h8 : m * 2 ^ (i + T).toNat * (n * 2 ^ (j + T).toNat) = a.natAbs * 2 ^ T * (b.natAbs * 2 ^ T) := by rw [h6, h7]; rfl
    calc m * n * (2 ^ (i + T).toNat * 2 ^ (j + T).toNat) = m * 2 ^ (i + T).toNat * (n * 2 ^ (j + T).toNat) := by ac_rfl
      _ = a.natAbs * 2 ^ T * (b.natAbs * 2 ^ T) := h8
      _ = _ := by ac_rfl
  have h6 := fl_nearest (s ^^ t) (m * n) (i + j) (2 * T) (a * b).natAbs (by omega) h5 hl
  rw [abs_if] at h6
  · exact h6
  · intro h0
    have p2 : (0 : Int) < 2 ^ T := Int.pow_pos (by decide)
    have sg : ∀ {s : Bool} {m k : Nat} {a : Int}, signed s m k = a * 2 ^ T → a ≠ 0 → s = decide (a < 0) := by
      intro s m k a h h0
      cases s
      · have : 0 ≤ signed false m k := by simp only [signed, Bool.false_eq_true, if_false]; exact Int.natCast_nonneg _
        rw [h] at this
        symm
        rw [decide_eq_false_iff_not]
        intro hn
        have := Int.mul_neg_of_neg_of_pos hn p2
        omega
      · have : signed true m k ≤ 0 := by simp only [signed, if_true]; have := Int.natCast_nonneg (m <<< k); omega
        rw [h] at this
        symm
        rw [decide_eq_true_iff]
        have h9 : ¬ 0 < a := fun hn => by have := Int.mul_pos hn p2; omega
        omega
    have ha : a ≠ 0 := fun h => h0 (by rw [h, Int.zero_mul])
    have hb : b ≠ 0 := fun h => h0 (by rw [h, Int.mul_zero])
    rw [sg h3 ha, sg h4 hb]
    by_cases hA : a < 0 <;> by_cases hB : b < 0
    · have := Int.mul_pos_of_neg_of_neg hA hB
      simp [hA, hB]; omega
    · have := Int.mul_neg_of_neg_of_pos hA (show 0 < b by omega)
      simp [hA, hB, this]
    · have := Int.mul_neg_of_pos_of_neg (show 0 < a by omega) hB
      simp [hA, hB, this]
    · have := Int.mul_pos (show 0 < a by omega) (show 0 < b by omega)
      simp [hA, hB]; omega
theorem fl_int {n : Int} (h : n.natAbs < 9007199254740992) : Fl (FloatKind.f64.nearest n) n := by
  have h1 := fl_nearest (decide (n < 0)) n.natAbs 0 0 n.natAbs (by omega) (by simp) h
  rw [abs_if (fun _ => rfl)] at h1
  exact h1
theorem fl_eq {x y : Nat} {a b : Int} (hx : Fl x a) (hy : Fl y b) : (double.order x y == some .eq) = decide (a = b) := by
  obtain ⟨s, m, i, h1, hi⟩ := hx.dv
  obtain ⟨t, n, j, h2, hj⟩ := hy.dv
  obtain ⟨base, hbase⟩ : ∃ base, base = min i j := ⟨_, rfl⟩
  obtain ⟨T, hT⟩ : ∃ T : Nat, T = 52 + base.natAbs := ⟨_, rfl⟩
  have h3 := hi T (by omega) (by omega)
  have h4 := hj T (by omega) (by omega)
  have e1 : (i + T).toNat = (i - base).toNat + (base + T).toNat := by omega
  have e2 : (j + T).toNat = (j - base).toNat + (base + T).toNat := by omega
  rw [e1, signed_pow] at h3
  rw [e2, signed_pow] at h4
  unfold Format.order
  rw [h1, h2]
  simp only [Datum.order, ← hbase]
  generalize signed s m (i - base).toNat = X at h3 ⊢
  generalize signed t n (j - base).toNat = Y at h4 ⊢
  have p1 : (2 : Int) ^ (base + T).toNat ≠ 0 := by have : (0 : Int) < 2 ^ (base + T).toNat := Int.pow_pos (by decide); omega
  have p2 : (2 : Int) ^ T ≠ 0 := by have : (0 : Int) < 2 ^ T := Int.pow_pos (by decide); omega
  rw [Bool.eq_iff_iff, beq_iff_eq, decide_eq_true_iff, Option.some.injEq, Int.compare_eq_eq]
  constructor
  · intro h
    rw [h, h4] at h3
    exact (Int.eq_of_mul_eq_mul_right p2 h3).symm
  · intro h
    rw [h, ← h4] at h3
    exact Int.eq_of_mul_eq_mul_right p1 h3
theorem fl_eq' {x y : Nat} {a b : Int} (hx : Fl x a) (hy : Fl y b) : (FloatKind.f64.format.order x y == some .eq) = decide (a = b) := fl_eq hx hy
theorem read_neg (b : Nat) : double.read (b ^^^ 2 ^ 63) = (double.read b).opposite := by
  have h1 : (b ^^^ 2 ^ 63) / 2 ^ 63 = (b / 2 ^ 63) ^^^ (2 ^ 63 / 2 ^ 63) := Nat.xor_div_two_pow
  have h2 : (b ^^^ 2 ^ 63) % 2 ^ 63 = (b % 2 ^ 63) ^^^ (2 ^ 63 % 2 ^ 63) := Nat.xor_mod_two_pow
  have hs : double.signWeight = 2 ^ 63 := sgn
  rw [Nat.div_self (Nat.two_pow_pos 63)] at h1
  rw [Nat.mod_self, Nat.xor_zero] at h2
  have h3 : ((b / 2 ^ 63) ^^^ 1) % 2 = 1 - (b / 2 ^ 63) % 2 := by
    have h4 : ((b / 2 ^ 63) ^^^ 1) % 2 ^ 1 = ((b / 2 ^ 63) % 2 ^ 1) ^^^ (1 % 2 ^ 1) := Nat.xor_mod_two_pow
    rw [Nat.pow_one] at h4
    rw [h4]
    have : (b / 2 ^ 63) % 2 = 0 ∨ (b / 2 ^ 63) % 2 = 1 := by omega
    rcases this with h | h <;> rw [h] <;> rfl
  unfold Format.read
  rw [hs, h1, h2, h3]
  have h5 : (b / 2 ^ 63) % 2 = 0 ∨ (b / 2 ^ 63) % 2 = 1 := by omega
  simp only []
  rcases h5 with h | h <;> rw [h]
  · split
    · rfl
    · split
      · rfl
      · split <;> rfl
  · split
    · rfl
    · split
      · rfl
      · split <;> rfl
theorem fl_neg {x : Nat} {a : Int} (hx : Fl x a) : Fl (Op.negFloat .f64 x) (-a) := by
  have e : double.read (Op.negFloat .f64 x) = (double.read x).opposite := read_neg x
  rcases hx with ⟨s, p, h, rfl⟩ | ⟨s, m, p, h, hm, hp, hv⟩
  · exact .inl ⟨!s, p, by rw [e, h]; rfl, rfl⟩
  · refine .inr ⟨!s, m, p, by rw [e, h]; rfl, hm, hp, ?_⟩
    rw [Int.neg_mul, ← hv]
    cases s <;> simp [signed]
theorem fl_zero : Fl 0 0 := .inl ⟨false, -1074, by decide, rfl⟩
theorem fl_one : Fl 4607182418800017408 1 := .inr ⟨false, 4503599627370496, -52, by decide, by decide, by decide, by decide⟩
theorem fl_negone : Fl 13830554455654793216 (-1) := .inr ⟨true, 4503599627370496, -52, by decide, by decide, by decide, by decide⟩
theorem fl_negzero : Fl 9223372036854775808 0 := .inl ⟨true, -1074, by decide, rfl⟩
theorem read_four : double.read 4616189618054758400 = .number false 4503599627370496 (-50) := by decide
theorem read_mag {b : Nat} {s : Bool} {m : Nat} {p : Int} (h : double.read b = .number s m p) : m < 2 ^ 53 := by
  have hb : double.binade = 2 ^ 52 := bin
  have h2 : (2 : Nat) ^ 53 = 2 ^ 52 + 2 ^ 52 := rfl
  unfold Format.read at h
  simp only [hb] at h
  split at h
  · simp only [Datum.number.injEq] at h
    rw [h2, ← h.2.1]
    omega
  · split at h
    · simp only [Datum.number.injEq] at h
      rw [h2, ← h.2.1]
      have := Nat.mod_lt (b % double.signWeight) (Nat.two_pow_pos 52)
      omega
    · split at h <;> cases h
theorem sign_of {s : Bool} {m k T : Nat} {a : Int} (h : signed s m k = a * 2 ^ T) (h0 : a ≠ 0) : s = decide (a < 0) := by
  have p2 : (0 : Int) < 2 ^ T := Int.pow_pos (by decide)
  cases s
  · have : 0 ≤ signed false m k := by simp only [signed, Bool.false_eq_true, if_false]; exact Int.natCast_nonneg _
    rw [h] at this
    symm
    rw [decide_eq_false_iff_not]
    intro hn
    have := Int.mul_neg_of_neg_of_pos hn p2
    omega
  · have : signed true m k ≤ 0 := by simp only [signed, if_true]; have := Int.natCast_nonneg (m <<< k); omega
    rw [h] at this
    symm
    rw [decide_eq_true_iff]
    have h9 : ¬ 0 < a := fun hn => by have := Int.mul_pos hn p2; omega
    omega
/-- The quarter of a number that 4 divides. -/
theorem fl_quarter {x : Nat} {c : Int} (hx : Fl x (4 * c)) (hl : c.natAbs < 9007199254740992) : ∃ r, double.div x 4616189618054758400 = some r ∧ Fl r c := by
  obtain ⟨s, m, i, h1, hi⟩ := hx.dv
  have hm := read_mag h1
  have hb : double.fractionBits + 2 = 54 := rfl
  have hlm : m.log2 ≤ 52 := by
    by_cases h0 : m = 0
    · subst h0; simp
    · have := (Nat.log2_lt h0).2 hm
      omega
  obtain ⟨j, hj⟩ : ∃ j : Nat, 54 + 52 - m.log2 = j + 52 := ⟨54 - m.log2, by omega⟩
  have hj2 : j = 54 - m.log2 := by omega
  unfold Format.div
  rw [h1, read_four, hb]
  simp only [Datum.quotient]
  have hlog : Nat.log2 4503599627370496 = 52 := by decide
  rw [if_neg (by decide), hlog, hj]
  have hd : m <<< (j + 52) = m * 2 ^ j * 4503599627370496 := by
    rw [Nat.shiftLeft_eq, Nat.pow_add, ← Nat.mul_assoc]
  rw [hd, Nat.mul_div_cancel _ (by decide), Nat.mul_mod_left]
  have hmag : 2 * (m * 2 ^ j) + (0 != 0 : Bool).toNat = m * 2 ^ (j + 1) := by
    rw [Nat.pow_succ]
    simp
    ac_rfl
  rw [hmag]
  refine ⟨_, rfl, ?_⟩
  obtain ⟨T, hT⟩ : ∃ T : Nat, T = 200 + i.natAbs := ⟨_, rfl⟩
  have h3 := hi T (by omega) (by omega)
  have h4 := congrArg Int.natAbs h3
  rw [signed_abs, Int.natAbs_mul, Int.natAbs_pow, Int.natAbs_mul] at h4
  have h5 : m * 2 ^ (j + 1) * 2 ^ (i - -50 - ((j + 52 : Nat) : Int) - 1 + ((T + 2 : Nat) : Int)).toNat = c.natAbs * 2 ^ (T + 2) := by
    rw [Nat.mul_assoc, ← Nat.pow_add]
    have e : j + 1 + (i - -50 - ((j + 52 : Nat) : Int) - 1 + ((T + 2 : Nat) : Int)).toNat = (i + T).toNat := by omega
    rw [e, h4, Nat.pow_add]
    show 4 * c.natAbs * 2 ^ T = c.natAbs * (2 ^ T * 4)
    ac_rfl
  have h6 := fl_nearest (s ^^ false) (m * 2 ^ (j + 1)) (i - -50 - ((j + 52 : Nat) : Int) - 1) (T + 2) c.natAbs (by omega) h5 hl
  rw [abs_if] at h6
  · exact h6
  · intro h0
    rw [sign_of h3 (by omega), Bool.xor_false]
    apply decide_eq_decide.2
    omega
end Go.Proofs.Ytehjjjdelpbkpaa.F
