/-
  Bytes keep the order: of any two rows of parts, and of any two numbers, package key's Compare of what Bytes and Number wrote tells the order of the parts one by one, and of the numbers: for rows of at most 20 parts of at most 300 bytes (of others the statement says no more than the package's own example).
-/
import Derived.Test.YtldndnjajpjajaaEo
namespace Go.Proofs.Ytldndnjajpjajaa.Pure
open Go.RowKit Go.Proofs.Ytldndnjajpjajaa.K Go.Proofs.Ytldndnjajpjajaa.E Go.Proofs.YtldndnjajpjajaaW.PrintWords Go.Proofs.YtldndnjajpjajaaW.PrintLast

theorem rd_drop {l : List (List Int)} {i : Nat} (h : i < l.length) : l.drop i = rd_L1 l (i : Int) :: l.drop (i + 1) := by
  rw [List.drop_eq_getElem_cons h]
  simp [rd_L1, List.getD_eq_getElem?_getD, List.getElem?_eq_getElem h]
theorem rd_mem {l : List (List Int)} {i : Nat} (h : i < l.length) : rd_L1 l (i : Int) ∈ l := by
  have : rd_L1 l (i : Int) = l[i] := by simp [rd_L1, List.getD_eq_getElem?_getD, List.getElem?_eq_getElem h]
  rw [this]
  exact List.getElem_mem h
theorem take_rd {l : List (List Int)} {i : Nat} (h : i < l.length) : l.take (i + 1) = l.take i ++ [rd_L1 l (i : Int)] := by
  rw [List.take_succ_eq_append_getElem h]
  simp [rd_L1, List.getD_eq_getElem?_getD, List.getElem?_eq_getElem h]
/-- Rows that aren't too long. -/
def Light (l : List (List Int)) (i : Nat) : Prop := i ≤ 20 ∧ ∀ p ∈ l.take i, p.length ≤ 300
theorem rowB_len : ∀ {l : List (List Int)}, (∀ p ∈ l, p.length ≤ 300) → (rowB l).length ≤ 602 * l.length
  | [], _ => by simp [rowB]
  | p :: l, h => by
    have := rowB_len (l := l) (fun q hq => h q (by simp [hq]))
    have := enc_len p
    have := h p (by simp)
    simp [rowB]
    omega
theorem order_j5 {a b : List (List Int)} (ha : Bys a) (hb : Bys b) {m n : Int} (hm : -9223372036854775808 ≤ m ∧ m < 9223372036854775808) (hn : -9223372036854775808 ≤ n ∧ n < 9223372036854775808) (k : Nat) (hk : 20 ≤ k) (r : Int) (hr : r = if m < n then -1 else if n < m then 1 else 0) :
    halyardlaw7_KeyOrder.j5 k m n (cmpR a b) (rowB a) (rowB b) r = some true := by
  obtain ⟨k, rfl⟩ : ∃ j, k = j + 10 := ⟨k - 10, by omega⟩
  simp only [halyardlaw7_KeyOrder.j5]
  rw [key_Number_eval [] hm.1 hm.2 (by simp) k, key_Number_eval [] hn.1 hn.2 (by simp) k]
  simp only [Option.bind_some, List.nil_append]
  rw [key_Compare_eval (By.num8 _) (By.num8 _), num8_order hm.1 hm.2 hn.1 hn.2]
  simp only [Option.bind_some]
  rw [if_pos hr.symm, key_Compare_eval (By.rowB hb) (By.rowB ha), cmpI_anti (rowB a), rows_order ha hb]
  simp only [Option.bind_some]
  have := cmpR_range a b
  rw [if_pos (by rw [wrap_in (by omega) (by omega)]), awake_eval _ (by omega)]
  rfl
theorem order_l2 {a b : List (List Int)} (ha : Bys a) (hb : Bys b) {m n : Int} (hm : -9223372036854775808 ≤ m ∧ m < 9223372036854775808) (hn : -9223372036854775808 ≤ n ∧ n < 9223372036854775808)
    (hB : b.length ≤ 20 ∧ ∀ p ∈ b, p.length ≤ 300) : ∀ (d i k : Nat), i + d = b.length → d + 400 ≤ k → halyardlaw7_KeyOrder.l2 k m n (cmpR a b) (rowB a) (rowB (b.take i)) b (b.length : Int) (i : Int) = some true
  | 0, i, k, hi, hk => by
    obtain ⟨k, rfl⟩ : ∃ j, k = j + 1 := ⟨k - 1, by omega⟩
    simp only [halyardlaw7_KeyOrder.l2]
    rw [if_neg (by omega), List.take_of_length_le (by omega), key_Compare_eval (By.rowB ha) (By.rowB hb), rows_order ha hb]
    simp only [Option.bind_some, if_true]
    by_cases h : m < n
    · rw [if_pos h]
      exact order_j5 ha hb hm hn k (by omega) _ (by rw [if_pos h])
    · rw [if_neg h]
      by_cases h2 : m > n
      · rw [if_pos h2]
        exact order_j5 ha hb hm hn k (by omega) _ (by rw [if_neg h, if_pos (by omega)])
      · rw [if_neg h2]
        exact order_j5 ha hb hm hn k (by omega) _ (by rw [if_neg h, if_neg (by omega)])
  | d + 1, i, k, hi, hk => by
    obtain ⟨k, rfl⟩ : ∃ j, k = j + 1 := ⟨k - 1, by omega⟩
    simp only [halyardlaw7_KeyOrder.l2]
    have hw : wrap64 ((i : Int) + 1) = ((i + 1 : Nat) : Int) := by rw [wrap_in (by omega) (by omega)]; omega
    have h3 := hB.2 _ (rd_mem (show i < b.length by omega))
    have h4 := rowB_len (l := b.take i) (fun p hp => hB.2 p (List.mem_of_mem_take hp))
    rw [List.length_take] at h4
    rw [if_pos (by omega), if_pos (by omega), if_pos (by omega), bytes_eval _ _ (by omega) k (by omega), hw]
    simp only [Option.bind_some]
    have e : rowB (b.take i) ++ enc (rd_L1 b (i : Int)) ++ [0, 1] = rowB (b.take (i + 1)) := by
      rw [take_rd (by omega), rowB_append]
      simp [rowB]
    rw [e]
    exact order_l2 ha hb hm hn hB d (i + 1) k (by omega) (by omega)
theorem order_l1 {a b : List (List Int)} (ha : Bys a) (hb : Bys b) {m n : Int} (hm : -9223372036854775808 ≤ m ∧ m < 9223372036854775808) (hn : -9223372036854775808 ≤ n ∧ n < 9223372036854775808)
    (hA : a.length ≤ 20 ∧ ∀ p ∈ a, p.length ≤ 300) (hB : b.length ≤ 20 ∧ ∀ p ∈ b, p.length ≤ 300) : ∀ (d i k : Nat), i + d = a.length → d + 450 ≤ k → halyardlaw7_KeyOrder.l1 k b m n (cmpR a b) (rowB (a.take i)) a (a.length : Int) (i : Int) = some true
  | 0, i, k, hi, hk => by
    obtain ⟨k, rfl⟩ : ∃ j, k = j + 1 := ⟨k - 1, by omega⟩
    simp only [halyardlaw7_KeyOrder.l1]
    rw [if_neg (by omega), List.take_of_length_le (by omega)]
    exact order_l2 ha hb hm hn hB b.length 0 k (by omega) (by omega)
  | d + 1, i, k, hi, hk => by
    obtain ⟨k, rfl⟩ : ∃ j, k = j + 1 := ⟨k - 1, by omega⟩
    simp only [halyardlaw7_KeyOrder.l1]
    have hw : wrap64 ((i : Int) + 1) = ((i + 1 : Nat) : Int) := by rw [wrap_in (by omega) (by omega)]; omega
    have h3 := hA.2 _ (rd_mem (show i < a.length by omega))
    have h4 := rowB_len (l := a.take i) (fun p hp => hA.2 p (List.mem_of_mem_take hp))
    rw [List.length_take] at h4
    rw [if_pos (by omega), if_pos (by omega), if_pos (by omega), bytes_eval _ _ (by omega) k (by omega), hw]
    simp only [Option.bind_some]
    have e : rowB (a.take i) ++ enc (rd_L1 a (i : Int)) ++ [0, 1] = rowB (a.take (i + 1)) := by
      rw [take_rd (by omega), rowB_append]
      simp [rowB]
    rw [e]
    exact order_l1 ha hb hm hn hA hB d (i + 1) k (by omega) (by omega)
/-- What is wanted, given what was found ahead of place i. -/
def Want (a b : List (List Int)) (i : Nat) (v : Int) : Prop := (v ≠ 0 → cmpR a b = v) ∧ (v = 0 → cmpR a b = cmpR (a.drop i) (b.drop i))
theorem want_end {a b : List (List Int)} {i : Nat} {v : Int} (h : Want a b i v) (h1 : a.length ≤ i) (h2 : b.length ≤ i) : v = cmpR a b := by
  by_cases hv : v = 0
  · rw [h.2 hv, List.drop_of_length_le h1, List.drop_of_length_le h2, hv]; rfl
  · exact (h.1 hv).symm
theorem want_left {a b : List (List Int)} {i : Nat} (h : Want a b i 0) (h1 : a.length ≤ i) (h2 : i < b.length) : Want a b (i + 1) (-1) := by
  refine ⟨fun _ => ?_, fun h => by cases h⟩
  rw [h.2 rfl, List.drop_of_length_le h1, rd_drop h2]; rfl
theorem want_right {a b : List (List Int)} {i : Nat} (h : Want a b i 0) (h1 : b.length ≤ i) (h2 : i < a.length) : Want a b (i + 1) 1 := by
  refine ⟨fun _ => ?_, fun h => by cases h⟩
  rw [h.2 rfl, List.drop_of_length_le h1, rd_drop h2]; rfl
theorem want_both {a b : List (List Int)} {i : Nat} (h : Want a b i 0) (h1 : i < a.length) (h2 : i < b.length) : Want a b (i + 1) (cmpI (rd_L1 a (i : Int)) (rd_L1 b (i : Int))) := by
  have e := h.2 rfl
  rw [rd_drop h1, rd_drop h2] at e
  simp only [cmpR] at e
  refine ⟨fun hv => by rw [e, if_pos hv], fun hv => by rw [e, if_neg (by simpa using hv)]⟩
theorem want_on {a b : List (List Int)} {i : Nat} {v : Int} (h : Want a b i v) (hv : v ≠ 0) : Want a b (i + 1) v := ⟨h.1, fun h0 => absurd h0 hv⟩
theorem light_step {l : List (List Int)} {i : Nat} (h : ∀ p ∈ l.take i, p.length ≤ 300) (h2 : i < l.length → (rd_L1 l (i : Int)).length ≤ 300) : ∀ p ∈ l.take (i + 1), p.length ≤ 300 := by
  by_cases hi : i < l.length
  · rw [take_rd hi]
    intro p hp
    rcases List.mem_append.1 hp with hp | hp
    · exact h p hp
    · rw [List.mem_singleton.1 hp]
      exact h2 hi
  · rw [List.take_of_length_le (by omega)]
    rw [List.take_of_length_le (by omega)] at h
    exact h
theorem order_j2t {a b : List (List Int)} (m n v : Int) (i k : Nat) (hk : 10 ≤ k) : halyardlaw7_KeyOrder.j2 k a b m n v (i : Int) true = some true := by
  obtain ⟨k, rfl⟩ : ∃ j, k = j + 1 := ⟨k - 1, by omega⟩
  simp only [halyardlaw7_KeyOrder.j2]
  rw [if_pos trivial, awake_eval k (by omega)]
  rfl
theorem order_l0 {a b : List (List Int)} (ha : Bys a) (hb : Bys b) {m n : Int} (hm : -9223372036854775808 ≤ m ∧ m < 9223372036854775808) (hn : -9223372036854775808 ≤ n ∧ n < 9223372036854775808) :
    ∀ (d i k : Nat) (v : Int), i + d = 21 → 3 * d + 500 ≤ k → Want a b i v → i ≤ 20 → (∀ p ∈ a.take i, p.length ≤ 300) → (∀ p ∈ b.take i, p.length ≤ 300) → halyardlaw7_KeyOrder.l0 k a b m n v (i : Int) = some true
  | 0, i, k, v, hi, hk, _, h20, _, _ => by omega
  | d + 1, i, k, v, hi, hk, hw, h20, hA, hB => by
    obtain ⟨k, rfl⟩ : ∃ j, k = j + 3 := ⟨k - 3, by omega⟩
    have ih := order_l0 ha hb hm hn d (i + 1) k
    have hwr : wrap64 ((i : Int) + 1) = ((i + 1 : Nat) : Int) := by rw [wrap_in (by omega) (by omega)]; omega
    -- the body's last part
    have j2 : ∀ x59 : Bool, (i < a.length ∨ i < b.length) → i < 20 → (x59 = false → (i < a.length → (rd_L1 a (i : Int)).length ≤ 300) ∧ (i < b.length → (rd_L1 b (i : Int)).length ≤ 300)) → halyardlaw7_KeyOrder.j2 (k + 1) a b m n v (i : Int) x59 = some true := by
      intro x59 hor hi20 hx
      cases x59 with
      | true => exact order_j2t m n v i (k + 1) (by omega)
      | false =>
        obtain ⟨hxa, hxb⟩ := hx rfl
        have hA' := light_step hA hxa
        have hB' := light_step hB hxb
        simp only [halyardlaw7_KeyOrder.j2]
        rw [if_neg (by decide), hwr]
        by_cases hv : v = 0
        · subst hv
          rw [if_pos rfl]
          by_cases h1 : a.length ≤ i
          · rw [if_pos (by omega)]
            exact ih _ (by omega) (by omega) (want_left hw h1 (by omega)) (by omega) hA' hB'
          · rw [if_neg (by omega)]
            by_cases h2 : b.length ≤ i
            · rw [if_pos (by omega)]
              exact ih _ (by omega) (by omega) (want_right hw h2 (by omega)) (by omega) hA' hB'
            · rw [if_neg (by omega), if_pos (by omega), if_pos (by omega), if_pos (by omega), ref_Compare_eval (ha _ (rd_mem (by omega))) (hb _ (rd_mem (by omega)))]
              simp only [Option.bind_some]
              exact ih _ (by omega) (by omega) (want_both hw (by omega) (by omega)) (by omega) hA' hB'
        · rw [if_neg hv]
          exact ih _ (by omega) (by omega) (want_on hw hv) (by omega) hA' hB'
    have j1t : (i < a.length ∨ i < b.length) → halyardlaw7_KeyOrder.j1 (k + 2) a b m n v (i : Int) true = some true := by
      intro hor
      simp only [halyardlaw7_KeyOrder.j1]
      rw [if_pos trivial]
      by_cases h20' : 20 ≤ i
      · rw [if_pos (by omega)]
        exact order_j2t m n v i (k + 1) (by omega)
      · rw [if_neg (by omega)]
        by_cases h1 : i < a.length
        · rw [if_pos (by omega), if_pos (by omega)]
          by_cases h3 : (rd_L1 a (i : Int)).length ≤ 300
          · rw [if_neg (by omega)]
            by_cases h2 : i < b.length
            · rw [if_pos (by omega)]
              exact j2 _ hor (by omega) (fun hx => ⟨fun _ => h3, fun _ => by simp at hx; omega⟩)
            · rw [if_neg (by omega)]
              exact j2 _ hor (by omega) (fun _ => ⟨fun _ => h3, fun h => absurd h h2⟩)
          · rw [if_pos (by omega)]
            exact order_j2t m n v i (k + 1) (by omega)
        · rw [if_neg (by omega), if_pos (by omega), if_pos (by omega)]
          exact j2 _ hor (by omega) (fun hx => ⟨fun h => absurd h h1, fun _ => by simp at hx; omega⟩)
    simp only [halyardlaw7_KeyOrder.l0]
    by_cases h1 : i < a.length
    · rw [if_pos (by omega)]
      exact j1t (.inl h1)
    · rw [if_neg (by omega)]
      by_cases h2 : i < b.length
      · rw [decide_eq_true (by omega)]
        exact j1t (.inr h2)
      · rw [decide_eq_false (by omega)]
        simp only [halyardlaw7_KeyOrder.j1]
        rw [if_neg (by decide), want_end hw (by omega) (by omega)]
        rw [List.take_of_length_le (by omega)] at hA hB
        exact order_l1 ha hb hm hn ⟨by omega, hA⟩ ⟨by omega, hB⟩ a.length 0 (k + 1) (by omega) (by omega)
theorem KeyOrder (a b : List (List Int)) (m n : Int) (ha : Bys a) (hb : Bys b) (hm : -9223372036854775808 ≤ m ∧ m < 9223372036854775808) (hn : -9223372036854775808 ≤ n ∧ n < 9223372036854775808) : halyardlaw7_KeyOrder.f 600 a b m n = some true :=
  order_l0 ha hb hm hn 21 0 600 0 (by omega) (by omega) ⟨fun h => absurd rfl h, fun _ => rfl⟩ (by omega) (by simp) (by simp)
end Go.Proofs.Ytldndnjajpjajaa.Pure
