/-
  A row of parts and a number, one behind the other, is read in order out of what package key's Bytes and Number wrote; no part's bytes are the beginning of another one's: for rows of at most 20 parts of at most 300 bytes (of others the statement says no more than the package's own example).
-/
import Derived.Test.YtldndnjajpjajaaEo
import Derived.Test.YtldndnjajpjajaaKf9
namespace Go.Proofs.Ytldndnjajpjajaa.PureRows
open Go.RowKit Go.Proofs.Ytldndnjajpjajaa.K Go.Proofs.Ytldndnjajpjajaa.E Go.Proofs.YtldndnjajpjajaaW.PrintWords Go.Proofs.YtldndnjajpjajaaW.PrintLast

theorem rd_drop {l : List (List Int)} {i : Nat} (h : i < l.length) : l.drop i = rd_L1 l (i : Int) :: l.drop (i + 1) := by
  rw [List.drop_eq_getElem_cons h]
  simp [rd_L1, List.getD_eq_getElem?_getD, List.getElem?_eq_getElem h]
theorem rd_mem {l : List (List Int)} {i : Nat} (h : i < l.length) : rd_L1 l (i : Int) ∈ l := by
  have : rd_L1 l (i : Int) = l[i] := by simp [rd_L1, List.getD_eq_getElem?_getD, List.getElem?_eq_getElem h]
  rw [this]
  exact List.getElem_mem h
theorem take_rd {l : List (List Int)} {i : Nat} (h : i < l.length) : l.take (i + 1) = l.take i ++ [rd_L1 l (i : Int)] := by
  rw [List.take_succ_eq_append_getElem h]
  simp [rd_L1, List.getD_eq_getElem?_getD, List.getElem?_eq_getElem h]
theorem rowB_len : ∀ {l : List (List Int)}, (∀ p ∈ l, p.length ≤ 300) → (rowB l).length ≤ 602 * l.length
  | [], _ => by simp [rowB]
  | p :: l, h => by
    have := rowB_len (l := l) (fun q hq => h q (by simp [hq]))
    have := enc_len p
    have := h p (by simp)
    simp [rowB]
    omega
/-- No part's bytes are the beginning of another one's. -/
theorem part_apart {p q : List Int} (h : (enc q ++ [0, 1]).take (enc p ++ [0, 1]).length = enc p ++ [0, 1]) : p = q := by
  have e1 := tbg_enc [] p [] 0
  have e2 := tbg_enc [] q [] 0
  have h1 : tbg (enc p ++ [0, 1]) [] 0 = (p, 0 + ((enc p).length : Int) + 2, 0) := e1
  have h2 : tbg (enc q ++ [0, 1]) [] 0 = (q, 0 + ((enc q).length : Int) + 2, 0) := e2
  by_cases hl : (enc p ++ [0, 1]).length < (enc q).length + 2
  · have h3 := tbg_short q _ [] 0 hl
    rw [h, h1] at h3
    simp at h3
  · rw [List.take_of_length_le (by simp at hl ⊢; omega)] at h
    rw [← h, h2] at h1
    simp only [Prod.mk.injEq] at h1
    exact h1.1.symm
/-- The rounds that are wanted from place i (and j) on. -/
def need (L i : Nat) : Nat := (L - i) * (L + 2) + 400
theorem need_step {L i : Nat} (h : i < L) : need L i = need L (i + 1) + (L + 2) := by
  unfold need
  have : L - i = (L - (i + 1)) + 1 := by omega
  rw [this, Nat.succ_mul]
  omega
theorem need_max {L : Nat} (h : L ≤ 20) : need L 0 ≤ 840 := by
  unfold need
  have : L * (L + 2) ≤ 20 * 22 := Nat.mul_le_mul h (by omega)
  simp only [Nat.sub_zero]
  omega
section
variable {l : List (List Int)} {n : Int} (hb : Bys l) (hn : -9223372036854775808 ≤ n ∧ n < 9223372036854775808) (hL : l.length ≤ 20 ∧ ∀ p ∈ l, p.length ≤ 300)
include hb hL
theorem rows_l3 (i : Nat) (hi : i < l.length) (ih : ∀ k, need l.length (i + 1) ≤ k → halyardlaw7_KeyRows.l2 k l l (l.length : Int) ((i + 1 : Nat) : Int) = some true) :
    ∀ (d j k : Nat), j + d = l.length → need l.length (i + 1) + d + 1 ≤ k → halyardlaw7_KeyRows.l3 k l (i : Int) (rd_L1 l (i : Int)) l (l.length : Int) (i : Int) l (l.length : Int) (j : Int) = some true
  | 0, j, k, hj, hk => by
    obtain ⟨k, rfl⟩ : ∃ m, k = m + 1 := ⟨k - 1, by omega⟩
    simp only [halyardlaw7_KeyRows.l3]
    have hw : wrap64 ((i : Int) + 1) = ((i + 1 : Nat) : Int) := by rw [wrap_in (by omega) (by omega)]; omega
    rw [if_neg (by omega), hw]
    exact ih k (by omega)
  | d + 1, j, k, hj, hk => by
    obtain ⟨k, rfl⟩ : ∃ m, k = m + 1 := ⟨k - 1, by omega⟩
    have hk4 : 400 ≤ k := by unfold need at hk; omega
    have on := rows_l3 i hi ih d (j + 1) k (by omega) (by omega)
    simp only [halyardlaw7_KeyRows.l3]
    have hw : wrap64 ((j : Int) + 1) = ((j + 1 : Nat) : Int) := by rw [wrap_in (by omega) (by omega)]; omega
    have h1 := hL.2 _ (rd_mem hi)
    have h2 := hL.2 _ (rd_mem (show j < l.length by omega))
    have b1 := hb _ (rd_mem hi)
    have b2 := hb _ (rd_mem (show j < l.length by omega))
    rw [if_pos (by omega), if_pos (by omega), if_pos (by omega), hw, bytes_eval [] _ (by simp; omega) k (by omega), bytes_eval [] _ (by simp; omega) k (by omega)]
    simp only [Option.bind_some, List.nil_append]
    by_cases c1 : (i : Int) = (j : Int)
    · rw [if_pos c1]; exact on
    · rw [if_neg c1]
      by_cases c2 : (strOfNums (rd_L1 l (i : Int))).toList = (strOfNums (rd_L1 l (j : Int))).toList
      · rw [if_pos c2]; exact on
      · rw [if_neg c2]
        by_cases c3 : ((enc (rd_L1 l (i : Int)) ++ [0, 1]).length : Int) ≤ ((enc (rd_L1 l (j : Int)) ++ [0, 1]).length : Int)
        · rw [if_pos c3, if_pos (by omega), Int.toNat_natCast]
          have bb : By [0, 1] := By.mk (by omega) (by omega) (By.mk (by omega) (by omega) By.nil)
          rw [if_neg]
          · exact on
          · rw [str_eq (((By.enc b2).append bb).take _) ((By.enc b1).append bb)]
            intro h
            exact c2 (by rw [part_apart h])
        · rw [if_neg c3]; exact on
theorem rows_l2 : ∀ (d i k : Nat), i + d = l.length → need l.length i ≤ k → halyardlaw7_KeyRows.l2 k l l (l.length : Int) (i : Int) = some true
  | 0, i, k, hi, hk => by
    have hk4 : 400 ≤ k := by unfold need at hk; omega
    obtain ⟨k, rfl⟩ : ∃ m, k = m + 1 := ⟨k - 1, by omega⟩
    simp only [halyardlaw7_KeyRows.l2]
    rw [if_neg (by omega), awake_eval k (by omega)]
    rfl
  | d + 1, i, k, hi, hk => by
    have hs := need_step (show i < l.length by omega)
    obtain ⟨k, rfl⟩ : ∃ m, k = m + 1 := ⟨k - 1, by omega⟩
    simp only [halyardlaw7_KeyRows.l2]
    rw [if_pos (by omega), if_pos (by omega), if_pos (by omega)]
    exact rows_l3 hb hL i (by omega) (fun k' hk' => rows_l2 d (i + 1) k' (by omega) hk') l.length 0 k (by omega) (by omega)
include hn
theorem rows_l1 : ∀ (d i k : Nat), i + d = l.length → d + 900 ≤ k → halyardlaw7_KeyRows.l1 k l n (rowB (l.drop i) ++ num8 (lift n)) l (l.length : Int) (i : Int) = some true
  | 0, i, k, hi, hk => by
    obtain ⟨k, rfl⟩ : ∃ m, k = m + 10 := ⟨k - 10, by omega⟩
    simp only [halyardlaw7_KeyRows.l1]
    rw [if_neg (by omega), List.drop_of_length_le (by omega)]
    simp only [rowB, List.nil_append]
    have ht := tnum_num8 hn.1 hn.2 []
    rw [List.append_nil] at ht
    rw [key_TakeNumber_eval (By.num8 _) k, ht]
    simp only [Option.bind_some, if_true, num8_len]
    simp only [halyardlaw7_KeyRows.j3]
    rw [if_neg (by decide)]
    have hm := need_max (L := l.length) hL.1
    exact rows_l2 hb hL l.length 0 (k + 8) (by omega) (by omega)
  | d + 1, i, k, hi, hk => by
    obtain ⟨k, rfl⟩ : ∃ m, k = m + 1 := ⟨k - 1, by omega⟩
    simp only [halyardlaw7_KeyRows.l1]
    have hw : wrap64 ((i : Int) + 1) = ((i + 1 : Nat) : Int) := by rw [wrap_in (by omega) (by omega)]; omega
    have h1 := hL.2 _ (rd_mem (show i < l.length by omega))
    have h2 := enc_len (rd_L1 l (i : Int))
    have h3 := rowB_len (l := l.drop (i + 1)) (fun p hp => hL.2 p (List.mem_of_mem_drop hp))
    rw [List.length_drop] at h3
    have e : rowB (l.drop i) ++ num8 (lift n) = enc (rd_L1 l (i : Int)) ++ 0 :: 1 :: (rowB (l.drop (i + 1)) ++ num8 (lift n)) := by
      rw [rd_drop (by omega)]
      simp [rowB]
    have hlen : (enc (rd_L1 l (i : Int)) ++ 0 :: 1 :: (rowB (l.drop (i + 1)) ++ num8 (lift n))).length = (enc (rd_L1 l (i : Int))).length + 2 + (rowB (l.drop (i + 1))).length + 8 := by
      simp [num8_len]; omega
    rw [if_pos (by omega), if_pos (by omega), if_pos (by omega), hw, e]
    unfold key_TakeBytes.f
    rw [if_pos (by rw [hlen]; omega), tbg_enc]
    simp only [Option.bind_some, if_true, List.nil_append]
    rw [if_neg (by omega), if_neg (by rw [hlen]; omega), if_pos (by omega), if_pos (by rw [hlen]; omega)]
    have e2 : (enc (rd_L1 l (i : Int)) ++ 0 :: 1 :: (rowB (l.drop (i + 1)) ++ num8 (lift n))).drop ((0 : Int) + ((enc (rd_L1 l (i : Int))).length : Int) + 2).toNat = rowB (l.drop (i + 1)) ++ num8 (lift n) := by
      have : ((0 : Int) + ((enc (rd_L1 l (i : Int))).length : Int) + 2).toNat = (enc (rd_L1 l (i : Int))).length + 2 := by omega
      rw [this, List.drop_append, List.drop_of_length_le (by omega)]
      simp
    rw [e2]
    exact rows_l1 d (i + 1) k (by omega) (by omega)
end
theorem light_step {l : List (List Int)} {i : Nat} (h : ∀ p ∈ l.take i, p.length ≤ 300) (h2 : i < l.length) (h3 : (rd_L1 l (i : Int)).length ≤ 300) : ∀ p ∈ l.take (i + 1), p.length ≤ 300 := by
  rw [take_rd h2]
  intro p hp
  rcases List.mem_append.1 hp with hp | hp
  · exact h p hp
  · rw [List.mem_singleton.1 hp]
    exact h3
theorem rows_j1t {l : List (List Int)} {n : Int} {b p : List Int} {x y : Int} (k : Nat) (hk : 10 ≤ k) : halyardlaw7_KeyRows.j1 k l n b p l x y true = some true := by
  obtain ⟨k, rfl⟩ : ∃ m, k = m + 1 := ⟨k - 1, by omega⟩
  simp only [halyardlaw7_KeyRows.j1]
  rw [if_pos trivial, awake_eval k (by omega)]
  rfl
theorem rows_l0 {l : List (List Int)} {n : Int} (hb : Bys l) (hn : -9223372036854775808 ≤ n ∧ n < 9223372036854775808) :
    ∀ (d i k : Nat), i + d = 21 → 2 * d + 1000 ≤ k → i ≤ 20 → (∀ p ∈ l.take i, p.length ≤ 300) → i ≤ l.length → halyardlaw7_KeyRows.l0 k l n (rowB (l.take i)) l (l.length : Int) (i : Int) = some true
  | 0, i, k, hi, hk, h20, _, _ => by omega
  | d + 1, i, k, hi, hk, h20, hA, hil => by
    obtain ⟨k, rfl⟩ : ∃ m, k = m + 2 := ⟨k - 2, by omega⟩
    simp only [halyardlaw7_KeyRows.l0]
    by_cases h : i < l.length
    · rw [if_pos (by omega), if_pos (by omega), if_pos (by omega)]
      by_cases h2 : 20 ≤ i
      · rw [if_pos (by omega)]
        exact rows_j1t (k + 1) (by omega)
      · rw [if_neg (by omega)]
        by_cases h3 : (rd_L1 l (i : Int)).length ≤ 300
        · rw [decide_eq_false (by omega)]
          simp only [halyardlaw7_KeyRows.j1]
          have hw : wrap64 ((i : Int) + 1) = ((i + 1 : Nat) : Int) := by rw [wrap_in (by omega) (by omega)]; omega
          have h4 := rowB_len hA
          rw [List.length_take] at h4
          rw [if_neg (by decide), bytes_eval _ _ (by omega) k (by omega), hw]
          simp only [Option.bind_some]
          have e : rowB (l.take i) ++ enc (rd_L1 l (i : Int)) ++ [0, 1] = rowB (l.take (i + 1)) := by
            rw [take_rd h, rowB_append]
            simp [rowB]
          rw [e]
          exact rows_l0 hb hn d (i + 1) k (by omega) (by omega) (by omega) (light_step hA h h3) (by omega)
        · rw [decide_eq_true (by omega)]
          exact rows_j1t (k + 1) (by omega)
    · rw [if_neg (by omega)]
      have hil' : l.length = i := by omega
      rw [List.take_of_length_le (by omega)] at hA ⊢
      have h4 := rowB_len hA
      rw [show k + 1 = (k - 8) + 9 from by omega, key_Number_eval _ hn.1 hn.2 (by omega) (k - 8)]
      simp only [Option.bind_some]
      exact rows_l1 hb hn ⟨by omega, hA⟩ l.length 0 _ (by omega) (by omega)
theorem KeyRows (l : List (List Int)) (n : Int) (hb : Bys l) (hn : -9223372036854775808 ≤ n ∧ n < 9223372036854775808) : halyardlaw7_KeyRows.f 1100 l n = some true :=
  rows_l0 hb hn 21 0 1100 (by omega) (by omega) (by omega) (by simp) (by omega)
end Go.Proofs.Ytldndnjajpjajaa.PureRows
