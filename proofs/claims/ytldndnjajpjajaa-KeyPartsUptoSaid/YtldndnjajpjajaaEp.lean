/-
  Plain facts on the document's answers for a part of a key: read, it is what package key reads; written, it is what package key writes.
-/
import Derived.Test.YtldndnjajpjajaaE
import Derived.Test.YtldndnjajpjajaaKf20
import Derived.Test.YtldndnjajpjajaaKf21
import Derived.Test.YtldndnjajpjajaaKf22
namespace Go.Proofs.Ytldndnjajpjajaa.E
open Go.RowKit Go.Proofs.Ytldndnjajpjajaa.K Go.Proofs.YtldndnjajpjajaaW.PrintWords Go.Proofs.YtldndnjajpjajaaW.PrintLast

theorem tbg0 (y : Int) (r acc : List Int) (i : Int) : tbg (0 :: y :: r) acc i = if y = 255 then tbg r (acc ++ [0]) (i + 2) else if y = 1 then (acc, i + 2, 0) else ([], 0, 3) := by
  simp [tbg]
theorem tbgx {x : Int} (h : x ≠ 0) (r acc : List Int) (i : Int) : tbg (x :: r) acc i = tbg r (acc ++ [x]) (i + 1) := by
  cases r <;> simp [tbg, h]
theorem takePart_loop (l : List Int) (hl : l.length < 70368744177664) : ∀ (d k i : Nat) (acc : List Int), l.length ≤ i + d → d < k → acc.length ≤ i → i ≤ l.length →
    halyardref2_TakePart.l0 k l acc (i : Int) = some (tbg (l.drop i) acc (i : Int))
  | 0, k, i, acc, hi, hk, ha, hb => by
    obtain ⟨k, rfl⟩ : ∃ m, k = m + 1 := ⟨k - 1, by omega⟩
    simp only [halyardref2_TakePart.l0]
    rw [if_neg (by omega), tbg_end (by omega)]
  | d + 1, k, i, acc, hi, hk, ha, hb => by
    obtain ⟨k, rfl⟩ : ∃ m, k = m + 1 := ⟨k - 1, by omega⟩
    simp only [halyardref2_TakePart.l0]
    by_cases he : i < l.length
    · have hw : wrap64 ((i : Int) + 1) = ((i + 1 : Nat) : Int) := by rw [wrap_in (by omega) (by omega)]; omega
      have hw2 : wrap64 (((i + 1 : Nat) : Int) + 1) = ((i + 2 : Nat) : Int) := by rw [wrap_in (by omega) (by omega)]; omega
      rw [if_pos (by omega), if_pos (by omega), hw, hw2, drop_rd he]
      by_cases h0 : rd l (i : Int) = 0
      · rw [if_pos h0, h0]
        by_cases h1 : i + 1 = l.length
        · rw [if_pos (by omega), List.drop_of_length_le (by omega)]
          simp [tbg]
        · rw [if_neg (by omega), if_pos (by omega), if_pos (by omega), drop_rd (by omega : i + 1 < l.length), tbg0]
          by_cases h2 : rd l ((i + 1 : Nat) : Int) = 1
          · rw [if_pos h2, if_neg (by omega), if_pos h2, show (((i + 2 : Nat)) : Int) = (i : Int) + 2 by omega]
          · rw [if_neg h2]
            by_cases h3 : rd l ((i + 1 : Nat) : Int) = 255
            · rw [if_pos h3, if_pos h3, if_pos (by omega), takePart_loop l hl d k (i + 2) _ (by omega) (by omega) (by simp; omega) (by omega), show (((i + 2 : Nat)) : Int) = (i : Int) + 2 by omega]
            · rw [if_neg h3, if_neg h3, if_neg h2]
      · rw [if_neg h0, if_pos (by omega), tbgx h0, takePart_loop l hl d k (i + 1) _ (by omega) (by omega) (by simp; omega) (by omega), show (((i + 1 : Nat)) : Int) = (i : Int) + 1 by omega]
    · rw [if_neg (by omega), tbg_end (by omega)]
theorem takePart_eval {l : List Int} (hl : l.length < 70368744177664) (k : Nat) (hk : l.length < k) : halyardref2_TakePart.f k l = some (tbg l [] 0) :=
  takePart_loop l hl l.length k 0 [] (by omega) hk (by simp) (by omega)
theorem part_loop (p : List Int) (hp : p.length < 70368744177664) : ∀ (d k i : Nat) (acc : List Int), i + d = p.length → d < k → acc.length + 2 * d + 2 < 140737488355328 →
    halyardref2_Part.l0 k acc p (p.length : Int) (i : Int) = some (acc ++ enc (p.drop i) ++ [0, 1])
  | 0, k, i, acc, hi, hk, hl => by
    obtain ⟨k, rfl⟩ : ∃ m, k = m + 1 := ⟨k - 1, by omega⟩
    simp only [halyardref2_Part.l0]
    rw [if_neg (by omega)]
    simp only [Option.bind_some]
    rw [if_pos (by simp; omega), List.drop_of_length_le (by omega)]
    simp [enc]
  | d + 1, k, i, acc, hi, hk, hl => by
    obtain ⟨k, rfl⟩ : ∃ m, k = m + 1 := ⟨k - 1, by omega⟩
    simp only [halyardref2_Part.l0]
    have hw : wrap64 ((i : Int) + 1) = ((i + 1 : Nat) : Int) := by rw [wrap_in (by omega) (by omega)]; omega
    rw [if_pos (by omega), if_pos (by omega), if_pos (by omega), if_pos (by omega), hw]
    simp only [Option.bind_some]
    rw [drop_rd (by omega : i < p.length)]
    by_cases h0 : rd p (i : Int) = 0
    · rw [if_pos h0, if_pos (by simp; omega), part_loop p hp d k (i + 1) _ (by omega) (by omega) (by simp; omega), h0]
      simp [enc]
    · rw [if_neg h0, part_loop p hp d k (i + 1) _ (by omega) (by omega) (by simp; omega)]
      simp [enc, h0]
theorem part_eval (b p : List Int) (hl : b.length + 2 * p.length + 2 < 140737488355328) (k : Nat) (hk : p.length < k) : halyardref2_Part.f k b p = some (b ++ enc p ++ [0, 1]) := by
  have := part_loop p (by omega) p.length k 0 b (by omega) hk (by omega)
  simpa [halyardref2_Part.f] using this

end Go.Proofs.Ytldndnjajpjajaa.E
