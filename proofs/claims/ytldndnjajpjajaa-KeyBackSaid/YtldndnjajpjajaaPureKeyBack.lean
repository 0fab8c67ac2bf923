/-
  Each part comes back out of its bytes, whatever stands behind it, each number out of its eight; a part's bytes cut off are no part: for parts of at most 300 bytes (of a longer one the statement says no more than the package's own example).
-/
import Derived.Test.YtldndnjajpjajaaKf8
import Derived.Test.YtldndnjajpjajaaEb
namespace Go.Proofs.Ytldndnjajpjajaa.Pure
open Go.RowKit Go.Proofs.Ytldndnjajpjajaa.K Go.Proofs.Ytldndnjajpjajaa.E Go.Proofs.YtldndnjajpjajaaW.PrintWords Go.Proofs.YtldndnjajpjajaaW.PrintLast

theorem back_loop (p : List Int) (hp : p.length ≤ 300) : ∀ (d k i : Nat), i + d = (enc p).length + 2 → d + 3 < k → halyardlaw7_KeyBack.l0 k (enc p ++ [0, 1]) ((enc p ++ [0, 1]).length : Int) (i : Int) = some true
  | 0, k, i, hi, hk => by
    obtain ⟨k, rfl⟩ : ∃ m, k = m + 1 := ⟨k - 1, by omega⟩
    simp only [halyardlaw7_KeyBack.l0]
    rw [if_neg (by simp; omega), awake_eval k (by omega)]
    rfl
  | d + 1, k, i, hi, hk => by
    obtain ⟨k, rfl⟩ : ∃ m, k = m + 1 := ⟨k - 1, by omega⟩
    have he := enc_len p
    simp only [halyardlaw7_KeyBack.l0]
    have hw : wrap64 ((i : Int) + 1) = ((i + 1 : Nat) : Int) := by rw [wrap_in (by omega) (by omega)]; omega
    rw [if_pos (by simp; omega), if_pos (by omega), if_pos (by simp; omega), Int.toNat_natCast, hw]
    unfold key_TakeBytes.f
    rw [if_pos (by rw [List.length_take]; simp; omega), tbg_short p i _ _ (by omega)]
    simp only [Option.bind_some, if_true]
    exact back_loop p hp d k (i + 1) (by omega) (by omega)
theorem back_j0 (p : List Int) (hp : p.length ≤ 300) (k : Nat) (hk : 610 ≤ k) : halyardlaw7_KeyBack.j0 k (enc p ++ [0, 1]) false = some true := by
  obtain ⟨k, rfl⟩ : ∃ m, k = m + 1 := ⟨k - 1, by omega⟩
  have he := enc_len p
  simp only [halyardlaw7_KeyBack.j0]
  rw [if_neg (by decide)]
  exact back_loop p hp ((enc p).length + 2) k 0 (by omega) (by omega)
theorem i64_wf {n : Int} (h : (Lit.int .i64 n).wf = true) : -9223372036854775808 ≤ n ∧ n < 9223372036854775808 := by
  simp [Lit.wf, IntKind.min, IntKind.max, IntKind.signed, IntKind.bits] at h
  omega
theorem KeyBack : halyardlaw7_KeyBack.Pure := by
  intro p b n _ hl hp _ hk hb hn
  have hp := By.of hp
  have hb := By.of hb
  have hn := i64_wf hn
  refine ⟨1000, ?_⟩
  unfold halyardlaw7_KeyBack.f
  by_cases h : p.length ≤ 300
  · have he := enc_len p
    have ha : enc p ++ [0, 1] ++ b = enc p ++ 0 :: 1 :: b := by simp
    rw [if_neg (by omega), bytes_eval [] p (by simp; omega) 1000 (by omega)]
    simp only [Option.bind_some, List.nil_append]
    rw [if_pos (by simp; omega), if_pos (by simp; omega)]
    unfold key_TakeBytes.f
    rw [if_pos (by simp; omega), ha, tbg_enc]
    simp only [Option.bind_some]
    rw [key_Number_eval [] hn.1 hn.2 (by simp) 991]
    simp only [Option.bind_some, List.nil_append]
    rw [if_pos (by simp [num8_len]; omega), key_TakeNumber_eval ((By.num8 _).append hb) 991, tnum_num8 hn.1 hn.2]
    simp only [Option.bind_some, if_true]
    rw [if_pos (by simp)]
    exact back_j0 p h 1000 (by omega)
  · rw [if_pos (by omega), awake_eval _ (by decide)]
    rfl
end Go.Proofs.Ytldndnjajpjajaa.Pure
