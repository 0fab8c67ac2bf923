/-
  Any number as bytes, any bytes as a number: package key's Number and TakeNumber answer as the document's do, for every row of bytes and every number.
-/
import Derived.Test.YtldndnjajpjajaaKf6
import Derived.Test.YtldndnjajpjajaaEn
namespace Go.Proofs.Ytldndnjajpjajaa.Pure
open Go.RowKit Go.Proofs.Ytldndnjajpjajaa.K Go.Proofs.Ytldndnjajpjajaa.E Go.Proofs.YtldndnjajpjajaaW.PrintWords Go.Proofs.YtldndnjajpjajaaW.PrintLast

theorem i64_wf {n : Int} (h : (Lit.int .i64 n).wf = true) : -9223372036854775808 ≤ n ∧ n < 9223372036854775808 := by
  simp [Lit.wf, IntKind.min, IntKind.max, IntKind.signed, IntKind.bits] at h
  omega
theorem KeyNumbers : halyardlaw7_KeyNumbers.Pure := by
  intro l n hm hl hb hn
  have hb := By.of hb
  have hn := i64_wf hn
  refine ⟨10, ?_⟩
  unfold halyardlaw7_KeyNumbers.f
  rw [key_TakeNumber_eval hb 1, ref_TakeNumber_eval hb 0]
  simp only [Option.bind_some, if_true]
  rw [key_Number_eval l hn.1 hn.2 (by omega) 1]
  simp only [Option.bind_some]
  rw [if_pos (by simp; omega), ref_Number_eval ([] ++ l) hn.1 hn.2 (by simp; omega) 0]
  simp only [Option.bind_some, List.nil_append, if_true]
  rw [awake_eval 10 (by decide)]
  rfl
end Go.Proofs.Ytldndnjajpjajaa.Pure
