/-
  Where what begins so ends, and which of two stands ahead: package key's After and Compare answer as the document's do, for any two rows of bytes.
-/
import Derived.Test.YtldndnjajpjajaaKf4
import Derived.Test.YtldndnjajpjajaaEa
namespace Go.Proofs.Ytldndnjajpjajaa.Pure
open Go.RowKit Go.Proofs.Ytldndnjajpjajaa.K Go.Proofs.Ytldndnjajpjajaa.E Go.Proofs.YtldndnjajpjajaaW.PrintWords Go.Proofs.YtldndnjajpjajaaW.PrintLast

theorem KeyAfter : halyardlaw7_KeyAfter.Pure := by
  intro a b _ hl hb _ _ hc
  have hb := By.of hb
  have hc := By.of hc
  refine ⟨a.length + 3, ?_⟩
  unfold halyardlaw7_KeyAfter.f
  rw [key_After_eval (by omega) _ (by omega), ref_After_eval (by omega) _ (by omega)]
  simp only [Option.bind_some, if_true, beq_self_eq_true]
  rw [key_Compare_eval hb hc]
  simp only [Option.bind_some]
  rw [ref_Compare_eval hb hc]
  simp only [Option.bind_some, if_true]
  rw [awake_eval _ (by omega)]
  rfl
end Go.Proofs.Ytldndnjajpjajaa.Pure
