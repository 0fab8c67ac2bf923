/-
  Any bytes are read as a part by package key as the document reads them, and any part is written as the document writes it: for bytes and parts of at most 1048576 bytes each.
-/
import Derived.Test.YtldndnjajpjajaaKf7
import Derived.Test.YtldndnjajpjajaaEp
namespace Go.Proofs.Ytldndnjajpjajaa.Pure
open Go.RowKit Go.Proofs.Ytldndnjajpjajaa.K Go.Proofs.Ytldndnjajpjajaa.E Go.Proofs.YtldndnjajpjajaaW.PrintWords Go.Proofs.YtldndnjajpjajaaW.PrintLast

theorem KeyPartsUpto (l0 l1 : List Int) (h0 : l0.length ≤ 1048576) (h1 : l1.length ≤ 1048576) : ∃ k, halyardlaw7_KeyParts.f k l0 l1 = some true := by
  refine ⟨2000000, ?_⟩
  unfold halyardlaw7_KeyParts.f
  have ht : key_TakeBytes.f l0 = some (tbg l0 [] 0) := by
    unfold key_TakeBytes.f
    rw [if_pos (by omega)]
  rw [ht, takePart_eval (by omega) 2000000 (by omega), bytes_eval l0 l1 (by omega) 2000000 (by omega), awake_eval 2000000 (by omega)]
  simp only [Option.bind_some, if_true, List.nil_append, List.length_nil]
  rw [if_pos (by omega), part_eval l0 l1 (by omega) 2000000 (by omega)]
  simp only [Option.bind_some, if_true]

end Go.Proofs.Ytldndnjajpjajaa.Pure
