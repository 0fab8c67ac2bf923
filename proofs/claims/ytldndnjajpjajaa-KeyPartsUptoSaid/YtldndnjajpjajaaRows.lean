/-
  No cell of these rows narrows 'for every input' (looked for: loops, veiled, ifaces, maps, wideKeys, modest, calm, conditions, laid).
  DERIVED. THE GIVEN ROWS OF THIS SEAT. 7 by the template 'for every input the law returns true; each argument reads behind the call as it read before'; 0 by the template 'total and deterministic' (their statements: YtldndnjajpjajaaTotals.lean).
  GIVEN WITH THE SEED: the statements are not yours to turn. If you find one false, say at which input.
  Laid BY PROGRAM, IN A SANDBOX (cutbox-rows.mjs): the forced cells as the released guide's own fill.sh prints them over the translation eeb661b8ec8360b4… (all of the seat's roots in one cut). By AI agents, Wed Nov 11 2026. No macro, syntax, notation, axiom, sorry.
-/
import Derived.Test.YtldndnjajpjajaaChecked
import GoSem.Claim
import GoSem.ClaimJoined
import GoSem.ClaimMapViews
import Derived.JoinedTies
import Derived.KernelRfl
namespace Go.Proofs.Ytldndnjajpjajaa
/- THE CELL 'sum', in the pinned program and in every row, IS THE sha256 OF THE DUMP (.gsa) THAT YtldndnjajpjajaaProg.lean LOADS. Nothing in Lean hashes anything: it is a label: what it is worth is what the hold of that sum in a sandbox is worth. -/
noncomputable def Try.pinned : Pinned := { name := "ytldndnjajpjajaa", sum := "eeb661b8ec8360b41fcf6eb363550a5ad9bbf567c7ace76d05e507d99abc6542", checked := Try.checked }
namespace Rows
def none {H : Type} : Left H := { results := [], args := [] }

/-- 'halyardlaw7.KeyOrder': WHATEVER THE INPUT: true; the input reads as it did. -/
def keyOrderSpec : ChangeSpec := { name := "keyOrder", fn := fun _ => fun
  | [d1, d2, d3, d4] => { results := [.lit (.bool true)], args := [d1, d2, d3, d4] }
  | _ => none }
def keyOrderRow : OpenClaim := { program := "ytldndnjajpjajaa", sum := "eeb661b8ec8360b41fcf6eb363550a5ad9bbf567c7ace76d05e507d99abc6542", func := "halyard/halyardlaw7.KeyOrder", spec := "keyOrder", inPlace := ["internal/bytealg.Compare"], apart := false }
def KeyOrderSaid : Prop := keyOrderRow.holds Try.pinned (OpenSpec.ofChange keyOrderSpec)

/-- ITS FALSE NEIGHBOUR: 'it returns false'. Refute it at one input. -/
def keyOrderWrong : ChangeSpec := { name := "keyOrder", fn := fun _ => fun
  | [d1, d2, d3, d4] => { results := [.lit (.bool false)], args := [d1, d2, d3, d4] }
  | _ => none }
def KeyOrderWrongFalsely : Prop := keyOrderRow.holds Try.pinned (OpenSpec.ofChange keyOrderWrong)

/-- 'halyardlaw7.KeyAfter': WHATEVER THE INPUT: true; the input reads as it did. -/
def keyAfterSpec : ChangeSpec := { name := "keyAfter", fn := fun _ => fun
  | [d1, d2] => { results := [.lit (.bool true)], args := [d1, d2] }
  | _ => none }
def keyAfterRow : OpenClaim := { program := "ytldndnjajpjajaa", sum := "eeb661b8ec8360b41fcf6eb363550a5ad9bbf567c7ace76d05e507d99abc6542", func := "halyard/halyardlaw7.KeyAfter", spec := "keyAfter", inPlace := ["internal/bytealg.Compare"], apart := false }
def KeyAfterSaid : Prop := keyAfterRow.holds Try.pinned (OpenSpec.ofChange keyAfterSpec)

/-- ITS FALSE NEIGHBOUR: 'it returns false'. Refute it at one input. -/
def keyAfterWrong : ChangeSpec := { name := "keyAfter", fn := fun _ => fun
  | [d1, d2] => { results := [.lit (.bool false)], args := [d1, d2] }
  | _ => none }
def KeyAfterWrongFalsely : Prop := keyAfterRow.holds Try.pinned (OpenSpec.ofChange keyAfterWrong)

/-- 'halyardlaw7.KeyPrefix': WHATEVER THE INPUT: true; the input reads as it did. -/
def keyPrefixSpec : ChangeSpec := { name := "keyPrefix", fn := fun _ => fun
  | [d1, d2] => { results := [.lit (.bool true)], args := [d1, d2] }
  | _ => none }
def keyPrefixRow : OpenClaim := { program := "ytldndnjajpjajaa", sum := "eeb661b8ec8360b41fcf6eb363550a5ad9bbf567c7ace76d05e507d99abc6542", func := "halyard/halyardlaw7.KeyPrefix", spec := "keyPrefix", inPlace := ["internal/bytealg.Compare"], apart := false }
def KeyPrefixSaid : Prop := keyPrefixRow.holds Try.pinned (OpenSpec.ofChange keyPrefixSpec)

/-- ITS FALSE NEIGHBOUR: 'it returns false'. Refute it at one input. -/
def keyPrefixWrong : ChangeSpec := { name := "keyPrefix", fn := fun _ => fun
  | [d1, d2] => { results := [.lit (.bool false)], args := [d1, d2] }
  | _ => none }
def KeyPrefixWrongFalsely : Prop := keyPrefixRow.holds Try.pinned (OpenSpec.ofChange keyPrefixWrong)

/-- 'halyardlaw7.KeyNumbers': WHATEVER THE INPUT: true; the input reads as it did. -/
def keyNumbersSpec : ChangeSpec := { name := "keyNumbers", fn := fun _ => fun
  | [d1, d2] => { results := [.lit (.bool true)], args := [d1, d2] }
  | _ => none }
def keyNumbersRow : OpenClaim := { program := "ytldndnjajpjajaa", sum := "eeb661b8ec8360b41fcf6eb363550a5ad9bbf567c7ace76d05e507d99abc6542", func := "halyard/halyardlaw7.KeyNumbers", spec := "keyNumbers", apart := false }
def KeyNumbersSaid : Prop := keyNumbersRow.holds Try.pinned (OpenSpec.ofChange keyNumbersSpec)

/-- ITS FALSE NEIGHBOUR: 'it returns false'. Refute it at one input. -/
def keyNumbersWrong : ChangeSpec := { name := "keyNumbers", fn := fun _ => fun
  | [d1, d2] => { results := [.lit (.bool false)], args := [d1, d2] }
  | _ => none }
def KeyNumbersWrongFalsely : Prop := keyNumbersRow.holds Try.pinned (OpenSpec.ofChange keyNumbersWrong)

/-- 'halyardlaw7.KeyParts': WHATEVER THE INPUT: true; the input reads as it did. -/
def keyPartsSpec : ChangeSpec := { name := "keyParts", fn := fun _ => fun
  | [d1, d2] => { results := [.lit (.bool true)], args := [d1, d2] }
  | _ => none }
def keyPartsRow : OpenClaim := { program := "ytldndnjajpjajaa", sum := "eeb661b8ec8360b41fcf6eb363550a5ad9bbf567c7ace76d05e507d99abc6542", func := "halyard/halyardlaw7.KeyParts", spec := "keyParts", apart := false }
def KeyPartsSaid : Prop := keyPartsRow.holds Try.pinned (OpenSpec.ofChange keyPartsSpec)

/-- ITS FALSE NEIGHBOUR: 'it returns false'. Refute it at one input. -/
def keyPartsWrong : ChangeSpec := { name := "keyParts", fn := fun _ => fun
  | [d1, d2] => { results := [.lit (.bool false)], args := [d1, d2] }
  | _ => none }
def KeyPartsWrongFalsely : Prop := keyPartsRow.holds Try.pinned (OpenSpec.ofChange keyPartsWrong)

/-- 'halyardlaw7.KeyBack': WHATEVER THE INPUT: true; the input reads as it did. -/
def keyBackSpec : ChangeSpec := { name := "keyBack", fn := fun _ => fun
  | [d1, d2, d3] => { results := [.lit (.bool true)], args := [d1, d2, d3] }
  | _ => none }
def keyBackRow : OpenClaim := { program := "ytldndnjajpjajaa", sum := "eeb661b8ec8360b41fcf6eb363550a5ad9bbf567c7ace76d05e507d99abc6542", func := "halyard/halyardlaw7.KeyBack", spec := "keyBack", apart := false }
def KeyBackSaid : Prop := keyBackRow.holds Try.pinned (OpenSpec.ofChange keyBackSpec)

/-- ITS FALSE NEIGHBOUR: 'it returns false'. Refute it at one input. -/
def keyBackWrong : ChangeSpec := { name := "keyBack", fn := fun _ => fun
  | [d1, d2, d3] => { results := [.lit (.bool false)], args := [d1, d2, d3] }
  | _ => none }
def KeyBackWrongFalsely : Prop := keyBackRow.holds Try.pinned (OpenSpec.ofChange keyBackWrong)

/-- 'halyardlaw7.KeyRows': WHATEVER THE INPUT: true; the input reads as it did. -/
def keyRowsSpec : ChangeSpec := { name := "keyRows", fn := fun _ => fun
  | [d1, d2] => { results := [.lit (.bool true)], args := [d1, d2] }
  | _ => none }
def keyRowsRow : OpenClaim := { program := "ytldndnjajpjajaa", sum := "eeb661b8ec8360b41fcf6eb363550a5ad9bbf567c7ace76d05e507d99abc6542", func := "halyard/halyardlaw7.KeyRows", spec := "keyRows", apart := false }
def KeyRowsSaid : Prop := keyRowsRow.holds Try.pinned (OpenSpec.ofChange keyRowsSpec)

/-- ITS FALSE NEIGHBOUR: 'it returns false'. Refute it at one input. -/
def keyRowsWrong : ChangeSpec := { name := "keyRows", fn := fun _ => fun
  | [d1, d2] => { results := [.lit (.bool false)], args := [d1, d2] }
  | _ => none }
def KeyRowsWrongFalsely : Prop := keyRowsRow.holds Try.pinned (OpenSpec.ofChange keyRowsWrong)

/- THE SECOND FORM. 'bulk': how many values and letters a reading holds, each counted each time it is reached (what is shared counts as often as it is met; a slice's spare places count too). A statement '..UptoSaid' is the law's where the arguments, and the package variables that the reading takes, are together of bulk at most 1048576: NARROWER than '..Said'. Prove '..Said' where nothing that the law and all that it calls make is longer than what came in: it says more and counts as full. Else prove '..UptoSaid'. A law counts once. -/
mutual
def uptoBulk {H : Type} : DataW H → Nat
  | .lit (.string bytes) => bytes.length + 1
  | .lit _ => 1
  | .nil => 1
  | .ptr d => uptoBulk d + 1
  | .slice elems spare => uptoBulkAll elems + uptoBulkAll spare + 1
  | .agg parts => uptoBulkAll parts + 1
  | .iface _ d => uptoBulk d + 1
  | .map entries => uptoBulkEntries entries + 1
  | .held _ => 1
def uptoBulkAll {H : Type} : List (DataW H) → Nat
  | [] => 0
  | d :: r => uptoBulk d + uptoBulkAll r
def uptoBulkEntries {H : Type} : List (Lit × DataW H) → Nat
  | [] => 0
  | x :: r => uptoBulkEntry x + uptoBulkEntries r
def uptoBulkEntry {H : Type} : Lit × DataW H → Nat
  | (.string bytes, d) => bytes.length + uptoBulk d + 1
  | (_, d) => uptoBulk d + 1
 end
def uptoSmall : (H : Type) → List (DataW H) → Bool := fun _ ds => decide (uptoBulkAll ds ≤ 1048576)
def OpenSpec.upto (s : _root_.Go.ChangeSpec) : _root_.Go.OpenSpec := { _root_.Go.OpenSpec.ofChange s with cond := some uptoSmall }

/-- 'halyardlaw7.KeyOrder', WHERE WHAT IT READS IS OF BULK AT MOST 1048576: true; the input reads as it did. -/
def keyOrderUptoRow : OpenClaim := { program := "ytldndnjajpjajaa", sum := "eeb661b8ec8360b41fcf6eb363550a5ad9bbf567c7ace76d05e507d99abc6542", func := "halyard/halyardlaw7.KeyOrder", spec := "keyOrder", inPlace := ["internal/bytealg.Compare"], apart := false, narrowed := true }
def KeyOrderUptoSaid : Prop := keyOrderUptoRow.holds Try.pinned (OpenSpec.upto keyOrderSpec)

/-- 'halyardlaw7.KeyAfter', WHERE WHAT IT READS IS OF BULK AT MOST 1048576: true; the input reads as it did. -/
def keyAfterUptoRow : OpenClaim := { program := "ytldndnjajpjajaa", sum := "eeb661b8ec8360b41fcf6eb363550a5ad9bbf567c7ace76d05e507d99abc6542", func := "halyard/halyardlaw7.KeyAfter", spec := "keyAfter", inPlace := ["internal/bytealg.Compare"], apart := false, narrowed := true }
def KeyAfterUptoSaid : Prop := keyAfterUptoRow.holds Try.pinned (OpenSpec.upto keyAfterSpec)

/-- 'halyardlaw7.KeyPrefix', WHERE WHAT IT READS IS OF BULK AT MOST 1048576: true; the input reads as it did. -/
def keyPrefixUptoRow : OpenClaim := { program := "ytldndnjajpjajaa", sum := "eeb661b8ec8360b41fcf6eb363550a5ad9bbf567c7ace76d05e507d99abc6542", func := "halyard/halyardlaw7.KeyPrefix", spec := "keyPrefix", inPlace := ["internal/bytealg.Compare"], apart := false, narrowed := true }
def KeyPrefixUptoSaid : Prop := keyPrefixUptoRow.holds Try.pinned (OpenSpec.upto keyPrefixSpec)

/-- 'halyardlaw7.KeyNumbers', WHERE WHAT IT READS IS OF BULK AT MOST 1048576: true; the input reads as it did. -/
def keyNumbersUptoRow : OpenClaim := { program := "ytldndnjajpjajaa", sum := "eeb661b8ec8360b41fcf6eb363550a5ad9bbf567c7ace76d05e507d99abc6542", func := "halyard/halyardlaw7.KeyNumbers", spec := "keyNumbers", apart := false, narrowed := true }
def KeyNumbersUptoSaid : Prop := keyNumbersUptoRow.holds Try.pinned (OpenSpec.upto keyNumbersSpec)

/-- 'halyardlaw7.KeyParts', WHERE WHAT IT READS IS OF BULK AT MOST 1048576: true; the input reads as it did. -/
def keyPartsUptoRow : OpenClaim := { program := "ytldndnjajpjajaa", sum := "eeb661b8ec8360b41fcf6eb363550a5ad9bbf567c7ace76d05e507d99abc6542", func := "halyard/halyardlaw7.KeyParts", spec := "keyParts", apart := false, narrowed := true }
def KeyPartsUptoSaid : Prop := keyPartsUptoRow.holds Try.pinned (OpenSpec.upto keyPartsSpec)

/-- 'halyardlaw7.KeyBack', WHERE WHAT IT READS IS OF BULK AT MOST 1048576: true; the input reads as it did. -/
def keyBackUptoRow : OpenClaim := { program := "ytldndnjajpjajaa", sum := "eeb661b8ec8360b41fcf6eb363550a5ad9bbf567c7ace76d05e507d99abc6542", func := "halyard/halyardlaw7.KeyBack", spec := "keyBack", apart := false, narrowed := true }
def KeyBackUptoSaid : Prop := keyBackUptoRow.holds Try.pinned (OpenSpec.upto keyBackSpec)

/-- 'halyardlaw7.KeyRows', WHERE WHAT IT READS IS OF BULK AT MOST 1048576: true; the input reads as it did. -/
def keyRowsUptoRow : OpenClaim := { program := "ytldndnjajpjajaa", sum := "eeb661b8ec8360b41fcf6eb363550a5ad9bbf567c7ace76d05e507d99abc6542", func := "halyard/halyardlaw7.KeyRows", spec := "keyRows", apart := false, narrowed := true }
def KeyRowsUptoSaid : Prop := keyRowsUptoRow.holds Try.pinned (OpenSpec.upto keyRowsSpec)

end Rows
end Go.Proofs.Ytldndnjajpjajaa
