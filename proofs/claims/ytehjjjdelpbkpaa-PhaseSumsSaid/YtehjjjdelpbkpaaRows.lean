/-
  No cell of these rows narrows 'for every input' (looked for: loops, veiled, ifaces, maps, wideKeys, modest, calm, conditions, laid).
  DERIVED. THE GIVEN ROWS OF THIS SEAT. 9 by the template 'for every input the law returns true; each argument reads behind the call as it read before'; 0 by the template 'total and deterministic' (their statements: YtehjjjdelpbkpaaTotals.lean).
  GIVEN WITH THE SEED: the statements are not yours to turn. If you find one false, say at which input.
  Laid BY PROGRAM, IN A SANDBOX (cutbox-rows.mjs): the forced cells as the released guide's own fill.sh prints them over the translation 4edd5e745021aa95… (all of the seat's roots in one cut). By AI agents, Wed Nov 11 2026. No macro, syntax, notation, axiom, sorry.
-/
import Derived.Test.YtehjjjdelpbkpaaChecked
import GoSem.Claim
import GoSem.ClaimJoined
import GoSem.ClaimMapViews
import Derived.JoinedTies
import Derived.KernelRfl
namespace Go.Proofs.Ytehjjjdelpbkpaa
/- THE CELL 'sum', in the pinned program and in every row, IS THE sha256 OF THE DUMP (.gsa) THAT YtehjjjdelpbkpaaProg.lean LOADS. Nothing in Lean hashes anything: it is a label: what it is worth is what the hold of that sum in a sandbox is worth. -/
noncomputable def Try.pinned : Pinned := { name := "ytehjjjdelpbkpaa", sum := "4edd5e745021aa951cd345286de70d905b051b211bd3c875c223c5fae5927f00", checked := Try.checked }
namespace Rows
def none {H : Type} : Left H := { results := [], args := [] }

/-- 'halyardlaw1.PhaseTurns': WHATEVER THE INPUT: true; the input reads as it did. -/
def phaseTurnsSpec : ChangeSpec := { name := "phaseTurns", fn := fun _ => fun
  | [d] => { results := [.lit (.bool true)], args := [d] }
  | _ => none }
def phaseTurnsRow : OpenClaim := { program := "ytehjjjdelpbkpaa", sum := "4edd5e745021aa951cd345286de70d905b051b211bd3c875c223c5fae5927f00", func := "halyard/halyardlaw1.PhaseTurns", spec := "phaseTurns", apart := false }
def PhaseTurnsSaid : Prop := phaseTurnsRow.holds Try.pinned (OpenSpec.ofChange phaseTurnsSpec)

/-- ITS FALSE NEIGHBOUR: 'it returns false'. Refute it at one input. -/
def phaseTurnsWrong : ChangeSpec := { name := "phaseTurns", fn := fun _ => fun
  | [d] => { results := [.lit (.bool false)], args := [d] }
  | _ => none }
def PhaseTurnsWrongFalsely : Prop := phaseTurnsRow.holds Try.pinned (OpenSpec.ofChange phaseTurnsWrong)

/-- 'halyardlaw1.PhaseForth': WHATEVER THE INPUT: true; the input reads as it did. -/
def phaseForthSpec : ChangeSpec := { name := "phaseForth", fn := fun _ => fun
  | [d] => { results := [.lit (.bool true)], args := [d] }
  | _ => none }
def phaseForthRow : OpenClaim := { program := "ytehjjjdelpbkpaa", sum := "4edd5e745021aa951cd345286de70d905b051b211bd3c875c223c5fae5927f00", func := "halyard/halyardlaw1.PhaseForth", spec := "phaseForth", apart := false }
def PhaseForthSaid : Prop := phaseForthRow.holds Try.pinned (OpenSpec.ofChange phaseForthSpec)

/-- ITS FALSE NEIGHBOUR: 'it returns false'. Refute it at one input. -/
def phaseForthWrong : ChangeSpec := { name := "phaseForth", fn := fun _ => fun
  | [d] => { results := [.lit (.bool false)], args := [d] }
  | _ => none }
def PhaseForthWrongFalsely : Prop := phaseForthRow.holds Try.pinned (OpenSpec.ofChange phaseForthWrong)

/-- 'halyardlaw1.PhaseSquares': WHATEVER THE INPUT: true; the input reads as it did. -/
def phaseSquaresSpec : ChangeSpec := { name := "phaseSquares", fn := fun _ => fun
  | [d] => { results := [.lit (.bool true)], args := [d] }
  | _ => none }
def phaseSquaresRow : OpenClaim := { program := "ytehjjjdelpbkpaa", sum := "4edd5e745021aa951cd345286de70d905b051b211bd3c875c223c5fae5927f00", func := "halyard/halyardlaw1.PhaseSquares", spec := "phaseSquares", apart := false }
def PhaseSquaresSaid : Prop := phaseSquaresRow.holds Try.pinned (OpenSpec.ofChange phaseSquaresSpec)

/-- ITS FALSE NEIGHBOUR: 'it returns false'. Refute it at one input. -/
def phaseSquaresWrong : ChangeSpec := { name := "phaseSquares", fn := fun _ => fun
  | [d] => { results := [.lit (.bool false)], args := [d] }
  | _ => none }
def PhaseSquaresWrongFalsely : Prop := phaseSquaresRow.holds Try.pinned (OpenSpec.ofChange phaseSquaresWrong)

/-- 'halyardlaw1.PhaseSums': WHATEVER THE INPUT: true; the input reads as it did. -/
def phaseSumsSpec : ChangeSpec := { name := "phaseSums", fn := fun _ => fun
  | [d1, d2, d3] => { results := [.lit (.bool true)], args := [d1, d2, d3] }
  | _ => none }
def phaseSumsRow : OpenClaim := { program := "ytehjjjdelpbkpaa", sum := "4edd5e745021aa951cd345286de70d905b051b211bd3c875c223c5fae5927f00", func := "halyard/halyardlaw1.PhaseSums", spec := "phaseSums", apart := false }
def PhaseSumsSaid : Prop := phaseSumsRow.holds Try.pinned (OpenSpec.ofChange phaseSumsSpec)

/-- ITS FALSE NEIGHBOUR: 'it returns false'. Refute it at one input. -/
def phaseSumsWrong : ChangeSpec := { name := "phaseSums", fn := fun _ => fun
  | [d1, d2, d3] => { results := [.lit (.bool false)], args := [d1, d2, d3] }
  | _ => none }
def PhaseSumsWrongFalsely : Prop := phaseSumsRow.holds Try.pinned (OpenSpec.ofChange phaseSumsWrong)

/-- 'halyardlaw1.PhaseBack': WHATEVER THE INPUT: true; the input reads as it did. -/
def phaseBackSpec : ChangeSpec := { name := "phaseBack", fn := fun _ => fun
  | [d1, d2, d3] => { results := [.lit (.bool true)], args := [d1, d2, d3] }
  | _ => none }
def phaseBackRow : OpenClaim := { program := "ytehjjjdelpbkpaa", sum := "4edd5e745021aa951cd345286de70d905b051b211bd3c875c223c5fae5927f00", func := "halyard/halyardlaw1.PhaseBack", spec := "phaseBack", apart := false }
def PhaseBackSaid : Prop := phaseBackRow.holds Try.pinned (OpenSpec.ofChange phaseBackSpec)

/-- ITS FALSE NEIGHBOUR: 'it returns false'. Refute it at one input. -/
def phaseBackWrong : ChangeSpec := { name := "phaseBack", fn := fun _ => fun
  | [d1, d2, d3] => { results := [.lit (.bool false)], args := [d1, d2, d3] }
  | _ => none }
def PhaseBackWrongFalsely : Prop := phaseBackRow.holds Try.pinned (OpenSpec.ofChange phaseBackWrong)

/-- 'halyardlaw1.PhaseLater': WHATEVER THE INPUT: true; the input reads as it did. -/
def phaseLaterSpec : ChangeSpec := { name := "phaseLater", fn := fun _ => fun
  | [d] => { results := [.lit (.bool true)], args := [d] }
  | _ => none }
def phaseLaterRow : OpenClaim := { program := "ytehjjjdelpbkpaa", sum := "4edd5e745021aa951cd345286de70d905b051b211bd3c875c223c5fae5927f00", func := "halyard/halyardlaw1.PhaseLater", spec := "phaseLater", apart := false }
def PhaseLaterSaid : Prop := phaseLaterRow.holds Try.pinned (OpenSpec.ofChange phaseLaterSpec)

/-- ITS FALSE NEIGHBOUR: 'it returns false'. Refute it at one input. -/
def phaseLaterWrong : ChangeSpec := { name := "phaseLater", fn := fun _ => fun
  | [d] => { results := [.lit (.bool false)], args := [d] }
  | _ => none }
def PhaseLaterWrongFalsely : Prop := phaseLaterRow.holds Try.pinned (OpenSpec.ofChange phaseLaterWrong)

/-- 'halyardlaw1.PhaseNil': WHATEVER THE INPUT: true; the input reads as it did. -/
def phaseNilSpec : ChangeSpec := { name := "phaseNil", fn := fun _ => fun
  | [d1, d2] => { results := [.lit (.bool true)], args := [d1, d2] }
  | _ => none }
def phaseNilRow : OpenClaim := { program := "ytehjjjdelpbkpaa", sum := "4edd5e745021aa951cd345286de70d905b051b211bd3c875c223c5fae5927f00", func := "halyard/halyardlaw1.PhaseNil", spec := "phaseNil", apart := false }
def PhaseNilSaid : Prop := phaseNilRow.holds Try.pinned (OpenSpec.ofChange phaseNilSpec)

/-- ITS FALSE NEIGHBOUR: 'it returns false'. Refute it at one input. -/
def phaseNilWrong : ChangeSpec := { name := "phaseNil", fn := fun _ => fun
  | [d1, d2] => { results := [.lit (.bool false)], args := [d1, d2] }
  | _ => none }
def PhaseNilWrongFalsely : Prop := phaseNilRow.holds Try.pinned (OpenSpec.ofChange phaseNilWrong)

/-- 'halyardlaw1.PhaseMeters': WHATEVER THE INPUT: true; the input reads as it did. -/
def phaseMetersSpec : ChangeSpec := { name := "phaseMeters", fn := fun _ => fun
  | [d1, d2] => { results := [.lit (.bool true)], args := [d1, d2] }
  | _ => none }
def phaseMetersRow : OpenClaim := { program := "ytehjjjdelpbkpaa", sum := "4edd5e745021aa951cd345286de70d905b051b211bd3c875c223c5fae5927f00", func := "halyard/halyardlaw1.PhaseMeters", spec := "phaseMeters", apart := false }
def PhaseMetersSaid : Prop := phaseMetersRow.holds Try.pinned (OpenSpec.ofChange phaseMetersSpec)

/-- ITS FALSE NEIGHBOUR: 'it returns false'. Refute it at one input. -/
def phaseMetersWrong : ChangeSpec := { name := "phaseMeters", fn := fun _ => fun
  | [d1, d2] => { results := [.lit (.bool false)], args := [d1, d2] }
  | _ => none }
def PhaseMetersWrongFalsely : Prop := phaseMetersRow.holds Try.pinned (OpenSpec.ofChange phaseMetersWrong)

/-- 'halyardlaw1.PhaseReturns': WHATEVER THE INPUT: true; the input reads as it did. -/
def phaseReturnsSpec : ChangeSpec := { name := "phaseReturns", fn := fun _ => fun
  | [d] => { results := [.lit (.bool true)], args := [d] }
  | _ => none }
def phaseReturnsRow : OpenClaim := { program := "ytehjjjdelpbkpaa", sum := "4edd5e745021aa951cd345286de70d905b051b211bd3c875c223c5fae5927f00", func := "halyard/halyardlaw1.PhaseReturns", spec := "phaseReturns", apart := false }
def PhaseReturnsSaid : Prop := phaseReturnsRow.holds Try.pinned (OpenSpec.ofChange phaseReturnsSpec)

/-- ITS FALSE NEIGHBOUR: 'it returns false'. Refute it at one input. -/
def phaseReturnsWrong : ChangeSpec := { name := "phaseReturns", fn := fun _ => fun
  | [d] => { results := [.lit (.bool false)], args := [d] }
  | _ => none }
def PhaseReturnsWrongFalsely : Prop := phaseReturnsRow.holds Try.pinned (OpenSpec.ofChange phaseReturnsWrong)

/- THE SECOND FORM. 'bulk': how many values and letters a reading holds, each counted each time it is reached (what is shared counts as often as it is met; a slice's spare places count too). A statement '..UptoSaid' is the law's where the arguments, and the package variables that the reading takes, are together of bulk at most 1048576: NARROWER than '..Said'. Prove '..Said' where nothing that the law and all that it calls make is longer than what came in: it says more and counts as full. Else prove '..UptoSaid'. A law counts once. -/
mutual
def uptoBulk {H : Type} : DataW H → Nat
  | .lit (.string bytes) => bytes.length + 1
  | .lit _ => 1
  | .nil => 1
  | .ptr d => uptoBulk d + 1
  | .slice elems spare => uptoBulkAll elems + uptoBulkAll spare + 1
  | .agg parts => uptoBulkAll parts + 1
  | .iface _ d => uptoBulk d + 1
  | .map entries => uptoBulkEntries entries + 1
  | .held _ => 1
def uptoBulkAll {H : Type} : List (DataW H) → Nat
  | [] => 0
  | d :: r => uptoBulk d + uptoBulkAll r
def uptoBulkEntries {H : Type} : List (Lit × DataW H) → Nat
  | [] => 0
  | x :: r => uptoBulkEntry x + uptoBulkEntries r
def uptoBulkEntry {H : Type} : Lit × DataW H → Nat
  | (.string bytes, d) => bytes.length + uptoBulk d + 1
  | (_, d) => uptoBulk d + 1
 end
def uptoSmall : (H : Type) → List (DataW H) → Bool := fun _ ds => decide (uptoBulkAll ds ≤ 1048576)
def OpenSpec.upto (s : _root_.Go.ChangeSpec) : _root_.Go.OpenSpec := { _root_.Go.OpenSpec.ofChange s with cond := some uptoSmall }

/-- 'halyardlaw1.PhaseTurns', WHERE WHAT IT READS IS OF BULK AT MOST 1048576: true; the input reads as it did. -/
def phaseTurnsUptoRow : OpenClaim := { program := "ytehjjjdelpbkpaa", sum := "4edd5e745021aa951cd345286de70d905b051b211bd3c875c223c5fae5927f00", func := "halyard/halyardlaw1.PhaseTurns", spec := "phaseTurns", apart := false, narrowed := true }
def PhaseTurnsUptoSaid : Prop := phaseTurnsUptoRow.holds Try.pinned (OpenSpec.upto phaseTurnsSpec)

/-- 'halyardlaw1.PhaseForth', WHERE WHAT IT READS IS OF BULK AT MOST 1048576: true; the input reads as it did. -/
def phaseForthUptoRow : OpenClaim := { program := "ytehjjjdelpbkpaa", sum := "4edd5e745021aa951cd345286de70d905b051b211bd3c875c223c5fae5927f00", func := "halyard/halyardlaw1.PhaseForth", spec := "phaseForth", apart := false, narrowed := true }
def PhaseForthUptoSaid : Prop := phaseForthUptoRow.holds Try.pinned (OpenSpec.upto phaseForthSpec)

/-- 'halyardlaw1.PhaseSquares', WHERE WHAT IT READS IS OF BULK AT MOST 1048576: true; the input reads as it did. -/
def phaseSquaresUptoRow : OpenClaim := { program := "ytehjjjdelpbkpaa", sum := "4edd5e745021aa951cd345286de70d905b051b211bd3c875c223c5fae5927f00", func := "halyard/halyardlaw1.PhaseSquares", spec := "phaseSquares", apart := false, narrowed := true }
def PhaseSquaresUptoSaid : Prop := phaseSquaresUptoRow.holds Try.pinned (OpenSpec.upto phaseSquaresSpec)

/-- 'halyardlaw1.PhaseSums', WHERE WHAT IT READS IS OF BULK AT MOST 1048576: true; the input reads as it did. -/
def phaseSumsUptoRow : OpenClaim := { program := "ytehjjjdelpbkpaa", sum := "4edd5e745021aa951cd345286de70d905b051b211bd3c875c223c5fae5927f00", func := "halyard/halyardlaw1.PhaseSums", spec := "phaseSums", apart := false, narrowed := true }
def PhaseSumsUptoSaid : Prop := phaseSumsUptoRow.holds Try.pinned (OpenSpec.upto phaseSumsSpec)

/-- 'halyardlaw1.PhaseBack', WHERE WHAT IT READS IS OF BULK AT MOST 1048576: true; the input reads as it did. -/
def phaseBackUptoRow : OpenClaim := { program := "ytehjjjdelpbkpaa", sum := "4edd5e745021aa951cd345286de70d905b051b211bd3c875c223c5fae5927f00", func := "halyard/halyardlaw1.PhaseBack", spec := "phaseBack", apart := false, narrowed := true }
def PhaseBackUptoSaid : Prop := phaseBackUptoRow.holds Try.pinned (OpenSpec.upto phaseBackSpec)

/-- 'halyardlaw1.PhaseLater', WHERE WHAT IT READS IS OF BULK AT MOST 1048576: true; the input reads as it did. -/
def phaseLaterUptoRow : OpenClaim := { program := "ytehjjjdelpbkpaa", sum := "4edd5e745021aa951cd345286de70d905b051b211bd3c875c223c5fae5927f00", func := "halyard/halyardlaw1.PhaseLater", spec := "phaseLater", apart := false, narrowed := true }
def PhaseLaterUptoSaid : Prop := phaseLaterUptoRow.holds Try.pinned (OpenSpec.upto phaseLaterSpec)

/-- 'halyardlaw1.PhaseNil', WHERE WHAT IT READS IS OF BULK AT MOST 1048576: true; the input reads as it did. -/
def phaseNilUptoRow : OpenClaim := { program := "ytehjjjdelpbkpaa", sum := "4edd5e745021aa951cd345286de70d905b051b211bd3c875c223c5fae5927f00", func := "halyard/halyardlaw1.PhaseNil", spec := "phaseNil", apart := false, narrowed := true }
def PhaseNilUptoSaid : Prop := phaseNilUptoRow.holds Try.pinned (OpenSpec.upto phaseNilSpec)

/-- 'halyardlaw1.PhaseMeters', WHERE WHAT IT READS IS OF BULK AT MOST 1048576: true; the input reads as it did. -/
def phaseMetersUptoRow : OpenClaim := { program := "ytehjjjdelpbkpaa", sum := "4edd5e745021aa951cd345286de70d905b051b211bd3c875c223c5fae5927f00", func := "halyard/halyardlaw1.PhaseMeters", spec := "phaseMeters", apart := false, narrowed := true }
def PhaseMetersUptoSaid : Prop := phaseMetersUptoRow.holds Try.pinned (OpenSpec.upto phaseMetersSpec)

/-- 'halyardlaw1.PhaseReturns', WHERE WHAT IT READS IS OF BULK AT MOST 1048576: true; the input reads as it did. -/
def phaseReturnsUptoRow : OpenClaim := { program := "ytehjjjdelpbkpaa", sum := "4edd5e745021aa951cd345286de70d905b051b211bd3c875c223c5fae5927f00", func := "halyard/halyardlaw1.PhaseReturns", spec := "phaseReturns", apart := false, narrowed := true }
def PhaseReturnsUptoSaid : Prop := phaseReturnsUptoRow.holds Try.pinned (OpenSpec.upto phaseReturnsSpec)

end Rows
end Go.Proofs.Ytehjjjdelpbkpaa
