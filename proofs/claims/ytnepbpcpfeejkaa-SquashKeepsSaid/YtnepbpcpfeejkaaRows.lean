/-
  No cell of these rows narrows 'for every input' (looked for: loops, veiled, ifaces, maps, wideKeys, modest, calm, conditions, laid).
  DERIVED. THE GIVEN ROWS OF THIS SEAT. 6 by the template 'for every input the law returns true; each argument reads behind the call as it read before'; 0 by the template 'total and deterministic' (their statements: YtnepbpcpfeejkaaTotals.lean).
  GIVEN WITH THE SEED: the statements are not yours to turn. If you find one false, say at which input.
  Laid BY PROGRAM, IN A SANDBOX (cutbox-rows.mjs): the forced cells as the released guide's own fill.sh prints them over the translation e06d19997bb29966… (all of the seat's roots in one cut). By AI agents, Wed Nov 11 2026. No macro, syntax, notation, axiom, sorry.
-/
import Derived.Test.YtnepbpcpfeejkaaChecked
import GoSem.Claim
import GoSem.ClaimJoined
import GoSem.ClaimMapViews
import Derived.JoinedTies
import Derived.KernelRfl
namespace Go.Proofs.Ytnepbpcpfeejkaa
/- THE CELL 'sum', in the pinned program and in every row, IS THE sha256 OF THE DUMP (.gsa) THAT YtnepbpcpfeejkaaProg.lean LOADS. Nothing in Lean hashes anything: it is a label: what it is worth is what the hold of that sum in a sandbox is worth. -/
noncomputable def Try.pinned : Pinned := { name := "ytnepbpcpfeejkaa", sum := "e06d19997bb29966ce9ae1daa9d4f4c14fd0ed0e824820e75a352a20f2679caf", checked := Try.checked }
namespace Rows
def none {H : Type} : Left H := { results := [], args := [] }

/-- 'halyardlaw18.SquashKeeps': WHATEVER THE INPUT: true; the input reads as it did. -/
def squashKeepsSpec : ChangeSpec := { name := "squashKeeps", fn := fun _ => fun
  | [d1, d2, d3, d4] => { results := [.lit (.bool true)], args := [d1, d2, d3, d4] }
  | _ => none }
def squashKeepsRow : OpenClaim := { program := "ytnepbpcpfeejkaa", sum := "e06d19997bb29966ce9ae1daa9d4f4c14fd0ed0e824820e75a352a20f2679caf", func := "halyard/halyardlaw18.SquashKeeps", spec := "squashKeeps", inPlace := ["internal/bytealg.Compare"], apart := false }
def SquashKeepsSaid : Prop := squashKeepsRow.holds Try.pinned (OpenSpec.ofChange squashKeepsSpec)

/-- ITS FALSE NEIGHBOUR: 'it returns false'. Refute it at one input. -/
def squashKeepsWrong : ChangeSpec := { name := "squashKeeps", fn := fun _ => fun
  | [d1, d2, d3, d4] => { results := [.lit (.bool false)], args := [d1, d2, d3, d4] }
  | _ => none }
def SquashKeepsWrongFalsely : Prop := squashKeepsRow.holds Try.pinned (OpenSpec.ofChange squashKeepsWrong)

/-- 'halyardlaw18.SquashPins': WHATEVER THE INPUT: true; the input reads as it did. -/
def squashPinsSpec : ChangeSpec := { name := "squashPins", fn := fun _ => fun
  | [d1, d2, d3, d4] => { results := [.lit (.bool true)], args := [d1, d2, d3, d4] }
  | _ => none }
def squashPinsRow : OpenClaim := { program := "ytnepbpcpfeejkaa", sum := "e06d19997bb29966ce9ae1daa9d4f4c14fd0ed0e824820e75a352a20f2679caf", func := "halyard/halyardlaw18.SquashPins", spec := "squashPins", inPlace := ["internal/bytealg.Compare"], apart := false }
def SquashPinsSaid : Prop := squashPinsRow.holds Try.pinned (OpenSpec.ofChange squashPinsSpec)

/-- ITS FALSE NEIGHBOUR: 'it returns false'. Refute it at one input. -/
def squashPinsWrong : ChangeSpec := { name := "squashPins", fn := fun _ => fun
  | [d1, d2, d3, d4] => { results := [.lit (.bool false)], args := [d1, d2, d3, d4] }
  | _ => none }
def SquashPinsWrongFalsely : Prop := squashPinsRow.holds Try.pinned (OpenSpec.ofChange squashPinsWrong)

/-- 'halyardlaw18.SquashParts': WHATEVER THE INPUT: true; the input reads as it did. -/
def squashPartsSpec : ChangeSpec := { name := "squashParts", fn := fun _ => fun
  | [d1, d2, d3, d4, d5] => { results := [.lit (.bool true)], args := [d1, d2, d3, d4, d5] }
  | _ => none }
def squashPartsRow : OpenClaim := { program := "ytnepbpcpfeejkaa", sum := "e06d19997bb29966ce9ae1daa9d4f4c14fd0ed0e824820e75a352a20f2679caf", func := "halyard/halyardlaw18.SquashParts", spec := "squashParts", inPlace := ["internal/bytealg.Compare"], apart := false }
def SquashPartsSaid : Prop := squashPartsRow.holds Try.pinned (OpenSpec.ofChange squashPartsSpec)

/-- ITS FALSE NEIGHBOUR: 'it returns false'. Refute it at one input. -/
def squashPartsWrong : ChangeSpec := { name := "squashParts", fn := fun _ => fun
  | [d1, d2, d3, d4, d5] => { results := [.lit (.bool false)], args := [d1, d2, d3, d4, d5] }
  | _ => none }
def SquashPartsWrongFalsely : Prop := squashPartsRow.holds Try.pinned (OpenSpec.ofChange squashPartsWrong)

/-- 'halyardlaw18.SquashLives': WHATEVER THE INPUT: true; the input reads as it did. -/
def squashLivesSpec : ChangeSpec := { name := "squashLives", fn := fun _ => fun
  | [d1, d2, d3] => { results := [.lit (.bool true)], args := [d1, d2, d3] }
  | _ => none }
def squashLivesRow : OpenClaim := { program := "ytnepbpcpfeejkaa", sum := "e06d19997bb29966ce9ae1daa9d4f4c14fd0ed0e824820e75a352a20f2679caf", func := "halyard/halyardlaw18.SquashLives", spec := "squashLives", inPlace := ["internal/bytealg.Compare"], apart := false }
def SquashLivesSaid : Prop := squashLivesRow.holds Try.pinned (OpenSpec.ofChange squashLivesSpec)

/-- ITS FALSE NEIGHBOUR: 'it returns false'. Refute it at one input. -/
def squashLivesWrong : ChangeSpec := { name := "squashLives", fn := fun _ => fun
  | [d1, d2, d3] => { results := [.lit (.bool false)], args := [d1, d2, d3] }
  | _ => none }
def SquashLivesWrongFalsely : Prop := squashLivesRow.holds Try.pinned (OpenSpec.ofChange squashLivesWrong)

/-- 'halyardlaw18.SquashSame': WHATEVER THE INPUT: true; the input reads as it did. -/
def squashSameSpec : ChangeSpec := { name := "squashSame", fn := fun _ => fun
  | [d1, d2, d3, d4] => { results := [.lit (.bool true)], args := [d1, d2, d3, d4] }
  | _ => none }
def squashSameRow : OpenClaim := { program := "ytnepbpcpfeejkaa", sum := "e06d19997bb29966ce9ae1daa9d4f4c14fd0ed0e824820e75a352a20f2679caf", func := "halyard/halyardlaw18.SquashSame", spec := "squashSame", inPlace := ["internal/bytealg.Compare"], apart := false }
def SquashSameSaid : Prop := squashSameRow.holds Try.pinned (OpenSpec.ofChange squashSameSpec)

/-- ITS FALSE NEIGHBOUR: 'it returns false'. Refute it at one input. -/
def squashSameWrong : ChangeSpec := { name := "squashSame", fn := fun _ => fun
  | [d1, d2, d3, d4] => { results := [.lit (.bool false)], args := [d1, d2, d3, d4] }
  | _ => none }
def SquashSameWrongFalsely : Prop := squashSameRow.holds Try.pinned (OpenSpec.ofChange squashSameWrong)

/-- 'halyardlaw18.SquashBottom': WHATEVER THE INPUT: true; the input reads as it did. -/
def squashBottomSpec : ChangeSpec := { name := "squashBottom", fn := fun _ => fun
  | [d1, d2] => { results := [.lit (.bool true)], args := [d1, d2] }
  | _ => none }
def squashBottomRow : OpenClaim := { program := "ytnepbpcpfeejkaa", sum := "e06d19997bb29966ce9ae1daa9d4f4c14fd0ed0e824820e75a352a20f2679caf", func := "halyard/halyardlaw18.SquashBottom", spec := "squashBottom", inPlace := ["internal/bytealg.Compare"], apart := false }
def SquashBottomSaid : Prop := squashBottomRow.holds Try.pinned (OpenSpec.ofChange squashBottomSpec)

/-- ITS FALSE NEIGHBOUR: 'it returns false'. Refute it at one input. -/
def squashBottomWrong : ChangeSpec := { name := "squashBottom", fn := fun _ => fun
  | [d1, d2] => { results := [.lit (.bool false)], args := [d1, d2] }
  | _ => none }
def SquashBottomWrongFalsely : Prop := squashBottomRow.holds Try.pinned (OpenSpec.ofChange squashBottomWrong)

/- THE SECOND FORM. 'bulk': how many values and letters a reading holds, each counted each time it is reached (what is shared counts as often as it is met; a slice's spare places count too). A statement '..UptoSaid' is the law's where the arguments, and the package variables that the reading takes, are together of bulk at most 1048576: NARROWER than '..Said'. Prove '..Said' where nothing that the law and all that it calls make is longer than what came in: it says more and counts as full. Else prove '..UptoSaid'. A law counts once. -/
mutual
def uptoBulk {H : Type} : DataW H → Nat
  | .lit (.string bytes) => bytes.length + 1
  | .lit _ => 1
  | .nil => 1
  | .ptr d => uptoBulk d + 1
  | .slice elems spare => uptoBulkAll elems + uptoBulkAll spare + 1
  | .agg parts => uptoBulkAll parts + 1
  | .iface _ d => uptoBulk d + 1
  | .map entries => uptoBulkEntries entries + 1
  | .held _ => 1
def uptoBulkAll {H : Type} : List (DataW H) → Nat
  | [] => 0
  | d :: r => uptoBulk d + uptoBulkAll r
def uptoBulkEntries {H : Type} : List (Lit × DataW H) → Nat
  | [] => 0
  | x :: r => uptoBulkEntry x + uptoBulkEntries r
def uptoBulkEntry {H : Type} : Lit × DataW H → Nat
  | (.string bytes, d) => bytes.length + uptoBulk d + 1
  | (_, d) => uptoBulk d + 1
 end
def uptoSmall : (H : Type) → List (DataW H) → Bool := fun _ ds => decide (uptoBulkAll ds ≤ 1048576)
def OpenSpec.upto (s : _root_.Go.ChangeSpec) : _root_.Go.OpenSpec := { _root_.Go.OpenSpec.ofChange s with cond := some uptoSmall }

/-- 'halyardlaw18.SquashKeeps', WHERE WHAT IT READS IS OF BULK AT MOST 1048576: true; the input reads as it did. -/
def squashKeepsUptoRow : OpenClaim := { program := "ytnepbpcpfeejkaa", sum := "e06d19997bb29966ce9ae1daa9d4f4c14fd0ed0e824820e75a352a20f2679caf", func := "halyard/halyardlaw18.SquashKeeps", spec := "squashKeeps", inPlace := ["internal/bytealg.Compare"], apart := false, narrowed := true }
def SquashKeepsUptoSaid : Prop := squashKeepsUptoRow.holds Try.pinned (OpenSpec.upto squashKeepsSpec)

/-- 'halyardlaw18.SquashPins', WHERE WHAT IT READS IS OF BULK AT MOST 1048576: true; the input reads as it did. -/
def squashPinsUptoRow : OpenClaim := { program := "ytnepbpcpfeejkaa", sum := "e06d19997bb29966ce9ae1daa9d4f4c14fd0ed0e824820e75a352a20f2679caf", func := "halyard/halyardlaw18.SquashPins", spec := "squashPins", inPlace := ["internal/bytealg.Compare"], apart := false, narrowed := true }
def SquashPinsUptoSaid : Prop := squashPinsUptoRow.holds Try.pinned (OpenSpec.upto squashPinsSpec)

/-- 'halyardlaw18.SquashParts', WHERE WHAT IT READS IS OF BULK AT MOST 1048576: true; the input reads as it did. -/
def squashPartsUptoRow : OpenClaim := { program := "ytnepbpcpfeejkaa", sum := "e06d19997bb29966ce9ae1daa9d4f4c14fd0ed0e824820e75a352a20f2679caf", func := "halyard/halyardlaw18.SquashParts", spec := "squashParts", inPlace := ["internal/bytealg.Compare"], apart := false, narrowed := true }
def SquashPartsUptoSaid : Prop := squashPartsUptoRow.holds Try.pinned (OpenSpec.upto squashPartsSpec)

/-- 'halyardlaw18.SquashLives', WHERE WHAT IT READS IS OF BULK AT MOST 1048576: true; the input reads as it did. -/
def squashLivesUptoRow : OpenClaim := { program := "ytnepbpcpfeejkaa", sum := "e06d19997bb29966ce9ae1daa9d4f4c14fd0ed0e824820e75a352a20f2679caf", func := "halyard/halyardlaw18.SquashLives", spec := "squashLives", inPlace := ["internal/bytealg.Compare"], apart := false, narrowed := true }
def SquashLivesUptoSaid : Prop := squashLivesUptoRow.holds Try.pinned (OpenSpec.upto squashLivesSpec)

/-- 'halyardlaw18.SquashSame', WHERE WHAT IT READS IS OF BULK AT MOST 1048576: true; the input reads as it did. -/
def squashSameUptoRow : OpenClaim := { program := "ytnepbpcpfeejkaa", sum := "e06d19997bb29966ce9ae1daa9d4f4c14fd0ed0e824820e75a352a20f2679caf", func := "halyard/halyardlaw18.SquashSame", spec := "squashSame", inPlace := ["internal/bytealg.Compare"], apart := false, narrowed := true }
def SquashSameUptoSaid : Prop := squashSameUptoRow.holds Try.pinned (OpenSpec.upto squashSameSpec)

/-- 'halyardlaw18.SquashBottom', WHERE WHAT IT READS IS OF BULK AT MOST 1048576: true; the input reads as it did. -/
def squashBottomUptoRow : OpenClaim := { program := "ytnepbpcpfeejkaa", sum := "e06d19997bb29966ce9ae1daa9d4f4c14fd0ed0e824820e75a352a20f2679caf", func := "halyard/halyardlaw18.SquashBottom", spec := "squashBottom", inPlace := ["internal/bytealg.Compare"], apart := false, narrowed := true }
def SquashBottomUptoSaid : Prop := squashBottomUptoRow.holds Try.pinned (OpenSpec.upto squashBottomSpec)

end Rows
end Go.Proofs.Ytnepbpcpfeejkaa
