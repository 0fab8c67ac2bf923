/-
  Four pairs as an argument: opened.
-/
import Derived.Test.YtehjjjdelpbkpaaP8
import Derived.Test.YtehjjjdelpbkpaaRows
import Derived.ProofKit
import Derived.OpenShut
import Derived.Carry
import Derived.Deep.SlicePairs
namespace Go.Proofs.Ytehjjjdelpbkpaa
open Go.ChangeShapes Go.WideShapes Go.ChangeAt Go.RowKit Go.Deep
theorem cells30 : Try.prog.cellsOf 30 = 8 := by kernel_rfl
theorem cells26 : Try.prog.cellsOf 26 = 2 := by kernel_rfl
theorem cells2 : Try.prog.cellsOf 2 = 1 := by kernel_rfl
section
variable {H : Type} {enc : TypeId × Value → H}
theorem open_two {W : World} {base : Nat} {sp : Nat → Bool} {fuel : Nat} {a b : Value} {x : DataW H × List MemPlace} (h : DataW.trod enc Try.prog W base sp true fuel 26 [a, b] = some x) : ∃ p q : Int, a = .int .i64 p ∧ b = .int .i64 q := by
  obtain ⟨z0, z1, m, rfl, _, u0, u1⟩ := trod_struct2 Try.underlying26 h
  simp only [cells2, List.drop, List.take] at u0 u1
  obtain ⟨p, hp, _⟩ := DataW.trod_int Try.underlying2 u0
  obtain ⟨q, hq, _⟩ := DataW.trod_int Try.underlying2 u1
  simp only [List.cons.injEq, and_true] at hp hq
  exact ⟨p, q, hp, hq⟩
theorem open_arr8 {W : World} {sp : Nat → Bool} {v : Value} {d : DataW H} {ps : List MemPlace} (h : DataW.Trod enc Try.prog W 0 sp true 30 v d ps) : ∃ x y : Nat → Int, v = arr8 x y := by
  obtain ⟨fuel, hf⟩ := h
  obtain ⟨xs, m, _, _, hlen, hxl, hel⟩ := DataW.trod_array Try.underlying30 hf
  rw [cells30] at hlen
  have hv : ∃ cs : Array Value, v = .agg cs := by
    cases v <;> first | exact ⟨_, rfl⟩ | (simp [Value.cells] at hlen)
  obtain ⟨cs, rfl⟩ := hv
  obtain ⟨l⟩ := cs
  have hl : l.length = 8 := hlen
  match l, hl, xs, hxl with
  | [c0, c1, c2, c3, c4, c5, c6, c7], _, [x0, x1, x2, x3], _ =>
    simp only [cells26, Value.cells] at hel
    obtain ⟨a0, b0, rfl, rfl⟩ := open_two (x := x0) (hel 0 (by omega))
    obtain ⟨a1, b1, rfl, rfl⟩ := open_two (x := x1) (hel 1 (by omega))
    obtain ⟨a2, b2, rfl, rfl⟩ := open_two (x := x2) (hel 2 (by omega))
    obtain ⟨a3, b3, rfl, rfl⟩ := open_two (x := x3) (hel 3 (by omega))
    exact ⟨fun j => if j = 0 then a0 else if j = 1 then a1 else if j = 2 then a2 else a3, fun j => if j = 0 then b0 else if j = 1 then b1 else if j = 2 then b2 else b3, rfl⟩
end
end Go.Proofs.Ytehjjjdelpbkpaa
