/-
  An argument of the type [][]byte, read as a row of rows of bytes.
-/
import Derived.Test.YtldndnjajpjajaaRows
import Derived.Test.YtldndnjajpjajaaK0
import Derived.Test.YtldndnjajpjajaaWSized
import Derived.Deep.Matrix
import Derived.ProofKit
namespace Go.Proofs.Ytldndnjajpjajaa.O
open Go.RowKit Go.Proofs.YtldndnjajpjajaaW.PrintWords

theorem row_C {w : World} {A : Option Addr} {L C : Nat} {Z : List Int} (hL : L ≤ C) (hm : C ≤ maxLen) (hZ : Z.length = C) (hA : A = none → C = 0) (hc : ∀ a', A = some a' → ∀ c, c < C → w.cell? (a'.add c) = some (.int .u8 (Z.getD c 0))) :
    (Kd.int .u8).C w A (Z.take L).length (Z.take L) := by
  have hl : (Z.take L).length = L := by rw [List.length_take]; omega
  have h : ReadsInt w .u8 A (Z.take L).length (Z.take L) := by
    refine ⟨rfl, by unfold maxLen at hm; omega, fun hn => ?_⟩
    cases hA' : A with
    | none => have := hA hA'; omega
    | some ad =>
      refine ⟨ad, rfl, fun j hj => ?_⟩
      rw [hc ad hA' j (by omega), List.getD_eq_getElem?_getD, List.getD_eq_getElem?_getD, List.getElem?_take, if_pos (by omega)]
  exact Kd.C_of_reads (d := (0 : Int)) (h1 := fun _ => rfl) h
/-- The rows, and what is known of each. -/
def IsRows (w : World) (a : Option Addr) (len cap : Nat) (l : List (List Int)) : Prop :=
  len = l.length ∧ Kd.C (Kd.slice 5 (Kd.int .u8)) w a l.length l ∧ l.length ≤ cap ∧ ∀ p ∈ l, ∀ x ∈ p, (Lit.int .u8 x).wf = true
theorem open_rows {H : Type} {enc : TypeId × Value → H} {w : World} {base : Nat} {held : Bool} {fuel : Nat} {a : Option Addr} {len cap : Nat} {x : DataW H × List MemPlace}
    (h : DataW.trod enc Try.prog w base (fun _ => true) held fuel 22 [.slice a len cap] = some x) : ∃ l, IsRows w a len cap l := by
  rcases Deep.open_int_rows Try.underlying22 Try.underlying23 Try.underlying5 (by kernel_rfl) (by kernel_rfl) h with ⟨hcs, _⟩ | ⟨ad, n, c, A, L, C, Z, hcs, _, hl, hm, _, hr⟩
  · simp only [List.cons.injEq, and_true, Value.slice.injEq] at hcs
    obtain ⟨rfl, rfl, rfl⟩ := hcs
    refine ⟨[], rfl, ⟨rfl, by simp, fun h => absurd h (by simp)⟩, Nat.le_refl _, by simp⟩
  · simp only [List.cons.injEq, and_true, Value.slice.injEq] at hcs
    obtain ⟨rfl, rfl, rfl⟩ := hcs
    have hlen : ((List.range len).map fun r => (Z r).take (L r)).length = len := by simp
    refine ⟨(List.range len).map fun r => (Z r).take (L r), hlen.symm, ⟨rfl, by rw [hlen]; unfold maxLen at hm; omega, fun _ => ⟨ad, rfl, fun j p hj => ?_⟩⟩, by rw [hlen]; exact hl, ?_⟩
    · rw [List.getElem?_map] at hj
      obtain ⟨r, hr', rfl⟩ := Option.map_eq_some_iff.1 hj
      have hjl := (List.getElem?_eq_some_iff.1 hr').1
      rw [List.length_range] at hjl
      have hrj : r = j := by
        rw [List.getElem?_range hjl] at hr'
        exact (Option.some.inj hr').symm
      subst hrj
      obtain ⟨hcell, h1, h2, h3, _, h5, h6⟩ := hr r (by omega)
      have hL : ((Z r).take (L r)).length = L r := by rw [List.length_take]; omega
      refine ⟨[.slice (A r) ((Z r).take (L r)).length (C r)], rfl, ⟨A r, C r, rfl, by omega, row_C h1 h2 h3 h5 (fun a' ha' => (h6 a' ha').2)⟩, ?_⟩
      intro i u hu
      match i, hu with
      | 0, hu =>
        simp only [List.getElem?_cons_zero, Option.some.injEq] at hu
        subst hu
        rw [hL]
        show w.cell? (ad.add (r * 1 + 0)) = _
        rw [Nat.mul_one, Nat.add_zero]
        exact hcell
      | i + 1, hu => simp at hu
    · intro p hp x hx
      obtain ⟨r, hr', rfl⟩ := List.mem_map.1 hp
      rw [List.mem_range] at hr'
      exact (hr r (by omega)).2.2.2.2.1 x (List.mem_of_mem_take hx)
end Go.Proofs.Ytldndnjajpjajaa.O
