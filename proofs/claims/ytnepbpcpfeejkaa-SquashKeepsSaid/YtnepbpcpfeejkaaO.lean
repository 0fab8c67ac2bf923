/-
  Arguments of the types []int64, []byte and []api.Entry, read as lists.
-/
import Derived.Test.YtnepbpcpfeejkaaRows
import Derived.Test.YtnepbpcpfeejkaaK0
import Derived.Deep.Matrix
import Derived.ProofKit
set_option linter.unusedSimpArgs false
set_option linter.unusedVariables false
namespace Go.Proofs.Ytnepbpcpfeejkaa.O
open Go.ChangeShapes Go.WideShapes Go.ChangeAt Go.RowKit Go.Proofs.Ytnepbpcpfeejkaa.K Go.Proofs.YtnepbpcpfeejkaaW.PrintWords
section
variable {H : Type} {enc : TypeId × Value → H} {w : World} {base : Nat} {held : Bool}
theorem row_C {k : IntKind} {w : World} {A : Option Addr} {L C : Nat} {Z : List Int} (hL : L ≤ C) (hm : C ≤ maxLen) (hZ : Z.length = C) (hA : A = none → C = 0) (hc : ∀ a', A = some a' → ∀ c, c < C → w.cell? (a'.add c) = some (.int k (Z.getD c 0))) :
    (Kd.int k).C w A (Z.take L).length (Z.take L) := by
  have hl : (Z.take L).length = L := by rw [List.length_take]; omega
  have h : ReadsInt w k A (Z.take L).length (Z.take L) := by
    refine ⟨rfl, by unfold maxLen at hm; omega, fun hn => ?_⟩
    cases hA' : A with
    | none => have := hA hA'; omega
    | some ad =>
      refine ⟨ad, rfl, fun j hj => ?_⟩
      rw [hc ad hA' j (by omega), List.getD_eq_getElem?_getD, List.getD_eq_getElem?_getD, List.getElem?_take, if_pos (by omega)]
  exact Kd.C_of_reads (d := (0 : Int)) (h1 := fun _ => rfl) h
/-- A row of numbers, and what it holds. -/
def IsInts (k : IntKind) (w : World) (a : Option Addr) (len cap : Nat) (l : List Int) : Prop := len = l.length ∧ (Kd.int k).C w a l.length l ∧ l.length ≤ cap
theorem open_row {k : IntKind} {t e : TypeId} (ht : Try.prog.underlying t = some (.slice e)) (he : Try.prog.underlying e = some (.int k)) (ce : Try.prog.cellsOf e = 1) {fuel : Nat} {cs : List Value} {x : DataW H × List MemPlace}
    (h : DataW.trod enc Try.prog w base (fun _ => true) held fuel t cs = some x) : ∃ a len cap l, cs = [.slice a len cap] ∧ IsInts k w a len cap l := by
  rcases open_ints ht he ce h with ⟨hcs, _⟩ | ⟨ad, len, cap, zs, hcs, _, hl, hm, hz, _, hcell, _⟩
  · exact ⟨none, 0, 0, [], hcs, rfl, Kd.C_nil _ _, Nat.le_refl _⟩
  · simp only [if_true] at hz
    have hlen : (zs.take len).length = len := by rw [List.length_take]; omega
    refine ⟨some ad, len, cap, zs.take len, hcs, hlen.symm, row_C hl hm hz (fun h => by cases h) (fun a' ha' c hc => ?_), by rw [hlen]; exact hl⟩
    cases ha'
    exact hcell c (by rw [hz]; exact hc)
theorem cells35 : Try.prog.cellsOf 35 = 5 := by kernel_rfl
theorem cells33 : Try.prog.cellsOf 33 = 1 := by kernel_rfl
theorem cells5 : Try.prog.cellsOf 5 = 1 := by kernel_rfl
theorem cells2 : Try.prog.cellsOf 2 = 1 := by kernel_rfl
theorem cells4 : Try.prog.cellsOf 4 = 1 := by kernel_rfl
/-- One entry, out of its five cells. -/
theorem open_entry {fuel : Nat} {cs : List Value} {x : DataW H × List MemPlace} (h : DataW.trod enc Try.prog w base (fun _ => true) held fuel 35 cs = some x) : ∃ e : S35, k35.K w e cs := by
  obtain ⟨xs, n, _, _, hlen, hxl, hf⟩ := DataW.trod_struct Try.underlying35 h
  rw [cells35] at hlen
  match cs, hlen, xs, hxl with
  | [c0, c1, c2, c3, c4], _, [x0, x1, x2, x3, x4], _ =>
    have g0 := hf 0 _ rfl
    have g1 := hf 1 _ rfl
    have g2 := hf 2 _ rfl
    have g3 := hf 3 _ rfl
    have g4 := hf 4 _ rfl
    simp only [cells2, cells4, List.drop, List.take, List.getElem?_cons_zero, List.getElem?_cons_succ] at g0 g1 g2 g3 g4
    obtain ⟨A0, L0, C0, l0, e0, rfl, hC0, hc0⟩ := open_row Try.underlying33 Try.underlying5 cells5 g0
    obtain ⟨q1, e1, _⟩ := DataW.trod_int Try.underlying2 g1
    obtain ⟨q2, e2, _⟩ := DataW.trod_bool Try.underlying4 g2
    obtain ⟨q3, e3, _⟩ := DataW.trod_int Try.underlying2 g3
    obtain ⟨A4, L4, C4, l4, e4, rfl, hC4, hc4⟩ := open_row Try.underlying33 Try.underlying5 cells5 g4
    obtain rfl := (List.cons.inj e0).1
    obtain rfl := (List.cons.inj e1).1
    obtain rfl := (List.cons.inj e2).1
    obtain rfl := (List.cons.inj e3).1
    obtain rfl := (List.cons.inj e4).1
    exact ⟨⟨l0, q1, q2, q3, l4⟩, k35_mk w (⟨l0, q1, q2, q3, l4⟩ : S35) hc0 hC0 hc4 hC4⟩
/-- A row of entries, and what it holds. -/
def IsEntries (w : World) (a : Option Addr) (len cap : Nat) (l : List S35) : Prop := len = l.length ∧ Kd.C k35 w a l.length l ∧ l.length ≤ cap
theorem open_entries {fuel : Nat} {a : Option Addr} {len cap : Nat} {x : DataW H × List MemPlace} (h : DataW.trod enc Try.prog w base (fun _ => true) held fuel 22 [.slice a len cap] = some x) : ∃ l, IsEntries w a len cap l := by
  rcases Deep.open_slice Try.underlying22 h with ⟨hcs, _⟩ | ⟨ad, len', cap', m, n, D, Pl, hcs, _, hl, hm, hmm, _, hx⟩
  · simp only [List.cons.injEq, and_true, Value.slice.injEq] at hcs
    obtain ⟨rfl, rfl, rfl⟩ := hcs
    exact ⟨[], rfl, Kd.C_nil _ _, Nat.le_refl _⟩
  · simp only [List.cons.injEq, and_true, Value.slice.injEq] at hcs
    obtain ⟨rfl, rfl, rfl⟩ := hcs
    simp only [if_true] at hmm
    rw [cells35] at hx
    have each : ∀ i, i < m → ∃ e : S35, ∃ c : List Value, c.length = 5 ∧ k35.K w e c ∧ ∀ j u, c[j]? = some u → w.cell? (ad.add (i * 5 + j)) = some u := by
      intro i hi
      obtain ⟨cs', h1, h2⟩ := hx i hi
      obtain ⟨_, hlen, hcell⟩ := World.cells?_some h1
      obtain ⟨e, he⟩ := open_entry h2
      refine ⟨e, cs', hlen, he, fun j u hj => ?_⟩
      have hj5 : j < 5 := by rw [← hlen]; exact (List.getElem?_eq_some_iff.1 hj).1
      rw [← hj, ← hcell j hj5, Deep.add_add]
    have : Inhabited S35 := ⟨z35⟩
    obtain ⟨X, hX⟩ := Deep.choose_lt each
    have hlen : ((List.range len).map X).length = len := by simp
    refine ⟨(List.range len).map X, hlen.symm, ⟨rfl, by rw [hlen]; unfold maxLen at hm; omega, fun _ => ⟨ad, rfl, fun j p hj => ?_⟩⟩, by rw [hlen]; exact hl⟩
    rw [List.getElem?_map] at hj
    obtain ⟨r, hr', rfl⟩ := Option.map_eq_some_iff.1 hj
    have hjl := (List.getElem?_eq_some_iff.1 hr').1
    rw [List.length_range] at hjl
    have hrj : r = j := by
      rw [List.getElem?_range hjl] at hr'
      exact (Option.some.inj hr').symm
    subst hrj
    obtain ⟨c, h1, h2, h3⟩ := hX r (by omega)
    exact ⟨c, h1, h2, h3⟩
end
end Go.Proofs.Ytnepbpcpfeejkaa.O
