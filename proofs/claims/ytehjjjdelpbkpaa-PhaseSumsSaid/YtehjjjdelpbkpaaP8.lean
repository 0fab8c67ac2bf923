/-
  Package phase: forth and back in whole numbers; products of powers.
-/
import Derived.Test.YtehjjjdelpbkpaaP7
import Derived.Test.YtehjjjdelpbkpaaP4
import Derived.Deep.RegionHeld3
namespace Go.Proofs.Ytehjjjdelpbkpaa
open Go.RowKit Go Go.Proofs.YtehjjjdelpbkpaaW.PrintWords
open F
/-- Two complex numbers' product. -/
theorem cmul {a b c d : Nat} {p q r s : Int} (ha : Fl a p) (hb : Fl b q) (hc : Fl c r) (hd : Fl d s) (h1 : (p * r).natAbs < 9007199254740992) (h2 : (q * s).natAbs < 9007199254740992) (h3 : (p * s).natAbs < 9007199254740992) (h4 : (q * r).natAbs < 9007199254740992)
    (h5 : (p * r - q * s).natAbs < 9007199254740992) (h6 : (p * s + q * r).natAbs < 9007199254740992) :
    ∃ re im, Fl re (p * r - q * s) ∧ Fl im (p * s + q * r) ∧ ∀ (t : TypeId) (W : World), (binOp .mul t (.complex .f64 a b) (.complex .f64 c d)).run Try.prog W = .ok (.complex .f64 re im) W := by
  obtain ⟨x1, e1, f1⟩ := fl_mul ha hc h1
  obtain ⟨x2, e2, f2⟩ := fl_mul hb hd h2
  obtain ⟨x3, e3, f3⟩ := fl_mul ha hd h3
  obtain ⟨x4, e4, f4⟩ := fl_mul hb hc h4
  obtain ⟨re, e5, f5⟩ := fl_sub f1 f2 h5
  obtain ⟨im, e6, f6⟩ := fl_add f3 f4 h6
  refine ⟨re, im, f5, f6, fun t W => run_complex_mul W t a b c d re im ?_⟩
  have g1 : floatBits .mul .f64 a c = some x1 := e1
  have g2 : floatBits .mul .f64 b d = some x2 := e2
  have g3 : floatBits .mul .f64 a d = some x3 := e3
  have g4 : floatBits .mul .f64 b c = some x4 := e4
  have g5 : floatBits .sub .f64 x1 x2 = some re := e5
  have g6 : floatBits .add .f64 x3 x4 = some im := e6
  simp [cMulBits, g1, g2, g3, g4, g5, g6]
theorem ipow (m n : Nat) (hm : m < 4) (hn : n < 4) : ire m * ire n - iim m * iim n = ire ((m + n) % 4) ∧ ire m * iim n + iim m * ire n = iim ((m + n) % 4) := by
  have h1 : m = 0 ∨ m = 1 ∨ m = 2 ∨ m = 3 := by omega
  have h2 : n = 0 ∨ n = 1 ∨ n = 2 ∨ n = 3 := by omega
  rcases h1 with rfl | rfl | rfl | rfl <;> rcases h2 with rfl | rfl | rfl | rfl <;> decide
/-- Powers add up. -/
theorem tpow (m n : Nat) (hm : m < 4) (hn : n < 4) : ∃ re im, (FloatKind.f64.format.order re (tre ((m + n) % 4)) == some .eq) = true ∧ (FloatKind.f64.format.order im (tim ((m + n) % 4)) == some .eq) = true ∧
    ∀ (t : TypeId) (W : World), (binOp .mul t (.complex .f64 (tre m) (tim m)) (.complex .f64 (tre n) (tim n))).run Try.prog W = .ok (.complex .f64 re im) W := by
  have h1 : m = 0 ∨ m = 1 ∨ m = 2 ∨ m = 3 := by omega
  have h2 : n = 0 ∨ n = 1 ∨ n = 2 ∨ n = 3 := by omega
  obtain ⟨re, im, f1, f2, h⟩ := cmul (fl_tre m) (fl_tim m) (fl_tre n) (fl_tim n)
    (by rcases h1 with rfl | rfl | rfl | rfl <;> rcases h2 with rfl | rfl | rfl | rfl <;> decide) (by rcases h1 with rfl | rfl | rfl | rfl <;> rcases h2 with rfl | rfl | rfl | rfl <;> decide)
    (by rcases h1 with rfl | rfl | rfl | rfl <;> rcases h2 with rfl | rfl | rfl | rfl <;> decide) (by rcases h1 with rfl | rfl | rfl | rfl <;> rcases h2 with rfl | rfl | rfl | rfl <;> decide)
    (by rcases h1 with rfl | rfl | rfl | rfl <;> rcases h2 with rfl | rfl | rfl | rfl <;> decide) (by rcases h1 with rfl | rfl | rfl | rfl <;> rcases h2 with rfl | rfl | rfl | rfl <;> decide)
  refine ⟨re, im, ?_, ?_, h⟩
  · rw [fl_eq' f1 (fl_tre _), (ipow m n hm hn).1]; simp
  · rw [fl_eq' f2 (fl_tim _), (ipow m n hm hn).2]; simp
/-- What was sent forth and comes back. -/
theorem back_re (x y : Nat → Int) (j : Nat) (hj : j < 4) : Sr (fun k => Sr x y (-(k : Int)) 4) (fun k => Si x y (-(k : Int)) 4) (j : Int) 4 = 4 * x j := by
  have h1 : j = 0 ∨ j = 1 ∨ j = 2 ∨ j = 3 := by omega
  rcases h1 with rfl | rfl | rfl | rfl <;> simp [Sr, Si, rotr, roti] <;> omega
theorem back_im (x y : Nat → Int) (j : Nat) (hj : j < 4) : Si (fun k => Sr x y (-(k : Int)) 4) (fun k => Si x y (-(k : Int)) 4) (j : Int) 4 = 4 * y j := by
  have h1 : j = 0 ∨ j = 1 ∨ j = 2 ∨ j = 3 := by omega
  rcases h1 with rfl | rfl | rfl | rfl <;> simp [Sr, Si, rotr, roti] <;> omega
/-- A row that stands, and what was there before. -/
structure KS (w : World) (g : Nat) (A : Array Value) (W : World) : Prop where
  row : W.heap[g]? = some (.cells A 31 (0, 0))
  below : Below w.heap.size w W
theorem KS.step {w : World} {g : Nat} {A : Array Value} {W W' : World} (h : KS w g A W) (hb : Below W.heap.size W W') : KS w g A W' := ⟨blk_below h.row hb, below_two h.below hb⟩
def KC (w : World) (g : Nat) (c0 c1 c2 c3 : Value) (W : World) : Prop := KS w g #[c0, c1, c2, c3] W ∧ W.cell? ⟨g, 0, none⟩ = some c0 ∧ W.cell? ⟨g, 1, none⟩ = some c1 ∧ W.cell? ⟨g, 2, none⟩ = some c2 ∧ W.cell? ⟨g, 3, none⟩ = some c3
theorem KS.all {w : World} {g : Nat} {c0 c1 c2 c3 : Value} {W : World} (h : KS w g #[c0, c1, c2, c3] W) : KS w g #[c0, c1, c2, c3] W ∧ W.cell? ⟨g, 0, none⟩ = some c0 ∧ W.cell? ⟨g, 1, none⟩ = some c1 ∧ W.cell? ⟨g, 2, none⟩ = some c2 ∧ W.cell? ⟨g, 3, none⟩ = some c3 :=
  ⟨h, blk_cell h.row 0, blk_cell h.row 1, blk_cell h.row 2, blk_cell h.row 3⟩
end Go.Proofs.Ytehjjjdelpbkpaa
