-- Printed by the prover's own turned printer (wip/printer in the prover's repo); Lean checks it.
import Derived.Test.YtldndnjajpjajaaK0
namespace Go.Proofs.Ytldndnjajpjajaa.K
open Go.RowKit Go.Proofs.YtldndnjajpjajaaW.PrintWords Go.Proofs.YtldndnjajpjajaaW.PrintLast Go.Proofs.YtldndnjajpjajaaW.PrintMore
attribute [local go_sem] max2_int min2_int max_two min_two max_three min_three max_four min_four   -- for this text's walks alone
set_option linter.unusedVariables false
set_option linter.unusedSimpArgs false

/-! ### halyardref2_Compare: function 11 -/
-- GIVEN making
theorem less_irrefl : ∀ a : List UInt8, Op.bytesLess a a = false
  | [] => rfl
  | a :: x => by simp [Op.bytesLess, less_irrefl x]
theorem less_ne {a b : List UInt8} (h : Op.bytesLess b a = true) : (a == b) = false := by
  rw [beq_eq_false_iff_ne]
  rintro rfl
  rw [less_irrefl] at h
  cases h
theorem less_tri : ∀ {a b : List UInt8}, Op.bytesLess a b = false → Op.bytesLess b a = false → a = b
  | [], [], _, _ => rfl
  | [], _ :: _, h, _ => by simp [Op.bytesLess] at h
  | _ :: _, [], _, h => by simp [Op.bytesLess] at h
  | a :: x, b :: y, h, k => by
    simp only [Op.bytesLess, Bool.or_eq_false_iff, decide_eq_false_iff_not, Bool.and_eq_false_imp, beq_iff_eq] at h k
    have e : a = b := UInt8.le_antisymm (UInt8.not_lt.mp k.1) (UInt8.not_lt.mp h.1)
    subst e
    rw [less_tri (h.2 rfl) (k.2 rfl)]
theorem less_eq_ {a b : List UInt8} (h : Op.bytesLess a b = false) (k : Op.bytesLess b a = false) : (a == b) = true := beq_iff_eq.mpr (less_tri h k)
def halyardref2_Compare.f (l0 : List Int) (l1 : List Int) : Option (Int) := if (Op.bytesLess ((strOfNums l0).toList) ((strOfNums l1).toList)) = true then (some (-1)) else (if (Op.bytesLess ((strOfNums l1).toList) ((strOfNums l0).toList)) = true then (some 1) else (some 0))
set_option maxHeartbeats 8000000 in
set_option maxRecDepth 100000 in
theorem halyardref2_Compare.calls (A0 : Option Addr) (c0 : Nat) (l0 : List Int) (A1 : Option Addr) (c1 : Nat) (l1 : List Int) (r : Int) (w : World) (hr0 : Kd.C (Kd.int .u8) w A0 l0.length l0) (hc0 : l0.length ≤ c0) (hr1 : Kd.C (Kd.int .u8) w A1 l1.length l1) (hc1 : l1.length ≤ c1) (h : halyardref2_Compare.f l0 l1 = some r) :
    Calls Try.prog 11 #[.slice A0 l0.length c0, .slice A1 l1.length c1] w fun e w' => e = .returned (.int .i64 r) ∧ Below w.heap.size w w' := by
  have HR0 := Aside0.mk hr0
  have HC0 := Aside0.mk hc0
  clear hr0 hc0
  have HR1 := Aside0.mk hr1
  have HC1 := Aside0.mk hc1
  clear hr1 hc1
  have H : (if (Op.bytesLess ((strOfNums l0).toList) ((strOfNums l1).toList)) = true then (some (-1)) else (if (Op.bytesLess ((strOfNums l1).toList) ((strOfNums l0).toList)) = true then (some 1) else (some 0))) = some r := h
  clear h
  by_cases c3 : (Op.bytesLess ((strOfNums l0).toList) ((strOfNums l1).toList)) = true
  · rw [if_pos c3] at H
    have c3b0 : (Op.bytesLess ((strOfNums l0).toList) ((strOfNums l1).toList)) = true := c3
    clear c3
    obtain rfl := Option.some.inj H
    have hcv4 := Kd.C_string (P := Try.prog) (A := A0) (c := c0) Try.underlying23 Try.underlying5 Try.underlying9 (Kd.C_below HR0.out ((Below.refl _ _).drew))
    have hcv5 := Kd.C_string (P := Try.prog) (A := A1) (c := c1) Try.underlying23 Try.underlying5 Try.underlying9 (Kd.C_below HR1.out ((Below.refl _ _).drew))
    go_enter Try.func11, Try.ntmps11
    go_wp2
    go_region
    go_wp2
    go_ret
    exact ⟨by first | rfl | (simp; done) | (simp [*]; done), (Below.refl _ _).drew⟩
  · rw [if_neg c3] at H
    have c3b0 : (Op.bytesLess ((strOfNums l0).toList) ((strOfNums l1).toList)) = false := by simpa using c3
    clear c3
    by_cases c6 : (Op.bytesLess ((strOfNums l1).toList) ((strOfNums l0).toList)) = true
    · rw [if_pos c6] at H
      have c6b0 : (Op.bytesLess ((strOfNums l1).toList) ((strOfNums l0).toList)) = true := c6
      clear c6
      obtain rfl := Option.some.inj H
      have hcv7 := Kd.C_string (P := Try.prog) (A := A0) (c := c0) Try.underlying23 Try.underlying5 Try.underlying9 (Kd.C_below HR0.out ((Below.refl _ _).drew))
      have hcv8 := Kd.C_string (P := Try.prog) (A := A1) (c := c1) Try.underlying23 Try.underlying5 Try.underlying9 (Kd.C_below HR1.out ((Below.refl _ _).drew))
      have e12 : ((strOfNums l0).toList == (strOfNums l1).toList) = false := less_ne c6b0
      have e13 : (!(strOfNums l0).toList == (strOfNums l1).toList) = true := by rw [e12]; rfl
      go_enter Try.func11, Try.ntmps11
      go_wp2
      go_region
      go_wp2
      go_ret
      exact ⟨by first | rfl | (simp; done) | (simp [*]; done), (Below.refl _ _).drew⟩
    · rw [if_neg c6] at H
      have c6b0 : (Op.bytesLess ((strOfNums l1).toList) ((strOfNums l0).toList)) = false := by simpa using c6
      clear c6
      obtain rfl := Option.some.inj H
      have hcv9 := Kd.C_string (P := Try.prog) (A := A0) (c := c0) Try.underlying23 Try.underlying5 Try.underlying9 (Kd.C_below HR0.out ((Below.refl _ _).drew))
      have hcv10 := Kd.C_string (P := Try.prog) (A := A1) (c := c1) Try.underlying23 Try.underlying5 Try.underlying9 (Kd.C_below HR1.out ((Below.refl _ _).drew))
      have e12 : ((strOfNums l0).toList == (strOfNums l1).toList) = true := less_eq_ c3b0 c6b0
      have e13 : (!(strOfNums l0).toList == (strOfNums l1).toList) = false := by rw [e12]; rfl
      go_enter Try.func11, Try.ntmps11
      go_wp2
      go_region
      go_wp2
      go_ret
      exact ⟨by first | rfl | (simp; done) | (simp [*]; done), (Below.refl _ _).drew⟩


end Go.Proofs.Ytldndnjajpjajaa.K
