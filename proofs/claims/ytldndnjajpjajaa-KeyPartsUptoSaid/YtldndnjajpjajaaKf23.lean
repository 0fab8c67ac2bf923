-- Printed by the prover's own turned printer (wip/printer in the prover's repo); Lean checks it.
import Derived.Test.YtldndnjajpjajaaK0
namespace Go.Proofs.Ytldndnjajpjajaa.K
open Go.RowKit Go.Proofs.YtldndnjajpjajaaW.PrintWords Go.Proofs.YtldndnjajpjajaaW.PrintLast Go.Proofs.YtldndnjajpjajaaW.PrintMore
attribute [local go_sem] max2_int min2_int max_two min_two max_three min_three max_four min_four   -- for this text's walks alone
set_option linter.unusedVariables false
set_option linter.unusedSimpArgs false

/-! ### bytes_Compare: function 23 -/
-- GIVEN making
/-- bytes.Compare, in the words of the strings' order. -/
def bytes_Compare.f (l0 : List Int) (l1 : List Int) : Option (Int) := if (Op.bytesLess ((strOfNums l0).toList) ((strOfNums l1).toList)) = true then (some (-1)) else (if (Op.bytesLess ((strOfNums l1).toList) ((strOfNums l0).toList)) = true then (some 1) else (some 0))
theorem compareBytes_less : ∀ a b : List UInt8, Lib.compareBytes a b = if Op.bytesLess a b = true then -1 else if Op.bytesLess b a = true then 1 else 0
  | [], [] => by simp [Lib.compareBytes, Op.bytesLess]
  | [], _ :: _ => by simp [Lib.compareBytes, Op.bytesLess]
  | _ :: _, [] => by simp [Lib.compareBytes, Op.bytesLess]
  | a :: x, b :: y => by
    have ih := compareBytes_less x y
    simp only [Lib.compareBytes, Op.bytesLess]
    by_cases h : a < b
    · simp [h]
    · by_cases h2 : b < a
      · have h3 : ¬ a = b := by rintro rfl; exact h h2
        simp [h, h2, h3]
      · have h3 : a = b := UInt8.le_antisymm (UInt8.not_lt.mp h2) (UInt8.not_lt.mp h)
        subst h3
        rw [ih]
        simp [h]
theorem slice_bytes {w : World} {A : Option Addr} {c : Nat} {l : List Int} (h : Kd.C (Kd.int .u8) w A l.length l) :
    (Extern.Bytes.bytesOf (.slice A l.length c)).run Try.prog w = .ok (strOfNums l) w := by
  have hr := Kd.reads_of_C (enc := Value.int .u8) (d := (0 : Int)) (h1 := fun _ => rfl) h
  rcases A with _ | ad
  · have h0 : l.length = 0 := by
      rcases Nat.eq_zero_or_pos l.length with h0 | h0
      · exact h0
      · obtain ⟨ad, h', _⟩ := hr.2.2 h0
        cases h'
    obtain rfl : l = [] := List.eq_nil_of_length_eq_zero h0
    rfl
  · have hl := Lib.run_loadBytesX (P := Try.prog) w l ad .empty (fun j x hj => by
      have hjl : j < l.length := (List.getElem?_eq_some_iff.1 hj).1
      obtain ⟨ad', he', hc⟩ := hr.2.2 (by omega)
      injection he' with he'
      subst he'
      rw [hc j hjl, List.getD_eq_getElem?_getD, hj]
      rfl)
    change Sem.run Try.prog (Extern.Bytes.loadBytes ad l.length .empty) w = _
    rw [hl]
    congr 1
    apply ByteArray.ext
    simp [strOfNums, Lib.bytesOf]
theorem run_compareSlices {w : World} {A0 A1 : Option Addr} {c0 c1 : Nat} {l0 l1 : List Int} (h0 : Kd.C (Kd.int .u8) w A0 l0.length l0) (h1 : Kd.C (Kd.int .u8) w A1 l1.length l1) :
    (Extern.BytealgCompare.compare #[.slice A0 l0.length c0, .slice A1 l1.length c1]).run Try.prog w = .ok (.int .i64 (Lib.compareBytes (strOfNums l0).data.toList (strOfNums l1).data.toList)) w := by
  change Sem.run Try.prog (do pure (goInt (Extern.BytealgCompare.cmp (← Extern.Bytes.bytesOf (.slice A0 l0.length c0)) (← Extern.Bytes.bytesOf (.slice A1 l1.length c1))))) w = _
  simp only [Sem.run_bind, slice_bytes h0, slice_bytes h1, Sem.run_pure, Result.andThen]
  rw [Lib.cmp_eq]
  rfl
theorem bytes_Compare.val {l0 l1 : List Int} {r : Int} (h : bytes_Compare.f l0 l1 = some r) : Lib.compareBytes (strOfNums l0).data.toList (strOfNums l1).data.toList = r := by
  rw [compareBytes_less]
  simp only [bytes_Compare.f, ByteArray.toList_eq] at h
  split at h
  · rename_i h1; rw [if_pos h1]; exact Option.some.inj h
  · rename_i h1
    rw [if_neg h1]
    split at h
    · rename_i h2; rw [if_pos h2]; exact Option.some.inj h
    · rename_i h2; rw [if_neg h2]; exact Option.some.inj h
set_option maxHeartbeats 1000000 in
theorem bytes_Compare.calls (A0 : Option Addr) (c0 : Nat) (l0 : List Int) (A1 : Option Addr) (c1 : Nat) (l1 : List Int) (r : Int) (w : World) (hr0 : Kd.C (Kd.int .u8) w A0 l0.length l0) (hc0 : l0.length ≤ c0) (hr1 : Kd.C (Kd.int .u8) w A1 l1.length l1) (hc1 : l1.length ≤ c1) (h : bytes_Compare.f l0 l1 = some r) :
    Calls Try.prog 23 #[.slice A0 l0.length c0, .slice A1 l1.length c1] w fun e w' => e = .returned (.int .i64 r) ∧ Below w.heap.size w w' := by
  have hv := Aside0.mk (bytes_Compare.val h)
  have HR0 := Aside0.mk hr0
  have HR1 := Aside0.mk hr1
  clear hr0 hr1 h hc0 hc1
  go_enter Try.func23, Try.ntmps23
  go_wp2
  rw [run_callFunc_extern Try.func26 (by kernel_rfl) (by kernel_rfl) (by kernel_rfl) (e := Extern.BytealgCompare.compare) (by kernel_rfl), run_compareSlices HR0.out HR1.out]
  simp only [Result.andThen]
  rw [Oper.upon_value]
  go_wp2
  go_ret
  exact ⟨by rw [hv.out]; rfl, Below.refl _ _⟩

end Go.Proofs.Ytldndnjajpjajaa.K
