/-
  Any power of i: package phase's Turn is the document's, for every number.
-/
import Derived.Test.YtehjjjdelpbkpaaRows
import Derived.Test.YtehjjjdelpbkpaaP1
import Derived.ProofKit
import Derived.OpenShut
import Derived.Below
namespace Go.Proofs.Ytehjjjdelpbkpaa
open Go.RowKit
theorem ire_abs (m : Nat) : (ire m).natAbs < 9007199254740992 := by
  match m with
  | 0 => decide
  | 1 => decide
  | 2 => decide
  | _ + 3 => exact show (0 : Int).natAbs < 9007199254740992 by decide
theorem iim_abs (m : Nat) : (iim m).natAbs < 9007199254740992 := by
  match m with
  | 0 => decide
  | 1 => decide
  | 2 => decide
  | _ + 3 => exact show (-1 : Int).natAbs < 9007199254740992 by decide
theorem below_then' {w w1 w2 : World} (h : Below w.heap.size w w1) (k : Below w1.heap.size w1 w2) : Below w.heap.size w w2 :=
  h.trans ⟨k.os, k.tape, k.output, k.size, fun i hi => k.block i (Nat.lt_of_lt_of_le hi h.size)⟩
set_option maxHeartbeats 1000000 in
theorem PhaseTurns_any (k : Int) (w : World) : Calls Try.prog 3 #[.int .i64 k] w fun e w' => e = .returned (.bool true) ∧ Below w.heap.size w w' := by
  generalize hm : (k % 4).toNat = m
  have HM := Lib.hid hm
  have HT : Hid (∀ w, Calls Try.prog 13 #[.int .i64 k] w fun e w' => e = .returned (.complex .f64 (tre m) (tim m)) ∧ w = w') := fun w => by rw [← hm]; exact Turn_any k w
  have HR : Hid (∀ w, Calls Try.prog 14 #[.int .i64 k] w fun e w' => e = .returned (.agg #[.int .i64 (ire m), .int .i64 (iim m)]) ∧ Below w.heap.size w w') := fun w => by rw [← hm]; exact rTurn_any k w
  have HI : Hid (∀ w, Calls Try.prog 12 #[.complex .f64 (tre m) (tim m), .agg #[.int .i64 (ire m), .int .i64 (iim m)]] w fun e w' => e = .returned (.bool true) ∧ Below w.heap.size w w') := fun w => (Is_any _ _ _ _ _ _ w (fl_tre m) (fl_tim m) (ire_abs m) (iim_abs m)).mono fun e w' ⟨h1, h2⟩ => ⟨by rw [h1]; simp, h2⟩
  clear hm
  generalize tre m = A at HT HI
  generalize tim m = B at HT HI
  generalize ire m = C at HR HI
  generalize iim m = D at HR HI
  go_enter Try.func3, Try.ntmps3
  go_wp2_with (first | (go_at_call 13; (with_reducible refine (HT.out _).mono ?_); rintro e w' ⟨rfl, rfl⟩) | (go_at_call 14; (with_reducible refine (HR.out _).mono ?_); rintro e w1 ⟨rfl, hb1⟩; have HB1 := Lib.hid hb1; clear hb1) | (go_at_call 12; (with_reducible refine (HI.out _).mono ?_); rintro e w2 ⟨rfl, hb2⟩; have HB2 := Lib.hid (below_then' HB1.out hb2); clear hb2) | (go_at_call 15; (with_reducible refine (awake_any _).mono ?_); rintro e w3 ⟨rfl, rfl⟩))
  go_ret
  exact ⟨rfl, HB2.out⟩
end Go.Proofs.Ytehjjjdelpbkpaa
namespace Go.Proofs.Ytehjjjdelpbkpaa.phaseTurns
open Go.ChangeShapes Go.WideShapes Go.ChangeAt Go.RowKit
theorem own : ownKnob Try.prog.godebug = none := by kernel_rfl
theorem laidOut : laidOutB Try.prog = true := by kernel_rfl
set_option maxRecDepth 100000 in
theorem lifted (os : Os) (started : os.Started) (H : Type) (enc : TypeId × Value → H) :
    ReturnsInHanded {} Try.checked os 3 .any (Rows.phaseTurnsSpec.pre6 enc Try.prog Try.f3 Rows.phaseTurnsRow.domain false) (Rows.phaseTurnsSpec.post enc Try.prog Try.f3 false true false false) := by
  refine returnsInHanded_of_change (C := Try.checked) own started (by kernel_rfl) Try.func3
    (ChangeSpec.witness6 (enc := enc) (C := Try.checked) false ⟨#[], #[.int .i64 0], []⟩ 8 (by kernel_rfl) (by kernel_rfl) (by kernel_rfl) (by kernel_rfl)) ?_
  intro W base args ds gs before hval0 hW hcnd _
  have hval : ∀ (j : Nat) t v, Try.f3.params[j]? = some t → args[j]? = some v → Value.okWide Try.prog W .any base t v := hval0
  have hW' := hW
  obtain ⟨p, q, hA0, hV, rfl, hfz, hnd⟩ := hW
  have hA : DataW.TrodAll enc Try.prog W 0 (fun _ => true) true Try.f3.params.toList args.toList ds p := hA0
  rw [Try.params3] at hA hval
  obtain ⟨v0, vs0, d0, ds0, p0, q0, hargs, rfl, rfl, h0, r0⟩ := trodAll_cons hA
  obtain ⟨rfl, rfl, rfl⟩ := trodAll_nil r0
  obtain rfl : args = #[v0] := by cases args; simp_all
  obtain ⟨rfl, rfl⟩ := trodVars_none hV
  obtain ⟨a0, rfl, rfl, rfl, w0⟩ := open_int Try.underlying2 (hval 0 2 v0 rfl rfl) h0
  clear hA0 hval0
  refine (PhaseTurns_any a0 W).mono fun e W' ⟨he, bel⟩ => ?_
  subst he
  exact ⟨_, rfl, _, _, _, [], _, [], hW', trodAll_mk1 (shut_bool Try.underlying4 _), trodAll_mk1 (shut_int Try.underlying2 w0), rfl, bel.frame _, fun h => by cases h⟩
theorem over : Rows.phaseTurnsRow.holds Try.pinned (OpenSpec.ofChange Rows.phaseTurnsSpec) :=
  OpenClaim.holds_of_wide 3 Try.f3 rfl rfl rfl rfl rfl rfl rfl ⟨rfl, rfl, rfl, rfl, rfl⟩ rfl rfl rfl rfl rfl (by kernel_rfl) Try.func3 (by kernel_rfl)
    (of_decide_eq_true (by kernel_rfl)) (by unfold Func.isWrapper; first | (rw [if_pos (by decide +kernel)]; kernel_rfl) | (rw [if_neg (by decide +kernel)]; exact ⟨rfl, rfl⟩))
    (fun os started H enc _ => lifted os started H enc)
theorem proved : Rows.PhaseTurnsSaid := over
end Go.Proofs.Ytehjjjdelpbkpaa.phaseTurns
namespace Go.Proofs.Ytehjjjdelpbkpaa
theorem phaseTurns_holds : Rows.PhaseTurnsSaid := phaseTurns.proved
end Go.Proofs.Ytehjjjdelpbkpaa
