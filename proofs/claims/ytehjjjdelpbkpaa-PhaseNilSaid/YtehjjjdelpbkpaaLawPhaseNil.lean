/-
  A meter that there isn't: the law's walk, and its row.
-/
import Derived.Test.YtehjjjdelpbkpaaRows
import Derived.Test.YtehjjjdelpbkpaaP7
import Derived.ProofKit
import Derived.OpenShut
import Derived.Below
namespace Go.Proofs.Ytehjjjdelpbkpaa
open Go.RowKit Go.Proofs.YtehjjjdelpbkpaaW.PrintWords
open F
theorem Sr_nil (k : Int) : Sr (fun _ => 0) (fun _ => 0) k 4 = 0 := by
  have := Sr_abs (fun _ => 0) (fun _ => 0) k 0 (fun _ _ => Nat.zero_le _) (fun _ _ => Nat.zero_le _) 4 (by omega)
  omega
theorem Si_nil (k : Int) : Si (fun _ => 0) (fun _ => 0) k 4 = 0 := by
  have := Si_abs (fun _ => 0) (fun _ => 0) k 0 (fun _ _ => Nat.zero_le _) (fun _ _ => Nat.zero_le _) 4 (by omega)
  omega
theorem Wave_nil (N : Int) (w : World) : Calls Try.prog 22 #[.pointer none, .int .i64 N] w fun e w' => ∃ re im, e = .returned (.complex .f64 re im) ∧ (FloatKind.f64.format.order re 0 == some .eq) = true ∧ (FloatKind.f64.format.order im 0 == some .eq) = true ∧ Below w.heap.size w w' :=
  (Wave_any (.pointer none) (fun _ => 0) N 0 (by omega) (fun _ _ => Nat.zero_le _) w (fun W _ => Counts_nil W)).mono fun e w' ⟨re, im, h1, h2, h3, h4⟩ => ⟨re, im, h1, by rw [fl_eq' h2 fl_zero, Sr_nil]; rfl, by rw [fl_eq' h3 fl_zero, Si_nil]; rfl, h4⟩
theorem Peak_nil (w : World) : Calls Try.prog 24 #[.pointer none] w fun e w' => e = .returned (.int .i64 0) ∧ Below w.heap.size w w' := Peak_any (.pointer none) (fun _ => 0) w (fun W _ => Counts_nil W)
set_option maxHeartbeats 1000000 in
theorem PhaseNil_any (t N : Int) (w : World) : Calls Try.prog 9 #[.int .i64 t, .int .i64 N] w fun e w' => e = .returned (.bool true) ∧ Below w.heap.size w w' := by
  have HCn : Hid (∀ w, Calls Try.prog 23 #[.pointer none] w fun e w' => e = .returned (.agg #[.int .i64 0, .int .i64 0, .int .i64 0, .int .i64 0]) ∧ Below w.heap.size w w') := Counts_nil
  have hEQ : ∀ W, (Op.equalIn 10000 49 (.agg #[.int .i64 0, .int .i64 0, .int .i64 0, .int .i64 0]) (.agg #[.int .i64 0, .int .i64 0, .int .i64 0, .int .i64 0])).run Try.prog W = .ok true W := fun W => eq49 (fun _ => 0) (fun _ => 0) W
  go_enter Try.func9, Try.ntmps9
  go_wp2_with (first | (go_at_call 21; (with_reducible refine (Add_nil _ _ _).mono ?_); rintro e w1 ⟨rfl, rfl⟩) | (go_at_call 23; (with_reducible refine (HCn.out _).mono ?_); rintro e w1 ⟨rfl, hb1⟩; have HB1 := Lib.hid hb1; clear hb1) | (go_at_call 22; (with_reducible refine (Wave_nil _ _).mono ?_); rintro e w2 ⟨re, im, rfl, e1, e2, hb2⟩; have HB2 := Lib.hid (below_two HB1.out hb2); clear hb2) | (go_at_call 24; (with_reducible refine (Peak_nil _).mono ?_); rintro e w3 ⟨rfl, hb3⟩; have HB3 := Lib.hid (below_two HB2.out hb3); clear hb3) | (go_at_call 15; (with_reducible refine (awake_any _).mono ?_); rintro e w4 ⟨rfl, rfl⟩))
  go_ret
  exact ⟨rfl, HB3.out⟩
end Go.Proofs.Ytehjjjdelpbkpaa
namespace Go.Proofs.Ytehjjjdelpbkpaa.phaseNil
open Go.ChangeShapes Go.WideShapes Go.ChangeAt Go.RowKit
theorem own : ownKnob Try.prog.godebug = none := by kernel_rfl
theorem laidOut : laidOutB Try.prog = true := by kernel_rfl
set_option maxRecDepth 100000 in
theorem lifted (os : Os) (started : os.Started) (H : Type) (enc : TypeId × Value → H) :
    ReturnsInHanded {} Try.checked os 9 .any (Rows.phaseNilSpec.pre6 enc Try.prog Try.f9 Rows.phaseNilRow.domain false) (Rows.phaseNilSpec.post enc Try.prog Try.f9 false true false false) := by
  refine returnsInHanded_of_change (C := Try.checked) own started (by kernel_rfl) Try.func9
    (ChangeSpec.witness6 (enc := enc) (C := Try.checked) false ⟨#[], #[.int .i64 0, .int .i64 0], []⟩ 8 (by kernel_rfl) (by kernel_rfl) (by kernel_rfl) (by kernel_rfl)) ?_
  intro W base args ds gs before hval0 hW hcnd _
  have hval : ∀ (j : Nat) t v, Try.f9.params[j]? = some t → args[j]? = some v → Value.okWide Try.prog W .any base t v := hval0
  have hW' := hW
  obtain ⟨p, q, hA0, hV, rfl, hfz, hnd⟩ := hW
  have hA : DataW.TrodAll enc Try.prog W 0 (fun _ => true) true Try.f9.params.toList args.toList ds p := hA0
  rw [Try.params9] at hA hval
  obtain ⟨v0, vs0, d0, ds0, p0, q0, hargs, rfl, rfl, h0, r0⟩ := trodAll_cons hA
  obtain ⟨v1, vs1, d1, ds1, p1, q1, rfl, rfl, rfl, h1, r1⟩ := trodAll_cons r0
  obtain ⟨rfl, rfl, rfl⟩ := trodAll_nil r1
  obtain rfl : args = #[v0, v1] := by cases args; simp_all
  obtain ⟨rfl, rfl⟩ := trodVars_none hV
  obtain ⟨a0, rfl, rfl, rfl, w0⟩ := open_int Try.underlying2 (hval 0 2 v0 rfl rfl) h0
  obtain ⟨a1, rfl, rfl, rfl, w1⟩ := open_int Try.underlying3 (hval 1 3 v1 rfl rfl) h1
  clear hA0 hval0
  refine (PhaseNil_any a0 a1 W).mono fun e W' ⟨he, bel⟩ => ?_
  subst he
  exact ⟨_, rfl, _, _, _, [], _, [], hW', trodAll_mk1 (shut_bool Try.underlying4 _), trodAll_mk2 (shut_int Try.underlying2 w0) (shut_int Try.underlying3 w1), rfl, bel.frame _, fun h => by cases h⟩
theorem over : Rows.phaseNilRow.holds Try.pinned (OpenSpec.ofChange Rows.phaseNilSpec) :=
  OpenClaim.holds_of_wide 9 Try.f9 rfl rfl rfl rfl rfl rfl rfl ⟨rfl, rfl, rfl, rfl, rfl⟩ rfl rfl rfl rfl rfl (by kernel_rfl) Try.func9 (by kernel_rfl)
    (of_decide_eq_true (by kernel_rfl)) (by unfold Func.isWrapper; first | (rw [if_pos (by decide +kernel)]; kernel_rfl) | (rw [if_neg (by decide +kernel)]; exact ⟨rfl, rfl⟩))
    (fun os started H enc _ => lifted os started H enc)
theorem proved : Rows.PhaseNilSaid := over
end Go.Proofs.Ytehjjjdelpbkpaa.phaseNil
namespace Go.Proofs.Ytehjjjdelpbkpaa
theorem phaseNil_holds : Rows.PhaseNilSaid := phaseNil.proved
end Go.Proofs.Ytehjjjdelpbkpaa
