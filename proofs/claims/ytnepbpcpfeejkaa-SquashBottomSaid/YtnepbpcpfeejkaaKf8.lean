-- Printed by the prover's own turned printer (wip/printer in the prover's repo); Lean checks it.
import Derived.Test.YtnepbpcpfeejkaaK0
import Derived.Test.YtnepbpcpfeejkaaKf9
import Derived.Test.YtnepbpcpfeejkaaKf11
import Derived.Test.YtnepbpcpfeejkaaKf10
import Derived.Test.YtnepbpcpfeejkaaKf13
import Derived.Test.YtnepbpcpfeejkaaKf15
import Derived.Test.YtnepbpcpfeejkaaKf18
namespace Go.Proofs.Ytnepbpcpfeejkaa.K
open Go.RowKit Go.Proofs.YtnepbpcpfeejkaaW.PrintWords Go.Proofs.YtnepbpcpfeejkaaW.PrintLast Go.Proofs.YtnepbpcpfeejkaaW.PrintMore
attribute [local go_sem] max2_int min2_int max_two min_two max_three min_three max_four min_four   -- for this text's walks alone
set_option linter.unusedVariables false
set_option linter.unusedSimpArgs false

/-! ### halyardlaw18_SquashBottom: function 8 -/
def halyardlaw18_SquashBottom.l0 : Nat → List (S35) → List (S35) → Int → List (S35) → Int → List (S35) → Int → Int → Int → Int → Option (Bool)
  | 0, _, _, _, _, _, _, _, _, _, _ => none
  | k + 1, x5, x6, x7, x8, x9, x10, x11, x12, x39, x40 => if x40 < x39 then (if x40 = 0 then (halyardlaw18_SquashBottom.l0 k x5 x6 x7 x8 x9 x10 x11 (wrap64 (x12 + 1)) x39 (wrap64 (x40 + 1))) else (if 0 ≤ (wrap64 (x40 - 1)) then (if (wrap64 (x40 - 1)) < (x5.length : Int) then (if 0 ≤ x40 then (if x40 < (x5.length : Int) then (if (strOfNums ((rd_T35 x5 (wrap64 (x40 - 1))).f0)).toList = (strOfNums ((rd_T35 x5 x40).f0)).toList then (halyardlaw18_SquashBottom.l0 k x5 x6 x7 x8 x9 x10 x11 x12 x39 (wrap64 (x40 + 1))) else (halyardlaw18_SquashBottom.l0 k x5 x6 x7 x8 x9 x10 x11 (wrap64 (x12 + 1)) x39 (wrap64 (x40 + 1)))) else (none)) else (none)) else (none)) else (none))) else (if x7 = 0 then (if x9 = 0 then (if x11 = 0 then ((halyardref2_SameEntries.f k x6 x10).bind fun t454 => (if t454 = true then (if (x8.length : Int) = x12 then ((halyardlaw18_awake.f k).bind fun t455 => (some t455)) else (some false)) else (some false))) else (some false)) else (some false)) else (some false))
def halyardlaw18_SquashBottom.f (k : Nat) (l0 : List (S35)) (a1 : Int) : Option (Bool) := (halyardlaw18_light.f k l0).bind fun t435 => (if t435 = true then ((halyardlaw18_sorted.f k l0).bind fun t437 => ((squash_Keep.f k t437 ([] : List Int) a1 true).bind fun bt440 => ((squash_Keep.f k t437 ([] : List Int) a1 false).bind fun bt444 => ((squash_Live.f k t437 4611686018427387904 a1).bind fun bt448 => (halyardlaw18_SquashBottom.l0 k t437 bt440.1 bt440.2 bt444.1 bt444.2 bt448.1 bt448.2 0 (t437.length : Int) 0))))) else ((halyardlaw18_awake.f k).bind fun t436 => (some t436)))
theorem halyardlaw18_SquashBottom.mono_l : ∀ k, (∀ y0 y1 y2 y3 y4 y5 y6 y7 y8 y9, LeO (halyardlaw18_SquashBottom.l0 k y0 y1 y2 y3 y4 y5 y6 y7 y8 y9) (halyardlaw18_SquashBottom.l0 (k + 1) y0 y1 y2 y3 y4 y5 y6 y7 y8 y9))
  | 0 => fun _ _ _ _ _ _ _ _ _ _ r h => by simp [halyardlaw18_SquashBottom.l0] at h
  | k + 1 => by
    have ih0 := halyardlaw18_SquashBottom.mono_l k
    · intro y0 y1 y2 y3 y4 y5 y6 y7 y8 y9
      unfold halyardlaw18_SquashBottom.l0
      repeat' first
      | (with_reducible exact ih0 _ _ _ _ _ _ _ _ _ _)
      | (with_reducible exact halyardlaw18_awake.mono _)
      | (with_reducible exact halyardlaw18_light.mono _ _)
      | (with_reducible exact halyardlaw18_sorted.mono _ _)
      | (with_reducible exact halyardref2_SameEntries.mono _ _ _)
      | (with_reducible exact squash_Keep.mono _ _ _ _ _)
      | (with_reducible exact squash_Live.mono _ _ _ _)
      | (with_reducible exact LeO.refl _)
      | (with_reducible exact LeO.none _)
      | (with_reducible refine LeO.ite ?_ ?_)
      | (with_reducible refine LeO.bind ?_ (fun _ => ?_))
      | exact ih0 _ _ _ _ _ _ _ _ _ _
      | exact halyardlaw18_awake.mono _
      | exact halyardlaw18_light.mono _ _
      | exact halyardlaw18_sorted.mono _ _
      | exact halyardref2_SameEntries.mono _ _ _
      | exact squash_Keep.mono _ _ _ _ _
      | exact squash_Live.mono _ _ _ _
      | exact LeO.none _
      | refine LeO.ite ?_ ?_
      | refine LeO.bind ?_ (fun _ => ?_)
theorem halyardlaw18_SquashBottom.mono : ∀ a0 a1 k, LeO (halyardlaw18_SquashBottom.f k a0 a1) (halyardlaw18_SquashBottom.f (k + 1) a0 a1) := by
  intro a0 a1 k
  have ih0 := halyardlaw18_SquashBottom.mono_l k
  unfold halyardlaw18_SquashBottom.f
  repeat' first
      | (with_reducible exact ih0 _ _ _ _ _ _ _ _ _ _)
      | (with_reducible exact halyardlaw18_awake.mono _)
      | (with_reducible exact halyardlaw18_light.mono _ _)
      | (with_reducible exact halyardlaw18_sorted.mono _ _)
      | (with_reducible exact halyardref2_SameEntries.mono _ _ _)
      | (with_reducible exact squash_Keep.mono _ _ _ _ _)
      | (with_reducible exact squash_Live.mono _ _ _ _)
      | (with_reducible exact LeO.refl _)
      | (with_reducible exact LeO.none _)
      | (with_reducible refine LeO.ite ?_ ?_)
      | (with_reducible refine LeO.bind ?_ (fun _ => ?_))
      | exact ih0 _ _ _ _ _ _ _ _ _ _
      | exact halyardlaw18_awake.mono _
      | exact halyardlaw18_light.mono _ _
      | exact halyardlaw18_sorted.mono _ _
      | exact halyardref2_SameEntries.mono _ _ _
      | exact squash_Keep.mono _ _ _ _ _
      | exact squash_Live.mono _ _ _ _
      | exact LeO.none _
      | refine LeO.ite ?_ ?_
      | refine LeO.bind ?_ (fun _ => ?_)
set_option maxHeartbeats 8000000 in
set_option maxRecDepth 100000 in
theorem halyardlaw18_SquashBottom.calls (k : Nat) (A0 : Option Addr) (c0 : Nat) (l0 : List (S35)) (a1 : Int) (r : Bool) (w : World) (hr0 : Kd.C k35 w A0 l0.length l0) (hc0 : l0.length ≤ c0) (h : halyardlaw18_SquashBottom.f k l0 a1 = some r) :
    Calls Try.prog 8 #[.slice A0 l0.length c0, .int .i64 a1] w fun e w' => e = .returned (.bool r) ∧ Below w.heap.size w w' := by
  have tokA : True := trivial
  have HR0 := Aside0.mk hr0
  have HC0 := Aside0.mk hc0
  clear hr0 hc0
  have HB := Aside0.mk (Below.refl w.heap.size w)
  have H : ((halyardlaw18_light.f k l0).bind fun t435 => (if t435 = true then ((halyardlaw18_sorted.f k l0).bind fun t437 => ((squash_Keep.f k t437 ([] : List Int) a1 true).bind fun bt440 => ((squash_Keep.f k t437 ([] : List Int) a1 false).bind fun bt444 => ((squash_Live.f k t437 4611686018427387904 a1).bind fun bt448 => (halyardlaw18_SquashBottom.l0 k t437 bt440.1 bt440.2 bt444.1 bt444.2 bt448.1 bt448.2 0 (t437.length : Int) 0))))) else ((halyardlaw18_awake.f k).bind fun t436 => (some t436)))) = some r := h
  clear h
  replace H := Option.bind_eq_some_iff.mp H
  obtain ⟨t435, A30, H⟩ := H
  replace H : (if t435 = true then ((halyardlaw18_sorted.f k l0).bind fun t437 => ((squash_Keep.f k t437 ([] : List Int) a1 true).bind fun bt440 => ((squash_Keep.f k t437 ([] : List Int) a1 false).bind fun bt444 => ((squash_Live.f k t437 4611686018427387904 a1).bind fun bt448 => (halyardlaw18_SquashBottom.l0 k t437 bt440.1 bt440.2 bt444.1 bt444.2 bt448.1 bt448.2 0 (t437.length : Int) 0))))) else ((halyardlaw18_awake.f k).bind fun t436 => (some t436))) = some r := H
  have A3 := Aside0.mk A30
  clear A30
  by_cases c4 : t435 = true
  · subst c4
    have H1 : ((halyardlaw18_sorted.f k l0).bind fun t437 => ((squash_Keep.f k t437 ([] : List Int) a1 true).bind fun bt440 => ((squash_Keep.f k t437 ([] : List Int) a1 false).bind fun bt444 => ((squash_Live.f k t437 4611686018427387904 a1).bind fun bt448 => (halyardlaw18_SquashBottom.l0 k t437 bt440.1 bt440.2 bt444.1 bt444.2 bt448.1 bt448.2 0 (t437.length : Int) 0))))) = some r := by rw [if_pos rfl] at H; exact H
    clear H
    have H := H1
    clear H1
    replace H := Option.bind_eq_some_iff.mp H
    obtain ⟨t437, A50, H⟩ := H
    replace H : ((squash_Keep.f k t437 ([] : List Int) a1 true).bind fun bt440 => ((squash_Keep.f k t437 ([] : List Int) a1 false).bind fun bt444 => ((squash_Live.f k t437 4611686018427387904 a1).bind fun bt448 => (halyardlaw18_SquashBottom.l0 k t437 bt440.1 bt440.2 bt444.1 bt444.2 bt448.1 bt448.2 0 (t437.length : Int) 0)))) = some r := H
    have A5 := Aside0.mk A50
    clear A50
    replace H := Option.bind_eq_some_iff.mp H
    obtain ⟨⟨t440, t443⟩, A60, H⟩ := H
    replace H : ((squash_Keep.f k t437 ([] : List Int) a1 false).bind fun bt444 => ((squash_Live.f k t437 4611686018427387904 a1).bind fun bt448 => (halyardlaw18_SquashBottom.l0 k t437 t440 t443 bt444.1 bt444.2 bt448.1 bt448.2 0 (t437.length : Int) 0))) = some r := H
    have A6 := Aside0.mk A60
    clear A60
    replace H := Option.bind_eq_some_iff.mp H
    obtain ⟨⟨t444, t447⟩, A70, H⟩ := H
    replace H : ((squash_Live.f k t437 4611686018427387904 a1).bind fun bt448 => (halyardlaw18_SquashBottom.l0 k t437 t440 t443 t444 t447 bt448.1 bt448.2 0 (t437.length : Int) 0)) = some r := H
    have A7 := Aside0.mk A70
    clear A70
    replace H := Option.bind_eq_some_iff.mp H
    obtain ⟨⟨t448, t451⟩, A80, H⟩ := H
    replace H : (halyardlaw18_SquashBottom.l0 k t437 t440 t443 t444 t447 t448 t451 0 (t437.length : Int) 0) = some r := H
    have A8 := Aside0.mk A80
    clear A80
    have H' := Aside0.mk H
    clear H
    go_enter Try.func8, Try.ntmps8
    go_wp2_with (first | (go_at_call 9; (with_reducible refine (halyardlaw18_light.calls k _ _ l0 true _ ?side1 ?side2 A3.out).mono ?_); (case side1 => repeat (first | exact HR0.out | (with_reducible refine Kd.C_alloc ?_ _) | (with_reducible refine Kd.C_drewN ?_ _) | (with_reducible refine Kd.C_drew ?_))); (case side2 => exact HC0.out); rintro e w9 ⟨rfl, hb⟩; have n0_ := Aside0.mk (below_step pb hb); clear HB; have HB := n0_; clear n0_; (try clear hb); (try clear hb2); (try clear hk); (try clear hi)) | (go_at_call 15; (with_reducible refine (halyardlaw18_sorted.calls k (fun k_ => k_ < w.heap.size) _ _ l0 t437 _ ?side1 A5.out).mono ?_); (case side1 => exact Kd.V_mk HC0.out (Kd.F_below (Kd.C_F k35_heap HR0.out) pb)); rintro e w10 ⟨v438, rfl, ho0, hb⟩; have n0_ := Aside0.mk (Kd.V_lower (Kd.V_mono (ok' := fun k_ => True) ho0 (fun k_ hk_ => trivial)) (below_size pb)); have n1_ := Aside0.mk (below_step pb hb); clear HB; have HO439 := n0_; have HB := n1_; clear n0_ n1_; (try clear hb); (try clear hb2); (try clear hk); (try clear hi); (try clear ho0); obtain ⟨Ao11, co11, eo11⟩ := Kd.V_slice HO439.out; subst eo11) | (have _t := tokA; clear _t tokA; go_at_call 11; (refine (squash_Keep.calls k (fun k_ => True) _ _ t437 _ _ ([] : List Int) a1 true t440 t443 _ ?side1 ?side2 ?side3 A6.out).mono ?_); (case side1 => exact HO439.out); (case side2 => exact Kd.C_nil _ _); (case side3 => exact Nat.le_refl _); rintro e w12 ⟨v441, rfl, ho0, hb⟩; have n0_ := Aside0.mk (Kd.V_elder' (by (with_reducible repeat (first | apply Kd.V_alloc | apply Kd.V_drewN | apply Kd.V_drew)); exact HO439.out) (by first | exact Kd.N_base ho0 | exact Kd.S_base ho0) hb); have n1_ := Aside0.mk (Kd.N_lower (Kd.N_mono (ok' := fun k_ => True) ho0 (fun k_ hk_ => trivial)) (below_size pb)); have n2_ := Aside0.mk (below_step pb hb); clear HO439; clear HB; have HO439 := n0_; have HO442 := n1_; have HB := n2_; clear n0_ n1_ n2_; (try clear hb); (try clear hb2); (try clear hk); (try clear hi); (try clear ho0)) | (go_at_call 11; (refine (squash_Keep.calls k (fun k_ => (True ∧ some k_ ≠ (v441 : Value).ownBlock)) _ _ t437 _ _ ([] : List Int) a1 false t444 t447 _ ?side1 ?side2 ?side3 A7.out).mono ?_); (case side1 => exact HO439.out); (case side2 => exact Kd.C_nil _ _); (case side3 => exact Nat.le_refl _); rintro e w13 ⟨v445, rfl, ho0, hb⟩; have n0_ := Aside0.mk (Kd.V_elder' (by (with_reducible repeat (first | apply Kd.V_alloc | apply Kd.V_drewN | apply Kd.V_drew)); exact HO439.out) (by first | exact Kd.N_base ho0 | exact Kd.S_base ho0) hb); have n1_ := Aside0.mk (Kd.N_elder' (by (with_reducible repeat (first | apply Kd.N_alloc | apply Kd.N_drewN | apply Kd.N_drew)); exact HO442.out) (by first | exact Kd.N_base ho0 | exact Kd.S_base ho0) hb); have n2_ := Aside0.mk (Kd.N_lower (Kd.N_mono (ok' := fun k_ => some k_ ≠ (v441 : Value).ownBlock) ho0 (fun k_ hk_ => Or.elim hk_ (fun hs_ => hs_.2) (fun hn_ => (Kd.fresh' (Kd.N_lt (by (with_reducible repeat (first | apply Kd.N_alloc | apply Kd.N_drewN | apply Kd.N_drew)); exact HO442.out)) k_ hn_)))) (below_size pb)); have n3_ := Aside0.mk (below_step pb hb); clear HO439; clear HO442; clear HB; have HO439 := n0_; have HO442 := n1_; have HO446 := n2_; have HB := n3_; clear n0_ n1_ n2_ n3_; (try clear hb); (try clear hb2); (try clear hk); (try clear hi); (try clear ho0)) | (go_at_call 18; (with_reducible refine (squash_Live.calls k (fun k_ => ((True ∧ some k_ ≠ (v441 : Value).ownBlock) ∧ some k_ ≠ (v445 : Value).ownBlock)) _ _ t437 4611686018427387904 a1 t448 t451 _ ?side1 A8.out).mono ?_); (case side1 => exact HO439.out); rintro e w14 ⟨v449, rfl, ho0, hb⟩; replace ho0 := Kd.N_mono (ok' := fun k_ => ((True ∧ some k_ ≠ (v441 : Value).ownBlock) ∧ some k_ ≠ (v445 : Value).ownBlock) ∨ _ ≤ k_) (Kd.S_N ho0) (fun k_ hk_ => .inr hk_); have n0_ := Aside0.mk (Kd.V_elder' (by (with_reducible repeat (first | apply Kd.V_alloc | apply Kd.V_drewN | apply Kd.V_drew)); exact HO439.out) (by first | exact Kd.N_base ho0 | exact Kd.S_base ho0) hb); have n1_ := Aside0.mk (Kd.N_elder' (by (with_reducible repeat (first | apply Kd.N_alloc | apply Kd.N_drewN | apply Kd.N_drew)); exact HO442.out) (by first | exact Kd.N_base ho0 | exact Kd.S_base ho0) hb); have n2_ := Aside0.mk (Kd.N_elder' (by (with_reducible repeat (first | apply Kd.N_alloc | apply Kd.N_drewN | apply Kd.N_drew)); exact HO446.out) (by first | exact Kd.N_base ho0 | exact Kd.S_base ho0) hb); have n3_ := Aside0.mk (Kd.N_lower (Kd.N_mono (ok' := fun k_ => some k_ ≠ (v441 : Value).ownBlock ∧ some k_ ≠ (v445 : Value).ownBlock) ho0 (fun k_ hk_ => ⟨Or.elim hk_ (fun hs_ => hs_.1.2) (fun hn_ => (Kd.fresh' (Kd.N_lt (by (with_reducible repeat (first | apply Kd.N_alloc | apply Kd.N_drewN | apply Kd.N_drew)); exact HO442.out)) k_ hn_)), Or.elim hk_ (fun hs_ => hs_.2) (fun hn_ => (Kd.fresh' (Kd.N_lt (by (with_reducible repeat (first | apply Kd.N_alloc | apply Kd.N_drewN | apply Kd.N_drew)); exact HO446.out)) k_ hn_))⟩)) (below_size pb)); have n4_ := Aside0.mk (below_step pb hb); clear HO439; clear HO442; clear HO446; clear HB; have HO439 := n0_; have HO442 := n1_; have HO446 := n2_; have HO450 := n3_; have HB := n4_; clear n0_ n1_ n2_ n3_ n4_; (try clear hb); (try clear hb2); (try clear hk); (try clear hi); (try clear ho0)))
    repeat (go_quiet (first | (go_at_call 9; (with_reducible refine (halyardlaw18_light.calls k _ _ l0 true _ ?side1 ?side2 A3.out).mono ?_); (case side1 => repeat (first | exact HR0.out | (with_reducible refine Kd.C_alloc ?_ _) | (with_reducible refine Kd.C_drewN ?_ _) | (with_reducible refine Kd.C_drew ?_))); (case side2 => exact HC0.out); rintro e w9 ⟨rfl, hb⟩; have n0_ := Aside0.mk (below_step pb hb); clear HB; have HB := n0_; clear n0_; (try clear hb); (try clear hb2); (try clear hk); (try clear hi)) | (go_at_call 15; (with_reducible refine (halyardlaw18_sorted.calls k (fun k_ => k_ < w.heap.size) _ _ l0 t437 _ ?side1 A5.out).mono ?_); (case side1 => exact Kd.V_mk HC0.out (Kd.F_below (Kd.C_F k35_heap HR0.out) pb)); rintro e w10 ⟨v438, rfl, ho0, hb⟩; have n0_ := Aside0.mk (Kd.V_lower (Kd.V_mono (ok' := fun k_ => True) ho0 (fun k_ hk_ => trivial)) (below_size pb)); have n1_ := Aside0.mk (below_step pb hb); clear HB; have HO439 := n0_; have HB := n1_; clear n0_ n1_; (try clear hb); (try clear hb2); (try clear hk); (try clear hi); (try clear ho0); obtain ⟨Ao11, co11, eo11⟩ := Kd.V_slice HO439.out; subst eo11) | (have _t := tokA; clear _t tokA; go_at_call 11; (refine (squash_Keep.calls k (fun k_ => True) _ _ t437 _ _ ([] : List Int) a1 true t440 t443 _ ?side1 ?side2 ?side3 A6.out).mono ?_); (case side1 => exact HO439.out); (case side2 => exact Kd.C_nil _ _); (case side3 => exact Nat.le_refl _); rintro e w12 ⟨v441, rfl, ho0, hb⟩; have n0_ := Aside0.mk (Kd.V_elder' (by (with_reducible repeat (first | apply Kd.V_alloc | apply Kd.V_drewN | apply Kd.V_drew)); exact HO439.out) (by first | exact Kd.N_base ho0 | exact Kd.S_base ho0) hb); have n1_ := Aside0.mk (Kd.N_lower (Kd.N_mono (ok' := fun k_ => True) ho0 (fun k_ hk_ => trivial)) (below_size pb)); have n2_ := Aside0.mk (below_step pb hb); clear HO439; clear HB; have HO439 := n0_; have HO442 := n1_; have HB := n2_; clear n0_ n1_ n2_; (try clear hb); (try clear hb2); (try clear hk); (try clear hi); (try clear ho0)) | (go_at_call 11; (refine (squash_Keep.calls k (fun k_ => (True ∧ some k_ ≠ (v441 : Value).ownBlock)) _ _ t437 _ _ ([] : List Int) a1 false t444 t447 _ ?side1 ?side2 ?side3 A7.out).mono ?_); (case side1 => exact HO439.out); (case side2 => exact Kd.C_nil _ _); (case side3 => exact Nat.le_refl _); rintro e w13 ⟨v445, rfl, ho0, hb⟩; have n0_ := Aside0.mk (Kd.V_elder' (by (with_reducible repeat (first | apply Kd.V_alloc | apply Kd.V_drewN | apply Kd.V_drew)); exact HO439.out) (by first | exact Kd.N_base ho0 | exact Kd.S_base ho0) hb); have n1_ := Aside0.mk (Kd.N_elder' (by (with_reducible repeat (first | apply Kd.N_alloc | apply Kd.N_drewN | apply Kd.N_drew)); exact HO442.out) (by first | exact Kd.N_base ho0 | exact Kd.S_base ho0) hb); have n2_ := Aside0.mk (Kd.N_lower (Kd.N_mono (ok' := fun k_ => some k_ ≠ (v441 : Value).ownBlock) ho0 (fun k_ hk_ => Or.elim hk_ (fun hs_ => hs_.2) (fun hn_ => (Kd.fresh' (Kd.N_lt (by (with_reducible repeat (first | apply Kd.N_alloc | apply Kd.N_drewN | apply Kd.N_drew)); exact HO442.out)) k_ hn_)))) (below_size pb)); have n3_ := Aside0.mk (below_step pb hb); clear HO439; clear HO442; clear HB; have HO439 := n0_; have HO442 := n1_; have HO446 := n2_; have HB := n3_; clear n0_ n1_ n2_ n3_; (try clear hb); (try clear hb2); (try clear hk); (try clear hi); (try clear ho0)) | (go_at_call 18; (with_reducible refine (squash_Live.calls k (fun k_ => ((True ∧ some k_ ≠ (v441 : Value).ownBlock) ∧ some k_ ≠ (v445 : Value).ownBlock)) _ _ t437 4611686018427387904 a1 t448 t451 _ ?side1 A8.out).mono ?_); (case side1 => exact HO439.out); rintro e w14 ⟨v449, rfl, ho0, hb⟩; replace ho0 := Kd.N_mono (ok' := fun k_ => ((True ∧ some k_ ≠ (v441 : Value).ownBlock) ∧ some k_ ≠ (v445 : Value).ownBlock) ∨ _ ≤ k_) (Kd.S_N ho0) (fun k_ hk_ => .inr hk_); have n0_ := Aside0.mk (Kd.V_elder' (by (with_reducible repeat (first | apply Kd.V_alloc | apply Kd.V_drewN | apply Kd.V_drew)); exact HO439.out) (by first | exact Kd.N_base ho0 | exact Kd.S_base ho0) hb); have n1_ := Aside0.mk (Kd.N_elder' (by (with_reducible repeat (first | apply Kd.N_alloc | apply Kd.N_drewN | apply Kd.N_drew)); exact HO442.out) (by first | exact Kd.N_base ho0 | exact Kd.S_base ho0) hb); have n2_ := Aside0.mk (Kd.N_elder' (by (with_reducible repeat (first | apply Kd.N_alloc | apply Kd.N_drewN | apply Kd.N_drew)); exact HO446.out) (by first | exact Kd.N_base ho0 | exact Kd.S_base ho0) hb); have n3_ := Aside0.mk (Kd.N_lower (Kd.N_mono (ok' := fun k_ => some k_ ≠ (v441 : Value).ownBlock ∧ some k_ ≠ (v445 : Value).ownBlock) ho0 (fun k_ hk_ => ⟨Or.elim hk_ (fun hs_ => hs_.1.2) (fun hn_ => (Kd.fresh' (Kd.N_lt (by (with_reducible repeat (first | apply Kd.N_alloc | apply Kd.N_drewN | apply Kd.N_drew)); exact HO442.out)) k_ hn_)), Or.elim hk_ (fun hs_ => hs_.2) (fun hn_ => (Kd.fresh' (Kd.N_lt (by (with_reducible repeat (first | apply Kd.N_alloc | apply Kd.N_drewN | apply Kd.N_drew)); exact HO446.out)) k_ hn_))⟩)) (below_size pb)); have n4_ := Aside0.mk (below_step pb hb); clear HO439; clear HO442; clear HO446; clear HB; have HO439 := n0_; have HO442 := n1_; have HO446 := n2_; have HO450 := n3_; have HB := n4_; clear n0_ n1_ n2_ n3_ n4_; (try clear hb); (try clear hb2); (try clear hk); (try clear hi); (try clear ho0))); try go_wp2_with (first | (go_at_call 9; (with_reducible refine (halyardlaw18_light.calls k _ _ l0 true _ ?side1 ?side2 A3.out).mono ?_); (case side1 => repeat (first | exact HR0.out | (with_reducible refine Kd.C_alloc ?_ _) | (with_reducible refine Kd.C_drewN ?_ _) | (with_reducible refine Kd.C_drew ?_))); (case side2 => exact HC0.out); rintro e w9 ⟨rfl, hb⟩; have n0_ := Aside0.mk (below_step pb hb); clear HB; have HB := n0_; clear n0_; (try clear hb); (try clear hb2); (try clear hk); (try clear hi)) | (go_at_call 15; (with_reducible refine (halyardlaw18_sorted.calls k (fun k_ => k_ < w.heap.size) _ _ l0 t437 _ ?side1 A5.out).mono ?_); (case side1 => exact Kd.V_mk HC0.out (Kd.F_below (Kd.C_F k35_heap HR0.out) pb)); rintro e w10 ⟨v438, rfl, ho0, hb⟩; have n0_ := Aside0.mk (Kd.V_lower (Kd.V_mono (ok' := fun k_ => True) ho0 (fun k_ hk_ => trivial)) (below_size pb)); have n1_ := Aside0.mk (below_step pb hb); clear HB; have HO439 := n0_; have HB := n1_; clear n0_ n1_; (try clear hb); (try clear hb2); (try clear hk); (try clear hi); (try clear ho0); obtain ⟨Ao11, co11, eo11⟩ := Kd.V_slice HO439.out; subst eo11) | (go_at_call 11; (refine (squash_Keep.calls k (fun k_ => True) _ _ t437 _ _ ([] : List Int) a1 true t440 t443 _ ?side1 ?side2 ?side3 A6.out).mono ?_); (case side1 => exact HO439.out); (case side2 => exact Kd.C_nil _ _); (case side3 => exact Nat.le_refl _); rintro e w12 ⟨v441, rfl, ho0, hb⟩; have n0_ := Aside0.mk (Kd.V_elder' (by (with_reducible repeat (first | apply Kd.V_alloc | apply Kd.V_drewN | apply Kd.V_drew)); exact HO439.out) (by first | exact Kd.N_base ho0 | exact Kd.S_base ho0) hb); have n1_ := Aside0.mk (Kd.N_lower (Kd.N_mono (ok' := fun k_ => True) ho0 (fun k_ hk_ => trivial)) (below_size pb)); have n2_ := Aside0.mk (below_step pb hb); clear HO439; clear HB; have HO439 := n0_; have HO442 := n1_; have HB := n2_; clear n0_ n1_ n2_; (try clear hb); (try clear hb2); (try clear hk); (try clear hi); (try clear ho0)) | (go_at_call 11; (refine (squash_Keep.calls k (fun k_ => (True ∧ some k_ ≠ (v441 : Value).ownBlock)) _ _ t437 _ _ ([] : List Int) a1 false t444 t447 _ ?side1 ?side2 ?side3 A7.out).mono ?_); (case side1 => exact HO439.out); (case side2 => exact Kd.C_nil _ _); (case side3 => exact Nat.le_refl _); rintro e w13 ⟨v445, rfl, ho0, hb⟩; have n0_ := Aside0.mk (Kd.V_elder' (by (with_reducible repeat (first | apply Kd.V_alloc | apply Kd.V_drewN | apply Kd.V_drew)); exact HO439.out) (by first | exact Kd.N_base ho0 | exact Kd.S_base ho0) hb); have n1_ := Aside0.mk (Kd.N_elder' (by (with_reducible repeat (first | apply Kd.N_alloc | apply Kd.N_drewN | apply Kd.N_drew)); exact HO442.out) (by first | exact Kd.N_base ho0 | exact Kd.S_base ho0) hb); have n2_ := Aside0.mk (Kd.N_lower (Kd.N_mono (ok' := fun k_ => some k_ ≠ (v441 : Value).ownBlock) ho0 (fun k_ hk_ => Or.elim hk_ (fun hs_ => hs_.2) (fun hn_ => (Kd.fresh' (Kd.N_lt (by (with_reducible repeat (first | apply Kd.N_alloc | apply Kd.N_drewN | apply Kd.N_drew)); exact HO442.out)) k_ hn_)))) (below_size pb)); have n3_ := Aside0.mk (below_step pb hb); clear HO439; clear HO442; clear HB; have HO439 := n0_; have HO442 := n1_; have HO446 := n2_; have HB := n3_; clear n0_ n1_ n2_ n3_; (try clear hb); (try clear hb2); (try clear hk); (try clear hi); (try clear ho0)) | (go_at_call 18; (with_reducible refine (squash_Live.calls k (fun k_ => ((True ∧ some k_ ≠ (v441 : Value).ownBlock) ∧ some k_ ≠ (v445 : Value).ownBlock)) _ _ t437 4611686018427387904 a1 t448 t451 _ ?side1 A8.out).mono ?_); (case side1 => exact HO439.out); rintro e w14 ⟨v449, rfl, ho0, hb⟩; replace ho0 := Kd.N_mono (ok' := fun k_ => ((True ∧ some k_ ≠ (v441 : Value).ownBlock) ∧ some k_ ≠ (v445 : Value).ownBlock) ∨ _ ≤ k_) (Kd.S_N ho0) (fun k_ hk_ => .inr hk_); have n0_ := Aside0.mk (Kd.V_elder' (by (with_reducible repeat (first | apply Kd.V_alloc | apply Kd.V_drewN | apply Kd.V_drew)); exact HO439.out) (by first | exact Kd.N_base ho0 | exact Kd.S_base ho0) hb); have n1_ := Aside0.mk (Kd.N_elder' (by (with_reducible repeat (first | apply Kd.N_alloc | apply Kd.N_drewN | apply Kd.N_drew)); exact HO442.out) (by first | exact Kd.N_base ho0 | exact Kd.S_base ho0) hb); have n2_ := Aside0.mk (Kd.N_elder' (by (with_reducible repeat (first | apply Kd.N_alloc | apply Kd.N_drewN | apply Kd.N_drew)); exact HO446.out) (by first | exact Kd.N_base ho0 | exact Kd.S_base ho0) hb); have n3_ := Aside0.mk (Kd.N_lower (Kd.N_mono (ok' := fun k_ => some k_ ≠ (v441 : Value).ownBlock ∧ some k_ ≠ (v445 : Value).ownBlock) ho0 (fun k_ hk_ => ⟨Or.elim hk_ (fun hs_ => hs_.1.2) (fun hn_ => (Kd.fresh' (Kd.N_lt (by (with_reducible repeat (first | apply Kd.N_alloc | apply Kd.N_drewN | apply Kd.N_drew)); exact HO442.out)) k_ hn_)), Or.elim hk_ (fun hs_ => hs_.2) (fun hn_ => (Kd.fresh' (Kd.N_lt (by (with_reducible repeat (first | apply Kd.N_alloc | apply Kd.N_drewN | apply Kd.N_drew)); exact HO446.out)) k_ hn_))⟩)) (below_size pb)); have n4_ := Aside0.mk (below_step pb hb); clear HO439; clear HO442; clear HO446; clear HB; have HO439 := n0_; have HO442 := n1_; have HO446 := n2_; have HO450 := n3_; have HB := n4_; clear n0_ n1_ n2_ n3_ n4_; (try clear hb); (try clear hb2); (try clear hk); (try clear hi); (try clear ho0))))
    go_loopg [12, 40] k (fun kq v12 v40 w' => ∃ (x12_1 : Int) (x40_1 : Int), v12 = .int .i64 x12_1 ∧ v40 = .int .i64 x40_1 ∧ Aside0 (halyardlaw18_SquashBottom.l0 kq t437 t440 t443 t444 t447 t448 t451 x12_1 (t437.length : Int) x40_1 = some r) ∧ Aside0 (kq ≤ k) ∧ Aside0 (Kd.V k35 35 w' w.heap.size (fun k_ => some k_ ≠ (v441 : Value).ownBlock ∧ some k_ ≠ (v445 : Value).ownBlock ∧ some k_ ≠ (v449 : Value).ownBlock) (.slice Ao11 t437.length co11) t437) ∧ Aside0 (Kd.N k35 35 w' w.heap.size (fun k_ => some k_ ≠ (v445 : Value).ownBlock ∧ some k_ ≠ (v449 : Value).ownBlock) v441 t440) ∧ Aside0 (Kd.N k35 35 w' w.heap.size (fun k_ => some k_ ≠ (v441 : Value).ownBlock ∧ some k_ ≠ (v449 : Value).ownBlock) v445 t444) ∧ Aside0 (Kd.N k35 35 w' w.heap.size (fun k_ => some k_ ≠ (v441 : Value).ownBlock ∧ some k_ ≠ (v445 : Value).ownBlock) v449 t448) ∧ Aside0 (Below w.heap.size w w'))
    case atStart => exact ⟨(0), (0), (by first | rfl | (simp; done) | (simp [*]; done)), (by first | rfl | (simp; done) | (simp [*]; done)), H', ⟨Nat.le_refl _⟩, ⟨by (with_reducible repeat (first | apply Kd.V_alloc | apply Kd.V_drewN | apply Kd.V_drew)); exact Kd.V_mono HO439.out (fun _ hk => ⟨hk.1.1.2, ⟨hk.1.2, hk.2⟩⟩)⟩, ⟨by (with_reducible repeat (first | apply Kd.N_alloc | apply Kd.N_drewN | apply Kd.N_drew)); exact Kd.N_mono HO442.out (fun _ hk => ⟨hk.1.2, hk.2⟩)⟩, ⟨by (with_reducible repeat (first | apply Kd.N_alloc | apply Kd.N_drewN | apply Kd.N_drew)); exact HO446.out⟩, ⟨by (with_reducible repeat (first | apply Kd.N_alloc | apply Kd.N_drewN | apply Kd.N_drew)); exact HO450.out⟩, ⟨pb⟩⟩
    case round =>
      clear H'
      try clear p2
      try clear c4
      try clear c8
      obtain ⟨x12_1, x40_1, rfl, rfl, HA, HK1, HO_5, HO_6, HO_8, HO_10, HB⟩ := hrel
      cases gk with
      | zero => exact absurd HA.out (by simp [halyardlaw18_SquashBottom.l0])
      | succ k1 =>
        have H := HA.out
        clear HA
        simp only [halyardlaw18_SquashBottom.l0] at H
        by_cases c15 : x40_1 < (t437.length : Int)
        · rw [if_pos c15] at H
          have c15b0 : decide (x40_1 < (t437.length : Int)) = true := decide_eq_true c15
          clear c15
          by_cases c16 : x40_1 = 0
          · rw [if_pos c16] at H
            have c16b0 : (x40_1 == 0) = true := beq_iff_eq.mpr c16
            have c16b1 : (x40_1 != 0) = false := bne_eq_false_iff_eq.mpr c16
            clear c16
            have H' := Aside0.mk H
            clear H
            go_wp2
            repeat (go_quiet (fail); try go_wp2)
            go_roundg k1
            case measure => have := HK1.out; omega
            case rel => exact ⟨(wrap64 (x12_1 + 1)), (wrap64 (x40_1 + 1)), (by first | rfl | (simp; done) | (simp [*]; done)), (by first | rfl | (simp; done) | (simp [*]; done)), H', ⟨by have := HK1.out; omega⟩, ⟨by (with_reducible repeat (first | apply Kd.V_alloc | apply Kd.V_drewN | apply Kd.V_drew)); exact HO_5.out⟩, ⟨by (with_reducible repeat (first | apply Kd.N_alloc | apply Kd.N_drewN | apply Kd.N_drew)); exact HO_6.out⟩, ⟨by (with_reducible repeat (first | apply Kd.N_alloc | apply Kd.N_drewN | apply Kd.N_drew)); exact HO_8.out⟩, ⟨by (with_reducible repeat (first | apply Kd.N_alloc | apply Kd.N_drewN | apply Kd.N_drew)); exact HO_10.out⟩, ⟨pb⟩⟩
          · rw [if_neg c16] at H
            have c16b0 : (x40_1 == 0) = false := beq_eq_false_iff_ne.mpr c16
            have c16b1 : (x40_1 != 0) = true := bne_iff_ne.mpr c16
            obtain ⟨ji17, hji17⟩ : ∃ j_ : Int, (wrap64 (x40_1 - 1)) = j_ := ⟨_, rfl⟩
            replace H : (if 0 ≤ (ji17) then (if (ji17) < (t437.length : Int) then (if 0 ≤ x40_1 then (if x40_1 < (t437.length : Int) then (if (strOfNums ((rd_T35 t437 (ji17)).f0)).toList = (strOfNums ((rd_T35 t437 x40_1).f0)).toList then (halyardlaw18_SquashBottom.l0 k1 t437 t440 t443 t444 t447 t448 t451 x12_1 (t437.length : Int) (wrap64 (x40_1 + 1))) else (halyardlaw18_SquashBottom.l0 k1 t437 t440 t443 t444 t447 t448 t451 (wrap64 (x12_1 + 1)) (t437.length : Int) (wrap64 (x40_1 + 1)))) else (none)) else (none)) else (none)) else (none)) = some r := by first | (rw [hji17] at H; exact H) | (simp only [hji17] at H ⊢; exact H)
            have hji17w : (IntKind.i64.wrap (x40_1 - 1)) = ji17 := (i64_w _).trans hji17
            by_cases c18 : 0 ≤ (ji17)
            · rw [if_pos c18] at H
              have c18b0 : decide (0 ≤ (ji17)) = true := decide_eq_true c18
              clear c18
              by_cases c19 : (ji17) < (t437.length : Int)
              · rw [if_pos c19] at H
                have c19b0 : decide ((ji17) < (t437.length : Int)) = true := decide_eq_true c19
                clear c19
                by_cases c20 : 0 ≤ x40_1
                · rw [if_pos c20] at H
                  have c20b0 : decide (0 ≤ x40_1) = true := decide_eq_true c20
                  clear c20
                  by_cases c21 : x40_1 < (t437.length : Int)
                  · rw [if_pos c21] at H
                    have c21b0 : decide (x40_1 < (t437.length : Int)) = true := decide_eq_true c21
                    clear c21
                    by_cases c22 : (strOfNums ((rd_T35 t437 (ji17)).f0)).toList = (strOfNums ((rd_T35 t437 x40_1).f0)).toList
                    · rw [if_pos c22] at H
                      have c22b0 : ((strOfNums ((rd_T35 t437 (ji17)).f0)).toList == (strOfNums ((rd_T35 t437 x40_1).f0)).toList) = true := beq_iff_eq.mpr c22
                      have c22b1 : ((strOfNums ((rd_T35 t437 (ji17)).f0)).toList != (strOfNums ((rd_T35 t437 x40_1).f0)).toList) = false := bne_eq_false_iff_eq.mpr c22
                      clear c22
                      have H' := Aside0.mk H
                      clear H
                      have p452 : 0 ≤ ((ji17) : Int) := pa
                      have q452 : (ji17) < (t437.length : Int) := pa
                      obtain ⟨ad452, A452_0, c452_0, A452_4, c452_4, e452, hx452_0, hx452_1, hx452_2, hx452_3, hx452_4, hl452_0, hi452_0, hl452_4, hi452_4⟩ := at_T35 (Kd.V_reads' HO_5.out).2.2 (ji17) p452 q452
                      cases e452
                      obtain ⟨ce452, hce452, hMe452, hcc452⟩ := Kd.V_get HO_5.out z35 (ji17) p452 (by first | exact q452 | exact pa | (have e_ := (Kd.V_reads' HO_5.out).1; omega))
                      obtain ⟨ua452_0, uc452_0, ua452_4, uc452_4, rfl, ul452_0, ge452_0, ul452_4, ge452_4⟩ := k35_openF hMe452
                      have hv452_0 := hcc452 0 _ rfl
                      rw [Nat.add_zero] at hv452_0
                      replace hv452_0 := Option.some.inj (hv452_0.symm.trans hx452_0)
                      injection hv452_0 with hva_ hvn_ hvc_
                      rw [hva_] at ge452_0
                      rw [hvc_] at ul452_0
                      have HL452_0 := Aside0.mk (show Kd.V (Kd.int .u8) 5 _ w.heap.size _ _ ((rd_T35 t437 (ji17)).f0) from Kd.V_mk ul452_0 ge452_0)
                      clear hva_ hvn_ hvc_ ge452_0 ul452_0
                      have hv452_4 := hcc452 4 _ rfl
                      rw [add_field _ _ 4 (by omega)] at hv452_4
                      replace hv452_4 := Option.some.inj (hv452_4.symm.trans hx452_4)
                      injection hv452_4 with hva_ hvn_ hvc_
                      rw [hva_] at ge452_4
                      rw [hvc_] at ul452_4
                      have HL452_4 := Aside0.mk (show Kd.V (Kd.int .u8) 5 _ w.heap.size _ _ ((rd_T35 t437 (ji17)).f4) from Kd.V_mk ul452_4 ge452_4)
                      clear hva_ hvn_ hvc_ ge452_4 ul452_4
                      clear hcc452 hce452
                      have HR452_0 := Aside0.mk hi452_0
                      have HC452_0 := Aside0.mk hl452_0
                      clear hi452_0 hl452_0
                      have HR452_4 := Aside0.mk hi452_4
                      have HC452_4 := Aside0.mk hl452_4
                      clear hi452_4 hl452_4
                      replace p452 := eq_true p452
                      replace q452 := eq_true q452
                      have hcv23 := Kd.C_string (P := Try.prog) (A := A452_0) (c := c452_0) Try.underlying33 Try.underlying5 Try.underlying9 (by repeat (first | (with_reducible exact HR452_0.out) | (with_reducible refine Kd.C_alloc ?_ _) | (with_reducible refine Kd.C_drewN ?_ _) | (with_reducible refine Kd.C_drew ?_) | exact HR452_0.out))
                      have hcv23d := fun n_ : Nat => Kd.C_string (P := Try.prog) (A := A452_0) (c := c452_0) Try.underlying33 Try.underlying5 Try.underlying9 (Kd.C_drewN ((by repeat (first | (with_reducible exact HR452_0.out) | (with_reducible refine Kd.C_alloc ?_ _) | (with_reducible refine Kd.C_drewN ?_ _) | (with_reducible refine Kd.C_drew ?_) | exact HR452_0.out))) n_)
                      have p453 : 0 ≤ (x40_1 : Int) := pa
                      have q453 : x40_1 < (t437.length : Int) := pa
                      obtain ⟨ad453, A453_0, c453_0, A453_4, c453_4, e453, hx453_0, hx453_1, hx453_2, hx453_3, hx453_4, hl453_0, hi453_0, hl453_4, hi453_4⟩ := at_T35 (Kd.V_reads' HO_5.out).2.2 x40_1 p453 q453
                      obtain rfl : ad452 = ad453 := (by injection e453)
                      obtain ⟨ce453, hce453, hMe453, hcc453⟩ := Kd.V_get HO_5.out z35 x40_1 p453 (by first | exact q453 | exact pa | (have e_ := (Kd.V_reads' HO_5.out).1; omega))
                      obtain ⟨ua453_0, uc453_0, ua453_4, uc453_4, rfl, ul453_0, ge453_0, ul453_4, ge453_4⟩ := k35_openF hMe453
                      have hv453_0 := hcc453 0 _ rfl
                      rw [Nat.add_zero] at hv453_0
                      replace hv453_0 := Option.some.inj (hv453_0.symm.trans hx453_0)
                      injection hv453_0 with hva_ hvn_ hvc_
                      rw [hva_] at ge453_0
                      rw [hvc_] at ul453_0
                      have HL453_0 := Aside0.mk (show Kd.V (Kd.int .u8) 5 _ w.heap.size _ _ ((rd_T35 t437 x40_1).f0) from Kd.V_mk ul453_0 ge453_0)
                      clear hva_ hvn_ hvc_ ge453_0 ul453_0
                      have hv453_4 := hcc453 4 _ rfl
                      rw [add_field _ _ 4 (by omega)] at hv453_4
                      replace hv453_4 := Option.some.inj (hv453_4.symm.trans hx453_4)
                      injection hv453_4 with hva_ hvn_ hvc_
                      rw [hva_] at ge453_4
                      rw [hvc_] at ul453_4
                      have HL453_4 := Aside0.mk (show Kd.V (Kd.int .u8) 5 _ w.heap.size _ _ ((rd_T35 t437 x40_1).f4) from Kd.V_mk ul453_4 ge453_4)
                      clear hva_ hvn_ hvc_ ge453_4 ul453_4
                      clear hcc453 hce453
                      have HR453_0 := Aside0.mk hi453_0
                      have HC453_0 := Aside0.mk hl453_0
                      clear hi453_0 hl453_0
                      have HR453_4 := Aside0.mk hi453_4
                      have HC453_4 := Aside0.mk hl453_4
                      clear hi453_4 hl453_4
                      replace p453 := eq_true p453
                      replace q453 := eq_true q453
                      have hcv24 := Kd.C_string (P := Try.prog) (A := A453_0) (c := c453_0) Try.underlying33 Try.underlying5 Try.underlying9 (by repeat (first | (with_reducible exact HR453_0.out) | (with_reducible refine Kd.C_alloc ?_ _) | (with_reducible refine Kd.C_drewN ?_ _) | (with_reducible refine Kd.C_drew ?_) | exact HR453_0.out))
                      have hcv24d := fun n_ : Nat => Kd.C_string (P := Try.prog) (A := A453_0) (c := c453_0) Try.underlying33 Try.underlying5 Try.underlying9 (Kd.C_drewN ((by repeat (first | (with_reducible exact HR453_0.out) | (with_reducible refine Kd.C_alloc ?_ _) | (with_reducible refine Kd.C_drewN ?_ _) | (with_reducible refine Kd.C_drew ?_) | exact HR453_0.out))) n_)
                      go_wp2
                      repeat (go_quiet (fail); try go_wp2)
                      go_roundg k1
                      case measure => have := HK1.out; omega
                      case rel => exact ⟨(x12_1), (wrap64 (x40_1 + 1)), (by first | rfl | (simp; done) | (simp [*]; done)), (by first | rfl | (simp; done) | (simp [*]; done)), H', ⟨by have := HK1.out; omega⟩, ⟨by (with_reducible repeat (first | apply Kd.V_alloc | apply Kd.V_drewN | apply Kd.V_drew)); exact HO_5.out⟩, ⟨by (with_reducible repeat (first | apply Kd.N_alloc | apply Kd.N_drewN | apply Kd.N_drew)); exact HO_6.out⟩, ⟨by (with_reducible repeat (first | apply Kd.N_alloc | apply Kd.N_drewN | apply Kd.N_drew)); exact HO_8.out⟩, ⟨by (with_reducible repeat (first | apply Kd.N_alloc | apply Kd.N_drewN | apply Kd.N_drew)); exact HO_10.out⟩, ⟨pb⟩⟩
                    · rw [if_neg c22] at H
                      have c22b0 : ((strOfNums ((rd_T35 t437 (ji17)).f0)).toList == (strOfNums ((rd_T35 t437 x40_1).f0)).toList) = false := beq_eq_false_iff_ne.mpr c22
                      have c22b1 : ((strOfNums ((rd_T35 t437 (ji17)).f0)).toList != (strOfNums ((rd_T35 t437 x40_1).f0)).toList) = true := bne_iff_ne.mpr c22
                      have H' := Aside0.mk H
                      clear H
                      have p452 : 0 ≤ ((ji17) : Int) := pa
                      have q452 : (ji17) < (t437.length : Int) := pa
                      obtain ⟨ad452, A452_0, c452_0, A452_4, c452_4, e452, hx452_0, hx452_1, hx452_2, hx452_3, hx452_4, hl452_0, hi452_0, hl452_4, hi452_4⟩ := at_T35 (Kd.V_reads' HO_5.out).2.2 (ji17) p452 q452
                      cases e452
                      obtain ⟨ce452, hce452, hMe452, hcc452⟩ := Kd.V_get HO_5.out z35 (ji17) p452 (by first | exact q452 | exact pa | (have e_ := (Kd.V_reads' HO_5.out).1; omega))
                      obtain ⟨ua452_0, uc452_0, ua452_4, uc452_4, rfl, ul452_0, ge452_0, ul452_4, ge452_4⟩ := k35_openF hMe452
                      have hv452_0 := hcc452 0 _ rfl
                      rw [Nat.add_zero] at hv452_0
                      replace hv452_0 := Option.some.inj (hv452_0.symm.trans hx452_0)
                      injection hv452_0 with hva_ hvn_ hvc_
                      rw [hva_] at ge452_0
                      rw [hvc_] at ul452_0
                      have HL452_0 := Aside0.mk (show Kd.V (Kd.int .u8) 5 _ w.heap.size _ _ ((rd_T35 t437 (ji17)).f0) from Kd.V_mk ul452_0 ge452_0)
                      clear hva_ hvn_ hvc_ ge452_0 ul452_0
                      have hv452_4 := hcc452 4 _ rfl
                      rw [add_field _ _ 4 (by omega)] at hv452_4
                      replace hv452_4 := Option.some.inj (hv452_4.symm.trans hx452_4)
                      injection hv452_4 with hva_ hvn_ hvc_
                      rw [hva_] at ge452_4
                      rw [hvc_] at ul452_4
                      have HL452_4 := Aside0.mk (show Kd.V (Kd.int .u8) 5 _ w.heap.size _ _ ((rd_T35 t437 (ji17)).f4) from Kd.V_mk ul452_4 ge452_4)
                      clear hva_ hvn_ hvc_ ge452_4 ul452_4
                      clear hcc452 hce452
                      have HR452_0 := Aside0.mk hi452_0
                      have HC452_0 := Aside0.mk hl452_0
                      clear hi452_0 hl452_0
                      have HR452_4 := Aside0.mk hi452_4
                      have HC452_4 := Aside0.mk hl452_4
                      clear hi452_4 hl452_4
                      replace p452 := eq_true p452
                      replace q452 := eq_true q452
                      have hcv25 := Kd.C_string (P := Try.prog) (A := A452_0) (c := c452_0) Try.underlying33 Try.underlying5 Try.underlying9 (by repeat (first | (with_reducible exact HR452_0.out) | (with_reducible refine Kd.C_alloc ?_ _) | (with_reducible refine Kd.C_drewN ?_ _) | (with_reducible refine Kd.C_drew ?_) | exact HR452_0.out))
                      have hcv25d := fun n_ : Nat => Kd.C_string (P := Try.prog) (A := A452_0) (c := c452_0) Try.underlying33 Try.underlying5 Try.underlying9 (Kd.C_drewN ((by repeat (first | (with_reducible exact HR452_0.out) | (with_reducible refine Kd.C_alloc ?_ _) | (with_reducible refine Kd.C_drewN ?_ _) | (with_reducible refine Kd.C_drew ?_) | exact HR452_0.out))) n_)
                      have p453 : 0 ≤ (x40_1 : Int) := pa
                      have q453 : x40_1 < (t437.length : Int) := pa
                      obtain ⟨ad453, A453_0, c453_0, A453_4, c453_4, e453, hx453_0, hx453_1, hx453_2, hx453_3, hx453_4, hl453_0, hi453_0, hl453_4, hi453_4⟩ := at_T35 (Kd.V_reads' HO_5.out).2.2 x40_1 p453 q453
                      obtain rfl : ad452 = ad453 := (by injection e453)
                      obtain ⟨ce453, hce453, hMe453, hcc453⟩ := Kd.V_get HO_5.out z35 x40_1 p453 (by first | exact q453 | exact pa | (have e_ := (Kd.V_reads' HO_5.out).1; omega))
                      obtain ⟨ua453_0, uc453_0, ua453_4, uc453_4, rfl, ul453_0, ge453_0, ul453_4, ge453_4⟩ := k35_openF hMe453
                      have hv453_0 := hcc453 0 _ rfl
                      rw [Nat.add_zero] at hv453_0
                      replace hv453_0 := Option.some.inj (hv453_0.symm.trans hx453_0)
                      injection hv453_0 with hva_ hvn_ hvc_
                      rw [hva_] at ge453_0
                      rw [hvc_] at ul453_0
                      have HL453_0 := Aside0.mk (show Kd.V (Kd.int .u8) 5 _ w.heap.size _ _ ((rd_T35 t437 x40_1).f0) from Kd.V_mk ul453_0 ge453_0)
                      clear hva_ hvn_ hvc_ ge453_0 ul453_0
                      have hv453_4 := hcc453 4 _ rfl
                      rw [add_field _ _ 4 (by omega)] at hv453_4
                      replace hv453_4 := Option.some.inj (hv453_4.symm.trans hx453_4)
                      injection hv453_4 with hva_ hvn_ hvc_
                      rw [hva_] at ge453_4
                      rw [hvc_] at ul453_4
                      have HL453_4 := Aside0.mk (show Kd.V (Kd.int .u8) 5 _ w.heap.size _ _ ((rd_T35 t437 x40_1).f4) from Kd.V_mk ul453_4 ge453_4)
                      clear hva_ hvn_ hvc_ ge453_4 ul453_4
                      clear hcc453 hce453
                      have HR453_0 := Aside0.mk hi453_0
                      have HC453_0 := Aside0.mk hl453_0
                      clear hi453_0 hl453_0
                      have HR453_4 := Aside0.mk hi453_4
                      have HC453_4 := Aside0.mk hl453_4
                      clear hi453_4 hl453_4
                      replace p453 := eq_true p453
                      replace q453 := eq_true q453
                      have hcv26 := Kd.C_string (P := Try.prog) (A := A453_0) (c := c453_0) Try.underlying33 Try.underlying5 Try.underlying9 (by repeat (first | (with_reducible exact HR453_0.out) | (with_reducible refine Kd.C_alloc ?_ _) | (with_reducible refine Kd.C_drewN ?_ _) | (with_reducible refine Kd.C_drew ?_) | exact HR453_0.out))
                      have hcv26d := fun n_ : Nat => Kd.C_string (P := Try.prog) (A := A453_0) (c := c453_0) Try.underlying33 Try.underlying5 Try.underlying9 (Kd.C_drewN ((by repeat (first | (with_reducible exact HR453_0.out) | (with_reducible refine Kd.C_alloc ?_ _) | (with_reducible refine Kd.C_drewN ?_ _) | (with_reducible refine Kd.C_drew ?_) | exact HR453_0.out))) n_)
                      go_wp2
                      repeat (go_quiet (fail); try go_wp2)
                      go_roundg k1
                      case measure => have := HK1.out; omega
                      case rel => exact ⟨(wrap64 (x12_1 + 1)), (wrap64 (x40_1 + 1)), (by first | rfl | (simp; done) | (simp [*]; done)), (by first | rfl | (simp; done) | (simp [*]; done)), H', ⟨by have := HK1.out; omega⟩, ⟨by (with_reducible repeat (first | apply Kd.V_alloc | apply Kd.V_drewN | apply Kd.V_drew)); exact HO_5.out⟩, ⟨by (with_reducible repeat (first | apply Kd.N_alloc | apply Kd.N_drewN | apply Kd.N_drew)); exact HO_6.out⟩, ⟨by (with_reducible repeat (first | apply Kd.N_alloc | apply Kd.N_drewN | apply Kd.N_drew)); exact HO_8.out⟩, ⟨by (with_reducible repeat (first | apply Kd.N_alloc | apply Kd.N_drewN | apply Kd.N_drew)); exact HO_10.out⟩, ⟨pb⟩⟩
                  · rw [if_neg c21] at H
                    exact absurd H (by simp)
                · rw [if_neg c20] at H
                  exact absurd H (by simp)
              · rw [if_neg c19] at H
                exact absurd H (by simp)
            · rw [if_neg c18] at H
              exact absurd H (by simp)
        · rw [if_neg c15] at H
          have c15b0 : decide (x40_1 < (t437.length : Int)) = false := decide_eq_false c15
          clear c15
          by_cases c27 : t443 = 0
          · rw [if_pos c27] at H
            have c27b0 : (t443 == 0) = true := beq_iff_eq.mpr c27
            have c27b1 : (t443 != 0) = false := bne_eq_false_iff_eq.mpr c27
            clear c27
            by_cases c28 : t447 = 0
            · rw [if_pos c28] at H
              have c28b0 : (t447 == 0) = true := beq_iff_eq.mpr c28
              have c28b1 : (t447 != 0) = false := bne_eq_false_iff_eq.mpr c28
              clear c28
              by_cases c29 : t451 = 0
              · rw [if_pos c29] at H
                have c29b0 : (t451 == 0) = true := beq_iff_eq.mpr c29
                have c29b1 : (t451 != 0) = false := bne_eq_false_iff_eq.mpr c29
                clear c29
                replace H := Option.bind_eq_some_iff.mp H
                obtain ⟨t454, A300, H⟩ := H
                replace H : (if t454 = true then (if (t444.length : Int) = x12_1 then ((halyardlaw18_awake.f k1).bind fun t455 => (some t455)) else (some false)) else (some false)) = some r := H
                have A30 := Aside0.mk A300
                clear A300
                by_cases c31 : t454 = true
                · subst c31
                  have H1 : (if (t444.length : Int) = x12_1 then ((halyardlaw18_awake.f k1).bind fun t455 => (some t455)) else (some false)) = some r := by rw [if_pos rfl] at H; exact H
                  clear H
                  have H := H1
                  clear H1
                  by_cases c32 : (t444.length : Int) = x12_1
                  · rw [if_pos c32] at H
                    have c32b0 : ((t444.length : Int) == x12_1) = true := beq_iff_eq.mpr c32
                    have c32b1 : ((t444.length : Int) != x12_1) = false := bne_eq_false_iff_eq.mpr c32
                    clear c32
                    replace H := Option.bind_eq_some_iff.mp H
                    obtain ⟨t455, A330, H⟩ := H
                    replace H : (some t455) = some r := H
                    have A33 := Aside0.mk A330
                    clear A330
                    obtain rfl := Option.some.inj H
                    obtain ⟨Ao34, co34, eo34⟩ := Kd.N_slice HO_6.out
                    subst eo34
                    obtain ⟨Ao35, co35, eo35⟩ := Kd.N_slice HO_10.out
                    subst eo35
                    go_wp2_with (first | (go_at_call 13; (with_reducible refine (halyardref2_SameEntries.calls k1 _ _ t440 _ _ t448 true _ ?side1 ?side2 ?side3 ?side4 A30.out).mono ?_); (case side1 => repeat (first | exact (Kd.N_reads' HO_6.out).2.2 | (with_reducible refine Kd.C_alloc ?_ _) | (with_reducible refine Kd.C_drewN ?_ _) | (with_reducible refine Kd.C_drew ?_))); (case side2 => exact (Kd.N_reads' HO_6.out).2.1); (case side3 => repeat (first | exact (Kd.N_reads' HO_10.out).2.2 | (with_reducible refine Kd.C_alloc ?_ _) | (with_reducible refine Kd.C_drewN ?_ _) | (with_reducible refine Kd.C_drew ?_))); (case side4 => exact (Kd.N_reads' HO_10.out).2.1); rintro e w36 ⟨rfl, hb⟩; have n0_ := Aside0.mk (Kd.V_below (by (with_reducible repeat (first | apply Kd.V_alloc | apply Kd.V_drewN | apply Kd.V_drew)); exact HO_5.out) hb); have n1_ := Aside0.mk (Kd.N_below (by (with_reducible repeat (first | apply Kd.N_alloc | apply Kd.N_drewN | apply Kd.N_drew)); exact HO_6.out) hb); have n2_ := Aside0.mk (Kd.N_below (by (with_reducible repeat (first | apply Kd.N_alloc | apply Kd.N_drewN | apply Kd.N_drew)); exact HO_8.out) hb); have n3_ := Aside0.mk (Kd.N_below (by (with_reducible repeat (first | apply Kd.N_alloc | apply Kd.N_drewN | apply Kd.N_drew)); exact HO_10.out) hb); have n4_ := Aside0.mk (below_step pb hb); clear HO_5; clear HO_6; clear HO_8; clear HO_10; clear HB; have HO_5 := n0_; have HO_6 := n1_; have HO_8 := n2_; have HO_10 := n3_; have HB := n4_; clear n0_ n1_ n2_ n3_ n4_; (try clear hb); (try clear hb2); (try clear hk); (try clear hi); obtain ⟨Ao37, co37, eo37⟩ := Kd.N_slice HO_8.out; subst eo37) | (go_at_call 10; (with_reducible refine (halyardlaw18_awake.calls k1  t455 _ A33.out).mono ?_); rintro e w38 ⟨rfl, hb⟩; have n0_ := Aside0.mk (Kd.V_below (by (with_reducible repeat (first | apply Kd.V_alloc | apply Kd.V_drewN | apply Kd.V_drew)); exact HO_5.out) hb); have n1_ := Aside0.mk (Kd.N_below (by (with_reducible repeat (first | apply Kd.N_alloc | apply Kd.N_drewN | apply Kd.N_drew)); exact HO_6.out) hb); have n2_ := Aside0.mk (Kd.N_below (by (with_reducible repeat (first | apply Kd.N_alloc | apply Kd.N_drewN | apply Kd.N_drew)); exact HO_8.out) hb); have n3_ := Aside0.mk (Kd.N_below (by (with_reducible repeat (first | apply Kd.N_alloc | apply Kd.N_drewN | apply Kd.N_drew)); exact HO_10.out) hb); have n4_ := Aside0.mk (below_step pb hb); clear HO_5; clear HO_6; clear HO_8; clear HO_10; clear HB; have HO_5 := n0_; have HO_6 := n1_; have HO_8 := n2_; have HO_10 := n3_; have HB := n4_; clear n0_ n1_ n2_ n3_ n4_; (try clear hb); (try clear hb2); (try clear hk); (try clear hi)))
                    repeat (go_quiet (first | (go_at_call 13; (with_reducible refine (halyardref2_SameEntries.calls k1 _ _ t440 _ _ t448 true _ ?side1 ?side2 ?side3 ?side4 A30.out).mono ?_); (case side1 => repeat (first | exact (Kd.N_reads' HO_6.out).2.2 | (with_reducible refine Kd.C_alloc ?_ _) | (with_reducible refine Kd.C_drewN ?_ _) | (with_reducible refine Kd.C_drew ?_))); (case side2 => exact (Kd.N_reads' HO_6.out).2.1); (case side3 => repeat (first | exact (Kd.N_reads' HO_10.out).2.2 | (with_reducible refine Kd.C_alloc ?_ _) | (with_reducible refine Kd.C_drewN ?_ _) | (with_reducible refine Kd.C_drew ?_))); (case side4 => exact (Kd.N_reads' HO_10.out).2.1); rintro e w36 ⟨rfl, hb⟩; have n0_ := Aside0.mk (Kd.V_below (by (with_reducible repeat (first | apply Kd.V_alloc | apply Kd.V_drewN | apply Kd.V_drew)); exact HO_5.out) hb); have n1_ := Aside0.mk (Kd.N_below (by (with_reducible repeat (first | apply Kd.N_alloc | apply Kd.N_drewN | apply Kd.N_drew)); exact HO_6.out) hb); have n2_ := Aside0.mk (Kd.N_below (by (with_reducible repeat (first | apply Kd.N_alloc | apply Kd.N_drewN | apply Kd.N_drew)); exact HO_8.out) hb); have n3_ := Aside0.mk (Kd.N_below (by (with_reducible repeat (first | apply Kd.N_alloc | apply Kd.N_drewN | apply Kd.N_drew)); exact HO_10.out) hb); have n4_ := Aside0.mk (below_step pb hb); clear HO_5; clear HO_6; clear HO_8; clear HO_10; clear HB; have HO_5 := n0_; have HO_6 := n1_; have HO_8 := n2_; have HO_10 := n3_; have HB := n4_; clear n0_ n1_ n2_ n3_ n4_; (try clear hb); (try clear hb2); (try clear hk); (try clear hi); obtain ⟨Ao37, co37, eo37⟩ := Kd.N_slice HO_8.out; subst eo37) | (go_at_call 10; (with_reducible refine (halyardlaw18_awake.calls k1  t455 _ A33.out).mono ?_); rintro e w38 ⟨rfl, hb⟩; have n0_ := Aside0.mk (Kd.V_below (by (with_reducible repeat (first | apply Kd.V_alloc | apply Kd.V_drewN | apply Kd.V_drew)); exact HO_5.out) hb); have n1_ := Aside0.mk (Kd.N_below (by (with_reducible repeat (first | apply Kd.N_alloc | apply Kd.N_drewN | apply Kd.N_drew)); exact HO_6.out) hb); have n2_ := Aside0.mk (Kd.N_below (by (with_reducible repeat (first | apply Kd.N_alloc | apply Kd.N_drewN | apply Kd.N_drew)); exact HO_8.out) hb); have n3_ := Aside0.mk (Kd.N_below (by (with_reducible repeat (first | apply Kd.N_alloc | apply Kd.N_drewN | apply Kd.N_drew)); exact HO_10.out) hb); have n4_ := Aside0.mk (below_step pb hb); clear HO_5; clear HO_6; clear HO_8; clear HO_10; clear HB; have HO_5 := n0_; have HO_6 := n1_; have HO_8 := n2_; have HO_10 := n3_; have HB := n4_; clear n0_ n1_ n2_ n3_ n4_; (try clear hb); (try clear hb2); (try clear hk); (try clear hi))); try go_wp2_with (first | (go_at_call 13; (with_reducible refine (halyardref2_SameEntries.calls k1 _ _ t440 _ _ t448 true _ ?side1 ?side2 ?side3 ?side4 A30.out).mono ?_); (case side1 => repeat (first | exact (Kd.N_reads' HO_6.out).2.2 | (with_reducible refine Kd.C_alloc ?_ _) | (with_reducible refine Kd.C_drewN ?_ _) | (with_reducible refine Kd.C_drew ?_))); (case side2 => exact (Kd.N_reads' HO_6.out).2.1); (case side3 => repeat (first | exact (Kd.N_reads' HO_10.out).2.2 | (with_reducible refine Kd.C_alloc ?_ _) | (with_reducible refine Kd.C_drewN ?_ _) | (with_reducible refine Kd.C_drew ?_))); (case side4 => exact (Kd.N_reads' HO_10.out).2.1); rintro e w36 ⟨rfl, hb⟩; have n0_ := Aside0.mk (Kd.V_below (by (with_reducible repeat (first | apply Kd.V_alloc | apply Kd.V_drewN | apply Kd.V_drew)); exact HO_5.out) hb); have n1_ := Aside0.mk (Kd.N_below (by (with_reducible repeat (first | apply Kd.N_alloc | apply Kd.N_drewN | apply Kd.N_drew)); exact HO_6.out) hb); have n2_ := Aside0.mk (Kd.N_below (by (with_reducible repeat (first | apply Kd.N_alloc | apply Kd.N_drewN | apply Kd.N_drew)); exact HO_8.out) hb); have n3_ := Aside0.mk (Kd.N_below (by (with_reducible repeat (first | apply Kd.N_alloc | apply Kd.N_drewN | apply Kd.N_drew)); exact HO_10.out) hb); have n4_ := Aside0.mk (below_step pb hb); clear HO_5; clear HO_6; clear HO_8; clear HO_10; clear HB; have HO_5 := n0_; have HO_6 := n1_; have HO_8 := n2_; have HO_10 := n3_; have HB := n4_; clear n0_ n1_ n2_ n3_ n4_; (try clear hb); (try clear hb2); (try clear hk); (try clear hi); obtain ⟨Ao37, co37, eo37⟩ := Kd.N_slice HO_8.out; subst eo37) | (go_at_call 10; (with_reducible refine (halyardlaw18_awake.calls k1  t455 _ A33.out).mono ?_); rintro e w38 ⟨rfl, hb⟩; have n0_ := Aside0.mk (Kd.V_below (by (with_reducible repeat (first | apply Kd.V_alloc | apply Kd.V_drewN | apply Kd.V_drew)); exact HO_5.out) hb); have n1_ := Aside0.mk (Kd.N_below (by (with_reducible repeat (first | apply Kd.N_alloc | apply Kd.N_drewN | apply Kd.N_drew)); exact HO_6.out) hb); have n2_ := Aside0.mk (Kd.N_below (by (with_reducible repeat (first | apply Kd.N_alloc | apply Kd.N_drewN | apply Kd.N_drew)); exact HO_8.out) hb); have n3_ := Aside0.mk (Kd.N_below (by (with_reducible repeat (first | apply Kd.N_alloc | apply Kd.N_drewN | apply Kd.N_drew)); exact HO_10.out) hb); have n4_ := Aside0.mk (below_step pb hb); clear HO_5; clear HO_6; clear HO_8; clear HO_10; clear HB; have HO_5 := n0_; have HO_6 := n1_; have HO_8 := n2_; have HO_10 := n3_; have HB := n4_; clear n0_ n1_ n2_ n3_ n4_; (try clear hb); (try clear hb2); (try clear hk); (try clear hi))))
                    go_ret
                    exact ⟨by first | rfl | (simp [errW_none, errW_some] <;> rfl) | (simp [*, errW_none, errW_some] <;> rfl), pb⟩
                  · rw [if_neg c32] at H
                    have c32b0 : ((t444.length : Int) == x12_1) = false := beq_eq_false_iff_ne.mpr c32
                    have c32b1 : ((t444.length : Int) != x12_1) = true := bne_iff_ne.mpr c32
                    obtain rfl := Option.some.inj H
                    obtain ⟨Ao39, co39, eo39⟩ := Kd.N_slice HO_6.out
                    subst eo39
                    obtain ⟨Ao40, co40, eo40⟩ := Kd.N_slice HO_10.out
                    subst eo40
                    go_wp2_with (first | (go_at_call 13; (with_reducible refine (halyardref2_SameEntries.calls k1 _ _ t440 _ _ t448 true _ ?side1 ?side2 ?side3 ?side4 A30.out).mono ?_); (case side1 => repeat (first | exact (Kd.N_reads' HO_6.out).2.2 | (with_reducible refine Kd.C_alloc ?_ _) | (with_reducible refine Kd.C_drewN ?_ _) | (with_reducible refine Kd.C_drew ?_))); (case side2 => exact (Kd.N_reads' HO_6.out).2.1); (case side3 => repeat (first | exact (Kd.N_reads' HO_10.out).2.2 | (with_reducible refine Kd.C_alloc ?_ _) | (with_reducible refine Kd.C_drewN ?_ _) | (with_reducible refine Kd.C_drew ?_))); (case side4 => exact (Kd.N_reads' HO_10.out).2.1); rintro e w41 ⟨rfl, hb⟩; have n0_ := Aside0.mk (Kd.V_below (by (with_reducible repeat (first | apply Kd.V_alloc | apply Kd.V_drewN | apply Kd.V_drew)); exact HO_5.out) hb); have n1_ := Aside0.mk (Kd.N_below (by (with_reducible repeat (first | apply Kd.N_alloc | apply Kd.N_drewN | apply Kd.N_drew)); exact HO_6.out) hb); have n2_ := Aside0.mk (Kd.N_below (by (with_reducible repeat (first | apply Kd.N_alloc | apply Kd.N_drewN | apply Kd.N_drew)); exact HO_8.out) hb); have n3_ := Aside0.mk (Kd.N_below (by (with_reducible repeat (first | apply Kd.N_alloc | apply Kd.N_drewN | apply Kd.N_drew)); exact HO_10.out) hb); have n4_ := Aside0.mk (below_step pb hb); clear HO_5; clear HO_6; clear HO_8; clear HO_10; clear HB; have HO_5 := n0_; have HO_6 := n1_; have HO_8 := n2_; have HO_10 := n3_; have HB := n4_; clear n0_ n1_ n2_ n3_ n4_; (try clear hb); (try clear hb2); (try clear hk); (try clear hi); obtain ⟨Ao42, co42, eo42⟩ := Kd.N_slice HO_8.out; subst eo42))
                    repeat (go_quiet (first | (go_at_call 13; (with_reducible refine (halyardref2_SameEntries.calls k1 _ _ t440 _ _ t448 true _ ?side1 ?side2 ?side3 ?side4 A30.out).mono ?_); (case side1 => repeat (first | exact (Kd.N_reads' HO_6.out).2.2 | (with_reducible refine Kd.C_alloc ?_ _) | (with_reducible refine Kd.C_drewN ?_ _) | (with_reducible refine Kd.C_drew ?_))); (case side2 => exact (Kd.N_reads' HO_6.out).2.1); (case side3 => repeat (first | exact (Kd.N_reads' HO_10.out).2.2 | (with_reducible refine Kd.C_alloc ?_ _) | (with_reducible refine Kd.C_drewN ?_ _) | (with_reducible refine Kd.C_drew ?_))); (case side4 => exact (Kd.N_reads' HO_10.out).2.1); rintro e w41 ⟨rfl, hb⟩; have n0_ := Aside0.mk (Kd.V_below (by (with_reducible repeat (first | apply Kd.V_alloc | apply Kd.V_drewN | apply Kd.V_drew)); exact HO_5.out) hb); have n1_ := Aside0.mk (Kd.N_below (by (with_reducible repeat (first | apply Kd.N_alloc | apply Kd.N_drewN | apply Kd.N_drew)); exact HO_6.out) hb); have n2_ := Aside0.mk (Kd.N_below (by (with_reducible repeat (first | apply Kd.N_alloc | apply Kd.N_drewN | apply Kd.N_drew)); exact HO_8.out) hb); have n3_ := Aside0.mk (Kd.N_below (by (with_reducible repeat (first | apply Kd.N_alloc | apply Kd.N_drewN | apply Kd.N_drew)); exact HO_10.out) hb); have n4_ := Aside0.mk (below_step pb hb); clear HO_5; clear HO_6; clear HO_8; clear HO_10; clear HB; have HO_5 := n0_; have HO_6 := n1_; have HO_8 := n2_; have HO_10 := n3_; have HB := n4_; clear n0_ n1_ n2_ n3_ n4_; (try clear hb); (try clear hb2); (try clear hk); (try clear hi); obtain ⟨Ao42, co42, eo42⟩ := Kd.N_slice HO_8.out; subst eo42)); try go_wp2_with (first | (go_at_call 13; (with_reducible refine (halyardref2_SameEntries.calls k1 _ _ t440 _ _ t448 true _ ?side1 ?side2 ?side3 ?side4 A30.out).mono ?_); (case side1 => repeat (first | exact (Kd.N_reads' HO_6.out).2.2 | (with_reducible refine Kd.C_alloc ?_ _) | (with_reducible refine Kd.C_drewN ?_ _) | (with_reducible refine Kd.C_drew ?_))); (case side2 => exact (Kd.N_reads' HO_6.out).2.1); (case side3 => repeat (first | exact (Kd.N_reads' HO_10.out).2.2 | (with_reducible refine Kd.C_alloc ?_ _) | (with_reducible refine Kd.C_drewN ?_ _) | (with_reducible refine Kd.C_drew ?_))); (case side4 => exact (Kd.N_reads' HO_10.out).2.1); rintro e w41 ⟨rfl, hb⟩; have n0_ := Aside0.mk (Kd.V_below (by (with_reducible repeat (first | apply Kd.V_alloc | apply Kd.V_drewN | apply Kd.V_drew)); exact HO_5.out) hb); have n1_ := Aside0.mk (Kd.N_below (by (with_reducible repeat (first | apply Kd.N_alloc | apply Kd.N_drewN | apply Kd.N_drew)); exact HO_6.out) hb); have n2_ := Aside0.mk (Kd.N_below (by (with_reducible repeat (first | apply Kd.N_alloc | apply Kd.N_drewN | apply Kd.N_drew)); exact HO_8.out) hb); have n3_ := Aside0.mk (Kd.N_below (by (with_reducible repeat (first | apply Kd.N_alloc | apply Kd.N_drewN | apply Kd.N_drew)); exact HO_10.out) hb); have n4_ := Aside0.mk (below_step pb hb); clear HO_5; clear HO_6; clear HO_8; clear HO_10; clear HB; have HO_5 := n0_; have HO_6 := n1_; have HO_8 := n2_; have HO_10 := n3_; have HB := n4_; clear n0_ n1_ n2_ n3_ n4_; (try clear hb); (try clear hb2); (try clear hk); (try clear hi); obtain ⟨Ao42, co42, eo42⟩ := Kd.N_slice HO_8.out; subst eo42)))
                    go_ret
                    exact ⟨by first | rfl | (simp [errW_none, errW_some] <;> rfl) | (simp [*, errW_none, errW_some] <;> rfl), pb⟩
                · replace c31 := Bool.eq_false_iff.mpr c31
                  subst c31
                  have H1 : (some false) = some r := by rw [if_neg (show ¬ (false = true) by decide)] at H; exact H
                  clear H
                  have H := H1
                  clear H1
                  obtain rfl := Option.some.inj H
                  obtain ⟨Ao43, co43, eo43⟩ := Kd.N_slice HO_6.out
                  subst eo43
                  obtain ⟨Ao44, co44, eo44⟩ := Kd.N_slice HO_10.out
                  subst eo44
                  go_wp2_with (first | (go_at_call 13; (with_reducible refine (halyardref2_SameEntries.calls k1 _ _ t440 _ _ t448 false _ ?side1 ?side2 ?side3 ?side4 A30.out).mono ?_); (case side1 => repeat (first | exact (Kd.N_reads' HO_6.out).2.2 | (with_reducible refine Kd.C_alloc ?_ _) | (with_reducible refine Kd.C_drewN ?_ _) | (with_reducible refine Kd.C_drew ?_))); (case side2 => exact (Kd.N_reads' HO_6.out).2.1); (case side3 => repeat (first | exact (Kd.N_reads' HO_10.out).2.2 | (with_reducible refine Kd.C_alloc ?_ _) | (with_reducible refine Kd.C_drewN ?_ _) | (with_reducible refine Kd.C_drew ?_))); (case side4 => exact (Kd.N_reads' HO_10.out).2.1); rintro e w45 ⟨rfl, hb⟩; have n0_ := Aside0.mk (Kd.V_below (by (with_reducible repeat (first | apply Kd.V_alloc | apply Kd.V_drewN | apply Kd.V_drew)); exact HO_5.out) hb); have n1_ := Aside0.mk (Kd.N_below (by (with_reducible repeat (first | apply Kd.N_alloc | apply Kd.N_drewN | apply Kd.N_drew)); exact HO_6.out) hb); have n2_ := Aside0.mk (Kd.N_below (by (with_reducible repeat (first | apply Kd.N_alloc | apply Kd.N_drewN | apply Kd.N_drew)); exact HO_8.out) hb); have n3_ := Aside0.mk (Kd.N_below (by (with_reducible repeat (first | apply Kd.N_alloc | apply Kd.N_drewN | apply Kd.N_drew)); exact HO_10.out) hb); have n4_ := Aside0.mk (below_step pb hb); clear HO_5; clear HO_6; clear HO_8; clear HO_10; clear HB; have HO_5 := n0_; have HO_6 := n1_; have HO_8 := n2_; have HO_10 := n3_; have HB := n4_; clear n0_ n1_ n2_ n3_ n4_; (try clear hb); (try clear hb2); (try clear hk); (try clear hi)))
                  repeat (go_quiet (first | (go_at_call 13; (with_reducible refine (halyardref2_SameEntries.calls k1 _ _ t440 _ _ t448 false _ ?side1 ?side2 ?side3 ?side4 A30.out).mono ?_); (case side1 => repeat (first | exact (Kd.N_reads' HO_6.out).2.2 | (with_reducible refine Kd.C_alloc ?_ _) | (with_reducible refine Kd.C_drewN ?_ _) | (with_reducible refine Kd.C_drew ?_))); (case side2 => exact (Kd.N_reads' HO_6.out).2.1); (case side3 => repeat (first | exact (Kd.N_reads' HO_10.out).2.2 | (with_reducible refine Kd.C_alloc ?_ _) | (with_reducible refine Kd.C_drewN ?_ _) | (with_reducible refine Kd.C_drew ?_))); (case side4 => exact (Kd.N_reads' HO_10.out).2.1); rintro e w45 ⟨rfl, hb⟩; have n0_ := Aside0.mk (Kd.V_below (by (with_reducible repeat (first | apply Kd.V_alloc | apply Kd.V_drewN | apply Kd.V_drew)); exact HO_5.out) hb); have n1_ := Aside0.mk (Kd.N_below (by (with_reducible repeat (first | apply Kd.N_alloc | apply Kd.N_drewN | apply Kd.N_drew)); exact HO_6.out) hb); have n2_ := Aside0.mk (Kd.N_below (by (with_reducible repeat (first | apply Kd.N_alloc | apply Kd.N_drewN | apply Kd.N_drew)); exact HO_8.out) hb); have n3_ := Aside0.mk (Kd.N_below (by (with_reducible repeat (first | apply Kd.N_alloc | apply Kd.N_drewN | apply Kd.N_drew)); exact HO_10.out) hb); have n4_ := Aside0.mk (below_step pb hb); clear HO_5; clear HO_6; clear HO_8; clear HO_10; clear HB; have HO_5 := n0_; have HO_6 := n1_; have HO_8 := n2_; have HO_10 := n3_; have HB := n4_; clear n0_ n1_ n2_ n3_ n4_; (try clear hb); (try clear hb2); (try clear hk); (try clear hi))); try go_wp2_with (first | (go_at_call 13; (with_reducible refine (halyardref2_SameEntries.calls k1 _ _ t440 _ _ t448 false _ ?side1 ?side2 ?side3 ?side4 A30.out).mono ?_); (case side1 => repeat (first | exact (Kd.N_reads' HO_6.out).2.2 | (with_reducible refine Kd.C_alloc ?_ _) | (with_reducible refine Kd.C_drewN ?_ _) | (with_reducible refine Kd.C_drew ?_))); (case side2 => exact (Kd.N_reads' HO_6.out).2.1); (case side3 => repeat (first | exact (Kd.N_reads' HO_10.out).2.2 | (with_reducible refine Kd.C_alloc ?_ _) | (with_reducible refine Kd.C_drewN ?_ _) | (with_reducible refine Kd.C_drew ?_))); (case side4 => exact (Kd.N_reads' HO_10.out).2.1); rintro e w45 ⟨rfl, hb⟩; have n0_ := Aside0.mk (Kd.V_below (by (with_reducible repeat (first | apply Kd.V_alloc | apply Kd.V_drewN | apply Kd.V_drew)); exact HO_5.out) hb); have n1_ := Aside0.mk (Kd.N_below (by (with_reducible repeat (first | apply Kd.N_alloc | apply Kd.N_drewN | apply Kd.N_drew)); exact HO_6.out) hb); have n2_ := Aside0.mk (Kd.N_below (by (with_reducible repeat (first | apply Kd.N_alloc | apply Kd.N_drewN | apply Kd.N_drew)); exact HO_8.out) hb); have n3_ := Aside0.mk (Kd.N_below (by (with_reducible repeat (first | apply Kd.N_alloc | apply Kd.N_drewN | apply Kd.N_drew)); exact HO_10.out) hb); have n4_ := Aside0.mk (below_step pb hb); clear HO_5; clear HO_6; clear HO_8; clear HO_10; clear HB; have HO_5 := n0_; have HO_6 := n1_; have HO_8 := n2_; have HO_10 := n3_; have HB := n4_; clear n0_ n1_ n2_ n3_ n4_; (try clear hb); (try clear hb2); (try clear hk); (try clear hi))))
                  go_ret
                  exact ⟨by first | rfl | (simp [errW_none, errW_some] <;> rfl) | (simp [*, errW_none, errW_some] <;> rfl), pb⟩
              · rw [if_neg c29] at H
                have c29b0 : (t451 == 0) = false := beq_eq_false_iff_ne.mpr c29
                have c29b1 : (t451 != 0) = true := bne_iff_ne.mpr c29
                obtain rfl := Option.some.inj H
                go_wp2
                repeat (go_quiet (fail); try go_wp2)
                go_ret
                exact ⟨by first | rfl | (simp [errW_none, errW_some] <;> rfl) | (simp [*, errW_none, errW_some] <;> rfl), pb⟩
            · rw [if_neg c28] at H
              have c28b0 : (t447 == 0) = false := beq_eq_false_iff_ne.mpr c28
              have c28b1 : (t447 != 0) = true := bne_iff_ne.mpr c28
              obtain rfl := Option.some.inj H
              go_wp2
              repeat (go_quiet (fail); try go_wp2)
              go_ret
              exact ⟨by first | rfl | (simp [errW_none, errW_some] <;> rfl) | (simp [*, errW_none, errW_some] <;> rfl), pb⟩
          · rw [if_neg c27] at H
            have c27b0 : (t443 == 0) = false := beq_eq_false_iff_ne.mpr c27
            have c27b1 : (t443 != 0) = true := bne_iff_ne.mpr c27
            obtain rfl := Option.some.inj H
            go_wp2
            repeat (go_quiet (fail); try go_wp2)
            go_ret
            exact ⟨by first | rfl | (simp [errW_none, errW_some] <;> rfl) | (simp [*, errW_none, errW_some] <;> rfl), pb⟩
  · replace c4 := Bool.eq_false_iff.mpr c4
    subst c4
    have H1 : ((halyardlaw18_awake.f k).bind fun t436 => (some t436)) = some r := by rw [if_neg (show ¬ (false = true) by decide)] at H; exact H
    clear H
    have H := H1
    clear H1
    replace H := Option.bind_eq_some_iff.mp H
    obtain ⟨t436, A460, H⟩ := H
    replace H : (some t436) = some r := H
    have A46 := Aside0.mk A460
    clear A460
    obtain rfl := Option.some.inj H
    go_enter Try.func8, Try.ntmps8
    go_wp2_with (first | (go_at_call 9; (with_reducible refine (halyardlaw18_light.calls k _ _ l0 false _ ?side1 ?side2 A3.out).mono ?_); (case side1 => repeat (first | exact HR0.out | (with_reducible refine Kd.C_alloc ?_ _) | (with_reducible refine Kd.C_drewN ?_ _) | (with_reducible refine Kd.C_drew ?_))); (case side2 => exact HC0.out); rintro e w47 ⟨rfl, hb⟩; have n0_ := Aside0.mk (below_step pb hb); clear HB; have HB := n0_; clear n0_; (try clear hb); (try clear hb2); (try clear hk); (try clear hi)) | (go_at_call 10; (with_reducible refine (halyardlaw18_awake.calls k  t436 _ A46.out).mono ?_); rintro e w48 ⟨rfl, hb⟩; have n0_ := Aside0.mk (below_step pb hb); clear HB; have HB := n0_; clear n0_; (try clear hb); (try clear hb2); (try clear hk); (try clear hi)))
    repeat (go_quiet (first | (go_at_call 9; (with_reducible refine (halyardlaw18_light.calls k _ _ l0 false _ ?side1 ?side2 A3.out).mono ?_); (case side1 => repeat (first | exact HR0.out | (with_reducible refine Kd.C_alloc ?_ _) | (with_reducible refine Kd.C_drewN ?_ _) | (with_reducible refine Kd.C_drew ?_))); (case side2 => exact HC0.out); rintro e w47 ⟨rfl, hb⟩; have n0_ := Aside0.mk (below_step pb hb); clear HB; have HB := n0_; clear n0_; (try clear hb); (try clear hb2); (try clear hk); (try clear hi)) | (go_at_call 10; (with_reducible refine (halyardlaw18_awake.calls k  t436 _ A46.out).mono ?_); rintro e w48 ⟨rfl, hb⟩; have n0_ := Aside0.mk (below_step pb hb); clear HB; have HB := n0_; clear n0_; (try clear hb); (try clear hb2); (try clear hk); (try clear hi))); try go_wp2_with (first | (go_at_call 9; (with_reducible refine (halyardlaw18_light.calls k _ _ l0 false _ ?side1 ?side2 A3.out).mono ?_); (case side1 => repeat (first | exact HR0.out | (with_reducible refine Kd.C_alloc ?_ _) | (with_reducible refine Kd.C_drewN ?_ _) | (with_reducible refine Kd.C_drew ?_))); (case side2 => exact HC0.out); rintro e w47 ⟨rfl, hb⟩; have n0_ := Aside0.mk (below_step pb hb); clear HB; have HB := n0_; clear n0_; (try clear hb); (try clear hb2); (try clear hk); (try clear hi)) | (go_at_call 10; (with_reducible refine (halyardlaw18_awake.calls k  t436 _ A46.out).mono ?_); rintro e w48 ⟨rfl, hb⟩; have n0_ := Aside0.mk (below_step pb hb); clear HB; have HB := n0_; clear n0_; (try clear hb); (try clear hb2); (try clear hk); (try clear hi))))
    go_ret
    exact ⟨by first | rfl | (simp [errW_none, errW_some] <;> rfl) | (simp [*, errW_none, errW_some] <;> rfl), pb⟩

end Go.Proofs.Ytnepbpcpfeejkaa.K
