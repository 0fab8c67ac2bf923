-- Printed by the prover's own turned printer (wip/printer in the prover's repo); Lean checks it.
import Derived.Test.YtnepbpcpfeejkaaK0
import Derived.Test.YtnepbpcpfeejkaaKf9
import Derived.Test.YtnepbpcpfeejkaaKf10
import Derived.Test.YtnepbpcpfeejkaaKf12
import Derived.Test.YtnepbpcpfeejkaaKf13
import Derived.Test.YtnepbpcpfeejkaaKf15
import Derived.Test.YtnepbpcpfeejkaaKf18
import Derived.Test.YtnepbpcpfeejkaaKf19
namespace Go.Proofs.Ytnepbpcpfeejkaa.K
open Go.RowKit Go.Proofs.YtnepbpcpfeejkaaW.PrintWords Go.Proofs.YtnepbpcpfeejkaaW.PrintLast Go.Proofs.YtnepbpcpfeejkaaW.PrintMore
attribute [local go_sem] max2_int min2_int max_two min_two max_three min_three max_four min_four   -- for this text's walks alone
set_option linter.unusedVariables false
set_option linter.unusedSimpArgs false

/-! ### halyardlaw18_SquashLives: function 6 -/
def halyardlaw18_SquashLives.j0 : Nat → List (S35) → Int → Int → Option (Bool)
  | 0, _, _, _ => none
  | k + 1, x0, x1, x2 => (halyardlaw18_sorted.f k x0).bind fun t389 => ((squash_Live.f k t389 x1 x2).bind fun bt392 => (if bt392.2 = 0 then ((halyardref9_Live.f k t389 x1 x2).bind fun t396 => ((halyardref2_SameEntries.f k bt392.1 t396).bind fun t399 => (if t399 = true then ((halyardlaw18_awake.f k).bind fun t400 => (some t400)) else (some false)))) else (some false)))
def halyardlaw18_SquashLives.f (k : Nat) (l0 : List (S35)) (a1 : Int) (a2 : Int) : Option (Bool) := (halyardlaw18_light.f k l0).bind fun t378 => (if t378 = true then ((squash_Live.f k l0 a1 a2).bind fun bt380 => ((halyardref9_Ordered.f k l0).bind fun t384 => (if t384 = true then (if bt380.2 = 0 then ((halyardref9_Live.f k l0 a1 a2).bind fun t385 => ((halyardref2_SameEntries.f k bt380.1 t385).bind fun t388 => (if t388 = true then (halyardlaw18_SquashLives.j0 k l0 a1 a2) else (some false)))) else (some false)) else (if bt380.2 = 11 then (if (bt380.1.length : Int) > 0 then (some false) else (halyardlaw18_SquashLives.j0 k l0 a1 a2)) else (some false))))) else ((halyardlaw18_awake.f k).bind fun t379 => (some t379)))
theorem halyardlaw18_SquashLives.mono_l : ∀ k, (∀ y0 y1 y2, LeO (halyardlaw18_SquashLives.j0 k y0 y1 y2) (halyardlaw18_SquashLives.j0 (k + 1) y0 y1 y2))
  | 0 => fun _ _ _ r h => by simp [halyardlaw18_SquashLives.j0] at h
  | k + 1 => by
    have ih0 := halyardlaw18_SquashLives.mono_l k
    · intro y0 y1 y2
      unfold halyardlaw18_SquashLives.j0
      repeat' first
      | (with_reducible exact ih0 _ _ _)
      | (with_reducible exact halyardlaw18_awake.mono _)
      | (with_reducible exact halyardlaw18_light.mono _ _)
      | (with_reducible exact halyardlaw18_sorted.mono _ _)
      | (with_reducible exact halyardref2_SameEntries.mono _ _ _)
      | (with_reducible exact halyardref9_Live.mono _ _ _ _)
      | (with_reducible exact halyardref9_Ordered.mono _ _)
      | (with_reducible exact squash_Live.mono _ _ _ _)
      | (with_reducible exact LeO.refl _)
      | (with_reducible exact LeO.none _)
      | (with_reducible refine LeO.ite ?_ ?_)
      | (with_reducible refine LeO.bind ?_ (fun _ => ?_))
      | exact ih0 _ _ _
      | exact halyardlaw18_awake.mono _
      | exact halyardlaw18_light.mono _ _
      | exact halyardlaw18_sorted.mono _ _
      | exact halyardref2_SameEntries.mono _ _ _
      | exact halyardref9_Live.mono _ _ _ _
      | exact halyardref9_Ordered.mono _ _
      | exact squash_Live.mono _ _ _ _
      | exact LeO.none _
      | refine LeO.ite ?_ ?_
      | refine LeO.bind ?_ (fun _ => ?_)
theorem halyardlaw18_SquashLives.mono : ∀ a0 a1 a2 k, LeO (halyardlaw18_SquashLives.f k a0 a1 a2) (halyardlaw18_SquashLives.f (k + 1) a0 a1 a2) := by
  intro a0 a1 a2 k
  have ih0 := halyardlaw18_SquashLives.mono_l k
  unfold halyardlaw18_SquashLives.f
  repeat' first
      | (with_reducible exact ih0 _ _ _)
      | (with_reducible exact halyardlaw18_awake.mono _)
      | (with_reducible exact halyardlaw18_light.mono _ _)
      | (with_reducible exact halyardlaw18_sorted.mono _ _)
      | (with_reducible exact halyardref2_SameEntries.mono _ _ _)
      | (with_reducible exact halyardref9_Live.mono _ _ _ _)
      | (with_reducible exact halyardref9_Ordered.mono _ _)
      | (with_reducible exact squash_Live.mono _ _ _ _)
      | (with_reducible exact LeO.refl _)
      | (with_reducible exact LeO.none _)
      | (with_reducible refine LeO.ite ?_ ?_)
      | (with_reducible refine LeO.bind ?_ (fun _ => ?_))
      | exact ih0 _ _ _
      | exact halyardlaw18_awake.mono _
      | exact halyardlaw18_light.mono _ _
      | exact halyardlaw18_sorted.mono _ _
      | exact halyardref2_SameEntries.mono _ _ _
      | exact halyardref9_Live.mono _ _ _ _
      | exact halyardref9_Ordered.mono _ _
      | exact squash_Live.mono _ _ _ _
      | exact LeO.none _
      | refine LeO.ite ?_ ?_
      | refine LeO.bind ?_ (fun _ => ?_)
set_option maxHeartbeats 8000000 in
set_option maxRecDepth 100000 in
theorem halyardlaw18_SquashLives.calls (k : Nat) (A0 : Option Addr) (c0 : Nat) (l0 : List (S35)) (a1 : Int) (a2 : Int) (r : Bool) (w : World) (hr0 : Kd.C k35 w A0 l0.length l0) (hc0 : l0.length ≤ c0) (h : halyardlaw18_SquashLives.f k l0 a1 a2 = some r) :
    Calls Try.prog 6 #[.slice A0 l0.length c0, .int .i64 a1, .int .i64 a2] w fun e w' => e = .returned (.bool r) ∧ Below w.heap.size w w' := by
  have HR0 := Aside0.mk hr0
  have HC0 := Aside0.mk hc0
  clear hr0 hc0
  have HB := Aside0.mk (Below.refl w.heap.size w)
  have H : ((halyardlaw18_light.f k l0).bind fun t378 => (if t378 = true then ((squash_Live.f k l0 a1 a2).bind fun bt380 => ((halyardref9_Ordered.f k l0).bind fun t384 => (if t384 = true then (if bt380.2 = 0 then ((halyardref9_Live.f k l0 a1 a2).bind fun t385 => ((halyardref2_SameEntries.f k bt380.1 t385).bind fun t388 => (if t388 = true then (halyardlaw18_SquashLives.j0 k l0 a1 a2) else (some false)))) else (some false)) else (if bt380.2 = 11 then (if (bt380.1.length : Int) > 0 then (some false) else (halyardlaw18_SquashLives.j0 k l0 a1 a2)) else (some false))))) else ((halyardlaw18_awake.f k).bind fun t379 => (some t379)))) = some r := h
  clear h
  replace H := Option.bind_eq_some_iff.mp H
  obtain ⟨t378, A40, H⟩ := H
  replace H : (if t378 = true then ((squash_Live.f k l0 a1 a2).bind fun bt380 => ((halyardref9_Ordered.f k l0).bind fun t384 => (if t384 = true then (if bt380.2 = 0 then ((halyardref9_Live.f k l0 a1 a2).bind fun t385 => ((halyardref2_SameEntries.f k bt380.1 t385).bind fun t388 => (if t388 = true then (halyardlaw18_SquashLives.j0 k l0 a1 a2) else (some false)))) else (some false)) else (if bt380.2 = 11 then (if (bt380.1.length : Int) > 0 then (some false) else (halyardlaw18_SquashLives.j0 k l0 a1 a2)) else (some false))))) else ((halyardlaw18_awake.f k).bind fun t379 => (some t379))) = some r := H
  have A4 := Aside0.mk A40
  clear A40
  by_cases c5 : t378 = true
  · subst c5
    have H1 : ((squash_Live.f k l0 a1 a2).bind fun bt380 => ((halyardref9_Ordered.f k l0).bind fun t384 => (if t384 = true then (if bt380.2 = 0 then ((halyardref9_Live.f k l0 a1 a2).bind fun t385 => ((halyardref2_SameEntries.f k bt380.1 t385).bind fun t388 => (if t388 = true then (halyardlaw18_SquashLives.j0 k l0 a1 a2) else (some false)))) else (some false)) else (if bt380.2 = 11 then (if (bt380.1.length : Int) > 0 then (some false) else (halyardlaw18_SquashLives.j0 k l0 a1 a2)) else (some false))))) = some r := by rw [if_pos rfl] at H; exact H
    clear H
    have H := H1
    clear H1
    replace H := Option.bind_eq_some_iff.mp H
    obtain ⟨⟨t380, t383⟩, A60, H⟩ := H
    replace H : ((halyardref9_Ordered.f k l0).bind fun t384 => (if t384 = true then (if t383 = 0 then ((halyardref9_Live.f k l0 a1 a2).bind fun t385 => ((halyardref2_SameEntries.f k t380 t385).bind fun t388 => (if t388 = true then (halyardlaw18_SquashLives.j0 k l0 a1 a2) else (some false)))) else (some false)) else (if t383 = 11 then (if (t380.length : Int) > 0 then (some false) else (halyardlaw18_SquashLives.j0 k l0 a1 a2)) else (some false)))) = some r := H
    have A6 := Aside0.mk A60
    clear A60
    replace H := Option.bind_eq_some_iff.mp H
    obtain ⟨t384, A70, H⟩ := H
    replace H : (if t384 = true then (if t383 = 0 then ((halyardref9_Live.f k l0 a1 a2).bind fun t385 => ((halyardref2_SameEntries.f k t380 t385).bind fun t388 => (if t388 = true then (halyardlaw18_SquashLives.j0 k l0 a1 a2) else (some false)))) else (some false)) else (if t383 = 11 then (if (t380.length : Int) > 0 then (some false) else (halyardlaw18_SquashLives.j0 k l0 a1 a2)) else (some false))) = some r := H
    have A7 := Aside0.mk A70
    clear A70
    have HC8 := Aside0.mk H
    clear H
    go_enter Try.func6, Try.ntmps6
    go_upto_if 25 with (first | ((with_reducible refine gate_callee (f := 9) rfl ?_); refine goesL_ (some 13) rfl rfl Try.func9 (by kernel_rfl) rfl #[.slice A0 l0.length c0] rfl pm ?_; (with_reducible refine (halyardlaw18_light.calls k _ _ l0 true _ ?side1 ?side2 A4.out).mono ?_); (case side1 => repeat (first | exact HR0.out | (with_reducible refine Kd.C_alloc ?_ _) | (with_reducible refine Kd.C_drewN ?_ _) | (with_reducible refine Kd.C_drew ?_))); (case side2 => exact HC0.out); rintro e w9 ⟨rfl, hb⟩; refine ⟨_, rfl, ?_⟩; have n0_ := Aside0.mk (below_step pb hb); clear HB; have HB := n0_; clear n0_; (try clear hb); (try clear hb2); (try clear hk); (try clear hi)) | ((with_reducible refine gate_callee (f := 18) rfl ?_); refine goesL_ (some 20) rfl rfl Try.func18 (by kernel_rfl) rfl #[.slice A0 l0.length c0, .int .i64 a1, .int .i64 a2] rfl pm ?_; (with_reducible refine (squash_Live.calls k (fun k_ => k_ < w.heap.size) _ _ l0 a1 a2 t380 t383 _ ?side1 A6.out).mono ?_); (case side1 => exact Kd.V_mk HC0.out (Kd.F_below (Kd.C_F k35_heap HR0.out) pb)); rintro e w10 ⟨v381, rfl, ho0, hb⟩; replace ho0 := Kd.S_N ho0; refine ⟨_, rfl, ?_⟩; have n0_ := Aside0.mk (Kd.N_lower (Kd.N_mono (ok' := fun k_ => True) ho0 (fun k_ hk_ => trivial)) (below_size pb)); have n1_ := Aside0.mk (below_step pb hb); clear HB; have HO382 := n0_; have HB := n1_; clear n0_ n1_; (try clear hb); (try clear hb2); (try clear hk); (try clear hi); (try clear ho0)) | ((with_reducible refine gate_callee (f := 12) rfl ?_); refine goesL_ (some 24) rfl rfl Try.func12 (by kernel_rfl) rfl #[.slice A0 l0.length c0] rfl pm ?_; (with_reducible refine (halyardref9_Ordered.calls k _ _ l0 t384 _ ?side1 ?side2 A7.out).mono ?_); (case side1 => repeat (first | exact (Kd.C_below HR0.out HB.out) | (with_reducible refine Kd.C_alloc ?_ _) | (with_reducible refine Kd.C_drewN ?_ _) | (with_reducible refine Kd.C_drew ?_))); (case side2 => exact HC0.out); rintro e w11 ⟨rfl, hb⟩; refine ⟨_, rfl, ?_⟩; have n0_ := Aside0.mk (Kd.N_below (by (with_reducible repeat (first | apply Kd.N_alloc | apply Kd.N_drewN | apply Kd.N_drew)); exact HO382.out) hb); have n1_ := Aside0.mk (below_step pb hb); clear HO382; clear HB; have HO382 := n0_; have HB := n1_; clear n0_ n1_; (try clear hb); (try clear hb2); (try clear hk); (try clear hi)))
    (try simp only [Act.put, List.setIfInBounds_toArray, List.set_cons_zero, List.set_cons_succ])
    go_cut [] (fun wc => ∃ (kq : Nat), Aside0 (halyardlaw18_SquashLives.j0 kq l0 a1 a2 = some r) ∧ Aside0 (kq ≤ k) ∧ Aside0 (Below w.heap.size w wc))
    case first =>
      have H := HC8.out
      clear HC8
      by_cases c12 : t384 = true
      · subst c12
        have H1 : (if t383 = 0 then ((halyardref9_Live.f k l0 a1 a2).bind fun t385 => ((halyardref2_SameEntries.f k t380 t385).bind fun t388 => (if t388 = true then (halyardlaw18_SquashLives.j0 k l0 a1 a2) else (some false)))) else (some false)) = some r := by rw [if_pos rfl] at H; exact H
        clear H
        have H := H1
        clear H1
        by_cases c13 : t383 = 0
        · rw [if_pos c13] at H
          have c13b0 : (t383 == 0) = true := beq_iff_eq.mpr c13
          have c13b1 : (t383 != 0) = false := bne_eq_false_iff_eq.mpr c13
          clear c13
          (first | rw [c13b0] | (simp only [i64_w, i32_w]; rw [c13b0]) | skip)
          replace H := Option.bind_eq_some_iff.mp H
          obtain ⟨t385, A140, H⟩ := H
          replace H : ((halyardref2_SameEntries.f k t380 t385).bind fun t388 => (if t388 = true then (halyardlaw18_SquashLives.j0 k l0 a1 a2) else (some false))) = some r := H
          have A14 := Aside0.mk A140
          clear A140
          replace H := Option.bind_eq_some_iff.mp H
          obtain ⟨t388, A150, H⟩ := H
          replace H : (if t388 = true then (halyardlaw18_SquashLives.j0 k l0 a1 a2) else (some false)) = some r := H
          have A15 := Aside0.mk A150
          clear A150
          by_cases c16 : t388 = true
          · subst c16
            have H1 : (halyardlaw18_SquashLives.j0 k l0 a1 a2) = some r := by rw [if_pos rfl] at H; exact H
            clear H
            have H := H1
            clear H1
            have H' := Aside0.mk H
            clear H
            go_wp2_with (first | (go_at_call 19; (with_reducible refine (halyardref9_Live.calls k (fun k_ => k_ < w.heap.size) _ _ l0 a1 a2 t385 _ ?side1 A14.out).mono ?_); (case side1 => exact Kd.V_mk HC0.out (Kd.F_below (Kd.C_F k35_heap HR0.out) pb)); rintro e w17 ⟨v386, rfl, ho0, hb⟩; have n0_ := Aside0.mk (Kd.N_elder' (by (with_reducible repeat (first | apply Kd.N_alloc | apply Kd.N_drewN | apply Kd.N_drew)); exact HO382.out) (by first | exact Kd.N_base ho0 | exact Kd.S_base ho0) hb); have n1_ := Aside0.mk (Kd.N_lower (Kd.N_mono (ok' := fun k_ => some k_ ≠ (v381 : Value).ownBlock) ho0 (fun k_ hk_ => Or.elim hk_ (fun hs_ => fun e_ => Nat.not_le.2 hs_ (Kd.N_base HO382.out k_ e_.symm)) (fun hn_ => (Kd.fresh' (Kd.N_lt (by (with_reducible repeat (first | apply Kd.N_alloc | apply Kd.N_drewN | apply Kd.N_drew)); exact HO382.out)) k_ hn_)))) (below_size pb)); have n2_ := Aside0.mk (below_step pb hb); clear HO382; clear HB; have HO382 := n0_; have HO387 := n1_; have HB := n2_; clear n0_ n1_ n2_; (try clear hb); (try clear hb2); (try clear hk); (try clear hi); (try clear ho0); obtain ⟨Ao18, co18, eo18⟩ := Kd.N_slice HO382.out; subst eo18; obtain ⟨Ao19, co19, eo19⟩ := Kd.N_slice HO387.out; subst eo19) | (go_at_call 13; (with_reducible refine (halyardref2_SameEntries.calls k _ _ t380 _ _ t385 true _ ?side1 ?side2 ?side3 ?side4 A15.out).mono ?_); (case side1 => repeat (first | exact (Kd.N_reads' HO382.out).2.2 | (with_reducible refine Kd.C_alloc ?_ _) | (with_reducible refine Kd.C_drewN ?_ _) | (with_reducible refine Kd.C_drew ?_))); (case side2 => exact (Kd.N_reads' HO382.out).2.1); (case side3 => repeat (first | exact (Kd.N_reads' HO387.out).2.2 | (with_reducible refine Kd.C_alloc ?_ _) | (with_reducible refine Kd.C_drewN ?_ _) | (with_reducible refine Kd.C_drew ?_))); (case side4 => exact (Kd.N_reads' HO387.out).2.1); rintro e w20 ⟨rfl, hb⟩; have n0_ := Aside0.mk (Kd.N_below (by (with_reducible repeat (first | apply Kd.N_alloc | apply Kd.N_drewN | apply Kd.N_drew)); exact HO382.out) hb); have n1_ := Aside0.mk (Kd.N_below (by (with_reducible repeat (first | apply Kd.N_alloc | apply Kd.N_drewN | apply Kd.N_drew)); exact HO387.out) hb); have n2_ := Aside0.mk (below_step pb hb); clear HO382; clear HO387; clear HB; have HO382 := n0_; have HO387 := n1_; have HB := n2_; clear n0_ n1_ n2_; (try clear hb); (try clear hb2); (try clear hk); (try clear hi)))
            go_meet
            case rel => exact ⟨_, H', ⟨by first | omega | exact Nat.le_refl _⟩, ⟨pb⟩⟩
          · replace c16 := Bool.eq_false_iff.mpr c16
            subst c16
            have H1 : (some false) = some r := by rw [if_neg (show ¬ (false = true) by decide)] at H; exact H
            clear H
            have H := H1
            clear H1
            obtain rfl := Option.some.inj H
            go_wp2_with (first | (go_at_call 19; (with_reducible refine (halyardref9_Live.calls k (fun k_ => k_ < w.heap.size) _ _ l0 a1 a2 t385 _ ?side1 A14.out).mono ?_); (case side1 => exact Kd.V_mk HC0.out (Kd.F_below (Kd.C_F k35_heap HR0.out) pb)); rintro e w21 ⟨v386, rfl, ho0, hb⟩; have n0_ := Aside0.mk (Kd.N_elder' (by (with_reducible repeat (first | apply Kd.N_alloc | apply Kd.N_drewN | apply Kd.N_drew)); exact HO382.out) (by first | exact Kd.N_base ho0 | exact Kd.S_base ho0) hb); have n1_ := Aside0.mk (Kd.N_lower (Kd.N_mono (ok' := fun k_ => some k_ ≠ (v381 : Value).ownBlock) ho0 (fun k_ hk_ => Or.elim hk_ (fun hs_ => fun e_ => Nat.not_le.2 hs_ (Kd.N_base HO382.out k_ e_.symm)) (fun hn_ => (Kd.fresh' (Kd.N_lt (by (with_reducible repeat (first | apply Kd.N_alloc | apply Kd.N_drewN | apply Kd.N_drew)); exact HO382.out)) k_ hn_)))) (below_size pb)); have n2_ := Aside0.mk (below_step pb hb); clear HO382; clear HB; have HO382 := n0_; have HO387 := n1_; have HB := n2_; clear n0_ n1_ n2_; (try clear hb); (try clear hb2); (try clear hk); (try clear hi); (try clear ho0); obtain ⟨Ao22, co22, eo22⟩ := Kd.N_slice HO382.out; subst eo22; obtain ⟨Ao23, co23, eo23⟩ := Kd.N_slice HO387.out; subst eo23) | (go_at_call 13; (with_reducible refine (halyardref2_SameEntries.calls k _ _ t380 _ _ t385 false _ ?side1 ?side2 ?side3 ?side4 A15.out).mono ?_); (case side1 => repeat (first | exact (Kd.N_reads' HO382.out).2.2 | (with_reducible refine Kd.C_alloc ?_ _) | (with_reducible refine Kd.C_drewN ?_ _) | (with_reducible refine Kd.C_drew ?_))); (case side2 => exact (Kd.N_reads' HO382.out).2.1); (case side3 => repeat (first | exact (Kd.N_reads' HO387.out).2.2 | (with_reducible refine Kd.C_alloc ?_ _) | (with_reducible refine Kd.C_drewN ?_ _) | (with_reducible refine Kd.C_drew ?_))); (case side4 => exact (Kd.N_reads' HO387.out).2.1); rintro e w24 ⟨rfl, hb⟩; have n0_ := Aside0.mk (Kd.N_below (by (with_reducible repeat (first | apply Kd.N_alloc | apply Kd.N_drewN | apply Kd.N_drew)); exact HO382.out) hb); have n1_ := Aside0.mk (Kd.N_below (by (with_reducible repeat (first | apply Kd.N_alloc | apply Kd.N_drewN | apply Kd.N_drew)); exact HO387.out) hb); have n2_ := Aside0.mk (below_step pb hb); clear HO382; clear HO387; clear HB; have HO382 := n0_; have HO387 := n1_; have HB := n2_; clear n0_ n1_ n2_; (try clear hb); (try clear hb2); (try clear hk); (try clear hi)))
            go_ret
            exact ⟨by first | rfl | (simp [errW_none, errW_some] <;> rfl) | (simp [*, errW_none, errW_some] <;> rfl), pb⟩
        · rw [if_neg c13] at H
          have c13b0 : (t383 == 0) = false := beq_eq_false_iff_ne.mpr c13
          have c13b1 : (t383 != 0) = true := bne_iff_ne.mpr c13
          (first | rw [c13b0] | (simp only [i64_w, i32_w]; rw [c13b0]) | skip)
          obtain rfl := Option.some.inj H
          go_wp2
          go_ret
          exact ⟨by first | rfl | (simp [errW_none, errW_some] <;> rfl) | (simp [*, errW_none, errW_some] <;> rfl), pb⟩
      · replace c12 := Bool.eq_false_iff.mpr c12
        subst c12
        have H1 : (if t383 = 11 then (if (t380.length : Int) > 0 then (some false) else (halyardlaw18_SquashLives.j0 k l0 a1 a2)) else (some false)) = some r := by rw [if_neg (show ¬ (false = true) by decide)] at H; exact H
        clear H
        have H := H1
        clear H1
        by_cases c25 : t383 = 11
        · rw [if_pos c25] at H
          have c25b0 : (t383 == 11) = true := beq_iff_eq.mpr c25
          have c25b1 : (t383 != 11) = false := bne_eq_false_iff_eq.mpr c25
          clear c25
          by_cases c26 : (t380.length : Int) > 0
          · rw [if_pos c26] at H
            have c26b0 : decide (0 < (t380.length : Int)) = true := decide_eq_true c26
            have c26b1 : decide (0 < t380.length) = true := decide_eq_true (by omega)
            clear c26
            obtain rfl := Option.some.inj H
            obtain ⟨Ao27, co27, eo27⟩ := Kd.N_slice HO382.out
            subst eo27
            go_wp2
            go_ret
            exact ⟨by first | rfl | (simp [errW_none, errW_some] <;> rfl) | (simp [*, errW_none, errW_some] <;> rfl), pb⟩
          · rw [if_neg c26] at H
            have c26b0 : decide (0 < (t380.length : Int)) = false := decide_eq_false c26
            have c26b1 : decide (0 < t380.length) = false := decide_eq_false (by omega)
            clear c26
            have H' := Aside0.mk H
            clear H
            obtain ⟨Ao28, co28, eo28⟩ := Kd.N_slice HO382.out
            subst eo28
            go_wp2
            go_meet
            case rel => exact ⟨_, H', ⟨by first | omega | exact Nat.le_refl _⟩, ⟨pb⟩⟩
        · rw [if_neg c25] at H
          have c25b0 : (t383 == 11) = false := beq_eq_false_iff_ne.mpr c25
          have c25b1 : (t383 != 11) = true := bne_iff_ne.mpr c25
          obtain rfl := Option.some.inj H
          go_wp2
          go_ret
          exact ⟨by first | rfl | (simp [errW_none, errW_some] <;> rfl) | (simp [*, errW_none, errW_some] <;> rfl), pb⟩
    case rest =>
      clear HC8
      try clear c1
      try clear c2
      try clear p2
      try clear c5
      try clear c6
      try clear c9
      try clear c12
      try clear c13
      try clear c13b0
      try clear c13b1
      try clear c16
      try clear c18
      try clear c25
      try clear c25b0
      try clear c25b1
      try clear c26
      try clear c26b0
      try clear c26b1
      obtain ⟨kq, HA, HJ7, HB⟩ := hcut
      cases kq with
      | zero => exact absurd HA.out (by simp [halyardlaw18_SquashLives.j0])
      | succ kj7 =>
        have H := HA.out
        clear HA
        simp only [halyardlaw18_SquashLives.j0] at H
        replace H := Option.bind_eq_some_iff.mp H
        obtain ⟨t389, A290, H⟩ := H
        replace H : ((squash_Live.f kj7 t389 a1 a2).bind fun bt392 => (if bt392.2 = 0 then ((halyardref9_Live.f kj7 t389 a1 a2).bind fun t396 => ((halyardref2_SameEntries.f kj7 bt392.1 t396).bind fun t399 => (if t399 = true then ((halyardlaw18_awake.f kj7).bind fun t400 => (some t400)) else (some false)))) else (some false))) = some r := H
        have A29 := Aside0.mk A290
        clear A290
        replace H := Option.bind_eq_some_iff.mp H
        obtain ⟨⟨t392, t395⟩, A300, H⟩ := H
        replace H : (if t395 = 0 then ((halyardref9_Live.f kj7 t389 a1 a2).bind fun t396 => ((halyardref2_SameEntries.f kj7 t392 t396).bind fun t399 => (if t399 = true then ((halyardlaw18_awake.f kj7).bind fun t400 => (some t400)) else (some false)))) else (some false)) = some r := H
        have A30 := Aside0.mk A300
        clear A300
        by_cases c31 : t395 = 0
        · rw [if_pos c31] at H
          have c31b0 : (t395 == 0) = true := beq_iff_eq.mpr c31
          have c31b1 : (t395 != 0) = false := bne_eq_false_iff_eq.mpr c31
          clear c31
          replace H := Option.bind_eq_some_iff.mp H
          obtain ⟨t396, A320, H⟩ := H
          replace H : ((halyardref2_SameEntries.f kj7 t392 t396).bind fun t399 => (if t399 = true then ((halyardlaw18_awake.f kj7).bind fun t400 => (some t400)) else (some false))) = some r := H
          have A32 := Aside0.mk A320
          clear A320
          replace H := Option.bind_eq_some_iff.mp H
          obtain ⟨t399, A330, H⟩ := H
          replace H : (if t399 = true then ((halyardlaw18_awake.f kj7).bind fun t400 => (some t400)) else (some false)) = some r := H
          have A33 := Aside0.mk A330
          clear A330
          by_cases c34 : t399 = true
          · subst c34
            have H1 : ((halyardlaw18_awake.f kj7).bind fun t400 => (some t400)) = some r := by rw [if_pos rfl] at H; exact H
            clear H
            have H := H1
            clear H1
            replace H := Option.bind_eq_some_iff.mp H
            obtain ⟨t400, A350, H⟩ := H
            replace H : (some t400) = some r := H
            have A35 := Aside0.mk A350
            clear A350
            obtain rfl := Option.some.inj H
            go_wp2_with (first | ((with_reducible refine gate_callee (f := 15) rfl ?_); refine goesL_ (some 45) rfl rfl Try.func15 (by kernel_rfl) rfl #[.slice A0 l0.length c0] rfl pm ?_; (with_reducible refine (halyardlaw18_sorted.calls kj7 (fun k_ => k_ < w.heap.size) _ _ l0 t389 _ ?side1 A29.out).mono ?_); (case side1 => exact Kd.V_mk HC0.out (Kd.F_below (Kd.C_F k35_heap HR0.out) pb)); rintro e w36 ⟨v390, rfl, ho0, hb⟩; refine ⟨_, rfl, ?_⟩; have n0_ := Aside0.mk (Kd.V_lower (Kd.V_mono (ok' := fun k_ => True) ho0 (fun k_ hk_ => trivial)) (below_size pb)); have n1_ := Aside0.mk (below_step pb hb); clear HB; have HO391 := n0_; have HB := n1_; clear n0_ n1_; (try clear hb); (try clear hb2); (try clear hk); (try clear hi); (try clear ho0); obtain ⟨Ao37, co37, eo37⟩ := Kd.V_slice HO391.out; subst eo37) | ((with_reducible refine gate_callee (f := 18) rfl ?_); refine goesL_ (some 50) rfl rfl Try.func18 (by kernel_rfl) rfl #[.slice Ao37 t389.length co37, .int .i64 a1, .int .i64 a2] rfl pm ?_; (with_reducible refine (squash_Live.calls kj7 (fun k_ => True) _ _ t389 a1 a2 t392 t395 _ ?side1 A30.out).mono ?_); (case side1 => exact HO391.out); rintro e w38 ⟨v393, rfl, ho0, hb⟩; replace ho0 := Kd.N_mono (ok' := fun k_ => True ∨ _ ≤ k_) (Kd.S_N ho0) (fun k_ hk_ => .inr hk_); refine ⟨_, rfl, ?_⟩; have n0_ := Aside0.mk (Kd.V_elder' (by (with_reducible repeat (first | apply Kd.V_alloc | apply Kd.V_drewN | apply Kd.V_drew)); exact HO391.out) (by first | exact Kd.N_base ho0 | exact Kd.S_base ho0) hb); have n1_ := Aside0.mk (Kd.N_lower (Kd.N_mono (ok' := fun k_ => True) ho0 (fun k_ hk_ => trivial)) (below_size pb)); have n2_ := Aside0.mk (below_step pb hb); clear HO391; clear HB; have HO391 := n0_; have HO394 := n1_; have HB := n2_; clear n0_ n1_ n2_; (try clear hb); (try clear hb2); (try clear hk); (try clear hi); (try clear ho0)) | (go_at_call 19; (with_reducible refine (halyardref9_Live.calls kj7 (fun k_ => (True ∧ some k_ ≠ (v393 : Value).ownBlock)) _ _ t389 a1 a2 t396 _ ?side1 A32.out).mono ?_); (case side1 => exact HO391.out); rintro e w39 ⟨v397, rfl, ho0, hb⟩; have n0_ := Aside0.mk (Kd.V_elder' (by (with_reducible repeat (first | apply Kd.V_alloc | apply Kd.V_drewN | apply Kd.V_drew)); exact HO391.out) (by first | exact Kd.N_base ho0 | exact Kd.S_base ho0) hb); have n1_ := Aside0.mk (Kd.N_elder' (by (with_reducible repeat (first | apply Kd.N_alloc | apply Kd.N_drewN | apply Kd.N_drew)); exact HO394.out) (by first | exact Kd.N_base ho0 | exact Kd.S_base ho0) hb); have n2_ := Aside0.mk (Kd.N_lower (Kd.N_mono (ok' := fun k_ => some k_ ≠ (v393 : Value).ownBlock) ho0 (fun k_ hk_ => Or.elim hk_ (fun hs_ => hs_.2) (fun hn_ => (Kd.fresh' (Kd.N_lt (by (with_reducible repeat (first | apply Kd.N_alloc | apply Kd.N_drewN | apply Kd.N_drew)); exact HO394.out)) k_ hn_)))) (below_size pb)); have n3_ := Aside0.mk (below_step pb hb); clear HO391; clear HO394; clear HB; have HO391 := n0_; have HO394 := n1_; have HO398 := n2_; have HB := n3_; clear n0_ n1_ n2_ n3_; (try clear hb); (try clear hb2); (try clear hk); (try clear hi); (try clear ho0); obtain ⟨Ao40, co40, eo40⟩ := Kd.N_slice HO394.out; subst eo40; obtain ⟨Ao41, co41, eo41⟩ := Kd.N_slice HO398.out; subst eo41) | (go_at_call 13; (with_reducible refine (halyardref2_SameEntries.calls kj7 _ _ t392 _ _ t396 true _ ?side1 ?side2 ?side3 ?side4 A33.out).mono ?_); (case side1 => repeat (first | exact (Kd.N_reads' HO394.out).2.2 | (with_reducible refine Kd.C_alloc ?_ _) | (with_reducible refine Kd.C_drewN ?_ _) | (with_reducible refine Kd.C_drew ?_))); (case side2 => exact (Kd.N_reads' HO394.out).2.1); (case side3 => repeat (first | exact (Kd.N_reads' HO398.out).2.2 | (with_reducible refine Kd.C_alloc ?_ _) | (with_reducible refine Kd.C_drewN ?_ _) | (with_reducible refine Kd.C_drew ?_))); (case side4 => exact (Kd.N_reads' HO398.out).2.1); rintro e w42 ⟨rfl, hb⟩; have n0_ := Aside0.mk (Kd.V_below (by (with_reducible repeat (first | apply Kd.V_alloc | apply Kd.V_drewN | apply Kd.V_drew)); exact HO391.out) hb); have n1_ := Aside0.mk (Kd.N_below (by (with_reducible repeat (first | apply Kd.N_alloc | apply Kd.N_drewN | apply Kd.N_drew)); exact HO394.out) hb); have n2_ := Aside0.mk (Kd.N_below (by (with_reducible repeat (first | apply Kd.N_alloc | apply Kd.N_drewN | apply Kd.N_drew)); exact HO398.out) hb); have n3_ := Aside0.mk (below_step pb hb); clear HO391; clear HO394; clear HO398; clear HB; have HO391 := n0_; have HO394 := n1_; have HO398 := n2_; have HB := n3_; clear n0_ n1_ n2_ n3_; (try clear hb); (try clear hb2); (try clear hk); (try clear hi)) | (go_at_call 10; (with_reducible refine (halyardlaw18_awake.calls kj7  t400 _ A35.out).mono ?_); rintro e w43 ⟨rfl, hb⟩; have n0_ := Aside0.mk (Kd.V_below (by (with_reducible repeat (first | apply Kd.V_alloc | apply Kd.V_drewN | apply Kd.V_drew)); exact HO391.out) hb); have n1_ := Aside0.mk (Kd.N_below (by (with_reducible repeat (first | apply Kd.N_alloc | apply Kd.N_drewN | apply Kd.N_drew)); exact HO394.out) hb); have n2_ := Aside0.mk (Kd.N_below (by (with_reducible repeat (first | apply Kd.N_alloc | apply Kd.N_drewN | apply Kd.N_drew)); exact HO398.out) hb); have n3_ := Aside0.mk (below_step pb hb); clear HO391; clear HO394; clear HO398; clear HB; have HO391 := n0_; have HO394 := n1_; have HO398 := n2_; have HB := n3_; clear n0_ n1_ n2_ n3_; (try clear hb); (try clear hb2); (try clear hk); (try clear hi)))
            go_ret
            exact ⟨by first | rfl | (simp [errW_none, errW_some] <;> rfl) | (simp [*, errW_none, errW_some] <;> rfl), pb⟩
          · replace c34 := Bool.eq_false_iff.mpr c34
            subst c34
            have H1 : (some false) = some r := by rw [if_neg (show ¬ (false = true) by decide)] at H; exact H
            clear H
            have H := H1
            clear H1
            obtain rfl := Option.some.inj H
            go_wp2_with (first | ((with_reducible refine gate_callee (f := 15) rfl ?_); refine goesL_ (some 45) rfl rfl Try.func15 (by kernel_rfl) rfl #[.slice A0 l0.length c0] rfl pm ?_; (with_reducible refine (halyardlaw18_sorted.calls kj7 (fun k_ => k_ < w.heap.size) _ _ l0 t389 _ ?side1 A29.out).mono ?_); (case side1 => exact Kd.V_mk HC0.out (Kd.F_below (Kd.C_F k35_heap HR0.out) pb)); rintro e w44 ⟨v390, rfl, ho0, hb⟩; refine ⟨_, rfl, ?_⟩; have n0_ := Aside0.mk (Kd.V_lower (Kd.V_mono (ok' := fun k_ => True) ho0 (fun k_ hk_ => trivial)) (below_size pb)); have n1_ := Aside0.mk (below_step pb hb); clear HB; have HO391 := n0_; have HB := n1_; clear n0_ n1_; (try clear hb); (try clear hb2); (try clear hk); (try clear hi); (try clear ho0); obtain ⟨Ao45, co45, eo45⟩ := Kd.V_slice HO391.out; subst eo45) | ((with_reducible refine gate_callee (f := 18) rfl ?_); refine goesL_ (some 50) rfl rfl Try.func18 (by kernel_rfl) rfl #[.slice Ao45 t389.length co45, .int .i64 a1, .int .i64 a2] rfl pm ?_; (with_reducible refine (squash_Live.calls kj7 (fun k_ => True) _ _ t389 a1 a2 t392 t395 _ ?side1 A30.out).mono ?_); (case side1 => exact HO391.out); rintro e w46 ⟨v393, rfl, ho0, hb⟩; replace ho0 := Kd.N_mono (ok' := fun k_ => True ∨ _ ≤ k_) (Kd.S_N ho0) (fun k_ hk_ => .inr hk_); refine ⟨_, rfl, ?_⟩; have n0_ := Aside0.mk (Kd.V_elder' (by (with_reducible repeat (first | apply Kd.V_alloc | apply Kd.V_drewN | apply Kd.V_drew)); exact HO391.out) (by first | exact Kd.N_base ho0 | exact Kd.S_base ho0) hb); have n1_ := Aside0.mk (Kd.N_lower (Kd.N_mono (ok' := fun k_ => True) ho0 (fun k_ hk_ => trivial)) (below_size pb)); have n2_ := Aside0.mk (below_step pb hb); clear HO391; clear HB; have HO391 := n0_; have HO394 := n1_; have HB := n2_; clear n0_ n1_ n2_; (try clear hb); (try clear hb2); (try clear hk); (try clear hi); (try clear ho0)) | (go_at_call 19; (with_reducible refine (halyardref9_Live.calls kj7 (fun k_ => (True ∧ some k_ ≠ (v393 : Value).ownBlock)) _ _ t389 a1 a2 t396 _ ?side1 A32.out).mono ?_); (case side1 => exact HO391.out); rintro e w47 ⟨v397, rfl, ho0, hb⟩; have n0_ := Aside0.mk (Kd.V_elder' (by (with_reducible repeat (first | apply Kd.V_alloc | apply Kd.V_drewN | apply Kd.V_drew)); exact HO391.out) (by first | exact Kd.N_base ho0 | exact Kd.S_base ho0) hb); have n1_ := Aside0.mk (Kd.N_elder' (by (with_reducible repeat (first | apply Kd.N_alloc | apply Kd.N_drewN | apply Kd.N_drew)); exact HO394.out) (by first | exact Kd.N_base ho0 | exact Kd.S_base ho0) hb); have n2_ := Aside0.mk (Kd.N_lower (Kd.N_mono (ok' := fun k_ => some k_ ≠ (v393 : Value).ownBlock) ho0 (fun k_ hk_ => Or.elim hk_ (fun hs_ => hs_.2) (fun hn_ => (Kd.fresh' (Kd.N_lt (by (with_reducible repeat (first | apply Kd.N_alloc | apply Kd.N_drewN | apply Kd.N_drew)); exact HO394.out)) k_ hn_)))) (below_size pb)); have n3_ := Aside0.mk (below_step pb hb); clear HO391; clear HO394; clear HB; have HO391 := n0_; have HO394 := n1_; have HO398 := n2_; have HB := n3_; clear n0_ n1_ n2_ n3_; (try clear hb); (try clear hb2); (try clear hk); (try clear hi); (try clear ho0); obtain ⟨Ao48, co48, eo48⟩ := Kd.N_slice HO394.out; subst eo48; obtain ⟨Ao49, co49, eo49⟩ := Kd.N_slice HO398.out; subst eo49) | (go_at_call 13; (with_reducible refine (halyardref2_SameEntries.calls kj7 _ _ t392 _ _ t396 false _ ?side1 ?side2 ?side3 ?side4 A33.out).mono ?_); (case side1 => repeat (first | exact (Kd.N_reads' HO394.out).2.2 | (with_reducible refine Kd.C_alloc ?_ _) | (with_reducible refine Kd.C_drewN ?_ _) | (with_reducible refine Kd.C_drew ?_))); (case side2 => exact (Kd.N_reads' HO394.out).2.1); (case side3 => repeat (first | exact (Kd.N_reads' HO398.out).2.2 | (with_reducible refine Kd.C_alloc ?_ _) | (with_reducible refine Kd.C_drewN ?_ _) | (with_reducible refine Kd.C_drew ?_))); (case side4 => exact (Kd.N_reads' HO398.out).2.1); rintro e w50 ⟨rfl, hb⟩; have n0_ := Aside0.mk (Kd.V_below (by (with_reducible repeat (first | apply Kd.V_alloc | apply Kd.V_drewN | apply Kd.V_drew)); exact HO391.out) hb); have n1_ := Aside0.mk (Kd.N_below (by (with_reducible repeat (first | apply Kd.N_alloc | apply Kd.N_drewN | apply Kd.N_drew)); exact HO394.out) hb); have n2_ := Aside0.mk (Kd.N_below (by (with_reducible repeat (first | apply Kd.N_alloc | apply Kd.N_drewN | apply Kd.N_drew)); exact HO398.out) hb); have n3_ := Aside0.mk (below_step pb hb); clear HO391; clear HO394; clear HO398; clear HB; have HO391 := n0_; have HO394 := n1_; have HO398 := n2_; have HB := n3_; clear n0_ n1_ n2_ n3_; (try clear hb); (try clear hb2); (try clear hk); (try clear hi)))
            go_ret
            exact ⟨by first | rfl | (simp [errW_none, errW_some] <;> rfl) | (simp [*, errW_none, errW_some] <;> rfl), pb⟩
        · rw [if_neg c31] at H
          have c31b0 : (t395 == 0) = false := beq_eq_false_iff_ne.mpr c31
          have c31b1 : (t395 != 0) = true := bne_iff_ne.mpr c31
          obtain rfl := Option.some.inj H
          go_wp2_with (first | ((with_reducible refine gate_callee (f := 15) rfl ?_); refine goesL_ (some 45) rfl rfl Try.func15 (by kernel_rfl) rfl #[.slice A0 l0.length c0] rfl pm ?_; (with_reducible refine (halyardlaw18_sorted.calls kj7 (fun k_ => k_ < w.heap.size) _ _ l0 t389 _ ?side1 A29.out).mono ?_); (case side1 => exact Kd.V_mk HC0.out (Kd.F_below (Kd.C_F k35_heap HR0.out) pb)); rintro e w51 ⟨v390, rfl, ho0, hb⟩; refine ⟨_, rfl, ?_⟩; have n0_ := Aside0.mk (Kd.V_lower (Kd.V_mono (ok' := fun k_ => True) ho0 (fun k_ hk_ => trivial)) (below_size pb)); have n1_ := Aside0.mk (below_step pb hb); clear HB; have HO391 := n0_; have HB := n1_; clear n0_ n1_; (try clear hb); (try clear hb2); (try clear hk); (try clear hi); (try clear ho0); obtain ⟨Ao52, co52, eo52⟩ := Kd.V_slice HO391.out; subst eo52) | ((with_reducible refine gate_callee (f := 18) rfl ?_); refine goesL_ (some 50) rfl rfl Try.func18 (by kernel_rfl) rfl #[.slice Ao52 t389.length co52, .int .i64 a1, .int .i64 a2] rfl pm ?_; (with_reducible refine (squash_Live.calls kj7 (fun k_ => True) _ _ t389 a1 a2 t392 t395 _ ?side1 A30.out).mono ?_); (case side1 => exact HO391.out); rintro e w53 ⟨v393, rfl, ho0, hb⟩; replace ho0 := Kd.S_N ho0; refine ⟨_, rfl, ?_⟩; have n0_ := Aside0.mk (Kd.V_elder' (by (with_reducible repeat (first | apply Kd.V_alloc | apply Kd.V_drewN | apply Kd.V_drew)); exact HO391.out) (by first | exact Kd.N_base ho0 | exact Kd.S_base ho0) hb); have n1_ := Aside0.mk (Kd.N_lower (Kd.N_mono (ok' := fun k_ => True) ho0 (fun k_ hk_ => trivial)) (below_size pb)); have n2_ := Aside0.mk (below_step pb hb); clear HO391; clear HB; have HO391 := n0_; have HO394 := n1_; have HB := n2_; clear n0_ n1_ n2_; (try clear hb); (try clear hb2); (try clear hk); (try clear hi); (try clear ho0)))
          go_ret
          exact ⟨by first | rfl | (simp [errW_none, errW_some] <;> rfl) | (simp [*, errW_none, errW_some] <;> rfl), pb⟩
  · replace c5 := Bool.eq_false_iff.mpr c5
    subst c5
    have H1 : ((halyardlaw18_awake.f k).bind fun t379 => (some t379)) = some r := by rw [if_neg (show ¬ (false = true) by decide)] at H; exact H
    clear H
    have H := H1
    clear H1
    replace H := Option.bind_eq_some_iff.mp H
    obtain ⟨t379, A540, H⟩ := H
    replace H : (some t379) = some r := H
    have A54 := Aside0.mk A540
    clear A540
    obtain rfl := Option.some.inj H
    go_enter Try.func6, Try.ntmps6
    go_wp2_with (first | ((with_reducible refine gate_callee (f := 9) rfl ?_); refine goesL_ (some 13) rfl rfl Try.func9 (by kernel_rfl) rfl #[.slice A0 l0.length c0] rfl pm ?_; (with_reducible refine (halyardlaw18_light.calls k _ _ l0 false _ ?side1 ?side2 A4.out).mono ?_); (case side1 => repeat (first | exact HR0.out | (with_reducible refine Kd.C_alloc ?_ _) | (with_reducible refine Kd.C_drewN ?_ _) | (with_reducible refine Kd.C_drew ?_))); (case side2 => exact HC0.out); rintro e w55 ⟨rfl, hb⟩; refine ⟨_, rfl, ?_⟩; have n0_ := Aside0.mk (below_step pb hb); clear HB; have HB := n0_; clear n0_; (try clear hb); (try clear hb2); (try clear hk); (try clear hi)) | ((with_reducible refine gate_callee (f := 10) rfl ?_); refine goesL_ (some 15) rfl rfl Try.func10 (by kernel_rfl) rfl #[] rfl pm ?_; (with_reducible refine (halyardlaw18_awake.calls k  t379 _ A54.out).mono ?_); rintro e w56 ⟨rfl, hb⟩; refine ⟨_, rfl, ?_⟩; have n0_ := Aside0.mk (below_step pb hb); clear HB; have HB := n0_; clear n0_; (try clear hb); (try clear hb2); (try clear hk); (try clear hi)))
    go_ret
    exact ⟨by first | rfl | (simp [errW_none, errW_some] <;> rfl) | (simp [*, errW_none, errW_some] <;> rfl), pb⟩

end Go.Proofs.Ytnepbpcpfeejkaa.K
