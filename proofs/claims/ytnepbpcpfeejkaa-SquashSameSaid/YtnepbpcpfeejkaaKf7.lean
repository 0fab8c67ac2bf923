-- Printed by the prover's own turned printer (wip/printer in the prover's repo); Lean checks it.
import Derived.Test.YtnepbpcpfeejkaaK0
import Derived.Test.YtnepbpcpfeejkaaKf9
import Derived.Test.YtnepbpcpfeejkaaKf11
import Derived.Test.YtnepbpcpfeejkaaKf10
import Derived.Test.YtnepbpcpfeejkaaKf13
import Derived.Test.YtnepbpcpfeejkaaKf15
import Derived.Test.YtnepbpcpfeejkaaKf18
namespace Go.Proofs.Ytnepbpcpfeejkaa.K
open Go.RowKit Go.Proofs.YtnepbpcpfeejkaaW.PrintWords Go.Proofs.YtnepbpcpfeejkaaW.PrintLast Go.Proofs.YtnepbpcpfeejkaaW.PrintMore
attribute [local go_sem] max2_int min2_int max_two min_two max_three min_three max_four min_four   -- for this text's walks alone
set_option linter.unusedVariables false
set_option linter.unusedSimpArgs false

/-! ### halyardlaw18_SquashSame: function 7 -/
mutual
def halyardlaw18_SquashSame.j0 : Nat → List (S35) → List Int → Int → Bool → Bool → Option (Bool)
  | 0, _, _, _, _, _ => none
  | k + 1, x0, x1, x2, x3, x27 => if x27 = true then ((halyardlaw18_awake.f k).bind fun t402 => (some t402)) else ((halyardlaw18_sorted.f k x0).bind fun t403 => ((squash_Keep.f k t403 x1 x2 x3).bind fun bt406 => (if bt406.2 = 0 then ((some (([] : List Int) : List Int)).bind fun y410 => (if y410.length + x1.length < 17592186044416 then ((some (y410 ++ x1 : List Int)).bind fun y413 => (if y413.length < 17592186044416 then ((some (y413 ++ [4611686018427387904] : List Int)).bind fun y416 => (halyardlaw18_SquashSame.l0 k x1 x2 x3 t403 bt406.1 y416 (y416.length : Int) 0)) else (none))) else (none))) else (some false))))
def halyardlaw18_SquashSame.l0 : Nat → List Int → Int → Bool → List (S35) → List (S35) → List Int → Int → Int → Option (Bool)
  | 0, _, _, _, _, _, _, _, _ => none
  | k + 1, x1, x2, x3, x9, x10, x45, x46, x47 => if x47 < x46 then (if 0 ≤ x47 then (if x47 < (x45.length : Int) then ((squash_Live.f k x9 (rd x45 x47) x2).bind fun bt426 => ((squash_Live.f k x10 (rd x45 x47) x2).bind fun bt430 => (if bt426.2 = 0 then (if bt430.2 = 0 then ((halyardref2_SameEntries.f k bt426.1 bt430.1).bind fun t434 => (if t434 = true then (halyardlaw18_SquashSame.l0 k x1 x2 x3 x9 x10 x45 x46 (wrap64 (x47 + 1))) else (some false))) else (some false)) else (some false)))) else (none)) else (none)) else ((squash_Keep.f k x10 x1 x2 x3).bind fun bt419 => (if bt419.2 = 0 then ((halyardref2_SameEntries.f k bt419.1 x10).bind fun t423 => (if t423 = true then (if (x10.length : Int) ≤ (x9.length : Int) then ((halyardlaw18_awake.f k).bind fun t424 => (some t424)) else (some false)) else (some false))) else (some false)))
end
def halyardlaw18_SquashSame.f (k : Nat) (l0 : List (S35)) (l1 : List Int) (a2 : Int) (a3 : Bool) : Option (Bool) := (halyardlaw18_light.f k l0).bind fun t401 => (if t401 = true then (halyardlaw18_SquashSame.j0 k l0 l1 a2 a3 (decide ((l1.length : Int) > 20))) else (halyardlaw18_SquashSame.j0 k l0 l1 a2 a3 true))
theorem halyardlaw18_SquashSame.mono_l : ∀ k, (∀ y0 y1 y2 y3 y4, LeO (halyardlaw18_SquashSame.j0 k y0 y1 y2 y3 y4) (halyardlaw18_SquashSame.j0 (k + 1) y0 y1 y2 y3 y4)) ∧ (∀ y0 y1 y2 y3 y4 y5 y6 y7, LeO (halyardlaw18_SquashSame.l0 k y0 y1 y2 y3 y4 y5 y6 y7) (halyardlaw18_SquashSame.l0 (k + 1) y0 y1 y2 y3 y4 y5 y6 y7))
  | 0 => ⟨fun _ _ _ _ _ r h => by simp [halyardlaw18_SquashSame.j0] at h, fun _ _ _ _ _ _ _ _ r h => by simp [halyardlaw18_SquashSame.l0] at h⟩
  | k + 1 => by
    obtain ⟨ih0, ih1⟩ := halyardlaw18_SquashSame.mono_l k
    refine ⟨?_, ?_⟩
    · intro y0 y1 y2 y3 y4
      unfold halyardlaw18_SquashSame.j0
      repeat' first
      | (with_reducible exact ih0 _ _ _ _ _)
      | (with_reducible exact ih1 _ _ _ _ _ _ _ _)
      | (with_reducible exact halyardlaw18_awake.mono _)
      | (with_reducible exact halyardlaw18_light.mono _ _)
      | (with_reducible exact halyardlaw18_sorted.mono _ _)
      | (with_reducible exact halyardref2_SameEntries.mono _ _ _)
      | (with_reducible exact squash_Keep.mono _ _ _ _ _)
      | (with_reducible exact squash_Live.mono _ _ _ _)
      | (with_reducible exact LeO.refl _)
      | (with_reducible exact LeO.none _)
      | (with_reducible refine LeO.ite ?_ ?_)
      | (with_reducible refine LeO.bind ?_ (fun _ => ?_))
      | exact ih0 _ _ _ _ _
      | exact ih1 _ _ _ _ _ _ _ _
      | exact halyardlaw18_awake.mono _
      | exact halyardlaw18_light.mono _ _
      | exact halyardlaw18_sorted.mono _ _
      | exact halyardref2_SameEntries.mono _ _ _
      | exact squash_Keep.mono _ _ _ _ _
      | exact squash_Live.mono _ _ _ _
      | exact LeO.none _
      | refine LeO.ite ?_ ?_
      | refine LeO.bind ?_ (fun _ => ?_)
    · intro y0 y1 y2 y3 y4 y5 y6 y7
      unfold halyardlaw18_SquashSame.l0
      repeat' first
      | (with_reducible exact ih0 _ _ _ _ _)
      | (with_reducible exact ih1 _ _ _ _ _ _ _ _)
      | (with_reducible exact halyardlaw18_awake.mono _)
      | (with_reducible exact halyardlaw18_light.mono _ _)
      | (with_reducible exact halyardlaw18_sorted.mono _ _)
      | (with_reducible exact halyardref2_SameEntries.mono _ _ _)
      | (with_reducible exact squash_Keep.mono _ _ _ _ _)
      | (with_reducible exact squash_Live.mono _ _ _ _)
      | (with_reducible exact LeO.refl _)
      | (with_reducible exact LeO.none _)
      | (with_reducible refine LeO.ite ?_ ?_)
      | (with_reducible refine LeO.bind ?_ (fun _ => ?_))
      | exact ih0 _ _ _ _ _
      | exact ih1 _ _ _ _ _ _ _ _
      | exact halyardlaw18_awake.mono _
      | exact halyardlaw18_light.mono _ _
      | exact halyardlaw18_sorted.mono _ _
      | exact halyardref2_SameEntries.mono _ _ _
      | exact squash_Keep.mono _ _ _ _ _
      | exact squash_Live.mono _ _ _ _
      | exact LeO.none _
      | refine LeO.ite ?_ ?_
      | refine LeO.bind ?_ (fun _ => ?_)
theorem halyardlaw18_SquashSame.mono : ∀ a0 a1 a2 a3 k, LeO (halyardlaw18_SquashSame.f k a0 a1 a2 a3) (halyardlaw18_SquashSame.f (k + 1) a0 a1 a2 a3) := by
  intro a0 a1 a2 a3 k
  obtain ⟨ih0, ih1⟩ := halyardlaw18_SquashSame.mono_l k
  unfold halyardlaw18_SquashSame.f
  repeat' first
      | (with_reducible exact ih0 _ _ _ _ _)
      | (with_reducible exact ih1 _ _ _ _ _ _ _ _)
      | (with_reducible exact halyardlaw18_awake.mono _)
      | (with_reducible exact halyardlaw18_light.mono _ _)
      | (with_reducible exact halyardlaw18_sorted.mono _ _)
      | (with_reducible exact halyardref2_SameEntries.mono _ _ _)
      | (with_reducible exact squash_Keep.mono _ _ _ _ _)
      | (with_reducible exact squash_Live.mono _ _ _ _)
      | (with_reducible exact LeO.refl _)
      | (with_reducible exact LeO.none _)
      | (with_reducible refine LeO.ite ?_ ?_)
      | (with_reducible refine LeO.bind ?_ (fun _ => ?_))
      | exact ih0 _ _ _ _ _
      | exact ih1 _ _ _ _ _ _ _ _
      | exact halyardlaw18_awake.mono _
      | exact halyardlaw18_light.mono _ _
      | exact halyardlaw18_sorted.mono _ _
      | exact halyardref2_SameEntries.mono _ _ _
      | exact squash_Keep.mono _ _ _ _ _
      | exact squash_Live.mono _ _ _ _
      | exact LeO.none _
      | refine LeO.ite ?_ ?_
      | refine LeO.bind ?_ (fun _ => ?_)
set_option maxHeartbeats 8000000 in
set_option maxRecDepth 100000 in
theorem halyardlaw18_SquashSame.calls (k : Nat) (A0 : Option Addr) (c0 : Nat) (l0 : List (S35)) (A1 : Option Addr) (c1 : Nat) (l1 : List Int) (a2 : Int) (a3 : Bool) (r : Bool) (w : World) (hr0 : Kd.C k35 w A0 l0.length l0) (hc0 : l0.length ≤ c0) (hr1 : Kd.C (Kd.int .i64) w A1 l1.length l1) (hc1 : l1.length ≤ c1) (h : halyardlaw18_SquashSame.f k l0 l1 a2 a3 = some r) :
    Calls Try.prog 7 #[.slice A0 l0.length c0, .slice A1 l1.length c1, .int .i64 a2, .bool a3] w fun e w' => e = .returned (.bool r) ∧ Below w.heap.size w w' := by
  have HR0 := Aside0.mk hr0
  have HC0 := Aside0.mk hc0
  clear hr0 hc0
  have HR1 := Aside0.mk hr1
  have HC1 := Aside0.mk hc1
  clear hr1 hc1
  have HB := Aside0.mk (Below.refl w.heap.size w)
  have H : ((halyardlaw18_light.f k l0).bind fun t401 => (if t401 = true then (halyardlaw18_SquashSame.j0 k l0 l1 a2 a3 (decide ((l1.length : Int) > 20))) else (halyardlaw18_SquashSame.j0 k l0 l1 a2 a3 true))) = some r := h
  clear h
  have HC5 := Aside0.mk H
  clear H
  go_enter Try.func7, Try.ntmps7
  go_upto_region 1 with (fail)
  go_cut [27] (fun v27 wc => ∃ (kq : Nat) (x27_4 : Bool), v27 = .bool x27_4 ∧ Aside0 (halyardlaw18_SquashSame.j0 kq l0 l1 a2 a3 x27_4 = some r) ∧ Aside0 (kq ≤ k) ∧ Aside0 (Below w.heap.size w wc))
  case first =>
    have H := HC5.out
    clear HC5
    replace H := Option.bind_eq_some_iff.mp H
    obtain ⟨t401, A60, H⟩ := H
    replace H : (if t401 = true then (halyardlaw18_SquashSame.j0 k l0 l1 a2 a3 (decide ((l1.length : Int) > 20))) else (halyardlaw18_SquashSame.j0 k l0 l1 a2 a3 true)) = some r := H
    have A6 := Aside0.mk A60
    clear A60
    by_cases c7 : t401 = true
    · subst c7
      have H1 : (halyardlaw18_SquashSame.j0 k l0 l1 a2 a3 (decide ((l1.length : Int) > 20))) = some r := by rw [if_pos rfl] at H; exact H
      clear H
      have H := H1
      clear H1
      have H' := Aside0.mk H
      clear H
      go_wp2_with (first | ((with_reducible refine gate_callee (f := 9) rfl ?_); refine goesL_ (some 21) rfl rfl Try.func9 (by kernel_rfl) rfl #[.slice A0 l0.length c0] rfl pm ?_; (with_reducible refine (halyardlaw18_light.calls k _ _ l0 true _ ?side1 ?side2 A6.out).mono ?_); (case side1 => repeat (first | exact (Kd.C_below HR0.out HB.out) | (with_reducible refine Kd.C_alloc ?_ _) | (with_reducible refine Kd.C_drewN ?_ _) | (with_reducible refine Kd.C_drew ?_))); (case side2 => exact HC0.out); rintro e w8 ⟨rfl, hb⟩; refine ⟨_, rfl, ?_⟩; have n0_ := Aside0.mk (below_step pb hb); clear HB; have HB := n0_; clear n0_; (try clear hb); (try clear hb2); (try clear hk); (try clear hi)))
      go_meet
      case rel => exact ⟨_, (decide ((l1.length : Int) > 20)), (by first | rfl | (simp; done) | (simp [*]; done)), H', ⟨by first | omega | exact Nat.le_refl _⟩, ⟨pb⟩⟩
    · replace c7 := Bool.eq_false_iff.mpr c7
      subst c7
      have H1 : (halyardlaw18_SquashSame.j0 k l0 l1 a2 a3 true) = some r := by rw [if_neg (show ¬ (false = true) by decide)] at H; exact H
      clear H
      have H := H1
      clear H1
      have H' := Aside0.mk H
      clear H
      go_wp2_with (first | ((with_reducible refine gate_callee (f := 9) rfl ?_); refine goesL_ (some 21) rfl rfl Try.func9 (by kernel_rfl) rfl #[.slice A0 l0.length c0] rfl pm ?_; (with_reducible refine (halyardlaw18_light.calls k _ _ l0 false _ ?side1 ?side2 A6.out).mono ?_); (case side1 => repeat (first | exact (Kd.C_below HR0.out HB.out) | (with_reducible refine Kd.C_alloc ?_ _) | (with_reducible refine Kd.C_drewN ?_ _) | (with_reducible refine Kd.C_drew ?_))); (case side2 => exact HC0.out); rintro e w9 ⟨rfl, hb⟩; refine ⟨_, rfl, ?_⟩; have n0_ := Aside0.mk (below_step pb hb); clear HB; have HB := n0_; clear n0_; (try clear hb); (try clear hb2); (try clear hk); (try clear hi)))
      go_meet
      case rel => exact ⟨_, (true), (by first | rfl | (simp; done) | (simp [*]; done)), H', ⟨by first | omega | exact Nat.le_refl _⟩, ⟨pb⟩⟩
  case rest =>
    clear HC5
    try clear c1
    try clear p2
    try clear c7
    try clear c9
    obtain ⟨kq, x27_4, rfl, HA, HJ4, HB⟩ := hcut
    cases kq with
    | zero => exact absurd HA.out (by simp [halyardlaw18_SquashSame.j0])
    | succ kj4 =>
      have H := HA.out
      clear HA
      simp only [halyardlaw18_SquashSame.j0] at H
      by_cases c10 : x27_4 = true
      · subst c10
        have H1 : ((halyardlaw18_awake.f kj4).bind fun t402 => (some t402)) = some r := by rw [if_pos rfl] at H; exact H
        clear H
        have H := H1
        clear H1
        replace H := Option.bind_eq_some_iff.mp H
        obtain ⟨t402, A110, H⟩ := H
        replace H : (some t402) = some r := H
        have A11 := Aside0.mk A110
        clear A110
        obtain rfl := Option.some.inj H
        go_wp2_with (first | ((with_reducible refine gate_callee (f := 10) rfl ?_); refine goesL_ (some 28) rfl rfl Try.func10 (by kernel_rfl) rfl #[] rfl pm ?_; (with_reducible refine (halyardlaw18_awake.calls kj4  t402 _ A11.out).mono ?_); rintro e w12 ⟨rfl, hb⟩; refine ⟨_, rfl, ?_⟩; have n0_ := Aside0.mk (below_step pb hb); clear HB; have HB := n0_; clear n0_; (try clear hb); (try clear hb2); (try clear hk); (try clear hi)))
        go_ret
        exact ⟨by first | rfl | (simp [errW_none, errW_some] <;> rfl) | (simp [*, errW_none, errW_some] <;> rfl), pb⟩
      · replace c10 := Bool.eq_false_iff.mpr c10
        subst c10
        have H1 : ((halyardlaw18_sorted.f kj4 l0).bind fun t403 => ((squash_Keep.f kj4 t403 l1 a2 a3).bind fun bt406 => (if bt406.2 = 0 then ((some (([] : List Int) : List Int)).bind fun y410 => (if y410.length + l1.length < 17592186044416 then ((some (y410 ++ l1 : List Int)).bind fun y413 => (if y413.length < 17592186044416 then ((some (y413 ++ [4611686018427387904] : List Int)).bind fun y416 => (halyardlaw18_SquashSame.l0 kj4 l1 a2 a3 t403 bt406.1 y416 (y416.length : Int) 0)) else (none))) else (none))) else (some false)))) = some r := by rw [if_neg (show ¬ (false = true) by decide)] at H; exact H
        clear H
        have H := H1
        clear H1
        replace H := Option.bind_eq_some_iff.mp H
        obtain ⟨t403, A130, H⟩ := H
        replace H : ((squash_Keep.f kj4 t403 l1 a2 a3).bind fun bt406 => (if bt406.2 = 0 then ((some (([] : List Int) : List Int)).bind fun y410 => (if y410.length + l1.length < 17592186044416 then ((some (y410 ++ l1 : List Int)).bind fun y413 => (if y413.length < 17592186044416 then ((some (y413 ++ [4611686018427387904] : List Int)).bind fun y416 => (halyardlaw18_SquashSame.l0 kj4 l1 a2 a3 t403 bt406.1 y416 (y416.length : Int) 0)) else (none))) else (none))) else (some false))) = some r := H
        have A13 := Aside0.mk A130
        clear A130
        replace H := Option.bind_eq_some_iff.mp H
        obtain ⟨⟨t406, t409⟩, A140, H⟩ := H
        replace H : (if t409 = 0 then ((some (([] : List Int) : List Int)).bind fun y410 => (if y410.length + l1.length < 17592186044416 then ((some (y410 ++ l1 : List Int)).bind fun y413 => (if y413.length < 17592186044416 then ((some (y413 ++ [4611686018427387904] : List Int)).bind fun y416 => (halyardlaw18_SquashSame.l0 kj4 l1 a2 a3 t403 t406 y416 (y416.length : Int) 0)) else (none))) else (none))) else (some false)) = some r := H
        have A14 := Aside0.mk A140
        clear A140
        by_cases c15 : t409 = 0
        · rw [if_pos c15] at H
          have c15b0 : (t409 == 0) = true := beq_iff_eq.mpr c15
          have c15b1 : (t409 != 0) = false := bne_eq_false_iff_eq.mpr c15
          clear c15
          obtain ⟨y410, hy410⟩ : ∃ y_ : List Int, y_ = (([] : List Int)) := ⟨_, rfl⟩
          replace H : (if y410.length + l1.length < 17592186044416 then ((some (y410 ++ l1 : List Int)).bind fun y413 => (if y413.length < 17592186044416 then ((some (y413 ++ [4611686018427387904] : List Int)).bind fun y416 => (halyardlaw18_SquashSame.l0 kj4 l1 a2 a3 t403 t406 y416 (y416.length : Int) 0)) else (none))) else (none)) = some r := by first | (rw [hy410]; with_reducible exact H) | (have H2_ := (Option.bind_some _ _).symm.trans H; rw [hy410]; with_reducible exact H2_) | (have H2_ := (Option.bind_some _ _).symm.trans H; with_reducible exact H2_) | with_reducible exact H | (rw [hy410]; exact H) | exact H
          have Ny410 := Aside0.mk hy410
          clear hy410
          by_cases c16 : y410.length + l1.length < 17592186044416
          · rw [if_pos c16] at H
            have LMc16 := Aside0.mk c16
            clear c16
            obtain ⟨y413, hy413⟩ : ∃ y_ : List Int, y_ = (y410 ++ l1) := ⟨_, rfl⟩
            replace H : (if y413.length < 17592186044416 then ((some (y413 ++ [4611686018427387904] : List Int)).bind fun y416 => (halyardlaw18_SquashSame.l0 kj4 l1 a2 a3 t403 t406 y416 (y416.length : Int) 0)) else (none)) = some r := by first | (rw [hy413]; with_reducible exact H) | (have H2_ := (Option.bind_some _ _).symm.trans H; rw [hy413]; with_reducible exact H2_) | (have H2_ := (Option.bind_some _ _).symm.trans H; with_reducible exact H2_) | with_reducible exact H | (rw [hy413]; exact H) | exact H
            have Ny413 := Aside0.mk hy413
            clear hy413
            by_cases c17 : y413.length < 17592186044416
            · rw [if_pos c17] at H
              have LMc17 := Aside0.mk c17
              clear c17
              obtain ⟨y416, hy416⟩ : ∃ y_ : List Int, y_ = (y413 ++ [4611686018427387904]) := ⟨_, rfl⟩
              replace H : (halyardlaw18_SquashSame.l0 kj4 l1 a2 a3 t403 t406 y416 (y416.length : Int) 0) = some r := by first | (rw [hy416]; with_reducible exact H) | (have H2_ := (Option.bind_some _ _).symm.trans H; rw [hy416]; with_reducible exact H2_) | (have H2_ := (Option.bind_some _ _).symm.trans H; with_reducible exact H2_) | with_reducible exact H | (rw [hy416]; exact H) | exact H
              have Ny416 := Aside0.mk hy416
              clear hy416
              have H' := Aside0.mk H
              clear H
              go_wp2_with (first | ((with_reducible refine gate_callee (f := 15) rfl ?_); refine goesL_ (some 30) rfl rfl Try.func15 (by kernel_rfl) rfl #[.slice A0 l0.length c0] rfl pm ?_; (with_reducible refine (halyardlaw18_sorted.calls kj4 (fun k_ => k_ < w.heap.size) _ _ l0 t403 _ ?side1 A13.out).mono ?_); (case side1 => exact Kd.V_mk HC0.out (Kd.F_below (Kd.C_F k35_heap HR0.out) pb)); rintro e w18 ⟨v404, rfl, ho0, hb⟩; refine ⟨_, rfl, ?_⟩; have n0_ := Aside0.mk (Kd.V_lower (Kd.V_mono (ok' := fun k_ => True) ho0 (fun k_ hk_ => trivial)) (below_size pb)); have n1_ := Aside0.mk (below_step pb hb); clear HB; have HO405 := n0_; have HB := n1_; clear n0_ n1_; (try clear hb); (try clear hb2); (try clear hk); (try clear hi); (try clear ho0); obtain ⟨Ao19, co19, eo19⟩ := Kd.V_slice HO405.out; subst eo19) | ((with_reducible refine gate_callee (f := 11) rfl ?_); refine goesL_ (some 36) rfl rfl Try.func11 (by kernel_rfl) rfl #[.slice Ao19 t403.length co19, .slice A1 l1.length c1, .int .i64 a2, .bool a3] rfl pm ?_; (with_reducible refine (squash_Keep.calls kj4 (fun k_ => True) _ _ t403 _ _ l1 a2 a3 t406 t409 _ ?side1 ?side2 ?side3 A14.out).mono ?_); (case side1 => exact HO405.out); (case side2 => repeat (first | exact (Kd.C_below HR1.out HB.out) | (with_reducible refine Kd.C_alloc ?_ _) | (with_reducible refine Kd.C_drewN ?_ _) | (with_reducible refine Kd.C_drew ?_))); (case side3 => exact HC1.out); rintro e w20 ⟨v407, rfl, ho0, hb⟩; refine ⟨_, rfl, ?_⟩; have n0_ := Aside0.mk (Kd.V_elder' (by (with_reducible repeat (first | apply Kd.V_alloc | apply Kd.V_drewN | apply Kd.V_drew)); exact HO405.out) (by first | exact Kd.N_base ho0 | exact Kd.S_base ho0) hb); have n1_ := Aside0.mk (Kd.N_lower (Kd.N_mono (ok' := fun k_ => True) ho0 (fun k_ hk_ => trivial)) (below_size pb)); have n2_ := Aside0.mk (below_step pb hb); clear HO405; clear HB; have HO405 := n0_; have HO408 := n1_; have HB := n2_; clear n0_ n1_ n2_; (try clear hb); (try clear hb2); (try clear hk); (try clear hi); (try clear ho0)) | ((with_reducible refine gate_dst (N := 41) rfl ?_); (try (refine gate_guard (by rfl) ?_; dsimp only)); refine Kd.R_lit (Kd.int .i64) _ 2 ?hg (N := 41) ?hd (xs := ([] : List Int)) (inner := []) (ok := fun _ => True) (okp := fun _ => True) ?hr ?hp (fun _ hk => hk) trivial (Below.refl _ _) (Nat.le_refl _) (by simp) ?_; (case hd => rfl); (case hg => rfl); (case hr => first | (go_simp; done) | (go_simp; rfl)); (case hp => exact (Reps.none _ _)); intro v411 w21 ho22 hb hg_ hnew_; clear hg_ hnew_; (first | rw [← Ny410.out] at ho22 | (simp only [Int.reduceToNat] at ho22; rw [← Ny410.out] at ho22)); have n0_ := Aside0.mk (Kd.V_elder' (by (with_reducible repeat (first | apply Kd.V_alloc | apply Kd.V_drewN | apply Kd.V_drew)); exact HO405.out) (Kd.R_base ho22) hb); have n1_ := Aside0.mk (Kd.N_elder' (by (with_reducible repeat (first | apply Kd.N_alloc | apply Kd.N_drewN | apply Kd.N_drew)); exact HO408.out) (Kd.R_base ho22) hb); have n2_ := Aside0.mk (Kd.R_lower ho22 (below_size pb)); have n3_ := Aside0.mk (below_step pb hb); clear HO405; clear HO408; clear HB; have HO405 := n0_; have HO408 := n1_; have HO412 := n2_; have HB := n3_; clear n0_ n1_ n2_ n3_; clear hb ho22) | ((with_reducible refine gate_builtin (b := .append) (xs := #[.tmp 41, .tmp 42]) rfl ?_); (try (refine gate_guard (by rfl) ?_; dsimp only)); at_builtin; refine Kd.R_append_rows (Kd.int .i64) (w0 := w) w.heap.size rfl (.tmp 41) (.tmp 42) 23 2 (.int .i64 0) 8 rfl Try.underlying23 info2 rfl (by decide) (by omega) v411 y410 l1 _ _ _ (fun _ => True) (fun _ => False) rfl rfl ?aO ?aR (fun _ _ h => h) (fun _ h => h.elim) ?aF ?aB ?aS ?aL ?_; (case aR => repeat (first | exact (Kd.C_below HR1.out HB.out) | (with_reducible refine Kd.C_alloc ?_ _) | (with_reducible refine Kd.C_drewN ?_ _) | (with_reducible refine Kd.C_drew ?_))); (case aB => exact pb); (case aF => exact (fun _ _ => trivial)); (case aO => exact (by (with_reducible repeat (first | apply Kd.R_alloc | apply Kd.R_drewN | apply Kd.R_drew)); exact HO412.out)); (case aS => exact (below_size pb)); (case aL => have := LMc16.out; omega); intro v414 w23 ho hb hg hat; rw [← Ny413.out] at ho; have n0_ := Aside0.mk (Kd.V_afterv (ok := (fun k_ => some k_ ≠ (v407 : Value).ownBlock)) (by (with_reducible repeat (first | apply Kd.V_alloc | apply Kd.V_drewN | apply Kd.V_drew)); exact Kd.V_mono HO405.out (fun _ hk => ⟨hk.1.2, hk.2⟩)) hg hat); have n1_ := Aside0.mk (Kd.N_afterv (ok := (fun _ => True)) (by (with_reducible repeat (first | apply Kd.N_alloc | apply Kd.N_drewN | apply Kd.N_drew)); exact HO408.out) hg hat); have n2_ := Aside0.mk (hb); have n3_ := Aside0.mk (ho); clear HO405; clear HO408; clear HB; clear HO412; have HO405 := n0_; have HO408 := n1_; have HB := n2_; have HO415 := n3_; clear n0_ n1_ n2_ n3_; clear ho hb hg hat) | ((with_reducible refine gate_builtin (b := .append) (xs := #[.tmp 43, .tmp 44]) rfl ?_); (try (refine gate_guard (by rfl) ?_; dsimp only)); at_builtin; refine Kd.R_append (Kd.int .i64) (w0 := w) w.heap.size rfl (.tmp 43) (.tmp 44) 23 2 (.int .i64 0) 8 rfl Try.underlying23 info2 rfl (by decide) (by omega) v414 y413 4611686018427387904 [.int .i64 4611686018427387904] (fun _ => True) (fun _ => False) rfl rfl ?aP (fun _ hk => hk.elim) ?aF ?aO ?aB ?aS ?aL ?_; (case aP => exact rfl); (case aB => exact pb); (case aF => exact (fun _ _ => trivial)); (case aO => exact (by (with_reducible repeat (first | apply Kd.R_alloc | apply Kd.R_drewN | apply Kd.R_drew)); exact HO415.out)); (case aS => exact (below_size pb)); (case aL => have := LMc17.out; omega); intro v417 w24 ho hb hg hat; rw [← Ny416.out] at ho; have n0_ := Aside0.mk (Kd.V_afterv (ok := (fun k_ => some k_ ≠ (v407 : Value).ownBlock)) (by (with_reducible repeat (first | apply Kd.V_alloc | apply Kd.V_drewN | apply Kd.V_drew)); exact HO405.out) hg hat); have n1_ := Aside0.mk (Kd.N_afterv (ok := (fun _ => True)) (by (with_reducible repeat (first | apply Kd.N_alloc | apply Kd.N_drewN | apply Kd.N_drew)); exact HO408.out) hg hat); have n2_ := Aside0.mk (hb); have n3_ := Aside0.mk (ho); clear HO405; clear HO408; clear HB; clear HO415; have HO405 := n0_; have HO408 := n1_; have HB := n2_; have HO418 := n3_; clear n0_ n1_ n2_ n3_; clear ho hb hg hat; obtain ⟨Ao25, co25, eo25⟩ := Kd.R_slice HO418.out; subst eo25))
              go_loopg [47] kj4 (fun kq v47 w' => ∃ (x47_2 : Int), v47 = .int .i64 x47_2 ∧ Aside0 (halyardlaw18_SquashSame.l0 kq l1 a2 a3 t403 t406 y416 (y416.length : Int) x47_2 = some r) ∧ Aside0 (kq ≤ kj4) ∧ Aside0 (Kd.V k35 35 w' w.heap.size (fun k_ => some k_ ≠ (v407 : Value).ownBlock ∧ some k_ ≠ ((.slice Ao25 y416.length co25) : Value).ownBlock) (.slice Ao19 t403.length co19) t403) ∧ Aside0 (Kd.N k35 35 w' w.heap.size (fun k_ => some k_ ≠ ((.slice Ao25 y416.length co25) : Value).ownBlock) v407 t406) ∧ Aside0 (Kd.R (Kd.int .i64) 2 w' w.heap.size (fun _ => True) (.slice Ao25 y416.length co25) y416) ∧ Aside0 (Below w.heap.size w w'))
              case atStart => exact ⟨(0), (by first | rfl | (simp; done) | (simp [*]; done)), H', ⟨Nat.le_refl _⟩, ⟨by (with_reducible repeat (first | apply Kd.V_alloc | apply Kd.V_drewN | apply Kd.V_drew)); exact HO405.out⟩, ⟨by (with_reducible repeat (first | apply Kd.N_alloc | apply Kd.N_drewN | apply Kd.N_drew)); exact Kd.N_mono HO408.out (fun _ hk => hk.2)⟩, ⟨by (with_reducible repeat (first | apply Kd.R_alloc | apply Kd.R_drewN | apply Kd.R_drew)); exact HO418.out⟩, ⟨pb⟩⟩
              case round =>
                clear H'
                try clear c1
                try clear p2
                try clear c7
                try clear c9
                try clear c10
                try clear c11
                try clear c15
                try clear c15b0
                try clear c15b1
                try clear c16
                try clear c17
                try clear p2
                obtain ⟨x47_2, rfl, HA, HK2, HO_9, HO_10, HO_45, HB⟩ := hrel
                cases gk with
                | zero => exact absurd HA.out (by simp [halyardlaw18_SquashSame.l0])
                | succ k2 =>
                  have H := HA.out
                  clear HA
                  simp only [halyardlaw18_SquashSame.l0] at H
                  by_cases c26 : x47_2 < (y416.length : Int)
                  · rw [if_pos c26] at H
                    have c26b0 : decide (x47_2 < (y416.length : Int)) = true := decide_eq_true c26
                    clear c26
                    by_cases c27 : 0 ≤ x47_2
                    · rw [if_pos c27] at H
                      have c27b0 : decide (0 ≤ x47_2) = true := decide_eq_true c27
                      clear c27
                      by_cases c28 : x47_2 < (y416.length : Int)
                      · rw [if_pos c28] at H
                        have c28b0 : decide (x47_2 < (y416.length : Int)) = true := decide_eq_true c28
                        clear c28
                        replace H := Option.bind_eq_some_iff.mp H
                        obtain ⟨⟨t426, t429⟩, A290, H⟩ := H
                        replace H : ((squash_Live.f k2 t406 (rd y416 x47_2) a2).bind fun bt430 => (if t429 = 0 then (if bt430.2 = 0 then ((halyardref2_SameEntries.f k2 t426 bt430.1).bind fun t434 => (if t434 = true then (halyardlaw18_SquashSame.l0 k2 l1 a2 a3 t403 t406 y416 (y416.length : Int) (wrap64 (x47_2 + 1))) else (some false))) else (some false)) else (some false))) = some r := H
                        have A29 := Aside0.mk A290
                        clear A290
                        replace H := Option.bind_eq_some_iff.mp H
                        obtain ⟨⟨t430, t433⟩, A300, H⟩ := H
                        replace H : (if t429 = 0 then (if t433 = 0 then ((halyardref2_SameEntries.f k2 t426 t430).bind fun t434 => (if t434 = true then (halyardlaw18_SquashSame.l0 k2 l1 a2 a3 t403 t406 y416 (y416.length : Int) (wrap64 (x47_2 + 1))) else (some false))) else (some false)) else (some false)) = some r := H
                        have A30 := Aside0.mk A300
                        clear A300
                        by_cases c31 : t429 = 0
                        · rw [if_pos c31] at H
                          have c31b0 : (t429 == 0) = true := beq_iff_eq.mpr c31
                          have c31b1 : (t429 != 0) = false := bne_eq_false_iff_eq.mpr c31
                          clear c31
                          by_cases c32 : t433 = 0
                          · rw [if_pos c32] at H
                            have c32b0 : (t433 == 0) = true := beq_iff_eq.mpr c32
                            have c32b1 : (t433 != 0) = false := bne_eq_false_iff_eq.mpr c32
                            clear c32
                            replace H := Option.bind_eq_some_iff.mp H
                            obtain ⟨t434, A330, H⟩ := H
                            replace H : (if t434 = true then (halyardlaw18_SquashSame.l0 k2 l1 a2 a3 t403 t406 y416 (y416.length : Int) (wrap64 (x47_2 + 1))) else (some false)) = some r := H
                            have A33 := Aside0.mk A330
                            clear A330
                            by_cases c34 : t434 = true
                            · subst c34
                              have H1 : (halyardlaw18_SquashSame.l0 k2 l1 a2 a3 t403 t406 y416 (y416.length : Int) (wrap64 (x47_2 + 1))) = some r := by rw [if_pos rfl] at H; exact H
                              clear H
                              have H := H1
                              clear H1
                              have H' := Aside0.mk H
                              clear H
                              have p425 : 0 ≤ (x47_2 : Int) := pa
                              have q425 : x47_2 < (y416.length : Int) := pa
                              obtain ⟨ad425, e425, hx425_0⟩ := Kd.at_int (Kd.R_reads' HO_45.out).2.2 x47_2 p425 q425
                              cases e425
                              replace p425 := eq_true p425
                              replace q425 := eq_true q425
                              go_wp2_with (first | ((with_reducible refine gate_callee (f := 18) rfl ?_); refine goesL_ (some 55) rfl rfl Try.func18 (by kernel_rfl) rfl #[.slice Ao19 t403.length co19, .int .i64 (rd y416 x47_2), .int .i64 a2] rfl pm ?_; (with_reducible refine (squash_Live.calls k2 (fun k_ => (some k_ ≠ (v407 : Value).ownBlock ∧ some k_ ≠ (.slice (some ad425) y416.length co25 : Value).ownBlock)) _ _ t403 (rd y416 x47_2) a2 t426 t429 _ ?side1 A29.out).mono ?_); (case side1 => exact HO_9.out); rintro e w35 ⟨v427, rfl, ho0, hb⟩; replace ho0 := Kd.N_mono (ok' := fun k_ => (some k_ ≠ (v407 : Value).ownBlock ∧ some k_ ≠ (.slice (some ad425) y416.length co25 : Value).ownBlock) ∨ _ ≤ k_) (Kd.S_N ho0) (fun k_ hk_ => .inr hk_); refine ⟨_, rfl, ?_⟩; have n0_ := Aside0.mk (Kd.V_elder' (by (with_reducible repeat (first | apply Kd.V_alloc | apply Kd.V_drewN | apply Kd.V_drew)); exact HO_9.out) (by first | exact Kd.N_base ho0 | exact Kd.S_base ho0) hb); have n1_ := Aside0.mk (Kd.N_elder' (by (with_reducible repeat (first | apply Kd.N_alloc | apply Kd.N_drewN | apply Kd.N_drew)); exact HO_10.out) (by first | exact Kd.N_base ho0 | exact Kd.S_base ho0) hb); have n2_ := Aside0.mk (Kd.R_below (by (with_reducible repeat (first | apply Kd.R_alloc | apply Kd.R_drewN | apply Kd.R_drew)); exact HO_45.out) hb); have n3_ := Aside0.mk (Kd.N_lower (Kd.N_mono (ok' := fun k_ => some k_ ≠ (v407 : Value).ownBlock ∧ some k_ ≠ (.slice (some ad425) y416.length co25 : Value).ownBlock) ho0 (fun k_ hk_ => ⟨Or.elim hk_ (fun hs_ => hs_.1) (fun hn_ => (Kd.fresh' (Kd.N_lt (by (with_reducible repeat (first | apply Kd.N_alloc | apply Kd.N_drewN | apply Kd.N_drew)); exact HO_10.out)) k_ hn_)), Or.elim hk_ (fun hs_ => hs_.2) (fun hn_ => (Kd.fresh' (Kd.R_lt (by (with_reducible repeat (first | apply Kd.R_alloc | apply Kd.R_drewN | apply Kd.R_drew)); exact HO_45.out)) k_ hn_))⟩)) (below_size pb)); have n4_ := Aside0.mk (below_step pb hb); clear HO_9; clear HO_10; clear HO_45; clear HB; have HO_9 := n0_; have HO_10 := n1_; have HO_45 := n2_; have HO428 := n3_; have HB := n4_; clear n0_ n1_ n2_ n3_ n4_; (try clear hb); (try clear hb2); (try clear hk); (try clear hi); (try clear ho0); obtain ⟨Ao36, co36, eo36⟩ := Kd.N_slice HO_10.out; subst eo36) | ((with_reducible refine gate_callee (f := 18) rfl ?_); refine goesL_ (some 62) rfl rfl Try.func18 (by kernel_rfl) rfl #[.slice Ao36 t406.length co36, .int .i64 (rd y416 x47_2), .int .i64 a2] rfl pm ?_; (with_reducible refine (squash_Live.calls k2 (fun k_ => (some k_ ≠ (.slice (some ad425) y416.length co25 : Value).ownBlock ∧ some k_ ≠ (v427 : Value).ownBlock)) _ _ t406 (rd y416 x47_2) a2 t430 t433 _ ?side1 A30.out).mono ?_); (case side1 => exact Kd.N_V (HO_10.out)); rintro e w37 ⟨v431, rfl, ho0, hb⟩; replace ho0 := Kd.N_mono (ok' := fun k_ => (some k_ ≠ (.slice (some ad425) y416.length co25 : Value).ownBlock ∧ some k_ ≠ (v427 : Value).ownBlock) ∨ _ ≤ k_) (Kd.S_N ho0) (fun k_ hk_ => .inr hk_); refine ⟨_, rfl, ?_⟩; have n0_ := Aside0.mk (Kd.V_elder' (by (with_reducible repeat (first | apply Kd.V_alloc | apply Kd.V_drewN | apply Kd.V_drew)); exact HO_9.out) (by first | exact Kd.N_base ho0 | exact Kd.S_base ho0) hb); have n1_ := Aside0.mk (Kd.N_elder' (by (with_reducible repeat (first | apply Kd.N_alloc | apply Kd.N_drewN | apply Kd.N_drew)); exact HO_10.out) (by first | exact Kd.N_base ho0 | exact Kd.S_base ho0) hb); have n2_ := Aside0.mk (Kd.R_below (by (with_reducible repeat (first | apply Kd.R_alloc | apply Kd.R_drewN | apply Kd.R_drew)); exact HO_45.out) hb); have n3_ := Aside0.mk (Kd.N_elder' (by (with_reducible repeat (first | apply Kd.N_alloc | apply Kd.N_drewN | apply Kd.N_drew)); exact HO428.out) (by first | exact Kd.N_base ho0 | exact Kd.S_base ho0) hb); have n4_ := Aside0.mk (Kd.N_lower (Kd.N_mono (ok' := fun k_ => some k_ ≠ (.slice (some ad425) y416.length co25 : Value).ownBlock ∧ some k_ ≠ (v427 : Value).ownBlock) ho0 (fun k_ hk_ => ⟨Or.elim hk_ (fun hs_ => hs_.1) (fun hn_ => (Kd.fresh' (Kd.R_lt (by (with_reducible repeat (first | apply Kd.R_alloc | apply Kd.R_drewN | apply Kd.R_drew)); exact HO_45.out)) k_ hn_)), Or.elim hk_ (fun hs_ => hs_.2) (fun hn_ => (Kd.fresh' (Kd.N_lt (by (with_reducible repeat (first | apply Kd.N_alloc | apply Kd.N_drewN | apply Kd.N_drew)); exact HO428.out)) k_ hn_))⟩)) (below_size pb)); have n5_ := Aside0.mk (below_step pb hb); clear HO_9; clear HO_10; clear HO_45; clear HO428; clear HB; have HO_9 := n0_; have HO_10 := n1_; have HO_45 := n2_; have HO428 := n3_; have HO432 := n4_; have HB := n5_; clear n0_ n1_ n2_ n3_ n4_ n5_; (try clear hb); (try clear hb2); (try clear hk); (try clear hi); (try clear ho0); obtain ⟨Ao38, co38, eo38⟩ := Kd.N_slice HO428.out; subst eo38; obtain ⟨Ao39, co39, eo39⟩ := Kd.N_slice HO432.out; subst eo39) | (go_at_call 13; (with_reducible refine (halyardref2_SameEntries.calls k2 _ _ t426 _ _ t430 true _ ?side1 ?side2 ?side3 ?side4 A33.out).mono ?_); (case side1 => repeat (first | exact (Kd.N_reads' HO428.out).2.2 | (with_reducible refine Kd.C_alloc ?_ _) | (with_reducible refine Kd.C_drewN ?_ _) | (with_reducible refine Kd.C_drew ?_))); (case side2 => exact (Kd.N_reads' HO428.out).2.1); (case side3 => repeat (first | exact (Kd.N_reads' HO432.out).2.2 | (with_reducible refine Kd.C_alloc ?_ _) | (with_reducible refine Kd.C_drewN ?_ _) | (with_reducible refine Kd.C_drew ?_))); (case side4 => exact (Kd.N_reads' HO432.out).2.1); rintro e w40 ⟨rfl, hb⟩; have n0_ := Aside0.mk (Kd.V_below (by (with_reducible repeat (first | apply Kd.V_alloc | apply Kd.V_drewN | apply Kd.V_drew)); exact HO_9.out) hb); have n1_ := Aside0.mk (Kd.N_below (by (with_reducible repeat (first | apply Kd.N_alloc | apply Kd.N_drewN | apply Kd.N_drew)); exact HO_10.out) hb); have n2_ := Aside0.mk (Kd.R_below (by (with_reducible repeat (first | apply Kd.R_alloc | apply Kd.R_drewN | apply Kd.R_drew)); exact HO_45.out) hb); have n3_ := Aside0.mk (Kd.N_below (by (with_reducible repeat (first | apply Kd.N_alloc | apply Kd.N_drewN | apply Kd.N_drew)); exact HO428.out) hb); have n4_ := Aside0.mk (Kd.N_below (by (with_reducible repeat (first | apply Kd.N_alloc | apply Kd.N_drewN | apply Kd.N_drew)); exact HO432.out) hb); have n5_ := Aside0.mk (below_step pb hb); clear HO_9; clear HO_10; clear HO_45; clear HO428; clear HO432; clear HB; have HO_9 := n0_; have HO_10 := n1_; have HO_45 := n2_; have HO428 := n3_; have HO432 := n4_; have HB := n5_; clear n0_ n1_ n2_ n3_ n4_ n5_; (try clear hb); (try clear hb2); (try clear hk); (try clear hi)))
                              go_roundg k2
                              case measure => have := HJ4.out; have := HK2.out; omega
                              case rel => exact ⟨(wrap64 (x47_2 + 1)), (by first | rfl | (simp; done) | (simp [*]; done)), H', ⟨by have := HJ4.out; have := HK2.out; omega⟩, ⟨by (with_reducible repeat (first | apply Kd.V_alloc | apply Kd.V_drewN | apply Kd.V_drew)); exact Kd.V_mono HO_9.out (fun _ hk => ⟨hk.1.1.1, hk.1.1.2⟩)⟩, ⟨by (with_reducible repeat (first | apply Kd.N_alloc | apply Kd.N_drewN | apply Kd.N_drew)); exact Kd.N_mono HO_10.out (fun _ hk => hk.1.1)⟩, ⟨by (with_reducible repeat (first | apply Kd.R_alloc | apply Kd.R_drewN | apply Kd.R_drew)); exact HO_45.out⟩, ⟨pb⟩⟩
                            · replace c34 := Bool.eq_false_iff.mpr c34
                              subst c34
                              have H1 : (some false) = some r := by rw [if_neg (show ¬ (false = true) by decide)] at H; exact H
                              clear H
                              have H := H1
                              clear H1
                              obtain rfl := Option.some.inj H
                              have p425 : 0 ≤ (x47_2 : Int) := pa
                              have q425 : x47_2 < (y416.length : Int) := pa
                              obtain ⟨ad425, e425, hx425_0⟩ := Kd.at_int (Kd.R_reads' HO_45.out).2.2 x47_2 p425 q425
                              cases e425
                              replace p425 := eq_true p425
                              replace q425 := eq_true q425
                              go_wp2_with (first | ((with_reducible refine gate_callee (f := 18) rfl ?_); refine goesL_ (some 55) rfl rfl Try.func18 (by kernel_rfl) rfl #[.slice Ao19 t403.length co19, .int .i64 (rd y416 x47_2), .int .i64 a2] rfl pm ?_; (with_reducible refine (squash_Live.calls k2 (fun k_ => (some k_ ≠ (v407 : Value).ownBlock ∧ some k_ ≠ (.slice (some ad425) y416.length co25 : Value).ownBlock)) _ _ t403 (rd y416 x47_2) a2 t426 t429 _ ?side1 A29.out).mono ?_); (case side1 => exact HO_9.out); rintro e w41 ⟨v427, rfl, ho0, hb⟩; replace ho0 := Kd.N_mono (ok' := fun k_ => (some k_ ≠ (v407 : Value).ownBlock ∧ some k_ ≠ (.slice (some ad425) y416.length co25 : Value).ownBlock) ∨ _ ≤ k_) (Kd.S_N ho0) (fun k_ hk_ => .inr hk_); refine ⟨_, rfl, ?_⟩; have n0_ := Aside0.mk (Kd.V_elder' (by (with_reducible repeat (first | apply Kd.V_alloc | apply Kd.V_drewN | apply Kd.V_drew)); exact HO_9.out) (by first | exact Kd.N_base ho0 | exact Kd.S_base ho0) hb); have n1_ := Aside0.mk (Kd.N_elder' (by (with_reducible repeat (first | apply Kd.N_alloc | apply Kd.N_drewN | apply Kd.N_drew)); exact HO_10.out) (by first | exact Kd.N_base ho0 | exact Kd.S_base ho0) hb); have n2_ := Aside0.mk (Kd.R_below (by (with_reducible repeat (first | apply Kd.R_alloc | apply Kd.R_drewN | apply Kd.R_drew)); exact HO_45.out) hb); have n3_ := Aside0.mk (Kd.N_lower (Kd.N_mono (ok' := fun k_ => some k_ ≠ (v407 : Value).ownBlock ∧ some k_ ≠ (.slice (some ad425) y416.length co25 : Value).ownBlock) ho0 (fun k_ hk_ => ⟨Or.elim hk_ (fun hs_ => hs_.1) (fun hn_ => (Kd.fresh' (Kd.N_lt (by (with_reducible repeat (first | apply Kd.N_alloc | apply Kd.N_drewN | apply Kd.N_drew)); exact HO_10.out)) k_ hn_)), Or.elim hk_ (fun hs_ => hs_.2) (fun hn_ => (Kd.fresh' (Kd.R_lt (by (with_reducible repeat (first | apply Kd.R_alloc | apply Kd.R_drewN | apply Kd.R_drew)); exact HO_45.out)) k_ hn_))⟩)) (below_size pb)); have n4_ := Aside0.mk (below_step pb hb); clear HO_9; clear HO_10; clear HO_45; clear HB; have HO_9 := n0_; have HO_10 := n1_; have HO_45 := n2_; have HO428 := n3_; have HB := n4_; clear n0_ n1_ n2_ n3_ n4_; (try clear hb); (try clear hb2); (try clear hk); (try clear hi); (try clear ho0); obtain ⟨Ao42, co42, eo42⟩ := Kd.N_slice HO_10.out; subst eo42) | ((with_reducible refine gate_callee (f := 18) rfl ?_); refine goesL_ (some 62) rfl rfl Try.func18 (by kernel_rfl) rfl #[.slice Ao42 t406.length co42, .int .i64 (rd y416 x47_2), .int .i64 a2] rfl pm ?_; (with_reducible refine (squash_Live.calls k2 (fun k_ => (some k_ ≠ (.slice (some ad425) y416.length co25 : Value).ownBlock ∧ some k_ ≠ (v427 : Value).ownBlock)) _ _ t406 (rd y416 x47_2) a2 t430 t433 _ ?side1 A30.out).mono ?_); (case side1 => exact Kd.N_V (HO_10.out)); rintro e w43 ⟨v431, rfl, ho0, hb⟩; replace ho0 := Kd.N_mono (ok' := fun k_ => (some k_ ≠ (.slice (some ad425) y416.length co25 : Value).ownBlock ∧ some k_ ≠ (v427 : Value).ownBlock) ∨ _ ≤ k_) (Kd.S_N ho0) (fun k_ hk_ => .inr hk_); refine ⟨_, rfl, ?_⟩; have n0_ := Aside0.mk (Kd.V_elder' (by (with_reducible repeat (first | apply Kd.V_alloc | apply Kd.V_drewN | apply Kd.V_drew)); exact HO_9.out) (by first | exact Kd.N_base ho0 | exact Kd.S_base ho0) hb); have n1_ := Aside0.mk (Kd.N_elder' (by (with_reducible repeat (first | apply Kd.N_alloc | apply Kd.N_drewN | apply Kd.N_drew)); exact HO_10.out) (by first | exact Kd.N_base ho0 | exact Kd.S_base ho0) hb); have n2_ := Aside0.mk (Kd.R_below (by (with_reducible repeat (first | apply Kd.R_alloc | apply Kd.R_drewN | apply Kd.R_drew)); exact HO_45.out) hb); have n3_ := Aside0.mk (Kd.N_elder' (by (with_reducible repeat (first | apply Kd.N_alloc | apply Kd.N_drewN | apply Kd.N_drew)); exact HO428.out) (by first | exact Kd.N_base ho0 | exact Kd.S_base ho0) hb); have n4_ := Aside0.mk (Kd.N_lower (Kd.N_mono (ok' := fun k_ => some k_ ≠ (.slice (some ad425) y416.length co25 : Value).ownBlock ∧ some k_ ≠ (v427 : Value).ownBlock) ho0 (fun k_ hk_ => ⟨Or.elim hk_ (fun hs_ => hs_.1) (fun hn_ => (Kd.fresh' (Kd.R_lt (by (with_reducible repeat (first | apply Kd.R_alloc | apply Kd.R_drewN | apply Kd.R_drew)); exact HO_45.out)) k_ hn_)), Or.elim hk_ (fun hs_ => hs_.2) (fun hn_ => (Kd.fresh' (Kd.N_lt (by (with_reducible repeat (first | apply Kd.N_alloc | apply Kd.N_drewN | apply Kd.N_drew)); exact HO428.out)) k_ hn_))⟩)) (below_size pb)); have n5_ := Aside0.mk (below_step pb hb); clear HO_9; clear HO_10; clear HO_45; clear HO428; clear HB; have HO_9 := n0_; have HO_10 := n1_; have HO_45 := n2_; have HO428 := n3_; have HO432 := n4_; have HB := n5_; clear n0_ n1_ n2_ n3_ n4_ n5_; (try clear hb); (try clear hb2); (try clear hk); (try clear hi); (try clear ho0); obtain ⟨Ao44, co44, eo44⟩ := Kd.N_slice HO428.out; subst eo44; obtain ⟨Ao45, co45, eo45⟩ := Kd.N_slice HO432.out; subst eo45) | (go_at_call 13; (with_reducible refine (halyardref2_SameEntries.calls k2 _ _ t426 _ _ t430 false _ ?side1 ?side2 ?side3 ?side4 A33.out).mono ?_); (case side1 => repeat (first | exact (Kd.N_reads' HO428.out).2.2 | (with_reducible refine Kd.C_alloc ?_ _) | (with_reducible refine Kd.C_drewN ?_ _) | (with_reducible refine Kd.C_drew ?_))); (case side2 => exact (Kd.N_reads' HO428.out).2.1); (case side3 => repeat (first | exact (Kd.N_reads' HO432.out).2.2 | (with_reducible refine Kd.C_alloc ?_ _) | (with_reducible refine Kd.C_drewN ?_ _) | (with_reducible refine Kd.C_drew ?_))); (case side4 => exact (Kd.N_reads' HO432.out).2.1); rintro e w46 ⟨rfl, hb⟩; have n0_ := Aside0.mk (Kd.V_below (by (with_reducible repeat (first | apply Kd.V_alloc | apply Kd.V_drewN | apply Kd.V_drew)); exact HO_9.out) hb); have n1_ := Aside0.mk (Kd.N_below (by (with_reducible repeat (first | apply Kd.N_alloc | apply Kd.N_drewN | apply Kd.N_drew)); exact HO_10.out) hb); have n2_ := Aside0.mk (Kd.R_below (by (with_reducible repeat (first | apply Kd.R_alloc | apply Kd.R_drewN | apply Kd.R_drew)); exact HO_45.out) hb); have n3_ := Aside0.mk (Kd.N_below (by (with_reducible repeat (first | apply Kd.N_alloc | apply Kd.N_drewN | apply Kd.N_drew)); exact HO428.out) hb); have n4_ := Aside0.mk (Kd.N_below (by (with_reducible repeat (first | apply Kd.N_alloc | apply Kd.N_drewN | apply Kd.N_drew)); exact HO432.out) hb); have n5_ := Aside0.mk (below_step pb hb); clear HO_9; clear HO_10; clear HO_45; clear HO428; clear HO432; clear HB; have HO_9 := n0_; have HO_10 := n1_; have HO_45 := n2_; have HO428 := n3_; have HO432 := n4_; have HB := n5_; clear n0_ n1_ n2_ n3_ n4_ n5_; (try clear hb); (try clear hb2); (try clear hk); (try clear hi)))
                              go_ret
                              exact ⟨by first | rfl | (simp [errW_none, errW_some] <;> rfl) | (simp [*, errW_none, errW_some] <;> rfl), pb⟩
                          · rw [if_neg c32] at H
                            have c32b0 : (t433 == 0) = false := beq_eq_false_iff_ne.mpr c32
                            have c32b1 : (t433 != 0) = true := bne_iff_ne.mpr c32
                            obtain rfl := Option.some.inj H
                            have p425 : 0 ≤ (x47_2 : Int) := pa
                            have q425 : x47_2 < (y416.length : Int) := pa
                            obtain ⟨ad425, e425, hx425_0⟩ := Kd.at_int (Kd.R_reads' HO_45.out).2.2 x47_2 p425 q425
                            cases e425
                            replace p425 := eq_true p425
                            replace q425 := eq_true q425
                            go_wp2_with (first | ((with_reducible refine gate_callee (f := 18) rfl ?_); refine goesL_ (some 55) rfl rfl Try.func18 (by kernel_rfl) rfl #[.slice Ao19 t403.length co19, .int .i64 (rd y416 x47_2), .int .i64 a2] rfl pm ?_; (with_reducible refine (squash_Live.calls k2 (fun k_ => (some k_ ≠ (v407 : Value).ownBlock ∧ some k_ ≠ (.slice (some ad425) y416.length co25 : Value).ownBlock)) _ _ t403 (rd y416 x47_2) a2 t426 t429 _ ?side1 A29.out).mono ?_); (case side1 => exact HO_9.out); rintro e w47 ⟨v427, rfl, ho0, hb⟩; replace ho0 := Kd.N_mono (ok' := fun k_ => (some k_ ≠ (v407 : Value).ownBlock ∧ some k_ ≠ (.slice (some ad425) y416.length co25 : Value).ownBlock) ∨ _ ≤ k_) (Kd.S_N ho0) (fun k_ hk_ => .inr hk_); refine ⟨_, rfl, ?_⟩; have n0_ := Aside0.mk (Kd.V_elder' (by (with_reducible repeat (first | apply Kd.V_alloc | apply Kd.V_drewN | apply Kd.V_drew)); exact HO_9.out) (by first | exact Kd.N_base ho0 | exact Kd.S_base ho0) hb); have n1_ := Aside0.mk (Kd.N_elder' (by (with_reducible repeat (first | apply Kd.N_alloc | apply Kd.N_drewN | apply Kd.N_drew)); exact HO_10.out) (by first | exact Kd.N_base ho0 | exact Kd.S_base ho0) hb); have n2_ := Aside0.mk (Kd.R_below (by (with_reducible repeat (first | apply Kd.R_alloc | apply Kd.R_drewN | apply Kd.R_drew)); exact HO_45.out) hb); have n3_ := Aside0.mk (Kd.N_lower (Kd.N_mono (ok' := fun k_ => some k_ ≠ (v407 : Value).ownBlock ∧ some k_ ≠ (.slice (some ad425) y416.length co25 : Value).ownBlock) ho0 (fun k_ hk_ => ⟨Or.elim hk_ (fun hs_ => hs_.1) (fun hn_ => (Kd.fresh' (Kd.N_lt (by (with_reducible repeat (first | apply Kd.N_alloc | apply Kd.N_drewN | apply Kd.N_drew)); exact HO_10.out)) k_ hn_)), Or.elim hk_ (fun hs_ => hs_.2) (fun hn_ => (Kd.fresh' (Kd.R_lt (by (with_reducible repeat (first | apply Kd.R_alloc | apply Kd.R_drewN | apply Kd.R_drew)); exact HO_45.out)) k_ hn_))⟩)) (below_size pb)); have n4_ := Aside0.mk (below_step pb hb); clear HO_9; clear HO_10; clear HO_45; clear HB; have HO_9 := n0_; have HO_10 := n1_; have HO_45 := n2_; have HO428 := n3_; have HB := n4_; clear n0_ n1_ n2_ n3_ n4_; (try clear hb); (try clear hb2); (try clear hk); (try clear hi); (try clear ho0); obtain ⟨Ao48, co48, eo48⟩ := Kd.N_slice HO_10.out; subst eo48) | ((with_reducible refine gate_callee (f := 18) rfl ?_); refine goesL_ (some 62) rfl rfl Try.func18 (by kernel_rfl) rfl #[.slice Ao48 t406.length co48, .int .i64 (rd y416 x47_2), .int .i64 a2] rfl pm ?_; (with_reducible refine (squash_Live.calls k2 (fun k_ => (some k_ ≠ (.slice (some ad425) y416.length co25 : Value).ownBlock ∧ some k_ ≠ (v427 : Value).ownBlock)) _ _ t406 (rd y416 x47_2) a2 t430 t433 _ ?side1 A30.out).mono ?_); (case side1 => exact Kd.N_V (HO_10.out)); rintro e w49 ⟨v431, rfl, ho0, hb⟩; replace ho0 := Kd.N_mono (ok' := fun k_ => (some k_ ≠ (.slice (some ad425) y416.length co25 : Value).ownBlock ∧ some k_ ≠ (v427 : Value).ownBlock) ∨ _ ≤ k_) (Kd.S_N ho0) (fun k_ hk_ => .inr hk_); refine ⟨_, rfl, ?_⟩; have n0_ := Aside0.mk (Kd.V_elder' (by (with_reducible repeat (first | apply Kd.V_alloc | apply Kd.V_drewN | apply Kd.V_drew)); exact HO_9.out) (by first | exact Kd.N_base ho0 | exact Kd.S_base ho0) hb); have n1_ := Aside0.mk (Kd.N_elder' (by (with_reducible repeat (first | apply Kd.N_alloc | apply Kd.N_drewN | apply Kd.N_drew)); exact HO_10.out) (by first | exact Kd.N_base ho0 | exact Kd.S_base ho0) hb); have n2_ := Aside0.mk (Kd.R_below (by (with_reducible repeat (first | apply Kd.R_alloc | apply Kd.R_drewN | apply Kd.R_drew)); exact HO_45.out) hb); have n3_ := Aside0.mk (Kd.N_elder' (by (with_reducible repeat (first | apply Kd.N_alloc | apply Kd.N_drewN | apply Kd.N_drew)); exact HO428.out) (by first | exact Kd.N_base ho0 | exact Kd.S_base ho0) hb); have n4_ := Aside0.mk (Kd.N_lower (Kd.N_mono (ok' := fun k_ => some k_ ≠ (.slice (some ad425) y416.length co25 : Value).ownBlock ∧ some k_ ≠ (v427 : Value).ownBlock) ho0 (fun k_ hk_ => ⟨Or.elim hk_ (fun hs_ => hs_.1) (fun hn_ => (Kd.fresh' (Kd.R_lt (by (with_reducible repeat (first | apply Kd.R_alloc | apply Kd.R_drewN | apply Kd.R_drew)); exact HO_45.out)) k_ hn_)), Or.elim hk_ (fun hs_ => hs_.2) (fun hn_ => (Kd.fresh' (Kd.N_lt (by (with_reducible repeat (first | apply Kd.N_alloc | apply Kd.N_drewN | apply Kd.N_drew)); exact HO428.out)) k_ hn_))⟩)) (below_size pb)); have n5_ := Aside0.mk (below_step pb hb); clear HO_9; clear HO_10; clear HO_45; clear HO428; clear HB; have HO_9 := n0_; have HO_10 := n1_; have HO_45 := n2_; have HO428 := n3_; have HO432 := n4_; have HB := n5_; clear n0_ n1_ n2_ n3_ n4_ n5_; (try clear hb); (try clear hb2); (try clear hk); (try clear hi); (try clear ho0)))
                            go_ret
                            exact ⟨by first | rfl | (simp [errW_none, errW_some] <;> rfl) | (simp [*, errW_none, errW_some] <;> rfl), pb⟩
                        · rw [if_neg c31] at H
                          have c31b0 : (t429 == 0) = false := beq_eq_false_iff_ne.mpr c31
                          have c31b1 : (t429 != 0) = true := bne_iff_ne.mpr c31
                          obtain rfl := Option.some.inj H
                          have p425 : 0 ≤ (x47_2 : Int) := pa
                          have q425 : x47_2 < (y416.length : Int) := pa
                          obtain ⟨ad425, e425, hx425_0⟩ := Kd.at_int (Kd.R_reads' HO_45.out).2.2 x47_2 p425 q425
                          cases e425
                          replace p425 := eq_true p425
                          replace q425 := eq_true q425
                          go_wp2_with (first | ((with_reducible refine gate_callee (f := 18) rfl ?_); refine goesL_ (some 55) rfl rfl Try.func18 (by kernel_rfl) rfl #[.slice Ao19 t403.length co19, .int .i64 (rd y416 x47_2), .int .i64 a2] rfl pm ?_; (with_reducible refine (squash_Live.calls k2 (fun k_ => (some k_ ≠ (v407 : Value).ownBlock ∧ some k_ ≠ (.slice (some ad425) y416.length co25 : Value).ownBlock)) _ _ t403 (rd y416 x47_2) a2 t426 t429 _ ?side1 A29.out).mono ?_); (case side1 => exact HO_9.out); rintro e w50 ⟨v427, rfl, ho0, hb⟩; replace ho0 := Kd.N_mono (ok' := fun k_ => (some k_ ≠ (v407 : Value).ownBlock ∧ some k_ ≠ (.slice (some ad425) y416.length co25 : Value).ownBlock) ∨ _ ≤ k_) (Kd.S_N ho0) (fun k_ hk_ => .inr hk_); refine ⟨_, rfl, ?_⟩; have n0_ := Aside0.mk (Kd.V_elder' (by (with_reducible repeat (first | apply Kd.V_alloc | apply Kd.V_drewN | apply Kd.V_drew)); exact HO_9.out) (by first | exact Kd.N_base ho0 | exact Kd.S_base ho0) hb); have n1_ := Aside0.mk (Kd.N_elder' (by (with_reducible repeat (first | apply Kd.N_alloc | apply Kd.N_drewN | apply Kd.N_drew)); exact HO_10.out) (by first | exact Kd.N_base ho0 | exact Kd.S_base ho0) hb); have n2_ := Aside0.mk (Kd.R_below (by (with_reducible repeat (first | apply Kd.R_alloc | apply Kd.R_drewN | apply Kd.R_drew)); exact HO_45.out) hb); have n3_ := Aside0.mk (Kd.N_lower (Kd.N_mono (ok' := fun k_ => some k_ ≠ (v407 : Value).ownBlock ∧ some k_ ≠ (.slice (some ad425) y416.length co25 : Value).ownBlock) ho0 (fun k_ hk_ => ⟨Or.elim hk_ (fun hs_ => hs_.1) (fun hn_ => (Kd.fresh' (Kd.N_lt (by (with_reducible repeat (first | apply Kd.N_alloc | apply Kd.N_drewN | apply Kd.N_drew)); exact HO_10.out)) k_ hn_)), Or.elim hk_ (fun hs_ => hs_.2) (fun hn_ => (Kd.fresh' (Kd.R_lt (by (with_reducible repeat (first | apply Kd.R_alloc | apply Kd.R_drewN | apply Kd.R_drew)); exact HO_45.out)) k_ hn_))⟩)) (below_size pb)); have n4_ := Aside0.mk (below_step pb hb); clear HO_9; clear HO_10; clear HO_45; clear HB; have HO_9 := n0_; have HO_10 := n1_; have HO_45 := n2_; have HO428 := n3_; have HB := n4_; clear n0_ n1_ n2_ n3_ n4_; (try clear hb); (try clear hb2); (try clear hk); (try clear hi); (try clear ho0); obtain ⟨Ao51, co51, eo51⟩ := Kd.N_slice HO_10.out; subst eo51) | ((with_reducible refine gate_callee (f := 18) rfl ?_); refine goesL_ (some 62) rfl rfl Try.func18 (by kernel_rfl) rfl #[.slice Ao51 t406.length co51, .int .i64 (rd y416 x47_2), .int .i64 a2] rfl pm ?_; (with_reducible refine (squash_Live.calls k2 (fun k_ => (some k_ ≠ (.slice (some ad425) y416.length co25 : Value).ownBlock ∧ some k_ ≠ (v427 : Value).ownBlock)) _ _ t406 (rd y416 x47_2) a2 t430 t433 _ ?side1 A30.out).mono ?_); (case side1 => exact Kd.N_V (HO_10.out)); rintro e w52 ⟨v431, rfl, ho0, hb⟩; replace ho0 := Kd.N_mono (ok' := fun k_ => (some k_ ≠ (.slice (some ad425) y416.length co25 : Value).ownBlock ∧ some k_ ≠ (v427 : Value).ownBlock) ∨ _ ≤ k_) (Kd.S_N ho0) (fun k_ hk_ => .inr hk_); refine ⟨_, rfl, ?_⟩; have n0_ := Aside0.mk (Kd.V_elder' (by (with_reducible repeat (first | apply Kd.V_alloc | apply Kd.V_drewN | apply Kd.V_drew)); exact HO_9.out) (by first | exact Kd.N_base ho0 | exact Kd.S_base ho0) hb); have n1_ := Aside0.mk (Kd.N_elder' (by (with_reducible repeat (first | apply Kd.N_alloc | apply Kd.N_drewN | apply Kd.N_drew)); exact HO_10.out) (by first | exact Kd.N_base ho0 | exact Kd.S_base ho0) hb); have n2_ := Aside0.mk (Kd.R_below (by (with_reducible repeat (first | apply Kd.R_alloc | apply Kd.R_drewN | apply Kd.R_drew)); exact HO_45.out) hb); have n3_ := Aside0.mk (Kd.N_elder' (by (with_reducible repeat (first | apply Kd.N_alloc | apply Kd.N_drewN | apply Kd.N_drew)); exact HO428.out) (by first | exact Kd.N_base ho0 | exact Kd.S_base ho0) hb); have n4_ := Aside0.mk (Kd.N_lower (Kd.N_mono (ok' := fun k_ => some k_ ≠ (.slice (some ad425) y416.length co25 : Value).ownBlock ∧ some k_ ≠ (v427 : Value).ownBlock) ho0 (fun k_ hk_ => ⟨Or.elim hk_ (fun hs_ => hs_.1) (fun hn_ => (Kd.fresh' (Kd.R_lt (by (with_reducible repeat (first | apply Kd.R_alloc | apply Kd.R_drewN | apply Kd.R_drew)); exact HO_45.out)) k_ hn_)), Or.elim hk_ (fun hs_ => hs_.2) (fun hn_ => (Kd.fresh' (Kd.N_lt (by (with_reducible repeat (first | apply Kd.N_alloc | apply Kd.N_drewN | apply Kd.N_drew)); exact HO428.out)) k_ hn_))⟩)) (below_size pb)); have n5_ := Aside0.mk (below_step pb hb); clear HO_9; clear HO_10; clear HO_45; clear HO428; clear HB; have HO_9 := n0_; have HO_10 := n1_; have HO_45 := n2_; have HO428 := n3_; have HO432 := n4_; have HB := n5_; clear n0_ n1_ n2_ n3_ n4_ n5_; (try clear hb); (try clear hb2); (try clear hk); (try clear hi); (try clear ho0)))
                          go_ret
                          exact ⟨by first | rfl | (simp [errW_none, errW_some] <;> rfl) | (simp [*, errW_none, errW_some] <;> rfl), pb⟩
                      · rw [if_neg c28] at H
                        exact absurd H (by simp)
                    · rw [if_neg c27] at H
                      exact absurd H (by simp)
                  · rw [if_neg c26] at H
                    have c26b0 : decide (x47_2 < (y416.length : Int)) = false := decide_eq_false c26
                    clear c26
                    replace H := Option.bind_eq_some_iff.mp H
                    obtain ⟨⟨t419, t422⟩, A530, H⟩ := H
                    replace H : (if t422 = 0 then ((halyardref2_SameEntries.f k2 t419 t406).bind fun t423 => (if t423 = true then (if (t406.length : Int) ≤ (t403.length : Int) then ((halyardlaw18_awake.f k2).bind fun t424 => (some t424)) else (some false)) else (some false))) else (some false)) = some r := H
                    have A53 := Aside0.mk A530
                    clear A530
                    by_cases c54 : t422 = 0
                    · rw [if_pos c54] at H
                      have c54b0 : (t422 == 0) = true := beq_iff_eq.mpr c54
                      have c54b1 : (t422 != 0) = false := bne_eq_false_iff_eq.mpr c54
                      clear c54
                      replace H := Option.bind_eq_some_iff.mp H
                      obtain ⟨t423, A550, H⟩ := H
                      replace H : (if t423 = true then (if (t406.length : Int) ≤ (t403.length : Int) then ((halyardlaw18_awake.f k2).bind fun t424 => (some t424)) else (some false)) else (some false)) = some r := H
                      have A55 := Aside0.mk A550
                      clear A550
                      by_cases c56 : t423 = true
                      · subst c56
                        have H1 : (if (t406.length : Int) ≤ (t403.length : Int) then ((halyardlaw18_awake.f k2).bind fun t424 => (some t424)) else (some false)) = some r := by rw [if_pos rfl] at H; exact H
                        clear H
                        have H := H1
                        clear H1
                        by_cases c57 : (t406.length : Int) ≤ (t403.length : Int)
                        · rw [if_pos c57] at H
                          have c57b0 : decide ((t406.length : Int) ≤ (t403.length : Int)) = true := decide_eq_true c57
                          have c57b1 : decide (t406.length ≤ t403.length) = true := decide_eq_true (Int.ofNat_le.mp c57)
                          clear c57
                          replace H := Option.bind_eq_some_iff.mp H
                          obtain ⟨t424, A580, H⟩ := H
                          replace H : (some t424) = some r := H
                          have A58 := Aside0.mk A580
                          clear A580
                          obtain rfl := Option.some.inj H
                          obtain ⟨Ao59, co59, eo59⟩ := Kd.N_slice HO_10.out
                          subst eo59
                          go_wp2_with (first | ((with_reducible refine gate_callee (f := 11) rfl ?_); refine goesL_ (some 83) rfl rfl Try.func11 (by kernel_rfl) rfl #[.slice Ao59 t406.length co59, .slice A1 l1.length c1, .int .i64 a2, .bool a3] rfl pm ?_; (with_reducible refine (squash_Keep.calls k2 (fun k_ => some k_ ≠ (.slice Ao25 y416.length co25 : Value).ownBlock) _ _ t406 _ _ l1 a2 a3 t419 t422 _ ?side1 ?side2 ?side3 A53.out).mono ?_); (case side1 => exact Kd.N_V (HO_10.out)); (case side2 => repeat (first | exact (Kd.C_below HR1.out HB.out) | (with_reducible refine Kd.C_alloc ?_ _) | (with_reducible refine Kd.C_drewN ?_ _) | (with_reducible refine Kd.C_drew ?_))); (case side3 => exact HC1.out); rintro e w60 ⟨v420, rfl, ho0, hb⟩; refine ⟨_, rfl, ?_⟩; have n0_ := Aside0.mk (Kd.V_elder' (by (with_reducible repeat (first | apply Kd.V_alloc | apply Kd.V_drewN | apply Kd.V_drew)); exact HO_9.out) (by first | exact Kd.N_base ho0 | exact Kd.S_base ho0) hb); have n1_ := Aside0.mk (Kd.N_elder' (by (with_reducible repeat (first | apply Kd.N_alloc | apply Kd.N_drewN | apply Kd.N_drew)); exact HO_10.out) (by first | exact Kd.N_base ho0 | exact Kd.S_base ho0) hb); have n2_ := Aside0.mk (Kd.R_below (by (with_reducible repeat (first | apply Kd.R_alloc | apply Kd.R_drewN | apply Kd.R_drew)); exact HO_45.out) hb); have n3_ := Aside0.mk (Kd.N_lower (Kd.N_mono (ok' := fun k_ => some k_ ≠ (.slice Ao25 y416.length co25 : Value).ownBlock) ho0 (fun k_ hk_ => Or.elim hk_ (fun hs_ => hs_) (fun hn_ => (Kd.fresh' (Kd.R_lt (by (with_reducible repeat (first | apply Kd.R_alloc | apply Kd.R_drewN | apply Kd.R_drew)); exact HO_45.out)) k_ hn_)))) (below_size pb)); have n4_ := Aside0.mk (below_step pb hb); clear HO_9; clear HO_10; clear HO_45; clear HB; have HO_9 := n0_; have HO_10 := n1_; have HO_45 := n2_; have HO421 := n3_; have HB := n4_; clear n0_ n1_ n2_ n3_ n4_; (try clear hb); (try clear hb2); (try clear hk); (try clear hi); (try clear ho0); obtain ⟨Ao61, co61, eo61⟩ := Kd.N_slice HO421.out; subst eo61) | (go_at_call 13; (with_reducible refine (halyardref2_SameEntries.calls k2 _ _ t419 _ _ t406 true _ ?side1 ?side2 ?side3 ?side4 A55.out).mono ?_); (case side1 => repeat (first | exact (Kd.N_reads' HO421.out).2.2 | (with_reducible refine Kd.C_alloc ?_ _) | (with_reducible refine Kd.C_drewN ?_ _) | (with_reducible refine Kd.C_drew ?_))); (case side2 => exact (Kd.N_reads' HO421.out).2.1); (case side3 => repeat (first | exact (Kd.N_reads' HO_10.out).2.2 | (with_reducible refine Kd.C_alloc ?_ _) | (with_reducible refine Kd.C_drewN ?_ _) | (with_reducible refine Kd.C_drew ?_))); (case side4 => exact (Kd.N_reads' HO_10.out).2.1); rintro e w62 ⟨rfl, hb⟩; have n0_ := Aside0.mk (Kd.V_below (by (with_reducible repeat (first | apply Kd.V_alloc | apply Kd.V_drewN | apply Kd.V_drew)); exact HO_9.out) hb); have n1_ := Aside0.mk (Kd.N_below (by (with_reducible repeat (first | apply Kd.N_alloc | apply Kd.N_drewN | apply Kd.N_drew)); exact HO_10.out) hb); have n2_ := Aside0.mk (Kd.R_below (by (with_reducible repeat (first | apply Kd.R_alloc | apply Kd.R_drewN | apply Kd.R_drew)); exact HO_45.out) hb); have n3_ := Aside0.mk (Kd.N_below (by (with_reducible repeat (first | apply Kd.N_alloc | apply Kd.N_drewN | apply Kd.N_drew)); exact HO421.out) hb); have n4_ := Aside0.mk (below_step pb hb); clear HO_9; clear HO_10; clear HO_45; clear HO421; clear HB; have HO_9 := n0_; have HO_10 := n1_; have HO_45 := n2_; have HO421 := n3_; have HB := n4_; clear n0_ n1_ n2_ n3_ n4_; (try clear hb); (try clear hb2); (try clear hk); (try clear hi)) | (go_at_call 10; (with_reducible refine (halyardlaw18_awake.calls k2  t424 _ A58.out).mono ?_); rintro e w63 ⟨rfl, hb⟩; have n0_ := Aside0.mk (Kd.V_below (by (with_reducible repeat (first | apply Kd.V_alloc | apply Kd.V_drewN | apply Kd.V_drew)); exact HO_9.out) hb); have n1_ := Aside0.mk (Kd.N_below (by (with_reducible repeat (first | apply Kd.N_alloc | apply Kd.N_drewN | apply Kd.N_drew)); exact HO_10.out) hb); have n2_ := Aside0.mk (Kd.R_below (by (with_reducible repeat (first | apply Kd.R_alloc | apply Kd.R_drewN | apply Kd.R_drew)); exact HO_45.out) hb); have n3_ := Aside0.mk (Kd.N_below (by (with_reducible repeat (first | apply Kd.N_alloc | apply Kd.N_drewN | apply Kd.N_drew)); exact HO421.out) hb); have n4_ := Aside0.mk (below_step pb hb); clear HO_9; clear HO_10; clear HO_45; clear HO421; clear HB; have HO_9 := n0_; have HO_10 := n1_; have HO_45 := n2_; have HO421 := n3_; have HB := n4_; clear n0_ n1_ n2_ n3_ n4_; (try clear hb); (try clear hb2); (try clear hk); (try clear hi)))
                          go_ret
                          exact ⟨by first | rfl | (simp [errW_none, errW_some] <;> rfl) | (simp [*, errW_none, errW_some] <;> rfl), pb⟩
                        · rw [if_neg c57] at H
                          have c57b0 : decide ((t406.length : Int) ≤ (t403.length : Int)) = false := decide_eq_false c57
                          have c57b1 : decide (t406.length ≤ t403.length) = false := decide_eq_false (fun h => c57 (Int.ofNat_le.mpr h))
                          clear c57
                          obtain rfl := Option.some.inj H
                          obtain ⟨Ao64, co64, eo64⟩ := Kd.N_slice HO_10.out
                          subst eo64
                          go_wp2_with (first | ((with_reducible refine gate_callee (f := 11) rfl ?_); refine goesL_ (some 83) rfl rfl Try.func11 (by kernel_rfl) rfl #[.slice Ao64 t406.length co64, .slice A1 l1.length c1, .int .i64 a2, .bool a3] rfl pm ?_; (with_reducible refine (squash_Keep.calls k2 (fun k_ => some k_ ≠ (.slice Ao25 y416.length co25 : Value).ownBlock) _ _ t406 _ _ l1 a2 a3 t419 t422 _ ?side1 ?side2 ?side3 A53.out).mono ?_); (case side1 => exact Kd.N_V (HO_10.out)); (case side2 => repeat (first | exact (Kd.C_below HR1.out HB.out) | (with_reducible refine Kd.C_alloc ?_ _) | (with_reducible refine Kd.C_drewN ?_ _) | (with_reducible refine Kd.C_drew ?_))); (case side3 => exact HC1.out); rintro e w65 ⟨v420, rfl, ho0, hb⟩; refine ⟨_, rfl, ?_⟩; have n0_ := Aside0.mk (Kd.V_elder' (by (with_reducible repeat (first | apply Kd.V_alloc | apply Kd.V_drewN | apply Kd.V_drew)); exact HO_9.out) (by first | exact Kd.N_base ho0 | exact Kd.S_base ho0) hb); have n1_ := Aside0.mk (Kd.N_elder' (by (with_reducible repeat (first | apply Kd.N_alloc | apply Kd.N_drewN | apply Kd.N_drew)); exact HO_10.out) (by first | exact Kd.N_base ho0 | exact Kd.S_base ho0) hb); have n2_ := Aside0.mk (Kd.R_below (by (with_reducible repeat (first | apply Kd.R_alloc | apply Kd.R_drewN | apply Kd.R_drew)); exact HO_45.out) hb); have n3_ := Aside0.mk (Kd.N_lower (Kd.N_mono (ok' := fun k_ => some k_ ≠ (.slice Ao25 y416.length co25 : Value).ownBlock) ho0 (fun k_ hk_ => Or.elim hk_ (fun hs_ => hs_) (fun hn_ => (Kd.fresh' (Kd.R_lt (by (with_reducible repeat (first | apply Kd.R_alloc | apply Kd.R_drewN | apply Kd.R_drew)); exact HO_45.out)) k_ hn_)))) (below_size pb)); have n4_ := Aside0.mk (below_step pb hb); clear HO_9; clear HO_10; clear HO_45; clear HB; have HO_9 := n0_; have HO_10 := n1_; have HO_45 := n2_; have HO421 := n3_; have HB := n4_; clear n0_ n1_ n2_ n3_ n4_; (try clear hb); (try clear hb2); (try clear hk); (try clear hi); (try clear ho0); obtain ⟨Ao66, co66, eo66⟩ := Kd.N_slice HO421.out; subst eo66) | (go_at_call 13; (with_reducible refine (halyardref2_SameEntries.calls k2 _ _ t419 _ _ t406 true _ ?side1 ?side2 ?side3 ?side4 A55.out).mono ?_); (case side1 => repeat (first | exact (Kd.N_reads' HO421.out).2.2 | (with_reducible refine Kd.C_alloc ?_ _) | (with_reducible refine Kd.C_drewN ?_ _) | (with_reducible refine Kd.C_drew ?_))); (case side2 => exact (Kd.N_reads' HO421.out).2.1); (case side3 => repeat (first | exact (Kd.N_reads' HO_10.out).2.2 | (with_reducible refine Kd.C_alloc ?_ _) | (with_reducible refine Kd.C_drewN ?_ _) | (with_reducible refine Kd.C_drew ?_))); (case side4 => exact (Kd.N_reads' HO_10.out).2.1); rintro e w67 ⟨rfl, hb⟩; have n0_ := Aside0.mk (Kd.V_below (by (with_reducible repeat (first | apply Kd.V_alloc | apply Kd.V_drewN | apply Kd.V_drew)); exact HO_9.out) hb); have n1_ := Aside0.mk (Kd.N_below (by (with_reducible repeat (first | apply Kd.N_alloc | apply Kd.N_drewN | apply Kd.N_drew)); exact HO_10.out) hb); have n2_ := Aside0.mk (Kd.R_below (by (with_reducible repeat (first | apply Kd.R_alloc | apply Kd.R_drewN | apply Kd.R_drew)); exact HO_45.out) hb); have n3_ := Aside0.mk (Kd.N_below (by (with_reducible repeat (first | apply Kd.N_alloc | apply Kd.N_drewN | apply Kd.N_drew)); exact HO421.out) hb); have n4_ := Aside0.mk (below_step pb hb); clear HO_9; clear HO_10; clear HO_45; clear HO421; clear HB; have HO_9 := n0_; have HO_10 := n1_; have HO_45 := n2_; have HO421 := n3_; have HB := n4_; clear n0_ n1_ n2_ n3_ n4_; (try clear hb); (try clear hb2); (try clear hk); (try clear hi)))
                          go_ret
                          exact ⟨by first | rfl | (simp [errW_none, errW_some] <;> rfl) | (simp [*, errW_none, errW_some] <;> rfl), pb⟩
                      · replace c56 := Bool.eq_false_iff.mpr c56
                        subst c56
                        have H1 : (some false) = some r := by rw [if_neg (show ¬ (false = true) by decide)] at H; exact H
                        clear H
                        have H := H1
                        clear H1
                        obtain rfl := Option.some.inj H
                        obtain ⟨Ao68, co68, eo68⟩ := Kd.N_slice HO_10.out
                        subst eo68
                        go_wp2_with (first | ((with_reducible refine gate_callee (f := 11) rfl ?_); refine goesL_ (some 83) rfl rfl Try.func11 (by kernel_rfl) rfl #[.slice Ao68 t406.length co68, .slice A1 l1.length c1, .int .i64 a2, .bool a3] rfl pm ?_; (with_reducible refine (squash_Keep.calls k2 (fun k_ => some k_ ≠ (.slice Ao25 y416.length co25 : Value).ownBlock) _ _ t406 _ _ l1 a2 a3 t419 t422 _ ?side1 ?side2 ?side3 A53.out).mono ?_); (case side1 => exact Kd.N_V (HO_10.out)); (case side2 => repeat (first | exact (Kd.C_below HR1.out HB.out) | (with_reducible refine Kd.C_alloc ?_ _) | (with_reducible refine Kd.C_drewN ?_ _) | (with_reducible refine Kd.C_drew ?_))); (case side3 => exact HC1.out); rintro e w69 ⟨v420, rfl, ho0, hb⟩; refine ⟨_, rfl, ?_⟩; have n0_ := Aside0.mk (Kd.V_elder' (by (with_reducible repeat (first | apply Kd.V_alloc | apply Kd.V_drewN | apply Kd.V_drew)); exact HO_9.out) (by first | exact Kd.N_base ho0 | exact Kd.S_base ho0) hb); have n1_ := Aside0.mk (Kd.N_elder' (by (with_reducible repeat (first | apply Kd.N_alloc | apply Kd.N_drewN | apply Kd.N_drew)); exact HO_10.out) (by first | exact Kd.N_base ho0 | exact Kd.S_base ho0) hb); have n2_ := Aside0.mk (Kd.R_below (by (with_reducible repeat (first | apply Kd.R_alloc | apply Kd.R_drewN | apply Kd.R_drew)); exact HO_45.out) hb); have n3_ := Aside0.mk (Kd.N_lower (Kd.N_mono (ok' := fun k_ => some k_ ≠ (.slice Ao25 y416.length co25 : Value).ownBlock) ho0 (fun k_ hk_ => Or.elim hk_ (fun hs_ => hs_) (fun hn_ => (Kd.fresh' (Kd.R_lt (by (with_reducible repeat (first | apply Kd.R_alloc | apply Kd.R_drewN | apply Kd.R_drew)); exact HO_45.out)) k_ hn_)))) (below_size pb)); have n4_ := Aside0.mk (below_step pb hb); clear HO_9; clear HO_10; clear HO_45; clear HB; have HO_9 := n0_; have HO_10 := n1_; have HO_45 := n2_; have HO421 := n3_; have HB := n4_; clear n0_ n1_ n2_ n3_ n4_; (try clear hb); (try clear hb2); (try clear hk); (try clear hi); (try clear ho0); obtain ⟨Ao70, co70, eo70⟩ := Kd.N_slice HO421.out; subst eo70) | (go_at_call 13; (with_reducible refine (halyardref2_SameEntries.calls k2 _ _ t419 _ _ t406 false _ ?side1 ?side2 ?side3 ?side4 A55.out).mono ?_); (case side1 => repeat (first | exact (Kd.N_reads' HO421.out).2.2 | (with_reducible refine Kd.C_alloc ?_ _) | (with_reducible refine Kd.C_drewN ?_ _) | (with_reducible refine Kd.C_drew ?_))); (case side2 => exact (Kd.N_reads' HO421.out).2.1); (case side3 => repeat (first | exact (Kd.N_reads' HO_10.out).2.2 | (with_reducible refine Kd.C_alloc ?_ _) | (with_reducible refine Kd.C_drewN ?_ _) | (with_reducible refine Kd.C_drew ?_))); (case side4 => exact (Kd.N_reads' HO_10.out).2.1); rintro e w71 ⟨rfl, hb⟩; have n0_ := Aside0.mk (Kd.V_below (by (with_reducible repeat (first | apply Kd.V_alloc | apply Kd.V_drewN | apply Kd.V_drew)); exact HO_9.out) hb); have n1_ := Aside0.mk (Kd.N_below (by (with_reducible repeat (first | apply Kd.N_alloc | apply Kd.N_drewN | apply Kd.N_drew)); exact HO_10.out) hb); have n2_ := Aside0.mk (Kd.R_below (by (with_reducible repeat (first | apply Kd.R_alloc | apply Kd.R_drewN | apply Kd.R_drew)); exact HO_45.out) hb); have n3_ := Aside0.mk (Kd.N_below (by (with_reducible repeat (first | apply Kd.N_alloc | apply Kd.N_drewN | apply Kd.N_drew)); exact HO421.out) hb); have n4_ := Aside0.mk (below_step pb hb); clear HO_9; clear HO_10; clear HO_45; clear HO421; clear HB; have HO_9 := n0_; have HO_10 := n1_; have HO_45 := n2_; have HO421 := n3_; have HB := n4_; clear n0_ n1_ n2_ n3_ n4_; (try clear hb); (try clear hb2); (try clear hk); (try clear hi)))
                        go_ret
                        exact ⟨by first | rfl | (simp [errW_none, errW_some] <;> rfl) | (simp [*, errW_none, errW_some] <;> rfl), pb⟩
                    · rw [if_neg c54] at H
                      have c54b0 : (t422 == 0) = false := beq_eq_false_iff_ne.mpr c54
                      have c54b1 : (t422 != 0) = true := bne_iff_ne.mpr c54
                      obtain rfl := Option.some.inj H
                      obtain ⟨Ao72, co72, eo72⟩ := Kd.N_slice HO_10.out
                      subst eo72
                      go_wp2_with (first | ((with_reducible refine gate_callee (f := 11) rfl ?_); refine goesL_ (some 83) rfl rfl Try.func11 (by kernel_rfl) rfl #[.slice Ao72 t406.length co72, .slice A1 l1.length c1, .int .i64 a2, .bool a3] rfl pm ?_; (with_reducible refine (squash_Keep.calls k2 (fun k_ => some k_ ≠ (.slice Ao25 y416.length co25 : Value).ownBlock) _ _ t406 _ _ l1 a2 a3 t419 t422 _ ?side1 ?side2 ?side3 A53.out).mono ?_); (case side1 => exact Kd.N_V (HO_10.out)); (case side2 => repeat (first | exact (Kd.C_below HR1.out HB.out) | (with_reducible refine Kd.C_alloc ?_ _) | (with_reducible refine Kd.C_drewN ?_ _) | (with_reducible refine Kd.C_drew ?_))); (case side3 => exact HC1.out); rintro e w73 ⟨v420, rfl, ho0, hb⟩; refine ⟨_, rfl, ?_⟩; have n0_ := Aside0.mk (Kd.V_elder' (by (with_reducible repeat (first | apply Kd.V_alloc | apply Kd.V_drewN | apply Kd.V_drew)); exact HO_9.out) (by first | exact Kd.N_base ho0 | exact Kd.S_base ho0) hb); have n1_ := Aside0.mk (Kd.N_elder' (by (with_reducible repeat (first | apply Kd.N_alloc | apply Kd.N_drewN | apply Kd.N_drew)); exact HO_10.out) (by first | exact Kd.N_base ho0 | exact Kd.S_base ho0) hb); have n2_ := Aside0.mk (Kd.R_below (by (with_reducible repeat (first | apply Kd.R_alloc | apply Kd.R_drewN | apply Kd.R_drew)); exact HO_45.out) hb); have n3_ := Aside0.mk (Kd.N_lower (Kd.N_mono (ok' := fun k_ => some k_ ≠ (.slice Ao25 y416.length co25 : Value).ownBlock) ho0 (fun k_ hk_ => Or.elim hk_ (fun hs_ => hs_) (fun hn_ => (Kd.fresh' (Kd.R_lt (by (with_reducible repeat (first | apply Kd.R_alloc | apply Kd.R_drewN | apply Kd.R_drew)); exact HO_45.out)) k_ hn_)))) (below_size pb)); have n4_ := Aside0.mk (below_step pb hb); clear HO_9; clear HO_10; clear HO_45; clear HB; have HO_9 := n0_; have HO_10 := n1_; have HO_45 := n2_; have HO421 := n3_; have HB := n4_; clear n0_ n1_ n2_ n3_ n4_; (try clear hb); (try clear hb2); (try clear hk); (try clear hi); (try clear ho0)))
                      go_ret
                      exact ⟨by first | rfl | (simp [errW_none, errW_some] <;> rfl) | (simp [*, errW_none, errW_some] <;> rfl), pb⟩
            · rw [if_neg c17] at H
              exact absurd H (by simp)
          · rw [if_neg c16] at H
            exact absurd H (by simp)
        · rw [if_neg c15] at H
          have c15b0 : (t409 == 0) = false := beq_eq_false_iff_ne.mpr c15
          have c15b1 : (t409 != 0) = true := bne_iff_ne.mpr c15
          obtain rfl := Option.some.inj H
          go_wp2_with (first | ((with_reducible refine gate_callee (f := 15) rfl ?_); refine goesL_ (some 30) rfl rfl Try.func15 (by kernel_rfl) rfl #[.slice A0 l0.length c0] rfl pm ?_; (with_reducible refine (halyardlaw18_sorted.calls kj4 (fun k_ => k_ < w.heap.size) _ _ l0 t403 _ ?side1 A13.out).mono ?_); (case side1 => exact Kd.V_mk HC0.out (Kd.F_below (Kd.C_F k35_heap HR0.out) pb)); rintro e w74 ⟨v404, rfl, ho0, hb⟩; refine ⟨_, rfl, ?_⟩; have n0_ := Aside0.mk (Kd.V_lower (Kd.V_mono (ok' := fun k_ => True) ho0 (fun k_ hk_ => trivial)) (below_size pb)); have n1_ := Aside0.mk (below_step pb hb); clear HB; have HO405 := n0_; have HB := n1_; clear n0_ n1_; (try clear hb); (try clear hb2); (try clear hk); (try clear hi); (try clear ho0); obtain ⟨Ao75, co75, eo75⟩ := Kd.V_slice HO405.out; subst eo75) | ((with_reducible refine gate_callee (f := 11) rfl ?_); refine goesL_ (some 36) rfl rfl Try.func11 (by kernel_rfl) rfl #[.slice Ao75 t403.length co75, .slice A1 l1.length c1, .int .i64 a2, .bool a3] rfl pm ?_; (with_reducible refine (squash_Keep.calls kj4 (fun k_ => True) _ _ t403 _ _ l1 a2 a3 t406 t409 _ ?side1 ?side2 ?side3 A14.out).mono ?_); (case side1 => exact HO405.out); (case side2 => repeat (first | exact (Kd.C_below HR1.out HB.out) | (with_reducible refine Kd.C_alloc ?_ _) | (with_reducible refine Kd.C_drewN ?_ _) | (with_reducible refine Kd.C_drew ?_))); (case side3 => exact HC1.out); rintro e w76 ⟨v407, rfl, ho0, hb⟩; refine ⟨_, rfl, ?_⟩; have n0_ := Aside0.mk (Kd.V_elder' (by (with_reducible repeat (first | apply Kd.V_alloc | apply Kd.V_drewN | apply Kd.V_drew)); exact HO405.out) (by first | exact Kd.N_base ho0 | exact Kd.S_base ho0) hb); have n1_ := Aside0.mk (Kd.N_lower (Kd.N_mono (ok' := fun k_ => True) ho0 (fun k_ hk_ => trivial)) (below_size pb)); have n2_ := Aside0.mk (below_step pb hb); clear HO405; clear HB; have HO405 := n0_; have HO408 := n1_; have HB := n2_; clear n0_ n1_ n2_; (try clear hb); (try clear hb2); (try clear hk); (try clear hi); (try clear ho0)))
          go_ret
          exact ⟨by first | rfl | (simp [errW_none, errW_some] <;> rfl) | (simp [*, errW_none, errW_some] <;> rfl), pb⟩

end Go.Proofs.Ytnepbpcpfeejkaa.K
