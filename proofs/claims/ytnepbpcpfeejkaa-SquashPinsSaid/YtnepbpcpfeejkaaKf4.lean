-- Printed by the prover's own turned printer (wip/printer in the prover's repo); Lean checks it.
import Derived.Test.YtnepbpcpfeejkaaK0
import Derived.Test.YtnepbpcpfeejkaaKf9
import Derived.Test.YtnepbpcpfeejkaaKf11
import Derived.Test.YtnepbpcpfeejkaaKf10
import Derived.Test.YtnepbpcpfeejkaaKf16
import Derived.Test.YtnepbpcpfeejkaaKf15
namespace Go.Proofs.Ytnepbpcpfeejkaa.K
open Go.RowKit Go.Proofs.YtnepbpcpfeejkaaW.PrintWords Go.Proofs.YtnepbpcpfeejkaaW.PrintLast Go.Proofs.YtnepbpcpfeejkaaW.PrintMore
attribute [local go_sem] max2_int min2_int max_two min_two max_three min_three max_four min_four   -- for this text's walks alone
set_option linter.unusedVariables false
set_option linter.unusedSimpArgs false

/-! ### halyardlaw18_SquashPins: function 4 -/
mutual
def halyardlaw18_SquashPins.j0 : Nat → List (S35) → List Int → Int → Int → Bool → Option (Bool)
  | 0, _, _, _, _, _ => none
  | k + 1, x0, x1, x2, x3, x24 => if x24 = true then ((halyardlaw18_awake.f k).bind fun t265 => (some t265)) else ((halyardlaw18_sorted.f k x0).bind fun t266 => ((squash_Keep.f k t266 x1 x3 false).bind fun bt269 => ((some (([] : List Int) : List Int)).bind fun y273 => (if y273.length + x1.length < 17592186044416 then ((some (y273 ++ x1 : List Int)).bind fun y276 => (if y276.length < 17592186044416 then ((squash_Keep.f k t266 (y276 ++ [x2]) x3 false).bind fun bt282 => (if bt269.2 = 0 then (if bt282.2 = 0 then (halyardlaw18_SquashPins.j1 k bt269.1 bt282.1 (decide ((bt282.1.length : Int) < (bt269.1.length : Int)))) else (halyardlaw18_SquashPins.j1 k bt269.1 bt282.1 true)) else (halyardlaw18_SquashPins.j1 k bt269.1 bt282.1 true))) else (none))) else (none)))))
def halyardlaw18_SquashPins.j1 : Nat → List (S35) → List (S35) → Bool → Option (Bool)
  | 0, _, _, _ => none
  | k + 1, x10, x12, x59 => if x59 = true then (some false) else (halyardlaw18_SquashPins.l0 k x10 0 x12 (x12.length : Int) 0)
def halyardlaw18_SquashPins.l0 : Nat → List (S35) → Int → List (S35) → Int → Int → Option (Bool)
  | 0, _, _, _, _, _ => none
  | k + 1, x10, x14, x60, x61, x62 => if x62 < x61 then (if 0 ≤ x62 then (if x62 < (x60.length : Int) then (if x14 < (x10.length : Int) then (if 0 ≤ x14 then ((halyardref2_SameEntry.f ((rd_T35 x10 x14).f0) ((rd_T35 x10 x14).f1) ((rd_T35 x10 x14).f2) ((rd_T35 x10 x14).f3) ((rd_T35 x10 x14).f4) ((rd_T35 x60 x62).f0) ((rd_T35 x60 x62).f1) ((rd_T35 x60 x62).f2) ((rd_T35 x60 x62).f3) ((rd_T35 x60 x62).f4)).bind fun t289 => (if t289 = true then (halyardlaw18_SquashPins.l0 k x10 (wrap64 (x14 + 1)) x60 x61 (wrap64 (x62 + 1))) else (halyardlaw18_SquashPins.l0 k x10 x14 x60 x61 (wrap64 (x62 + 1))))) else (none)) else (halyardlaw18_SquashPins.l0 k x10 x14 x60 x61 (wrap64 (x62 + 1)))) else (none)) else (none)) else (if x14 = (x10.length : Int) then ((halyardlaw18_awake.f k).bind fun t290 => (some t290)) else (some false))
end
def halyardlaw18_SquashPins.f (k : Nat) (l0 : List (S35)) (l1 : List Int) (a2 : Int) (a3 : Int) : Option (Bool) := (halyardlaw18_light.f k l0).bind fun t264 => (if t264 = true then (halyardlaw18_SquashPins.j0 k l0 l1 a2 a3 (decide ((l1.length : Int) > 20))) else (halyardlaw18_SquashPins.j0 k l0 l1 a2 a3 true))
theorem halyardlaw18_SquashPins.mono_l : ∀ k, (∀ y0 y1 y2 y3 y4, LeO (halyardlaw18_SquashPins.j0 k y0 y1 y2 y3 y4) (halyardlaw18_SquashPins.j0 (k + 1) y0 y1 y2 y3 y4)) ∧ (∀ y0 y1 y2, LeO (halyardlaw18_SquashPins.j1 k y0 y1 y2) (halyardlaw18_SquashPins.j1 (k + 1) y0 y1 y2)) ∧ (∀ y0 y1 y2 y3 y4, LeO (halyardlaw18_SquashPins.l0 k y0 y1 y2 y3 y4) (halyardlaw18_SquashPins.l0 (k + 1) y0 y1 y2 y3 y4))
  | 0 => ⟨fun _ _ _ _ _ r h => by simp [halyardlaw18_SquashPins.j0] at h, fun _ _ _ r h => by simp [halyardlaw18_SquashPins.j1] at h, fun _ _ _ _ _ r h => by simp [halyardlaw18_SquashPins.l0] at h⟩
  | k + 1 => by
    obtain ⟨ih0, ih1, ih2⟩ := halyardlaw18_SquashPins.mono_l k
    refine ⟨?_, ?_, ?_⟩
    · intro y0 y1 y2 y3 y4
      unfold halyardlaw18_SquashPins.j0
      repeat' first
      | (with_reducible exact ih0 _ _ _ _ _)
      | (with_reducible exact ih1 _ _ _)
      | (with_reducible exact ih2 _ _ _ _ _)
      | (with_reducible exact halyardlaw18_awake.mono _)
      | (with_reducible exact halyardlaw18_light.mono _ _)
      | (with_reducible exact halyardlaw18_sorted.mono _ _)
      | (with_reducible exact squash_Keep.mono _ _ _ _ _)
      | (with_reducible exact LeO.refl _)
      | (with_reducible exact LeO.none _)
      | (with_reducible refine LeO.ite ?_ ?_)
      | (with_reducible refine LeO.bind ?_ (fun _ => ?_))
      | exact ih0 _ _ _ _ _
      | exact ih1 _ _ _
      | exact ih2 _ _ _ _ _
      | exact halyardlaw18_awake.mono _
      | exact halyardlaw18_light.mono _ _
      | exact halyardlaw18_sorted.mono _ _
      | exact squash_Keep.mono _ _ _ _ _
      | exact LeO.none _
      | refine LeO.ite ?_ ?_
      | refine LeO.bind ?_ (fun _ => ?_)
    · intro y0 y1 y2
      unfold halyardlaw18_SquashPins.j1
      repeat' first
      | (with_reducible exact ih0 _ _ _ _ _)
      | (with_reducible exact ih1 _ _ _)
      | (with_reducible exact ih2 _ _ _ _ _)
      | (with_reducible exact halyardlaw18_awake.mono _)
      | (with_reducible exact halyardlaw18_light.mono _ _)
      | (with_reducible exact halyardlaw18_sorted.mono _ _)
      | (with_reducible exact squash_Keep.mono _ _ _ _ _)
      | (with_reducible exact LeO.refl _)
      | (with_reducible exact LeO.none _)
      | (with_reducible refine LeO.ite ?_ ?_)
      | (with_reducible refine LeO.bind ?_ (fun _ => ?_))
      | exact ih0 _ _ _ _ _
      | exact ih1 _ _ _
      | exact ih2 _ _ _ _ _
      | exact halyardlaw18_awake.mono _
      | exact halyardlaw18_light.mono _ _
      | exact halyardlaw18_sorted.mono _ _
      | exact squash_Keep.mono _ _ _ _ _
      | exact LeO.none _
      | refine LeO.ite ?_ ?_
      | refine LeO.bind ?_ (fun _ => ?_)
    · intro y0 y1 y2 y3 y4
      unfold halyardlaw18_SquashPins.l0
      repeat' first
      | (with_reducible exact ih0 _ _ _ _ _)
      | (with_reducible exact ih1 _ _ _)
      | (with_reducible exact ih2 _ _ _ _ _)
      | (with_reducible exact halyardlaw18_awake.mono _)
      | (with_reducible exact halyardlaw18_light.mono _ _)
      | (with_reducible exact halyardlaw18_sorted.mono _ _)
      | (with_reducible exact squash_Keep.mono _ _ _ _ _)
      | (with_reducible exact LeO.refl _)
      | (with_reducible exact LeO.none _)
      | (with_reducible refine LeO.ite ?_ ?_)
      | (with_reducible refine LeO.bind ?_ (fun _ => ?_))
      | exact ih0 _ _ _ _ _
      | exact ih1 _ _ _
      | exact ih2 _ _ _ _ _
      | exact halyardlaw18_awake.mono _
      | exact halyardlaw18_light.mono _ _
      | exact halyardlaw18_sorted.mono _ _
      | exact squash_Keep.mono _ _ _ _ _
      | exact LeO.none _
      | refine LeO.ite ?_ ?_
      | refine LeO.bind ?_ (fun _ => ?_)
theorem halyardlaw18_SquashPins.mono : ∀ a0 a1 a2 a3 k, LeO (halyardlaw18_SquashPins.f k a0 a1 a2 a3) (halyardlaw18_SquashPins.f (k + 1) a0 a1 a2 a3) := by
  intro a0 a1 a2 a3 k
  obtain ⟨ih0, ih1, ih2⟩ := halyardlaw18_SquashPins.mono_l k
  unfold halyardlaw18_SquashPins.f
  repeat' first
      | (with_reducible exact ih0 _ _ _ _ _)
      | (with_reducible exact ih1 _ _ _)
      | (with_reducible exact ih2 _ _ _ _ _)
      | (with_reducible exact halyardlaw18_awake.mono _)
      | (with_reducible exact halyardlaw18_light.mono _ _)
      | (with_reducible exact halyardlaw18_sorted.mono _ _)
      | (with_reducible exact squash_Keep.mono _ _ _ _ _)
      | (with_reducible exact LeO.refl _)
      | (with_reducible exact LeO.none _)
      | (with_reducible refine LeO.ite ?_ ?_)
      | (with_reducible refine LeO.bind ?_ (fun _ => ?_))
      | exact ih0 _ _ _ _ _
      | exact ih1 _ _ _
      | exact ih2 _ _ _ _ _
      | exact halyardlaw18_awake.mono _
      | exact halyardlaw18_light.mono _ _
      | exact halyardlaw18_sorted.mono _ _
      | exact squash_Keep.mono _ _ _ _ _
      | exact LeO.none _
      | refine LeO.ite ?_ ?_
      | refine LeO.bind ?_ (fun _ => ?_)
def halyardlaw18_SquashPins.T12 : Bool × List (List Nat × List Nat) := (true, [([], []), ([], []), ([1], [1]), ([0, 2], [0, 2]), ([3], [3]), ([4], [4]), ([4], [4]), ([5, 6, 4], [4, 5, 6]), ([7, 4], [4, 7]), ([4], [4]), ([8, 9, 4, 4], [4, 8, 9]), ([4, 10], [4, 10])])
def halyardlaw18_SquashPins.B12 : List Nat := [0, 0, 2, 7, 15, 31, 31, 127, 255, 31, 1023, 2047]
theorem halyardlaw18_SquashPins.tab12 : rtab .any (opsOf Try.f4 12) = halyardlaw18_SquashPins.T12 := by kernel_rfl
theorem halyardlaw18_SquashPins.bits12 : waitsOk halyardlaw18_SquashPins.T12.2 halyardlaw18_SquashPins.B12 = true := by kernel_rfl
set_option maxHeartbeats 8000000 in
set_option maxRecDepth 100000 in
theorem halyardlaw18_SquashPins.calls (k : Nat) (A0 : Option Addr) (c0 : Nat) (l0 : List (S35)) (A1 : Option Addr) (c1 : Nat) (l1 : List Int) (a2 : Int) (a3 : Int) (r : Bool) (w : World) (hr0 : Kd.C k35 w A0 l0.length l0) (hc0 : l0.length ≤ c0) (hr1 : Kd.C (Kd.int .i64) w A1 l1.length l1) (hc1 : l1.length ≤ c1) (h : halyardlaw18_SquashPins.f k l0 l1 a2 a3 = some r) :
    Calls Try.prog 4 #[.slice A0 l0.length c0, .slice A1 l1.length c1, .int .i64 a2, .int .i64 a3] w fun e w' => e = .returned (.bool r) ∧ Below w.heap.size w w' := by
  have hu35 := Try.underlying35
  have HR0 := Aside0.mk hr0
  have HC0 := Aside0.mk hc0
  clear hr0 hc0
  have HR1 := Aside0.mk hr1
  have HC1 := Aside0.mk hc1
  clear hr1 hc1
  have HB := Aside0.mk (Below.refl w.heap.size w)
  have H : ((halyardlaw18_light.f k l0).bind fun t264 => (if t264 = true then (halyardlaw18_SquashPins.j0 k l0 l1 a2 a3 (decide ((l1.length : Int) > 20))) else (halyardlaw18_SquashPins.j0 k l0 l1 a2 a3 true))) = some r := h
  clear h
  have HC5 := Aside0.mk H
  clear H
  go_enter Try.func4, Try.ntmps4
  go_upto_region 1 with (fail)
  go_cut [24] (fun v24 wc => ∃ (kq : Nat) (x24_4 : Bool), v24 = .bool x24_4 ∧ Aside0 (halyardlaw18_SquashPins.j0 kq l0 l1 a2 a3 x24_4 = some r) ∧ Aside0 (kq ≤ k) ∧ Aside0 (Below w.heap.size w wc))
  case first =>
    have H := HC5.out
    clear HC5
    replace H := Option.bind_eq_some_iff.mp H
    obtain ⟨t264, A60, H⟩ := H
    replace H : (if t264 = true then (halyardlaw18_SquashPins.j0 k l0 l1 a2 a3 (decide ((l1.length : Int) > 20))) else (halyardlaw18_SquashPins.j0 k l0 l1 a2 a3 true)) = some r := H
    have A6 := Aside0.mk A60
    clear A60
    by_cases c7 : t264 = true
    · subst c7
      have H1 : (halyardlaw18_SquashPins.j0 k l0 l1 a2 a3 (decide ((l1.length : Int) > 20))) = some r := by rw [if_pos rfl] at H; exact H
      clear H
      have H := H1
      clear H1
      have H' := Aside0.mk H
      clear H
      go_wp2_with (first | ((with_reducible refine gate_callee (f := 9) rfl ?_); refine goesL_ (some 18) rfl rfl Try.func9 (by kernel_rfl) rfl #[.slice A0 l0.length c0] rfl pm ?_; (with_reducible refine (halyardlaw18_light.calls k _ _ l0 true _ ?side1 ?side2 A6.out).mono ?_); (case side1 => repeat (first | exact (Kd.C_below HR0.out HB.out) | (with_reducible refine Kd.C_alloc ?_ _) | (with_reducible refine Kd.C_drewN ?_ _) | (with_reducible refine Kd.C_drew ?_))); (case side2 => exact HC0.out); rintro e w8 ⟨rfl, hb⟩; refine ⟨_, rfl, ?_⟩; have n0_ := Aside0.mk (below_step pb hb); clear HB; have HB := n0_; clear n0_; (try clear hb); (try clear hb2); (try clear hk); (try clear hi)))
      go_meet
      case rel => exact ⟨_, (decide ((l1.length : Int) > 20)), (by first | rfl | (simp; done) | (simp [*]; done)), H', ⟨by first | omega | exact Nat.le_refl _⟩, ⟨pb⟩⟩
    · replace c7 := Bool.eq_false_iff.mpr c7
      subst c7
      have H1 : (halyardlaw18_SquashPins.j0 k l0 l1 a2 a3 true) = some r := by rw [if_neg (show ¬ (false = true) by decide)] at H; exact H
      clear H
      have H := H1
      clear H1
      have H' := Aside0.mk H
      clear H
      go_wp2_with (first | ((with_reducible refine gate_callee (f := 9) rfl ?_); refine goesL_ (some 18) rfl rfl Try.func9 (by kernel_rfl) rfl #[.slice A0 l0.length c0] rfl pm ?_; (with_reducible refine (halyardlaw18_light.calls k _ _ l0 false _ ?side1 ?side2 A6.out).mono ?_); (case side1 => repeat (first | exact (Kd.C_below HR0.out HB.out) | (with_reducible refine Kd.C_alloc ?_ _) | (with_reducible refine Kd.C_drewN ?_ _) | (with_reducible refine Kd.C_drew ?_))); (case side2 => exact HC0.out); rintro e w9 ⟨rfl, hb⟩; refine ⟨_, rfl, ?_⟩; have n0_ := Aside0.mk (below_step pb hb); clear HB; have HB := n0_; clear n0_; (try clear hb); (try clear hb2); (try clear hk); (try clear hi)))
      go_meet
      case rel => exact ⟨_, (true), (by first | rfl | (simp; done) | (simp [*]; done)), H', ⟨by first | omega | exact Nat.le_refl _⟩, ⟨pb⟩⟩
  case rest =>
    clear HC5
    try clear c1
    try clear p2
    try clear c4
    try clear c7
    try clear c9
    obtain ⟨kq, x24_4, rfl, HA, HJ4, HB⟩ := hcut
    cases kq with
    | zero => exact absurd HA.out (by simp [halyardlaw18_SquashPins.j0])
    | succ kj4 =>
      have H := HA.out
      clear HA
      simp only [halyardlaw18_SquashPins.j0] at H
      by_cases c10 : x24_4 = true
      · subst c10
        have H1 : ((halyardlaw18_awake.f kj4).bind fun t265 => (some t265)) = some r := by rw [if_pos rfl] at H; exact H
        clear H
        have H := H1
        clear H1
        replace H := Option.bind_eq_some_iff.mp H
        obtain ⟨t265, A110, H⟩ := H
        replace H : (some t265) = some r := H
        have A11 := Aside0.mk A110
        clear A110
        obtain rfl := Option.some.inj H
        go_wp2_with (first | ((with_reducible refine gate_callee (f := 10) rfl ?_); refine goesL_ (some 25) rfl rfl Try.func10 (by kernel_rfl) rfl #[] rfl pm ?_; (with_reducible refine (halyardlaw18_awake.calls kj4  t265 _ A11.out).mono ?_); rintro e w12 ⟨rfl, hb⟩; refine ⟨_, rfl, ?_⟩; have n0_ := Aside0.mk (below_step pb hb); clear HB; have HB := n0_; clear n0_; (try clear hb); (try clear hb2); (try clear hk); (try clear hi)))
        go_ret
        exact ⟨by first | rfl | (simp [errW_none, errW_some] <;> rfl) | (simp [*, errW_none, errW_some] <;> rfl), pb⟩
      · replace c10 := Bool.eq_false_iff.mpr c10
        subst c10
        have H1 : ((halyardlaw18_sorted.f kj4 l0).bind fun t266 => ((squash_Keep.f kj4 t266 l1 a3 false).bind fun bt269 => ((some (([] : List Int) : List Int)).bind fun y273 => (if y273.length + l1.length < 17592186044416 then ((some (y273 ++ l1 : List Int)).bind fun y276 => (if y276.length < 17592186044416 then ((squash_Keep.f kj4 t266 (y276 ++ [a2]) a3 false).bind fun bt282 => (if bt269.2 = 0 then (if bt282.2 = 0 then (halyardlaw18_SquashPins.j1 kj4 bt269.1 bt282.1 (decide ((bt282.1.length : Int) < (bt269.1.length : Int)))) else (halyardlaw18_SquashPins.j1 kj4 bt269.1 bt282.1 true)) else (halyardlaw18_SquashPins.j1 kj4 bt269.1 bt282.1 true))) else (none))) else (none))))) = some r := by rw [if_neg (show ¬ (false = true) by decide)] at H; exact H
        clear H
        have H := H1
        clear H1
        replace H := Option.bind_eq_some_iff.mp H
        obtain ⟨t266, A130, H⟩ := H
        replace H : ((squash_Keep.f kj4 t266 l1 a3 false).bind fun bt269 => ((some (([] : List Int) : List Int)).bind fun y273 => (if y273.length + l1.length < 17592186044416 then ((some (y273 ++ l1 : List Int)).bind fun y276 => (if y276.length < 17592186044416 then ((squash_Keep.f kj4 t266 (y276 ++ [a2]) a3 false).bind fun bt282 => (if bt269.2 = 0 then (if bt282.2 = 0 then (halyardlaw18_SquashPins.j1 kj4 bt269.1 bt282.1 (decide ((bt282.1.length : Int) < (bt269.1.length : Int)))) else (halyardlaw18_SquashPins.j1 kj4 bt269.1 bt282.1 true)) else (halyardlaw18_SquashPins.j1 kj4 bt269.1 bt282.1 true))) else (none))) else (none)))) = some r := H
        have A13 := Aside0.mk A130
        clear A130
        replace H := Option.bind_eq_some_iff.mp H
        obtain ⟨⟨t269, t272⟩, A140, H⟩ := H
        replace H : ((some (([] : List Int) : List Int)).bind fun y273 => (if y273.length + l1.length < 17592186044416 then ((some (y273 ++ l1 : List Int)).bind fun y276 => (if y276.length < 17592186044416 then ((squash_Keep.f kj4 t266 (y276 ++ [a2]) a3 false).bind fun bt282 => (if t272 = 0 then (if bt282.2 = 0 then (halyardlaw18_SquashPins.j1 kj4 t269 bt282.1 (decide ((bt282.1.length : Int) < (t269.length : Int)))) else (halyardlaw18_SquashPins.j1 kj4 t269 bt282.1 true)) else (halyardlaw18_SquashPins.j1 kj4 t269 bt282.1 true))) else (none))) else (none))) = some r := H
        have A14 := Aside0.mk A140
        clear A140
        obtain ⟨y273, hy273⟩ : ∃ y_ : List Int, y_ = (([] : List Int)) := ⟨_, rfl⟩
        replace H : (if y273.length + l1.length < 17592186044416 then ((some (y273 ++ l1 : List Int)).bind fun y276 => (if y276.length < 17592186044416 then ((squash_Keep.f kj4 t266 (y276 ++ [a2]) a3 false).bind fun bt282 => (if t272 = 0 then (if bt282.2 = 0 then (halyardlaw18_SquashPins.j1 kj4 t269 bt282.1 (decide ((bt282.1.length : Int) < (t269.length : Int)))) else (halyardlaw18_SquashPins.j1 kj4 t269 bt282.1 true)) else (halyardlaw18_SquashPins.j1 kj4 t269 bt282.1 true))) else (none))) else (none)) = some r := by first | (rw [hy273]; with_reducible exact H) | (have H2_ := (Option.bind_some _ _).symm.trans H; rw [hy273]; with_reducible exact H2_) | (have H2_ := (Option.bind_some _ _).symm.trans H; with_reducible exact H2_) | with_reducible exact H | (rw [hy273]; exact H) | exact H
        have Ny273 := Aside0.mk hy273
        clear hy273
        by_cases c15 : y273.length + l1.length < 17592186044416
        · rw [if_pos c15] at H
          have LMc15 := Aside0.mk c15
          clear c15
          obtain ⟨y276, hy276⟩ : ∃ y_ : List Int, y_ = (y273 ++ l1) := ⟨_, rfl⟩
          replace H : (if y276.length < 17592186044416 then ((squash_Keep.f kj4 t266 (y276 ++ [a2]) a3 false).bind fun bt282 => (if t272 = 0 then (if bt282.2 = 0 then (halyardlaw18_SquashPins.j1 kj4 t269 bt282.1 (decide ((bt282.1.length : Int) < (t269.length : Int)))) else (halyardlaw18_SquashPins.j1 kj4 t269 bt282.1 true)) else (halyardlaw18_SquashPins.j1 kj4 t269 bt282.1 true))) else (none)) = some r := by first | (rw [hy276]; with_reducible exact H) | (have H2_ := (Option.bind_some _ _).symm.trans H; rw [hy276]; with_reducible exact H2_) | (have H2_ := (Option.bind_some _ _).symm.trans H; with_reducible exact H2_) | with_reducible exact H | (rw [hy276]; exact H) | exact H
          have Ny276 := Aside0.mk hy276
          clear hy276
          by_cases c16 : y276.length < 17592186044416
          · rw [if_pos c16] at H
            have LMc16 := Aside0.mk c16
            clear c16
            obtain ⟨y279, hy279⟩ : ∃ y_ : List Int, y_ = (y276 ++ [a2]) := ⟨_, rfl⟩
            replace H : ((squash_Keep.f kj4 t266 y279 a3 false).bind fun bt282 => (if t272 = 0 then (if bt282.2 = 0 then (halyardlaw18_SquashPins.j1 kj4 t269 bt282.1 (decide ((bt282.1.length : Int) < (t269.length : Int)))) else (halyardlaw18_SquashPins.j1 kj4 t269 bt282.1 true)) else (halyardlaw18_SquashPins.j1 kj4 t269 bt282.1 true))) = some r := by first | (rw [hy279]; with_reducible exact H) | (have H2_ := (Option.bind_some _ _).symm.trans H; rw [hy279]; with_reducible exact H2_) | (have H2_ := (Option.bind_some _ _).symm.trans H; with_reducible exact H2_) | with_reducible exact H | (rw [hy279]; exact H) | exact H
            have Ny279 := Aside0.mk hy279
            clear hy279
            replace H := Option.bind_eq_some_iff.mp H
            obtain ⟨⟨t282, t285⟩, A170, H⟩ := H
            replace H : (if t272 = 0 then (if t285 = 0 then (halyardlaw18_SquashPins.j1 kj4 t269 t282 (decide ((t282.length : Int) < (t269.length : Int)))) else (halyardlaw18_SquashPins.j1 kj4 t269 t282 true)) else (halyardlaw18_SquashPins.j1 kj4 t269 t282 true)) = some r := H
            have A17 := Aside0.mk A170
            clear A170
            have HC18 := Aside0.mk H
            clear H
            go_upto_region 6 with (first | ((with_reducible refine gate_callee (f := 15) rfl ?_); refine goesL_ (some 27) rfl rfl Try.func15 (by kernel_rfl) rfl #[.slice A0 l0.length c0] rfl pm ?_; (with_reducible refine (halyardlaw18_sorted.calls kj4 (fun k_ => k_ < w.heap.size) _ _ l0 t266 _ ?side1 A13.out).mono ?_); (case side1 => exact Kd.V_mk HC0.out (Kd.F_below (Kd.C_F k35_heap HR0.out) pb)); rintro e w19 ⟨v267, rfl, ho0, hb⟩; refine ⟨_, rfl, ?_⟩; have n0_ := Aside0.mk (Kd.V_lower (Kd.V_mono (ok' := fun k_ => True) ho0 (fun k_ hk_ => trivial)) (below_size pb)); have n1_ := Aside0.mk (below_step pb hb); clear HB; have HO268 := n0_; have HB := n1_; clear n0_ n1_; (try clear hb); (try clear hb2); (try clear hk); (try clear hi); (try clear ho0); obtain ⟨Ao20, co20, eo20⟩ := Kd.V_slice HO268.out; subst eo20) | ((with_reducible refine gate_callee (f := 11) rfl ?_); refine goesL_ (some 32) rfl rfl Try.func11 (by kernel_rfl) rfl #[.slice Ao20 t266.length co20, .slice A1 l1.length c1, .int .i64 a3, .bool false] rfl pm ?_; (with_reducible refine (squash_Keep.calls kj4 (fun k_ => True) _ _ t266 _ _ l1 a3 false t269 t272 _ ?side1 ?side2 ?side3 A14.out).mono ?_); (case side1 => exact HO268.out); (case side2 => repeat (first | exact (Kd.C_below HR1.out HB.out) | (with_reducible refine Kd.C_alloc ?_ _) | (with_reducible refine Kd.C_drewN ?_ _) | (with_reducible refine Kd.C_drew ?_))); (case side3 => exact HC1.out); rintro e w21 ⟨v270, rfl, ho0, hb⟩; refine ⟨_, rfl, ?_⟩; have n0_ := Aside0.mk (Kd.V_elder' (by (with_reducible repeat (first | apply Kd.V_alloc | apply Kd.V_drewN | apply Kd.V_drew)); exact HO268.out) (by first | exact Kd.N_base ho0 | exact Kd.S_base ho0) hb); have n1_ := Aside0.mk (Kd.N_lower (Kd.N_mono (ok' := fun k_ => True) ho0 (fun k_ hk_ => trivial)) (below_size pb)); have n2_ := Aside0.mk (below_step pb hb); clear HO268; clear HB; have HO268 := n0_; have HO271 := n1_; have HB := n2_; clear n0_ n1_ n2_; (try clear hb); (try clear hb2); (try clear hk); (try clear hi); (try clear ho0)) | ((with_reducible refine gate_dst (N := 37) rfl ?_); (try (refine gate_guard (by rfl) ?_; dsimp only)); refine Kd.R_lit (Kd.int .i64) _ 2 ?hg (N := 37) ?hd (xs := ([] : List Int)) (inner := []) (ok := fun _ => True) (okp := fun _ => True) ?hr ?hp (fun _ hk => hk) trivial (Below.refl _ _) (Nat.le_refl _) (by simp) ?_; (case hd => rfl); (case hg => rfl); (case hr => first | (go_simp; done) | (go_simp; rfl)); (case hp => exact (Reps.none _ _)); intro v274 w22 ho23 hb hg_ hnew_; clear hg_ hnew_; (first | rw [← Ny273.out] at ho23 | (simp only [Int.reduceToNat] at ho23; rw [← Ny273.out] at ho23)); have n0_ := Aside0.mk (Kd.V_elder' (by (with_reducible repeat (first | apply Kd.V_alloc | apply Kd.V_drewN | apply Kd.V_drew)); exact HO268.out) (Kd.R_base ho23) hb); have n1_ := Aside0.mk (Kd.N_elder' (by (with_reducible repeat (first | apply Kd.N_alloc | apply Kd.N_drewN | apply Kd.N_drew)); exact HO271.out) (Kd.R_base ho23) hb); have n2_ := Aside0.mk (Kd.R_lower ho23 (below_size pb)); have n3_ := Aside0.mk (below_step pb hb); clear HO268; clear HO271; clear HB; have HO268 := n0_; have HO271 := n1_; have HO275 := n2_; have HB := n3_; clear n0_ n1_ n2_ n3_; clear hb ho23) | ((with_reducible refine gate_builtin (b := .append) (xs := #[.tmp 37, .tmp 38]) rfl ?_); (try (refine gate_guard (by rfl) ?_; dsimp only)); at_builtin; refine Kd.R_append_rows (Kd.int .i64) (w0 := w) w.heap.size rfl (.tmp 37) (.tmp 38) 23 2 (.int .i64 0) 8 rfl Try.underlying23 info2 rfl (by decide) (by omega) v274 y273 l1 _ _ _ (fun _ => True) (fun _ => False) rfl rfl ?aO ?aR (fun _ _ h => h) (fun _ h => h.elim) ?aF ?aB ?aS ?aL ?_; (case aR => repeat (first | exact (Kd.C_below HR1.out HB.out) | (with_reducible refine Kd.C_alloc ?_ _) | (with_reducible refine Kd.C_drewN ?_ _) | (with_reducible refine Kd.C_drew ?_))); (case aB => exact pb); (case aF => exact (fun _ _ => trivial)); (case aO => exact (by (with_reducible repeat (first | apply Kd.R_alloc | apply Kd.R_drewN | apply Kd.R_drew)); exact HO275.out)); (case aS => exact (below_size pb)); (case aL => have := LMc15.out; omega); intro v277 w24 ho hb hg hat; rw [← Ny276.out] at ho; have n0_ := Aside0.mk (Kd.V_afterv (ok := (fun k_ => some k_ ≠ (v270 : Value).ownBlock)) (by (with_reducible repeat (first | apply Kd.V_alloc | apply Kd.V_drewN | apply Kd.V_drew)); exact Kd.V_mono HO268.out (fun _ hk => ⟨hk.1.2, hk.2⟩)) hg hat); have n1_ := Aside0.mk (Kd.N_afterv (ok := (fun _ => True)) (by (with_reducible repeat (first | apply Kd.N_alloc | apply Kd.N_drewN | apply Kd.N_drew)); exact HO271.out) hg hat); have n2_ := Aside0.mk (hb); have n3_ := Aside0.mk (ho); clear HO268; clear HO271; clear HB; clear HO275; have HO268 := n0_; have HO271 := n1_; have HB := n2_; have HO278 := n3_; clear n0_ n1_ n2_ n3_; clear ho hb hg hat) | ((with_reducible refine gate_builtin (b := .append) (xs := #[.tmp 39, .tmp 41]) rfl ?_); (try (refine gate_guard (by rfl) ?_; dsimp only)); at_builtin; refine Kd.R_append (Kd.int .i64) (w0 := w) w.heap.size rfl (.tmp 39) (.tmp 41) 23 2 (.int .i64 0) 8 rfl Try.underlying23 info2 rfl (by decide) (by omega) v277 y276 a2 [.int .i64 a2] (fun _ => True) (fun _ => False) rfl rfl ?aP (fun _ hk => hk.elim) ?aF ?aO ?aB ?aS ?aL ?_; (case aP => exact rfl); (case aB => exact pb); (case aF => exact (fun _ _ => trivial)); (case aO => exact (by (with_reducible repeat (first | apply Kd.R_alloc | apply Kd.R_drewN | apply Kd.R_drew)); exact HO278.out)); (case aS => exact (below_size pb)); (case aL => have := LMc16.out; omega); intro v280 w25 ho hb hg hat; rw [← Ny279.out] at ho; have n0_ := Aside0.mk (Kd.V_afterv (ok := (fun k_ => some k_ ≠ (v270 : Value).ownBlock)) (by (with_reducible repeat (first | apply Kd.V_alloc | apply Kd.V_drewN | apply Kd.V_drew)); exact HO268.out) hg hat); have n1_ := Aside0.mk (Kd.N_afterv (ok := (fun _ => True)) (by (with_reducible repeat (first | apply Kd.N_alloc | apply Kd.N_drewN | apply Kd.N_drew)); exact HO271.out) hg hat); have n2_ := Aside0.mk (hb); have n3_ := Aside0.mk (ho); clear HO268; clear HO271; clear HB; clear HO278; have HO268 := n0_; have HO271 := n1_; have HB := n2_; have HO281 := n3_; clear n0_ n1_ n2_ n3_; clear ho hb hg hat; obtain ⟨Ao26, co26, eo26⟩ := Kd.R_slice HO281.out; subst eo26) | ((with_reducible refine gate_callee (f := 11) rfl ?_); refine goesL_ (some 44) rfl rfl Try.func11 (by kernel_rfl) rfl #[.slice Ao20 t266.length co20, .slice Ao26 y279.length co26, .int .i64 a3, .bool false] rfl pm ?_; (with_reducible refine (squash_Keep.calls kj4 (fun k_ => (some k_ ≠ (v270 : Value).ownBlock ∧ some k_ ≠ (.slice Ao26 y279.length co26 : Value).ownBlock)) _ _ t266 _ _ y279 a3 false t282 t285 _ ?side1 ?side2 ?side3 A17.out).mono ?_); (case side1 => exact HO268.out); (case side2 => repeat (first | exact (Kd.R_reads' HO281.out).2.2 | (with_reducible refine Kd.C_alloc ?_ _) | (with_reducible refine Kd.C_drewN ?_ _) | (with_reducible refine Kd.C_drew ?_))); (case side3 => exact (Kd.R_reads' HO281.out).2.1); rintro e w27 ⟨v283, rfl, ho0, hb⟩; refine ⟨_, rfl, ?_⟩; have n0_ := Aside0.mk (Kd.V_elder' (by (with_reducible repeat (first | apply Kd.V_alloc | apply Kd.V_drewN | apply Kd.V_drew)); exact HO268.out) (by first | exact Kd.N_base ho0 | exact Kd.S_base ho0) hb); have n1_ := Aside0.mk (Kd.N_elder' (by (with_reducible repeat (first | apply Kd.N_alloc | apply Kd.N_drewN | apply Kd.N_drew)); exact HO271.out) (by first | exact Kd.N_base ho0 | exact Kd.S_base ho0) hb); have n2_ := Aside0.mk (Kd.R_below (by (with_reducible repeat (first | apply Kd.R_alloc | apply Kd.R_drewN | apply Kd.R_drew)); exact HO281.out) hb); have n3_ := Aside0.mk (Kd.N_lower (Kd.N_mono (ok' := fun k_ => some k_ ≠ (v270 : Value).ownBlock ∧ some k_ ≠ (.slice Ao26 y279.length co26 : Value).ownBlock) ho0 (fun k_ hk_ => ⟨Or.elim hk_ (fun hs_ => hs_.1) (fun hn_ => (Kd.fresh' (Kd.N_lt (by (with_reducible repeat (first | apply Kd.N_alloc | apply Kd.N_drewN | apply Kd.N_drew)); exact HO271.out)) k_ hn_)), Or.elim hk_ (fun hs_ => hs_.2) (fun hn_ => (Kd.fresh' (Kd.R_lt (by (with_reducible repeat (first | apply Kd.R_alloc | apply Kd.R_drewN | apply Kd.R_drew)); exact HO281.out)) k_ hn_))⟩)) (below_size pb)); have n4_ := Aside0.mk (below_step pb hb); clear HO268; clear HO271; clear HO281; clear HB; have HO268 := n0_; have HO271 := n1_; have HO281 := n2_; have HO284 := n3_; have HB := n4_; clear n0_ n1_ n2_ n3_ n4_; (try clear hb); (try clear hb2); (try clear hk); (try clear hi); (try clear ho0)))
            (try simp only [Act.put, List.setIfInBounds_toArray, List.set_cons_zero, List.set_cons_succ])
            go_cut [59] (fun v59 wc => ∃ (kq : Nat) (x59_17 : Bool), v59 = .bool x59_17 ∧ Aside0 (halyardlaw18_SquashPins.j1 kq t269 t282 x59_17 = some r) ∧ Aside0 (kq ≤ kj4) ∧ Aside0 (Kd.N k35 35 wc w.heap.size (fun k_ => some k_ ≠ (v283 : Value).ownBlock) v270 t269) ∧ Aside0 (Kd.N k35 35 wc w.heap.size (fun k_ => some k_ ≠ (v270 : Value).ownBlock) v283 t282) ∧ Aside0 (Below w.heap.size w wc))
            case first =>
              have H := HC18.out
              clear HC18
              by_cases c28 : t272 = 0
              · rw [if_pos c28] at H
                have c28b0 : (t272 == 0) = true := beq_iff_eq.mpr c28
                have c28b1 : (t272 != 0) = false := bne_eq_false_iff_eq.mpr c28
                clear c28
                (first | rw [c28b0] | (simp only [i64_w, i32_w]; rw [c28b0]) | skip)
                by_cases c29 : t285 = 0
                · rw [if_pos c29] at H
                  have c29b0 : (t285 == 0) = true := beq_iff_eq.mpr c29
                  have c29b1 : (t285 != 0) = false := bne_eq_false_iff_eq.mpr c29
                  clear c29
                  have H' := Aside0.mk H
                  clear H
                  obtain ⟨Ao30, co30, eo30⟩ := Kd.N_slice HO284.out
                  subst eo30
                  obtain ⟨Ao31, co31, eo31⟩ := Kd.N_slice HO271.out
                  subst eo31
                  go_wp2
                  go_meet
                  case rel => exact ⟨_, (decide ((t282.length : Int) < (t269.length : Int))), (by first | rfl | (simp; done) | (simp [*]; done)), H', ⟨by have := HJ4.out; first | omega | exact Nat.le_refl _⟩, ⟨by (with_reducible repeat (first | apply Kd.N_alloc | apply Kd.N_drewN | apply Kd.N_drew)); exact Kd.N_mono HO271.out (fun _ hk => hk.2)⟩, ⟨by (with_reducible repeat (first | apply Kd.N_alloc | apply Kd.N_drewN | apply Kd.N_drew)); exact Kd.N_mono HO284.out (fun _ hk => hk.1)⟩, ⟨pb⟩⟩
                · rw [if_neg c29] at H
                  have c29b0 : (t285 == 0) = false := beq_eq_false_iff_ne.mpr c29
                  have c29b1 : (t285 != 0) = true := bne_iff_ne.mpr c29
                  have H' := Aside0.mk H
                  clear H
                  go_wp2
                  go_meet
                  case rel => exact ⟨_, (true), (by first | rfl | (simp; done) | (simp [*]; done)), H', ⟨by have := HJ4.out; first | omega | exact Nat.le_refl _⟩, ⟨by (with_reducible repeat (first | apply Kd.N_alloc | apply Kd.N_drewN | apply Kd.N_drew)); exact Kd.N_mono HO271.out (fun _ hk => hk.2)⟩, ⟨by (with_reducible repeat (first | apply Kd.N_alloc | apply Kd.N_drewN | apply Kd.N_drew)); exact Kd.N_mono HO284.out (fun _ hk => hk.1)⟩, ⟨pb⟩⟩
              · rw [if_neg c28] at H
                have c28b0 : (t272 == 0) = false := beq_eq_false_iff_ne.mpr c28
                have c28b1 : (t272 != 0) = true := bne_iff_ne.mpr c28
                (first | rw [c28b0] | (simp only [i64_w, i32_w]; rw [c28b0]) | skip)
                have H' := Aside0.mk H
                clear H
                go_wp2
                go_meet
                case rel => exact ⟨_, (true), (by first | rfl | (simp; done) | (simp [*]; done)), H', ⟨by have := HJ4.out; first | omega | exact Nat.le_refl _⟩, ⟨by (with_reducible repeat (first | apply Kd.N_alloc | apply Kd.N_drewN | apply Kd.N_drew)); exact Kd.N_mono HO271.out (fun _ hk => hk.2)⟩, ⟨by (with_reducible repeat (first | apply Kd.N_alloc | apply Kd.N_drewN | apply Kd.N_drew)); exact Kd.N_mono HO284.out (fun _ hk => hk.1)⟩, ⟨pb⟩⟩
            case rest =>
              clear HC18
              try clear c1
              try clear c2
              try clear p2
              try clear c4
              try clear c7
              try clear c9
              try clear c10
              try clear c11
              try clear c15
              try clear c16
              try clear c28
              try clear c28b0
              try clear c28b1
              try clear c29
              try clear c29b0
              try clear c29b1
              try clear p2
              obtain ⟨kq, x59_17, rfl, HA, HJ17, HO_10, HO_12, HB⟩ := hcut
              cases kq with
              | zero => exact absurd HA.out (by simp [halyardlaw18_SquashPins.j1])
              | succ kj17 =>
                have H := HA.out
                clear HA
                simp only [halyardlaw18_SquashPins.j1] at H
                by_cases c32 : x59_17 = true
                · subst c32
                  have H1 : (some false) = some r := by rw [if_pos rfl] at H; exact H
                  clear H
                  have H := H1
                  clear H1
                  obtain rfl := Option.some.inj H
                  go_wp2
                  go_ret
                  exact ⟨by first | rfl | (simp [errW_none, errW_some] <;> rfl) | (simp [*, errW_none, errW_some] <;> rfl), pb⟩
                · replace c32 := Bool.eq_false_iff.mpr c32
                  subst c32
                  have H1 : (halyardlaw18_SquashPins.l0 kj17 t269 0 t282 (t282.length : Int) 0) = some r := by rw [if_neg (show ¬ (false = true) by decide)] at H; exact H
                  clear H
                  have H := H1
                  clear H1
                  have H' := Aside0.mk H
                  clear H
                  obtain ⟨Ao33, co33, eo33⟩ := Kd.N_slice HO_12.out
                  subst eo33
                  go_wp2
                  go_loopg [14, 62] kj17 (fun kq v14 v62 w' => ∃ (x14_3 : Int) (x62_3 : Int), v14 = .int .i64 x14_3 ∧ v62 = .int .i64 x62_3 ∧ Aside0 (halyardlaw18_SquashPins.l0 kq t269 x14_3 t282 (t282.length : Int) x62_3 = some r) ∧ Aside0 (kq ≤ kj17) ∧ Aside0 (Kd.N k35 35 w' w.heap.size (fun k_ => some k_ ≠ ((.slice Ao33 t282.length co33) : Value).ownBlock) v270 t269) ∧ Aside0 (Kd.N k35 35 w' w.heap.size (fun k_ => some k_ ≠ (v270 : Value).ownBlock) (.slice Ao33 t282.length co33) t282) ∧ Aside0 (Below w.heap.size w w'))
                  case atStart => exact ⟨(0), (0), (by first | rfl | (simp; done) | (simp [*]; done)), (by first | rfl | (simp; done) | (simp [*]; done)), H', ⟨Nat.le_refl _⟩, ⟨by (with_reducible repeat (first | apply Kd.N_alloc | apply Kd.N_drewN | apply Kd.N_drew)); exact HO_10.out⟩, ⟨by (with_reducible repeat (first | apply Kd.N_alloc | apply Kd.N_drewN | apply Kd.N_drew)); exact HO_12.out⟩, ⟨pb⟩⟩
                  case round =>
                    clear H'
                    try clear c1
                    try clear c2
                    try clear p2
                    try clear c3
                    try clear c4
                    try clear c7
                    try clear c9
                    try clear c10
                    try clear c11
                    try clear c15
                    try clear c16
                    try clear c28
                    try clear c28b0
                    try clear c28b1
                    try clear c29
                    try clear c29b0
                    try clear c29b1
                    try clear c32
                    try clear p2
                    obtain ⟨x14_3, x62_3, rfl, rfl, HA, HK3, HO_10, HO_60, HB⟩ := hrel
                    cases gk with
                    | zero => exact absurd HA.out (by simp [halyardlaw18_SquashPins.l0])
                    | succ k3 =>
                      have H := HA.out
                      clear HA
                      simp only [halyardlaw18_SquashPins.l0] at H
                      by_cases c34 : x62_3 < (t282.length : Int)
                      · rw [if_pos c34] at H
                        have c34b0 : decide (x62_3 < (t282.length : Int)) = true := decide_eq_true c34
                        clear c34
                        by_cases c35 : 0 ≤ x62_3
                        · rw [if_pos c35] at H
                          have c35b0 : decide (0 ≤ x62_3) = true := decide_eq_true c35
                          clear c35
                          by_cases c36 : x62_3 < (t282.length : Int)
                          · rw [if_pos c36] at H
                            have c36b0 : decide (x62_3 < (t282.length : Int)) = true := decide_eq_true c36
                            clear c36
                            by_cases c37 : x14_3 < (t269.length : Int)
                            · rw [if_pos c37] at H
                              have c37b0 : decide (x14_3 < (t269.length : Int)) = true := decide_eq_true c37
                              clear c37
                              by_cases c38 : 0 ≤ x14_3
                              · rw [if_pos c38] at H
                                have c38b0 : decide (0 ≤ x14_3) = true := decide_eq_true c38
                                clear c38
                                replace H := Option.bind_eq_some_iff.mp H
                                obtain ⟨t289, A390, H⟩ := H
                                replace H : (if t289 = true then (halyardlaw18_SquashPins.l0 k3 t269 (wrap64 (x14_3 + 1)) t282 (t282.length : Int) (wrap64 (x62_3 + 1))) else (halyardlaw18_SquashPins.l0 k3 t269 x14_3 t282 (t282.length : Int) (wrap64 (x62_3 + 1)))) = some r := H
                                have A39 := Aside0.mk A390
                                clear A390
                                by_cases c40 : t289 = true
                                · subst c40
                                  have H1 : (halyardlaw18_SquashPins.l0 k3 t269 (wrap64 (x14_3 + 1)) t282 (t282.length : Int) (wrap64 (x62_3 + 1))) = some r := by rw [if_pos rfl] at H; exact H
                                  clear H
                                  have H := H1
                                  clear H1
                                  have H' := Aside0.mk H
                                  clear H
                                  have p286 : 0 ≤ (x62_3 : Int) := pa
                                  have q286 : x62_3 < (t282.length : Int) := pa
                                  obtain ⟨ad286, A286_0, c286_0, A286_4, c286_4, e286, hx286_0, hx286_1, hx286_2, hx286_3, hx286_4, hl286_0, hi286_0, hl286_4, hi286_4⟩ := at_T35 (Kd.N_reads' HO_60.out).2.2 x62_3 p286 q286
                                  cases e286
                                  obtain ⟨ce286, hce286, hMe286, hcc286⟩ := Kd.N_get HO_60.out z35 x62_3 p286 (by first | exact q286 | exact pa | (have e_ := (Kd.N_reads' HO_60.out).1; omega))
                                  obtain ⟨ua286_0, uc286_0, ua286_4, uc286_4, rfl, ul286_0, ge286_0, ul286_4, ge286_4⟩ := k35_openF hMe286
                                  have hv286_0 := hcc286 0 _ rfl
                                  rw [Nat.add_zero] at hv286_0
                                  replace hv286_0 := Option.some.inj (hv286_0.symm.trans hx286_0)
                                  injection hv286_0 with hva_ hvn_ hvc_
                                  rw [hva_] at ge286_0
                                  rw [hvc_] at ul286_0
                                  have HL286_0 := Aside0.mk (show Kd.V (Kd.int .u8) 5 _ w.heap.size _ _ ((rd_T35 t282 x62_3).f0) from Kd.V_mk ul286_0 ge286_0)
                                  clear hva_ hvn_ hvc_ ge286_0 ul286_0
                                  have hv286_4 := hcc286 4 _ rfl
                                  rw [add_field _ _ 4 (by omega)] at hv286_4
                                  replace hv286_4 := Option.some.inj (hv286_4.symm.trans hx286_4)
                                  injection hv286_4 with hva_ hvn_ hvc_
                                  rw [hva_] at ge286_4
                                  rw [hvc_] at ul286_4
                                  have HL286_4 := Aside0.mk (show Kd.V (Kd.int .u8) 5 _ w.heap.size _ _ ((rd_T35 t282 x62_3).f4) from Kd.V_mk ul286_4 ge286_4)
                                  clear hva_ hvn_ hvc_ ge286_4 ul286_4
                                  clear hcc286 hce286
                                  have HR286_0 := Aside0.mk hi286_0
                                  have HC286_0 := Aside0.mk hl286_0
                                  clear hi286_0 hl286_0
                                  have HR286_4 := Aside0.mk hi286_4
                                  have HC286_4 := Aside0.mk hl286_4
                                  clear hi286_4 hl286_4
                                  replace p286 := eq_true p286
                                  replace q286 := eq_true q286
                                  try go_wp2_with (first | ((with_reducible refine gate_dst (N := 16) rfl ?_); (try (refine gate_guard (by rfl) ?_; dsimp only)); refine box_event ?hg (N := 16) ?hd (cs := #[.slice none 0 0, .int .i64 0, .bool false, .int .i64 0, .slice none 0 0]) (t := 35) ?hr ?_; (case hd => rfl); (case hg => rfl); (case hr => first | (go_simp; done) | (go_simp; rfl)); intro gb287 hg w41 hbox hb; have n0_ := Aside0.mk (Kd.N_below (Kd.N_elderB (by (with_reducible repeat (first | apply Kd.N_alloc | apply Kd.N_drewN | apply Kd.N_drew)); exact HO_10.out) gb287 (Nat.le_of_eq hg.symm)) hb); have n1_ := Aside0.mk (Kd.N_below (Kd.N_elderB (by (with_reducible repeat (first | apply Kd.N_alloc | apply Kd.N_drewN | apply Kd.N_drew)); exact HO_60.out) gb287 (Nat.le_of_eq hg.symm)) hb); have n2_ := Aside0.mk (Kd.V_below (Kd.V_elderB (by (with_reducible repeat (first | apply Kd.V_alloc | apply Kd.V_drewN | apply Kd.V_drew)); exact HL286_0.out) gb287 (Nat.le_of_eq hg.symm)) hb); have n3_ := Aside0.mk (Kd.V_below (Kd.V_elderB (by (with_reducible repeat (first | apply Kd.V_alloc | apply Kd.V_drewN | apply Kd.V_drew)); exact HL286_4.out) gb287 (Nat.le_of_eq hg.symm)) hb); have n4_ := Aside0.mk (Kd.C_below (by repeat (first | (with_reducible exact HR286_0.out) | (with_reducible refine Kd.C_alloc ?_ _) | (with_reducible refine Kd.C_drewN ?_ _) | (with_reducible refine Kd.C_drew ?_) | exact HR286_0.out)) hb); have n5_ := Aside0.mk (Kd.C_below (by repeat (first | (with_reducible exact HR286_4.out) | (with_reducible refine Kd.C_alloc ?_ _) | (with_reducible refine Kd.C_drewN ?_ _) | (with_reducible refine Kd.C_drew ?_) | exact HR286_4.out)) hb); have n6_ := Aside0.mk (below_step pb hb); have n7_ := Aside0.mk (hbox); have n8_ := Aside0.mk ((by rw [hg]; exact (below_size pb) : w.heap.size ≤ gb287)); have n9_ := Aside0.mk ((by rw [hg]; exact (below_size pb) : w.heap.size ≤ gb287)); clear HO_10; clear HO_60; clear HL286_0; clear HL286_4; clear HR286_0; clear HR286_4; clear HB; have HO_10 := n0_; have HO_60 := n1_; have HL286_0 := n2_; have HL286_4 := n3_; have HR286_0 := n4_; have HR286_4 := n5_; have HB := n6_; have BK287 := n7_; have GW287 := n8_; have GE287 := n9_; clear n0_ n1_ n2_ n3_ n4_ n5_ n6_ n7_ n8_ n9_; clear hb hbox hg; have hcz42_0 : w41.cell? ⟨gb287, 0, none⟩ = some (.slice none 0 0) := (blk_cell BK287.out 0).trans rfl; have hcz42_1 : w41.cell? ⟨gb287, 1, none⟩ = some (.int .i64 0) := (blk_cell BK287.out 1).trans rfl; have hcz42_2 : w41.cell? ⟨gb287, 2, none⟩ = some (.bool false) := (blk_cell BK287.out 2).trans rfl; have hcz42_3 : w41.cell? ⟨gb287, 3, none⟩ = some (.int .i64 0) := (blk_cell BK287.out 3).trans rfl; have hcz42_4 : w41.cell? ⟨gb287, 4, none⟩ = some (.slice none 0 0) := (blk_cell BK287.out 4).trans rfl; have hfz42_0 := blk_frozen BK287.out 0; have hfz42_1 := blk_frozen BK287.out 1; have hfz42_2 := blk_frozen BK287.out 2; have hfz42_3 := blk_frozen BK287.out 3; have hfz42_4 := blk_frozen BK287.out 4))
                                  have n0_ : Aside0 (Kd.N k35 35 (((((w41.setCell ⟨gb287, 0, none⟩ (.slice A286_0 ((rd_T35 t282 x62_3).f0).length c286_0)).setCell ⟨gb287, 1, none⟩ (.int .i64 ((rd_T35 t282 x62_3).f1))).setCell ⟨gb287, 2, none⟩ (.bool ((rd_T35 t282 x62_3).f2))).setCell ⟨gb287, 3, none⟩ (.int .i64 ((rd_T35 t282 x62_3).f3))).setCell ⟨gb287, 4, none⟩ (.slice A286_4 ((rd_T35 t282 x62_3).f4).length c286_4)) w.heap.size (fun k_ => some k_ ≠ (.slice (some ad286) t282.length co33 : Value).ownBlock ∧ k_ ≠ gb287) v270 t269) := ⟨by (with_reducible repeat (first | apply Kd.N_alloc | apply Kd.N_drewN | apply Kd.N_drew)); exact Kd.N_mono (Kd.N_far (p := ⟨gb287, 4, none⟩) (Kd.N_far (p := ⟨gb287, 3, none⟩) (Kd.N_far (p := ⟨gb287, 2, none⟩) (Kd.N_far (p := ⟨gb287, 1, none⟩) (Kd.N_far (p := ⟨gb287, 0, none⟩) (Kd.N_mono HO_10.out (fun k_ hk => (⟨hk, hk.2⟩ : _ ∧ k_ ≠ gb287))) (fun _ hk => hk.2) (.slice A286_0 ((rd_T35 t282 x62_3).f0).length c286_0)) (fun _ hk => hk.2) (.int .i64 ((rd_T35 t282 x62_3).f1))) (fun _ hk => hk.2) (.bool ((rd_T35 t282 x62_3).f2))) (fun _ hk => hk.2) (.int .i64 ((rd_T35 t282 x62_3).f3))) (fun _ hk => hk.2) (.slice A286_4 ((rd_T35 t282 x62_3).f4).length c286_4)) (fun _ hk => ⟨hk.1.1, hk.1.2⟩)⟩
                                  have n1_ : Aside0 (Kd.N k35 35 (((((w41.setCell ⟨gb287, 0, none⟩ (.slice A286_0 ((rd_T35 t282 x62_3).f0).length c286_0)).setCell ⟨gb287, 1, none⟩ (.int .i64 ((rd_T35 t282 x62_3).f1))).setCell ⟨gb287, 2, none⟩ (.bool ((rd_T35 t282 x62_3).f2))).setCell ⟨gb287, 3, none⟩ (.int .i64 ((rd_T35 t282 x62_3).f3))).setCell ⟨gb287, 4, none⟩ (.slice A286_4 ((rd_T35 t282 x62_3).f4).length c286_4)) w.heap.size (fun k_ => some k_ ≠ (v270 : Value).ownBlock ∧ k_ ≠ gb287) (.slice (some ad286) t282.length co33) t282) := ⟨by (with_reducible repeat (first | apply Kd.N_alloc | apply Kd.N_drewN | apply Kd.N_drew)); exact Kd.N_mono (Kd.N_far (p := ⟨gb287, 4, none⟩) (Kd.N_far (p := ⟨gb287, 3, none⟩) (Kd.N_far (p := ⟨gb287, 2, none⟩) (Kd.N_far (p := ⟨gb287, 1, none⟩) (Kd.N_far (p := ⟨gb287, 0, none⟩) (Kd.N_mono HO_60.out (fun k_ hk => (⟨hk, hk.2⟩ : _ ∧ k_ ≠ gb287))) (fun _ hk => hk.2) (.slice A286_0 ((rd_T35 t282 x62_3).f0).length c286_0)) (fun _ hk => hk.2) (.int .i64 ((rd_T35 t282 x62_3).f1))) (fun _ hk => hk.2) (.bool ((rd_T35 t282 x62_3).f2))) (fun _ hk => hk.2) (.int .i64 ((rd_T35 t282 x62_3).f3))) (fun _ hk => hk.2) (.slice A286_4 ((rd_T35 t282 x62_3).f4).length c286_4)) (fun _ hk => ⟨hk.1.1, hk.1.2⟩)⟩
                                  have n2_ : Aside0 (Kd.V (Kd.int .u8) 5 (((((w41.setCell ⟨gb287, 0, none⟩ (.slice A286_0 ((rd_T35 t282 x62_3).f0).length c286_0)).setCell ⟨gb287, 1, none⟩ (.int .i64 ((rd_T35 t282 x62_3).f1))).setCell ⟨gb287, 2, none⟩ (.bool ((rd_T35 t282 x62_3).f2))).setCell ⟨gb287, 3, none⟩ (.int .i64 ((rd_T35 t282 x62_3).f3))).setCell ⟨gb287, 4, none⟩ (.slice A286_4 ((rd_T35 t282 x62_3).f4).length c286_4)) w.heap.size (fun k_ => some k_ ≠ (v270 : Value).ownBlock ∧ some k_ ≠ (.slice (some ad286) t282.length co33 : Value).ownBlock ∧ k_ ≠ gb287) (.slice A286_0 ((rd_T35 t282 x62_3).f0).length c286_0) ((rd_T35 t282 x62_3).f0)) := ⟨by (with_reducible repeat (first | apply Kd.V_alloc | apply Kd.V_drewN | apply Kd.V_drew)); exact Kd.V_mono (Kd.V_far (p := ⟨gb287, 4, none⟩) (Kd.V_far (p := ⟨gb287, 3, none⟩) (Kd.V_far (p := ⟨gb287, 2, none⟩) (Kd.V_far (p := ⟨gb287, 1, none⟩) (Kd.V_far (p := ⟨gb287, 0, none⟩) (Kd.V_mono HL286_0.out (fun k_ hk => (⟨hk, hk.2⟩ : _ ∧ k_ ≠ gb287))) (fun _ hk => hk.2) (.slice A286_0 ((rd_T35 t282 x62_3).f0).length c286_0)) (fun _ hk => hk.2) (.int .i64 ((rd_T35 t282 x62_3).f1))) (fun _ hk => hk.2) (.bool ((rd_T35 t282 x62_3).f2))) (fun _ hk => hk.2) (.int .i64 ((rd_T35 t282 x62_3).f3))) (fun _ hk => hk.2) (.slice A286_4 ((rd_T35 t282 x62_3).f4).length c286_4)) (fun _ hk => ⟨hk.1.1.1, ⟨hk.1.1.2, hk.1.2⟩⟩)⟩
                                  have n3_ : Aside0 (Kd.V (Kd.int .u8) 5 (((((w41.setCell ⟨gb287, 0, none⟩ (.slice A286_0 ((rd_T35 t282 x62_3).f0).length c286_0)).setCell ⟨gb287, 1, none⟩ (.int .i64 ((rd_T35 t282 x62_3).f1))).setCell ⟨gb287, 2, none⟩ (.bool ((rd_T35 t282 x62_3).f2))).setCell ⟨gb287, 3, none⟩ (.int .i64 ((rd_T35 t282 x62_3).f3))).setCell ⟨gb287, 4, none⟩ (.slice A286_4 ((rd_T35 t282 x62_3).f4).length c286_4)) w.heap.size (fun k_ => some k_ ≠ (v270 : Value).ownBlock ∧ some k_ ≠ (.slice (some ad286) t282.length co33 : Value).ownBlock ∧ k_ ≠ gb287) (.slice A286_4 ((rd_T35 t282 x62_3).f4).length c286_4) ((rd_T35 t282 x62_3).f4)) := ⟨by (with_reducible repeat (first | apply Kd.V_alloc | apply Kd.V_drewN | apply Kd.V_drew)); exact Kd.V_mono (Kd.V_far (p := ⟨gb287, 4, none⟩) (Kd.V_far (p := ⟨gb287, 3, none⟩) (Kd.V_far (p := ⟨gb287, 2, none⟩) (Kd.V_far (p := ⟨gb287, 1, none⟩) (Kd.V_far (p := ⟨gb287, 0, none⟩) (Kd.V_mono HL286_4.out (fun k_ hk => (⟨hk, hk.2⟩ : _ ∧ k_ ≠ gb287))) (fun _ hk => hk.2) (.slice A286_0 ((rd_T35 t282 x62_3).f0).length c286_0)) (fun _ hk => hk.2) (.int .i64 ((rd_T35 t282 x62_3).f1))) (fun _ hk => hk.2) (.bool ((rd_T35 t282 x62_3).f2))) (fun _ hk => hk.2) (.int .i64 ((rd_T35 t282 x62_3).f3))) (fun _ hk => hk.2) (.slice A286_4 ((rd_T35 t282 x62_3).f4).length c286_4)) (fun _ hk => ⟨hk.1.1.1, ⟨hk.1.1.2, hk.1.2⟩⟩)⟩
                                  have n4_ : Aside0 ((((((w41.setCell ⟨gb287, 0, none⟩ (.slice A286_0 ((rd_T35 t282 x62_3).f0).length c286_0)).setCell ⟨gb287, 1, none⟩ (.int .i64 ((rd_T35 t282 x62_3).f1))).setCell ⟨gb287, 2, none⟩ (.bool ((rd_T35 t282 x62_3).f2))).setCell ⟨gb287, 3, none⟩ (.int .i64 ((rd_T35 t282 x62_3).f3))).setCell ⟨gb287, 4, none⟩ (.slice A286_4 ((rd_T35 t282 x62_3).f4).length c286_4)).heap[gb287]? = some (.cells #[.slice A286_0 ((rd_T35 t282 x62_3).f0).length c286_0, .int .i64 ((rd_T35 t282 x62_3).f1), .bool ((rd_T35 t282 x62_3).f2), .int .i64 ((rd_T35 t282 x62_3).f3), .slice A286_4 ((rd_T35 t282 x62_3).f4).length c286_4] 35 (0, 0))) := ⟨by (with_reducible repeat (first | refine blk_drewN ?_ _ | refine blk_drew ?_ | refine blk_alloc ?_ _)); refine blk_put (cs := #[.slice A286_0 ((rd_T35 t282 x62_3).f0).length c286_0, .int .i64 ((rd_T35 t282 x62_3).f1), .bool ((rd_T35 t282 x62_3).f2), .int .i64 ((rd_T35 t282 x62_3).f3), .slice none 0 0]) ?_ 4 _ rfl; (with_reducible repeat (first | refine blk_drewN ?_ _ | refine blk_drew ?_ | refine blk_alloc ?_ _)); refine blk_put (cs := #[.slice A286_0 ((rd_T35 t282 x62_3).f0).length c286_0, .int .i64 ((rd_T35 t282 x62_3).f1), .bool ((rd_T35 t282 x62_3).f2), .int .i64 0, .slice none 0 0]) ?_ 3 _ rfl; (with_reducible repeat (first | refine blk_drewN ?_ _ | refine blk_drew ?_ | refine blk_alloc ?_ _)); refine blk_put (cs := #[.slice A286_0 ((rd_T35 t282 x62_3).f0).length c286_0, .int .i64 ((rd_T35 t282 x62_3).f1), .bool false, .int .i64 0, .slice none 0 0]) ?_ 2 _ rfl; (with_reducible repeat (first | refine blk_drewN ?_ _ | refine blk_drew ?_ | refine blk_alloc ?_ _)); refine blk_put (cs := #[.slice A286_0 ((rd_T35 t282 x62_3).f0).length c286_0, .int .i64 0, .bool false, .int .i64 0, .slice none 0 0]) ?_ 1 _ rfl; (with_reducible repeat (first | refine blk_drewN ?_ _ | refine blk_drew ?_ | refine blk_alloc ?_ _)); refine blk_put (cs := #[.slice none 0 0, .int .i64 0, .bool false, .int .i64 0, .slice none 0 0]) ?_ 0 _ rfl; (with_reducible repeat (first | refine blk_drewN ?_ _ | refine blk_drew ?_ | refine blk_alloc ?_ _)); exact BK287.out⟩
                                  have n5_ : Aside0 (Below w.heap.size w (((((w41.setCell ⟨gb287, 0, none⟩ (.slice A286_0 ((rd_T35 t282 x62_3).f0).length c286_0)).setCell ⟨gb287, 1, none⟩ (.int .i64 ((rd_T35 t282 x62_3).f1))).setCell ⟨gb287, 2, none⟩ (.bool ((rd_T35 t282 x62_3).f2))).setCell ⟨gb287, 3, none⟩ (.int .i64 ((rd_T35 t282 x62_3).f3))).setCell ⟨gb287, 4, none⟩ (.slice A286_4 ((rd_T35 t282 x62_3).f4).length c286_4))) := ⟨by repeat (first | (with_reducible first | exact HB.out | apply below_alloc | apply pw_below_drewN | apply below_drew1 | refine below_set ?_ GE287.out) | exact HB.out)⟩
                                  (try clear HO_10)
                                  (try clear HO_60)
                                  (try clear HL286_0)
                                  (try clear HL286_4)
                                  (try clear BK287)
                                  (try clear HB)
                                  generalize (((((w41.setCell ⟨gb287, 0, none⟩ (.slice A286_0 ((rd_T35 t282 x62_3).f0).length c286_0)).setCell ⟨gb287, 1, none⟩ (.int .i64 ((rd_T35 t282 x62_3).f1))).setCell ⟨gb287, 2, none⟩ (.bool ((rd_T35 t282 x62_3).f2))).setCell ⟨gb287, 3, none⟩ (.int .i64 ((rd_T35 t282 x62_3).f3))).setCell ⟨gb287, 4, none⟩ (.slice A286_4 ((rd_T35 t282 x62_3).f4).length c286_4)) = w43 at n0_ n1_ n2_ n3_ n4_ n5_ ⊢
                                  have HO_10 := n0_
                                  have HO_60 := n1_
                                  have HL286_0 := n2_
                                  have HL286_4 := n3_
                                  have BK287 := n4_
                                  have HB := n5_
                                  clear n0_ n1_ n2_ n3_ n4_ n5_
                                  have n0_ := Aside0.mk (Kd.N_drew HO_10.out)
                                  have n1_ := Aside0.mk (Kd.N_drew HO_60.out)
                                  have n2_ := Aside0.mk (Kd.V_drew HL286_0.out)
                                  have n3_ := Aside0.mk (Kd.V_drew HL286_4.out)
                                  have n4_ := Aside0.mk (blk_drew BK287.out)
                                  have n5_ := Aside0.mk (below_drew1 HB.out)
                                  clear HO_10
                                  clear HO_60
                                  clear HL286_0
                                  clear HL286_4
                                  clear BK287
                                  clear HB
                                  have HO_10 := n0_
                                  have HO_60 := n1_
                                  have HL286_0 := n2_
                                  have HL286_4 := n3_
                                  have BK287 := n4_
                                  have HB := n5_
                                  clear n0_ n1_ n2_ n3_ n4_ n5_
                                  obtain ⟨Ao45, co45, eo45⟩ := Kd.N_slice HO_10.out
                                  (first | subst eo45 | (injection eo45 with f1_ f2_ f3_; have f4_ := f1_.symm; have f5_ := f3_.symm; clear f1_ f2_ f3_; subst f4_; subst f5_))
                                  have p288 : 0 ≤ (x14_3 : Int) := pa
                                  have q288 : x14_3 < (t269.length : Int) := pa
                                  obtain ⟨ad288, A288_0, c288_0, A288_4, c288_4, e288, hx288_0, hx288_1, hx288_2, hx288_3, hx288_4, hl288_0, hi288_0, hl288_4, hi288_4⟩ := at_T35 (Kd.N_reads' HO_10.out).2.2 x14_3 p288 q288
                                  cases e288
                                  obtain ⟨ce288, hce288, hMe288, hcc288⟩ := Kd.N_get HO_10.out z35 x14_3 p288 (by first | exact q288 | exact pa | (have e_ := (Kd.N_reads' HO_10.out).1; omega))
                                  obtain ⟨ua288_0, uc288_0, ua288_4, uc288_4, rfl, ul288_0, ge288_0, ul288_4, ge288_4⟩ := k35_openF hMe288
                                  have hv288_0 := hcc288 0 _ rfl
                                  rw [Nat.add_zero] at hv288_0
                                  replace hv288_0 := Option.some.inj (hv288_0.symm.trans hx288_0)
                                  injection hv288_0 with hva_ hvn_ hvc_
                                  rw [hva_] at ge288_0
                                  rw [hvc_] at ul288_0
                                  have HL288_0 := Aside0.mk (show Kd.V (Kd.int .u8) 5 _ w.heap.size _ _ ((rd_T35 t269 x14_3).f0) from Kd.V_mk ul288_0 ge288_0)
                                  clear hva_ hvn_ hvc_ ge288_0 ul288_0
                                  have hv288_4 := hcc288 4 _ rfl
                                  rw [add_field _ _ 4 (by omega)] at hv288_4
                                  replace hv288_4 := Option.some.inj (hv288_4.symm.trans hx288_4)
                                  injection hv288_4 with hva_ hvn_ hvc_
                                  rw [hva_] at ge288_4
                                  rw [hvc_] at ul288_4
                                  have HL288_4 := Aside0.mk (show Kd.V (Kd.int .u8) 5 _ w.heap.size _ _ ((rd_T35 t269 x14_3).f4) from Kd.V_mk ul288_4 ge288_4)
                                  clear hva_ hvn_ hvc_ ge288_4 ul288_4
                                  clear hcc288 hce288
                                  have HR288_0 := Aside0.mk hi288_0
                                  have HC288_0 := Aside0.mk hl288_0
                                  clear hi288_0 hl288_0
                                  have HR288_4 := Aside0.mk hi288_4
                                  have HC288_4 := Aside0.mk hl288_4
                                  clear hi288_4 hl288_4
                                  replace p288 := eq_true p288
                                  replace q288 := eq_true q288
                                  refine start_ (n := 12) (S := fun w' => w'.cell? ⟨gb287, 0, none⟩ = some (.slice A286_0 ((rd_T35 t282 x62_3).f0).length c286_0) ∧ w'.cell? ⟨gb287, 1, none⟩ = some (.int .i64 ((rd_T35 t282 x62_3).f1)) ∧ w'.cell? ⟨gb287, 2, none⟩ = some (.bool ((rd_T35 t282 x62_3).f2)) ∧ w'.cell? ⟨gb287, 3, none⟩ = some (.int .i64 ((rd_T35 t282 x62_3).f3)) ∧ w'.cell? ⟨gb287, 4, none⟩ = some (.slice A286_4 ((rd_T35 t282 x62_3).f4).length c286_4) ∧ w'.cell? (ad288.add ((x14_3).toNat * 5)) = some (.slice A288_0 ((rd_T35 t269 x14_3).f0).length c288_0) ∧ w'.cell? ⟨(ad288.add ((x14_3).toNat * 5)).block, (ad288.add ((x14_3).toNat * 5)).off + 1, none⟩ = some (.int .i64 ((rd_T35 t269 x14_3).f1)) ∧ w'.cell? ⟨(ad288.add ((x14_3).toNat * 5)).block, (ad288.add ((x14_3).toNat * 5)).off + 2, none⟩ = some (.bool ((rd_T35 t269 x14_3).f2)) ∧ w'.cell? ⟨(ad288.add ((x14_3).toNat * 5)).block, (ad288.add ((x14_3).toNat * 5)).off + 3, none⟩ = some (.int .i64 ((rd_T35 t269 x14_3).f3)) ∧ w'.cell? ⟨(ad288.add ((x14_3).toNat * 5)).block, (ad288.add ((x14_3).toNat * 5)).off + 4, none⟩ = some (.slice A288_4 ((rd_T35 t269 x14_3).f4).length c288_4)) (ds := []) #[false, false, false, false, false, false, false, false, false, false, false, false] (by kernel_rfl) rfl rfl ⟨(blk_cell BK287.out 0).trans rfl, (blk_cell BK287.out 1).trans rfl, (blk_cell BK287.out 2).trans rfl, (blk_cell BK287.out 3).trans rfl, (blk_cell BK287.out 4).trans rfl, hx288_0, hx288_1, hx288_2, hx288_3, hx288_4⟩ (fun hHeld => ?_); refine with_tabW halyardlaw18_SquashPins.tab12 halyardlaw18_SquashPins.bits12 (fun HT_ HW_ => ?_)
                                  generalize w43.drew = w44 at HO_10 HO_60 HL286_0 HL286_4 BK287 HB HL288_0 HL288_4 HR288_0 HR288_4 hx288_0 hx288_1 hx288_2 hx288_3 hx288_4 hHeld ⊢
                                  refine pure_ (i := 0) (N := some 66) (v := ?_) (a' := ?_) #[true, false, false, false, false, false, false, false, false, false, false, false] rfl rfl (any_of HT_.out (by kernel_rfl)) (fun _ _ _ h => h) (Or.inl ⟨by rfl, ?_⟩) ?_ ?_
                                  rotate_left
                                  · intro w'
                                    go_simp
                                    with_reducible rfl
                                  rotate_left
                                  · simp only [Act.put, List.setIfInBounds_toArray, List.set_cons_zero, List.set_cons_succ, i64_w, i32_w]
                                    rfl
                                  refine pure_ (i := 1) (N := some 67) (v := ?_) (a' := ?_) #[true, true, false, false, false, false, false, false, false, false, false, false] rfl rfl (any_of HT_.out (by kernel_rfl)) (fun _ _ _ h => h) (Or.inl ⟨by rfl, ?_⟩) ?_ ?_
                                  rotate_left
                                  · intro w'
                                    go_simp
                                    with_reducible rfl
                                  rotate_left
                                  · simp only [Act.put, List.setIfInBounds_toArray, List.set_cons_zero, List.set_cons_succ, i64_w, i32_w]
                                    rfl
                                  refine pure_ (i := 2) (N := some 68) (v := ?_) (a' := ?_) #[true, true, true, false, false, false, false, false, false, false, false, false] rfl rfl (any_of HT_.out (by kernel_rfl)) (fun _ _ _ h => h) (Or.inl ⟨by rfl, ?_⟩) ?_ ?_
                                  rotate_left
                                  · intro w'
                                    go_simp
                                    with_reducible rfl
                                  rotate_left
                                  · simp only [Act.put, List.setIfInBounds_toArray, List.set_cons_zero, List.set_cons_succ, i64_w, i32_w]
                                    rfl
                                  refine pure_ (i := 3) (N := some 69) (v := ?_) (a' := ?_) #[true, true, true, true, false, false, false, false, false, false, false, false] rfl rfl (any_of HT_.out (by kernel_rfl)) (fun _ _ _ h => h) (Or.inl ⟨by rfl, ?_⟩) ?_ ?_
                                  rotate_left
                                  · intro w'
                                    go_simp
                                    with_reducible rfl
                                  rotate_left
                                  · simp only [Act.put, List.setIfInBounds_toArray, List.set_cons_zero, List.set_cons_succ, i64_w, i32_w]
                                    rfl
                                  refine pure_ (i := 4) (N := some 70) (v := ?_) (a' := ?_) #[true, true, true, true, true, false, false, false, false, false, false, false] rfl rfl (any_of HT_.out (by kernel_rfl)) (fun _ _ _ h => h) (Or.inl ⟨by rfl, ?_⟩) ?_ ?_
                                  rotate_left
                                  · intro w'
                                    go_simp
                                    with_reducible rfl
                                  rotate_left
                                  · simp only [Act.put, List.setIfInBounds_toArray, List.set_cons_zero, List.set_cons_succ, i64_w, i32_w]
                                    rfl
                                  refine pure_ (i := 5) (N := some 71) (v := ?_) (a' := ?_) #[true, true, true, true, true, true, false, false, false, false, false, false] rfl rfl (any_of HT_.out (by kernel_rfl)) (fun _ _ _ h => h) (Or.inl ⟨by rfl, ?_⟩) ?_ ?_
                                  rotate_left
                                  · intro w'
                                    go_simp
                                    with_reducible rfl
                                  rotate_left
                                  · simp only [Act.put, List.setIfInBounds_toArray, List.set_cons_zero, List.set_cons_succ, i64_w, i32_w]
                                    rfl
                                  refine pure_ (i := 6) (N := some 72) (v := ?_) (a' := ?_) #[true, true, true, true, true, true, true, false, false, false, false, false] rfl rfl (any_of HT_.out (by kernel_rfl)) (fun _ _ _ h => h) (Or.inl ⟨by rfl, ?_⟩) ?_ ?_
                                  rotate_left
                                  · intro w'
                                    go_simp
                                    with_reducible rfl
                                  rotate_left
                                  · simp only [Act.put, List.setIfInBounds_toArray, List.set_cons_zero, List.set_cons_succ, i64_w, i32_w]
                                    rfl
                                  refine pure_ (i := 7) (N := some 73) (v := ?_) (a' := ?_) #[true, true, true, true, true, true, true, true, false, false, false, false] rfl rfl (any_of HT_.out (by kernel_rfl)) (fun _ _ _ h => h) (Or.inl ⟨by rfl, ?_⟩) ?_ ?_
                                  rotate_left
                                  · intro w'
                                    go_simp
                                    with_reducible rfl
                                  rotate_left
                                  · simp only [Act.put, List.setIfInBounds_toArray, List.set_cons_zero, List.set_cons_succ, i64_w, i32_w]
                                    rfl
                                  refine take_ (i := 8) (N := some 74) (v := ?_) (a' := ?_) #[true, true, true, true, true, true, true, true, true, false, false, false] rfl rfl (take_ofW HT_.out HW_.out (by kernel_rfl)) (fun _ _ _ h => h) (Or.inl ⟨by rfl, ?_⟩) hHeld ?_ ?_
                                  rotate_left
                                  · rintro w' ⟨s0, s1, s2, s3, s4, s5, s6, s7, s8, s9⟩
                                    go_simp
                                    with_reducible rfl
                                  rotate_left
                                  · simp only [Act.put, List.setIfInBounds_toArray, List.set_cons_zero, List.set_cons_succ, i64_w, i32_w]
                                    rfl
                                  refine take_ (i := 9) (N := some 75) (v := ?_) (a' := ?_) #[true, true, true, true, true, true, true, true, true, true, false, false] rfl rfl (take_ofW HT_.out HW_.out (by kernel_rfl)) (fun _ _ _ h => h) (Or.inl ⟨by rfl, ?_⟩) hHeld ?_ ?_
                                  rotate_left
                                  · rintro w' ⟨s0, s1, s2, s3, s4, s5, s6, s7, s8, s9⟩
                                    go_simp
                                    with_reducible rfl
                                  rotate_left
                                  · simp only [Act.put, List.setIfInBounds_toArray, List.set_cons_zero, List.set_cons_succ, i64_w, i32_w]
                                    rfl
                                  refine one_ (i := 10) (N := some 76) #[true, true, true, true, true, true, true, true, true, true, true, false] rfl rfl (one_of HT_.out (by kernel_rfl)) (by decide) (fun K hK => ?_)
                                  refine goes_ Try.func16 (by kernel_rfl) rfl #[.agg #[.slice A288_0 ((rd_T35 t269 x14_3).f0).length c288_0, .int .i64 ((rd_T35 t269 x14_3).f1), .bool ((rd_T35 t269 x14_3).f2), .int .i64 ((rd_T35 t269 x14_3).f3), .slice A288_4 ((rd_T35 t269 x14_3).f4).length c288_4], .agg #[.slice A286_0 ((rd_T35 t282 x62_3).f0).length c286_0, .int .i64 ((rd_T35 t282 x62_3).f1), .bool ((rd_T35 t282 x62_3).f2), .int .i64 ((rd_T35 t282 x62_3).f3), .slice A286_4 ((rd_T35 t282 x62_3).f4).length c286_4]] (by rfl) rfl rfl pm ?_
                                  with_reducible refine (halyardref2_SameEntry.calls _ _ ((rd_T35 t269 x14_3).f0) ((rd_T35 t269 x14_3).f1) ((rd_T35 t269 x14_3).f2) ((rd_T35 t269 x14_3).f3) _ _ ((rd_T35 t269 x14_3).f4) _ _ ((rd_T35 t282 x62_3).f0) ((rd_T35 t282 x62_3).f1) ((rd_T35 t282 x62_3).f2) ((rd_T35 t282 x62_3).f3) _ _ ((rd_T35 t282 x62_3).f4) true _ ?side1 ?side2 ?side3 ?side4 ?side5 ?side6 ?side7 ?side8 A39.out).mono ?_
                                  (case side1 => repeat (first | exact (by repeat (first | (with_reducible exact HR288_0.out) | (with_reducible refine Kd.C_alloc ?_ _) | (with_reducible refine Kd.C_drewN ?_ _) | (with_reducible refine Kd.C_drew ?_) | exact HR288_0.out)) | (with_reducible refine Kd.C_alloc ?_ _) | (with_reducible refine Kd.C_drewN ?_ _) | (with_reducible refine Kd.C_drew ?_)))
                                  (case side2 => exact HC288_0.out)
                                  (case side3 => repeat (first | exact (by repeat (first | (with_reducible exact HR288_4.out) | (with_reducible refine Kd.C_alloc ?_ _) | (with_reducible refine Kd.C_drewN ?_ _) | (with_reducible refine Kd.C_drew ?_) | exact HR288_4.out)) | (with_reducible refine Kd.C_alloc ?_ _) | (with_reducible refine Kd.C_drewN ?_ _) | (with_reducible refine Kd.C_drew ?_)))
                                  (case side4 => exact HC288_4.out)
                                  (case side5 => repeat (first | exact ((Kd.V_reads' (by (with_reducible repeat (first | apply Kd.V_alloc | apply Kd.V_drewN | apply Kd.V_drew)); exact HL286_0.out)).2.2) | (with_reducible refine Kd.C_alloc ?_ _) | (with_reducible refine Kd.C_drewN ?_ _) | (with_reducible refine Kd.C_drew ?_)))
                                  (case side6 => exact HC286_0.out)
                                  (case side7 => repeat (first | exact ((Kd.V_reads' (by (with_reducible repeat (first | apply Kd.V_alloc | apply Kd.V_drewN | apply Kd.V_drew)); exact HL286_4.out)).2.2) | (with_reducible refine Kd.C_alloc ?_ _) | (with_reducible refine Kd.C_drewN ?_ _) | (with_reducible refine Kd.C_drew ?_)))
                                  (case side8 => exact HC286_4.out)
                                  rintro e w46 ⟨rfl, hb⟩
                                  have HS5_ := (hb.cell (World.block_lt_of_cell? _ _ (hHeld.2.2.2.2.2.1))).trans (hHeld.2.2.2.2.2.1)
                                  have HS6_ := (hb.cell (World.block_lt_of_cell? _ _ (hHeld.2.2.2.2.2.2.1))).trans (hHeld.2.2.2.2.2.2.1)
                                  have HS7_ := (hb.cell (World.block_lt_of_cell? _ _ (hHeld.2.2.2.2.2.2.2.1))).trans (hHeld.2.2.2.2.2.2.2.1)
                                  have HS8_ := (hb.cell (World.block_lt_of_cell? _ _ (hHeld.2.2.2.2.2.2.2.2.1))).trans (hHeld.2.2.2.2.2.2.2.2.1)
                                  have HS9_ := (hb.cell (World.block_lt_of_cell? _ _ (hHeld.2.2.2.2.2.2.2.2.2))).trans (hHeld.2.2.2.2.2.2.2.2.2)
                                  refine ⟨_, rfl, ?_⟩
                                  have n0_ := Aside0.mk (Kd.N_below (by (with_reducible repeat (first | apply Kd.N_alloc | apply Kd.N_drewN | apply Kd.N_drew)); exact HO_10.out) hb)
                                  have n1_ := Aside0.mk (Kd.N_below (by (with_reducible repeat (first | apply Kd.N_alloc | apply Kd.N_drewN | apply Kd.N_drew)); exact HO_60.out) hb)
                                  have n2_ := Aside0.mk (Kd.V_below (by (with_reducible repeat (first | apply Kd.V_alloc | apply Kd.V_drewN | apply Kd.V_drew)); exact HL286_0.out) hb)
                                  have n3_ := Aside0.mk (Kd.V_below (by (with_reducible repeat (first | apply Kd.V_alloc | apply Kd.V_drewN | apply Kd.V_drew)); exact HL286_4.out) hb)
                                  have n4_ := Aside0.mk (Kd.V_below (by (with_reducible repeat (first | apply Kd.V_alloc | apply Kd.V_drewN | apply Kd.V_drew)); exact HL288_0.out) hb)
                                  have n5_ := Aside0.mk (Kd.V_below (by (with_reducible repeat (first | apply Kd.V_alloc | apply Kd.V_drewN | apply Kd.V_drew)); exact HL288_4.out) hb)
                                  have n6_ := Aside0.mk (blk_below (g := gb287) (o := .cells #[.slice A286_0 ((rd_T35 t282 x62_3).f0).length c286_0, .int .i64 ((rd_T35 t282 x62_3).f1), .bool ((rd_T35 t282 x62_3).f2), .int .i64 ((rd_T35 t282 x62_3).f3), .slice A286_4 ((rd_T35 t282 x62_3).f4).length c286_4] 35 (0, 0)) (by (with_reducible repeat (first | refine blk_drewN ?_ _ | refine blk_drew ?_ | refine blk_alloc ?_ _)); exact BK287.out) hb)
                                  have n7_ := Aside0.mk (Kd.C_below (by repeat (first | (with_reducible exact HR288_0.out) | (with_reducible refine Kd.C_alloc ?_ _) | (with_reducible refine Kd.C_drewN ?_ _) | (with_reducible refine Kd.C_drew ?_) | exact HR288_0.out)) hb)
                                  have n8_ := Aside0.mk (Kd.C_below (by repeat (first | (with_reducible exact HR288_4.out) | (with_reducible refine Kd.C_alloc ?_ _) | (with_reducible refine Kd.C_drewN ?_ _) | (with_reducible refine Kd.C_drew ?_) | exact HR288_4.out)) hb)
                                  have n9_ := Aside0.mk (below_step (by repeat (first | (with_reducible first | exact HB.out | apply below_alloc | apply pw_below_drewN | apply below_drew1 | refine below_set ?_ GE287.out) | exact HB.out)) hb)
                                  clear HO_10
                                  clear HO_60
                                  clear HL286_0
                                  clear HL286_4
                                  clear HL288_0
                                  clear HL288_4
                                  clear BK287
                                  clear HR288_0
                                  clear HR288_4
                                  clear HB
                                  have HO_10 := n0_
                                  have HO_60 := n1_
                                  have HL286_0 := n2_
                                  have HL286_4 := n3_
                                  have HL288_0 := n4_
                                  have HL288_4 := n5_
                                  have BK287 := n6_
                                  have HR288_0 := n7_
                                  have HR288_4 := n8_
                                  have HB := n9_
                                  clear n0_ n1_ n2_ n3_ n4_ n5_ n6_ n7_ n8_ n9_
                                  (try clear hb)
                                  (try clear hb2)
                                  (try clear hk)
                                  (try clear hi)
                                  refine hK.out _ _ ⟨(blk_cell BK287.out 0).trans rfl, (blk_cell BK287.out 1).trans rfl, (blk_cell BK287.out 2).trans rfl, (blk_cell BK287.out 3).trans rfl, (blk_cell BK287.out 4).trans rfl, HS5_, HS6_, HS7_, HS8_, HS9_⟩ (fun hHeld => ?_)
                                  clear hK K
                                  refine norm_ (a' := ?_) ?_ ?_
                                  rotate_left
                                  · show Act.put _ (some 76) _ = _
                                    simp only [Act.put, List.setIfInBounds_toArray, List.set_cons_zero, List.set_cons_succ, i64_w, i32_w]
                                    rfl
                                  refine pure_ (i := 11) (N := some 77) (v := ?_) (a' := ?_) #[true, true, true, true, true, true, true, true, true, true, true, true] rfl rfl (any_of HT_.out (by kernel_rfl)) (fun _ _ _ h => h) (Or.inl ⟨by rfl, ?_⟩) ?_ ?_
                                  rotate_left
                                  · intro w'
                                    go_simp
                                    with_reducible rfl
                                  rotate_left
                                  · simp only [Act.put, List.setIfInBounds_toArray, List.set_cons_zero, List.set_cons_succ, i64_w, i32_w]
                                    rfl
                                  refine done_ (done_of HT_.out (by kernel_rfl)) ?_
                                  try go_wp2
                                  go_roundg k3
                                  case measure => have := HJ4.out; have := HJ17.out; have := HK3.out; omega
                                  case rel => exact ⟨(wrap64 (x14_3 + 1)), (wrap64 (x62_3 + 1)), (by first | rfl | (simp; done) | (simp [*]; done)), (by first | rfl | (simp; done) | (simp [*]; done)), H', ⟨by have := HJ4.out; have := HJ17.out; have := HK3.out; omega⟩, ⟨by (with_reducible repeat (first | apply Kd.N_alloc | apply Kd.N_drewN | apply Kd.N_drew)); exact Kd.N_mono HO_10.out (fun _ hk => hk.1)⟩, ⟨by (with_reducible repeat (first | apply Kd.N_alloc | apply Kd.N_drewN | apply Kd.N_drew)); exact Kd.N_mono HO_60.out (fun _ hk => hk.1)⟩, ⟨by repeat (first | (with_reducible first | exact HB.out | apply below_alloc | apply pw_below_drewN | apply below_drew1 | refine below_set ?_ GE287.out) | exact HB.out)⟩⟩
                                · replace c40 := Bool.eq_false_iff.mpr c40
                                  subst c40
                                  have H1 : (halyardlaw18_SquashPins.l0 k3 t269 x14_3 t282 (t282.length : Int) (wrap64 (x62_3 + 1))) = some r := by rw [if_neg (show ¬ (false = true) by decide)] at H; exact H
                                  clear H
                                  have H := H1
                                  clear H1
                                  have H' := Aside0.mk H
                                  clear H
                                  have p286 : 0 ≤ (x62_3 : Int) := pa
                                  have q286 : x62_3 < (t282.length : Int) := pa
                                  obtain ⟨ad286, A286_0, c286_0, A286_4, c286_4, e286, hx286_0, hx286_1, hx286_2, hx286_3, hx286_4, hl286_0, hi286_0, hl286_4, hi286_4⟩ := at_T35 (Kd.N_reads' HO_60.out).2.2 x62_3 p286 q286
                                  cases e286
                                  obtain ⟨ce286, hce286, hMe286, hcc286⟩ := Kd.N_get HO_60.out z35 x62_3 p286 (by first | exact q286 | exact pa | (have e_ := (Kd.N_reads' HO_60.out).1; omega))
                                  obtain ⟨ua286_0, uc286_0, ua286_4, uc286_4, rfl, ul286_0, ge286_0, ul286_4, ge286_4⟩ := k35_openF hMe286
                                  have hv286_0 := hcc286 0 _ rfl
                                  rw [Nat.add_zero] at hv286_0
                                  replace hv286_0 := Option.some.inj (hv286_0.symm.trans hx286_0)
                                  injection hv286_0 with hva_ hvn_ hvc_
                                  rw [hva_] at ge286_0
                                  rw [hvc_] at ul286_0
                                  have HL286_0 := Aside0.mk (show Kd.V (Kd.int .u8) 5 _ w.heap.size _ _ ((rd_T35 t282 x62_3).f0) from Kd.V_mk ul286_0 ge286_0)
                                  clear hva_ hvn_ hvc_ ge286_0 ul286_0
                                  have hv286_4 := hcc286 4 _ rfl
                                  rw [add_field _ _ 4 (by omega)] at hv286_4
                                  replace hv286_4 := Option.some.inj (hv286_4.symm.trans hx286_4)
                                  injection hv286_4 with hva_ hvn_ hvc_
                                  rw [hva_] at ge286_4
                                  rw [hvc_] at ul286_4
                                  have HL286_4 := Aside0.mk (show Kd.V (Kd.int .u8) 5 _ w.heap.size _ _ ((rd_T35 t282 x62_3).f4) from Kd.V_mk ul286_4 ge286_4)
                                  clear hva_ hvn_ hvc_ ge286_4 ul286_4
                                  clear hcc286 hce286
                                  have HR286_0 := Aside0.mk hi286_0
                                  have HC286_0 := Aside0.mk hl286_0
                                  clear hi286_0 hl286_0
                                  have HR286_4 := Aside0.mk hi286_4
                                  have HC286_4 := Aside0.mk hl286_4
                                  clear hi286_4 hl286_4
                                  replace p286 := eq_true p286
                                  replace q286 := eq_true q286
                                  try go_wp2_with (first | ((with_reducible refine gate_dst (N := 16) rfl ?_); (try (refine gate_guard (by rfl) ?_; dsimp only)); refine box_event ?hg (N := 16) ?hd (cs := #[.slice none 0 0, .int .i64 0, .bool false, .int .i64 0, .slice none 0 0]) (t := 35) ?hr ?_; (case hd => rfl); (case hg => rfl); (case hr => first | (go_simp; done) | (go_simp; rfl)); intro gb287 hg w47 hbox hb; have n0_ := Aside0.mk (Kd.N_below (Kd.N_elderB (by (with_reducible repeat (first | apply Kd.N_alloc | apply Kd.N_drewN | apply Kd.N_drew)); exact HO_10.out) gb287 (Nat.le_of_eq hg.symm)) hb); have n1_ := Aside0.mk (Kd.N_below (Kd.N_elderB (by (with_reducible repeat (first | apply Kd.N_alloc | apply Kd.N_drewN | apply Kd.N_drew)); exact HO_60.out) gb287 (Nat.le_of_eq hg.symm)) hb); have n2_ := Aside0.mk (Kd.V_below (Kd.V_elderB (by (with_reducible repeat (first | apply Kd.V_alloc | apply Kd.V_drewN | apply Kd.V_drew)); exact HL286_0.out) gb287 (Nat.le_of_eq hg.symm)) hb); have n3_ := Aside0.mk (Kd.V_below (Kd.V_elderB (by (with_reducible repeat (first | apply Kd.V_alloc | apply Kd.V_drewN | apply Kd.V_drew)); exact HL286_4.out) gb287 (Nat.le_of_eq hg.symm)) hb); have n4_ := Aside0.mk (Kd.C_below (by repeat (first | (with_reducible exact HR286_0.out) | (with_reducible refine Kd.C_alloc ?_ _) | (with_reducible refine Kd.C_drewN ?_ _) | (with_reducible refine Kd.C_drew ?_) | exact HR286_0.out)) hb); have n5_ := Aside0.mk (Kd.C_below (by repeat (first | (with_reducible exact HR286_4.out) | (with_reducible refine Kd.C_alloc ?_ _) | (with_reducible refine Kd.C_drewN ?_ _) | (with_reducible refine Kd.C_drew ?_) | exact HR286_4.out)) hb); have n6_ := Aside0.mk (below_step pb hb); have n7_ := Aside0.mk (hbox); have n8_ := Aside0.mk ((by rw [hg]; exact (below_size pb) : w.heap.size ≤ gb287)); have n9_ := Aside0.mk ((by rw [hg]; exact (below_size pb) : w.heap.size ≤ gb287)); clear HO_10; clear HO_60; clear HL286_0; clear HL286_4; clear HR286_0; clear HR286_4; clear HB; have HO_10 := n0_; have HO_60 := n1_; have HL286_0 := n2_; have HL286_4 := n3_; have HR286_0 := n4_; have HR286_4 := n5_; have HB := n6_; have BK287 := n7_; have GW287 := n8_; have GE287 := n9_; clear n0_ n1_ n2_ n3_ n4_ n5_ n6_ n7_ n8_ n9_; clear hb hbox hg; have hcz48_0 : w47.cell? ⟨gb287, 0, none⟩ = some (.slice none 0 0) := (blk_cell BK287.out 0).trans rfl; have hcz48_1 : w47.cell? ⟨gb287, 1, none⟩ = some (.int .i64 0) := (blk_cell BK287.out 1).trans rfl; have hcz48_2 : w47.cell? ⟨gb287, 2, none⟩ = some (.bool false) := (blk_cell BK287.out 2).trans rfl; have hcz48_3 : w47.cell? ⟨gb287, 3, none⟩ = some (.int .i64 0) := (blk_cell BK287.out 3).trans rfl; have hcz48_4 : w47.cell? ⟨gb287, 4, none⟩ = some (.slice none 0 0) := (blk_cell BK287.out 4).trans rfl; have hfz48_0 := blk_frozen BK287.out 0; have hfz48_1 := blk_frozen BK287.out 1; have hfz48_2 := blk_frozen BK287.out 2; have hfz48_3 := blk_frozen BK287.out 3; have hfz48_4 := blk_frozen BK287.out 4))
                                  have n0_ : Aside0 (Kd.N k35 35 (((((w47.setCell ⟨gb287, 0, none⟩ (.slice A286_0 ((rd_T35 t282 x62_3).f0).length c286_0)).setCell ⟨gb287, 1, none⟩ (.int .i64 ((rd_T35 t282 x62_3).f1))).setCell ⟨gb287, 2, none⟩ (.bool ((rd_T35 t282 x62_3).f2))).setCell ⟨gb287, 3, none⟩ (.int .i64 ((rd_T35 t282 x62_3).f3))).setCell ⟨gb287, 4, none⟩ (.slice A286_4 ((rd_T35 t282 x62_3).f4).length c286_4)) w.heap.size (fun k_ => some k_ ≠ (.slice (some ad286) t282.length co33 : Value).ownBlock ∧ k_ ≠ gb287) v270 t269) := ⟨by (with_reducible repeat (first | apply Kd.N_alloc | apply Kd.N_drewN | apply Kd.N_drew)); exact Kd.N_mono (Kd.N_far (p := ⟨gb287, 4, none⟩) (Kd.N_far (p := ⟨gb287, 3, none⟩) (Kd.N_far (p := ⟨gb287, 2, none⟩) (Kd.N_far (p := ⟨gb287, 1, none⟩) (Kd.N_far (p := ⟨gb287, 0, none⟩) (Kd.N_mono HO_10.out (fun k_ hk => (⟨hk, hk.2⟩ : _ ∧ k_ ≠ gb287))) (fun _ hk => hk.2) (.slice A286_0 ((rd_T35 t282 x62_3).f0).length c286_0)) (fun _ hk => hk.2) (.int .i64 ((rd_T35 t282 x62_3).f1))) (fun _ hk => hk.2) (.bool ((rd_T35 t282 x62_3).f2))) (fun _ hk => hk.2) (.int .i64 ((rd_T35 t282 x62_3).f3))) (fun _ hk => hk.2) (.slice A286_4 ((rd_T35 t282 x62_3).f4).length c286_4)) (fun _ hk => ⟨hk.1.1, hk.1.2⟩)⟩
                                  have n1_ : Aside0 (Kd.N k35 35 (((((w47.setCell ⟨gb287, 0, none⟩ (.slice A286_0 ((rd_T35 t282 x62_3).f0).length c286_0)).setCell ⟨gb287, 1, none⟩ (.int .i64 ((rd_T35 t282 x62_3).f1))).setCell ⟨gb287, 2, none⟩ (.bool ((rd_T35 t282 x62_3).f2))).setCell ⟨gb287, 3, none⟩ (.int .i64 ((rd_T35 t282 x62_3).f3))).setCell ⟨gb287, 4, none⟩ (.slice A286_4 ((rd_T35 t282 x62_3).f4).length c286_4)) w.heap.size (fun k_ => some k_ ≠ (v270 : Value).ownBlock ∧ k_ ≠ gb287) (.slice (some ad286) t282.length co33) t282) := ⟨by (with_reducible repeat (first | apply Kd.N_alloc | apply Kd.N_drewN | apply Kd.N_drew)); exact Kd.N_mono (Kd.N_far (p := ⟨gb287, 4, none⟩) (Kd.N_far (p := ⟨gb287, 3, none⟩) (Kd.N_far (p := ⟨gb287, 2, none⟩) (Kd.N_far (p := ⟨gb287, 1, none⟩) (Kd.N_far (p := ⟨gb287, 0, none⟩) (Kd.N_mono HO_60.out (fun k_ hk => (⟨hk, hk.2⟩ : _ ∧ k_ ≠ gb287))) (fun _ hk => hk.2) (.slice A286_0 ((rd_T35 t282 x62_3).f0).length c286_0)) (fun _ hk => hk.2) (.int .i64 ((rd_T35 t282 x62_3).f1))) (fun _ hk => hk.2) (.bool ((rd_T35 t282 x62_3).f2))) (fun _ hk => hk.2) (.int .i64 ((rd_T35 t282 x62_3).f3))) (fun _ hk => hk.2) (.slice A286_4 ((rd_T35 t282 x62_3).f4).length c286_4)) (fun _ hk => ⟨hk.1.1, hk.1.2⟩)⟩
                                  have n2_ : Aside0 (Kd.V (Kd.int .u8) 5 (((((w47.setCell ⟨gb287, 0, none⟩ (.slice A286_0 ((rd_T35 t282 x62_3).f0).length c286_0)).setCell ⟨gb287, 1, none⟩ (.int .i64 ((rd_T35 t282 x62_3).f1))).setCell ⟨gb287, 2, none⟩ (.bool ((rd_T35 t282 x62_3).f2))).setCell ⟨gb287, 3, none⟩ (.int .i64 ((rd_T35 t282 x62_3).f3))).setCell ⟨gb287, 4, none⟩ (.slice A286_4 ((rd_T35 t282 x62_3).f4).length c286_4)) w.heap.size (fun k_ => some k_ ≠ (v270 : Value).ownBlock ∧ some k_ ≠ (.slice (some ad286) t282.length co33 : Value).ownBlock ∧ k_ ≠ gb287) (.slice A286_0 ((rd_T35 t282 x62_3).f0).length c286_0) ((rd_T35 t282 x62_3).f0)) := ⟨by (with_reducible repeat (first | apply Kd.V_alloc | apply Kd.V_drewN | apply Kd.V_drew)); exact Kd.V_mono (Kd.V_far (p := ⟨gb287, 4, none⟩) (Kd.V_far (p := ⟨gb287, 3, none⟩) (Kd.V_far (p := ⟨gb287, 2, none⟩) (Kd.V_far (p := ⟨gb287, 1, none⟩) (Kd.V_far (p := ⟨gb287, 0, none⟩) (Kd.V_mono HL286_0.out (fun k_ hk => (⟨hk, hk.2⟩ : _ ∧ k_ ≠ gb287))) (fun _ hk => hk.2) (.slice A286_0 ((rd_T35 t282 x62_3).f0).length c286_0)) (fun _ hk => hk.2) (.int .i64 ((rd_T35 t282 x62_3).f1))) (fun _ hk => hk.2) (.bool ((rd_T35 t282 x62_3).f2))) (fun _ hk => hk.2) (.int .i64 ((rd_T35 t282 x62_3).f3))) (fun _ hk => hk.2) (.slice A286_4 ((rd_T35 t282 x62_3).f4).length c286_4)) (fun _ hk => ⟨hk.1.1.1, ⟨hk.1.1.2, hk.1.2⟩⟩)⟩
                                  have n3_ : Aside0 (Kd.V (Kd.int .u8) 5 (((((w47.setCell ⟨gb287, 0, none⟩ (.slice A286_0 ((rd_T35 t282 x62_3).f0).length c286_0)).setCell ⟨gb287, 1, none⟩ (.int .i64 ((rd_T35 t282 x62_3).f1))).setCell ⟨gb287, 2, none⟩ (.bool ((rd_T35 t282 x62_3).f2))).setCell ⟨gb287, 3, none⟩ (.int .i64 ((rd_T35 t282 x62_3).f3))).setCell ⟨gb287, 4, none⟩ (.slice A286_4 ((rd_T35 t282 x62_3).f4).length c286_4)) w.heap.size (fun k_ => some k_ ≠ (v270 : Value).ownBlock ∧ some k_ ≠ (.slice (some ad286) t282.length co33 : Value).ownBlock ∧ k_ ≠ gb287) (.slice A286_4 ((rd_T35 t282 x62_3).f4).length c286_4) ((rd_T35 t282 x62_3).f4)) := ⟨by (with_reducible repeat (first | apply Kd.V_alloc | apply Kd.V_drewN | apply Kd.V_drew)); exact Kd.V_mono (Kd.V_far (p := ⟨gb287, 4, none⟩) (Kd.V_far (p := ⟨gb287, 3, none⟩) (Kd.V_far (p := ⟨gb287, 2, none⟩) (Kd.V_far (p := ⟨gb287, 1, none⟩) (Kd.V_far (p := ⟨gb287, 0, none⟩) (Kd.V_mono HL286_4.out (fun k_ hk => (⟨hk, hk.2⟩ : _ ∧ k_ ≠ gb287))) (fun _ hk => hk.2) (.slice A286_0 ((rd_T35 t282 x62_3).f0).length c286_0)) (fun _ hk => hk.2) (.int .i64 ((rd_T35 t282 x62_3).f1))) (fun _ hk => hk.2) (.bool ((rd_T35 t282 x62_3).f2))) (fun _ hk => hk.2) (.int .i64 ((rd_T35 t282 x62_3).f3))) (fun _ hk => hk.2) (.slice A286_4 ((rd_T35 t282 x62_3).f4).length c286_4)) (fun _ hk => ⟨hk.1.1.1, ⟨hk.1.1.2, hk.1.2⟩⟩)⟩
                                  have n4_ : Aside0 ((((((w47.setCell ⟨gb287, 0, none⟩ (.slice A286_0 ((rd_T35 t282 x62_3).f0).length c286_0)).setCell ⟨gb287, 1, none⟩ (.int .i64 ((rd_T35 t282 x62_3).f1))).setCell ⟨gb287, 2, none⟩ (.bool ((rd_T35 t282 x62_3).f2))).setCell ⟨gb287, 3, none⟩ (.int .i64 ((rd_T35 t282 x62_3).f3))).setCell ⟨gb287, 4, none⟩ (.slice A286_4 ((rd_T35 t282 x62_3).f4).length c286_4)).heap[gb287]? = some (.cells #[.slice A286_0 ((rd_T35 t282 x62_3).f0).length c286_0, .int .i64 ((rd_T35 t282 x62_3).f1), .bool ((rd_T35 t282 x62_3).f2), .int .i64 ((rd_T35 t282 x62_3).f3), .slice A286_4 ((rd_T35 t282 x62_3).f4).length c286_4] 35 (0, 0))) := ⟨by (with_reducible repeat (first | refine blk_drewN ?_ _ | refine blk_drew ?_ | refine blk_alloc ?_ _)); refine blk_put (cs := #[.slice A286_0 ((rd_T35 t282 x62_3).f0).length c286_0, .int .i64 ((rd_T35 t282 x62_3).f1), .bool ((rd_T35 t282 x62_3).f2), .int .i64 ((rd_T35 t282 x62_3).f3), .slice none 0 0]) ?_ 4 _ rfl; (with_reducible repeat (first | refine blk_drewN ?_ _ | refine blk_drew ?_ | refine blk_alloc ?_ _)); refine blk_put (cs := #[.slice A286_0 ((rd_T35 t282 x62_3).f0).length c286_0, .int .i64 ((rd_T35 t282 x62_3).f1), .bool ((rd_T35 t282 x62_3).f2), .int .i64 0, .slice none 0 0]) ?_ 3 _ rfl; (with_reducible repeat (first | refine blk_drewN ?_ _ | refine blk_drew ?_ | refine blk_alloc ?_ _)); refine blk_put (cs := #[.slice A286_0 ((rd_T35 t282 x62_3).f0).length c286_0, .int .i64 ((rd_T35 t282 x62_3).f1), .bool false, .int .i64 0, .slice none 0 0]) ?_ 2 _ rfl; (with_reducible repeat (first | refine blk_drewN ?_ _ | refine blk_drew ?_ | refine blk_alloc ?_ _)); refine blk_put (cs := #[.slice A286_0 ((rd_T35 t282 x62_3).f0).length c286_0, .int .i64 0, .bool false, .int .i64 0, .slice none 0 0]) ?_ 1 _ rfl; (with_reducible repeat (first | refine blk_drewN ?_ _ | refine blk_drew ?_ | refine blk_alloc ?_ _)); refine blk_put (cs := #[.slice none 0 0, .int .i64 0, .bool false, .int .i64 0, .slice none 0 0]) ?_ 0 _ rfl; (with_reducible repeat (first | refine blk_drewN ?_ _ | refine blk_drew ?_ | refine blk_alloc ?_ _)); exact BK287.out⟩
                                  have n5_ : Aside0 (Below w.heap.size w (((((w47.setCell ⟨gb287, 0, none⟩ (.slice A286_0 ((rd_T35 t282 x62_3).f0).length c286_0)).setCell ⟨gb287, 1, none⟩ (.int .i64 ((rd_T35 t282 x62_3).f1))).setCell ⟨gb287, 2, none⟩ (.bool ((rd_T35 t282 x62_3).f2))).setCell ⟨gb287, 3, none⟩ (.int .i64 ((rd_T35 t282 x62_3).f3))).setCell ⟨gb287, 4, none⟩ (.slice A286_4 ((rd_T35 t282 x62_3).f4).length c286_4))) := ⟨by repeat (first | (with_reducible first | exact HB.out | apply below_alloc | apply pw_below_drewN | apply below_drew1 | refine below_set ?_ GE287.out) | exact HB.out)⟩
                                  (try clear HO_10)
                                  (try clear HO_60)
                                  (try clear HL286_0)
                                  (try clear HL286_4)
                                  (try clear BK287)
                                  (try clear HB)
                                  generalize (((((w47.setCell ⟨gb287, 0, none⟩ (.slice A286_0 ((rd_T35 t282 x62_3).f0).length c286_0)).setCell ⟨gb287, 1, none⟩ (.int .i64 ((rd_T35 t282 x62_3).f1))).setCell ⟨gb287, 2, none⟩ (.bool ((rd_T35 t282 x62_3).f2))).setCell ⟨gb287, 3, none⟩ (.int .i64 ((rd_T35 t282 x62_3).f3))).setCell ⟨gb287, 4, none⟩ (.slice A286_4 ((rd_T35 t282 x62_3).f4).length c286_4)) = w49 at n0_ n1_ n2_ n3_ n4_ n5_ ⊢
                                  have HO_10 := n0_
                                  have HO_60 := n1_
                                  have HL286_0 := n2_
                                  have HL286_4 := n3_
                                  have BK287 := n4_
                                  have HB := n5_
                                  clear n0_ n1_ n2_ n3_ n4_ n5_
                                  have n0_ := Aside0.mk (Kd.N_drew HO_10.out)
                                  have n1_ := Aside0.mk (Kd.N_drew HO_60.out)
                                  have n2_ := Aside0.mk (Kd.V_drew HL286_0.out)
                                  have n3_ := Aside0.mk (Kd.V_drew HL286_4.out)
                                  have n4_ := Aside0.mk (blk_drew BK287.out)
                                  have n5_ := Aside0.mk (below_drew1 HB.out)
                                  clear HO_10
                                  clear HO_60
                                  clear HL286_0
                                  clear HL286_4
                                  clear BK287
                                  clear HB
                                  have HO_10 := n0_
                                  have HO_60 := n1_
                                  have HL286_0 := n2_
                                  have HL286_4 := n3_
                                  have BK287 := n4_
                                  have HB := n5_
                                  clear n0_ n1_ n2_ n3_ n4_ n5_
                                  obtain ⟨Ao51, co51, eo51⟩ := Kd.N_slice HO_10.out
                                  (first | subst eo51 | (injection eo51 with f1_ f2_ f3_; have f4_ := f1_.symm; have f5_ := f3_.symm; clear f1_ f2_ f3_; subst f4_; subst f5_))
                                  have p288 : 0 ≤ (x14_3 : Int) := pa
                                  have q288 : x14_3 < (t269.length : Int) := pa
                                  obtain ⟨ad288, A288_0, c288_0, A288_4, c288_4, e288, hx288_0, hx288_1, hx288_2, hx288_3, hx288_4, hl288_0, hi288_0, hl288_4, hi288_4⟩ := at_T35 (Kd.N_reads' HO_10.out).2.2 x14_3 p288 q288
                                  cases e288
                                  obtain ⟨ce288, hce288, hMe288, hcc288⟩ := Kd.N_get HO_10.out z35 x14_3 p288 (by first | exact q288 | exact pa | (have e_ := (Kd.N_reads' HO_10.out).1; omega))
                                  obtain ⟨ua288_0, uc288_0, ua288_4, uc288_4, rfl, ul288_0, ge288_0, ul288_4, ge288_4⟩ := k35_openF hMe288
                                  have hv288_0 := hcc288 0 _ rfl
                                  rw [Nat.add_zero] at hv288_0
                                  replace hv288_0 := Option.some.inj (hv288_0.symm.trans hx288_0)
                                  injection hv288_0 with hva_ hvn_ hvc_
                                  rw [hva_] at ge288_0
                                  rw [hvc_] at ul288_0
                                  have HL288_0 := Aside0.mk (show Kd.V (Kd.int .u8) 5 _ w.heap.size _ _ ((rd_T35 t269 x14_3).f0) from Kd.V_mk ul288_0 ge288_0)
                                  clear hva_ hvn_ hvc_ ge288_0 ul288_0
                                  have hv288_4 := hcc288 4 _ rfl
                                  rw [add_field _ _ 4 (by omega)] at hv288_4
                                  replace hv288_4 := Option.some.inj (hv288_4.symm.trans hx288_4)
                                  injection hv288_4 with hva_ hvn_ hvc_
                                  rw [hva_] at ge288_4
                                  rw [hvc_] at ul288_4
                                  have HL288_4 := Aside0.mk (show Kd.V (Kd.int .u8) 5 _ w.heap.size _ _ ((rd_T35 t269 x14_3).f4) from Kd.V_mk ul288_4 ge288_4)
                                  clear hva_ hvn_ hvc_ ge288_4 ul288_4
                                  clear hcc288 hce288
                                  have HR288_0 := Aside0.mk hi288_0
                                  have HC288_0 := Aside0.mk hl288_0
                                  clear hi288_0 hl288_0
                                  have HR288_4 := Aside0.mk hi288_4
                                  have HC288_4 := Aside0.mk hl288_4
                                  clear hi288_4 hl288_4
                                  replace p288 := eq_true p288
                                  replace q288 := eq_true q288
                                  refine start_ (n := 12) (S := fun w' => w'.cell? ⟨gb287, 0, none⟩ = some (.slice A286_0 ((rd_T35 t282 x62_3).f0).length c286_0) ∧ w'.cell? ⟨gb287, 1, none⟩ = some (.int .i64 ((rd_T35 t282 x62_3).f1)) ∧ w'.cell? ⟨gb287, 2, none⟩ = some (.bool ((rd_T35 t282 x62_3).f2)) ∧ w'.cell? ⟨gb287, 3, none⟩ = some (.int .i64 ((rd_T35 t282 x62_3).f3)) ∧ w'.cell? ⟨gb287, 4, none⟩ = some (.slice A286_4 ((rd_T35 t282 x62_3).f4).length c286_4) ∧ w'.cell? (ad288.add ((x14_3).toNat * 5)) = some (.slice A288_0 ((rd_T35 t269 x14_3).f0).length c288_0) ∧ w'.cell? ⟨(ad288.add ((x14_3).toNat * 5)).block, (ad288.add ((x14_3).toNat * 5)).off + 1, none⟩ = some (.int .i64 ((rd_T35 t269 x14_3).f1)) ∧ w'.cell? ⟨(ad288.add ((x14_3).toNat * 5)).block, (ad288.add ((x14_3).toNat * 5)).off + 2, none⟩ = some (.bool ((rd_T35 t269 x14_3).f2)) ∧ w'.cell? ⟨(ad288.add ((x14_3).toNat * 5)).block, (ad288.add ((x14_3).toNat * 5)).off + 3, none⟩ = some (.int .i64 ((rd_T35 t269 x14_3).f3)) ∧ w'.cell? ⟨(ad288.add ((x14_3).toNat * 5)).block, (ad288.add ((x14_3).toNat * 5)).off + 4, none⟩ = some (.slice A288_4 ((rd_T35 t269 x14_3).f4).length c288_4)) (ds := []) #[false, false, false, false, false, false, false, false, false, false, false, false] (by kernel_rfl) rfl rfl ⟨(blk_cell BK287.out 0).trans rfl, (blk_cell BK287.out 1).trans rfl, (blk_cell BK287.out 2).trans rfl, (blk_cell BK287.out 3).trans rfl, (blk_cell BK287.out 4).trans rfl, hx288_0, hx288_1, hx288_2, hx288_3, hx288_4⟩ (fun hHeld => ?_); refine with_tabW halyardlaw18_SquashPins.tab12 halyardlaw18_SquashPins.bits12 (fun HT_ HW_ => ?_)
                                  generalize w49.drew = w50 at HO_10 HO_60 HL286_0 HL286_4 BK287 HB HL288_0 HL288_4 HR288_0 HR288_4 hx288_0 hx288_1 hx288_2 hx288_3 hx288_4 hHeld ⊢
                                  refine pure_ (i := 0) (N := some 66) (v := ?_) (a' := ?_) #[true, false, false, false, false, false, false, false, false, false, false, false] rfl rfl (any_of HT_.out (by kernel_rfl)) (fun _ _ _ h => h) (Or.inl ⟨by rfl, ?_⟩) ?_ ?_
                                  rotate_left
                                  · intro w'
                                    go_simp
                                    with_reducible rfl
                                  rotate_left
                                  · simp only [Act.put, List.setIfInBounds_toArray, List.set_cons_zero, List.set_cons_succ, i64_w, i32_w]
                                    rfl
                                  refine pure_ (i := 1) (N := some 67) (v := ?_) (a' := ?_) #[true, true, false, false, false, false, false, false, false, false, false, false] rfl rfl (any_of HT_.out (by kernel_rfl)) (fun _ _ _ h => h) (Or.inl ⟨by rfl, ?_⟩) ?_ ?_
                                  rotate_left
                                  · intro w'
                                    go_simp
                                    with_reducible rfl
                                  rotate_left
                                  · simp only [Act.put, List.setIfInBounds_toArray, List.set_cons_zero, List.set_cons_succ, i64_w, i32_w]
                                    rfl
                                  refine pure_ (i := 2) (N := some 68) (v := ?_) (a' := ?_) #[true, true, true, false, false, false, false, false, false, false, false, false] rfl rfl (any_of HT_.out (by kernel_rfl)) (fun _ _ _ h => h) (Or.inl ⟨by rfl, ?_⟩) ?_ ?_
                                  rotate_left
                                  · intro w'
                                    go_simp
                                    with_reducible rfl
                                  rotate_left
                                  · simp only [Act.put, List.setIfInBounds_toArray, List.set_cons_zero, List.set_cons_succ, i64_w, i32_w]
                                    rfl
                                  refine pure_ (i := 3) (N := some 69) (v := ?_) (a' := ?_) #[true, true, true, true, false, false, false, false, false, false, false, false] rfl rfl (any_of HT_.out (by kernel_rfl)) (fun _ _ _ h => h) (Or.inl ⟨by rfl, ?_⟩) ?_ ?_
                                  rotate_left
                                  · intro w'
                                    go_simp
                                    with_reducible rfl
                                  rotate_left
                                  · simp only [Act.put, List.setIfInBounds_toArray, List.set_cons_zero, List.set_cons_succ, i64_w, i32_w]
                                    rfl
                                  refine pure_ (i := 4) (N := some 70) (v := ?_) (a' := ?_) #[true, true, true, true, true, false, false, false, false, false, false, false] rfl rfl (any_of HT_.out (by kernel_rfl)) (fun _ _ _ h => h) (Or.inl ⟨by rfl, ?_⟩) ?_ ?_
                                  rotate_left
                                  · intro w'
                                    go_simp
                                    with_reducible rfl
                                  rotate_left
                                  · simp only [Act.put, List.setIfInBounds_toArray, List.set_cons_zero, List.set_cons_succ, i64_w, i32_w]
                                    rfl
                                  refine pure_ (i := 5) (N := some 71) (v := ?_) (a' := ?_) #[true, true, true, true, true, true, false, false, false, false, false, false] rfl rfl (any_of HT_.out (by kernel_rfl)) (fun _ _ _ h => h) (Or.inl ⟨by rfl, ?_⟩) ?_ ?_
                                  rotate_left
                                  · intro w'
                                    go_simp
                                    with_reducible rfl
                                  rotate_left
                                  · simp only [Act.put, List.setIfInBounds_toArray, List.set_cons_zero, List.set_cons_succ, i64_w, i32_w]
                                    rfl
                                  refine pure_ (i := 6) (N := some 72) (v := ?_) (a' := ?_) #[true, true, true, true, true, true, true, false, false, false, false, false] rfl rfl (any_of HT_.out (by kernel_rfl)) (fun _ _ _ h => h) (Or.inl ⟨by rfl, ?_⟩) ?_ ?_
                                  rotate_left
                                  · intro w'
                                    go_simp
                                    with_reducible rfl
                                  rotate_left
                                  · simp only [Act.put, List.setIfInBounds_toArray, List.set_cons_zero, List.set_cons_succ, i64_w, i32_w]
                                    rfl
                                  refine pure_ (i := 7) (N := some 73) (v := ?_) (a' := ?_) #[true, true, true, true, true, true, true, true, false, false, false, false] rfl rfl (any_of HT_.out (by kernel_rfl)) (fun _ _ _ h => h) (Or.inl ⟨by rfl, ?_⟩) ?_ ?_
                                  rotate_left
                                  · intro w'
                                    go_simp
                                    with_reducible rfl
                                  rotate_left
                                  · simp only [Act.put, List.setIfInBounds_toArray, List.set_cons_zero, List.set_cons_succ, i64_w, i32_w]
                                    rfl
                                  refine take_ (i := 8) (N := some 74) (v := ?_) (a' := ?_) #[true, true, true, true, true, true, true, true, true, false, false, false] rfl rfl (take_ofW HT_.out HW_.out (by kernel_rfl)) (fun _ _ _ h => h) (Or.inl ⟨by rfl, ?_⟩) hHeld ?_ ?_
                                  rotate_left
                                  · rintro w' ⟨s0, s1, s2, s3, s4, s5, s6, s7, s8, s9⟩
                                    go_simp
                                    with_reducible rfl
                                  rotate_left
                                  · simp only [Act.put, List.setIfInBounds_toArray, List.set_cons_zero, List.set_cons_succ, i64_w, i32_w]
                                    rfl
                                  refine take_ (i := 9) (N := some 75) (v := ?_) (a' := ?_) #[true, true, true, true, true, true, true, true, true, true, false, false] rfl rfl (take_ofW HT_.out HW_.out (by kernel_rfl)) (fun _ _ _ h => h) (Or.inl ⟨by rfl, ?_⟩) hHeld ?_ ?_
                                  rotate_left
                                  · rintro w' ⟨s0, s1, s2, s3, s4, s5, s6, s7, s8, s9⟩
                                    go_simp
                                    with_reducible rfl
                                  rotate_left
                                  · simp only [Act.put, List.setIfInBounds_toArray, List.set_cons_zero, List.set_cons_succ, i64_w, i32_w]
                                    rfl
                                  refine one_ (i := 10) (N := some 76) #[true, true, true, true, true, true, true, true, true, true, true, false] rfl rfl (one_of HT_.out (by kernel_rfl)) (by decide) (fun K hK => ?_)
                                  refine goes_ Try.func16 (by kernel_rfl) rfl #[.agg #[.slice A288_0 ((rd_T35 t269 x14_3).f0).length c288_0, .int .i64 ((rd_T35 t269 x14_3).f1), .bool ((rd_T35 t269 x14_3).f2), .int .i64 ((rd_T35 t269 x14_3).f3), .slice A288_4 ((rd_T35 t269 x14_3).f4).length c288_4], .agg #[.slice A286_0 ((rd_T35 t282 x62_3).f0).length c286_0, .int .i64 ((rd_T35 t282 x62_3).f1), .bool ((rd_T35 t282 x62_3).f2), .int .i64 ((rd_T35 t282 x62_3).f3), .slice A286_4 ((rd_T35 t282 x62_3).f4).length c286_4]] (by rfl) rfl rfl pm ?_
                                  with_reducible refine (halyardref2_SameEntry.calls _ _ ((rd_T35 t269 x14_3).f0) ((rd_T35 t269 x14_3).f1) ((rd_T35 t269 x14_3).f2) ((rd_T35 t269 x14_3).f3) _ _ ((rd_T35 t269 x14_3).f4) _ _ ((rd_T35 t282 x62_3).f0) ((rd_T35 t282 x62_3).f1) ((rd_T35 t282 x62_3).f2) ((rd_T35 t282 x62_3).f3) _ _ ((rd_T35 t282 x62_3).f4) false _ ?side1 ?side2 ?side3 ?side4 ?side5 ?side6 ?side7 ?side8 A39.out).mono ?_
                                  (case side1 => repeat (first | exact (by repeat (first | (with_reducible exact HR288_0.out) | (with_reducible refine Kd.C_alloc ?_ _) | (with_reducible refine Kd.C_drewN ?_ _) | (with_reducible refine Kd.C_drew ?_) | exact HR288_0.out)) | (with_reducible refine Kd.C_alloc ?_ _) | (with_reducible refine Kd.C_drewN ?_ _) | (with_reducible refine Kd.C_drew ?_)))
                                  (case side2 => exact HC288_0.out)
                                  (case side3 => repeat (first | exact (by repeat (first | (with_reducible exact HR288_4.out) | (with_reducible refine Kd.C_alloc ?_ _) | (with_reducible refine Kd.C_drewN ?_ _) | (with_reducible refine Kd.C_drew ?_) | exact HR288_4.out)) | (with_reducible refine Kd.C_alloc ?_ _) | (with_reducible refine Kd.C_drewN ?_ _) | (with_reducible refine Kd.C_drew ?_)))
                                  (case side4 => exact HC288_4.out)
                                  (case side5 => repeat (first | exact ((Kd.V_reads' (by (with_reducible repeat (first | apply Kd.V_alloc | apply Kd.V_drewN | apply Kd.V_drew)); exact HL286_0.out)).2.2) | (with_reducible refine Kd.C_alloc ?_ _) | (with_reducible refine Kd.C_drewN ?_ _) | (with_reducible refine Kd.C_drew ?_)))
                                  (case side6 => exact HC286_0.out)
                                  (case side7 => repeat (first | exact ((Kd.V_reads' (by (with_reducible repeat (first | apply Kd.V_alloc | apply Kd.V_drewN | apply Kd.V_drew)); exact HL286_4.out)).2.2) | (with_reducible refine Kd.C_alloc ?_ _) | (with_reducible refine Kd.C_drewN ?_ _) | (with_reducible refine Kd.C_drew ?_)))
                                  (case side8 => exact HC286_4.out)
                                  rintro e w52 ⟨rfl, hb⟩
                                  have HS5_ := (hb.cell (World.block_lt_of_cell? _ _ (hHeld.2.2.2.2.2.1))).trans (hHeld.2.2.2.2.2.1)
                                  have HS6_ := (hb.cell (World.block_lt_of_cell? _ _ (hHeld.2.2.2.2.2.2.1))).trans (hHeld.2.2.2.2.2.2.1)
                                  have HS7_ := (hb.cell (World.block_lt_of_cell? _ _ (hHeld.2.2.2.2.2.2.2.1))).trans (hHeld.2.2.2.2.2.2.2.1)
                                  have HS8_ := (hb.cell (World.block_lt_of_cell? _ _ (hHeld.2.2.2.2.2.2.2.2.1))).trans (hHeld.2.2.2.2.2.2.2.2.1)
                                  have HS9_ := (hb.cell (World.block_lt_of_cell? _ _ (hHeld.2.2.2.2.2.2.2.2.2))).trans (hHeld.2.2.2.2.2.2.2.2.2)
                                  refine ⟨_, rfl, ?_⟩
                                  have n0_ := Aside0.mk (Kd.N_below (by (with_reducible repeat (first | apply Kd.N_alloc | apply Kd.N_drewN | apply Kd.N_drew)); exact HO_10.out) hb)
                                  have n1_ := Aside0.mk (Kd.N_below (by (with_reducible repeat (first | apply Kd.N_alloc | apply Kd.N_drewN | apply Kd.N_drew)); exact HO_60.out) hb)
                                  have n2_ := Aside0.mk (Kd.V_below (by (with_reducible repeat (first | apply Kd.V_alloc | apply Kd.V_drewN | apply Kd.V_drew)); exact HL286_0.out) hb)
                                  have n3_ := Aside0.mk (Kd.V_below (by (with_reducible repeat (first | apply Kd.V_alloc | apply Kd.V_drewN | apply Kd.V_drew)); exact HL286_4.out) hb)
                                  have n4_ := Aside0.mk (Kd.V_below (by (with_reducible repeat (first | apply Kd.V_alloc | apply Kd.V_drewN | apply Kd.V_drew)); exact HL288_0.out) hb)
                                  have n5_ := Aside0.mk (Kd.V_below (by (with_reducible repeat (first | apply Kd.V_alloc | apply Kd.V_drewN | apply Kd.V_drew)); exact HL288_4.out) hb)
                                  have n6_ := Aside0.mk (blk_below (g := gb287) (o := .cells #[.slice A286_0 ((rd_T35 t282 x62_3).f0).length c286_0, .int .i64 ((rd_T35 t282 x62_3).f1), .bool ((rd_T35 t282 x62_3).f2), .int .i64 ((rd_T35 t282 x62_3).f3), .slice A286_4 ((rd_T35 t282 x62_3).f4).length c286_4] 35 (0, 0)) (by (with_reducible repeat (first | refine blk_drewN ?_ _ | refine blk_drew ?_ | refine blk_alloc ?_ _)); exact BK287.out) hb)
                                  have n7_ := Aside0.mk (Kd.C_below (by repeat (first | (with_reducible exact HR288_0.out) | (with_reducible refine Kd.C_alloc ?_ _) | (with_reducible refine Kd.C_drewN ?_ _) | (with_reducible refine Kd.C_drew ?_) | exact HR288_0.out)) hb)
                                  have n8_ := Aside0.mk (Kd.C_below (by repeat (first | (with_reducible exact HR288_4.out) | (with_reducible refine Kd.C_alloc ?_ _) | (with_reducible refine Kd.C_drewN ?_ _) | (with_reducible refine Kd.C_drew ?_) | exact HR288_4.out)) hb)
                                  have n9_ := Aside0.mk (below_step (by repeat (first | (with_reducible first | exact HB.out | apply below_alloc | apply pw_below_drewN | apply below_drew1 | refine below_set ?_ GE287.out) | exact HB.out)) hb)
                                  clear HO_10
                                  clear HO_60
                                  clear HL286_0
                                  clear HL286_4
                                  clear HL288_0
                                  clear HL288_4
                                  clear BK287
                                  clear HR288_0
                                  clear HR288_4
                                  clear HB
                                  have HO_10 := n0_
                                  have HO_60 := n1_
                                  have HL286_0 := n2_
                                  have HL286_4 := n3_
                                  have HL288_0 := n4_
                                  have HL288_4 := n5_
                                  have BK287 := n6_
                                  have HR288_0 := n7_
                                  have HR288_4 := n8_
                                  have HB := n9_
                                  clear n0_ n1_ n2_ n3_ n4_ n5_ n6_ n7_ n8_ n9_
                                  (try clear hb)
                                  (try clear hb2)
                                  (try clear hk)
                                  (try clear hi)
                                  refine hK.out _ _ ⟨(blk_cell BK287.out 0).trans rfl, (blk_cell BK287.out 1).trans rfl, (blk_cell BK287.out 2).trans rfl, (blk_cell BK287.out 3).trans rfl, (blk_cell BK287.out 4).trans rfl, HS5_, HS6_, HS7_, HS8_, HS9_⟩ (fun hHeld => ?_)
                                  clear hK K
                                  refine norm_ (a' := ?_) ?_ ?_
                                  rotate_left
                                  · show Act.put _ (some 76) _ = _
                                    simp only [Act.put, List.setIfInBounds_toArray, List.set_cons_zero, List.set_cons_succ, i64_w, i32_w]
                                    rfl
                                  refine pure_ (i := 11) (N := some 77) (v := ?_) (a' := ?_) #[true, true, true, true, true, true, true, true, true, true, true, true] rfl rfl (any_of HT_.out (by kernel_rfl)) (fun _ _ _ h => h) (Or.inl ⟨by rfl, ?_⟩) ?_ ?_
                                  rotate_left
                                  · intro w'
                                    go_simp
                                    with_reducible rfl
                                  rotate_left
                                  · simp only [Act.put, List.setIfInBounds_toArray, List.set_cons_zero, List.set_cons_succ, i64_w, i32_w]
                                    rfl
                                  refine done_ (done_of HT_.out (by kernel_rfl)) ?_
                                  try go_wp2
                                  go_roundg k3
                                  case measure => have := HJ4.out; have := HJ17.out; have := HK3.out; omega
                                  case rel => exact ⟨(x14_3), (wrap64 (x62_3 + 1)), (by first | rfl | (simp; done) | (simp [*]; done)), (by first | rfl | (simp; done) | (simp [*]; done)), H', ⟨by have := HJ4.out; have := HJ17.out; have := HK3.out; omega⟩, ⟨by (with_reducible repeat (first | apply Kd.N_alloc | apply Kd.N_drewN | apply Kd.N_drew)); exact Kd.N_mono HO_10.out (fun _ hk => hk.1)⟩, ⟨by (with_reducible repeat (first | apply Kd.N_alloc | apply Kd.N_drewN | apply Kd.N_drew)); exact Kd.N_mono HO_60.out (fun _ hk => hk.1)⟩, ⟨by repeat (first | (with_reducible first | exact HB.out | apply below_alloc | apply pw_below_drewN | apply below_drew1 | refine below_set ?_ GE287.out) | exact HB.out)⟩⟩
                              · rw [if_neg c38] at H
                                exact absurd H (by simp)
                            · rw [if_neg c37] at H
                              have c37b0 : decide (x14_3 < (t269.length : Int)) = false := decide_eq_false c37
                              clear c37
                              have H' := Aside0.mk H
                              clear H
                              have p286 : 0 ≤ (x62_3 : Int) := pa
                              have q286 : x62_3 < (t282.length : Int) := pa
                              obtain ⟨ad286, A286_0, c286_0, A286_4, c286_4, e286, hx286_0, hx286_1, hx286_2, hx286_3, hx286_4, hl286_0, hi286_0, hl286_4, hi286_4⟩ := at_T35 (Kd.N_reads' HO_60.out).2.2 x62_3 p286 q286
                              cases e286
                              obtain ⟨ce286, hce286, hMe286, hcc286⟩ := Kd.N_get HO_60.out z35 x62_3 p286 (by first | exact q286 | exact pa | (have e_ := (Kd.N_reads' HO_60.out).1; omega))
                              obtain ⟨ua286_0, uc286_0, ua286_4, uc286_4, rfl, ul286_0, ge286_0, ul286_4, ge286_4⟩ := k35_openF hMe286
                              have hv286_0 := hcc286 0 _ rfl
                              rw [Nat.add_zero] at hv286_0
                              replace hv286_0 := Option.some.inj (hv286_0.symm.trans hx286_0)
                              injection hv286_0 with hva_ hvn_ hvc_
                              rw [hva_] at ge286_0
                              rw [hvc_] at ul286_0
                              have HL286_0 := Aside0.mk (show Kd.V (Kd.int .u8) 5 _ w.heap.size _ _ ((rd_T35 t282 x62_3).f0) from Kd.V_mk ul286_0 ge286_0)
                              clear hva_ hvn_ hvc_ ge286_0 ul286_0
                              have hv286_4 := hcc286 4 _ rfl
                              rw [add_field _ _ 4 (by omega)] at hv286_4
                              replace hv286_4 := Option.some.inj (hv286_4.symm.trans hx286_4)
                              injection hv286_4 with hva_ hvn_ hvc_
                              rw [hva_] at ge286_4
                              rw [hvc_] at ul286_4
                              have HL286_4 := Aside0.mk (show Kd.V (Kd.int .u8) 5 _ w.heap.size _ _ ((rd_T35 t282 x62_3).f4) from Kd.V_mk ul286_4 ge286_4)
                              clear hva_ hvn_ hvc_ ge286_4 ul286_4
                              clear hcc286 hce286
                              have HR286_0 := Aside0.mk hi286_0
                              have HC286_0 := Aside0.mk hl286_0
                              clear hi286_0 hl286_0
                              have HR286_4 := Aside0.mk hi286_4
                              have HC286_4 := Aside0.mk hl286_4
                              clear hi286_4 hl286_4
                              replace p286 := eq_true p286
                              replace q286 := eq_true q286
                              try go_wp2_with (first | ((with_reducible refine gate_dst (N := 16) rfl ?_); (try (refine gate_guard (by rfl) ?_; dsimp only)); refine box_event ?hg (N := 16) ?hd (cs := #[.slice none 0 0, .int .i64 0, .bool false, .int .i64 0, .slice none 0 0]) (t := 35) ?hr ?_; (case hd => rfl); (case hg => rfl); (case hr => first | (go_simp; done) | (go_simp; rfl)); intro gb287 hg w53 hbox hb; have n0_ := Aside0.mk (Kd.N_below (Kd.N_elderB (by (with_reducible repeat (first | apply Kd.N_alloc | apply Kd.N_drewN | apply Kd.N_drew)); exact HO_10.out) gb287 (Nat.le_of_eq hg.symm)) hb); have n1_ := Aside0.mk (Kd.N_below (Kd.N_elderB (by (with_reducible repeat (first | apply Kd.N_alloc | apply Kd.N_drewN | apply Kd.N_drew)); exact HO_60.out) gb287 (Nat.le_of_eq hg.symm)) hb); have n2_ := Aside0.mk (Kd.V_below (Kd.V_elderB (by (with_reducible repeat (first | apply Kd.V_alloc | apply Kd.V_drewN | apply Kd.V_drew)); exact HL286_0.out) gb287 (Nat.le_of_eq hg.symm)) hb); have n3_ := Aside0.mk (Kd.V_below (Kd.V_elderB (by (with_reducible repeat (first | apply Kd.V_alloc | apply Kd.V_drewN | apply Kd.V_drew)); exact HL286_4.out) gb287 (Nat.le_of_eq hg.symm)) hb); have n4_ := Aside0.mk (Kd.C_below (by repeat (first | (with_reducible exact HR286_0.out) | (with_reducible refine Kd.C_alloc ?_ _) | (with_reducible refine Kd.C_drewN ?_ _) | (with_reducible refine Kd.C_drew ?_) | exact HR286_0.out)) hb); have n5_ := Aside0.mk (Kd.C_below (by repeat (first | (with_reducible exact HR286_4.out) | (with_reducible refine Kd.C_alloc ?_ _) | (with_reducible refine Kd.C_drewN ?_ _) | (with_reducible refine Kd.C_drew ?_) | exact HR286_4.out)) hb); have n6_ := Aside0.mk (below_step pb hb); have n7_ := Aside0.mk (hbox); have n8_ := Aside0.mk ((by rw [hg]; exact (below_size pb) : w.heap.size ≤ gb287)); have n9_ := Aside0.mk ((by rw [hg]; exact (below_size pb) : w.heap.size ≤ gb287)); clear HO_10; clear HO_60; clear HL286_0; clear HL286_4; clear HR286_0; clear HR286_4; clear HB; have HO_10 := n0_; have HO_60 := n1_; have HL286_0 := n2_; have HL286_4 := n3_; have HR286_0 := n4_; have HR286_4 := n5_; have HB := n6_; have BK287 := n7_; have GW287 := n8_; have GE287 := n9_; clear n0_ n1_ n2_ n3_ n4_ n5_ n6_ n7_ n8_ n9_; clear hb hbox hg; have hcz54_0 : w53.cell? ⟨gb287, 0, none⟩ = some (.slice none 0 0) := (blk_cell BK287.out 0).trans rfl; have hcz54_1 : w53.cell? ⟨gb287, 1, none⟩ = some (.int .i64 0) := (blk_cell BK287.out 1).trans rfl; have hcz54_2 : w53.cell? ⟨gb287, 2, none⟩ = some (.bool false) := (blk_cell BK287.out 2).trans rfl; have hcz54_3 : w53.cell? ⟨gb287, 3, none⟩ = some (.int .i64 0) := (blk_cell BK287.out 3).trans rfl; have hcz54_4 : w53.cell? ⟨gb287, 4, none⟩ = some (.slice none 0 0) := (blk_cell BK287.out 4).trans rfl; have hfz54_0 := blk_frozen BK287.out 0; have hfz54_1 := blk_frozen BK287.out 1; have hfz54_2 := blk_frozen BK287.out 2; have hfz54_3 := blk_frozen BK287.out 3; have hfz54_4 := blk_frozen BK287.out 4))
                              have n0_ : Aside0 (Kd.N k35 35 (((((w53.setCell ⟨gb287, 0, none⟩ (.slice A286_0 ((rd_T35 t282 x62_3).f0).length c286_0)).setCell ⟨gb287, 1, none⟩ (.int .i64 ((rd_T35 t282 x62_3).f1))).setCell ⟨gb287, 2, none⟩ (.bool ((rd_T35 t282 x62_3).f2))).setCell ⟨gb287, 3, none⟩ (.int .i64 ((rd_T35 t282 x62_3).f3))).setCell ⟨gb287, 4, none⟩ (.slice A286_4 ((rd_T35 t282 x62_3).f4).length c286_4)) w.heap.size (fun k_ => some k_ ≠ (.slice (some ad286) t282.length co33 : Value).ownBlock ∧ k_ ≠ gb287) v270 t269) := ⟨by (with_reducible repeat (first | apply Kd.N_alloc | apply Kd.N_drewN | apply Kd.N_drew)); exact Kd.N_mono (Kd.N_far (p := ⟨gb287, 4, none⟩) (Kd.N_far (p := ⟨gb287, 3, none⟩) (Kd.N_far (p := ⟨gb287, 2, none⟩) (Kd.N_far (p := ⟨gb287, 1, none⟩) (Kd.N_far (p := ⟨gb287, 0, none⟩) (Kd.N_mono HO_10.out (fun k_ hk => (⟨hk, hk.2⟩ : _ ∧ k_ ≠ gb287))) (fun _ hk => hk.2) (.slice A286_0 ((rd_T35 t282 x62_3).f0).length c286_0)) (fun _ hk => hk.2) (.int .i64 ((rd_T35 t282 x62_3).f1))) (fun _ hk => hk.2) (.bool ((rd_T35 t282 x62_3).f2))) (fun _ hk => hk.2) (.int .i64 ((rd_T35 t282 x62_3).f3))) (fun _ hk => hk.2) (.slice A286_4 ((rd_T35 t282 x62_3).f4).length c286_4)) (fun _ hk => ⟨hk.1.1, hk.1.2⟩)⟩
                              have n1_ : Aside0 (Kd.N k35 35 (((((w53.setCell ⟨gb287, 0, none⟩ (.slice A286_0 ((rd_T35 t282 x62_3).f0).length c286_0)).setCell ⟨gb287, 1, none⟩ (.int .i64 ((rd_T35 t282 x62_3).f1))).setCell ⟨gb287, 2, none⟩ (.bool ((rd_T35 t282 x62_3).f2))).setCell ⟨gb287, 3, none⟩ (.int .i64 ((rd_T35 t282 x62_3).f3))).setCell ⟨gb287, 4, none⟩ (.slice A286_4 ((rd_T35 t282 x62_3).f4).length c286_4)) w.heap.size (fun k_ => some k_ ≠ (v270 : Value).ownBlock ∧ k_ ≠ gb287) (.slice (some ad286) t282.length co33) t282) := ⟨by (with_reducible repeat (first | apply Kd.N_alloc | apply Kd.N_drewN | apply Kd.N_drew)); exact Kd.N_mono (Kd.N_far (p := ⟨gb287, 4, none⟩) (Kd.N_far (p := ⟨gb287, 3, none⟩) (Kd.N_far (p := ⟨gb287, 2, none⟩) (Kd.N_far (p := ⟨gb287, 1, none⟩) (Kd.N_far (p := ⟨gb287, 0, none⟩) (Kd.N_mono HO_60.out (fun k_ hk => (⟨hk, hk.2⟩ : _ ∧ k_ ≠ gb287))) (fun _ hk => hk.2) (.slice A286_0 ((rd_T35 t282 x62_3).f0).length c286_0)) (fun _ hk => hk.2) (.int .i64 ((rd_T35 t282 x62_3).f1))) (fun _ hk => hk.2) (.bool ((rd_T35 t282 x62_3).f2))) (fun _ hk => hk.2) (.int .i64 ((rd_T35 t282 x62_3).f3))) (fun _ hk => hk.2) (.slice A286_4 ((rd_T35 t282 x62_3).f4).length c286_4)) (fun _ hk => ⟨hk.1.1, hk.1.2⟩)⟩
                              have n2_ : Aside0 (Kd.V (Kd.int .u8) 5 (((((w53.setCell ⟨gb287, 0, none⟩ (.slice A286_0 ((rd_T35 t282 x62_3).f0).length c286_0)).setCell ⟨gb287, 1, none⟩ (.int .i64 ((rd_T35 t282 x62_3).f1))).setCell ⟨gb287, 2, none⟩ (.bool ((rd_T35 t282 x62_3).f2))).setCell ⟨gb287, 3, none⟩ (.int .i64 ((rd_T35 t282 x62_3).f3))).setCell ⟨gb287, 4, none⟩ (.slice A286_4 ((rd_T35 t282 x62_3).f4).length c286_4)) w.heap.size (fun k_ => some k_ ≠ (v270 : Value).ownBlock ∧ some k_ ≠ (.slice (some ad286) t282.length co33 : Value).ownBlock ∧ k_ ≠ gb287) (.slice A286_0 ((rd_T35 t282 x62_3).f0).length c286_0) ((rd_T35 t282 x62_3).f0)) := ⟨by (with_reducible repeat (first | apply Kd.V_alloc | apply Kd.V_drewN | apply Kd.V_drew)); exact Kd.V_mono (Kd.V_far (p := ⟨gb287, 4, none⟩) (Kd.V_far (p := ⟨gb287, 3, none⟩) (Kd.V_far (p := ⟨gb287, 2, none⟩) (Kd.V_far (p := ⟨gb287, 1, none⟩) (Kd.V_far (p := ⟨gb287, 0, none⟩) (Kd.V_mono HL286_0.out (fun k_ hk => (⟨hk, hk.2⟩ : _ ∧ k_ ≠ gb287))) (fun _ hk => hk.2) (.slice A286_0 ((rd_T35 t282 x62_3).f0).length c286_0)) (fun _ hk => hk.2) (.int .i64 ((rd_T35 t282 x62_3).f1))) (fun _ hk => hk.2) (.bool ((rd_T35 t282 x62_3).f2))) (fun _ hk => hk.2) (.int .i64 ((rd_T35 t282 x62_3).f3))) (fun _ hk => hk.2) (.slice A286_4 ((rd_T35 t282 x62_3).f4).length c286_4)) (fun _ hk => ⟨hk.1.1.1, ⟨hk.1.1.2, hk.1.2⟩⟩)⟩
                              have n3_ : Aside0 (Kd.V (Kd.int .u8) 5 (((((w53.setCell ⟨gb287, 0, none⟩ (.slice A286_0 ((rd_T35 t282 x62_3).f0).length c286_0)).setCell ⟨gb287, 1, none⟩ (.int .i64 ((rd_T35 t282 x62_3).f1))).setCell ⟨gb287, 2, none⟩ (.bool ((rd_T35 t282 x62_3).f2))).setCell ⟨gb287, 3, none⟩ (.int .i64 ((rd_T35 t282 x62_3).f3))).setCell ⟨gb287, 4, none⟩ (.slice A286_4 ((rd_T35 t282 x62_3).f4).length c286_4)) w.heap.size (fun k_ => some k_ ≠ (v270 : Value).ownBlock ∧ some k_ ≠ (.slice (some ad286) t282.length co33 : Value).ownBlock ∧ k_ ≠ gb287) (.slice A286_4 ((rd_T35 t282 x62_3).f4).length c286_4) ((rd_T35 t282 x62_3).f4)) := ⟨by (with_reducible repeat (first | apply Kd.V_alloc | apply Kd.V_drewN | apply Kd.V_drew)); exact Kd.V_mono (Kd.V_far (p := ⟨gb287, 4, none⟩) (Kd.V_far (p := ⟨gb287, 3, none⟩) (Kd.V_far (p := ⟨gb287, 2, none⟩) (Kd.V_far (p := ⟨gb287, 1, none⟩) (Kd.V_far (p := ⟨gb287, 0, none⟩) (Kd.V_mono HL286_4.out (fun k_ hk => (⟨hk, hk.2⟩ : _ ∧ k_ ≠ gb287))) (fun _ hk => hk.2) (.slice A286_0 ((rd_T35 t282 x62_3).f0).length c286_0)) (fun _ hk => hk.2) (.int .i64 ((rd_T35 t282 x62_3).f1))) (fun _ hk => hk.2) (.bool ((rd_T35 t282 x62_3).f2))) (fun _ hk => hk.2) (.int .i64 ((rd_T35 t282 x62_3).f3))) (fun _ hk => hk.2) (.slice A286_4 ((rd_T35 t282 x62_3).f4).length c286_4)) (fun _ hk => ⟨hk.1.1.1, ⟨hk.1.1.2, hk.1.2⟩⟩)⟩
                              have n4_ : Aside0 ((((((w53.setCell ⟨gb287, 0, none⟩ (.slice A286_0 ((rd_T35 t282 x62_3).f0).length c286_0)).setCell ⟨gb287, 1, none⟩ (.int .i64 ((rd_T35 t282 x62_3).f1))).setCell ⟨gb287, 2, none⟩ (.bool ((rd_T35 t282 x62_3).f2))).setCell ⟨gb287, 3, none⟩ (.int .i64 ((rd_T35 t282 x62_3).f3))).setCell ⟨gb287, 4, none⟩ (.slice A286_4 ((rd_T35 t282 x62_3).f4).length c286_4)).heap[gb287]? = some (.cells #[.slice A286_0 ((rd_T35 t282 x62_3).f0).length c286_0, .int .i64 ((rd_T35 t282 x62_3).f1), .bool ((rd_T35 t282 x62_3).f2), .int .i64 ((rd_T35 t282 x62_3).f3), .slice A286_4 ((rd_T35 t282 x62_3).f4).length c286_4] 35 (0, 0))) := ⟨by (with_reducible repeat (first | refine blk_drewN ?_ _ | refine blk_drew ?_ | refine blk_alloc ?_ _)); refine blk_put (cs := #[.slice A286_0 ((rd_T35 t282 x62_3).f0).length c286_0, .int .i64 ((rd_T35 t282 x62_3).f1), .bool ((rd_T35 t282 x62_3).f2), .int .i64 ((rd_T35 t282 x62_3).f3), .slice none 0 0]) ?_ 4 _ rfl; (with_reducible repeat (first | refine blk_drewN ?_ _ | refine blk_drew ?_ | refine blk_alloc ?_ _)); refine blk_put (cs := #[.slice A286_0 ((rd_T35 t282 x62_3).f0).length c286_0, .int .i64 ((rd_T35 t282 x62_3).f1), .bool ((rd_T35 t282 x62_3).f2), .int .i64 0, .slice none 0 0]) ?_ 3 _ rfl; (with_reducible repeat (first | refine blk_drewN ?_ _ | refine blk_drew ?_ | refine blk_alloc ?_ _)); refine blk_put (cs := #[.slice A286_0 ((rd_T35 t282 x62_3).f0).length c286_0, .int .i64 ((rd_T35 t282 x62_3).f1), .bool false, .int .i64 0, .slice none 0 0]) ?_ 2 _ rfl; (with_reducible repeat (first | refine blk_drewN ?_ _ | refine blk_drew ?_ | refine blk_alloc ?_ _)); refine blk_put (cs := #[.slice A286_0 ((rd_T35 t282 x62_3).f0).length c286_0, .int .i64 0, .bool false, .int .i64 0, .slice none 0 0]) ?_ 1 _ rfl; (with_reducible repeat (first | refine blk_drewN ?_ _ | refine blk_drew ?_ | refine blk_alloc ?_ _)); refine blk_put (cs := #[.slice none 0 0, .int .i64 0, .bool false, .int .i64 0, .slice none 0 0]) ?_ 0 _ rfl; (with_reducible repeat (first | refine blk_drewN ?_ _ | refine blk_drew ?_ | refine blk_alloc ?_ _)); exact BK287.out⟩
                              have n5_ : Aside0 (Below w.heap.size w (((((w53.setCell ⟨gb287, 0, none⟩ (.slice A286_0 ((rd_T35 t282 x62_3).f0).length c286_0)).setCell ⟨gb287, 1, none⟩ (.int .i64 ((rd_T35 t282 x62_3).f1))).setCell ⟨gb287, 2, none⟩ (.bool ((rd_T35 t282 x62_3).f2))).setCell ⟨gb287, 3, none⟩ (.int .i64 ((rd_T35 t282 x62_3).f3))).setCell ⟨gb287, 4, none⟩ (.slice A286_4 ((rd_T35 t282 x62_3).f4).length c286_4))) := ⟨by repeat (first | (with_reducible first | exact HB.out | apply below_alloc | apply pw_below_drewN | apply below_drew1 | refine below_set ?_ GE287.out) | exact HB.out)⟩
                              (try clear HO_10)
                              (try clear HO_60)
                              (try clear HL286_0)
                              (try clear HL286_4)
                              (try clear BK287)
                              (try clear HB)
                              generalize (((((w53.setCell ⟨gb287, 0, none⟩ (.slice A286_0 ((rd_T35 t282 x62_3).f0).length c286_0)).setCell ⟨gb287, 1, none⟩ (.int .i64 ((rd_T35 t282 x62_3).f1))).setCell ⟨gb287, 2, none⟩ (.bool ((rd_T35 t282 x62_3).f2))).setCell ⟨gb287, 3, none⟩ (.int .i64 ((rd_T35 t282 x62_3).f3))).setCell ⟨gb287, 4, none⟩ (.slice A286_4 ((rd_T35 t282 x62_3).f4).length c286_4)) = w55 at n0_ n1_ n2_ n3_ n4_ n5_ ⊢
                              have HO_10 := n0_
                              have HO_60 := n1_
                              have HL286_0 := n2_
                              have HL286_4 := n3_
                              have BK287 := n4_
                              have HB := n5_
                              clear n0_ n1_ n2_ n3_ n4_ n5_
                              have n0_ := Aside0.mk (Kd.N_drew HO_10.out)
                              have n1_ := Aside0.mk (Kd.N_drew HO_60.out)
                              have n2_ := Aside0.mk (Kd.V_drew HL286_0.out)
                              have n3_ := Aside0.mk (Kd.V_drew HL286_4.out)
                              have n4_ := Aside0.mk (blk_drew BK287.out)
                              have n5_ := Aside0.mk (below_drew1 HB.out)
                              clear HO_10
                              clear HO_60
                              clear HL286_0
                              clear HL286_4
                              clear BK287
                              clear HB
                              have HO_10 := n0_
                              have HO_60 := n1_
                              have HL286_0 := n2_
                              have HL286_4 := n3_
                              have BK287 := n4_
                              have HB := n5_
                              clear n0_ n1_ n2_ n3_ n4_ n5_
                              obtain ⟨Ao57, co57, eo57⟩ := Kd.N_slice HO_10.out
                              (first | subst eo57 | (injection eo57 with f1_ f2_ f3_; have f4_ := f1_.symm; have f5_ := f3_.symm; clear f1_ f2_ f3_; subst f4_; subst f5_))
                              refine start_ (n := 12) (S := fun w' => True) (ds := []) #[false, false, false, false, false, false, false, false, false, false, false, false] (by kernel_rfl) rfl rfl trivial (fun hHeld => ?_); refine with_tabW halyardlaw18_SquashPins.tab12 halyardlaw18_SquashPins.bits12 (fun HT_ HW_ => ?_)
                              generalize w55.drew = w56 at HO_10 HO_60 HL286_0 HL286_4 BK287 HB hHeld ⊢
                              refine pure_ (i := 0) (N := some 66) (v := ?_) (a' := ?_) #[true, false, false, false, false, false, false, false, false, false, false, false] rfl rfl (any_of HT_.out (by kernel_rfl)) (fun _ _ _ h => h) (Or.inl ⟨by rfl, ?_⟩) ?_ ?_
                              rotate_left
                              · intro w'
                                go_simp
                                with_reducible rfl
                              rotate_left
                              · simp only [Act.put, List.setIfInBounds_toArray, List.set_cons_zero, List.set_cons_succ, i64_w, i32_w]
                                rfl
                              refine pure_ (i := 1) (N := some 67) (v := ?_) (a' := ?_) #[true, true, false, false, false, false, false, false, false, false, false, false] rfl rfl (any_of HT_.out (by kernel_rfl)) (fun _ _ _ h => h) (Or.inl ⟨by rfl, ?_⟩) ?_ ?_
                              rotate_left
                              · intro w'
                                go_simp
                                with_reducible rfl
                              rotate_left
                              · simp only [Act.put, List.setIfInBounds_toArray, List.set_cons_zero, List.set_cons_succ, i64_w, i32_w]
                                rfl
                              refine pure_ (i := 2) (N := some 68) (v := ?_) (a' := ?_) #[true, true, true, false, false, false, false, false, false, false, false, false] rfl rfl (any_of HT_.out (by kernel_rfl)) (fun _ _ _ h => h) (Or.inl ⟨by rfl, ?_⟩) ?_ ?_
                              rotate_left
                              · intro w'
                                go_simp
                                with_reducible rfl
                              rotate_left
                              · simp only [Act.put, List.setIfInBounds_toArray, List.set_cons_zero, List.set_cons_succ, i64_w, i32_w]
                                rfl
                              refine pure_ (i := 3) (N := some 69) (v := ?_) (a' := ?_) #[true, true, true, true, false, false, false, false, false, false, false, false] rfl rfl (any_of HT_.out (by kernel_rfl)) (fun _ _ _ h => h) (Or.inl ⟨by rfl, ?_⟩) ?_ ?_
                              rotate_left
                              · intro w'
                                go_simp
                                with_reducible rfl
                              rotate_left
                              · simp only [Act.put, List.setIfInBounds_toArray, List.set_cons_zero, List.set_cons_succ, i64_w, i32_w]
                                rfl
                              refine pure_ (i := 4) (N := some 70) (v := ?_) (a' := ?_) #[true, true, true, true, true, false, false, false, false, false, false, false] rfl rfl (any_of HT_.out (by kernel_rfl)) (fun _ _ _ h => h) (Or.inl ⟨by rfl, ?_⟩) ?_ ?_
                              rotate_left
                              · intro w'
                                go_simp
                                with_reducible rfl
                              rotate_left
                              · simp only [Act.put, List.setIfInBounds_toArray, List.set_cons_zero, List.set_cons_succ, i64_w, i32_w]
                                rfl
                              refine pure_ (i := 5) (N := some 71) (v := undef) (a' := ?_) #[true, true, true, true, true, true, false, false, false, false, false, false] rfl rfl (any_of HT_.out (by kernel_rfl)) (fun _ _ _ h => h) (Or.inr ⟨by rfl, rfl⟩) ?_ ?_
                              rotate_left
                              · simp only [Act.put, List.setIfInBounds_toArray, List.set_cons_zero, List.set_cons_succ, i64_w, i32_w]
                                rfl
                              refine pure_ (i := 6) (N := some 72) (v := undef) (a' := ?_) #[true, true, true, true, true, true, true, false, false, false, false, false] rfl rfl (any_of HT_.out (by kernel_rfl)) (fun _ _ _ h => h) (Or.inr ⟨by rfl, rfl⟩) ?_ ?_
                              rotate_left
                              · simp only [Act.put, List.setIfInBounds_toArray, List.set_cons_zero, List.set_cons_succ, i64_w, i32_w]
                                rfl
                              refine pure_ (i := 7) (N := some 73) (v := undef) (a' := ?_) #[true, true, true, true, true, true, true, true, false, false, false, false] rfl rfl (any_of HT_.out (by kernel_rfl)) (fun _ _ _ h => h) (Or.inr ⟨by rfl, rfl⟩) ?_ ?_
                              rotate_left
                              · simp only [Act.put, List.setIfInBounds_toArray, List.set_cons_zero, List.set_cons_succ, i64_w, i32_w]
                                rfl
                              refine pure_ (i := 8) (N := some 74) (v := undef) (a' := ?_) #[true, true, true, true, true, true, true, true, true, false, false, false] rfl rfl (any_of HT_.out (by kernel_rfl)) (fun _ _ _ h => h) (Or.inr ⟨by rfl, rfl⟩) ?_ ?_
                              rotate_left
                              · simp only [Act.put, List.setIfInBounds_toArray, List.set_cons_zero, List.set_cons_succ, i64_w, i32_w]
                                rfl
                              refine pure_ (i := 9) (N := some 75) (v := undef) (a' := ?_) #[true, true, true, true, true, true, true, true, true, true, false, false] rfl rfl (any_of HT_.out (by kernel_rfl)) (fun _ _ _ h => h) (Or.inr ⟨by rfl, rfl⟩) ?_ ?_
                              rotate_left
                              · simp only [Act.put, List.setIfInBounds_toArray, List.set_cons_zero, List.set_cons_succ, i64_w, i32_w]
                                rfl
                              refine pure_ (i := 10) (N := some 76) (v := undef) (a' := ?_) #[true, true, true, true, true, true, true, true, true, true, true, false] rfl rfl (any_of HT_.out (by kernel_rfl)) (fun _ _ _ h => h) (Or.inr ⟨by rfl, rfl⟩) ?_ ?_
                              rotate_left
                              · simp only [Act.put, List.setIfInBounds_toArray, List.set_cons_zero, List.set_cons_succ, i64_w, i32_w]
                                rfl
                              refine pure_ (i := 11) (N := some 77) (v := ?_) (a' := ?_) #[true, true, true, true, true, true, true, true, true, true, true, true] rfl rfl (any_of HT_.out (by kernel_rfl)) (fun _ _ _ h => h) (Or.inl ⟨by rfl, ?_⟩) ?_ ?_
                              rotate_left
                              · intro w'
                                go_simp
                                with_reducible rfl
                              rotate_left
                              · simp only [Act.put, List.setIfInBounds_toArray, List.set_cons_zero, List.set_cons_succ, i64_w, i32_w]
                                rfl
                              refine done_ (done_of HT_.out (by kernel_rfl)) ?_
                              try go_wp2
                              go_roundg k3
                              case measure => have := HJ4.out; have := HJ17.out; have := HK3.out; omega
                              case rel => exact ⟨(x14_3), (wrap64 (x62_3 + 1)), (by first | rfl | (simp; done) | (simp [*]; done)), (by first | rfl | (simp; done) | (simp [*]; done)), H', ⟨by have := HJ4.out; have := HJ17.out; have := HK3.out; omega⟩, ⟨by (with_reducible repeat (first | apply Kd.N_alloc | apply Kd.N_drewN | apply Kd.N_drew)); exact Kd.N_mono HO_10.out (fun _ hk => hk.1)⟩, ⟨by (with_reducible repeat (first | apply Kd.N_alloc | apply Kd.N_drewN | apply Kd.N_drew)); exact Kd.N_mono HO_60.out (fun _ hk => hk.1)⟩, ⟨by repeat (first | (with_reducible first | exact HB.out | apply below_alloc | apply pw_below_drewN | apply below_drew1 | refine below_set ?_ GE287.out) | exact HB.out)⟩⟩
                          · rw [if_neg c36] at H
                            exact absurd H (by simp)
                        · rw [if_neg c35] at H
                          exact absurd H (by simp)
                      · rw [if_neg c34] at H
                        have c34b0 : decide (x62_3 < (t282.length : Int)) = false := decide_eq_false c34
                        clear c34
                        by_cases c58 : x14_3 = (t269.length : Int)
                        · rw [if_pos c58] at H
                          have c58b0 : (x14_3 == (t269.length : Int)) = true := beq_iff_eq.mpr c58
                          have c58b1 : (x14_3 != (t269.length : Int)) = false := bne_eq_false_iff_eq.mpr c58
                          clear c58
                          replace H := Option.bind_eq_some_iff.mp H
                          obtain ⟨t290, A590, H⟩ := H
                          replace H : (some t290) = some r := H
                          have A59 := Aside0.mk A590
                          clear A590
                          obtain rfl := Option.some.inj H
                          obtain ⟨Ao60, co60, eo60⟩ := Kd.N_slice HO_10.out
                          subst eo60
                          go_wp2_with (first | (go_at_call 10; (with_reducible refine (halyardlaw18_awake.calls k3  t290 _ A59.out).mono ?_); rintro e w61 ⟨rfl, hb⟩; have n0_ := Aside0.mk (Kd.N_below (by (with_reducible repeat (first | apply Kd.N_alloc | apply Kd.N_drewN | apply Kd.N_drew)); exact HO_10.out) hb); have n1_ := Aside0.mk (Kd.N_below (by (with_reducible repeat (first | apply Kd.N_alloc | apply Kd.N_drewN | apply Kd.N_drew)); exact HO_60.out) hb); have n2_ := Aside0.mk (below_step pb hb); clear HO_10; clear HO_60; clear HB; have HO_10 := n0_; have HO_60 := n1_; have HB := n2_; clear n0_ n1_ n2_; (try clear hb); (try clear hb2); (try clear hk); (try clear hi)))
                          go_ret
                          exact ⟨by first | rfl | (simp [errW_none, errW_some] <;> rfl) | (simp [*, errW_none, errW_some] <;> rfl), pb⟩
                        · rw [if_neg c58] at H
                          have c58b0 : (x14_3 == (t269.length : Int)) = false := beq_eq_false_iff_ne.mpr c58
                          have c58b1 : (x14_3 != (t269.length : Int)) = true := bne_iff_ne.mpr c58
                          obtain rfl := Option.some.inj H
                          obtain ⟨Ao62, co62, eo62⟩ := Kd.N_slice HO_10.out
                          subst eo62
                          go_wp2
                          go_ret
                          exact ⟨by first | rfl | (simp [errW_none, errW_some] <;> rfl) | (simp [*, errW_none, errW_some] <;> rfl), pb⟩
          · rw [if_neg c16] at H
            exact absurd H (by simp)
        · rw [if_neg c15] at H
          exact absurd H (by simp)

end Go.Proofs.Ytnepbpcpfeejkaa.K
