-- Printed by the prover's own turned printer (wip/printer in the prover's repo); Lean checks it.
import Derived.Test.YtldndnjajpjajaaK0
import Derived.Test.YtldndnjajpjajaaKf12
import Derived.Test.YtldndnjajpjajaaKf10
import Derived.Test.YtldndnjajpjajaaKf14
import Derived.Test.YtldndnjajpjajaaKf17
import Derived.Test.YtldndnjajpjajaaKf20
namespace Go.Proofs.Ytldndnjajpjajaa.K
open Go.RowKit Go.Proofs.YtldndnjajpjajaaW.PrintWords Go.Proofs.YtldndnjajpjajaaW.PrintLast Go.Proofs.YtldndnjajpjajaaW.PrintMore
attribute [local go_sem] max2_int min2_int max_two min_two max_three min_three max_four min_four   -- for this text's walks alone
set_option linter.unusedVariables false
set_option linter.unusedSimpArgs false

theorem key_Bytes.calls_nil (k : Nat) (A1 : Option Addr) (c1 : Nat) (l1 : List Int) (r : List Int) (w : World) (hr1 : Kd.C (Kd.int .u8) w A1 l1.length l1) (hc1 : l1.length ≤ c1) (h : key_Bytes.f k [] l1 = some r) :
    Calls Try.prog 12 #[.slice none 0 0, .slice A1 l1.length c1] w fun e w' => ∃ v0_ : Value, e = .returned (v0_) ∧ Kd.R (Kd.int .u8) 5 w' w.heap.size (fun _ => True) v0_ r ∧ Below w.heap.size w w' :=
  key_Bytes.calls k none 0 [] A1 c1 l1 r w (Kd.C_nil _ _) (Nat.le_refl _) hr1 hc1 h
/-! ### halyardlaw7_KeyRows: function 9 -/
mutual
def halyardlaw7_KeyRows.l0 : Nat → List (List Int) → Int → List Int → List (List Int) → Int → Int → Option (Bool)
  | 0, _, _, _, _, _, _ => none
  | k + 1, x0, x1, x5, x21, x22, x23 => if x23 < x22 then (if 0 ≤ x23 then (if x23 < (x21.length : Int) then (if x23 ≥ 20 then (halyardlaw7_KeyRows.j1 k x0 x1 x5 (rd_L1 x21 x23) x21 x22 x23 true) else (halyardlaw7_KeyRows.j1 k x0 x1 x5 (rd_L1 x21 x23) x21 x22 x23 (decide (((rd_L1 x21 x23).length : Int) > 300)))) else (none)) else (none)) else ((key_Number.f k x5 x1).bind fun t330 => (halyardlaw7_KeyRows.l1 k x0 x1 t330 x0 (x0.length : Int) 0))
def halyardlaw7_KeyRows.j1 : Nat → List (List Int) → Int → List Int → List Int → List (List Int) → Int → Int → Bool → Option (Bool)
  | 0, _, _, _, _, _, _, _, _ => none
  | k + 1, x0, x1, x5, x7, x21, x22, x23, x34 => if x34 = true then ((halyardlaw7_awake.f k).bind fun t326 => (some t326)) else ((key_Bytes.f k x5 x7).bind fun t327 => (halyardlaw7_KeyRows.l0 k x0 x1 t327 x21 x22 (wrap64 (x23 + 1))))
def halyardlaw7_KeyRows.l1 : Nat → List (List Int) → Int → List Int → List (List Int) → Int → Int → Option (Bool)
  | 0, _, _, _, _, _, _ => none
  | k + 1, x0, x1, x5, x43, x44, x45 => if x45 < x44 then (if 0 ≤ x45 then (if x45 < (x43.length : Int) then ((key_TakeBytes.f x5).bind fun bt334 => (if bt334.2.2 = 0 then (if (strOfNums bt334.1).toList = (strOfNums (rd_L1 x43 x45)).toList then (if bt334.2.1 < 2 then (some false) else (if bt334.2.1 > (x5.length : Int) then (some false) else (if 0 ≤ bt334.2.1 then (if bt334.2.1 ≤ (x5.length : Int) then (halyardlaw7_KeyRows.l1 k x0 x1 (x5.drop (bt334.2.1 : Int).toNat) x43 x44 (wrap64 (x45 + 1))) else (none)) else (none)))) else (some false)) else (some false))) else (none)) else (none)) else ((key_TakeNumber.f k x5).bind fun bt344 => (if bt344.2 = 0 then (if bt344.1 = x1 then (halyardlaw7_KeyRows.j3 k x0 ((x5.length : Int) != 8)) else (halyardlaw7_KeyRows.j3 k x0 true)) else (halyardlaw7_KeyRows.j3 k x0 true)))
def halyardlaw7_KeyRows.j3 : Nat → List (List Int) → Bool → Option (Bool)
  | 0, _, _ => none
  | k + 1, x0, x94 => if x94 = true then (some false) else (halyardlaw7_KeyRows.l2 k x0 x0 (x0.length : Int) 0)
def halyardlaw7_KeyRows.l2 : Nat → List (List Int) → List (List Int) → Int → Int → Option (Bool)
  | 0, _, _, _, _ => none
  | k + 1, x0, x95, x96, x97 => if x97 < x96 then (if 0 ≤ x97 then (if x97 < (x95.length : Int) then (halyardlaw7_KeyRows.l3 k x0 x97 (rd_L1 x95 x97) x95 x96 x97 x0 (x0.length : Int) 0) else (none)) else (none)) else ((halyardlaw7_awake.f k).bind fun t346 => (some t346))
def halyardlaw7_KeyRows.l3 : Nat → List (List Int) → Int → List Int → List (List Int) → Int → Int → List (List Int) → Int → Int → Option (Bool)
  | 0, _, _, _, _, _, _, _, _, _ => none
  | k + 1, x0, x15, x16, x95, x96, x97, x102, x103, x104 => if x104 < x103 then (if 0 ≤ x104 then (if x104 < (x102.length : Int) then ((key_Bytes.f k ([] : List Int) x16).bind fun t349 => ((key_Bytes.f k ([] : List Int) (rd_L1 x102 x104)).bind fun t352 => (if x15 = x104 then (halyardlaw7_KeyRows.l3 k x0 x15 x16 x95 x96 x97 x102 x103 (wrap64 (x104 + 1))) else (if (strOfNums x16).toList = (strOfNums (rd_L1 x102 x104)).toList then (halyardlaw7_KeyRows.l3 k x0 x15 x16 x95 x96 x97 x102 x103 (wrap64 (x104 + 1))) else (if (t349.length : Int) ≤ (t352.length : Int) then (if 0 ≤ (t349.length : Int) then (if (strOfNums (t352.take ((t349.length : Int) : Int).toNat)).toList = (strOfNums t349).toList then (some false) else (halyardlaw7_KeyRows.l3 k x0 x15 x16 x95 x96 x97 x102 x103 (wrap64 (x104 + 1)))) else (none)) else (halyardlaw7_KeyRows.l3 k x0 x15 x16 x95 x96 x97 x102 x103 (wrap64 (x104 + 1)))))))) else (none)) else (none)) else (halyardlaw7_KeyRows.l2 k x0 x95 x96 (wrap64 (x97 + 1)))
end
def halyardlaw7_KeyRows.f (k : Nat) (l0 : List (List Int)) (a1 : Int) : Option (Bool) := halyardlaw7_KeyRows.l0 k l0 a1 ([] : List Int) l0 (l0.length : Int) 0
theorem halyardlaw7_KeyRows.mono_l : ∀ k, (∀ y0 y1 y2 y3 y4 y5, LeO (halyardlaw7_KeyRows.l0 k y0 y1 y2 y3 y4 y5) (halyardlaw7_KeyRows.l0 (k + 1) y0 y1 y2 y3 y4 y5)) ∧ (∀ y0 y1 y2 y3 y4 y5 y6 y7, LeO (halyardlaw7_KeyRows.j1 k y0 y1 y2 y3 y4 y5 y6 y7) (halyardlaw7_KeyRows.j1 (k + 1) y0 y1 y2 y3 y4 y5 y6 y7)) ∧ (∀ y0 y1 y2 y3 y4 y5, LeO (halyardlaw7_KeyRows.l1 k y0 y1 y2 y3 y4 y5) (halyardlaw7_KeyRows.l1 (k + 1) y0 y1 y2 y3 y4 y5)) ∧ (∀ y0 y1, LeO (halyardlaw7_KeyRows.j3 k y0 y1) (halyardlaw7_KeyRows.j3 (k + 1) y0 y1)) ∧ (∀ y0 y1 y2 y3, LeO (halyardlaw7_KeyRows.l2 k y0 y1 y2 y3) (halyardlaw7_KeyRows.l2 (k + 1) y0 y1 y2 y3)) ∧ (∀ y0 y1 y2 y3 y4 y5 y6 y7 y8, LeO (halyardlaw7_KeyRows.l3 k y0 y1 y2 y3 y4 y5 y6 y7 y8) (halyardlaw7_KeyRows.l3 (k + 1) y0 y1 y2 y3 y4 y5 y6 y7 y8))
  | 0 => ⟨fun _ _ _ _ _ _ r h => by simp [halyardlaw7_KeyRows.l0] at h, fun _ _ _ _ _ _ _ _ r h => by simp [halyardlaw7_KeyRows.j1] at h, fun _ _ _ _ _ _ r h => by simp [halyardlaw7_KeyRows.l1] at h, fun _ _ r h => by simp [halyardlaw7_KeyRows.j3] at h, fun _ _ _ _ r h => by simp [halyardlaw7_KeyRows.l2] at h, fun _ _ _ _ _ _ _ _ _ r h => by simp [halyardlaw7_KeyRows.l3] at h⟩
  | k + 1 => by
    obtain ⟨ih0, ih1, ih2, ih3, ih4, ih5⟩ := halyardlaw7_KeyRows.mono_l k
    refine ⟨?_, ?_, ?_, ?_, ?_, ?_⟩
    · intro y0 y1 y2 y3 y4 y5
      unfold halyardlaw7_KeyRows.l0
      repeat' first
      | (with_reducible exact ih0 _ _ _ _ _ _)
      | (with_reducible exact ih1 _ _ _ _ _ _ _ _)
      | (with_reducible exact ih2 _ _ _ _ _ _)
      | (with_reducible exact ih3 _ _)
      | (with_reducible exact ih4 _ _ _ _)
      | (with_reducible exact ih5 _ _ _ _ _ _ _ _ _)
      | (with_reducible exact halyardlaw7_awake.mono _)
      | (with_reducible exact key_Bytes.mono _ _ _)
      | (with_reducible exact key_Number.mono _ _ _)
      | (with_reducible exact key_TakeNumber.mono _ _)
      | (with_reducible exact LeO.refl _)
      | (with_reducible exact LeO.none _)
      | (with_reducible refine LeO.ite ?_ ?_)
      | (with_reducible refine LeO.bind ?_ (fun _ => ?_))
      | exact ih0 _ _ _ _ _ _
      | exact ih1 _ _ _ _ _ _ _ _
      | exact ih2 _ _ _ _ _ _
      | exact ih3 _ _
      | exact ih4 _ _ _ _
      | exact ih5 _ _ _ _ _ _ _ _ _
      | exact halyardlaw7_awake.mono _
      | exact key_Bytes.mono _ _ _
      | exact key_Number.mono _ _ _
      | exact key_TakeNumber.mono _ _
      | exact LeO.none _
      | refine LeO.ite ?_ ?_
      | refine LeO.bind ?_ (fun _ => ?_)
    · intro y0 y1 y2 y3 y4 y5 y6 y7
      unfold halyardlaw7_KeyRows.j1
      repeat' first
      | (with_reducible exact ih0 _ _ _ _ _ _)
      | (with_reducible exact ih1 _ _ _ _ _ _ _ _)
      | (with_reducible exact ih2 _ _ _ _ _ _)
      | (with_reducible exact ih3 _ _)
      | (with_reducible exact ih4 _ _ _ _)
      | (with_reducible exact ih5 _ _ _ _ _ _ _ _ _)
      | (with_reducible exact halyardlaw7_awake.mono _)
      | (with_reducible exact key_Bytes.mono _ _ _)
      | (with_reducible exact key_Number.mono _ _ _)
      | (with_reducible exact key_TakeNumber.mono _ _)
      | (with_reducible exact LeO.refl _)
      | (with_reducible exact LeO.none _)
      | (with_reducible refine LeO.ite ?_ ?_)
      | (with_reducible refine LeO.bind ?_ (fun _ => ?_))
      | exact ih0 _ _ _ _ _ _
      | exact ih1 _ _ _ _ _ _ _ _
      | exact ih2 _ _ _ _ _ _
      | exact ih3 _ _
      | exact ih4 _ _ _ _
      | exact ih5 _ _ _ _ _ _ _ _ _
      | exact halyardlaw7_awake.mono _
      | exact key_Bytes.mono _ _ _
      | exact key_Number.mono _ _ _
      | exact key_TakeNumber.mono _ _
      | exact LeO.none _
      | refine LeO.ite ?_ ?_
      | refine LeO.bind ?_ (fun _ => ?_)
    · intro y0 y1 y2 y3 y4 y5
      unfold halyardlaw7_KeyRows.l1
      repeat' first
      | (with_reducible exact ih0 _ _ _ _ _ _)
      | (with_reducible exact ih1 _ _ _ _ _ _ _ _)
      | (with_reducible exact ih2 _ _ _ _ _ _)
      | (with_reducible exact ih3 _ _)
      | (with_reducible exact ih4 _ _ _ _)
      | (with_reducible exact ih5 _ _ _ _ _ _ _ _ _)
      | (with_reducible exact halyardlaw7_awake.mono _)
      | (with_reducible exact key_Bytes.mono _ _ _)
      | (with_reducible exact key_Number.mono _ _ _)
      | (with_reducible exact key_TakeNumber.mono _ _)
      | (with_reducible exact LeO.refl _)
      | (with_reducible exact LeO.none _)
      | (with_reducible refine LeO.ite ?_ ?_)
      | (with_reducible refine LeO.bind ?_ (fun _ => ?_))
      | exact ih0 _ _ _ _ _ _
      | exact ih1 _ _ _ _ _ _ _ _
      | exact ih2 _ _ _ _ _ _
      | exact ih3 _ _
      | exact ih4 _ _ _ _
      | exact ih5 _ _ _ _ _ _ _ _ _
      | exact halyardlaw7_awake.mono _
      | exact key_Bytes.mono _ _ _
      | exact key_Number.mono _ _ _
      | exact key_TakeNumber.mono _ _
      | exact LeO.none _
      | refine LeO.ite ?_ ?_
      | refine LeO.bind ?_ (fun _ => ?_)
    · intro y0 y1
      unfold halyardlaw7_KeyRows.j3
      repeat' first
      | (with_reducible exact ih0 _ _ _ _ _ _)
      | (with_reducible exact ih1 _ _ _ _ _ _ _ _)
      | (with_reducible exact ih2 _ _ _ _ _ _)
      | (with_reducible exact ih3 _ _)
      | (with_reducible exact ih4 _ _ _ _)
      | (with_reducible exact ih5 _ _ _ _ _ _ _ _ _)
      | (with_reducible exact halyardlaw7_awake.mono _)
      | (with_reducible exact key_Bytes.mono _ _ _)
      | (with_reducible exact key_Number.mono _ _ _)
      | (with_reducible exact key_TakeNumber.mono _ _)
      | (with_reducible exact LeO.refl _)
      | (with_reducible exact LeO.none _)
      | (with_reducible refine LeO.ite ?_ ?_)
      | (with_reducible refine LeO.bind ?_ (fun _ => ?_))
      | exact ih0 _ _ _ _ _ _
      | exact ih1 _ _ _ _ _ _ _ _
      | exact ih2 _ _ _ _ _ _
      | exact ih3 _ _
      | exact ih4 _ _ _ _
      | exact ih5 _ _ _ _ _ _ _ _ _
      | exact halyardlaw7_awake.mono _
      | exact key_Bytes.mono _ _ _
      | exact key_Number.mono _ _ _
      | exact key_TakeNumber.mono _ _
      | exact LeO.none _
      | refine LeO.ite ?_ ?_
      | refine LeO.bind ?_ (fun _ => ?_)
    · intro y0 y1 y2 y3
      unfold halyardlaw7_KeyRows.l2
      repeat' first
      | (with_reducible exact ih0 _ _ _ _ _ _)
      | (with_reducible exact ih1 _ _ _ _ _ _ _ _)
      | (with_reducible exact ih2 _ _ _ _ _ _)
      | (with_reducible exact ih3 _ _)
      | (with_reducible exact ih4 _ _ _ _)
      | (with_reducible exact ih5 _ _ _ _ _ _ _ _ _)
      | (with_reducible exact halyardlaw7_awake.mono _)
      | (with_reducible exact key_Bytes.mono _ _ _)
      | (with_reducible exact key_Number.mono _ _ _)
      | (with_reducible exact key_TakeNumber.mono _ _)
      | (with_reducible exact LeO.refl _)
      | (with_reducible exact LeO.none _)
      | (with_reducible refine LeO.ite ?_ ?_)
      | (with_reducible refine LeO.bind ?_ (fun _ => ?_))
      | exact ih0 _ _ _ _ _ _
      | exact ih1 _ _ _ _ _ _ _ _
      | exact ih2 _ _ _ _ _ _
      | exact ih3 _ _
      | exact ih4 _ _ _ _
      | exact ih5 _ _ _ _ _ _ _ _ _
      | exact halyardlaw7_awake.mono _
      | exact key_Bytes.mono _ _ _
      | exact key_Number.mono _ _ _
      | exact key_TakeNumber.mono _ _
      | exact LeO.none _
      | refine LeO.ite ?_ ?_
      | refine LeO.bind ?_ (fun _ => ?_)
    · intro y0 y1 y2 y3 y4 y5 y6 y7 y8
      unfold halyardlaw7_KeyRows.l3
      repeat' first
      | (with_reducible exact ih0 _ _ _ _ _ _)
      | (with_reducible exact ih1 _ _ _ _ _ _ _ _)
      | (with_reducible exact ih2 _ _ _ _ _ _)
      | (with_reducible exact ih3 _ _)
      | (with_reducible exact ih4 _ _ _ _)
      | (with_reducible exact ih5 _ _ _ _ _ _ _ _ _)
      | (with_reducible exact halyardlaw7_awake.mono _)
      | (with_reducible exact key_Bytes.mono _ _ _)
      | (with_reducible exact key_Number.mono _ _ _)
      | (with_reducible exact key_TakeNumber.mono _ _)
      | (with_reducible exact LeO.refl _)
      | (with_reducible exact LeO.none _)
      | (with_reducible refine LeO.ite ?_ ?_)
      | (with_reducible refine LeO.bind ?_ (fun _ => ?_))
      | exact ih0 _ _ _ _ _ _
      | exact ih1 _ _ _ _ _ _ _ _
      | exact ih2 _ _ _ _ _ _
      | exact ih3 _ _
      | exact ih4 _ _ _ _
      | exact ih5 _ _ _ _ _ _ _ _ _
      | exact halyardlaw7_awake.mono _
      | exact key_Bytes.mono _ _ _
      | exact key_Number.mono _ _ _
      | exact key_TakeNumber.mono _ _
      | exact LeO.none _
      | refine LeO.ite ?_ ?_
      | refine LeO.bind ?_ (fun _ => ?_)
theorem halyardlaw7_KeyRows.mono : ∀ a0 a1 k, LeO (halyardlaw7_KeyRows.f k a0 a1) (halyardlaw7_KeyRows.f (k + 1) a0 a1) := by
  intro a0 a1 k
  obtain ⟨ih0, ih1, ih2, ih3, ih4, ih5⟩ := halyardlaw7_KeyRows.mono_l k
  unfold halyardlaw7_KeyRows.f
  repeat' first
      | (with_reducible exact ih0 _ _ _ _ _ _)
      | (with_reducible exact ih1 _ _ _ _ _ _ _ _)
      | (with_reducible exact ih2 _ _ _ _ _ _)
      | (with_reducible exact ih3 _ _)
      | (with_reducible exact ih4 _ _ _ _)
      | (with_reducible exact ih5 _ _ _ _ _ _ _ _ _)
      | (with_reducible exact halyardlaw7_awake.mono _)
      | (with_reducible exact key_Bytes.mono _ _ _)
      | (with_reducible exact key_Number.mono _ _ _)
      | (with_reducible exact key_TakeNumber.mono _ _)
      | (with_reducible exact LeO.refl _)
      | (with_reducible exact LeO.none _)
      | (with_reducible refine LeO.ite ?_ ?_)
      | (with_reducible refine LeO.bind ?_ (fun _ => ?_))
      | exact ih0 _ _ _ _ _ _
      | exact ih1 _ _ _ _ _ _ _ _
      | exact ih2 _ _ _ _ _ _
      | exact ih3 _ _
      | exact ih4 _ _ _ _
      | exact ih5 _ _ _ _ _ _ _ _ _
      | exact halyardlaw7_awake.mono _
      | exact key_Bytes.mono _ _ _
      | exact key_Number.mono _ _ _
      | exact key_TakeNumber.mono _ _
      | exact LeO.none _
      | refine LeO.ite ?_ ?_
      | refine LeO.bind ?_ (fun _ => ?_)
set_option maxHeartbeats 4000000 in
set_option maxRecDepth 100000 in
theorem halyardlaw7_KeyRows.calls (k : Nat) (A0 : Option Addr) (c0 : Nat) (l0 : List (List Int)) (a1 : Int) (r : Bool) (w : World) (hr0 : Kd.C (Kd.slice 5 (Kd.int .u8)) w A0 l0.length l0) (hc0 : l0.length ≤ c0) (h : halyardlaw7_KeyRows.f k l0 a1 = some r) :
    Calls Try.prog 9 #[.slice A0 l0.length c0, .int .i64 a1] w fun e w' => e = .returned (.bool r) ∧ Below w.heap.size w w' := by
  have HR0 := Aside0.mk hr0
  have HC0 := Aside0.mk hc0
  clear hr0 hc0
  have HB := Aside0.mk (Below.refl w.heap.size w)
  have H : (halyardlaw7_KeyRows.l0 k l0 a1 ([] : List Int) l0 (l0.length : Int) 0) = some r := h
  clear h
  have H' := Aside0.mk H
  clear H
  go_enter Try.func9, Try.ntmps9
  go_wp2
  repeat (go_quiet (fail); try go_wp2)
  go_loopg [5, 23] k (fun kq v5 v23 w' => ∃ (x5_1 : List Int) (x23_1 : Int), v23 = .int .i64 x23_1 ∧ Aside0 (halyardlaw7_KeyRows.l0 kq l0 a1 x5_1 l0 (l0.length : Int) x23_1 = some r) ∧ Aside0 (kq ≤ k) ∧ Aside0 (Kd.V (Kd.int .u8) 5 w' w.heap.size (fun _ => True) v5 x5_1) ∧ Aside0 (Below w.heap.size w w'))
  case atStart => exact ⟨(([] : List Int)), (0), (by first | rfl | (simp; done) | (simp [*]; done)), H', ⟨Nat.le_refl _⟩, ⟨Kd.V_nil _ _ _ _ _⟩, ⟨by repeat (first | (with_reducible first | exact HB.out | apply below_alloc | apply pw_below_drewN | apply below_drew1) | exact HB.out)⟩⟩
  case round =>
    clear H'
    try clear p2
    obtain ⟨x5_1, x23_1, rfl, HA, HK1, HO_5, HB⟩ := hrel
    cases gk with
    | zero => exact absurd HA.out (by simp [halyardlaw7_KeyRows.l0])
    | succ k1 =>
      have H := HA.out
      clear HA
      simp only [halyardlaw7_KeyRows.l0] at H
      by_cases c3 : x23_1 < (l0.length : Int)
      · rw [if_pos c3] at H
        have c3b0 : decide (x23_1 < (l0.length : Int)) = true := decide_eq_true c3
        clear c3
        by_cases c4 : 0 ≤ x23_1
        · rw [if_pos c4] at H
          have c4b0 : decide (0 ≤ x23_1) = true := decide_eq_true c4
          clear c4
          by_cases c5 : x23_1 < (l0.length : Int)
          · rw [if_pos c5] at H
            have c5b0 : decide (x23_1 < (l0.length : Int)) = true := decide_eq_true c5
            clear c5
            have HC6 := Aside0.mk H
            clear H
            have p325 : 0 ≤ (x23_1 : Int) := of_decide_eq_true (by first | (with_reducible assumption) | assumption)
            have q325 : x23_1 < (l0.length : Int) := of_decide_eq_true (by first | (with_reducible assumption) | assumption)
            obtain ⟨ad325, A325_0, c325_0, e325, hx325_0, hl325_0, hi325_0⟩ := at_L1 HR0.out x23_1 p325 q325
            cases e325
            replace hx325_0 := (HB.out.cell (World.block_lt_of_cell? w _ hx325_0)).trans hx325_0
            have HR325_0 := Aside0.mk hi325_0
            have HC325_0 := Aside0.mk hl325_0
            clear hi325_0 hl325_0
            replace p325 := eq_true p325
            replace q325 := eq_true q325
            go_upto_region 5 with (fail)
            repeat (go_quiet (fail); go_upto_region 5 with (fail))
            go_cut [34] (fun v34 wc => ∃ (kq : Nat) (x34_5 : Bool), v34 = .bool x34_5 ∧ Aside0 (halyardlaw7_KeyRows.j1 kq l0 a1 x5_1 (rd_L1 l0 x23_1) l0 (l0.length : Int) x23_1 x34_5 = some r) ∧ Aside0 (kq ≤ k1) ∧ Aside0 (Kd.V (Kd.int .u8) 5 wc w.heap.size (fun _ => True) u5 x5_1) ∧ Aside0 (Below w.heap.size w wc))
            case first =>
              have H := HC6.out
              clear HC6
              by_cases c7 : x23_1 ≥ 20
              · rw [if_pos c7] at H
                have c7b0 : decide (20 ≤ x23_1) = true := decide_eq_true c7
                clear c7
                (first | rw [c7b0] | (simp only [i64_w, i32_w]; rw [c7b0]) | skip)
                have H' := Aside0.mk H
                clear H
                go_wp2
                repeat (go_quiet (fail); try go_wp2)
                go_meet
                case rel => exact ⟨_, (true), (by first | rfl | (simp; done) | (simp [*]; done)), H', ⟨by have := HK1.out; first | omega | exact Nat.le_refl _⟩, ⟨by (with_reducible repeat (first | apply Kd.V_alloc | apply Kd.V_drewN | apply Kd.V_drew)); exact HO_5.out⟩, ⟨by repeat (first | (with_reducible first | exact HB.out | apply below_alloc | apply pw_below_drewN | apply below_drew1) | exact HB.out)⟩⟩
              · rw [if_neg c7] at H
                have c7b0 : decide (20 ≤ x23_1) = false := decide_eq_false c7
                clear c7
                (first | rw [c7b0] | (simp only [i64_w, i32_w]; rw [c7b0]) | skip)
                have H' := Aside0.mk H
                clear H
                go_wp2
                repeat (go_quiet (fail); try go_wp2)
                go_meet
                case rel => exact ⟨_, (decide (((rd_L1 l0 x23_1).length : Int) > 300)), (by first | rfl | (simp; done) | (simp [*]; done)), H', ⟨by have := HK1.out; first | omega | exact Nat.le_refl _⟩, ⟨by (with_reducible repeat (first | apply Kd.V_alloc | apply Kd.V_drewN | apply Kd.V_drew)); exact HO_5.out⟩, ⟨by repeat (first | (with_reducible first | exact HB.out | apply below_alloc | apply pw_below_drewN | apply below_drew1) | exact HB.out)⟩⟩
            case rest =>
              clear HC6
              try clear p2
              try clear c3
              try clear c3b0
              try clear p3
              try clear q3
              try clear hx3
              try clear c4
              try clear c4b0
              try clear c5
              try clear c5b0
              try clear c7
              try clear c7b0
              try clear hx325_0
              try clear p2
              try clear p325
              try clear q325
              obtain ⟨kq, x34_5, rfl, HA, HJ5, HO_5, HB⟩ := hcut
              cases kq with
              | zero => exact absurd HA.out (by simp [halyardlaw7_KeyRows.j1])
              | succ kj5 =>
                have H := HA.out
                clear HA
                simp only [halyardlaw7_KeyRows.j1] at H
                by_cases c8 : x34_5 = true
                · subst c8
                  have H1 : ((halyardlaw7_awake.f kj5).bind fun t326 => (some t326)) = some r := by rw [if_pos rfl] at H; exact H
                  clear H
                  have H := H1
                  clear H1
                  replace H := Option.bind_eq_some_iff.mp H
                  obtain ⟨t326, A90, H⟩ := H
                  replace H : (some t326) = some r := H
                  have A9 := Aside0.mk A90
                  clear A90
                  obtain rfl := Option.some.inj H
                  go_wp2_with (first | (go_at_call 10; (with_reducible refine (halyardlaw7_awake.calls kj5  t326 _ A9.out).mono ?_); rintro e w10 ⟨rfl, hb⟩; have n0_ := Aside0.mk (Kd.V_below (by (with_reducible repeat (first | apply Kd.V_alloc | apply Kd.V_drewN | apply Kd.V_drew)); exact HO_5.out) hb); have n1_ := Aside0.mk (below_step (by repeat (first | (with_reducible first | exact HB.out | apply below_alloc | apply pw_below_drewN | apply below_drew1) | exact HB.out)) hb); clear HO_5; clear HB; have HO_5 := n0_; have HB := n1_; clear n0_ n1_; (try clear hb); (try clear hb2); (try clear hk); (try clear hi)))
                  repeat (go_quiet (first | (go_at_call 10; (with_reducible refine (halyardlaw7_awake.calls kj5  t326 _ A9.out).mono ?_); rintro e w10 ⟨rfl, hb⟩; have n0_ := Aside0.mk (Kd.V_below (by (with_reducible repeat (first | apply Kd.V_alloc | apply Kd.V_drewN | apply Kd.V_drew)); exact HO_5.out) hb); have n1_ := Aside0.mk (below_step (by repeat (first | (with_reducible first | exact HB.out | apply below_alloc | apply pw_below_drewN | apply below_drew1) | exact HB.out)) hb); clear HO_5; clear HB; have HO_5 := n0_; have HB := n1_; clear n0_ n1_; (try clear hb); (try clear hb2); (try clear hk); (try clear hi))); try go_wp2_with (first | (go_at_call 10; (with_reducible refine (halyardlaw7_awake.calls kj5  t326 _ A9.out).mono ?_); rintro e w10 ⟨rfl, hb⟩; have n0_ := Aside0.mk (Kd.V_below (by (with_reducible repeat (first | apply Kd.V_alloc | apply Kd.V_drewN | apply Kd.V_drew)); exact HO_5.out) hb); have n1_ := Aside0.mk (below_step (by repeat (first | (with_reducible first | exact HB.out | apply below_alloc | apply pw_below_drewN | apply below_drew1) | exact HB.out)) hb); clear HO_5; clear HB; have HO_5 := n0_; have HB := n1_; clear n0_ n1_; (try clear hb); (try clear hb2); (try clear hk); (try clear hi))))
                  go_ret
                  exact ⟨by first | rfl | (simp [errW_none, errW_some] <;> rfl) | (simp [*, errW_none, errW_some] <;> rfl), by repeat (first | (with_reducible first | exact HB.out | apply below_alloc | apply pw_below_drewN | apply below_drew1) | exact HB.out)⟩
                · replace c8 := Bool.eq_false_iff.mpr c8
                  subst c8
                  have H1 : ((key_Bytes.f kj5 x5_1 (rd_L1 l0 x23_1)).bind fun t327 => (halyardlaw7_KeyRows.l0 kj5 l0 a1 t327 l0 (l0.length : Int) (wrap64 (x23_1 + 1)))) = some r := by rw [if_neg (show ¬ (false = true) by decide)] at H; exact H
                  clear H
                  have H := H1
                  clear H1
                  replace H := Option.bind_eq_some_iff.mp H
                  obtain ⟨t327, A110, H⟩ := H
                  replace H : (halyardlaw7_KeyRows.l0 kj5 l0 a1 t327 l0 (l0.length : Int) (wrap64 (x23_1 + 1))) = some r := H
                  have A11 := Aside0.mk A110
                  clear A110
                  have H' := Aside0.mk H
                  clear H
                  obtain ⟨Ao12, co12, eo12⟩ := Kd.V_slice HO_5.out
                  subst eo12
                  go_wp2_with (first | (go_at_call 12; (with_reducible refine (key_Bytes.calls kj5 _ _ x5_1 _ _ (rd_L1 l0 x23_1) t327 _ ?side1 ?side2 ?side3 ?side4 A11.out).mono ?_); (case side1 => repeat (first | exact (Kd.V_reads' HO_5.out).2.2 | (with_reducible refine Kd.C_alloc ?_ _) | (with_reducible refine Kd.C_drewN ?_ _) | (with_reducible refine Kd.C_drew ?_))); (case side2 => exact (Kd.V_reads' HO_5.out).2.1); (case side3 => repeat (first | exact (Kd.C_below HR325_0.out HB.out) | (with_reducible refine Kd.C_alloc ?_ _) | (with_reducible refine Kd.C_drewN ?_ _) | (with_reducible refine Kd.C_drew ?_))); (case side4 => exact HC325_0.out); rintro e w13 ⟨v328, rfl, ho0, hb⟩; have n0_ := Aside0.mk (Kd.V_elder' (by (with_reducible repeat (first | apply Kd.V_alloc | apply Kd.V_drewN | apply Kd.V_drew)); exact HO_5.out) (Kd.R_base ho0) hb); have n1_ := Aside0.mk (Kd.R_lower ho0 (below_size (by repeat (first | (with_reducible first | exact HB.out | apply below_alloc | apply pw_below_drewN | apply below_drew1) | exact HB.out)))); have n2_ := Aside0.mk (below_step (by repeat (first | (with_reducible first | exact HB.out | apply below_alloc | apply pw_below_drewN | apply below_drew1) | exact HB.out)) hb); clear HO_5; clear HB; have HO_5 := n0_; have HO329 := n1_; have HB := n2_; clear n0_ n1_ n2_; (try clear hb); (try clear hb2); (try clear hk); (try clear hi); (try clear ho0)))
                  generalize rd_L1 l0 x23_1 = px23_1 at *
                  repeat (go_quiet (first | (go_at_call 12; (with_reducible refine (key_Bytes.calls kj5 _ _ x5_1 _ _ px23_1 t327 _ ?side1 ?side2 ?side3 ?side4 A11.out).mono ?_); (case side1 => repeat (first | exact (Kd.V_reads' HO_5.out).2.2 | (with_reducible refine Kd.C_alloc ?_ _) | (with_reducible refine Kd.C_drewN ?_ _) | (with_reducible refine Kd.C_drew ?_))); (case side2 => exact (Kd.V_reads' HO_5.out).2.1); (case side3 => repeat (first | exact (Kd.C_below HR325_0.out HB.out) | (with_reducible refine Kd.C_alloc ?_ _) | (with_reducible refine Kd.C_drewN ?_ _) | (with_reducible refine Kd.C_drew ?_))); (case side4 => exact HC325_0.out); rintro e w13 ⟨v328, rfl, ho0, hb⟩; have n0_ := Aside0.mk (Kd.V_elder' (by (with_reducible repeat (first | apply Kd.V_alloc | apply Kd.V_drewN | apply Kd.V_drew)); exact HO_5.out) (Kd.R_base ho0) hb); have n1_ := Aside0.mk (Kd.R_lower ho0 (below_size (by repeat (first | (with_reducible first | exact HB.out | apply below_alloc | apply pw_below_drewN | apply below_drew1) | exact HB.out)))); have n2_ := Aside0.mk (below_step (by repeat (first | (with_reducible first | exact HB.out | apply below_alloc | apply pw_below_drewN | apply below_drew1) | exact HB.out)) hb); clear HO_5; clear HB; have HO_5 := n0_; have HO329 := n1_; have HB := n2_; clear n0_ n1_ n2_; (try clear hb); (try clear hb2); (try clear hk); (try clear hi); (try clear ho0))); try go_wp2_with (first | (go_at_call 12; (with_reducible refine (key_Bytes.calls kj5 _ _ x5_1 _ _ px23_1 t327 _ ?side1 ?side2 ?side3 ?side4 A11.out).mono ?_); (case side1 => repeat (first | exact (Kd.V_reads' HO_5.out).2.2 | (with_reducible refine Kd.C_alloc ?_ _) | (with_reducible refine Kd.C_drewN ?_ _) | (with_reducible refine Kd.C_drew ?_))); (case side2 => exact (Kd.V_reads' HO_5.out).2.1); (case side3 => repeat (first | exact (Kd.C_below HR325_0.out HB.out) | (with_reducible refine Kd.C_alloc ?_ _) | (with_reducible refine Kd.C_drewN ?_ _) | (with_reducible refine Kd.C_drew ?_))); (case side4 => exact HC325_0.out); rintro e w13 ⟨v328, rfl, ho0, hb⟩; have n0_ := Aside0.mk (Kd.V_elder' (by (with_reducible repeat (first | apply Kd.V_alloc | apply Kd.V_drewN | apply Kd.V_drew)); exact HO_5.out) (Kd.R_base ho0) hb); have n1_ := Aside0.mk (Kd.R_lower ho0 (below_size (by repeat (first | (with_reducible first | exact HB.out | apply below_alloc | apply pw_below_drewN | apply below_drew1) | exact HB.out)))); have n2_ := Aside0.mk (below_step (by repeat (first | (with_reducible first | exact HB.out | apply below_alloc | apply pw_below_drewN | apply below_drew1) | exact HB.out)) hb); clear HO_5; clear HB; have HO_5 := n0_; have HO329 := n1_; have HB := n2_; clear n0_ n1_ n2_; (try clear hb); (try clear hb2); (try clear hk); (try clear hi); (try clear ho0))))
                  go_roundg kj5
                  case measure => have := HK1.out; have := HJ5.out; omega
                  case rel => exact ⟨(t327), (wrap64 (x23_1 + 1)), (by first | rfl | (simp; done) | (simp [*]; done)), H', ⟨by have := HK1.out; have := HJ5.out; omega⟩, ⟨Kd.R_V (by (with_reducible repeat (first | apply Kd.R_alloc | apply Kd.R_drewN | apply Kd.R_drew)); exact HO329.out)⟩, ⟨by repeat (first | (with_reducible first | exact HB.out | apply below_alloc | apply pw_below_drewN | apply below_drew1) | exact HB.out)⟩⟩
          · rw [if_neg c5] at H
            exact absurd H (by simp)
        · rw [if_neg c4] at H
          exact absurd H (by simp)
      · rw [if_neg c3] at H
        have c3b0 : decide (x23_1 < (l0.length : Int)) = false := decide_eq_false c3
        clear c3
        replace H := Option.bind_eq_some_iff.mp H
        obtain ⟨t330, A140, H⟩ := H
        replace H : (halyardlaw7_KeyRows.l1 k1 l0 a1 t330 l0 (l0.length : Int) 0) = some r := H
        have A14 := Aside0.mk A140
        clear A140
        have H' := Aside0.mk H
        clear H
        obtain ⟨Ao15, co15, eo15⟩ := Kd.V_slice HO_5.out
        subst eo15
        go_wp2_with (first | (go_at_call 14; (with_reducible refine (key_Number.calls k1 _ _ x5_1 a1 t330 _ ?side1 ?side2 A14.out).mono ?_); (case side1 => repeat (first | exact (Kd.V_reads' HO_5.out).2.2 | (with_reducible refine Kd.C_alloc ?_ _) | (with_reducible refine Kd.C_drewN ?_ _) | (with_reducible refine Kd.C_drew ?_))); (case side2 => exact (Kd.V_reads' HO_5.out).2.1); rintro e w16 ⟨v331, rfl, ho0, hb⟩; have n0_ := Aside0.mk (Kd.V_elder' (by (with_reducible repeat (first | apply Kd.V_alloc | apply Kd.V_drewN | apply Kd.V_drew)); exact HO_5.out) (Kd.R_base ho0) hb); have n1_ := Aside0.mk (Kd.R_lower ho0 (below_size (by repeat (first | (with_reducible first | exact HB.out | apply below_alloc | apply pw_below_drewN | apply below_drew1) | exact HB.out)))); have n2_ := Aside0.mk (below_step (by repeat (first | (with_reducible first | exact HB.out | apply below_alloc | apply pw_below_drewN | apply below_drew1) | exact HB.out)) hb); clear HO_5; clear HB; have HO_5 := n0_; have HO332 := n1_; have HB := n2_; clear n0_ n1_ n2_; (try clear hb); (try clear hb2); (try clear hk); (try clear hi); (try clear ho0)))
        repeat (go_quiet (first | (go_at_call 14; (with_reducible refine (key_Number.calls k1 _ _ x5_1 a1 t330 _ ?side1 ?side2 A14.out).mono ?_); (case side1 => repeat (first | exact (Kd.V_reads' HO_5.out).2.2 | (with_reducible refine Kd.C_alloc ?_ _) | (with_reducible refine Kd.C_drewN ?_ _) | (with_reducible refine Kd.C_drew ?_))); (case side2 => exact (Kd.V_reads' HO_5.out).2.1); rintro e w16 ⟨v331, rfl, ho0, hb⟩; have n0_ := Aside0.mk (Kd.V_elder' (by (with_reducible repeat (first | apply Kd.V_alloc | apply Kd.V_drewN | apply Kd.V_drew)); exact HO_5.out) (Kd.R_base ho0) hb); have n1_ := Aside0.mk (Kd.R_lower ho0 (below_size (by repeat (first | (with_reducible first | exact HB.out | apply below_alloc | apply pw_below_drewN | apply below_drew1) | exact HB.out)))); have n2_ := Aside0.mk (below_step (by repeat (first | (with_reducible first | exact HB.out | apply below_alloc | apply pw_below_drewN | apply below_drew1) | exact HB.out)) hb); clear HO_5; clear HB; have HO_5 := n0_; have HO332 := n1_; have HB := n2_; clear n0_ n1_ n2_; (try clear hb); (try clear hb2); (try clear hk); (try clear hi); (try clear ho0))); try go_wp2_with (first | (go_at_call 14; (with_reducible refine (key_Number.calls k1 _ _ x5_1 a1 t330 _ ?side1 ?side2 A14.out).mono ?_); (case side1 => repeat (first | exact (Kd.V_reads' HO_5.out).2.2 | (with_reducible refine Kd.C_alloc ?_ _) | (with_reducible refine Kd.C_drewN ?_ _) | (with_reducible refine Kd.C_drew ?_))); (case side2 => exact (Kd.V_reads' HO_5.out).2.1); rintro e w16 ⟨v331, rfl, ho0, hb⟩; have n0_ := Aside0.mk (Kd.V_elder' (by (with_reducible repeat (first | apply Kd.V_alloc | apply Kd.V_drewN | apply Kd.V_drew)); exact HO_5.out) (Kd.R_base ho0) hb); have n1_ := Aside0.mk (Kd.R_lower ho0 (below_size (by repeat (first | (with_reducible first | exact HB.out | apply below_alloc | apply pw_below_drewN | apply below_drew1) | exact HB.out)))); have n2_ := Aside0.mk (below_step (by repeat (first | (with_reducible first | exact HB.out | apply below_alloc | apply pw_below_drewN | apply below_drew1) | exact HB.out)) hb); clear HO_5; clear HB; have HO_5 := n0_; have HO332 := n1_; have HB := n2_; clear n0_ n1_ n2_; (try clear hb); (try clear hb2); (try clear hk); (try clear hi); (try clear ho0))))
        go_loopg [5, 45] k1 (fun kq v5 v45 w' => ∃ (x5_2 : List Int) (x45_2 : Int), v45 = .int .i64 x45_2 ∧ Aside0 (halyardlaw7_KeyRows.l1 kq l0 a1 x5_2 l0 (l0.length : Int) x45_2 = some r) ∧ Aside0 (kq ≤ k1) ∧ Aside0 (Kd.V (Kd.int .u8) 5 w' w.heap.size (fun _ => True) v5 x5_2) ∧ Aside0 (Below w.heap.size w w'))
        case atStart => exact ⟨(t330), (0), (by first | rfl | (simp; done) | (simp [*]; done)), H', ⟨Nat.le_refl _⟩, ⟨Kd.R_V (by (with_reducible repeat (first | apply Kd.R_alloc | apply Kd.R_drewN | apply Kd.R_drew)); exact HO332.out)⟩, ⟨by repeat (first | (with_reducible first | exact HB.out | apply below_alloc | apply pw_below_drewN | apply below_drew1) | exact HB.out)⟩⟩
        case round =>
          clear H'
          try clear p2
          try clear c3
          try clear c3b0
          try clear p3
          try clear q3
          try clear hx3
          try clear c4
          try clear c4b0
          try clear c5
          try clear c5b0
          try clear p6
          try clear c7
          try clear c7b0
          try clear c8
          try clear c9
          try clear hx325_0
          try clear p2
          try clear p3
          try clear p325
          try clear q3
          try clear q325
          obtain ⟨x5_2, x45_2, rfl, HA, HK2, HO_5, HB⟩ := hrel
          cases gk with
          | zero => exact absurd HA.out (by simp [halyardlaw7_KeyRows.l1])
          | succ k2 =>
            have H := HA.out
            clear HA
            simp only [halyardlaw7_KeyRows.l1] at H
            by_cases c17 : x45_2 < (l0.length : Int)
            · rw [if_pos c17] at H
              have c17b0 : decide (x45_2 < (l0.length : Int)) = true := decide_eq_true c17
              clear c17
              by_cases c18 : 0 ≤ x45_2
              · rw [if_pos c18] at H
                have c18b0 : decide (0 ≤ x45_2) = true := decide_eq_true c18
                clear c18
                by_cases c19 : x45_2 < (l0.length : Int)
                · rw [if_pos c19] at H
                  have c19b0 : decide (x45_2 < (l0.length : Int)) = true := decide_eq_true c19
                  clear c19
                  replace H := Option.bind_eq_some_iff.mp H
                  obtain ⟨⟨t334, t335, t336⟩, A200, H⟩ := H
                  replace H : (if t336 = 0 then (if (strOfNums t334).toList = (strOfNums (rd_L1 l0 x45_2)).toList then (if t335 < 2 then (some false) else (if t335 > (x5_2.length : Int) then (some false) else (if 0 ≤ t335 then (if t335 ≤ (x5_2.length : Int) then (halyardlaw7_KeyRows.l1 k2 l0 a1 (x5_2.drop (t335 : Int).toNat) l0 (l0.length : Int) (wrap64 (x45_2 + 1))) else (none)) else (none)))) else (some false)) else (some false)) = some r := H
                  have A20 := Aside0.mk A200
                  clear A200
                  by_cases c21 : t336 = 0
                  · rw [if_pos c21] at H
                    have c21b0 : (t336 == 0) = true := beq_iff_eq.mpr c21
                    have c21b1 : (t336 != 0) = false := bne_eq_false_iff_eq.mpr c21
                    clear c21
                    by_cases c22 : (strOfNums t334).toList = (strOfNums (rd_L1 l0 x45_2)).toList
                    · rw [if_pos c22] at H
                      have c22b0 : ((strOfNums t334).toList == (strOfNums (rd_L1 l0 x45_2)).toList) = true := beq_iff_eq.mpr c22
                      have c22b1 : ((strOfNums t334).toList != (strOfNums (rd_L1 l0 x45_2)).toList) = false := bne_eq_false_iff_eq.mpr c22
                      clear c22
                      by_cases c23 : t335 < 2
                      · rw [if_pos c23] at H
                        have c23b0 : decide (t335 < 2) = true := decide_eq_true c23
                        clear c23
                        obtain rfl := Option.some.inj H
                        have p333 : 0 ≤ (x45_2 : Int) := of_decide_eq_true (by first | (with_reducible assumption) | assumption)
                        have q333 : x45_2 < (l0.length : Int) := of_decide_eq_true (by first | (with_reducible assumption) | assumption)
                        obtain ⟨ad333, A333_0, c333_0, e333, hx333_0, hl333_0, hi333_0⟩ := at_L1 HR0.out x45_2 p333 q333
                        cases e333
                        replace hx333_0 := (HB.out.cell (World.block_lt_of_cell? w _ hx333_0)).trans hx333_0
                        have HR333_0 := Aside0.mk hi333_0
                        have HC333_0 := Aside0.mk hl333_0
                        clear hi333_0 hl333_0
                        replace p333 := eq_true p333
                        replace q333 := eq_true q333
                        obtain ⟨Ao24, co24, eo24⟩ := Kd.V_slice HO_5.out
                        subst eo24
                        go_wp2_with (first | (go_at_call 20; (with_reducible refine (key_TakeBytes.calls _ _ x5_2 t334 t335 t336 _ ?side1 ?side2 A20.out).mono ?_); (case side1 => repeat (first | exact (Kd.V_reads' HO_5.out).2.2 | (with_reducible refine Kd.C_alloc ?_ _) | (with_reducible refine Kd.C_drewN ?_ _) | (with_reducible refine Kd.C_drew ?_))); (case side2 => exact (Kd.V_reads' HO_5.out).2.1); rintro e w25 ⟨v337, rfl, ho0, hb⟩; have n0_ := Aside0.mk (Kd.V_elder' (by (with_reducible repeat (first | apply Kd.V_alloc | apply Kd.V_drewN | apply Kd.V_drew)); exact HO_5.out) (Kd.R_base ho0) hb); have n1_ := Aside0.mk (Kd.R_lower ho0 (below_size (by repeat (first | (with_reducible first | exact HB.out | apply below_alloc | apply pw_below_drewN | apply below_drew1) | exact HB.out)))); have n2_ := Aside0.mk (below_step (by repeat (first | (with_reducible first | exact HB.out | apply below_alloc | apply pw_below_drewN | apply below_drew1) | exact HB.out)) hb); clear HO_5; clear HB; have HO_5 := n0_; have HO338 := n1_; have HB := n2_; clear n0_ n1_ n2_; (try clear hb); (try clear hb2); (try clear hk); (try clear hi); (try clear ho0); have hcv26 := own_string (P := Try.prog) Try.underlying23 Try.underlying5 Try.underlying9 (Kd.own_of_R HO338.out); have hcv27 := Kd.C_string (P := Try.prog) (A := A333_0) (c := c333_0) Try.underlying23 Try.underlying5 Try.underlying9 (Kd.C_below HR333_0.out HB.out); have hcv27d := fun n_ : Nat => Kd.C_string (P := Try.prog) (A := A333_0) (c := c333_0) Try.underlying23 Try.underlying5 Try.underlying9 (Kd.C_drewN ((Kd.C_below HR333_0.out HB.out)) n_)))
                        repeat (go_quiet (first | (go_at_call 20; (with_reducible refine (key_TakeBytes.calls _ _ x5_2 t334 t335 t336 _ ?side1 ?side2 A20.out).mono ?_); (case side1 => repeat (first | exact (Kd.V_reads' HO_5.out).2.2 | (with_reducible refine Kd.C_alloc ?_ _) | (with_reducible refine Kd.C_drewN ?_ _) | (with_reducible refine Kd.C_drew ?_))); (case side2 => exact (Kd.V_reads' HO_5.out).2.1); rintro e w25 ⟨v337, rfl, ho0, hb⟩; have n0_ := Aside0.mk (Kd.V_elder' (by (with_reducible repeat (first | apply Kd.V_alloc | apply Kd.V_drewN | apply Kd.V_drew)); exact HO_5.out) (Kd.R_base ho0) hb); have n1_ := Aside0.mk (Kd.R_lower ho0 (below_size (by repeat (first | (with_reducible first | exact HB.out | apply below_alloc | apply pw_below_drewN | apply below_drew1) | exact HB.out)))); have n2_ := Aside0.mk (below_step (by repeat (first | (with_reducible first | exact HB.out | apply below_alloc | apply pw_below_drewN | apply below_drew1) | exact HB.out)) hb); clear HO_5; clear HB; have HO_5 := n0_; have HO338 := n1_; have HB := n2_; clear n0_ n1_ n2_; (try clear hb); (try clear hb2); (try clear hk); (try clear hi); (try clear ho0); have hcv26 := own_string (P := Try.prog) Try.underlying23 Try.underlying5 Try.underlying9 (Kd.own_of_R HO338.out); have hcv27 := Kd.C_string (P := Try.prog) (A := A333_0) (c := c333_0) Try.underlying23 Try.underlying5 Try.underlying9 (Kd.C_below HR333_0.out HB.out); have hcv27d := fun n_ : Nat => Kd.C_string (P := Try.prog) (A := A333_0) (c := c333_0) Try.underlying23 Try.underlying5 Try.underlying9 (Kd.C_drewN ((Kd.C_below HR333_0.out HB.out)) n_))); try go_wp2_with (first | (go_at_call 20; (with_reducible refine (key_TakeBytes.calls _ _ x5_2 t334 t335 t336 _ ?side1 ?side2 A20.out).mono ?_); (case side1 => repeat (first | exact (Kd.V_reads' HO_5.out).2.2 | (with_reducible refine Kd.C_alloc ?_ _) | (with_reducible refine Kd.C_drewN ?_ _) | (with_reducible refine Kd.C_drew ?_))); (case side2 => exact (Kd.V_reads' HO_5.out).2.1); rintro e w25 ⟨v337, rfl, ho0, hb⟩; have n0_ := Aside0.mk (Kd.V_elder' (by (with_reducible repeat (first | apply Kd.V_alloc | apply Kd.V_drewN | apply Kd.V_drew)); exact HO_5.out) (Kd.R_base ho0) hb); have n1_ := Aside0.mk (Kd.R_lower ho0 (below_size (by repeat (first | (with_reducible first | exact HB.out | apply below_alloc | apply pw_below_drewN | apply below_drew1) | exact HB.out)))); have n2_ := Aside0.mk (below_step (by repeat (first | (with_reducible first | exact HB.out | apply below_alloc | apply pw_below_drewN | apply below_drew1) | exact HB.out)) hb); clear HO_5; clear HB; have HO_5 := n0_; have HO338 := n1_; have HB := n2_; clear n0_ n1_ n2_; (try clear hb); (try clear hb2); (try clear hk); (try clear hi); (try clear ho0); have hcv26 := own_string (P := Try.prog) Try.underlying23 Try.underlying5 Try.underlying9 (Kd.own_of_R HO338.out); have hcv27 := Kd.C_string (P := Try.prog) (A := A333_0) (c := c333_0) Try.underlying23 Try.underlying5 Try.underlying9 (Kd.C_below HR333_0.out HB.out); have hcv27d := fun n_ : Nat => Kd.C_string (P := Try.prog) (A := A333_0) (c := c333_0) Try.underlying23 Try.underlying5 Try.underlying9 (Kd.C_drewN ((Kd.C_below HR333_0.out HB.out)) n_))))
                        go_ret
                        exact ⟨by first | rfl | (simp [errW_none, errW_some] <;> rfl) | (simp [*, errW_none, errW_some] <;> rfl), by repeat (first | (with_reducible first | exact HB.out | apply below_alloc | apply pw_below_drewN | apply below_drew1) | exact HB.out)⟩
                      · rw [if_neg c23] at H
                        have c23b0 : decide (t335 < 2) = false := decide_eq_false c23
                        clear c23
                        by_cases c28 : t335 > (x5_2.length : Int)
                        · rw [if_pos c28] at H
                          have c28b0 : decide ((x5_2.length : Int) < t335) = true := decide_eq_true c28
                          clear c28
                          obtain rfl := Option.some.inj H
                          have p333 : 0 ≤ (x45_2 : Int) := of_decide_eq_true (by first | (with_reducible assumption) | assumption)
                          have q333 : x45_2 < (l0.length : Int) := of_decide_eq_true (by first | (with_reducible assumption) | assumption)
                          obtain ⟨ad333, A333_0, c333_0, e333, hx333_0, hl333_0, hi333_0⟩ := at_L1 HR0.out x45_2 p333 q333
                          cases e333
                          replace hx333_0 := (HB.out.cell (World.block_lt_of_cell? w _ hx333_0)).trans hx333_0
                          have HR333_0 := Aside0.mk hi333_0
                          have HC333_0 := Aside0.mk hl333_0
                          clear hi333_0 hl333_0
                          replace p333 := eq_true p333
                          replace q333 := eq_true q333
                          obtain ⟨Ao29, co29, eo29⟩ := Kd.V_slice HO_5.out
                          subst eo29
                          go_wp2_with (first | (go_at_call 20; (with_reducible refine (key_TakeBytes.calls _ _ x5_2 t334 t335 t336 _ ?side1 ?side2 A20.out).mono ?_); (case side1 => repeat (first | exact (Kd.V_reads' HO_5.out).2.2 | (with_reducible refine Kd.C_alloc ?_ _) | (with_reducible refine Kd.C_drewN ?_ _) | (with_reducible refine Kd.C_drew ?_))); (case side2 => exact (Kd.V_reads' HO_5.out).2.1); rintro e w30 ⟨v337, rfl, ho0, hb⟩; have n0_ := Aside0.mk (Kd.V_elder' (by (with_reducible repeat (first | apply Kd.V_alloc | apply Kd.V_drewN | apply Kd.V_drew)); exact HO_5.out) (Kd.R_base ho0) hb); have n1_ := Aside0.mk (Kd.R_lower ho0 (below_size (by repeat (first | (with_reducible first | exact HB.out | apply below_alloc | apply pw_below_drewN | apply below_drew1) | exact HB.out)))); have n2_ := Aside0.mk (below_step (by repeat (first | (with_reducible first | exact HB.out | apply below_alloc | apply pw_below_drewN | apply below_drew1) | exact HB.out)) hb); clear HO_5; clear HB; have HO_5 := n0_; have HO338 := n1_; have HB := n2_; clear n0_ n1_ n2_; (try clear hb); (try clear hb2); (try clear hk); (try clear hi); (try clear ho0); have hcv31 := own_string (P := Try.prog) Try.underlying23 Try.underlying5 Try.underlying9 (Kd.own_of_R HO338.out); have hcv32 := Kd.C_string (P := Try.prog) (A := A333_0) (c := c333_0) Try.underlying23 Try.underlying5 Try.underlying9 (Kd.C_below HR333_0.out HB.out); have hcv32d := fun n_ : Nat => Kd.C_string (P := Try.prog) (A := A333_0) (c := c333_0) Try.underlying23 Try.underlying5 Try.underlying9 (Kd.C_drewN ((Kd.C_below HR333_0.out HB.out)) n_)))
                          repeat (go_quiet (first | (go_at_call 20; (with_reducible refine (key_TakeBytes.calls _ _ x5_2 t334 t335 t336 _ ?side1 ?side2 A20.out).mono ?_); (case side1 => repeat (first | exact (Kd.V_reads' HO_5.out).2.2 | (with_reducible refine Kd.C_alloc ?_ _) | (with_reducible refine Kd.C_drewN ?_ _) | (with_reducible refine Kd.C_drew ?_))); (case side2 => exact (Kd.V_reads' HO_5.out).2.1); rintro e w30 ⟨v337, rfl, ho0, hb⟩; have n0_ := Aside0.mk (Kd.V_elder' (by (with_reducible repeat (first | apply Kd.V_alloc | apply Kd.V_drewN | apply Kd.V_drew)); exact HO_5.out) (Kd.R_base ho0) hb); have n1_ := Aside0.mk (Kd.R_lower ho0 (below_size (by repeat (first | (with_reducible first | exact HB.out | apply below_alloc | apply pw_below_drewN | apply below_drew1) | exact HB.out)))); have n2_ := Aside0.mk (below_step (by repeat (first | (with_reducible first | exact HB.out | apply below_alloc | apply pw_below_drewN | apply below_drew1) | exact HB.out)) hb); clear HO_5; clear HB; have HO_5 := n0_; have HO338 := n1_; have HB := n2_; clear n0_ n1_ n2_; (try clear hb); (try clear hb2); (try clear hk); (try clear hi); (try clear ho0); have hcv31 := own_string (P := Try.prog) Try.underlying23 Try.underlying5 Try.underlying9 (Kd.own_of_R HO338.out); have hcv32 := Kd.C_string (P := Try.prog) (A := A333_0) (c := c333_0) Try.underlying23 Try.underlying5 Try.underlying9 (Kd.C_below HR333_0.out HB.out); have hcv32d := fun n_ : Nat => Kd.C_string (P := Try.prog) (A := A333_0) (c := c333_0) Try.underlying23 Try.underlying5 Try.underlying9 (Kd.C_drewN ((Kd.C_below HR333_0.out HB.out)) n_))); try go_wp2_with (first | (go_at_call 20; (with_reducible refine (key_TakeBytes.calls _ _ x5_2 t334 t335 t336 _ ?side1 ?side2 A20.out).mono ?_); (case side1 => repeat (first | exact (Kd.V_reads' HO_5.out).2.2 | (with_reducible refine Kd.C_alloc ?_ _) | (with_reducible refine Kd.C_drewN ?_ _) | (with_reducible refine Kd.C_drew ?_))); (case side2 => exact (Kd.V_reads' HO_5.out).2.1); rintro e w30 ⟨v337, rfl, ho0, hb⟩; have n0_ := Aside0.mk (Kd.V_elder' (by (with_reducible repeat (first | apply Kd.V_alloc | apply Kd.V_drewN | apply Kd.V_drew)); exact HO_5.out) (Kd.R_base ho0) hb); have n1_ := Aside0.mk (Kd.R_lower ho0 (below_size (by repeat (first | (with_reducible first | exact HB.out | apply below_alloc | apply pw_below_drewN | apply below_drew1) | exact HB.out)))); have n2_ := Aside0.mk (below_step (by repeat (first | (with_reducible first | exact HB.out | apply below_alloc | apply pw_below_drewN | apply below_drew1) | exact HB.out)) hb); clear HO_5; clear HB; have HO_5 := n0_; have HO338 := n1_; have HB := n2_; clear n0_ n1_ n2_; (try clear hb); (try clear hb2); (try clear hk); (try clear hi); (try clear ho0); have hcv31 := own_string (P := Try.prog) Try.underlying23 Try.underlying5 Try.underlying9 (Kd.own_of_R HO338.out); have hcv32 := Kd.C_string (P := Try.prog) (A := A333_0) (c := c333_0) Try.underlying23 Try.underlying5 Try.underlying9 (Kd.C_below HR333_0.out HB.out); have hcv32d := fun n_ : Nat => Kd.C_string (P := Try.prog) (A := A333_0) (c := c333_0) Try.underlying23 Try.underlying5 Try.underlying9 (Kd.C_drewN ((Kd.C_below HR333_0.out HB.out)) n_))))
                          go_ret
                          exact ⟨by first | rfl | (simp [errW_none, errW_some] <;> rfl) | (simp [*, errW_none, errW_some] <;> rfl), by repeat (first | (with_reducible first | exact HB.out | apply below_alloc | apply pw_below_drewN | apply below_drew1) | exact HB.out)⟩
                        · rw [if_neg c28] at H
                          have c28b0 : decide ((x5_2.length : Int) < t335) = false := decide_eq_false c28
                          clear c28
                          by_cases c33 : 0 ≤ t335
                          · rw [if_pos c33] at H
                            have c33b0 := eq_true c33
                            have c33b1 : decide (0 ≤ t335) = true := decide_eq_true c33
                            clear c33
                            by_cases c34 : t335 ≤ (x5_2.length : Int)
                            · rw [if_pos c34] at H
                              have c34b0 := eq_true c34
                              have c34b1 : decide (t335 ≤ (x5_2.length : Int)) = true := decide_eq_true c34
                              clear c34
                              obtain ⟨y339, hy339⟩ : ∃ y_ : List Int, y_ = (x5_2.drop (t335 : Int).toNat) := ⟨_, rfl⟩
                              replace H : (halyardlaw7_KeyRows.l1 k2 l0 a1 y339 l0 (l0.length : Int) (wrap64 (x45_2 + 1))) = some r := by first | (rw [hy339]; with_reducible exact H) | (have H2_ := (Option.bind_some _ _).symm.trans H; rw [hy339]; with_reducible exact H2_) | (have H2_ := (Option.bind_some _ _).symm.trans H; with_reducible exact H2_) | with_reducible exact H | (rw [hy339]; exact H) | exact H
                              have Ny339 := Aside0.mk hy339
                              clear hy339
                              have H' := Aside0.mk H
                              clear H
                              have p333 : 0 ≤ (x45_2 : Int) := of_decide_eq_true (by first | (with_reducible assumption) | assumption)
                              have q333 : x45_2 < (l0.length : Int) := of_decide_eq_true (by first | (with_reducible assumption) | assumption)
                              obtain ⟨ad333, A333_0, c333_0, e333, hx333_0, hl333_0, hi333_0⟩ := at_L1 HR0.out x45_2 p333 q333
                              cases e333
                              replace hx333_0 := (HB.out.cell (World.block_lt_of_cell? w _ hx333_0)).trans hx333_0
                              have HR333_0 := Aside0.mk hi333_0
                              have HC333_0 := Aside0.mk hl333_0
                              clear hi333_0 hl333_0
                              replace p333 := eq_true p333
                              replace q333 := eq_true q333
                              obtain ⟨Ao35, co35, eo35⟩ := Kd.V_slice HO_5.out
                              subst eo35
                              go_wp2_with (first | (go_at_call 20; (with_reducible refine (key_TakeBytes.calls _ _ x5_2 t334 t335 t336 _ ?side1 ?side2 A20.out).mono ?_); (case side1 => repeat (first | exact (Kd.V_reads' HO_5.out).2.2 | (with_reducible refine Kd.C_alloc ?_ _) | (with_reducible refine Kd.C_drewN ?_ _) | (with_reducible refine Kd.C_drew ?_))); (case side2 => exact (Kd.V_reads' HO_5.out).2.1); rintro e w36 ⟨v337, rfl, ho0, hb⟩; have n0_ := Aside0.mk (Kd.V_elder' (by (with_reducible repeat (first | apply Kd.V_alloc | apply Kd.V_drewN | apply Kd.V_drew)); exact HO_5.out) (Kd.R_base ho0) hb); have n1_ := Aside0.mk (Kd.R_lower ho0 (below_size (by repeat (first | (with_reducible first | exact HB.out | apply below_alloc | apply pw_below_drewN | apply below_drew1) | exact HB.out)))); have n2_ := Aside0.mk (below_step (by repeat (first | (with_reducible first | exact HB.out | apply below_alloc | apply pw_below_drewN | apply below_drew1) | exact HB.out)) hb); clear HO_5; clear HB; have HO_5 := n0_; have HO338 := n1_; have HB := n2_; clear n0_ n1_ n2_; (try clear hb); (try clear hb2); (try clear hk); (try clear hi); (try clear ho0); have hcv37 := own_string (P := Try.prog) Try.underlying23 Try.underlying5 Try.underlying9 (Kd.own_of_R HO338.out); have hcv38 := Kd.C_string (P := Try.prog) (A := A333_0) (c := c333_0) Try.underlying23 Try.underlying5 Try.underlying9 (Kd.C_below HR333_0.out HB.out); have hcv38d := fun n_ : Nat => Kd.C_string (P := Try.prog) (A := A333_0) (c := c333_0) Try.underlying23 Try.underlying5 Try.underlying9 (Kd.C_drewN ((Kd.C_below HR333_0.out HB.out)) n_); have q39 : (t335 : Int) ≤ ((x5_2.length : Int) : Int) := of_decide_eq_true (by first | (with_reducible assumption) | assumption); obtain ⟨i039, hi039, _, hsz39, _⟩ := info_parts info5; have hroom39 : x5_2.length ≤ co35 := (Kd.V_reads' HO_5.out).2.1; have hC39 : Kd.F (Kd.int .u8) _ _ Ao35 x5_2.length x5_2 := (Kd.V_at (base := w.heap.size) HO_5.out).2.2; have q039 : (0 : Int) ≤ (t335 : Int) := of_decide_eq_true (by first | (with_reducible assumption) | assumption); have hcut39 := cut_from (P := Try.prog) 23 5 .i64 Try.underlying23 hi039 1 hsz39 Ao35 x5_2.length co35 t335 q039 q39; have hr39 := Kd.F_cut (m := (t335 : Int).toNat) (c := co35) hC39 (by omega) hroom39; obtain ⟨A39, hA39⟩ : ∃ A1, A1 = (if co35 = (t335 : Int).toNat then Ao35 else (Ao35 : Option Addr).map (·.add ((t335 : Int).toNat * 1))) := ⟨_, rfl⟩; obtain ⟨c39, hc39⟩ : ∃ c1, c1 = co35 - (t335 : Int).toNat := ⟨_, rfl⟩; have hy39 : y339.length = x5_2.length - (t335 : Int).toNat := (by rw [Ny339.out, List.length_drop] <;> omega); rw [show (x5_2).drop (t335 : Int).toNat = y339 from Ny339.out.symm] at hr39; replace hr39 : Kd.F (Kd.int .u8) _ _ A39 y339.length y339 := (by rw [hA39]; exact hr39); rw [← hy39, ← hA39, ← hc39] at hcut39; have HO343 := Aside0.mk (show Kd.V (Kd.int .u8) 5 _ w.heap.size _ (.slice A39 y339.length c39) y339 from Kd.V_mk (by rw [hy39, hc39]; exact Nat.sub_le_sub_right hroom39 _) hr39); have HC343 := Aside0.mk (show y339.length ≤ c39 from by rw [hy39, hc39]; exact Nat.sub_le_sub_right hroom39 _); clear hr39 hC39 hroom39 hi039 hsz39 hc39; have KY39 := Aside0.mk hy39; have KA39 := Aside0.mk hA39; clear hy39 hA39; replace q39 := eq_true q39))
                              repeat (go_quiet (first | (go_at_call 20; (with_reducible refine (key_TakeBytes.calls _ _ x5_2 t334 t335 t336 _ ?side1 ?side2 A20.out).mono ?_); (case side1 => repeat (first | exact (Kd.V_reads' HO_5.out).2.2 | (with_reducible refine Kd.C_alloc ?_ _) | (with_reducible refine Kd.C_drewN ?_ _) | (with_reducible refine Kd.C_drew ?_))); (case side2 => exact (Kd.V_reads' HO_5.out).2.1); rintro e w36 ⟨v337, rfl, ho0, hb⟩; have n0_ := Aside0.mk (Kd.V_elder' (by (with_reducible repeat (first | apply Kd.V_alloc | apply Kd.V_drewN | apply Kd.V_drew)); exact HO_5.out) (Kd.R_base ho0) hb); have n1_ := Aside0.mk (Kd.R_lower ho0 (below_size (by repeat (first | (with_reducible first | exact HB.out | apply below_alloc | apply pw_below_drewN | apply below_drew1) | exact HB.out)))); have n2_ := Aside0.mk (below_step (by repeat (first | (with_reducible first | exact HB.out | apply below_alloc | apply pw_below_drewN | apply below_drew1) | exact HB.out)) hb); clear HO_5; clear HB; have HO_5 := n0_; have HO338 := n1_; have HB := n2_; clear n0_ n1_ n2_; (try clear hb); (try clear hb2); (try clear hk); (try clear hi); (try clear ho0); have hcv37 := own_string (P := Try.prog) Try.underlying23 Try.underlying5 Try.underlying9 (Kd.own_of_R HO338.out); have hcv38 := Kd.C_string (P := Try.prog) (A := A333_0) (c := c333_0) Try.underlying23 Try.underlying5 Try.underlying9 (Kd.C_below HR333_0.out HB.out); have hcv38d := fun n_ : Nat => Kd.C_string (P := Try.prog) (A := A333_0) (c := c333_0) Try.underlying23 Try.underlying5 Try.underlying9 (Kd.C_drewN ((Kd.C_below HR333_0.out HB.out)) n_); have q39 : (t335 : Int) ≤ ((x5_2.length : Int) : Int) := of_decide_eq_true (by first | (with_reducible assumption) | assumption); obtain ⟨i039, hi039, _, hsz39, _⟩ := info_parts info5; have hroom39 : x5_2.length ≤ co35 := (Kd.V_reads' HO_5.out).2.1; have hC39 : Kd.F (Kd.int .u8) _ _ Ao35 x5_2.length x5_2 := (Kd.V_at (base := w.heap.size) HO_5.out).2.2; have q039 : (0 : Int) ≤ (t335 : Int) := of_decide_eq_true (by first | (with_reducible assumption) | assumption); have hcut39 := cut_from (P := Try.prog) 23 5 .i64 Try.underlying23 hi039 1 hsz39 Ao35 x5_2.length co35 t335 q039 q39; have hr39 := Kd.F_cut (m := (t335 : Int).toNat) (c := co35) hC39 (by omega) hroom39; obtain ⟨A39, hA39⟩ : ∃ A1, A1 = (if co35 = (t335 : Int).toNat then Ao35 else (Ao35 : Option Addr).map (·.add ((t335 : Int).toNat * 1))) := ⟨_, rfl⟩; obtain ⟨c39, hc39⟩ : ∃ c1, c1 = co35 - (t335 : Int).toNat := ⟨_, rfl⟩; have hy39 : y339.length = x5_2.length - (t335 : Int).toNat := (by rw [Ny339.out, List.length_drop] <;> omega); rw [show (x5_2).drop (t335 : Int).toNat = y339 from Ny339.out.symm] at hr39; replace hr39 : Kd.F (Kd.int .u8) _ _ A39 y339.length y339 := (by rw [hA39]; exact hr39); rw [← hy39, ← hA39, ← hc39] at hcut39; have HO343 := Aside0.mk (show Kd.V (Kd.int .u8) 5 _ w.heap.size _ (.slice A39 y339.length c39) y339 from Kd.V_mk (by rw [hy39, hc39]; exact Nat.sub_le_sub_right hroom39 _) hr39); have HC343 := Aside0.mk (show y339.length ≤ c39 from by rw [hy39, hc39]; exact Nat.sub_le_sub_right hroom39 _); clear hr39 hC39 hroom39 hi039 hsz39 hc39; have KY39 := Aside0.mk hy39; have KA39 := Aside0.mk hA39; clear hy39 hA39; replace q39 := eq_true q39)); try go_wp2_with (first | (go_at_call 20; (with_reducible refine (key_TakeBytes.calls _ _ x5_2 t334 t335 t336 _ ?side1 ?side2 A20.out).mono ?_); (case side1 => repeat (first | exact (Kd.V_reads' HO_5.out).2.2 | (with_reducible refine Kd.C_alloc ?_ _) | (with_reducible refine Kd.C_drewN ?_ _) | (with_reducible refine Kd.C_drew ?_))); (case side2 => exact (Kd.V_reads' HO_5.out).2.1); rintro e w36 ⟨v337, rfl, ho0, hb⟩; have n0_ := Aside0.mk (Kd.V_elder' (by (with_reducible repeat (first | apply Kd.V_alloc | apply Kd.V_drewN | apply Kd.V_drew)); exact HO_5.out) (Kd.R_base ho0) hb); have n1_ := Aside0.mk (Kd.R_lower ho0 (below_size (by repeat (first | (with_reducible first | exact HB.out | apply below_alloc | apply pw_below_drewN | apply below_drew1) | exact HB.out)))); have n2_ := Aside0.mk (below_step (by repeat (first | (with_reducible first | exact HB.out | apply below_alloc | apply pw_below_drewN | apply below_drew1) | exact HB.out)) hb); clear HO_5; clear HB; have HO_5 := n0_; have HO338 := n1_; have HB := n2_; clear n0_ n1_ n2_; (try clear hb); (try clear hb2); (try clear hk); (try clear hi); (try clear ho0); have hcv37 := own_string (P := Try.prog) Try.underlying23 Try.underlying5 Try.underlying9 (Kd.own_of_R HO338.out); have hcv38 := Kd.C_string (P := Try.prog) (A := A333_0) (c := c333_0) Try.underlying23 Try.underlying5 Try.underlying9 (Kd.C_below HR333_0.out HB.out); have hcv38d := fun n_ : Nat => Kd.C_string (P := Try.prog) (A := A333_0) (c := c333_0) Try.underlying23 Try.underlying5 Try.underlying9 (Kd.C_drewN ((Kd.C_below HR333_0.out HB.out)) n_); have q39 : (t335 : Int) ≤ ((x5_2.length : Int) : Int) := of_decide_eq_true (by first | (with_reducible assumption) | assumption); obtain ⟨i039, hi039, _, hsz39, _⟩ := info_parts info5; have hroom39 : x5_2.length ≤ co35 := (Kd.V_reads' HO_5.out).2.1; have hC39 : Kd.F (Kd.int .u8) _ _ Ao35 x5_2.length x5_2 := (Kd.V_at (base := w.heap.size) HO_5.out).2.2; have q039 : (0 : Int) ≤ (t335 : Int) := of_decide_eq_true (by first | (with_reducible assumption) | assumption); have hcut39 := cut_from (P := Try.prog) 23 5 .i64 Try.underlying23 hi039 1 hsz39 Ao35 x5_2.length co35 t335 q039 q39; have hr39 := Kd.F_cut (m := (t335 : Int).toNat) (c := co35) hC39 (by omega) hroom39; obtain ⟨A39, hA39⟩ : ∃ A1, A1 = (if co35 = (t335 : Int).toNat then Ao35 else (Ao35 : Option Addr).map (·.add ((t335 : Int).toNat * 1))) := ⟨_, rfl⟩; obtain ⟨c39, hc39⟩ : ∃ c1, c1 = co35 - (t335 : Int).toNat := ⟨_, rfl⟩; have hy39 : y339.length = x5_2.length - (t335 : Int).toNat := (by rw [Ny339.out, List.length_drop] <;> omega); rw [show (x5_2).drop (t335 : Int).toNat = y339 from Ny339.out.symm] at hr39; replace hr39 : Kd.F (Kd.int .u8) _ _ A39 y339.length y339 := (by rw [hA39]; exact hr39); rw [← hy39, ← hA39, ← hc39] at hcut39; have HO343 := Aside0.mk (show Kd.V (Kd.int .u8) 5 _ w.heap.size _ (.slice A39 y339.length c39) y339 from Kd.V_mk (by rw [hy39, hc39]; exact Nat.sub_le_sub_right hroom39 _) hr39); have HC343 := Aside0.mk (show y339.length ≤ c39 from by rw [hy39, hc39]; exact Nat.sub_le_sub_right hroom39 _); clear hr39 hC39 hroom39 hi039 hsz39 hc39; have KY39 := Aside0.mk hy39; have KA39 := Aside0.mk hA39; clear hy39 hA39; replace q39 := eq_true q39)))
                              go_roundg k2
                              case measure => have := HK1.out; have := HK2.out; omega
                              case rel => exact ⟨(y339), (wrap64 (x45_2 + 1)), (by first | rfl | (simp; done) | (simp [*]; done)), H', ⟨by have := HK1.out; have := HK2.out; omega⟩, ⟨by (with_reducible repeat (first | apply Kd.V_alloc | apply Kd.V_drewN | apply Kd.V_drew)); exact Kd.V_mono HO343.out (fun _ hk => trivial)⟩, ⟨by repeat (first | (with_reducible first | exact HB.out | apply below_alloc | apply pw_below_drewN | apply below_drew1) | exact HB.out)⟩⟩
                            · rw [if_neg c34] at H
                              exact absurd H (by simp)
                          · rw [if_neg c33] at H
                            exact absurd H (by simp)
                    · rw [if_neg c22] at H
                      have c22b0 : ((strOfNums t334).toList == (strOfNums (rd_L1 l0 x45_2)).toList) = false := beq_eq_false_iff_ne.mpr c22
                      have c22b1 : ((strOfNums t334).toList != (strOfNums (rd_L1 l0 x45_2)).toList) = true := bne_iff_ne.mpr c22
                      obtain rfl := Option.some.inj H
                      have p333 : 0 ≤ (x45_2 : Int) := of_decide_eq_true (by first | (with_reducible assumption) | assumption)
                      have q333 : x45_2 < (l0.length : Int) := of_decide_eq_true (by first | (with_reducible assumption) | assumption)
                      obtain ⟨ad333, A333_0, c333_0, e333, hx333_0, hl333_0, hi333_0⟩ := at_L1 HR0.out x45_2 p333 q333
                      cases e333
                      replace hx333_0 := (HB.out.cell (World.block_lt_of_cell? w _ hx333_0)).trans hx333_0
                      have HR333_0 := Aside0.mk hi333_0
                      have HC333_0 := Aside0.mk hl333_0
                      clear hi333_0 hl333_0
                      replace p333 := eq_true p333
                      replace q333 := eq_true q333
                      obtain ⟨Ao40, co40, eo40⟩ := Kd.V_slice HO_5.out
                      subst eo40
                      go_wp2_with (first | (go_at_call 20; (with_reducible refine (key_TakeBytes.calls _ _ x5_2 t334 t335 t336 _ ?side1 ?side2 A20.out).mono ?_); (case side1 => repeat (first | exact (Kd.V_reads' HO_5.out).2.2 | (with_reducible refine Kd.C_alloc ?_ _) | (with_reducible refine Kd.C_drewN ?_ _) | (with_reducible refine Kd.C_drew ?_))); (case side2 => exact (Kd.V_reads' HO_5.out).2.1); rintro e w41 ⟨v337, rfl, ho0, hb⟩; have n0_ := Aside0.mk (Kd.V_elder' (by (with_reducible repeat (first | apply Kd.V_alloc | apply Kd.V_drewN | apply Kd.V_drew)); exact HO_5.out) (Kd.R_base ho0) hb); have n1_ := Aside0.mk (Kd.R_lower ho0 (below_size (by repeat (first | (with_reducible first | exact HB.out | apply below_alloc | apply pw_below_drewN | apply below_drew1) | exact HB.out)))); have n2_ := Aside0.mk (below_step (by repeat (first | (with_reducible first | exact HB.out | apply below_alloc | apply pw_below_drewN | apply below_drew1) | exact HB.out)) hb); clear HO_5; clear HB; have HO_5 := n0_; have HO338 := n1_; have HB := n2_; clear n0_ n1_ n2_; (try clear hb); (try clear hb2); (try clear hk); (try clear hi); (try clear ho0); have hcv42 := own_string (P := Try.prog) Try.underlying23 Try.underlying5 Try.underlying9 (Kd.own_of_R HO338.out); have hcv43 := Kd.C_string (P := Try.prog) (A := A333_0) (c := c333_0) Try.underlying23 Try.underlying5 Try.underlying9 (Kd.C_below HR333_0.out HB.out); have hcv43d := fun n_ : Nat => Kd.C_string (P := Try.prog) (A := A333_0) (c := c333_0) Try.underlying23 Try.underlying5 Try.underlying9 (Kd.C_drewN ((Kd.C_below HR333_0.out HB.out)) n_)))
                      repeat (go_quiet (first | (go_at_call 20; (with_reducible refine (key_TakeBytes.calls _ _ x5_2 t334 t335 t336 _ ?side1 ?side2 A20.out).mono ?_); (case side1 => repeat (first | exact (Kd.V_reads' HO_5.out).2.2 | (with_reducible refine Kd.C_alloc ?_ _) | (with_reducible refine Kd.C_drewN ?_ _) | (with_reducible refine Kd.C_drew ?_))); (case side2 => exact (Kd.V_reads' HO_5.out).2.1); rintro e w41 ⟨v337, rfl, ho0, hb⟩; have n0_ := Aside0.mk (Kd.V_elder' (by (with_reducible repeat (first | apply Kd.V_alloc | apply Kd.V_drewN | apply Kd.V_drew)); exact HO_5.out) (Kd.R_base ho0) hb); have n1_ := Aside0.mk (Kd.R_lower ho0 (below_size (by repeat (first | (with_reducible first | exact HB.out | apply below_alloc | apply pw_below_drewN | apply below_drew1) | exact HB.out)))); have n2_ := Aside0.mk (below_step (by repeat (first | (with_reducible first | exact HB.out | apply below_alloc | apply pw_below_drewN | apply below_drew1) | exact HB.out)) hb); clear HO_5; clear HB; have HO_5 := n0_; have HO338 := n1_; have HB := n2_; clear n0_ n1_ n2_; (try clear hb); (try clear hb2); (try clear hk); (try clear hi); (try clear ho0); have hcv42 := own_string (P := Try.prog) Try.underlying23 Try.underlying5 Try.underlying9 (Kd.own_of_R HO338.out); have hcv43 := Kd.C_string (P := Try.prog) (A := A333_0) (c := c333_0) Try.underlying23 Try.underlying5 Try.underlying9 (Kd.C_below HR333_0.out HB.out); have hcv43d := fun n_ : Nat => Kd.C_string (P := Try.prog) (A := A333_0) (c := c333_0) Try.underlying23 Try.underlying5 Try.underlying9 (Kd.C_drewN ((Kd.C_below HR333_0.out HB.out)) n_))); try go_wp2_with (first | (go_at_call 20; (with_reducible refine (key_TakeBytes.calls _ _ x5_2 t334 t335 t336 _ ?side1 ?side2 A20.out).mono ?_); (case side1 => repeat (first | exact (Kd.V_reads' HO_5.out).2.2 | (with_reducible refine Kd.C_alloc ?_ _) | (with_reducible refine Kd.C_drewN ?_ _) | (with_reducible refine Kd.C_drew ?_))); (case side2 => exact (Kd.V_reads' HO_5.out).2.1); rintro e w41 ⟨v337, rfl, ho0, hb⟩; have n0_ := Aside0.mk (Kd.V_elder' (by (with_reducible repeat (first | apply Kd.V_alloc | apply Kd.V_drewN | apply Kd.V_drew)); exact HO_5.out) (Kd.R_base ho0) hb); have n1_ := Aside0.mk (Kd.R_lower ho0 (below_size (by repeat (first | (with_reducible first | exact HB.out | apply below_alloc | apply pw_below_drewN | apply below_drew1) | exact HB.out)))); have n2_ := Aside0.mk (below_step (by repeat (first | (with_reducible first | exact HB.out | apply below_alloc | apply pw_below_drewN | apply below_drew1) | exact HB.out)) hb); clear HO_5; clear HB; have HO_5 := n0_; have HO338 := n1_; have HB := n2_; clear n0_ n1_ n2_; (try clear hb); (try clear hb2); (try clear hk); (try clear hi); (try clear ho0); have hcv42 := own_string (P := Try.prog) Try.underlying23 Try.underlying5 Try.underlying9 (Kd.own_of_R HO338.out); have hcv43 := Kd.C_string (P := Try.prog) (A := A333_0) (c := c333_0) Try.underlying23 Try.underlying5 Try.underlying9 (Kd.C_below HR333_0.out HB.out); have hcv43d := fun n_ : Nat => Kd.C_string (P := Try.prog) (A := A333_0) (c := c333_0) Try.underlying23 Try.underlying5 Try.underlying9 (Kd.C_drewN ((Kd.C_below HR333_0.out HB.out)) n_))))
                      go_ret
                      exact ⟨by first | rfl | (simp [errW_none, errW_some] <;> rfl) | (simp [*, errW_none, errW_some] <;> rfl), by repeat (first | (with_reducible first | exact HB.out | apply below_alloc | apply pw_below_drewN | apply below_drew1) | exact HB.out)⟩
                  · rw [if_neg c21] at H
                    have c21b0 : (t336 == 0) = false := beq_eq_false_iff_ne.mpr c21
                    have c21b1 : (t336 != 0) = true := bne_iff_ne.mpr c21
                    obtain rfl := Option.some.inj H
                    have p333 : 0 ≤ (x45_2 : Int) := of_decide_eq_true (by first | (with_reducible assumption) | assumption)
                    have q333 : x45_2 < (l0.length : Int) := of_decide_eq_true (by first | (with_reducible assumption) | assumption)
                    obtain ⟨ad333, A333_0, c333_0, e333, hx333_0, hl333_0, hi333_0⟩ := at_L1 HR0.out x45_2 p333 q333
                    cases e333
                    replace hx333_0 := (HB.out.cell (World.block_lt_of_cell? w _ hx333_0)).trans hx333_0
                    have HR333_0 := Aside0.mk hi333_0
                    have HC333_0 := Aside0.mk hl333_0
                    clear hi333_0 hl333_0
                    replace p333 := eq_true p333
                    replace q333 := eq_true q333
                    obtain ⟨Ao44, co44, eo44⟩ := Kd.V_slice HO_5.out
                    subst eo44
                    go_wp2_with (first | (go_at_call 20; (with_reducible refine (key_TakeBytes.calls _ _ x5_2 t334 t335 t336 _ ?side1 ?side2 A20.out).mono ?_); (case side1 => repeat (first | exact (Kd.V_reads' HO_5.out).2.2 | (with_reducible refine Kd.C_alloc ?_ _) | (with_reducible refine Kd.C_drewN ?_ _) | (with_reducible refine Kd.C_drew ?_))); (case side2 => exact (Kd.V_reads' HO_5.out).2.1); rintro e w45 ⟨v337, rfl, ho0, hb⟩; have n0_ := Aside0.mk (Kd.V_elder' (by (with_reducible repeat (first | apply Kd.V_alloc | apply Kd.V_drewN | apply Kd.V_drew)); exact HO_5.out) (Kd.R_base ho0) hb); have n1_ := Aside0.mk (Kd.R_lower ho0 (below_size (by repeat (first | (with_reducible first | exact HB.out | apply below_alloc | apply pw_below_drewN | apply below_drew1) | exact HB.out)))); have n2_ := Aside0.mk (below_step (by repeat (first | (with_reducible first | exact HB.out | apply below_alloc | apply pw_below_drewN | apply below_drew1) | exact HB.out)) hb); clear HO_5; clear HB; have HO_5 := n0_; have HO338 := n1_; have HB := n2_; clear n0_ n1_ n2_; (try clear hb); (try clear hb2); (try clear hk); (try clear hi); (try clear ho0)))
                    repeat (go_quiet (first | (go_at_call 20; (with_reducible refine (key_TakeBytes.calls _ _ x5_2 t334 t335 t336 _ ?side1 ?side2 A20.out).mono ?_); (case side1 => repeat (first | exact (Kd.V_reads' HO_5.out).2.2 | (with_reducible refine Kd.C_alloc ?_ _) | (with_reducible refine Kd.C_drewN ?_ _) | (with_reducible refine Kd.C_drew ?_))); (case side2 => exact (Kd.V_reads' HO_5.out).2.1); rintro e w45 ⟨v337, rfl, ho0, hb⟩; have n0_ := Aside0.mk (Kd.V_elder' (by (with_reducible repeat (first | apply Kd.V_alloc | apply Kd.V_drewN | apply Kd.V_drew)); exact HO_5.out) (Kd.R_base ho0) hb); have n1_ := Aside0.mk (Kd.R_lower ho0 (below_size (by repeat (first | (with_reducible first | exact HB.out | apply below_alloc | apply pw_below_drewN | apply below_drew1) | exact HB.out)))); have n2_ := Aside0.mk (below_step (by repeat (first | (with_reducible first | exact HB.out | apply below_alloc | apply pw_below_drewN | apply below_drew1) | exact HB.out)) hb); clear HO_5; clear HB; have HO_5 := n0_; have HO338 := n1_; have HB := n2_; clear n0_ n1_ n2_; (try clear hb); (try clear hb2); (try clear hk); (try clear hi); (try clear ho0))); try go_wp2_with (first | (go_at_call 20; (with_reducible refine (key_TakeBytes.calls _ _ x5_2 t334 t335 t336 _ ?side1 ?side2 A20.out).mono ?_); (case side1 => repeat (first | exact (Kd.V_reads' HO_5.out).2.2 | (with_reducible refine Kd.C_alloc ?_ _) | (with_reducible refine Kd.C_drewN ?_ _) | (with_reducible refine Kd.C_drew ?_))); (case side2 => exact (Kd.V_reads' HO_5.out).2.1); rintro e w45 ⟨v337, rfl, ho0, hb⟩; have n0_ := Aside0.mk (Kd.V_elder' (by (with_reducible repeat (first | apply Kd.V_alloc | apply Kd.V_drewN | apply Kd.V_drew)); exact HO_5.out) (Kd.R_base ho0) hb); have n1_ := Aside0.mk (Kd.R_lower ho0 (below_size (by repeat (first | (with_reducible first | exact HB.out | apply below_alloc | apply pw_below_drewN | apply below_drew1) | exact HB.out)))); have n2_ := Aside0.mk (below_step (by repeat (first | (with_reducible first | exact HB.out | apply below_alloc | apply pw_below_drewN | apply below_drew1) | exact HB.out)) hb); clear HO_5; clear HB; have HO_5 := n0_; have HO338 := n1_; have HB := n2_; clear n0_ n1_ n2_; (try clear hb); (try clear hb2); (try clear hk); (try clear hi); (try clear ho0))))
                    go_ret
                    exact ⟨by first | rfl | (simp [errW_none, errW_some] <;> rfl) | (simp [*, errW_none, errW_some] <;> rfl), by repeat (first | (with_reducible first | exact HB.out | apply below_alloc | apply pw_below_drewN | apply below_drew1) | exact HB.out)⟩
                · rw [if_neg c19] at H
                  exact absurd H (by simp)
              · rw [if_neg c18] at H
                exact absurd H (by simp)
            · rw [if_neg c17] at H
              have c17b0 : decide (x45_2 < (l0.length : Int)) = false := decide_eq_false c17
              clear c17
              replace H := Option.bind_eq_some_iff.mp H
              obtain ⟨⟨t344, t345⟩, A460, H⟩ := H
              replace H : (if t345 = 0 then (if t344 = a1 then (halyardlaw7_KeyRows.j3 k2 l0 ((x5_2.length : Int) != 8)) else (halyardlaw7_KeyRows.j3 k2 l0 true)) else (halyardlaw7_KeyRows.j3 k2 l0 true)) = some r := H
              have A46 := Aside0.mk A460
              clear A460
              have HC47 := Aside0.mk H
              clear H
              obtain ⟨Ao48, co48, eo48⟩ := Kd.V_slice HO_5.out
              subst eo48
              go_upto_region 19 with (first | (go_at_call 17; (with_reducible refine (key_TakeNumber.calls k2 _ _ x5_2 t344 t345 _ ?side1 ?side2 A46.out).mono ?_); (case side1 => repeat (first | exact (Kd.V_reads' HO_5.out).2.2 | (with_reducible refine Kd.C_alloc ?_ _) | (with_reducible refine Kd.C_drewN ?_ _) | (with_reducible refine Kd.C_drew ?_))); (case side2 => exact (Kd.V_reads' HO_5.out).2.1); rintro e w49 ⟨rfl, hb⟩; have n0_ := Aside0.mk (Kd.V_below (by (with_reducible repeat (first | apply Kd.V_alloc | apply Kd.V_drewN | apply Kd.V_drew)); exact HO_5.out) hb); have n1_ := Aside0.mk (below_step (by repeat (first | (with_reducible first | exact HB.out | apply below_alloc | apply pw_below_drewN | apply below_drew1) | exact HB.out)) hb); clear HO_5; clear HB; have HO_5 := n0_; have HB := n1_; clear n0_ n1_; (try clear hb); (try clear hb2); (try clear hk); (try clear hi)))
              repeat (go_quiet (first | (go_at_call 17; (with_reducible refine (key_TakeNumber.calls k2 _ _ x5_2 t344 t345 _ ?side1 ?side2 A46.out).mono ?_); (case side1 => repeat (first | exact (Kd.V_reads' HO_5.out).2.2 | (with_reducible refine Kd.C_alloc ?_ _) | (with_reducible refine Kd.C_drewN ?_ _) | (with_reducible refine Kd.C_drew ?_))); (case side2 => exact (Kd.V_reads' HO_5.out).2.1); rintro e w49 ⟨rfl, hb⟩; have n0_ := Aside0.mk (Kd.V_below (by (with_reducible repeat (first | apply Kd.V_alloc | apply Kd.V_drewN | apply Kd.V_drew)); exact HO_5.out) hb); have n1_ := Aside0.mk (below_step (by repeat (first | (with_reducible first | exact HB.out | apply below_alloc | apply pw_below_drewN | apply below_drew1) | exact HB.out)) hb); clear HO_5; clear HB; have HO_5 := n0_; have HB := n1_; clear n0_ n1_; (try clear hb); (try clear hb2); (try clear hk); (try clear hi))); go_upto_region 19 with (first | (go_at_call 17; (with_reducible refine (key_TakeNumber.calls k2 _ _ x5_2 t344 t345 _ ?side1 ?side2 A46.out).mono ?_); (case side1 => repeat (first | exact (Kd.V_reads' HO_5.out).2.2 | (with_reducible refine Kd.C_alloc ?_ _) | (with_reducible refine Kd.C_drewN ?_ _) | (with_reducible refine Kd.C_drew ?_))); (case side2 => exact (Kd.V_reads' HO_5.out).2.1); rintro e w49 ⟨rfl, hb⟩; have n0_ := Aside0.mk (Kd.V_below (by (with_reducible repeat (first | apply Kd.V_alloc | apply Kd.V_drewN | apply Kd.V_drew)); exact HO_5.out) hb); have n1_ := Aside0.mk (below_step (by repeat (first | (with_reducible first | exact HB.out | apply below_alloc | apply pw_below_drewN | apply below_drew1) | exact HB.out)) hb); clear HO_5; clear HB; have HO_5 := n0_; have HB := n1_; clear n0_ n1_; (try clear hb); (try clear hb2); (try clear hk); (try clear hi))))
              (try simp only [Act.put, List.setIfInBounds_toArray, List.set_cons_zero, List.set_cons_succ])
              go_cut [94] (fun v94 wc => ∃ (kq : Nat) (x94_46 : Bool), v94 = .bool x94_46 ∧ Aside0 (halyardlaw7_KeyRows.j3 kq l0 x94_46 = some r) ∧ Aside0 (kq ≤ k2) ∧ Aside0 (Below w.heap.size w wc))
              case first =>
                have H := HC47.out
                clear HC47
                by_cases c50 : t345 = 0
                · rw [if_pos c50] at H
                  have c50b0 : (t345 == 0) = true := beq_iff_eq.mpr c50
                  have c50b1 : (t345 != 0) = false := bne_eq_false_iff_eq.mpr c50
                  clear c50
                  (first | rw [c50b0] | (simp only [i64_w, i32_w]; rw [c50b0]) | skip)
                  by_cases c51 : t344 = a1
                  · rw [if_pos c51] at H
                    have c51b0 : (t344 == a1) = true := beq_iff_eq.mpr c51
                    have c51b1 : (t344 != a1) = false := bne_eq_false_iff_eq.mpr c51
                    clear c51
                    have H' := Aside0.mk H
                    clear H
                    go_wp2
                    repeat (go_quiet (fail); try go_wp2)
                    go_meet
                    case rel => exact ⟨_, (((x5_2.length : Int) != 8)), (by first | rfl | (simp; done) | (simp [*]; done)), H', ⟨by have := HK1.out; have := HK2.out; first | omega | exact Nat.le_refl _⟩, ⟨by repeat (first | (with_reducible first | exact HB.out | apply below_alloc | apply pw_below_drewN | apply below_drew1) | exact HB.out)⟩⟩
                  · rw [if_neg c51] at H
                    have c51b0 : (t344 == a1) = false := beq_eq_false_iff_ne.mpr c51
                    have c51b1 : (t344 != a1) = true := bne_iff_ne.mpr c51
                    have H' := Aside0.mk H
                    clear H
                    go_wp2
                    repeat (go_quiet (fail); try go_wp2)
                    go_meet
                    case rel => exact ⟨_, (true), (by first | rfl | (simp; done) | (simp [*]; done)), H', ⟨by have := HK1.out; have := HK2.out; first | omega | exact Nat.le_refl _⟩, ⟨by repeat (first | (with_reducible first | exact HB.out | apply below_alloc | apply pw_below_drewN | apply below_drew1) | exact HB.out)⟩⟩
                · rw [if_neg c50] at H
                  have c50b0 : (t345 == 0) = false := beq_eq_false_iff_ne.mpr c50
                  have c50b1 : (t345 != 0) = true := bne_iff_ne.mpr c50
                  (first | rw [c50b0] | (simp only [i64_w, i32_w]; rw [c50b0]) | skip)
                  have H' := Aside0.mk H
                  clear H
                  go_wp2
                  repeat (go_quiet (fail); try go_wp2)
                  go_meet
                  case rel => exact ⟨_, (true), (by first | rfl | (simp; done) | (simp [*]; done)), H', ⟨by have := HK1.out; have := HK2.out; first | omega | exact Nat.le_refl _⟩, ⟨by repeat (first | (with_reducible first | exact HB.out | apply below_alloc | apply pw_below_drewN | apply below_drew1) | exact HB.out)⟩⟩
              case rest =>
                clear HC47
                try clear c1
                try clear c2
                try clear p2
                try clear hcv2
                try clear c3
                try clear c3b0
                try clear p3
                try clear q3
                try clear hx3
                try clear hcv3
                try clear c4
                try clear c4b0
                try clear hcv4
                try clear c5
                try clear c5b0
                try clear p6
                try clear c7
                try clear c7b0
                try clear c8
                try clear c9
                try clear c17
                try clear c17b0
                try clear c18
                try clear c18b0
                try clear c19
                try clear c19b0
                try clear c21
                try clear c21b0
                try clear c21b1
                try clear c22
                try clear c22b0
                try clear c22b1
                try clear c23
                try clear c23b0
                try clear hcv26
                try clear hcv27
                try clear c28
                try clear c28b0
                try clear hcv31
                try clear c32
                try clear p32
                try clear q32
                try clear hx32
                try clear hcv32
                try clear c33
                try clear c33b0
                try clear c33b1
                try clear p33
                try clear q33
                try clear hx33
                try clear c34
                try clear c34b0
                try clear c34b1
                try clear hcv37
                try clear hcv38
                try clear c39
                try clear q39
                try clear hcv42
                try clear hcv43
                try clear c50
                try clear c50b0
                try clear c50b1
                try clear c51
                try clear c51b0
                try clear c51b1
                try clear hx325_0
                try clear hx333_0
                try clear p2
                try clear p3
                try clear p325
                try clear p333
                try clear p6
                try clear q039
                try clear q3
                try clear q325
                try clear q333
                try clear q39
                obtain ⟨kq, x94_46, rfl, HA, HJ46, HB⟩ := hcut
                cases kq with
                | zero => exact absurd HA.out (by simp [halyardlaw7_KeyRows.j3])
                | succ kj46 =>
                  have H := HA.out
                  clear HA
                  simp only [halyardlaw7_KeyRows.j3] at H
                  by_cases c52 : x94_46 = true
                  · subst c52
                    have H1 : (some false) = some r := by rw [if_pos rfl] at H; exact H
                    clear H
                    have H := H1
                    clear H1
                    obtain rfl := Option.some.inj H
                    go_wp2
                    repeat (go_quiet (fail); try go_wp2)
                    go_ret
                    exact ⟨by first | rfl | (simp [errW_none, errW_some] <;> rfl) | (simp [*, errW_none, errW_some] <;> rfl), by repeat (first | (with_reducible first | exact HB.out | apply below_alloc | apply pw_below_drewN | apply below_drew1) | exact HB.out)⟩
                  · replace c52 := Bool.eq_false_iff.mpr c52
                    subst c52
                    have H1 : (halyardlaw7_KeyRows.l2 kj46 l0 l0 (l0.length : Int) 0) = some r := by rw [if_neg (show ¬ (false = true) by decide)] at H; exact H
                    clear H
                    have H := H1
                    clear H1
                    have H' := Aside0.mk H
                    clear H
                    go_wp2
                    repeat (go_quiet (fail); try go_wp2)
                    go_loopg [97] kj46 (fun kq v97 w' => ∃ (x97_4 : Int), v97 = .int .i64 x97_4 ∧ Aside0 (halyardlaw7_KeyRows.l2 kq l0 l0 (l0.length : Int) x97_4 = some r) ∧ Aside0 (kq ≤ kj46) ∧ Aside0 (Below w.heap.size w w'))
                    case atStart => exact ⟨(0), (by first | rfl | (simp; done) | (simp [*]; done)), H', ⟨Nat.le_refl _⟩, ⟨by repeat (first | (with_reducible first | exact HB.out | apply below_alloc | apply pw_below_drewN | apply below_drew1) | exact HB.out)⟩⟩
                    case round =>
                      clear H'
                      try clear c1
                      try clear c2
                      try clear p2
                      try clear hcv2
                      try clear c3
                      try clear c3b0
                      try clear p3
                      try clear q3
                      try clear hx3
                      try clear hcv3
                      try clear c4
                      try clear c4b0
                      try clear hcv4
                      try clear c5
                      try clear c5b0
                      try clear p6
                      try clear c7
                      try clear c7b0
                      try clear c8
                      try clear c9
                      try clear c17
                      try clear c17b0
                      try clear c18
                      try clear c18b0
                      try clear c19
                      try clear c19b0
                      try clear c21
                      try clear c21b0
                      try clear c21b1
                      try clear c22
                      try clear c22b0
                      try clear c22b1
                      try clear c23
                      try clear c23b0
                      try clear hcv26
                      try clear hcv27
                      try clear c28
                      try clear c28b0
                      try clear hcv31
                      try clear c32
                      try clear p32
                      try clear q32
                      try clear hx32
                      try clear hcv32
                      try clear c33
                      try clear c33b0
                      try clear c33b1
                      try clear p33
                      try clear q33
                      try clear hx33
                      try clear c34
                      try clear c34b0
                      try clear c34b1
                      try clear hcv37
                      try clear hcv38
                      try clear c39
                      try clear q39
                      try clear hcv42
                      try clear hcv43
                      try clear c50
                      try clear c50b0
                      try clear c50b1
                      try clear c51
                      try clear c51b0
                      try clear c51b1
                      try clear c52
                      try clear hx325_0
                      try clear hx333_0
                      try clear p2
                      try clear p3
                      try clear p32
                      try clear p325
                      try clear p33
                      try clear p333
                      try clear p6
                      try clear q039
                      try clear q3
                      try clear q32
                      try clear q325
                      try clear q33
                      try clear q333
                      try clear q39
                      obtain ⟨x97_4, rfl, HA, HK4, HB⟩ := hrel
                      cases gk with
                      | zero => exact absurd HA.out (by simp [halyardlaw7_KeyRows.l2])
                      | succ k4 =>
                        have H := HA.out
                        clear HA
                        simp only [halyardlaw7_KeyRows.l2] at H
                        by_cases c53 : x97_4 < (l0.length : Int)
                        · rw [if_pos c53] at H
                          have c53b0 : decide (x97_4 < (l0.length : Int)) = true := decide_eq_true c53
                          clear c53
                          by_cases c54 : 0 ≤ x97_4
                          · rw [if_pos c54] at H
                            have c54b0 : decide (0 ≤ x97_4) = true := decide_eq_true c54
                            clear c54
                            by_cases c55 : x97_4 < (l0.length : Int)
                            · rw [if_pos c55] at H
                              have c55b0 : decide (x97_4 < (l0.length : Int)) = true := decide_eq_true c55
                              clear c55
                              have H' := Aside0.mk H
                              clear H
                              have p347 : 0 ≤ (x97_4 : Int) := of_decide_eq_true (by first | (with_reducible assumption) | assumption)
                              have q347 : x97_4 < (l0.length : Int) := of_decide_eq_true (by first | (with_reducible assumption) | assumption)
                              obtain ⟨ad347, A347_0, c347_0, e347, hx347_0, hl347_0, hi347_0⟩ := at_L1 HR0.out x97_4 p347 q347
                              cases e347
                              replace hx347_0 := (HB.out.cell (World.block_lt_of_cell? w _ hx347_0)).trans hx347_0
                              have HR347_0 := Aside0.mk hi347_0
                              have HC347_0 := Aside0.mk hl347_0
                              clear hi347_0 hl347_0
                              replace p347 := eq_true p347
                              replace q347 := eq_true q347
                              go_wp2
                              repeat (go_quiet (fail); try go_wp2)
                              go_loopg [104] k4 (fun kq v104 w' => ∃ (x104_5 : Int), v104 = .int .i64 x104_5 ∧ Aside0 (halyardlaw7_KeyRows.l3 kq l0 x97_4 (rd_L1 l0 x97_4) l0 (l0.length : Int) x97_4 l0 (l0.length : Int) x104_5 = some r) ∧ Aside0 (kq ≤ k4) ∧ Aside0 (Below w.heap.size w w'))
                              case atStart => exact ⟨(0), (by first | rfl | (simp; done) | (simp [*]; done)), H', ⟨Nat.le_refl _⟩, ⟨by repeat (first | (with_reducible first | exact HB.out | apply below_alloc | apply pw_below_drewN | apply below_drew1) | exact HB.out)⟩⟩
                              case round =>
                                clear H'
                                try clear c1
                                try clear c2
                                try clear p2
                                try clear hcv2
                                try clear c3
                                try clear c3b0
                                try clear p3
                                try clear q3
                                try clear hx3
                                try clear hcv3
                                try clear c4
                                try clear c4b0
                                try clear hcv4
                                try clear c5
                                try clear c5b0
                                try clear p6
                                try clear c7
                                try clear c7b0
                                try clear c8
                                try clear c9
                                try clear c17
                                try clear c17b0
                                try clear c18
                                try clear c18b0
                                try clear c19
                                try clear c19b0
                                try clear c21
                                try clear c21b0
                                try clear c21b1
                                try clear c22
                                try clear c22b0
                                try clear c22b1
                                try clear c23
                                try clear c23b0
                                try clear hcv26
                                try clear hcv27
                                try clear c28
                                try clear c28b0
                                try clear hcv31
                                try clear c32
                                try clear p32
                                try clear q32
                                try clear hx32
                                try clear hcv32
                                try clear c33
                                try clear c33b0
                                try clear c33b1
                                try clear p33
                                try clear q33
                                try clear hx33
                                try clear c34
                                try clear c34b0
                                try clear c34b1
                                try clear p34
                                try clear q34
                                try clear hx34
                                try clear hcv37
                                try clear hcv38
                                try clear c39
                                try clear q39
                                try clear hcv42
                                try clear hcv43
                                try clear c50
                                try clear c50b0
                                try clear c50b1
                                try clear c51
                                try clear c51b0
                                try clear c51b1
                                try clear c52
                                try clear c53
                                try clear c53b0
                                try clear c54
                                try clear c54b0
                                try clear c55
                                try clear c55b0
                                try clear hx325_0
                                try clear hx333_0
                                try clear hx347_0
                                try clear p2
                                try clear p3
                                try clear p32
                                try clear p325
                                try clear p33
                                try clear p333
                                try clear p347
                                try clear p6
                                try clear q039
                                try clear q3
                                try clear q32
                                try clear q325
                                try clear q33
                                try clear q333
                                try clear q347
                                try clear q39
                                obtain ⟨x104_5, rfl, HA, HK5, HB⟩ := hrel
                                cases gk with
                                | zero => exact absurd HA.out (by simp [halyardlaw7_KeyRows.l3])
                                | succ k5 =>
                                  have H := HA.out
                                  clear HA
                                  simp only [halyardlaw7_KeyRows.l3] at H
                                  by_cases c56 : x104_5 < (l0.length : Int)
                                  · rw [if_pos c56] at H
                                    have c56b0 : decide (x104_5 < (l0.length : Int)) = true := decide_eq_true c56
                                    clear c56
                                    by_cases c57 : 0 ≤ x104_5
                                    · rw [if_pos c57] at H
                                      have c57b0 : decide (0 ≤ x104_5) = true := decide_eq_true c57
                                      clear c57
                                      by_cases c58 : x104_5 < (l0.length : Int)
                                      · rw [if_pos c58] at H
                                        have c58b0 : decide (x104_5 < (l0.length : Int)) = true := decide_eq_true c58
                                        clear c58
                                        replace H := Option.bind_eq_some_iff.mp H
                                        obtain ⟨t349, A590, H⟩ := H
                                        replace H : ((key_Bytes.f k5 ([] : List Int) (rd_L1 l0 x104_5)).bind fun t352 => (if x97_4 = x104_5 then (halyardlaw7_KeyRows.l3 k5 l0 x97_4 (rd_L1 l0 x97_4) l0 (l0.length : Int) x97_4 l0 (l0.length : Int) (wrap64 (x104_5 + 1))) else (if (strOfNums (rd_L1 l0 x97_4)).toList = (strOfNums (rd_L1 l0 x104_5)).toList then (halyardlaw7_KeyRows.l3 k5 l0 x97_4 (rd_L1 l0 x97_4) l0 (l0.length : Int) x97_4 l0 (l0.length : Int) (wrap64 (x104_5 + 1))) else (if (t349.length : Int) ≤ (t352.length : Int) then (if 0 ≤ (t349.length : Int) then (if (strOfNums (t352.take ((t349.length : Int) : Int).toNat)).toList = (strOfNums t349).toList then (some false) else (halyardlaw7_KeyRows.l3 k5 l0 x97_4 (rd_L1 l0 x97_4) l0 (l0.length : Int) x97_4 l0 (l0.length : Int) (wrap64 (x104_5 + 1)))) else (none)) else (halyardlaw7_KeyRows.l3 k5 l0 x97_4 (rd_L1 l0 x97_4) l0 (l0.length : Int) x97_4 l0 (l0.length : Int) (wrap64 (x104_5 + 1))))))) = some r := H
                                        have A59 := Aside0.mk A590
                                        clear A590
                                        replace H := Option.bind_eq_some_iff.mp H
                                        obtain ⟨t352, A600, H⟩ := H
                                        replace H : (if x97_4 = x104_5 then (halyardlaw7_KeyRows.l3 k5 l0 x97_4 (rd_L1 l0 x97_4) l0 (l0.length : Int) x97_4 l0 (l0.length : Int) (wrap64 (x104_5 + 1))) else (if (strOfNums (rd_L1 l0 x97_4)).toList = (strOfNums (rd_L1 l0 x104_5)).toList then (halyardlaw7_KeyRows.l3 k5 l0 x97_4 (rd_L1 l0 x97_4) l0 (l0.length : Int) x97_4 l0 (l0.length : Int) (wrap64 (x104_5 + 1))) else (if (t349.length : Int) ≤ (t352.length : Int) then (if 0 ≤ (t349.length : Int) then (if (strOfNums (t352.take ((t349.length : Int) : Int).toNat)).toList = (strOfNums t349).toList then (some false) else (halyardlaw7_KeyRows.l3 k5 l0 x97_4 (rd_L1 l0 x97_4) l0 (l0.length : Int) x97_4 l0 (l0.length : Int) (wrap64 (x104_5 + 1)))) else (none)) else (halyardlaw7_KeyRows.l3 k5 l0 x97_4 (rd_L1 l0 x97_4) l0 (l0.length : Int) x97_4 l0 (l0.length : Int) (wrap64 (x104_5 + 1)))))) = some r := H
                                        have A60 := Aside0.mk A600
                                        clear A600
                                        by_cases c61 : x97_4 = x104_5
                                        · rw [if_pos c61] at H
                                          have c61b0 : (x97_4 == x104_5) = true := beq_iff_eq.mpr c61
                                          have c61b1 : (x97_4 != x104_5) = false := bne_eq_false_iff_eq.mpr c61
                                          clear c61
                                          have H' := Aside0.mk H
                                          clear H
                                          have p348 : 0 ≤ (x104_5 : Int) := of_decide_eq_true (by first | (with_reducible assumption) | assumption)
                                          have q348 : x104_5 < (l0.length : Int) := of_decide_eq_true (by first | (with_reducible assumption) | assumption)
                                          obtain ⟨ad348, A348_0, c348_0, e348, hx348_0, hl348_0, hi348_0⟩ := at_L1 HR0.out x104_5 p348 q348
                                          obtain rfl : ad347 = ad348 := (by injection e348)
                                          replace hx348_0 := (HB.out.cell (World.block_lt_of_cell? w _ hx348_0)).trans hx348_0
                                          have HR348_0 := Aside0.mk hi348_0
                                          have HC348_0 := Aside0.mk hl348_0
                                          clear hi348_0 hl348_0
                                          replace p348 := eq_true p348
                                          replace q348 := eq_true q348
                                          generalize rd_L1 l0 x97_4 = px97_4 at *
                                          generalize rd_L1 l0 x104_5 = px104_5 at *
                                          go_wp2_with (first | (go_at_call 12; (with_reducible refine (key_Bytes.calls_nil k5 _ _ px97_4 t349 _ ?side3 ?side4 A59.out).mono ?_); (case side3 => repeat (first | exact (Kd.C_below HR347_0.out HB.out) | (with_reducible refine Kd.C_alloc ?_ _) | (with_reducible refine Kd.C_drewN ?_ _) | (with_reducible refine Kd.C_drew ?_))); (case side4 => exact HC347_0.out); rintro e w62 ⟨v350, rfl, ho0, hb⟩; have n0_ := Aside0.mk (Kd.R_lower ho0 (below_size (by repeat (first | (with_reducible first | exact HB.out | apply below_alloc | apply pw_below_drewN | apply below_drew1) | exact HB.out)))); have n1_ := Aside0.mk (below_step (by repeat (first | (with_reducible first | exact HB.out | apply below_alloc | apply pw_below_drewN | apply below_drew1) | exact HB.out)) hb); clear HB; have HO351 := n0_; have HB := n1_; clear n0_ n1_; (try clear hb); (try clear hb2); (try clear hk); (try clear hi); (try clear ho0)) | (go_at_call 12; (with_reducible refine (key_Bytes.calls_nil k5 _ _ px104_5 t352 _ ?side3 ?side4 A60.out).mono ?_); (case side3 => repeat (first | exact (Kd.C_below HR348_0.out HB.out) | (with_reducible refine Kd.C_alloc ?_ _) | (with_reducible refine Kd.C_drewN ?_ _) | (with_reducible refine Kd.C_drew ?_))); (case side4 => exact HC348_0.out); rintro e w63 ⟨v353, rfl, ho0, hb⟩; have n0_ := Aside0.mk (Kd.R_elder' (by (with_reducible repeat (first | apply Kd.R_alloc | apply Kd.R_drewN | apply Kd.R_drew)); exact HO351.out) (Kd.R_base ho0) hb); have n1_ := Aside0.mk (Kd.R_lower (Kd.R_new' ho0 (Kd.R_lt (by (with_reducible repeat (first | apply Kd.R_alloc | apply Kd.R_drewN | apply Kd.R_drew)); exact HO351.out))) (below_size (by repeat (first | (with_reducible first | exact HB.out | apply below_alloc | apply pw_below_drewN | apply below_drew1) | exact HB.out)))); have n2_ := Aside0.mk (below_step (by repeat (first | (with_reducible first | exact HB.out | apply below_alloc | apply pw_below_drewN | apply below_drew1) | exact HB.out)) hb); clear HO351; clear HB; have HO351 := n0_; have HO354 := n1_; have HB := n2_; clear n0_ n1_ n2_; (try clear hb); (try clear hb2); (try clear hk); (try clear hi); (try clear ho0)))
                                          repeat (go_quiet (first | (go_at_call 12; (with_reducible refine (key_Bytes.calls_nil k5 _ _ px97_4 t349 _ ?side3 ?side4 A59.out).mono ?_); (case side3 => repeat (first | exact (Kd.C_below HR347_0.out HB.out) | (with_reducible refine Kd.C_alloc ?_ _) | (with_reducible refine Kd.C_drewN ?_ _) | (with_reducible refine Kd.C_drew ?_))); (case side4 => exact HC347_0.out); rintro e w62 ⟨v350, rfl, ho0, hb⟩; have n0_ := Aside0.mk (Kd.R_lower ho0 (below_size (by repeat (first | (with_reducible first | exact HB.out | apply below_alloc | apply pw_below_drewN | apply below_drew1) | exact HB.out)))); have n1_ := Aside0.mk (below_step (by repeat (first | (with_reducible first | exact HB.out | apply below_alloc | apply pw_below_drewN | apply below_drew1) | exact HB.out)) hb); clear HB; have HO351 := n0_; have HB := n1_; clear n0_ n1_; (try clear hb); (try clear hb2); (try clear hk); (try clear hi); (try clear ho0)) | (go_at_call 12; (with_reducible refine (key_Bytes.calls_nil k5 _ _ px104_5 t352 _ ?side3 ?side4 A60.out).mono ?_); (case side3 => repeat (first | exact (Kd.C_below HR348_0.out HB.out) | (with_reducible refine Kd.C_alloc ?_ _) | (with_reducible refine Kd.C_drewN ?_ _) | (with_reducible refine Kd.C_drew ?_))); (case side4 => exact HC348_0.out); rintro e w63 ⟨v353, rfl, ho0, hb⟩; have n0_ := Aside0.mk (Kd.R_elder' (by (with_reducible repeat (first | apply Kd.R_alloc | apply Kd.R_drewN | apply Kd.R_drew)); exact HO351.out) (Kd.R_base ho0) hb); have n1_ := Aside0.mk (Kd.R_lower (Kd.R_new' ho0 (Kd.R_lt (by (with_reducible repeat (first | apply Kd.R_alloc | apply Kd.R_drewN | apply Kd.R_drew)); exact HO351.out))) (below_size (by repeat (first | (with_reducible first | exact HB.out | apply below_alloc | apply pw_below_drewN | apply below_drew1) | exact HB.out)))); have n2_ := Aside0.mk (below_step (by repeat (first | (with_reducible first | exact HB.out | apply below_alloc | apply pw_below_drewN | apply below_drew1) | exact HB.out)) hb); clear HO351; clear HB; have HO351 := n0_; have HO354 := n1_; have HB := n2_; clear n0_ n1_ n2_; (try clear hb); (try clear hb2); (try clear hk); (try clear hi); (try clear ho0))); try go_wp2_with (first | (go_at_call 12; (with_reducible refine (key_Bytes.calls_nil k5 _ _ px97_4 t349 _ ?side3 ?side4 A59.out).mono ?_); (case side3 => repeat (first | exact (Kd.C_below HR347_0.out HB.out) | (with_reducible refine Kd.C_alloc ?_ _) | (with_reducible refine Kd.C_drewN ?_ _) | (with_reducible refine Kd.C_drew ?_))); (case side4 => exact HC347_0.out); rintro e w62 ⟨v350, rfl, ho0, hb⟩; have n0_ := Aside0.mk (Kd.R_lower ho0 (below_size (by repeat (first | (with_reducible first | exact HB.out | apply below_alloc | apply pw_below_drewN | apply below_drew1) | exact HB.out)))); have n1_ := Aside0.mk (below_step (by repeat (first | (with_reducible first | exact HB.out | apply below_alloc | apply pw_below_drewN | apply below_drew1) | exact HB.out)) hb); clear HB; have HO351 := n0_; have HB := n1_; clear n0_ n1_; (try clear hb); (try clear hb2); (try clear hk); (try clear hi); (try clear ho0)) | (go_at_call 12; (with_reducible refine (key_Bytes.calls_nil k5 _ _ px104_5 t352 _ ?side3 ?side4 A60.out).mono ?_); (case side3 => repeat (first | exact (Kd.C_below HR348_0.out HB.out) | (with_reducible refine Kd.C_alloc ?_ _) | (with_reducible refine Kd.C_drewN ?_ _) | (with_reducible refine Kd.C_drew ?_))); (case side4 => exact HC348_0.out); rintro e w63 ⟨v353, rfl, ho0, hb⟩; have n0_ := Aside0.mk (Kd.R_elder' (by (with_reducible repeat (first | apply Kd.R_alloc | apply Kd.R_drewN | apply Kd.R_drew)); exact HO351.out) (Kd.R_base ho0) hb); have n1_ := Aside0.mk (Kd.R_lower (Kd.R_new' ho0 (Kd.R_lt (by (with_reducible repeat (first | apply Kd.R_alloc | apply Kd.R_drewN | apply Kd.R_drew)); exact HO351.out))) (below_size (by repeat (first | (with_reducible first | exact HB.out | apply below_alloc | apply pw_below_drewN | apply below_drew1) | exact HB.out)))); have n2_ := Aside0.mk (below_step (by repeat (first | (with_reducible first | exact HB.out | apply below_alloc | apply pw_below_drewN | apply below_drew1) | exact HB.out)) hb); clear HO351; clear HB; have HO351 := n0_; have HO354 := n1_; have HB := n2_; clear n0_ n1_ n2_; (try clear hb); (try clear hb2); (try clear hk); (try clear hi); (try clear ho0))))
                                          go_roundg k5
                                          case measure => have := HK1.out; have := HK2.out; have := HJ46.out; have := HK4.out; have := HK5.out; omega
                                          case rel => exact ⟨(wrap64 (x104_5 + 1)), (by first | rfl | (simp; done) | (simp [*]; done)), H', ⟨by have := HK1.out; have := HK2.out; have := HJ46.out; have := HK4.out; have := HK5.out; omega⟩, ⟨by repeat (first | (with_reducible first | exact HB.out | apply below_alloc | apply pw_below_drewN | apply below_drew1) | exact HB.out)⟩⟩
                                        · rw [if_neg c61] at H
                                          have c61b0 : (x97_4 == x104_5) = false := beq_eq_false_iff_ne.mpr c61
                                          have c61b1 : (x97_4 != x104_5) = true := bne_iff_ne.mpr c61
                                          by_cases c64 : (strOfNums (rd_L1 l0 x97_4)).toList = (strOfNums (rd_L1 l0 x104_5)).toList
                                          · rw [if_pos c64] at H
                                            have c64b0 : ((strOfNums (rd_L1 l0 x97_4)).toList == (strOfNums (rd_L1 l0 x104_5)).toList) = true := beq_iff_eq.mpr c64
                                            have c64b1 : ((strOfNums (rd_L1 l0 x97_4)).toList != (strOfNums (rd_L1 l0 x104_5)).toList) = false := bne_eq_false_iff_eq.mpr c64
                                            clear c64
                                            have H' := Aside0.mk H
                                            clear H
                                            have p348 : 0 ≤ (x104_5 : Int) := of_decide_eq_true (by first | (with_reducible assumption) | assumption)
                                            have q348 : x104_5 < (l0.length : Int) := of_decide_eq_true (by first | (with_reducible assumption) | assumption)
                                            obtain ⟨ad348, A348_0, c348_0, e348, hx348_0, hl348_0, hi348_0⟩ := at_L1 HR0.out x104_5 p348 q348
                                            obtain rfl : ad347 = ad348 := (by injection e348)
                                            replace hx348_0 := (HB.out.cell (World.block_lt_of_cell? w _ hx348_0)).trans hx348_0
                                            have HR348_0 := Aside0.mk hi348_0
                                            have HC348_0 := Aside0.mk hl348_0
                                            clear hi348_0 hl348_0
                                            replace p348 := eq_true p348
                                            replace q348 := eq_true q348
                                            generalize rd_L1 l0 x97_4 = px97_4 at *
                                            generalize rd_L1 l0 x104_5 = px104_5 at *
                                            go_wp2_with (first | (go_at_call 12; (with_reducible refine (key_Bytes.calls_nil k5 _ _ px97_4 t349 _ ?side3 ?side4 A59.out).mono ?_); (case side3 => repeat (first | exact (Kd.C_below HR347_0.out HB.out) | (with_reducible refine Kd.C_alloc ?_ _) | (with_reducible refine Kd.C_drewN ?_ _) | (with_reducible refine Kd.C_drew ?_))); (case side4 => exact HC347_0.out); rintro e w65 ⟨v350, rfl, ho0, hb⟩; have n0_ := Aside0.mk (Kd.R_lower ho0 (below_size (by repeat (first | (with_reducible first | exact HB.out | apply below_alloc | apply pw_below_drewN | apply below_drew1) | exact HB.out)))); have n1_ := Aside0.mk (below_step (by repeat (first | (with_reducible first | exact HB.out | apply below_alloc | apply pw_below_drewN | apply below_drew1) | exact HB.out)) hb); clear HB; have HO351 := n0_; have HB := n1_; clear n0_ n1_; (try clear hb); (try clear hb2); (try clear hk); (try clear hi); (try clear ho0)) | (go_at_call 12; (with_reducible refine (key_Bytes.calls_nil k5 _ _ px104_5 t352 _ ?side3 ?side4 A60.out).mono ?_); (case side3 => repeat (first | exact (Kd.C_below HR348_0.out HB.out) | (with_reducible refine Kd.C_alloc ?_ _) | (with_reducible refine Kd.C_drewN ?_ _) | (with_reducible refine Kd.C_drew ?_))); (case side4 => exact HC348_0.out); rintro e w66 ⟨v353, rfl, ho0, hb⟩; have n0_ := Aside0.mk (Kd.R_elder' (by (with_reducible repeat (first | apply Kd.R_alloc | apply Kd.R_drewN | apply Kd.R_drew)); exact HO351.out) (Kd.R_base ho0) hb); have n1_ := Aside0.mk (Kd.R_lower (Kd.R_new' ho0 (Kd.R_lt (by (with_reducible repeat (first | apply Kd.R_alloc | apply Kd.R_drewN | apply Kd.R_drew)); exact HO351.out))) (below_size (by repeat (first | (with_reducible first | exact HB.out | apply below_alloc | apply pw_below_drewN | apply below_drew1) | exact HB.out)))); have n2_ := Aside0.mk (below_step (by repeat (first | (with_reducible first | exact HB.out | apply below_alloc | apply pw_below_drewN | apply below_drew1) | exact HB.out)) hb); clear HO351; clear HB; have HO351 := n0_; have HO354 := n1_; have HB := n2_; clear n0_ n1_ n2_; (try clear hb); (try clear hb2); (try clear hk); (try clear hi); (try clear ho0); have hcv67 := Kd.C_string (P := Try.prog) (A := A347_0) (c := c347_0) Try.underlying23 Try.underlying5 Try.underlying9 (Kd.C_below HR347_0.out HB.out); have hcv67d := fun n_ : Nat => Kd.C_string (P := Try.prog) (A := A347_0) (c := c347_0) Try.underlying23 Try.underlying5 Try.underlying9 (Kd.C_drewN ((Kd.C_below HR347_0.out HB.out)) n_); have hcv68 := Kd.C_string (P := Try.prog) (A := A348_0) (c := c348_0) Try.underlying23 Try.underlying5 Try.underlying9 (Kd.C_below HR348_0.out HB.out); have hcv68d := fun n_ : Nat => Kd.C_string (P := Try.prog) (A := A348_0) (c := c348_0) Try.underlying23 Try.underlying5 Try.underlying9 (Kd.C_drewN ((Kd.C_below HR348_0.out HB.out)) n_)))
                                            repeat (go_quiet (first | (go_at_call 12; (with_reducible refine (key_Bytes.calls_nil k5 _ _ px97_4 t349 _ ?side3 ?side4 A59.out).mono ?_); (case side3 => repeat (first | exact (Kd.C_below HR347_0.out HB.out) | (with_reducible refine Kd.C_alloc ?_ _) | (with_reducible refine Kd.C_drewN ?_ _) | (with_reducible refine Kd.C_drew ?_))); (case side4 => exact HC347_0.out); rintro e w65 ⟨v350, rfl, ho0, hb⟩; have n0_ := Aside0.mk (Kd.R_lower ho0 (below_size (by repeat (first | (with_reducible first | exact HB.out | apply below_alloc | apply pw_below_drewN | apply below_drew1) | exact HB.out)))); have n1_ := Aside0.mk (below_step (by repeat (first | (with_reducible first | exact HB.out | apply below_alloc | apply pw_below_drewN | apply below_drew1) | exact HB.out)) hb); clear HB; have HO351 := n0_; have HB := n1_; clear n0_ n1_; (try clear hb); (try clear hb2); (try clear hk); (try clear hi); (try clear ho0)) | (go_at_call 12; (with_reducible refine (key_Bytes.calls_nil k5 _ _ px104_5 t352 _ ?side3 ?side4 A60.out).mono ?_); (case side3 => repeat (first | exact (Kd.C_below HR348_0.out HB.out) | (with_reducible refine Kd.C_alloc ?_ _) | (with_reducible refine Kd.C_drewN ?_ _) | (with_reducible refine Kd.C_drew ?_))); (case side4 => exact HC348_0.out); rintro e w66 ⟨v353, rfl, ho0, hb⟩; have n0_ := Aside0.mk (Kd.R_elder' (by (with_reducible repeat (first | apply Kd.R_alloc | apply Kd.R_drewN | apply Kd.R_drew)); exact HO351.out) (Kd.R_base ho0) hb); have n1_ := Aside0.mk (Kd.R_lower (Kd.R_new' ho0 (Kd.R_lt (by (with_reducible repeat (first | apply Kd.R_alloc | apply Kd.R_drewN | apply Kd.R_drew)); exact HO351.out))) (below_size (by repeat (first | (with_reducible first | exact HB.out | apply below_alloc | apply pw_below_drewN | apply below_drew1) | exact HB.out)))); have n2_ := Aside0.mk (below_step (by repeat (first | (with_reducible first | exact HB.out | apply below_alloc | apply pw_below_drewN | apply below_drew1) | exact HB.out)) hb); clear HO351; clear HB; have HO351 := n0_; have HO354 := n1_; have HB := n2_; clear n0_ n1_ n2_; (try clear hb); (try clear hb2); (try clear hk); (try clear hi); (try clear ho0); have hcv67 := Kd.C_string (P := Try.prog) (A := A347_0) (c := c347_0) Try.underlying23 Try.underlying5 Try.underlying9 (Kd.C_below HR347_0.out HB.out); have hcv67d := fun n_ : Nat => Kd.C_string (P := Try.prog) (A := A347_0) (c := c347_0) Try.underlying23 Try.underlying5 Try.underlying9 (Kd.C_drewN ((Kd.C_below HR347_0.out HB.out)) n_); have hcv68 := Kd.C_string (P := Try.prog) (A := A348_0) (c := c348_0) Try.underlying23 Try.underlying5 Try.underlying9 (Kd.C_below HR348_0.out HB.out); have hcv68d := fun n_ : Nat => Kd.C_string (P := Try.prog) (A := A348_0) (c := c348_0) Try.underlying23 Try.underlying5 Try.underlying9 (Kd.C_drewN ((Kd.C_below HR348_0.out HB.out)) n_))); try go_wp2_with (first | (go_at_call 12; (with_reducible refine (key_Bytes.calls_nil k5 _ _ px97_4 t349 _ ?side3 ?side4 A59.out).mono ?_); (case side3 => repeat (first | exact (Kd.C_below HR347_0.out HB.out) | (with_reducible refine Kd.C_alloc ?_ _) | (with_reducible refine Kd.C_drewN ?_ _) | (with_reducible refine Kd.C_drew ?_))); (case side4 => exact HC347_0.out); rintro e w65 ⟨v350, rfl, ho0, hb⟩; have n0_ := Aside0.mk (Kd.R_lower ho0 (below_size (by repeat (first | (with_reducible first | exact HB.out | apply below_alloc | apply pw_below_drewN | apply below_drew1) | exact HB.out)))); have n1_ := Aside0.mk (below_step (by repeat (first | (with_reducible first | exact HB.out | apply below_alloc | apply pw_below_drewN | apply below_drew1) | exact HB.out)) hb); clear HB; have HO351 := n0_; have HB := n1_; clear n0_ n1_; (try clear hb); (try clear hb2); (try clear hk); (try clear hi); (try clear ho0)) | (go_at_call 12; (with_reducible refine (key_Bytes.calls_nil k5 _ _ px104_5 t352 _ ?side3 ?side4 A60.out).mono ?_); (case side3 => repeat (first | exact (Kd.C_below HR348_0.out HB.out) | (with_reducible refine Kd.C_alloc ?_ _) | (with_reducible refine Kd.C_drewN ?_ _) | (with_reducible refine Kd.C_drew ?_))); (case side4 => exact HC348_0.out); rintro e w66 ⟨v353, rfl, ho0, hb⟩; have n0_ := Aside0.mk (Kd.R_elder' (by (with_reducible repeat (first | apply Kd.R_alloc | apply Kd.R_drewN | apply Kd.R_drew)); exact HO351.out) (Kd.R_base ho0) hb); have n1_ := Aside0.mk (Kd.R_lower (Kd.R_new' ho0 (Kd.R_lt (by (with_reducible repeat (first | apply Kd.R_alloc | apply Kd.R_drewN | apply Kd.R_drew)); exact HO351.out))) (below_size (by repeat (first | (with_reducible first | exact HB.out | apply below_alloc | apply pw_below_drewN | apply below_drew1) | exact HB.out)))); have n2_ := Aside0.mk (below_step (by repeat (first | (with_reducible first | exact HB.out | apply below_alloc | apply pw_below_drewN | apply below_drew1) | exact HB.out)) hb); clear HO351; clear HB; have HO351 := n0_; have HO354 := n1_; have HB := n2_; clear n0_ n1_ n2_; (try clear hb); (try clear hb2); (try clear hk); (try clear hi); (try clear ho0); have hcv67 := Kd.C_string (P := Try.prog) (A := A347_0) (c := c347_0) Try.underlying23 Try.underlying5 Try.underlying9 (Kd.C_below HR347_0.out HB.out); have hcv67d := fun n_ : Nat => Kd.C_string (P := Try.prog) (A := A347_0) (c := c347_0) Try.underlying23 Try.underlying5 Try.underlying9 (Kd.C_drewN ((Kd.C_below HR347_0.out HB.out)) n_); have hcv68 := Kd.C_string (P := Try.prog) (A := A348_0) (c := c348_0) Try.underlying23 Try.underlying5 Try.underlying9 (Kd.C_below HR348_0.out HB.out); have hcv68d := fun n_ : Nat => Kd.C_string (P := Try.prog) (A := A348_0) (c := c348_0) Try.underlying23 Try.underlying5 Try.underlying9 (Kd.C_drewN ((Kd.C_below HR348_0.out HB.out)) n_))))
                                            go_roundg k5
                                            case measure => have := HK1.out; have := HK2.out; have := HJ46.out; have := HK4.out; have := HK5.out; omega
                                            case rel => exact ⟨(wrap64 (x104_5 + 1)), (by first | rfl | (simp; done) | (simp [*]; done)), H', ⟨by have := HK1.out; have := HK2.out; have := HJ46.out; have := HK4.out; have := HK5.out; omega⟩, ⟨by repeat (first | (with_reducible first | exact HB.out | apply below_alloc | apply pw_below_drewN | apply below_drew1) | exact HB.out)⟩⟩
                                          · rw [if_neg c64] at H
                                            have c64b0 : ((strOfNums (rd_L1 l0 x97_4)).toList == (strOfNums (rd_L1 l0 x104_5)).toList) = false := beq_eq_false_iff_ne.mpr c64
                                            have c64b1 : ((strOfNums (rd_L1 l0 x97_4)).toList != (strOfNums (rd_L1 l0 x104_5)).toList) = true := bne_iff_ne.mpr c64
                                            by_cases c69 : (t349.length : Int) ≤ (t352.length : Int)
                                            · rw [if_pos c69] at H
                                              have c69b0 : decide ((t349.length : Int) ≤ (t352.length : Int)) = true := decide_eq_true c69
                                              have c69b1 : decide (t349.length ≤ t352.length) = true := decide_eq_true (Int.ofNat_le.mp c69)
                                              clear c69
                                              by_cases c70 : 0 ≤ (t349.length : Int)
                                              · rw [if_pos c70] at H
                                                have c70b0 := eq_true c70
                                                have c70b1 : decide (0 ≤ (t349.length : Int)) = true := decide_eq_true c70
                                                clear c70
                                                have c71b0 := eq_true (of_decide_eq_true (by first | (with_reducible assumption) | assumption) : (t349.length : Int) ≤ (t352.length : Int))
                                                obtain ⟨y355, hy355⟩ : ∃ y_ : List Int, y_ = (t352.take ((t349.length : Int) : Int).toNat) := ⟨_, rfl⟩
                                                replace H : (if (strOfNums y355).toList = (strOfNums t349).toList then (some false) else (halyardlaw7_KeyRows.l3 k5 l0 x97_4 (rd_L1 l0 x97_4) l0 (l0.length : Int) x97_4 l0 (l0.length : Int) (wrap64 (x104_5 + 1)))) = some r := by first | (rw [hy355]; with_reducible exact H) | (have H2_ := (Option.bind_some _ _).symm.trans H; rw [hy355]; with_reducible exact H2_) | (have H2_ := (Option.bind_some _ _).symm.trans H; with_reducible exact H2_) | with_reducible exact H | (rw [hy355]; exact H) | exact H
                                                have Ny355 := Aside0.mk hy355
                                                clear hy355
                                                by_cases c72 : (strOfNums y355).toList = (strOfNums t349).toList
                                                · rw [if_pos c72] at H
                                                  have c72b0 : ((strOfNums y355).toList == (strOfNums t349).toList) = true := beq_iff_eq.mpr c72
                                                  have c72b1 : ((strOfNums y355).toList != (strOfNums t349).toList) = false := bne_eq_false_iff_eq.mpr c72
                                                  clear c72
                                                  obtain rfl := Option.some.inj H
                                                  have p348 : 0 ≤ (x104_5 : Int) := of_decide_eq_true (by first | (with_reducible assumption) | assumption)
                                                  have q348 : x104_5 < (l0.length : Int) := of_decide_eq_true (by first | (with_reducible assumption) | assumption)
                                                  obtain ⟨ad348, A348_0, c348_0, e348, hx348_0, hl348_0, hi348_0⟩ := at_L1 HR0.out x104_5 p348 q348
                                                  obtain rfl : ad347 = ad348 := (by injection e348)
                                                  replace hx348_0 := (HB.out.cell (World.block_lt_of_cell? w _ hx348_0)).trans hx348_0
                                                  have HR348_0 := Aside0.mk hi348_0
                                                  have HC348_0 := Aside0.mk hl348_0
                                                  clear hi348_0 hl348_0
                                                  replace p348 := eq_true p348
                                                  replace q348 := eq_true q348
                                                  generalize rd_L1 l0 x97_4 = px97_4 at *
                                                  generalize rd_L1 l0 x104_5 = px104_5 at *
                                                  go_wp2_with (first | (go_at_call 12; (with_reducible refine (key_Bytes.calls_nil k5 _ _ px97_4 t349 _ ?side3 ?side4 A59.out).mono ?_); (case side3 => repeat (first | exact (Kd.C_below HR347_0.out HB.out) | (with_reducible refine Kd.C_alloc ?_ _) | (with_reducible refine Kd.C_drewN ?_ _) | (with_reducible refine Kd.C_drew ?_))); (case side4 => exact HC347_0.out); rintro e w73 ⟨v350, rfl, ho0, hb⟩; have n0_ := Aside0.mk (Kd.R_lower ho0 (below_size (by repeat (first | (with_reducible first | exact HB.out | apply below_alloc | apply pw_below_drewN | apply below_drew1) | exact HB.out)))); have n1_ := Aside0.mk (below_step (by repeat (first | (with_reducible first | exact HB.out | apply below_alloc | apply pw_below_drewN | apply below_drew1) | exact HB.out)) hb); clear HB; have HO351 := n0_; have HB := n1_; clear n0_ n1_; (try clear hb); (try clear hb2); (try clear hk); (try clear hi); (try clear ho0)) | (go_at_call 12; (with_reducible refine (key_Bytes.calls_nil k5 _ _ px104_5 t352 _ ?side3 ?side4 A60.out).mono ?_); (case side3 => repeat (first | exact (Kd.C_below HR348_0.out HB.out) | (with_reducible refine Kd.C_alloc ?_ _) | (with_reducible refine Kd.C_drewN ?_ _) | (with_reducible refine Kd.C_drew ?_))); (case side4 => exact HC348_0.out); rintro e w74 ⟨v353, rfl, ho0, hb⟩; have n0_ := Aside0.mk (Kd.R_elder' (by (with_reducible repeat (first | apply Kd.R_alloc | apply Kd.R_drewN | apply Kd.R_drew)); exact HO351.out) (Kd.R_base ho0) hb); have n1_ := Aside0.mk (Kd.R_lower (Kd.R_new' ho0 (Kd.R_lt (by (with_reducible repeat (first | apply Kd.R_alloc | apply Kd.R_drewN | apply Kd.R_drew)); exact HO351.out))) (below_size (by repeat (first | (with_reducible first | exact HB.out | apply below_alloc | apply pw_below_drewN | apply below_drew1) | exact HB.out)))); have n2_ := Aside0.mk (below_step (by repeat (first | (with_reducible first | exact HB.out | apply below_alloc | apply pw_below_drewN | apply below_drew1) | exact HB.out)) hb); clear HO351; clear HB; have HO351 := n0_; have HO354 := n1_; have HB := n2_; clear n0_ n1_ n2_; (try clear hb); (try clear hb2); (try clear hk); (try clear hi); (try clear ho0); have hcv75 := Kd.C_string (P := Try.prog) (A := A347_0) (c := c347_0) Try.underlying23 Try.underlying5 Try.underlying9 (Kd.C_below HR347_0.out HB.out); have hcv75d := fun n_ : Nat => Kd.C_string (P := Try.prog) (A := A347_0) (c := c347_0) Try.underlying23 Try.underlying5 Try.underlying9 (Kd.C_drewN ((Kd.C_below HR347_0.out HB.out)) n_); have hcv76 := Kd.C_string (P := Try.prog) (A := A348_0) (c := c348_0) Try.underlying23 Try.underlying5 Try.underlying9 (Kd.C_below HR348_0.out HB.out); have hcv76d := fun n_ : Nat => Kd.C_string (P := Try.prog) (A := A348_0) (c := c348_0) Try.underlying23 Try.underlying5 Try.underlying9 (Kd.C_drewN ((Kd.C_below HR348_0.out HB.out)) n_); obtain ⟨Ao77, co77, eo77⟩ := Kd.R_slice HO351.out; subst eo77; obtain ⟨Ao78, co78, eo78⟩ := Kd.R_slice HO354.out; subst eo78; have q79 : ((t349.length : Int) : Int) ≤ ((t352.length : Int) : Int) := of_decide_eq_true (by first | (with_reducible assumption) | assumption); obtain ⟨i079, hi079, _, hsz79, _⟩ := info_parts info5; have hroom79 : t352.length ≤ co78 := (Kd.R_reads' HO354.out).2.1; have hC79 : Kd.F (Kd.int .u8) _ _ Ao78 t352.length t352 := (Kd.V_at (base := w.heap.size) (Kd.R_V HO354.out)).2.2; have hcut79 := cut_to (P := Try.prog) 23 5 .i64 Try.underlying23 hi079 Ao78 t352.length co78 (t349.length : Int) (of_decide_eq_true (by first | (with_reducible assumption) | assumption)) q79 hroom79; have hr79 := Kd.F_take (m := ((t349.length : Int) : Int).toNat) hC79 (by omega); have hy79 : y355.length = ((t349.length : Int) : Int).toNat := (by rw [Ny355.out, List.length_take]; omega); rw [← Ny355.out] at hr79; rw [← hy79] at hcut79; have HO359 := Aside0.mk (show Kd.V (Kd.int .u8) 5 _ w.heap.size _ (.slice Ao78 y355.length co78) y355 from Kd.V_mk (by omega) hr79); have HC359 := Aside0.mk (show y355.length ≤ co78 from by omega); clear hr79 hC79 hroom79 hi079 hsz79; have KY79 := Aside0.mk hy79; clear hy79; replace q79 := eq_true q79; have hcv80 := Kd.C_string (P := Try.prog) (c := co78) Try.underlying23 Try.underlying5 Try.underlying9 (Kd.V_reads' HO359.out).2.2; have hcv80d := fun n_ : Nat => Kd.C_string (P := Try.prog) (c := co78) Try.underlying23 Try.underlying5 Try.underlying9 (Kd.C_drewN ((Kd.V_reads' HO359.out).2.2) n_); have hcv81 := own_string (P := Try.prog) Try.underlying23 Try.underlying5 Try.underlying9 (Kd.own_of_R HO351.out); have hcv81d := fun n_ : Nat => own_string (P := Try.prog) Try.underlying23 Try.underlying5 Try.underlying9 (pw_own_drewN (Kd.own_of_R HO351.out) n_)))
                                                  repeat (go_quiet (first | (go_at_call 12; (with_reducible refine (key_Bytes.calls_nil k5 _ _ px97_4 t349 _ ?side3 ?side4 A59.out).mono ?_); (case side3 => repeat (first | exact (Kd.C_below HR347_0.out HB.out) | (with_reducible refine Kd.C_alloc ?_ _) | (with_reducible refine Kd.C_drewN ?_ _) | (with_reducible refine Kd.C_drew ?_))); (case side4 => exact HC347_0.out); rintro e w73 ⟨v350, rfl, ho0, hb⟩; have n0_ := Aside0.mk (Kd.R_lower ho0 (below_size (by repeat (first | (with_reducible first | exact HB.out | apply below_alloc | apply pw_below_drewN | apply below_drew1) | exact HB.out)))); have n1_ := Aside0.mk (below_step (by repeat (first | (with_reducible first | exact HB.out | apply below_alloc | apply pw_below_drewN | apply below_drew1) | exact HB.out)) hb); clear HB; have HO351 := n0_; have HB := n1_; clear n0_ n1_; (try clear hb); (try clear hb2); (try clear hk); (try clear hi); (try clear ho0)) | (go_at_call 12; (with_reducible refine (key_Bytes.calls_nil k5 _ _ px104_5 t352 _ ?side3 ?side4 A60.out).mono ?_); (case side3 => repeat (first | exact (Kd.C_below HR348_0.out HB.out) | (with_reducible refine Kd.C_alloc ?_ _) | (with_reducible refine Kd.C_drewN ?_ _) | (with_reducible refine Kd.C_drew ?_))); (case side4 => exact HC348_0.out); rintro e w74 ⟨v353, rfl, ho0, hb⟩; have n0_ := Aside0.mk (Kd.R_elder' (by (with_reducible repeat (first | apply Kd.R_alloc | apply Kd.R_drewN | apply Kd.R_drew)); exact HO351.out) (Kd.R_base ho0) hb); have n1_ := Aside0.mk (Kd.R_lower (Kd.R_new' ho0 (Kd.R_lt (by (with_reducible repeat (first | apply Kd.R_alloc | apply Kd.R_drewN | apply Kd.R_drew)); exact HO351.out))) (below_size (by repeat (first | (with_reducible first | exact HB.out | apply below_alloc | apply pw_below_drewN | apply below_drew1) | exact HB.out)))); have n2_ := Aside0.mk (below_step (by repeat (first | (with_reducible first | exact HB.out | apply below_alloc | apply pw_below_drewN | apply below_drew1) | exact HB.out)) hb); clear HO351; clear HB; have HO351 := n0_; have HO354 := n1_; have HB := n2_; clear n0_ n1_ n2_; (try clear hb); (try clear hb2); (try clear hk); (try clear hi); (try clear ho0); have hcv75 := Kd.C_string (P := Try.prog) (A := A347_0) (c := c347_0) Try.underlying23 Try.underlying5 Try.underlying9 (Kd.C_below HR347_0.out HB.out); have hcv75d := fun n_ : Nat => Kd.C_string (P := Try.prog) (A := A347_0) (c := c347_0) Try.underlying23 Try.underlying5 Try.underlying9 (Kd.C_drewN ((Kd.C_below HR347_0.out HB.out)) n_); have hcv76 := Kd.C_string (P := Try.prog) (A := A348_0) (c := c348_0) Try.underlying23 Try.underlying5 Try.underlying9 (Kd.C_below HR348_0.out HB.out); have hcv76d := fun n_ : Nat => Kd.C_string (P := Try.prog) (A := A348_0) (c := c348_0) Try.underlying23 Try.underlying5 Try.underlying9 (Kd.C_drewN ((Kd.C_below HR348_0.out HB.out)) n_); obtain ⟨Ao77, co77, eo77⟩ := Kd.R_slice HO351.out; subst eo77; obtain ⟨Ao78, co78, eo78⟩ := Kd.R_slice HO354.out; subst eo78; have q79 : ((t349.length : Int) : Int) ≤ ((t352.length : Int) : Int) := of_decide_eq_true (by first | (with_reducible assumption) | assumption); obtain ⟨i079, hi079, _, hsz79, _⟩ := info_parts info5; have hroom79 : t352.length ≤ co78 := (Kd.R_reads' HO354.out).2.1; have hC79 : Kd.F (Kd.int .u8) _ _ Ao78 t352.length t352 := (Kd.V_at (base := w.heap.size) (Kd.R_V HO354.out)).2.2; have hcut79 := cut_to (P := Try.prog) 23 5 .i64 Try.underlying23 hi079 Ao78 t352.length co78 (t349.length : Int) (of_decide_eq_true (by first | (with_reducible assumption) | assumption)) q79 hroom79; have hr79 := Kd.F_take (m := ((t349.length : Int) : Int).toNat) hC79 (by omega); have hy79 : y355.length = ((t349.length : Int) : Int).toNat := (by rw [Ny355.out, List.length_take]; omega); rw [← Ny355.out] at hr79; rw [← hy79] at hcut79; have HO359 := Aside0.mk (show Kd.V (Kd.int .u8) 5 _ w.heap.size _ (.slice Ao78 y355.length co78) y355 from Kd.V_mk (by omega) hr79); have HC359 := Aside0.mk (show y355.length ≤ co78 from by omega); clear hr79 hC79 hroom79 hi079 hsz79; have KY79 := Aside0.mk hy79; clear hy79; replace q79 := eq_true q79; have hcv80 := Kd.C_string (P := Try.prog) (c := co78) Try.underlying23 Try.underlying5 Try.underlying9 (Kd.V_reads' HO359.out).2.2; have hcv80d := fun n_ : Nat => Kd.C_string (P := Try.prog) (c := co78) Try.underlying23 Try.underlying5 Try.underlying9 (Kd.C_drewN ((Kd.V_reads' HO359.out).2.2) n_); have hcv81 := own_string (P := Try.prog) Try.underlying23 Try.underlying5 Try.underlying9 (Kd.own_of_R HO351.out); have hcv81d := fun n_ : Nat => own_string (P := Try.prog) Try.underlying23 Try.underlying5 Try.underlying9 (pw_own_drewN (Kd.own_of_R HO351.out) n_))); try go_wp2_with (first | (go_at_call 12; (with_reducible refine (key_Bytes.calls_nil k5 _ _ px97_4 t349 _ ?side3 ?side4 A59.out).mono ?_); (case side3 => repeat (first | exact (Kd.C_below HR347_0.out HB.out) | (with_reducible refine Kd.C_alloc ?_ _) | (with_reducible refine Kd.C_drewN ?_ _) | (with_reducible refine Kd.C_drew ?_))); (case side4 => exact HC347_0.out); rintro e w73 ⟨v350, rfl, ho0, hb⟩; have n0_ := Aside0.mk (Kd.R_lower ho0 (below_size (by repeat (first | (with_reducible first | exact HB.out | apply below_alloc | apply pw_below_drewN | apply below_drew1) | exact HB.out)))); have n1_ := Aside0.mk (below_step (by repeat (first | (with_reducible first | exact HB.out | apply below_alloc | apply pw_below_drewN | apply below_drew1) | exact HB.out)) hb); clear HB; have HO351 := n0_; have HB := n1_; clear n0_ n1_; (try clear hb); (try clear hb2); (try clear hk); (try clear hi); (try clear ho0)) | (go_at_call 12; (with_reducible refine (key_Bytes.calls_nil k5 _ _ px104_5 t352 _ ?side3 ?side4 A60.out).mono ?_); (case side3 => repeat (first | exact (Kd.C_below HR348_0.out HB.out) | (with_reducible refine Kd.C_alloc ?_ _) | (with_reducible refine Kd.C_drewN ?_ _) | (with_reducible refine Kd.C_drew ?_))); (case side4 => exact HC348_0.out); rintro e w74 ⟨v353, rfl, ho0, hb⟩; have n0_ := Aside0.mk (Kd.R_elder' (by (with_reducible repeat (first | apply Kd.R_alloc | apply Kd.R_drewN | apply Kd.R_drew)); exact HO351.out) (Kd.R_base ho0) hb); have n1_ := Aside0.mk (Kd.R_lower (Kd.R_new' ho0 (Kd.R_lt (by (with_reducible repeat (first | apply Kd.R_alloc | apply Kd.R_drewN | apply Kd.R_drew)); exact HO351.out))) (below_size (by repeat (first | (with_reducible first | exact HB.out | apply below_alloc | apply pw_below_drewN | apply below_drew1) | exact HB.out)))); have n2_ := Aside0.mk (below_step (by repeat (first | (with_reducible first | exact HB.out | apply below_alloc | apply pw_below_drewN | apply below_drew1) | exact HB.out)) hb); clear HO351; clear HB; have HO351 := n0_; have HO354 := n1_; have HB := n2_; clear n0_ n1_ n2_; (try clear hb); (try clear hb2); (try clear hk); (try clear hi); (try clear ho0); have hcv75 := Kd.C_string (P := Try.prog) (A := A347_0) (c := c347_0) Try.underlying23 Try.underlying5 Try.underlying9 (Kd.C_below HR347_0.out HB.out); have hcv75d := fun n_ : Nat => Kd.C_string (P := Try.prog) (A := A347_0) (c := c347_0) Try.underlying23 Try.underlying5 Try.underlying9 (Kd.C_drewN ((Kd.C_below HR347_0.out HB.out)) n_); have hcv76 := Kd.C_string (P := Try.prog) (A := A348_0) (c := c348_0) Try.underlying23 Try.underlying5 Try.underlying9 (Kd.C_below HR348_0.out HB.out); have hcv76d := fun n_ : Nat => Kd.C_string (P := Try.prog) (A := A348_0) (c := c348_0) Try.underlying23 Try.underlying5 Try.underlying9 (Kd.C_drewN ((Kd.C_below HR348_0.out HB.out)) n_); obtain ⟨Ao77, co77, eo77⟩ := Kd.R_slice HO351.out; subst eo77; obtain ⟨Ao78, co78, eo78⟩ := Kd.R_slice HO354.out; subst eo78; have q79 : ((t349.length : Int) : Int) ≤ ((t352.length : Int) : Int) := of_decide_eq_true (by first | (with_reducible assumption) | assumption); obtain ⟨i079, hi079, _, hsz79, _⟩ := info_parts info5; have hroom79 : t352.length ≤ co78 := (Kd.R_reads' HO354.out).2.1; have hC79 : Kd.F (Kd.int .u8) _ _ Ao78 t352.length t352 := (Kd.V_at (base := w.heap.size) (Kd.R_V HO354.out)).2.2; have hcut79 := cut_to (P := Try.prog) 23 5 .i64 Try.underlying23 hi079 Ao78 t352.length co78 (t349.length : Int) (of_decide_eq_true (by first | (with_reducible assumption) | assumption)) q79 hroom79; have hr79 := Kd.F_take (m := ((t349.length : Int) : Int).toNat) hC79 (by omega); have hy79 : y355.length = ((t349.length : Int) : Int).toNat := (by rw [Ny355.out, List.length_take]; omega); rw [← Ny355.out] at hr79; rw [← hy79] at hcut79; have HO359 := Aside0.mk (show Kd.V (Kd.int .u8) 5 _ w.heap.size _ (.slice Ao78 y355.length co78) y355 from Kd.V_mk (by omega) hr79); have HC359 := Aside0.mk (show y355.length ≤ co78 from by omega); clear hr79 hC79 hroom79 hi079 hsz79; have KY79 := Aside0.mk hy79; clear hy79; replace q79 := eq_true q79; have hcv80 := Kd.C_string (P := Try.prog) (c := co78) Try.underlying23 Try.underlying5 Try.underlying9 (Kd.V_reads' HO359.out).2.2; have hcv80d := fun n_ : Nat => Kd.C_string (P := Try.prog) (c := co78) Try.underlying23 Try.underlying5 Try.underlying9 (Kd.C_drewN ((Kd.V_reads' HO359.out).2.2) n_); have hcv81 := own_string (P := Try.prog) Try.underlying23 Try.underlying5 Try.underlying9 (Kd.own_of_R HO351.out); have hcv81d := fun n_ : Nat => own_string (P := Try.prog) Try.underlying23 Try.underlying5 Try.underlying9 (pw_own_drewN (Kd.own_of_R HO351.out) n_))))
                                                  go_ret
                                                  exact ⟨by first | rfl | (simp [errW_none, errW_some] <;> rfl) | (simp [*, errW_none, errW_some] <;> rfl), by repeat (first | (with_reducible first | exact HB.out | apply below_alloc | apply pw_below_drewN | apply below_drew1) | exact HB.out)⟩
                                                · rw [if_neg c72] at H
                                                  have c72b0 : ((strOfNums y355).toList == (strOfNums t349).toList) = false := beq_eq_false_iff_ne.mpr c72
                                                  have c72b1 : ((strOfNums y355).toList != (strOfNums t349).toList) = true := bne_iff_ne.mpr c72
                                                  have H' := Aside0.mk H
                                                  clear H
                                                  have p348 : 0 ≤ (x104_5 : Int) := of_decide_eq_true (by first | (with_reducible assumption) | assumption)
                                                  have q348 : x104_5 < (l0.length : Int) := of_decide_eq_true (by first | (with_reducible assumption) | assumption)
                                                  obtain ⟨ad348, A348_0, c348_0, e348, hx348_0, hl348_0, hi348_0⟩ := at_L1 HR0.out x104_5 p348 q348
                                                  obtain rfl : ad347 = ad348 := (by injection e348)
                                                  replace hx348_0 := (HB.out.cell (World.block_lt_of_cell? w _ hx348_0)).trans hx348_0
                                                  have HR348_0 := Aside0.mk hi348_0
                                                  have HC348_0 := Aside0.mk hl348_0
                                                  clear hi348_0 hl348_0
                                                  replace p348 := eq_true p348
                                                  replace q348 := eq_true q348
                                                  generalize rd_L1 l0 x97_4 = px97_4 at *
                                                  generalize rd_L1 l0 x104_5 = px104_5 at *
                                                  go_wp2_with (first | (go_at_call 12; (with_reducible refine (key_Bytes.calls_nil k5 _ _ px97_4 t349 _ ?side3 ?side4 A59.out).mono ?_); (case side3 => repeat (first | exact (Kd.C_below HR347_0.out HB.out) | (with_reducible refine Kd.C_alloc ?_ _) | (with_reducible refine Kd.C_drewN ?_ _) | (with_reducible refine Kd.C_drew ?_))); (case side4 => exact HC347_0.out); rintro e w82 ⟨v350, rfl, ho0, hb⟩; have n0_ := Aside0.mk (Kd.R_lower ho0 (below_size (by repeat (first | (with_reducible first | exact HB.out | apply below_alloc | apply pw_below_drewN | apply below_drew1) | exact HB.out)))); have n1_ := Aside0.mk (below_step (by repeat (first | (with_reducible first | exact HB.out | apply below_alloc | apply pw_below_drewN | apply below_drew1) | exact HB.out)) hb); clear HB; have HO351 := n0_; have HB := n1_; clear n0_ n1_; (try clear hb); (try clear hb2); (try clear hk); (try clear hi); (try clear ho0)) | (go_at_call 12; (with_reducible refine (key_Bytes.calls_nil k5 _ _ px104_5 t352 _ ?side3 ?side4 A60.out).mono ?_); (case side3 => repeat (first | exact (Kd.C_below HR348_0.out HB.out) | (with_reducible refine Kd.C_alloc ?_ _) | (with_reducible refine Kd.C_drewN ?_ _) | (with_reducible refine Kd.C_drew ?_))); (case side4 => exact HC348_0.out); rintro e w83 ⟨v353, rfl, ho0, hb⟩; have n0_ := Aside0.mk (Kd.R_elder' (by (with_reducible repeat (first | apply Kd.R_alloc | apply Kd.R_drewN | apply Kd.R_drew)); exact HO351.out) (Kd.R_base ho0) hb); have n1_ := Aside0.mk (Kd.R_lower (Kd.R_new' ho0 (Kd.R_lt (by (with_reducible repeat (first | apply Kd.R_alloc | apply Kd.R_drewN | apply Kd.R_drew)); exact HO351.out))) (below_size (by repeat (first | (with_reducible first | exact HB.out | apply below_alloc | apply pw_below_drewN | apply below_drew1) | exact HB.out)))); have n2_ := Aside0.mk (below_step (by repeat (first | (with_reducible first | exact HB.out | apply below_alloc | apply pw_below_drewN | apply below_drew1) | exact HB.out)) hb); clear HO351; clear HB; have HO351 := n0_; have HO354 := n1_; have HB := n2_; clear n0_ n1_ n2_; (try clear hb); (try clear hb2); (try clear hk); (try clear hi); (try clear ho0); have hcv84 := Kd.C_string (P := Try.prog) (A := A347_0) (c := c347_0) Try.underlying23 Try.underlying5 Try.underlying9 (Kd.C_below HR347_0.out HB.out); have hcv84d := fun n_ : Nat => Kd.C_string (P := Try.prog) (A := A347_0) (c := c347_0) Try.underlying23 Try.underlying5 Try.underlying9 (Kd.C_drewN ((Kd.C_below HR347_0.out HB.out)) n_); have hcv85 := Kd.C_string (P := Try.prog) (A := A348_0) (c := c348_0) Try.underlying23 Try.underlying5 Try.underlying9 (Kd.C_below HR348_0.out HB.out); have hcv85d := fun n_ : Nat => Kd.C_string (P := Try.prog) (A := A348_0) (c := c348_0) Try.underlying23 Try.underlying5 Try.underlying9 (Kd.C_drewN ((Kd.C_below HR348_0.out HB.out)) n_); obtain ⟨Ao86, co86, eo86⟩ := Kd.R_slice HO351.out; subst eo86; obtain ⟨Ao87, co87, eo87⟩ := Kd.R_slice HO354.out; subst eo87; have q88 : ((t349.length : Int) : Int) ≤ ((t352.length : Int) : Int) := of_decide_eq_true (by first | (with_reducible assumption) | assumption); obtain ⟨i088, hi088, _, hsz88, _⟩ := info_parts info5; have hroom88 : t352.length ≤ co87 := (Kd.R_reads' HO354.out).2.1; have hC88 : Kd.F (Kd.int .u8) _ _ Ao87 t352.length t352 := (Kd.V_at (base := w.heap.size) (Kd.R_V HO354.out)).2.2; have hcut88 := cut_to (P := Try.prog) 23 5 .i64 Try.underlying23 hi088 Ao87 t352.length co87 (t349.length : Int) (of_decide_eq_true (by first | (with_reducible assumption) | assumption)) q88 hroom88; have hr88 := Kd.F_take (m := ((t349.length : Int) : Int).toNat) hC88 (by omega); have hy88 : y355.length = ((t349.length : Int) : Int).toNat := (by rw [Ny355.out, List.length_take]; omega); rw [← Ny355.out] at hr88; rw [← hy88] at hcut88; have HO359 := Aside0.mk (show Kd.V (Kd.int .u8) 5 _ w.heap.size _ (.slice Ao87 y355.length co87) y355 from Kd.V_mk (by omega) hr88); have HC359 := Aside0.mk (show y355.length ≤ co87 from by omega); clear hr88 hC88 hroom88 hi088 hsz88; have KY88 := Aside0.mk hy88; clear hy88; replace q88 := eq_true q88; have hcv89 := Kd.C_string (P := Try.prog) (c := co87) Try.underlying23 Try.underlying5 Try.underlying9 (Kd.V_reads' HO359.out).2.2; have hcv89d := fun n_ : Nat => Kd.C_string (P := Try.prog) (c := co87) Try.underlying23 Try.underlying5 Try.underlying9 (Kd.C_drewN ((Kd.V_reads' HO359.out).2.2) n_); have hcv90 := own_string (P := Try.prog) Try.underlying23 Try.underlying5 Try.underlying9 (Kd.own_of_R HO351.out); have hcv90d := fun n_ : Nat => own_string (P := Try.prog) Try.underlying23 Try.underlying5 Try.underlying9 (pw_own_drewN (Kd.own_of_R HO351.out) n_)))
                                                  repeat (go_quiet (first | (go_at_call 12; (with_reducible refine (key_Bytes.calls_nil k5 _ _ px97_4 t349 _ ?side3 ?side4 A59.out).mono ?_); (case side3 => repeat (first | exact (Kd.C_below HR347_0.out HB.out) | (with_reducible refine Kd.C_alloc ?_ _) | (with_reducible refine Kd.C_drewN ?_ _) | (with_reducible refine Kd.C_drew ?_))); (case side4 => exact HC347_0.out); rintro e w82 ⟨v350, rfl, ho0, hb⟩; have n0_ := Aside0.mk (Kd.R_lower ho0 (below_size (by repeat (first | (with_reducible first | exact HB.out | apply below_alloc | apply pw_below_drewN | apply below_drew1) | exact HB.out)))); have n1_ := Aside0.mk (below_step (by repeat (first | (with_reducible first | exact HB.out | apply below_alloc | apply pw_below_drewN | apply below_drew1) | exact HB.out)) hb); clear HB; have HO351 := n0_; have HB := n1_; clear n0_ n1_; (try clear hb); (try clear hb2); (try clear hk); (try clear hi); (try clear ho0)) | (go_at_call 12; (with_reducible refine (key_Bytes.calls_nil k5 _ _ px104_5 t352 _ ?side3 ?side4 A60.out).mono ?_); (case side3 => repeat (first | exact (Kd.C_below HR348_0.out HB.out) | (with_reducible refine Kd.C_alloc ?_ _) | (with_reducible refine Kd.C_drewN ?_ _) | (with_reducible refine Kd.C_drew ?_))); (case side4 => exact HC348_0.out); rintro e w83 ⟨v353, rfl, ho0, hb⟩; have n0_ := Aside0.mk (Kd.R_elder' (by (with_reducible repeat (first | apply Kd.R_alloc | apply Kd.R_drewN | apply Kd.R_drew)); exact HO351.out) (Kd.R_base ho0) hb); have n1_ := Aside0.mk (Kd.R_lower (Kd.R_new' ho0 (Kd.R_lt (by (with_reducible repeat (first | apply Kd.R_alloc | apply Kd.R_drewN | apply Kd.R_drew)); exact HO351.out))) (below_size (by repeat (first | (with_reducible first | exact HB.out | apply below_alloc | apply pw_below_drewN | apply below_drew1) | exact HB.out)))); have n2_ := Aside0.mk (below_step (by repeat (first | (with_reducible first | exact HB.out | apply below_alloc | apply pw_below_drewN | apply below_drew1) | exact HB.out)) hb); clear HO351; clear HB; have HO351 := n0_; have HO354 := n1_; have HB := n2_; clear n0_ n1_ n2_; (try clear hb); (try clear hb2); (try clear hk); (try clear hi); (try clear ho0); have hcv84 := Kd.C_string (P := Try.prog) (A := A347_0) (c := c347_0) Try.underlying23 Try.underlying5 Try.underlying9 (Kd.C_below HR347_0.out HB.out); have hcv84d := fun n_ : Nat => Kd.C_string (P := Try.prog) (A := A347_0) (c := c347_0) Try.underlying23 Try.underlying5 Try.underlying9 (Kd.C_drewN ((Kd.C_below HR347_0.out HB.out)) n_); have hcv85 := Kd.C_string (P := Try.prog) (A := A348_0) (c := c348_0) Try.underlying23 Try.underlying5 Try.underlying9 (Kd.C_below HR348_0.out HB.out); have hcv85d := fun n_ : Nat => Kd.C_string (P := Try.prog) (A := A348_0) (c := c348_0) Try.underlying23 Try.underlying5 Try.underlying9 (Kd.C_drewN ((Kd.C_below HR348_0.out HB.out)) n_); obtain ⟨Ao86, co86, eo86⟩ := Kd.R_slice HO351.out; subst eo86; obtain ⟨Ao87, co87, eo87⟩ := Kd.R_slice HO354.out; subst eo87; have q88 : ((t349.length : Int) : Int) ≤ ((t352.length : Int) : Int) := of_decide_eq_true (by first | (with_reducible assumption) | assumption); obtain ⟨i088, hi088, _, hsz88, _⟩ := info_parts info5; have hroom88 : t352.length ≤ co87 := (Kd.R_reads' HO354.out).2.1; have hC88 : Kd.F (Kd.int .u8) _ _ Ao87 t352.length t352 := (Kd.V_at (base := w.heap.size) (Kd.R_V HO354.out)).2.2; have hcut88 := cut_to (P := Try.prog) 23 5 .i64 Try.underlying23 hi088 Ao87 t352.length co87 (t349.length : Int) (of_decide_eq_true (by first | (with_reducible assumption) | assumption)) q88 hroom88; have hr88 := Kd.F_take (m := ((t349.length : Int) : Int).toNat) hC88 (by omega); have hy88 : y355.length = ((t349.length : Int) : Int).toNat := (by rw [Ny355.out, List.length_take]; omega); rw [← Ny355.out] at hr88; rw [← hy88] at hcut88; have HO359 := Aside0.mk (show Kd.V (Kd.int .u8) 5 _ w.heap.size _ (.slice Ao87 y355.length co87) y355 from Kd.V_mk (by omega) hr88); have HC359 := Aside0.mk (show y355.length ≤ co87 from by omega); clear hr88 hC88 hroom88 hi088 hsz88; have KY88 := Aside0.mk hy88; clear hy88; replace q88 := eq_true q88; have hcv89 := Kd.C_string (P := Try.prog) (c := co87) Try.underlying23 Try.underlying5 Try.underlying9 (Kd.V_reads' HO359.out).2.2; have hcv89d := fun n_ : Nat => Kd.C_string (P := Try.prog) (c := co87) Try.underlying23 Try.underlying5 Try.underlying9 (Kd.C_drewN ((Kd.V_reads' HO359.out).2.2) n_); have hcv90 := own_string (P := Try.prog) Try.underlying23 Try.underlying5 Try.underlying9 (Kd.own_of_R HO351.out); have hcv90d := fun n_ : Nat => own_string (P := Try.prog) Try.underlying23 Try.underlying5 Try.underlying9 (pw_own_drewN (Kd.own_of_R HO351.out) n_))); try go_wp2_with (first | (go_at_call 12; (with_reducible refine (key_Bytes.calls_nil k5 _ _ px97_4 t349 _ ?side3 ?side4 A59.out).mono ?_); (case side3 => repeat (first | exact (Kd.C_below HR347_0.out HB.out) | (with_reducible refine Kd.C_alloc ?_ _) | (with_reducible refine Kd.C_drewN ?_ _) | (with_reducible refine Kd.C_drew ?_))); (case side4 => exact HC347_0.out); rintro e w82 ⟨v350, rfl, ho0, hb⟩; have n0_ := Aside0.mk (Kd.R_lower ho0 (below_size (by repeat (first | (with_reducible first | exact HB.out | apply below_alloc | apply pw_below_drewN | apply below_drew1) | exact HB.out)))); have n1_ := Aside0.mk (below_step (by repeat (first | (with_reducible first | exact HB.out | apply below_alloc | apply pw_below_drewN | apply below_drew1) | exact HB.out)) hb); clear HB; have HO351 := n0_; have HB := n1_; clear n0_ n1_; (try clear hb); (try clear hb2); (try clear hk); (try clear hi); (try clear ho0)) | (go_at_call 12; (with_reducible refine (key_Bytes.calls_nil k5 _ _ px104_5 t352 _ ?side3 ?side4 A60.out).mono ?_); (case side3 => repeat (first | exact (Kd.C_below HR348_0.out HB.out) | (with_reducible refine Kd.C_alloc ?_ _) | (with_reducible refine Kd.C_drewN ?_ _) | (with_reducible refine Kd.C_drew ?_))); (case side4 => exact HC348_0.out); rintro e w83 ⟨v353, rfl, ho0, hb⟩; have n0_ := Aside0.mk (Kd.R_elder' (by (with_reducible repeat (first | apply Kd.R_alloc | apply Kd.R_drewN | apply Kd.R_drew)); exact HO351.out) (Kd.R_base ho0) hb); have n1_ := Aside0.mk (Kd.R_lower (Kd.R_new' ho0 (Kd.R_lt (by (with_reducible repeat (first | apply Kd.R_alloc | apply Kd.R_drewN | apply Kd.R_drew)); exact HO351.out))) (below_size (by repeat (first | (with_reducible first | exact HB.out | apply below_alloc | apply pw_below_drewN | apply below_drew1) | exact HB.out)))); have n2_ := Aside0.mk (below_step (by repeat (first | (with_reducible first | exact HB.out | apply below_alloc | apply pw_below_drewN | apply below_drew1) | exact HB.out)) hb); clear HO351; clear HB; have HO351 := n0_; have HO354 := n1_; have HB := n2_; clear n0_ n1_ n2_; (try clear hb); (try clear hb2); (try clear hk); (try clear hi); (try clear ho0); have hcv84 := Kd.C_string (P := Try.prog) (A := A347_0) (c := c347_0) Try.underlying23 Try.underlying5 Try.underlying9 (Kd.C_below HR347_0.out HB.out); have hcv84d := fun n_ : Nat => Kd.C_string (P := Try.prog) (A := A347_0) (c := c347_0) Try.underlying23 Try.underlying5 Try.underlying9 (Kd.C_drewN ((Kd.C_below HR347_0.out HB.out)) n_); have hcv85 := Kd.C_string (P := Try.prog) (A := A348_0) (c := c348_0) Try.underlying23 Try.underlying5 Try.underlying9 (Kd.C_below HR348_0.out HB.out); have hcv85d := fun n_ : Nat => Kd.C_string (P := Try.prog) (A := A348_0) (c := c348_0) Try.underlying23 Try.underlying5 Try.underlying9 (Kd.C_drewN ((Kd.C_below HR348_0.out HB.out)) n_); obtain ⟨Ao86, co86, eo86⟩ := Kd.R_slice HO351.out; subst eo86; obtain ⟨Ao87, co87, eo87⟩ := Kd.R_slice HO354.out; subst eo87; have q88 : ((t349.length : Int) : Int) ≤ ((t352.length : Int) : Int) := of_decide_eq_true (by first | (with_reducible assumption) | assumption); obtain ⟨i088, hi088, _, hsz88, _⟩ := info_parts info5; have hroom88 : t352.length ≤ co87 := (Kd.R_reads' HO354.out).2.1; have hC88 : Kd.F (Kd.int .u8) _ _ Ao87 t352.length t352 := (Kd.V_at (base := w.heap.size) (Kd.R_V HO354.out)).2.2; have hcut88 := cut_to (P := Try.prog) 23 5 .i64 Try.underlying23 hi088 Ao87 t352.length co87 (t349.length : Int) (of_decide_eq_true (by first | (with_reducible assumption) | assumption)) q88 hroom88; have hr88 := Kd.F_take (m := ((t349.length : Int) : Int).toNat) hC88 (by omega); have hy88 : y355.length = ((t349.length : Int) : Int).toNat := (by rw [Ny355.out, List.length_take]; omega); rw [← Ny355.out] at hr88; rw [← hy88] at hcut88; have HO359 := Aside0.mk (show Kd.V (Kd.int .u8) 5 _ w.heap.size _ (.slice Ao87 y355.length co87) y355 from Kd.V_mk (by omega) hr88); have HC359 := Aside0.mk (show y355.length ≤ co87 from by omega); clear hr88 hC88 hroom88 hi088 hsz88; have KY88 := Aside0.mk hy88; clear hy88; replace q88 := eq_true q88; have hcv89 := Kd.C_string (P := Try.prog) (c := co87) Try.underlying23 Try.underlying5 Try.underlying9 (Kd.V_reads' HO359.out).2.2; have hcv89d := fun n_ : Nat => Kd.C_string (P := Try.prog) (c := co87) Try.underlying23 Try.underlying5 Try.underlying9 (Kd.C_drewN ((Kd.V_reads' HO359.out).2.2) n_); have hcv90 := own_string (P := Try.prog) Try.underlying23 Try.underlying5 Try.underlying9 (Kd.own_of_R HO351.out); have hcv90d := fun n_ : Nat => own_string (P := Try.prog) Try.underlying23 Try.underlying5 Try.underlying9 (pw_own_drewN (Kd.own_of_R HO351.out) n_))))
                                                  go_roundg k5
                                                  case measure => have := HK1.out; have := HK2.out; have := HJ46.out; have := HK4.out; have := HK5.out; omega
                                                  case rel => exact ⟨(wrap64 (x104_5 + 1)), (by first | rfl | (simp; done) | (simp [*]; done)), H', ⟨by have := HK1.out; have := HK2.out; have := HJ46.out; have := HK4.out; have := HK5.out; omega⟩, ⟨by repeat (first | (with_reducible first | exact HB.out | apply below_alloc | apply pw_below_drewN | apply below_drew1) | exact HB.out)⟩⟩
                                              · rw [if_neg c70] at H
                                                exact absurd H (by simp)
                                            · rw [if_neg c69] at H
                                              have c69b0 : decide ((t349.length : Int) ≤ (t352.length : Int)) = false := decide_eq_false c69
                                              have c69b1 : decide (t349.length ≤ t352.length) = false := decide_eq_false (fun h => c69 (Int.ofNat_le.mpr h))
                                              clear c69
                                              have H' := Aside0.mk H
                                              clear H
                                              have p348 : 0 ≤ (x104_5 : Int) := of_decide_eq_true (by first | (with_reducible assumption) | assumption)
                                              have q348 : x104_5 < (l0.length : Int) := of_decide_eq_true (by first | (with_reducible assumption) | assumption)
                                              obtain ⟨ad348, A348_0, c348_0, e348, hx348_0, hl348_0, hi348_0⟩ := at_L1 HR0.out x104_5 p348 q348
                                              obtain rfl : ad347 = ad348 := (by injection e348)
                                              replace hx348_0 := (HB.out.cell (World.block_lt_of_cell? w _ hx348_0)).trans hx348_0
                                              have HR348_0 := Aside0.mk hi348_0
                                              have HC348_0 := Aside0.mk hl348_0
                                              clear hi348_0 hl348_0
                                              replace p348 := eq_true p348
                                              replace q348 := eq_true q348
                                              generalize rd_L1 l0 x97_4 = px97_4 at *
                                              generalize rd_L1 l0 x104_5 = px104_5 at *
                                              go_wp2_with (first | (go_at_call 12; (with_reducible refine (key_Bytes.calls_nil k5 _ _ px97_4 t349 _ ?side3 ?side4 A59.out).mono ?_); (case side3 => repeat (first | exact (Kd.C_below HR347_0.out HB.out) | (with_reducible refine Kd.C_alloc ?_ _) | (with_reducible refine Kd.C_drewN ?_ _) | (with_reducible refine Kd.C_drew ?_))); (case side4 => exact HC347_0.out); rintro e w91 ⟨v350, rfl, ho0, hb⟩; have n0_ := Aside0.mk (Kd.R_lower ho0 (below_size (by repeat (first | (with_reducible first | exact HB.out | apply below_alloc | apply pw_below_drewN | apply below_drew1) | exact HB.out)))); have n1_ := Aside0.mk (below_step (by repeat (first | (with_reducible first | exact HB.out | apply below_alloc | apply pw_below_drewN | apply below_drew1) | exact HB.out)) hb); clear HB; have HO351 := n0_; have HB := n1_; clear n0_ n1_; (try clear hb); (try clear hb2); (try clear hk); (try clear hi); (try clear ho0)) | (go_at_call 12; (with_reducible refine (key_Bytes.calls_nil k5 _ _ px104_5 t352 _ ?side3 ?side4 A60.out).mono ?_); (case side3 => repeat (first | exact (Kd.C_below HR348_0.out HB.out) | (with_reducible refine Kd.C_alloc ?_ _) | (with_reducible refine Kd.C_drewN ?_ _) | (with_reducible refine Kd.C_drew ?_))); (case side4 => exact HC348_0.out); rintro e w92 ⟨v353, rfl, ho0, hb⟩; have n0_ := Aside0.mk (Kd.R_elder' (by (with_reducible repeat (first | apply Kd.R_alloc | apply Kd.R_drewN | apply Kd.R_drew)); exact HO351.out) (Kd.R_base ho0) hb); have n1_ := Aside0.mk (Kd.R_lower (Kd.R_new' ho0 (Kd.R_lt (by (with_reducible repeat (first | apply Kd.R_alloc | apply Kd.R_drewN | apply Kd.R_drew)); exact HO351.out))) (below_size (by repeat (first | (with_reducible first | exact HB.out | apply below_alloc | apply pw_below_drewN | apply below_drew1) | exact HB.out)))); have n2_ := Aside0.mk (below_step (by repeat (first | (with_reducible first | exact HB.out | apply below_alloc | apply pw_below_drewN | apply below_drew1) | exact HB.out)) hb); clear HO351; clear HB; have HO351 := n0_; have HO354 := n1_; have HB := n2_; clear n0_ n1_ n2_; (try clear hb); (try clear hb2); (try clear hk); (try clear hi); (try clear ho0); have hcv93 := Kd.C_string (P := Try.prog) (A := A347_0) (c := c347_0) Try.underlying23 Try.underlying5 Try.underlying9 (Kd.C_below HR347_0.out HB.out); have hcv93d := fun n_ : Nat => Kd.C_string (P := Try.prog) (A := A347_0) (c := c347_0) Try.underlying23 Try.underlying5 Try.underlying9 (Kd.C_drewN ((Kd.C_below HR347_0.out HB.out)) n_); have hcv94 := Kd.C_string (P := Try.prog) (A := A348_0) (c := c348_0) Try.underlying23 Try.underlying5 Try.underlying9 (Kd.C_below HR348_0.out HB.out); have hcv94d := fun n_ : Nat => Kd.C_string (P := Try.prog) (A := A348_0) (c := c348_0) Try.underlying23 Try.underlying5 Try.underlying9 (Kd.C_drewN ((Kd.C_below HR348_0.out HB.out)) n_); obtain ⟨Ao95, co95, eo95⟩ := Kd.R_slice HO351.out; subst eo95; obtain ⟨Ao96, co96, eo96⟩ := Kd.R_slice HO354.out; subst eo96))
                                              repeat (go_quiet (first | (go_at_call 12; (with_reducible refine (key_Bytes.calls_nil k5 _ _ px97_4 t349 _ ?side3 ?side4 A59.out).mono ?_); (case side3 => repeat (first | exact (Kd.C_below HR347_0.out HB.out) | (with_reducible refine Kd.C_alloc ?_ _) | (with_reducible refine Kd.C_drewN ?_ _) | (with_reducible refine Kd.C_drew ?_))); (case side4 => exact HC347_0.out); rintro e w91 ⟨v350, rfl, ho0, hb⟩; have n0_ := Aside0.mk (Kd.R_lower ho0 (below_size (by repeat (first | (with_reducible first | exact HB.out | apply below_alloc | apply pw_below_drewN | apply below_drew1) | exact HB.out)))); have n1_ := Aside0.mk (below_step (by repeat (first | (with_reducible first | exact HB.out | apply below_alloc | apply pw_below_drewN | apply below_drew1) | exact HB.out)) hb); clear HB; have HO351 := n0_; have HB := n1_; clear n0_ n1_; (try clear hb); (try clear hb2); (try clear hk); (try clear hi); (try clear ho0)) | (go_at_call 12; (with_reducible refine (key_Bytes.calls_nil k5 _ _ px104_5 t352 _ ?side3 ?side4 A60.out).mono ?_); (case side3 => repeat (first | exact (Kd.C_below HR348_0.out HB.out) | (with_reducible refine Kd.C_alloc ?_ _) | (with_reducible refine Kd.C_drewN ?_ _) | (with_reducible refine Kd.C_drew ?_))); (case side4 => exact HC348_0.out); rintro e w92 ⟨v353, rfl, ho0, hb⟩; have n0_ := Aside0.mk (Kd.R_elder' (by (with_reducible repeat (first | apply Kd.R_alloc | apply Kd.R_drewN | apply Kd.R_drew)); exact HO351.out) (Kd.R_base ho0) hb); have n1_ := Aside0.mk (Kd.R_lower (Kd.R_new' ho0 (Kd.R_lt (by (with_reducible repeat (first | apply Kd.R_alloc | apply Kd.R_drewN | apply Kd.R_drew)); exact HO351.out))) (below_size (by repeat (first | (with_reducible first | exact HB.out | apply below_alloc | apply pw_below_drewN | apply below_drew1) | exact HB.out)))); have n2_ := Aside0.mk (below_step (by repeat (first | (with_reducible first | exact HB.out | apply below_alloc | apply pw_below_drewN | apply below_drew1) | exact HB.out)) hb); clear HO351; clear HB; have HO351 := n0_; have HO354 := n1_; have HB := n2_; clear n0_ n1_ n2_; (try clear hb); (try clear hb2); (try clear hk); (try clear hi); (try clear ho0); have hcv93 := Kd.C_string (P := Try.prog) (A := A347_0) (c := c347_0) Try.underlying23 Try.underlying5 Try.underlying9 (Kd.C_below HR347_0.out HB.out); have hcv93d := fun n_ : Nat => Kd.C_string (P := Try.prog) (A := A347_0) (c := c347_0) Try.underlying23 Try.underlying5 Try.underlying9 (Kd.C_drewN ((Kd.C_below HR347_0.out HB.out)) n_); have hcv94 := Kd.C_string (P := Try.prog) (A := A348_0) (c := c348_0) Try.underlying23 Try.underlying5 Try.underlying9 (Kd.C_below HR348_0.out HB.out); have hcv94d := fun n_ : Nat => Kd.C_string (P := Try.prog) (A := A348_0) (c := c348_0) Try.underlying23 Try.underlying5 Try.underlying9 (Kd.C_drewN ((Kd.C_below HR348_0.out HB.out)) n_); obtain ⟨Ao95, co95, eo95⟩ := Kd.R_slice HO351.out; subst eo95; obtain ⟨Ao96, co96, eo96⟩ := Kd.R_slice HO354.out; subst eo96)); try go_wp2_with (first | (go_at_call 12; (with_reducible refine (key_Bytes.calls_nil k5 _ _ px97_4 t349 _ ?side3 ?side4 A59.out).mono ?_); (case side3 => repeat (first | exact (Kd.C_below HR347_0.out HB.out) | (with_reducible refine Kd.C_alloc ?_ _) | (with_reducible refine Kd.C_drewN ?_ _) | (with_reducible refine Kd.C_drew ?_))); (case side4 => exact HC347_0.out); rintro e w91 ⟨v350, rfl, ho0, hb⟩; have n0_ := Aside0.mk (Kd.R_lower ho0 (below_size (by repeat (first | (with_reducible first | exact HB.out | apply below_alloc | apply pw_below_drewN | apply below_drew1) | exact HB.out)))); have n1_ := Aside0.mk (below_step (by repeat (first | (with_reducible first | exact HB.out | apply below_alloc | apply pw_below_drewN | apply below_drew1) | exact HB.out)) hb); clear HB; have HO351 := n0_; have HB := n1_; clear n0_ n1_; (try clear hb); (try clear hb2); (try clear hk); (try clear hi); (try clear ho0)) | (go_at_call 12; (with_reducible refine (key_Bytes.calls_nil k5 _ _ px104_5 t352 _ ?side3 ?side4 A60.out).mono ?_); (case side3 => repeat (first | exact (Kd.C_below HR348_0.out HB.out) | (with_reducible refine Kd.C_alloc ?_ _) | (with_reducible refine Kd.C_drewN ?_ _) | (with_reducible refine Kd.C_drew ?_))); (case side4 => exact HC348_0.out); rintro e w92 ⟨v353, rfl, ho0, hb⟩; have n0_ := Aside0.mk (Kd.R_elder' (by (with_reducible repeat (first | apply Kd.R_alloc | apply Kd.R_drewN | apply Kd.R_drew)); exact HO351.out) (Kd.R_base ho0) hb); have n1_ := Aside0.mk (Kd.R_lower (Kd.R_new' ho0 (Kd.R_lt (by (with_reducible repeat (first | apply Kd.R_alloc | apply Kd.R_drewN | apply Kd.R_drew)); exact HO351.out))) (below_size (by repeat (first | (with_reducible first | exact HB.out | apply below_alloc | apply pw_below_drewN | apply below_drew1) | exact HB.out)))); have n2_ := Aside0.mk (below_step (by repeat (first | (with_reducible first | exact HB.out | apply below_alloc | apply pw_below_drewN | apply below_drew1) | exact HB.out)) hb); clear HO351; clear HB; have HO351 := n0_; have HO354 := n1_; have HB := n2_; clear n0_ n1_ n2_; (try clear hb); (try clear hb2); (try clear hk); (try clear hi); (try clear ho0); have hcv93 := Kd.C_string (P := Try.prog) (A := A347_0) (c := c347_0) Try.underlying23 Try.underlying5 Try.underlying9 (Kd.C_below HR347_0.out HB.out); have hcv93d := fun n_ : Nat => Kd.C_string (P := Try.prog) (A := A347_0) (c := c347_0) Try.underlying23 Try.underlying5 Try.underlying9 (Kd.C_drewN ((Kd.C_below HR347_0.out HB.out)) n_); have hcv94 := Kd.C_string (P := Try.prog) (A := A348_0) (c := c348_0) Try.underlying23 Try.underlying5 Try.underlying9 (Kd.C_below HR348_0.out HB.out); have hcv94d := fun n_ : Nat => Kd.C_string (P := Try.prog) (A := A348_0) (c := c348_0) Try.underlying23 Try.underlying5 Try.underlying9 (Kd.C_drewN ((Kd.C_below HR348_0.out HB.out)) n_); obtain ⟨Ao95, co95, eo95⟩ := Kd.R_slice HO351.out; subst eo95; obtain ⟨Ao96, co96, eo96⟩ := Kd.R_slice HO354.out; subst eo96)))
                                              go_roundg k5
                                              case measure => have := HK1.out; have := HK2.out; have := HJ46.out; have := HK4.out; have := HK5.out; omega
                                              case rel => exact ⟨(wrap64 (x104_5 + 1)), (by first | rfl | (simp; done) | (simp [*]; done)), H', ⟨by have := HK1.out; have := HK2.out; have := HJ46.out; have := HK4.out; have := HK5.out; omega⟩, ⟨by repeat (first | (with_reducible first | exact HB.out | apply below_alloc | apply pw_below_drewN | apply below_drew1) | exact HB.out)⟩⟩
                                      · rw [if_neg c58] at H
                                        exact absurd H (by simp)
                                    · rw [if_neg c57] at H
                                      exact absurd H (by simp)
                                  · rw [if_neg c56] at H
                                    have c56b0 : decide (x104_5 < (l0.length : Int)) = false := decide_eq_false c56
                                    clear c56
                                    have H' := Aside0.mk H
                                    clear H
                                    go_wp2
                                    repeat (go_quiet (fail); try go_wp2)
                                    go_roundg k5
                                    case measure => have := HK1.out; have := HK2.out; have := HJ46.out; have := HK4.out; have := HK5.out; omega
                                    case rel => exact ⟨(wrap64 (x97_4 + 1)), (by first | rfl | (simp; done) | (simp [*]; done)), H', ⟨by have := HK1.out; have := HK2.out; have := HJ46.out; have := HK4.out; have := HK5.out; omega⟩, ⟨by repeat (first | (with_reducible first | exact HB.out | apply below_alloc | apply pw_below_drewN | apply below_drew1) | exact HB.out)⟩⟩
                            · rw [if_neg c55] at H
                              exact absurd H (by simp)
                          · rw [if_neg c54] at H
                            exact absurd H (by simp)
                        · rw [if_neg c53] at H
                          have c53b0 : decide (x97_4 < (l0.length : Int)) = false := decide_eq_false c53
                          clear c53
                          replace H := Option.bind_eq_some_iff.mp H
                          obtain ⟨t346, A970, H⟩ := H
                          replace H : (some t346) = some r := H
                          have A97 := Aside0.mk A970
                          clear A970
                          obtain rfl := Option.some.inj H
                          go_wp2_with (first | (go_at_call 10; (with_reducible refine (halyardlaw7_awake.calls k4  t346 _ A97.out).mono ?_); rintro e w98 ⟨rfl, hb⟩; have n0_ := Aside0.mk (below_step (by repeat (first | (with_reducible first | exact HB.out | apply below_alloc | apply pw_below_drewN | apply below_drew1) | exact HB.out)) hb); clear HB; have HB := n0_; clear n0_; (try clear hb); (try clear hb2); (try clear hk); (try clear hi)))
                          repeat (go_quiet (first | (go_at_call 10; (with_reducible refine (halyardlaw7_awake.calls k4  t346 _ A97.out).mono ?_); rintro e w98 ⟨rfl, hb⟩; have n0_ := Aside0.mk (below_step (by repeat (first | (with_reducible first | exact HB.out | apply below_alloc | apply pw_below_drewN | apply below_drew1) | exact HB.out)) hb); clear HB; have HB := n0_; clear n0_; (try clear hb); (try clear hb2); (try clear hk); (try clear hi))); try go_wp2_with (first | (go_at_call 10; (with_reducible refine (halyardlaw7_awake.calls k4  t346 _ A97.out).mono ?_); rintro e w98 ⟨rfl, hb⟩; have n0_ := Aside0.mk (below_step (by repeat (first | (with_reducible first | exact HB.out | apply below_alloc | apply pw_below_drewN | apply below_drew1) | exact HB.out)) hb); clear HB; have HB := n0_; clear n0_; (try clear hb); (try clear hb2); (try clear hk); (try clear hi))))
                          go_ret
                          exact ⟨by first | rfl | (simp [errW_none, errW_some] <;> rfl) | (simp [*, errW_none, errW_some] <;> rfl), by repeat (first | (with_reducible first | exact HB.out | apply below_alloc | apply pw_below_drewN | apply below_drew1) | exact HB.out)⟩

end Go.Proofs.Ytldndnjajpjajaa.K
