-- Printed by the prover's own turned printer (wip/printer in the prover's repo); Lean checks it.
import Derived.Test.YtnepbpcpfeejkaaK0
namespace Go.Proofs.Ytnepbpcpfeejkaa.K
open Go.RowKit Go.Proofs.YtnepbpcpfeejkaaW.PrintWords Go.Proofs.YtnepbpcpfeejkaaW.PrintLast Go.Proofs.YtnepbpcpfeejkaaW.PrintMore
attribute [local go_sem] max2_int min2_int max_two min_two max_three min_three max_four min_four   -- for this text's walks alone
set_option linter.unusedVariables false
set_option linter.unusedSimpArgs false

/-! ### squash_seen: function 32 -/
def squash_seen.l0 : Nat → List (S35) → Int → List Int → Int → Int → Option (Bool)
  | 0, _, _, _, _, _ => none
  | k + 1, x0, x1, x11, x12, x13 => if x13 < x12 then (if 0 ≤ x13 then (if x13 < (x11.length : Int) then (if 0 ≤ x1 then (if x1 < (x0.length : Int) then (if ((rd_T35 x0 x1).f1) ≤ (rd x11 x13) then (if 0 ≤ (wrap64 (x1 - 1)) then (if (wrap64 (x1 - 1)) < (x0.length : Int) then (if (rd x11 x13) < ((rd_T35 x0 (wrap64 (x1 - 1))).f1) then (some true) else (squash_seen.l0 k x0 x1 x11 x12 (wrap64 (x13 + 1)))) else (none)) else (none)) else (squash_seen.l0 k x0 x1 x11 x12 (wrap64 (x13 + 1)))) else (none)) else (none)) else (none)) else (none)) else (some false)
def squash_seen.f (k : Nat) (l0 : List (S35)) (a1 : Int) (l2 : List Int) : Option (Bool) := if a1 = 0 then (some true) else (squash_seen.l0 k l0 a1 l2 (l2.length : Int) 0)
theorem squash_seen.mono_l : ∀ k, (∀ y0 y1 y2 y3 y4, LeO (squash_seen.l0 k y0 y1 y2 y3 y4) (squash_seen.l0 (k + 1) y0 y1 y2 y3 y4))
  | 0 => fun _ _ _ _ _ r h => by simp [squash_seen.l0] at h
  | k + 1 => by
    have ih0 := squash_seen.mono_l k
    · intro y0 y1 y2 y3 y4
      unfold squash_seen.l0
      repeat' first
      | (with_reducible exact ih0 _ _ _ _ _)
      | (with_reducible exact LeO.refl _)
      | (with_reducible exact LeO.none _)
      | (with_reducible refine LeO.ite ?_ ?_)
      | (with_reducible refine LeO.bind ?_ (fun _ => ?_))
      | exact ih0 _ _ _ _ _
      | exact LeO.none _
      | refine LeO.ite ?_ ?_
      | refine LeO.bind ?_ (fun _ => ?_)
theorem squash_seen.mono : ∀ a0 a1 a2 k, LeO (squash_seen.f k a0 a1 a2) (squash_seen.f (k + 1) a0 a1 a2) := by
  intro a0 a1 a2 k
  have ih0 := squash_seen.mono_l k
  unfold squash_seen.f
  repeat' first
      | (with_reducible exact ih0 _ _ _ _ _)
      | (with_reducible exact LeO.refl _)
      | (with_reducible exact LeO.none _)
      | (with_reducible refine LeO.ite ?_ ?_)
      | (with_reducible refine LeO.bind ?_ (fun _ => ?_))
      | exact ih0 _ _ _ _ _
      | exact LeO.none _
      | refine LeO.ite ?_ ?_
      | refine LeO.bind ?_ (fun _ => ?_)
set_option maxHeartbeats 8000000 in
set_option maxRecDepth 100000 in
theorem squash_seen.calls (k : Nat) (A0 : Option Addr) (c0 : Nat) (l0 : List (S35)) (a1 : Int) (A2 : Option Addr) (c2 : Nat) (l2 : List Int) (r : Bool) (w : World) (hr0 : Kd.C k35 w A0 l0.length l0) (hc0 : l0.length ≤ c0) (hr2 : Kd.C (Kd.int .i64) w A2 l2.length l2) (hc2 : l2.length ≤ c2) (h : squash_seen.f k l0 a1 l2 = some r) :
    Calls Try.prog 32 #[.slice A0 l0.length c0, .int .i64 a1, .slice A2 l2.length c2] w fun e w' => e = .returned (.bool r) ∧ Below w.heap.size w w' := by
  have HR0 := Aside0.mk hr0
  have HC0 := Aside0.mk hc0
  clear hr0 hc0
  have HR2 := Aside0.mk hr2
  have HC2 := Aside0.mk hc2
  clear hr2 hc2
  have HB := Aside0.mk (Below.refl w.heap.size w)
  have H : (if a1 = 0 then (some true) else (squash_seen.l0 k l0 a1 l2 (l2.length : Int) 0)) = some r := h
  clear h
  by_cases c4 : a1 = 0
  · rw [if_pos c4] at H
    have c4b0 : (a1 == 0) = true := beq_iff_eq.mpr c4
    have c4b1 : (a1 != 0) = false := bne_eq_false_iff_eq.mpr c4
    clear c4
    obtain rfl := Option.some.inj H
    go_enter Try.func32, Try.ntmps32
    go_wp2
    go_ret
    exact ⟨by first | rfl | (simp [errW_none, errW_some] <;> rfl) | (simp [*, errW_none, errW_some] <;> rfl), pb⟩
  · rw [if_neg c4] at H
    have c4b0 : (a1 == 0) = false := beq_eq_false_iff_ne.mpr c4
    have c4b1 : (a1 != 0) = true := bne_iff_ne.mpr c4
    have H' := Aside0.mk H
    clear H
    go_enter Try.func32, Try.ntmps32
    go_wp2
    go_loopg [13] k (fun kq v13 w' => ∃ (x13_1 : Int), v13 = .int .i64 x13_1 ∧ Aside0 (squash_seen.l0 kq l0 a1 l2 (l2.length : Int) x13_1 = some r) ∧ Aside0 (kq ≤ k) ∧ Aside0 (Below w.heap.size w w'))
    case atStart => exact ⟨(0), (by first | rfl | (simp; done) | (simp [*]; done)), H', ⟨Nat.le_refl _⟩, ⟨pb⟩⟩
    case round =>
      clear H'
      try clear c2
      try clear p2
      try clear c3
      try clear c4
      try clear c4b0
      try clear c4b1
      obtain ⟨x13_1, rfl, HA, HK1, HB⟩ := hrel
      cases gk with
      | zero => exact absurd HA.out (by simp [squash_seen.l0])
      | succ k1 =>
        have H := HA.out
        clear HA
        simp only [squash_seen.l0] at H
        by_cases c5 : x13_1 < (l2.length : Int)
        · rw [if_pos c5] at H
          have c5b0 : decide (x13_1 < (l2.length : Int)) = true := decide_eq_true c5
          clear c5
          by_cases c6 : 0 ≤ x13_1
          · rw [if_pos c6] at H
            have c6b0 : decide (0 ≤ x13_1) = true := decide_eq_true c6
            clear c6
            by_cases c7 : x13_1 < (l2.length : Int)
            · rw [if_pos c7] at H
              have c7b0 : decide (x13_1 < (l2.length : Int)) = true := decide_eq_true c7
              clear c7
              by_cases c8 : 0 ≤ a1
              · rw [if_pos c8] at H
                have c8b0 : decide (0 ≤ a1) = true := decide_eq_true c8
                clear c8
                by_cases c9 : a1 < (l0.length : Int)
                · rw [if_pos c9] at H
                  have c9b0 : decide (a1 < (l0.length : Int)) = true := decide_eq_true c9
                  clear c9
                  by_cases c10 : ((rd_T35 l0 a1).f1) ≤ (rd l2 x13_1)
                  · rw [if_pos c10] at H
                    have c10b0 : decide (((rd_T35 l0 a1).f1) ≤ (rd l2 x13_1)) = true := decide_eq_true c10
                    clear c10
                    obtain ⟨ji11, hji11⟩ : ∃ j_ : Int, (wrap64 (a1 - 1)) = j_ := ⟨_, rfl⟩
                    replace H : (if 0 ≤ (ji11) then (if (ji11) < (l0.length : Int) then (if (rd l2 x13_1) < ((rd_T35 l0 (ji11)).f1) then (some true) else (squash_seen.l0 k1 l0 a1 l2 (l2.length : Int) (wrap64 (x13_1 + 1)))) else (none)) else (none)) = some r := by first | (rw [hji11] at H; exact H) | (simp only [hji11] at H ⊢; exact H)
                    have hji11w : (IntKind.i64.wrap (a1 - 1)) = ji11 := (i64_w _).trans hji11
                    by_cases c12 : 0 ≤ (ji11)
                    · rw [if_pos c12] at H
                      have c12b0 : decide (0 ≤ (ji11)) = true := decide_eq_true c12
                      clear c12
                      by_cases c13 : (ji11) < (l0.length : Int)
                      · rw [if_pos c13] at H
                        have c13b0 : decide ((ji11) < (l0.length : Int)) = true := decide_eq_true c13
                        clear c13
                        by_cases c14 : (rd l2 x13_1) < ((rd_T35 l0 (ji11)).f1)
                        · rw [if_pos c14] at H
                          have c14b0 : decide ((rd l2 x13_1) < ((rd_T35 l0 (ji11)).f1)) = true := decide_eq_true c14
                          clear c14
                          obtain rfl := Option.some.inj H
                          have p121 : 0 ≤ (x13_1 : Int) := pa
                          have q121 : x13_1 < (l2.length : Int) := pa
                          obtain ⟨ad121, e121, hx121_0⟩ := Kd.at_int HR2.out x13_1 p121 q121
                          cases e121
                          replace hx121_0 := (HB.out.cell (World.block_lt_of_cell? w _ hx121_0)).trans hx121_0
                          replace p121 := eq_true p121
                          replace q121 := eq_true q121
                          have p122 : 0 ≤ (a1 : Int) := pa
                          have q122 : a1 < (l0.length : Int) := pa
                          obtain ⟨ad122, A122_0, c122_0, A122_4, c122_4, e122, hx122_0, hx122_1, hx122_2, hx122_3, hx122_4, hl122_0, hi122_0, hl122_4, hi122_4⟩ := at_T35 HR0.out a1 p122 q122
                          cases e122
                          replace hx122_0 := (HB.out.cell (World.block_lt_of_cell? w _ hx122_0)).trans hx122_0
                          replace hx122_1 := (HB.out.cell (World.block_lt_of_cell? w _ hx122_1)).trans hx122_1
                          replace hx122_2 := (HB.out.cell (World.block_lt_of_cell? w _ hx122_2)).trans hx122_2
                          replace hx122_3 := (HB.out.cell (World.block_lt_of_cell? w _ hx122_3)).trans hx122_3
                          replace hx122_4 := (HB.out.cell (World.block_lt_of_cell? w _ hx122_4)).trans hx122_4
                          have HR122_0 := Aside0.mk hi122_0
                          have HC122_0 := Aside0.mk hl122_0
                          clear hi122_0 hl122_0
                          have HR122_4 := Aside0.mk hi122_4
                          have HC122_4 := Aside0.mk hl122_4
                          clear hi122_4 hl122_4
                          replace p122 := eq_true p122
                          replace q122 := eq_true q122
                          have p123 : 0 ≤ ((ji11) : Int) := pa
                          have q123 : (ji11) < (l0.length : Int) := pa
                          obtain ⟨ad123, A123_0, c123_0, A123_4, c123_4, e123, hx123_0, hx123_1, hx123_2, hx123_3, hx123_4, hl123_0, hi123_0, hl123_4, hi123_4⟩ := at_T35 HR0.out (ji11) p123 q123
                          obtain rfl : ad122 = ad123 := (by injection e123)
                          replace hx123_0 := (HB.out.cell (World.block_lt_of_cell? w _ hx123_0)).trans hx123_0
                          replace hx123_1 := (HB.out.cell (World.block_lt_of_cell? w _ hx123_1)).trans hx123_1
                          replace hx123_2 := (HB.out.cell (World.block_lt_of_cell? w _ hx123_2)).trans hx123_2
                          replace hx123_3 := (HB.out.cell (World.block_lt_of_cell? w _ hx123_3)).trans hx123_3
                          replace hx123_4 := (HB.out.cell (World.block_lt_of_cell? w _ hx123_4)).trans hx123_4
                          have HR123_0 := Aside0.mk hi123_0
                          have HC123_0 := Aside0.mk hl123_0
                          clear hi123_0 hl123_0
                          have HR123_4 := Aside0.mk hi123_4
                          have HC123_4 := Aside0.mk hl123_4
                          clear hi123_4 hl123_4
                          replace p123 := eq_true p123
                          replace q123 := eq_true q123
                          go_wp2
                          go_ret
                          exact ⟨by first | rfl | (simp [errW_none, errW_some] <;> rfl) | (simp only [← hji11]; first | rfl | (simp [errW_none, errW_some] <;> rfl)) | (simp [*, errW_none, errW_some] <;> rfl), pb⟩
                        · rw [if_neg c14] at H
                          have c14b0 : decide ((rd l2 x13_1) < ((rd_T35 l0 (ji11)).f1)) = false := decide_eq_false c14
                          clear c14
                          have H' := Aside0.mk H
                          clear H
                          have p121 : 0 ≤ (x13_1 : Int) := pa
                          have q121 : x13_1 < (l2.length : Int) := pa
                          obtain ⟨ad121, e121, hx121_0⟩ := Kd.at_int HR2.out x13_1 p121 q121
                          cases e121
                          replace hx121_0 := (HB.out.cell (World.block_lt_of_cell? w _ hx121_0)).trans hx121_0
                          replace p121 := eq_true p121
                          replace q121 := eq_true q121
                          have p122 : 0 ≤ (a1 : Int) := pa
                          have q122 : a1 < (l0.length : Int) := pa
                          obtain ⟨ad122, A122_0, c122_0, A122_4, c122_4, e122, hx122_0, hx122_1, hx122_2, hx122_3, hx122_4, hl122_0, hi122_0, hl122_4, hi122_4⟩ := at_T35 HR0.out a1 p122 q122
                          cases e122
                          replace hx122_0 := (HB.out.cell (World.block_lt_of_cell? w _ hx122_0)).trans hx122_0
                          replace hx122_1 := (HB.out.cell (World.block_lt_of_cell? w _ hx122_1)).trans hx122_1
                          replace hx122_2 := (HB.out.cell (World.block_lt_of_cell? w _ hx122_2)).trans hx122_2
                          replace hx122_3 := (HB.out.cell (World.block_lt_of_cell? w _ hx122_3)).trans hx122_3
                          replace hx122_4 := (HB.out.cell (World.block_lt_of_cell? w _ hx122_4)).trans hx122_4
                          have HR122_0 := Aside0.mk hi122_0
                          have HC122_0 := Aside0.mk hl122_0
                          clear hi122_0 hl122_0
                          have HR122_4 := Aside0.mk hi122_4
                          have HC122_4 := Aside0.mk hl122_4
                          clear hi122_4 hl122_4
                          replace p122 := eq_true p122
                          replace q122 := eq_true q122
                          have p123 : 0 ≤ ((ji11) : Int) := pa
                          have q123 : (ji11) < (l0.length : Int) := pa
                          obtain ⟨ad123, A123_0, c123_0, A123_4, c123_4, e123, hx123_0, hx123_1, hx123_2, hx123_3, hx123_4, hl123_0, hi123_0, hl123_4, hi123_4⟩ := at_T35 HR0.out (ji11) p123 q123
                          obtain rfl : ad122 = ad123 := (by injection e123)
                          replace hx123_0 := (HB.out.cell (World.block_lt_of_cell? w _ hx123_0)).trans hx123_0
                          replace hx123_1 := (HB.out.cell (World.block_lt_of_cell? w _ hx123_1)).trans hx123_1
                          replace hx123_2 := (HB.out.cell (World.block_lt_of_cell? w _ hx123_2)).trans hx123_2
                          replace hx123_3 := (HB.out.cell (World.block_lt_of_cell? w _ hx123_3)).trans hx123_3
                          replace hx123_4 := (HB.out.cell (World.block_lt_of_cell? w _ hx123_4)).trans hx123_4
                          have HR123_0 := Aside0.mk hi123_0
                          have HC123_0 := Aside0.mk hl123_0
                          clear hi123_0 hl123_0
                          have HR123_4 := Aside0.mk hi123_4
                          have HC123_4 := Aside0.mk hl123_4
                          clear hi123_4 hl123_4
                          replace p123 := eq_true p123
                          replace q123 := eq_true q123
                          go_wp2
                          go_roundg k1
                          case measure => have := HK1.out; omega
                          case rel => exact ⟨(wrap64 (x13_1 + 1)), (by first | rfl | (simp; done) | (simp [*]; done)), H', ⟨by have := HK1.out; omega⟩, ⟨pb⟩⟩
                      · rw [if_neg c13] at H
                        exact absurd H (by simp)
                    · rw [if_neg c12] at H
                      exact absurd H (by simp)
                  · rw [if_neg c10] at H
                    have c10b0 : decide (((rd_T35 l0 a1).f1) ≤ (rd l2 x13_1)) = false := decide_eq_false c10
                    clear c10
                    have H' := Aside0.mk H
                    clear H
                    have p121 : 0 ≤ (x13_1 : Int) := pa
                    have q121 : x13_1 < (l2.length : Int) := pa
                    obtain ⟨ad121, e121, hx121_0⟩ := Kd.at_int HR2.out x13_1 p121 q121
                    cases e121
                    replace hx121_0 := (HB.out.cell (World.block_lt_of_cell? w _ hx121_0)).trans hx121_0
                    replace p121 := eq_true p121
                    replace q121 := eq_true q121
                    have p122 : 0 ≤ (a1 : Int) := pa
                    have q122 : a1 < (l0.length : Int) := pa
                    obtain ⟨ad122, A122_0, c122_0, A122_4, c122_4, e122, hx122_0, hx122_1, hx122_2, hx122_3, hx122_4, hl122_0, hi122_0, hl122_4, hi122_4⟩ := at_T35 HR0.out a1 p122 q122
                    cases e122
                    replace hx122_0 := (HB.out.cell (World.block_lt_of_cell? w _ hx122_0)).trans hx122_0
                    replace hx122_1 := (HB.out.cell (World.block_lt_of_cell? w _ hx122_1)).trans hx122_1
                    replace hx122_2 := (HB.out.cell (World.block_lt_of_cell? w _ hx122_2)).trans hx122_2
                    replace hx122_3 := (HB.out.cell (World.block_lt_of_cell? w _ hx122_3)).trans hx122_3
                    replace hx122_4 := (HB.out.cell (World.block_lt_of_cell? w _ hx122_4)).trans hx122_4
                    have HR122_0 := Aside0.mk hi122_0
                    have HC122_0 := Aside0.mk hl122_0
                    clear hi122_0 hl122_0
                    have HR122_4 := Aside0.mk hi122_4
                    have HC122_4 := Aside0.mk hl122_4
                    clear hi122_4 hl122_4
                    replace p122 := eq_true p122
                    replace q122 := eq_true q122
                    go_wp2
                    go_roundg k1
                    case measure => have := HK1.out; omega
                    case rel => exact ⟨(wrap64 (x13_1 + 1)), (by first | rfl | (simp; done) | (simp [*]; done)), H', ⟨by have := HK1.out; omega⟩, ⟨pb⟩⟩
                · rw [if_neg c9] at H
                  exact absurd H (by simp)
              · rw [if_neg c8] at H
                exact absurd H (by simp)
            · rw [if_neg c7] at H
              exact absurd H (by simp)
          · rw [if_neg c6] at H
            exact absurd H (by simp)
        · rw [if_neg c5] at H
          have c5b0 : decide (x13_1 < (l2.length : Int)) = false := decide_eq_false c5
          clear c5
          obtain rfl := Option.some.inj H
          go_wp2
          go_ret
          exact ⟨by first | rfl | (simp [errW_none, errW_some] <;> rfl) | (simp [*, errW_none, errW_some] <;> rfl), pb⟩

end Go.Proofs.Ytnepbpcpfeejkaa.K
