-- Printed by the prover's own turned printer (wip/printer in the prover's repo); Lean checks it.
import Derived.Test.YtnepbpcpfeejkaaK0
import Derived.Test.YtnepbpcpfeejkaaKf27
import Derived.Test.YtnepbpcpfeejkaaKf32
namespace Go.Proofs.Ytnepbpcpfeejkaa.K
open Go.RowKit Go.Proofs.YtnepbpcpfeejkaaW.PrintWords Go.Proofs.YtnepbpcpfeejkaaW.PrintLast Go.Proofs.YtnepbpcpfeejkaaW.PrintMore
attribute [local go_sem] max2_int min2_int max_two min_two max_three min_three max_four min_four   -- for this text's walks alone
set_option linter.unusedVariables false
set_option linter.unusedSimpArgs false

/-! ### squash_key: function 22 -/
mutual
def squash_key.l0 : Nat → List (S35) → List Int → Int → Bool → List (S35) → List (S35) → Int → Int → Option ((List (S35)))
  | 0, _, _, _, _, _, _, _, _ => none
  | k + 1, x0, x1, x2, x3, x9, x12, x13, x14 => if x14 < x13 then (if 0 ≤ x14 then (if x14 < (x12.length : Int) then ((squash_seen.f k x0 x14 x1).bind fun t126 => (if t126 = true then ((squash_own.f ((rd_T35 x12 x14).f0) ((rd_T35 x12 x14).f1) ((rd_T35 x12 x14).f2) ((rd_T35 x12 x14).f3) ((rd_T35 x12 x14).f4) x2).bind fun bt127 => (if x9.length < 1954687338268 then (squash_key.l0 k x0 x1 x2 x3 (x9 ++ [(⟨bt127.1, bt127.2.1, bt127.2.2.1, bt127.2.2.2.1, bt127.2.2.2.2⟩ : S35)]) x12 x13 (wrap64 (x14 + 1))) else (none))) else (squash_key.l0 k x0 x1 x2 x3 x9 x12 x13 (wrap64 (x14 + 1))))) else (none)) else (none)) else (squash_key.l1 k x3 x9)
def squash_key.l1 : Nat → Bool → List (S35) → Option ((List (S35)))
  | 0, _, _ => none
  | k + 1, x3, x9 => if x3 = true then (if (x9.length : Int) > 0 then (if 0 ≤ (wrap64 ((x9.length : Int) - 1)) then (if (wrap64 ((x9.length : Int) - 1)) < (x9.length : Int) then (if (rd_T35 x9 (wrap64 ((x9.length : Int) - 1))).f2 = true then (if (wrap64 ((x9.length : Int) - 1)) ≤ (x9.length : Int) then (squash_key.l1 k x3 (x9.take ((wrap64 ((x9.length : Int) - 1)) : Int).toNat)) else (none)) else (some x9)) else (none)) else (none)) else (some x9)) else (some x9)
end
def squash_key.f (k : Nat) (l0 : List (S35)) (l1 : List Int) (a2 : Int) (a3 : Bool) : Option ((List (S35))) := squash_key.l0 k l0 l1 a2 a3 ([] : List (S35)) l0 (l0.length : Int) 0
theorem squash_key.mono_l : ∀ k, (∀ y0 y1 y2 y3 y4 y5 y6 y7, LeO (squash_key.l0 k y0 y1 y2 y3 y4 y5 y6 y7) (squash_key.l0 (k + 1) y0 y1 y2 y3 y4 y5 y6 y7)) ∧ (∀ y0 y1, LeO (squash_key.l1 k y0 y1) (squash_key.l1 (k + 1) y0 y1))
  | 0 => ⟨fun _ _ _ _ _ _ _ _ r h => by simp [squash_key.l0] at h, fun _ _ r h => by simp [squash_key.l1] at h⟩
  | k + 1 => by
    obtain ⟨ih0, ih1⟩ := squash_key.mono_l k
    refine ⟨?_, ?_⟩
    · intro y0 y1 y2 y3 y4 y5 y6 y7
      unfold squash_key.l0
      repeat' first
      | (with_reducible exact ih0 _ _ _ _ _ _ _ _)
      | (with_reducible exact ih1 _ _)
      | (with_reducible exact squash_seen.mono _ _ _ _)
      | (with_reducible exact LeO.refl _)
      | (with_reducible exact LeO.none _)
      | (with_reducible refine LeO.ite ?_ ?_)
      | (with_reducible refine LeO.bind ?_ (fun _ => ?_))
      | exact ih0 _ _ _ _ _ _ _ _
      | exact ih1 _ _
      | exact squash_seen.mono _ _ _ _
      | exact LeO.none _
      | refine LeO.ite ?_ ?_
      | refine LeO.bind ?_ (fun _ => ?_)
    · intro y0 y1
      unfold squash_key.l1
      repeat' first
      | (with_reducible exact ih0 _ _ _ _ _ _ _ _)
      | (with_reducible exact ih1 _ _)
      | (with_reducible exact squash_seen.mono _ _ _ _)
      | (with_reducible exact LeO.refl _)
      | (with_reducible exact LeO.none _)
      | (with_reducible refine LeO.ite ?_ ?_)
      | (with_reducible refine LeO.bind ?_ (fun _ => ?_))
      | exact ih0 _ _ _ _ _ _ _ _
      | exact ih1 _ _
      | exact squash_seen.mono _ _ _ _
      | exact LeO.none _
      | refine LeO.ite ?_ ?_
      | refine LeO.bind ?_ (fun _ => ?_)
theorem squash_key.mono : ∀ a0 a1 a2 a3 k, LeO (squash_key.f k a0 a1 a2 a3) (squash_key.f (k + 1) a0 a1 a2 a3) := by
  intro a0 a1 a2 a3 k
  obtain ⟨ih0, ih1⟩ := squash_key.mono_l k
  unfold squash_key.f
  repeat' first
      | (with_reducible exact ih0 _ _ _ _ _ _ _ _)
      | (with_reducible exact ih1 _ _)
      | (with_reducible exact squash_seen.mono _ _ _ _)
      | (with_reducible exact LeO.refl _)
      | (with_reducible exact LeO.none _)
      | (with_reducible refine LeO.ite ?_ ?_)
      | (with_reducible refine LeO.bind ?_ (fun _ => ?_))
      | exact ih0 _ _ _ _ _ _ _ _
      | exact ih1 _ _
      | exact squash_seen.mono _ _ _ _
      | exact LeO.none _
      | refine LeO.ite ?_ ?_
      | refine LeO.bind ?_ (fun _ => ?_)
set_option maxHeartbeats 8000000 in
set_option maxRecDepth 100000 in
theorem squash_key.calls (k : Nat) (A0 : Option Addr) (c0 : Nat) (l0 : List (S35)) (A1 : Option Addr) (c1 : Nat) (l1 : List Int) (a2 : Int) (a3 : Bool) (r : List (S35)) (w : World) (hr0 : Kd.C k35 w A0 l0.length l0) (hc0 : l0.length ≤ c0) (hr1 : Kd.C (Kd.int .i64) w A1 l1.length l1) (hc1 : l1.length ≤ c1) (h : squash_key.f k l0 l1 a2 a3 = some r) :
    Calls Try.prog 22 #[.slice A0 l0.length c0, .slice A1 l1.length c1, .int .i64 a2, .bool a3] w fun e w' => ∃ v0_ : Value, e = .returned (v0_) ∧ Kd.S k35 35 w' w.heap.size (fun _ => True) v0_ r ∧ Below w.heap.size w w' := by
  have hu35 := Try.underlying35
  have HR0 := Aside0.mk hr0
  have HC0 := Aside0.mk hc0
  clear hr0 hc0
  have HR1 := Aside0.mk hr1
  have HC1 := Aside0.mk hc1
  clear hr1 hc1
  have HB := Aside0.mk (Below.refl w.heap.size w)
  have H : (squash_key.l0 k l0 l1 a2 a3 ([] : List (S35)) l0 (l0.length : Int) 0) = some r := h
  clear h
  have H' := Aside0.mk H
  clear H
  go_enter Try.func22, Try.ntmps22
  go_wp2
  go_loopg [9, 14] k (fun kq v9 v14 w' => ∃ (x9_1 : List (S35)) (x14_1 : Int), v14 = .int .i64 x14_1 ∧ Aside0 (squash_key.l0 kq l0 l1 a2 a3 x9_1 l0 (l0.length : Int) x14_1 = some r) ∧ Aside0 (kq ≤ k) ∧ Aside0 (Kd.S k35 35 w' w.heap.size (fun _ => True) v9 x9_1) ∧ Aside0 (Below w.heap.size w w'))
  case atStart => exact ⟨(([] : List (S35))), (0), (by first | rfl | (simp; done) | (simp [*]; done)), H', ⟨Nat.le_refl _⟩, ⟨by first | exact Kd.S_nil _ _ _ _ _ | exact Kd.N_nil _ _ _ _ _ | exact Kd.V_nil _ _ _ _ _ | exact Kd.Q_nil _ _ _ _ _ | exact Kd.R_nil _ _ _ _ _⟩, ⟨pb⟩⟩
  case round =>
    clear H'
    try clear c1
    try clear c2
    try clear p2
    obtain ⟨x9_1, x14_1, rfl, HA, HK1, HO_9, HB⟩ := hrel
    cases gk with
    | zero => exact absurd HA.out (by simp [squash_key.l0])
    | succ k1 =>
      have H := HA.out
      clear HA
      simp only [squash_key.l0] at H
      by_cases c5 : x14_1 < (l0.length : Int)
      · rw [if_pos c5] at H
        have c5b0 : decide (x14_1 < (l0.length : Int)) = true := decide_eq_true c5
        clear c5
        by_cases c6 : 0 ≤ x14_1
        · rw [if_pos c6] at H
          have c6b0 : decide (0 ≤ x14_1) = true := decide_eq_true c6
          clear c6
          by_cases c7 : x14_1 < (l0.length : Int)
          · rw [if_pos c7] at H
            have c7b0 : decide (x14_1 < (l0.length : Int)) = true := decide_eq_true c7
            clear c7
            replace H := Option.bind_eq_some_iff.mp H
            obtain ⟨t126, A80, H⟩ := H
            replace H : (if t126 = true then ((squash_own.f ((rd_T35 l0 x14_1).f0) ((rd_T35 l0 x14_1).f1) ((rd_T35 l0 x14_1).f2) ((rd_T35 l0 x14_1).f3) ((rd_T35 l0 x14_1).f4) a2).bind fun bt127 => (if x9_1.length < 1954687338268 then (squash_key.l0 k1 l0 l1 a2 a3 (x9_1 ++ [(⟨bt127.1, bt127.2.1, bt127.2.2.1, bt127.2.2.2.1, bt127.2.2.2.2⟩ : S35)]) l0 (l0.length : Int) (wrap64 (x14_1 + 1))) else (none))) else (squash_key.l0 k1 l0 l1 a2 a3 x9_1 l0 (l0.length : Int) (wrap64 (x14_1 + 1)))) = some r := H
            have A8 := Aside0.mk A80
            clear A80
            by_cases c9 : t126 = true
            · subst c9
              have H1 : ((squash_own.f ((rd_T35 l0 x14_1).f0) ((rd_T35 l0 x14_1).f1) ((rd_T35 l0 x14_1).f2) ((rd_T35 l0 x14_1).f3) ((rd_T35 l0 x14_1).f4) a2).bind fun bt127 => (if x9_1.length < 1954687338268 then (squash_key.l0 k1 l0 l1 a2 a3 (x9_1 ++ [(⟨bt127.1, bt127.2.1, bt127.2.2.1, bt127.2.2.2.1, bt127.2.2.2.2⟩ : S35)]) l0 (l0.length : Int) (wrap64 (x14_1 + 1))) else (none))) = some r := by rw [if_pos rfl] at H; exact H
              clear H
              have H := H1
              clear H1
              replace H := Option.bind_eq_some_iff.mp H
              obtain ⟨⟨t127, t130, t131, t132, t133⟩, A100, H⟩ := H
              replace H : (if x9_1.length < 1954687338268 then (squash_key.l0 k1 l0 l1 a2 a3 (x9_1 ++ [(⟨t127, t130, t131, t132, t133⟩ : S35)]) l0 (l0.length : Int) (wrap64 (x14_1 + 1))) else (none)) = some r := H
              have A10 := Aside0.mk A100
              clear A100
              by_cases c11 : x9_1.length < 1954687338268
              · rw [if_pos c11] at H
                have LMc11 := Aside0.mk c11
                clear c11
                obtain ⟨y136, hy136⟩ : ∃ y_ : List (S35), y_ = (x9_1 ++ [(⟨t127, t130, t131, t132, t133⟩ : S35)]) := ⟨_, rfl⟩
                replace H : (squash_key.l0 k1 l0 l1 a2 a3 y136 l0 (l0.length : Int) (wrap64 (x14_1 + 1))) = some r := by first | (rw [hy136]; with_reducible exact H) | (have H2_ := (Option.bind_some _ _).symm.trans H; rw [hy136]; with_reducible exact H2_) | (have H2_ := (Option.bind_some _ _).symm.trans H; with_reducible exact H2_) | with_reducible exact H | (rw [hy136]; exact H) | exact H
                have Ny136 := Aside0.mk hy136
                clear hy136
                have H' := Aside0.mk H
                clear H
                have p124 : 0 ≤ (x14_1 : Int) := pa
                have q124 : x14_1 < (l0.length : Int) := pa
                obtain ⟨ad124, A124_0, c124_0, A124_4, c124_4, e124, hx124_0, hx124_1, hx124_2, hx124_3, hx124_4, hl124_0, hi124_0, hl124_4, hi124_4⟩ := at_T35 HR0.out x14_1 p124 q124
                cases e124
                replace hx124_0 := (HB.out.cell (World.block_lt_of_cell? w _ hx124_0)).trans hx124_0
                replace hx124_1 := (HB.out.cell (World.block_lt_of_cell? w _ hx124_1)).trans hx124_1
                replace hx124_2 := (HB.out.cell (World.block_lt_of_cell? w _ hx124_2)).trans hx124_2
                replace hx124_3 := (HB.out.cell (World.block_lt_of_cell? w _ hx124_3)).trans hx124_3
                replace hx124_4 := (HB.out.cell (World.block_lt_of_cell? w _ hx124_4)).trans hx124_4
                have HR124_0 := Aside0.mk hi124_0
                have HC124_0 := Aside0.mk hl124_0
                clear hi124_0 hl124_0
                have HR124_4 := Aside0.mk hi124_4
                have HC124_4 := Aside0.mk hl124_4
                clear hi124_4 hl124_4
                replace p124 := eq_true p124
                replace q124 := eq_true q124
                go_wp2_with (first | ((with_reducible refine gate_dst (N := 11) rfl ?_); (try (refine gate_guard (by rfl) ?_; dsimp only)); refine box_event ?hg (N := 11) ?hd (cs := #[.slice none 0 0, .int .i64 0, .bool false, .int .i64 0, .slice none 0 0]) (t := 35) ?hr ?_; (case hd => rfl); (case hg => rfl); (case hr => first | (go_simp; done) | (go_simp; rfl)); intro gb125 hg w12 hbox hb; have n0_ := Aside0.mk (Kd.S_below (Kd.S_elderB (by (with_reducible repeat (first | apply Kd.S_alloc | apply Kd.S_drewN | apply Kd.S_drew)); exact HO_9.out) gb125 (Nat.le_of_eq hg.symm)) hb); have n1_ := Aside0.mk (below_step pb hb); have n2_ := Aside0.mk (hbox); have n3_ := Aside0.mk ((by rw [hg]; exact (below_size pb) : w.heap.size ≤ gb125)); have n4_ := Aside0.mk ((by rw [hg]; exact (below_size pb) : w.heap.size ≤ gb125)); clear HO_9; clear HB; have HO_9 := n0_; have HB := n1_; have BK125 := n2_; have GW125 := n3_; have GE125 := n4_; clear n0_ n1_ n2_ n3_ n4_; clear hb hbox hg; have hcz13_0 : w12.cell? ⟨gb125, 0, none⟩ = some (.slice none 0 0) := (blk_cell BK125.out 0).trans rfl; have hcz13_1 : w12.cell? ⟨gb125, 1, none⟩ = some (.int .i64 0) := (blk_cell BK125.out 1).trans rfl; have hcz13_2 : w12.cell? ⟨gb125, 2, none⟩ = some (.bool false) := (blk_cell BK125.out 2).trans rfl; have hcz13_3 : w12.cell? ⟨gb125, 3, none⟩ = some (.int .i64 0) := (blk_cell BK125.out 3).trans rfl; have hcz13_4 : w12.cell? ⟨gb125, 4, none⟩ = some (.slice none 0 0) := (blk_cell BK125.out 4).trans rfl; have hfz13_0 := blk_frozen BK125.out 0; have hfz13_1 := blk_frozen BK125.out 1; have hfz13_2 := blk_frozen BK125.out 2; have hfz13_3 := blk_frozen BK125.out 3; have hfz13_4 := blk_frozen BK125.out 4) | ((with_reducible refine gate_callee (f := 32) rfl ?_); refine goesL_ (some 22) rfl rfl Try.func32 (by kernel_rfl) rfl #[.slice (some ad124) l0.length c0, .int .i64 x14_1, .slice A1 l1.length c1] rfl pm ?_; (with_reducible refine (squash_seen.calls k1 _ _ l0 x14_1 _ _ l1 true _ ?side1 ?side2 ?side3 ?side4 A8.out).mono ?_); (case side1 => exact Kd.C_below HR0.out (by repeat (first | (with_reducible first | exact HB.out | apply below_alloc | apply pw_below_drewN | apply below_drew1 | refine below_set ?_ GE125.out) | exact HB.out))); (case side2 => exact HC0.out); (case side3 => exact Kd.C_below HR1.out (by repeat (first | (with_reducible first | exact HB.out | apply below_alloc | apply pw_below_drewN | apply below_drew1 | refine below_set ?_ GE125.out) | exact HB.out))); (case side4 => exact HC1.out); rintro e w14 ⟨rfl, hb⟩; refine ⟨_, rfl, ?_⟩; have n0_ := Aside0.mk (Kd.S_below (by (with_reducible repeat (first | apply Kd.S_alloc | apply Kd.S_drewN | apply Kd.S_drew)); exact (Kd.S_mono (Kd.S_far (p := ⟨gb125, 4, none⟩) (Kd.S_far (p := ⟨gb125, 3, none⟩) (Kd.S_far (p := ⟨gb125, 2, none⟩) (Kd.S_far (p := ⟨gb125, 1, none⟩) (Kd.S_far (p := ⟨gb125, 0, none⟩) (Kd.S_mono HO_9.out (fun k_ hk => (⟨hk, hk.2⟩ : _ ∧ k_ ≠ gb125))) (fun _ hk => hk.2) (.slice A124_0 ((rd_T35 l0 x14_1).f0).length c124_0)) (fun _ hk => hk.2) (.int .i64 ((rd_T35 l0 x14_1).f1))) (fun _ hk => hk.2) (.bool ((rd_T35 l0 x14_1).f2))) (fun _ hk => hk.2) (.int .i64 ((rd_T35 l0 x14_1).f3))) (fun _ hk => hk.2) (.slice A124_4 ((rd_T35 l0 x14_1).f4).length c124_4)) (fun _ h_ => h_.1))) hb); have n1_ := Aside0.mk (blk_below (g := gb125) (o := .cells #[.slice A124_0 ((rd_T35 l0 x14_1).f0).length c124_0, .int .i64 ((rd_T35 l0 x14_1).f1), .bool ((rd_T35 l0 x14_1).f2), .int .i64 ((rd_T35 l0 x14_1).f3), .slice A124_4 ((rd_T35 l0 x14_1).f4).length c124_4] 35 (0, 0)) (by (with_reducible repeat (first | refine blk_drewN ?_ _ | refine blk_drew ?_ | refine blk_alloc ?_ _)); refine blk_put (cs := #[.slice A124_0 ((rd_T35 l0 x14_1).f0).length c124_0, .int .i64 ((rd_T35 l0 x14_1).f1), .bool ((rd_T35 l0 x14_1).f2), .int .i64 ((rd_T35 l0 x14_1).f3), .slice none 0 0]) ?_ 4 _ rfl; (with_reducible repeat (first | refine blk_drewN ?_ _ | refine blk_drew ?_ | refine blk_alloc ?_ _)); refine blk_put (cs := #[.slice A124_0 ((rd_T35 l0 x14_1).f0).length c124_0, .int .i64 ((rd_T35 l0 x14_1).f1), .bool ((rd_T35 l0 x14_1).f2), .int .i64 0, .slice none 0 0]) ?_ 3 _ rfl; (with_reducible repeat (first | refine blk_drewN ?_ _ | refine blk_drew ?_ | refine blk_alloc ?_ _)); refine blk_put (cs := #[.slice A124_0 ((rd_T35 l0 x14_1).f0).length c124_0, .int .i64 ((rd_T35 l0 x14_1).f1), .bool false, .int .i64 0, .slice none 0 0]) ?_ 2 _ rfl; (with_reducible repeat (first | refine blk_drewN ?_ _ | refine blk_drew ?_ | refine blk_alloc ?_ _)); refine blk_put (cs := #[.slice A124_0 ((rd_T35 l0 x14_1).f0).length c124_0, .int .i64 0, .bool false, .int .i64 0, .slice none 0 0]) ?_ 1 _ rfl; (with_reducible repeat (first | refine blk_drewN ?_ _ | refine blk_drew ?_ | refine blk_alloc ?_ _)); refine blk_put (cs := #[.slice none 0 0, .int .i64 0, .bool false, .int .i64 0, .slice none 0 0]) ?_ 0 _ rfl; (with_reducible repeat (first | refine blk_drewN ?_ _ | refine blk_drew ?_ | refine blk_alloc ?_ _)); exact BK125.out) hb); have n2_ := Aside0.mk (below_step (by repeat (first | (with_reducible first | exact HB.out | apply below_alloc | apply pw_below_drewN | apply below_drew1 | refine below_set ?_ GE125.out) | exact HB.out)) hb); clear HO_9; clear BK125; clear HB; have HO_9 := n0_; have BK125 := n1_; have HB := n2_; clear n0_ n1_ n2_; (try clear hb); (try clear hb2); (try clear hk); (try clear hi); have hcz15_0 : w14.cell? ⟨gb125, 0, none⟩ = some (.slice A124_0 ((rd_T35 l0 x14_1).f0).length c124_0) := (blk_cell BK125.out 0).trans rfl; have hcz15_1 : w14.cell? ⟨gb125, 1, none⟩ = some (.int .i64 ((rd_T35 l0 x14_1).f1)) := (blk_cell BK125.out 1).trans rfl; have hcz15_2 : w14.cell? ⟨gb125, 2, none⟩ = some (.bool ((rd_T35 l0 x14_1).f2)) := (blk_cell BK125.out 2).trans rfl; have hcz15_3 : w14.cell? ⟨gb125, 3, none⟩ = some (.int .i64 ((rd_T35 l0 x14_1).f3)) := (blk_cell BK125.out 3).trans rfl; have hcz15_4 : w14.cell? ⟨gb125, 4, none⟩ = some (.slice A124_4 ((rd_T35 l0 x14_1).f4).length c124_4) := (blk_cell BK125.out 4).trans rfl; have hfz15_0 := blk_frozen BK125.out 0; have hfz15_1 := blk_frozen BK125.out 1; have hfz15_2 := blk_frozen BK125.out 2; have hfz15_3 := blk_frozen BK125.out 3; have hfz15_4 := blk_frozen BK125.out 4) | ((with_reducible refine gate_callee (f := 27) rfl ?_); refine goesL_ (some 26) rfl rfl Try.func27 (by kernel_rfl) rfl #[.agg #[.slice A124_0 ((rd_T35 l0 x14_1).f0).length c124_0, .int .i64 ((rd_T35 l0 x14_1).f1), .bool ((rd_T35 l0 x14_1).f2), .int .i64 ((rd_T35 l0 x14_1).f3), .slice A124_4 ((rd_T35 l0 x14_1).f4).length c124_4], .int .i64 a2] rfl pm ?_; (with_reducible refine (squash_own.calls _ _ ((rd_T35 l0 x14_1).f0) ((rd_T35 l0 x14_1).f1) ((rd_T35 l0 x14_1).f2) ((rd_T35 l0 x14_1).f3) _ _ ((rd_T35 l0 x14_1).f4) a2 t127 t130 t131 t132 t133 _ ?side1 ?side2 ?side3 ?side4 A10.out).mono ?_); (case side1 => repeat (first | exact (Kd.C_below HR124_0.out HB.out) | (with_reducible refine Kd.C_alloc ?_ _) | (with_reducible refine Kd.C_drewN ?_ _) | (with_reducible refine Kd.C_drew ?_))); (case side2 => exact HC124_0.out); (case side3 => repeat (first | exact (Kd.C_below HR124_4.out HB.out) | (with_reducible refine Kd.C_alloc ?_ _) | (with_reducible refine Kd.C_drewN ?_ _) | (with_reducible refine Kd.C_drew ?_))); (case side4 => exact HC124_4.out); rintro e w16 ⟨v128, v134, rfl, ho0, ho1, hb⟩; refine ⟨_, rfl, ?_⟩; have n0_ := Aside0.mk (Kd.S_mono (Kd.S_told (Kd.S_told (Kd.S_old (by (with_reducible repeat (first | apply Kd.S_alloc | apply Kd.S_drewN | apply Kd.S_drew)); exact HO_9.out) hb) (Kd.R_base ho0)) (Kd.R_base ho1)) (fun _ h_ => h_.1)); have n1_ := Aside0.mk (Kd.R_lower ho0 (below_size (by repeat (first | (with_reducible first | exact HB.out | apply below_alloc | apply pw_below_drewN | apply below_drew1 | refine below_set ?_ GE125.out) | exact HB.out)))); have n2_ := Aside0.mk (Kd.R_lower ho1 (below_size (by repeat (first | (with_reducible first | exact HB.out | apply below_alloc | apply pw_below_drewN | apply below_drew1 | refine below_set ?_ GE125.out) | exact HB.out)))); have n3_ := Aside0.mk (blk_below (g := gb125) (o := .cells #[.slice A124_0 ((rd_T35 l0 x14_1).f0).length c124_0, .int .i64 ((rd_T35 l0 x14_1).f1), .bool ((rd_T35 l0 x14_1).f2), .int .i64 ((rd_T35 l0 x14_1).f3), .slice A124_4 ((rd_T35 l0 x14_1).f4).length c124_4] 35 (0, 0)) (by (with_reducible repeat (first | refine blk_drewN ?_ _ | refine blk_drew ?_ | refine blk_alloc ?_ _)); exact BK125.out) hb); have n4_ := Aside0.mk (below_step (by repeat (first | (with_reducible first | exact HB.out | apply below_alloc | apply pw_below_drewN | apply below_drew1 | refine below_set ?_ GE125.out) | exact HB.out)) hb); clear HO_9; clear BK125; clear HB; have HO_9 := n0_; have HO129 := n1_; have HO135 := n2_; have BK125 := n3_; have HB := n4_; clear n0_ n1_ n2_ n3_ n4_; (try clear hb); (try clear hb2); (try clear hk); (try clear hi); (try clear ho0); (try clear ho1); obtain ⟨Ao18, co18, eo18⟩ := Kd.R_slice HO129.out; subst eo18; obtain ⟨Ao19, co19, eo19⟩ := Kd.R_slice HO135.out; subst eo19) | ((with_reducible refine gate_builtin (b := .append) (xs := #[.tmp 23, .tmp 27]) rfl ?_); (try (refine gate_guard (by rfl) ?_; dsimp only)); at_builtin; refine Kd.S_append k35 (w0 := w) w.heap.size rfl (.tmp 23) (.tmp 27) 22 35 (.agg #[(.slice none 0 0), (.int .i64 0), (.bool false), (.int .i64 0), (.slice none 0 0)]) 72 rfl Try.underlying22 info35 rfl (by decide) (by omega) u9 x9_1 (⟨t127, t130, t131, t132, t133⟩ : S35) [.slice Ao18 t127.length co18, .int .i64 t130, .bool t131, .int .i64 t132, .slice Ao19 t133.length co19] (fun k_ => k_ ≠ gb125) (fun k_ => some k_ = (.slice Ao18 t127.length co18 : Value).ownBlock ∨ some k_ = (.slice Ao19 t133.length co19 : Value).ownBlock) rfl rfl ?aP (fun k_ hk_ => hk_.elim (fun h_ => ((Kd.R_mono (ok' := fun k_ => ((fun k_ => k_ ≠ gb125)) k_ ∧ some k_ ≠ (u9 : Value).ownBlock) (Kd.R_types (Kd.R_apart' (HO129.out) (Kd.S_typed HO_9.out) (by decide)) BK125.out (by decide)) (fun k_ hk => ⟨hk.2, hk.1.2⟩))).1 k_ h_.symm) (fun h_ => ((Kd.R_mono (ok' := fun k_ => ((fun k_ => k_ ≠ gb125)) k_ ∧ some k_ ≠ (u9 : Value).ownBlock) (Kd.R_types (Kd.R_apart' (HO135.out) (Kd.S_typed HO_9.out) (by decide)) BK125.out (by decide)) (fun k_ hk => ⟨hk.2, hk.1.2⟩))).1 k_ h_.symm)) ?aF ?aO ?aB ?aS ?aL ?_; (case aP => exact k35_mkM _ _ _ (⟨t127, t130, t131, t132, t133⟩ : S35) (Kd.R_mono (Kd.R_tight rfl (Kd.R_mono (ok' := fun k_ => ((fun k_ => k_ ≠ gb125)) k_ ∧ some k_ ≠ (u9 : Value).ownBlock) (Kd.R_types (Kd.R_apart' (HO129.out) (Kd.S_typed HO_9.out) (by decide)) BK125.out (by decide)) (fun k_ hk => ⟨hk.2, hk.1.2⟩))) (fun _ h_ => Or.inl h_)) (Kd.R_mono (Kd.R_tight rfl (Kd.R_mono (ok' := fun k_ => ((fun k_ => k_ ≠ gb125)) k_ ∧ some k_ ≠ (u9 : Value).ownBlock) (Kd.R_types (Kd.R_apart' (HO135.out) (Kd.S_typed HO_9.out) (by decide)) BK125.out (by decide)) (fun k_ hk => ⟨hk.2, hk.1.2⟩))) (fun _ h_ => Or.inr (h_)))); (case aB => exact (by repeat (first | (with_reducible first | exact HB.out | apply below_alloc | apply pw_below_drewN | apply below_drew1 | refine below_set ?_ GE125.out) | exact HB.out))); (case aF => exact (fun k_ hk => Kd.freshB (g := gb125) (o := .cells #[.slice A124_0 ((rd_T35 l0 x14_1).f0).length c124_0, .int .i64 ((rd_T35 l0 x14_1).f1), .bool ((rd_T35 l0 x14_1).f2), .int .i64 ((rd_T35 l0 x14_1).f3), .slice A124_4 ((rd_T35 l0 x14_1).f4).length c124_4] 35 (0, 0)) (by (with_reducible repeat (first | refine blk_drewN ?_ _ | refine blk_drew ?_ | refine blk_alloc ?_ _)); exact BK125.out) k_ hk)); (case aO => exact (by (with_reducible repeat (first | apply Kd.S_alloc | apply Kd.S_drewN | apply Kd.S_drew)); exact Kd.S_mono HO_9.out (fun k_ hk => ⟨hk.1.1.2, fun e_ => e_.elim (fun h_ => hk.1.2 h_) (fun h_ => hk.2 h_)⟩))); (case aS => exact (below_size (by repeat (first | (with_reducible first | exact HB.out | apply below_alloc | apply pw_below_drewN | apply below_drew1 | refine below_set ?_ GE125.out) | exact HB.out)))); (case aL => have := LMc11.out; omega); intro v137 w17 ho hb hg hat; rw [← Ny136.out] at ho; have n0_ := Aside0.mk (blk_grown (g := gb125) (o := .cells #[.slice A124_0 ((rd_T35 l0 x14_1).f0).length c124_0, .int .i64 ((rd_T35 l0 x14_1).f1), .bool ((rd_T35 l0 x14_1).f2), .int .i64 ((rd_T35 l0 x14_1).f3), .slice A124_4 ((rd_T35 l0 x14_1).f4).length c124_4] 35 (0, 0)) (by (with_reducible repeat (first | refine blk_drewN ?_ _ | refine blk_drew ?_ | refine blk_alloc ?_ _)); exact BK125.out) hg (Kd.S_away HO_9.out (fun _ hk => hk.1.1.2))); have n1_ := Aside0.mk (hb); have n2_ := Aside0.mk (ho); clear BK125; clear HB; clear HO_9; clear HO129; clear HO135; have BK125 := n0_; have HB := n1_; have HO138 := n2_; clear n0_ n1_ n2_; clear ho hb hg hat))
                go_roundg k1
                case measure => have := HK1.out; omega
                case rel => exact ⟨(y136), (wrap64 (x14_1 + 1)), (by first | rfl | (simp; done) | (simp [*]; done)), H', ⟨by have := HK1.out; omega⟩, ⟨by (with_reducible repeat (first | apply Kd.S_alloc | apply Kd.S_drewN | apply Kd.S_drew)); exact Kd.S_mono HO138.out (fun _ hk => trivial)⟩, ⟨by repeat (first | (with_reducible first | exact HB.out | apply below_alloc | apply pw_below_drewN | apply below_drew1 | refine below_set ?_ GE125.out) | exact HB.out)⟩⟩
              · rw [if_neg c11] at H
                exact absurd H (by simp)
            · replace c9 := Bool.eq_false_iff.mpr c9
              subst c9
              have H1 : (squash_key.l0 k1 l0 l1 a2 a3 x9_1 l0 (l0.length : Int) (wrap64 (x14_1 + 1))) = some r := by rw [if_neg (show ¬ (false = true) by decide)] at H; exact H
              clear H
              have H := H1
              clear H1
              have H' := Aside0.mk H
              clear H
              have p124 : 0 ≤ (x14_1 : Int) := pa
              have q124 : x14_1 < (l0.length : Int) := pa
              obtain ⟨ad124, A124_0, c124_0, A124_4, c124_4, e124, hx124_0, hx124_1, hx124_2, hx124_3, hx124_4, hl124_0, hi124_0, hl124_4, hi124_4⟩ := at_T35 HR0.out x14_1 p124 q124
              cases e124
              replace hx124_0 := (HB.out.cell (World.block_lt_of_cell? w _ hx124_0)).trans hx124_0
              replace hx124_1 := (HB.out.cell (World.block_lt_of_cell? w _ hx124_1)).trans hx124_1
              replace hx124_2 := (HB.out.cell (World.block_lt_of_cell? w _ hx124_2)).trans hx124_2
              replace hx124_3 := (HB.out.cell (World.block_lt_of_cell? w _ hx124_3)).trans hx124_3
              replace hx124_4 := (HB.out.cell (World.block_lt_of_cell? w _ hx124_4)).trans hx124_4
              have HR124_0 := Aside0.mk hi124_0
              have HC124_0 := Aside0.mk hl124_0
              clear hi124_0 hl124_0
              have HR124_4 := Aside0.mk hi124_4
              have HC124_4 := Aside0.mk hl124_4
              clear hi124_4 hl124_4
              replace p124 := eq_true p124
              replace q124 := eq_true q124
              go_wp2_with (first | ((with_reducible refine gate_dst (N := 11) rfl ?_); (try (refine gate_guard (by rfl) ?_; dsimp only)); refine box_event ?hg (N := 11) ?hd (cs := #[.slice none 0 0, .int .i64 0, .bool false, .int .i64 0, .slice none 0 0]) (t := 35) ?hr ?_; (case hd => rfl); (case hg => rfl); (case hr => first | (go_simp; done) | (go_simp; rfl)); intro gb125 hg w20 hbox hb; have n0_ := Aside0.mk (Kd.S_below (Kd.S_elderB (by (with_reducible repeat (first | apply Kd.S_alloc | apply Kd.S_drewN | apply Kd.S_drew)); exact HO_9.out) gb125 (Nat.le_of_eq hg.symm)) hb); have n1_ := Aside0.mk (below_step pb hb); have n2_ := Aside0.mk (hbox); have n3_ := Aside0.mk ((by rw [hg]; exact (below_size pb) : w.heap.size ≤ gb125)); have n4_ := Aside0.mk ((by rw [hg]; exact (below_size pb) : w.heap.size ≤ gb125)); clear HO_9; clear HB; have HO_9 := n0_; have HB := n1_; have BK125 := n2_; have GW125 := n3_; have GE125 := n4_; clear n0_ n1_ n2_ n3_ n4_; clear hb hbox hg; have hcz21_0 : w20.cell? ⟨gb125, 0, none⟩ = some (.slice none 0 0) := (blk_cell BK125.out 0).trans rfl; have hcz21_1 : w20.cell? ⟨gb125, 1, none⟩ = some (.int .i64 0) := (blk_cell BK125.out 1).trans rfl; have hcz21_2 : w20.cell? ⟨gb125, 2, none⟩ = some (.bool false) := (blk_cell BK125.out 2).trans rfl; have hcz21_3 : w20.cell? ⟨gb125, 3, none⟩ = some (.int .i64 0) := (blk_cell BK125.out 3).trans rfl; have hcz21_4 : w20.cell? ⟨gb125, 4, none⟩ = some (.slice none 0 0) := (blk_cell BK125.out 4).trans rfl; have hfz21_0 := blk_frozen BK125.out 0; have hfz21_1 := blk_frozen BK125.out 1; have hfz21_2 := blk_frozen BK125.out 2; have hfz21_3 := blk_frozen BK125.out 3; have hfz21_4 := blk_frozen BK125.out 4) | ((with_reducible refine gate_callee (f := 32) rfl ?_); refine goesL_ (some 22) rfl rfl Try.func32 (by kernel_rfl) rfl #[.slice (some ad124) l0.length c0, .int .i64 x14_1, .slice A1 l1.length c1] rfl pm ?_; (with_reducible refine (squash_seen.calls k1 _ _ l0 x14_1 _ _ l1 false _ ?side1 ?side2 ?side3 ?side4 A8.out).mono ?_); (case side1 => exact Kd.C_below HR0.out (by repeat (first | (with_reducible first | exact HB.out | apply below_alloc | apply pw_below_drewN | apply below_drew1 | refine below_set ?_ GE125.out) | exact HB.out))); (case side2 => exact HC0.out); (case side3 => exact Kd.C_below HR1.out (by repeat (first | (with_reducible first | exact HB.out | apply below_alloc | apply pw_below_drewN | apply below_drew1 | refine below_set ?_ GE125.out) | exact HB.out))); (case side4 => exact HC1.out); rintro e w22 ⟨rfl, hb⟩; refine ⟨_, rfl, ?_⟩; have n0_ := Aside0.mk (Kd.S_below (by (with_reducible repeat (first | apply Kd.S_alloc | apply Kd.S_drewN | apply Kd.S_drew)); exact (Kd.S_mono (Kd.S_far (p := ⟨gb125, 4, none⟩) (Kd.S_far (p := ⟨gb125, 3, none⟩) (Kd.S_far (p := ⟨gb125, 2, none⟩) (Kd.S_far (p := ⟨gb125, 1, none⟩) (Kd.S_far (p := ⟨gb125, 0, none⟩) (Kd.S_mono HO_9.out (fun k_ hk => (⟨hk, hk.2⟩ : _ ∧ k_ ≠ gb125))) (fun _ hk => hk.2) (.slice A124_0 ((rd_T35 l0 x14_1).f0).length c124_0)) (fun _ hk => hk.2) (.int .i64 ((rd_T35 l0 x14_1).f1))) (fun _ hk => hk.2) (.bool ((rd_T35 l0 x14_1).f2))) (fun _ hk => hk.2) (.int .i64 ((rd_T35 l0 x14_1).f3))) (fun _ hk => hk.2) (.slice A124_4 ((rd_T35 l0 x14_1).f4).length c124_4)) (fun _ h_ => h_.1))) hb); have n1_ := Aside0.mk (blk_below (g := gb125) (o := .cells #[.slice A124_0 ((rd_T35 l0 x14_1).f0).length c124_0, .int .i64 ((rd_T35 l0 x14_1).f1), .bool ((rd_T35 l0 x14_1).f2), .int .i64 ((rd_T35 l0 x14_1).f3), .slice A124_4 ((rd_T35 l0 x14_1).f4).length c124_4] 35 (0, 0)) (by (with_reducible repeat (first | refine blk_drewN ?_ _ | refine blk_drew ?_ | refine blk_alloc ?_ _)); refine blk_put (cs := #[.slice A124_0 ((rd_T35 l0 x14_1).f0).length c124_0, .int .i64 ((rd_T35 l0 x14_1).f1), .bool ((rd_T35 l0 x14_1).f2), .int .i64 ((rd_T35 l0 x14_1).f3), .slice none 0 0]) ?_ 4 _ rfl; (with_reducible repeat (first | refine blk_drewN ?_ _ | refine blk_drew ?_ | refine blk_alloc ?_ _)); refine blk_put (cs := #[.slice A124_0 ((rd_T35 l0 x14_1).f0).length c124_0, .int .i64 ((rd_T35 l0 x14_1).f1), .bool ((rd_T35 l0 x14_1).f2), .int .i64 0, .slice none 0 0]) ?_ 3 _ rfl; (with_reducible repeat (first | refine blk_drewN ?_ _ | refine blk_drew ?_ | refine blk_alloc ?_ _)); refine blk_put (cs := #[.slice A124_0 ((rd_T35 l0 x14_1).f0).length c124_0, .int .i64 ((rd_T35 l0 x14_1).f1), .bool false, .int .i64 0, .slice none 0 0]) ?_ 2 _ rfl; (with_reducible repeat (first | refine blk_drewN ?_ _ | refine blk_drew ?_ | refine blk_alloc ?_ _)); refine blk_put (cs := #[.slice A124_0 ((rd_T35 l0 x14_1).f0).length c124_0, .int .i64 0, .bool false, .int .i64 0, .slice none 0 0]) ?_ 1 _ rfl; (with_reducible repeat (first | refine blk_drewN ?_ _ | refine blk_drew ?_ | refine blk_alloc ?_ _)); refine blk_put (cs := #[.slice none 0 0, .int .i64 0, .bool false, .int .i64 0, .slice none 0 0]) ?_ 0 _ rfl; (with_reducible repeat (first | refine blk_drewN ?_ _ | refine blk_drew ?_ | refine blk_alloc ?_ _)); exact BK125.out) hb); have n2_ := Aside0.mk (below_step (by repeat (first | (with_reducible first | exact HB.out | apply below_alloc | apply pw_below_drewN | apply below_drew1 | refine below_set ?_ GE125.out) | exact HB.out)) hb); clear HO_9; clear BK125; clear HB; have HO_9 := n0_; have BK125 := n1_; have HB := n2_; clear n0_ n1_ n2_; (try clear hb); (try clear hb2); (try clear hk); (try clear hi)))
              go_roundg k1
              case measure => have := HK1.out; omega
              case rel => exact ⟨(x9_1), (wrap64 (x14_1 + 1)), (by first | rfl | (simp; done) | (simp [*]; done)), H', ⟨by have := HK1.out; omega⟩, ⟨by (with_reducible repeat (first | apply Kd.S_alloc | apply Kd.S_drewN | apply Kd.S_drew)); exact Kd.S_mono HO_9.out (fun _ hk => trivial)⟩, ⟨by repeat (first | (with_reducible first | exact HB.out | apply below_alloc | apply pw_below_drewN | apply below_drew1 | refine below_set ?_ GE125.out) | exact HB.out)⟩⟩
          · rw [if_neg c7] at H
            exact absurd H (by simp)
        · rw [if_neg c6] at H
          exact absurd H (by simp)
      · rw [if_neg c5] at H
        have c5b0 : decide (x14_1 < (l0.length : Int)) = false := decide_eq_false c5
        clear c5
        have H' := Aside0.mk H
        clear H
        go_wp2
        go_loopg [9] k1 (fun kq v9 w' => ∃ (x9_2 : List (S35)), Aside0 (squash_key.l1 kq a3 x9_2 = some r) ∧ Aside0 (kq ≤ k1) ∧ Aside0 (Kd.S k35 35 w' w.heap.size (fun _ => True) v9 x9_2) ∧ Aside0 (Below w.heap.size w w'))
        case atStart => exact ⟨(x9_1), H', ⟨Nat.le_refl _⟩, ⟨by (with_reducible repeat (first | apply Kd.S_alloc | apply Kd.S_drewN | apply Kd.S_drew)); exact HO_9.out⟩, ⟨pb⟩⟩
        case round =>
          clear H'
          try clear c1
          try clear p1
          try clear q1
          try clear hx1
          try clear c2
          try clear p2
          try clear c3
          try clear c5
          try clear c5b0
          try clear c6
          try clear c6b0
          try clear p6
          try clear c7
          try clear c7b0
          try clear c9
          try clear c11
          try clear c12
          try clear p12
          try clear q12
          try clear hx12
          try clear c22
          try clear hcz13_0
          try clear hcz13_1
          try clear hcz13_2
          try clear hcz13_3
          try clear hcz13_4
          try clear hcz15_0
          try clear hcz15_1
          try clear hcz15_2
          try clear hcz15_3
          try clear hcz15_4
          try clear hcz21_0
          try clear hcz21_1
          try clear hcz21_2
          try clear hcz21_3
          try clear hcz21_4
          try clear hfz13_0
          try clear hfz13_1
          try clear hfz13_2
          try clear hfz13_3
          try clear hfz13_4
          try clear hfz15_0
          try clear hfz15_1
          try clear hfz15_2
          try clear hfz15_3
          try clear hfz15_4
          try clear hfz21_0
          try clear hfz21_1
          try clear hfz21_2
          try clear hfz21_3
          try clear hfz21_4
          try clear hx124_0
          try clear hx124_1
          try clear hx124_2
          try clear hx124_3
          try clear hx124_4
          try clear p124
          try clear p2
          try clear q124
          obtain ⟨x9_2, HA, HK2, HO_9, HB⟩ := hrel
          cases gk with
          | zero => exact absurd HA.out (by simp [squash_key.l1])
          | succ k2 =>
            have H := HA.out
            clear HA
            simp only [squash_key.l1] at H
            by_cases c23 : a3 = true
            · subst c23
              have H1 : (if (x9_2.length : Int) > 0 then (if 0 ≤ (wrap64 ((x9_2.length : Int) - 1)) then (if (wrap64 ((x9_2.length : Int) - 1)) < (x9_2.length : Int) then (if (rd_T35 x9_2 (wrap64 ((x9_2.length : Int) - 1))).f2 = true then (if (wrap64 ((x9_2.length : Int) - 1)) ≤ (x9_2.length : Int) then (squash_key.l1 k2 true (x9_2.take ((wrap64 ((x9_2.length : Int) - 1)) : Int).toNat)) else (none)) else (some x9_2)) else (none)) else (none)) else (some x9_2)) = some r := by rw [if_pos rfl] at H; exact H
              clear H
              have H := H1
              clear H1
              by_cases c24 : (x9_2.length : Int) > 0
              · rw [if_pos c24] at H
                have c24b0 : decide (0 < (x9_2.length : Int)) = true := decide_eq_true c24
                have c24b1 : decide (0 < x9_2.length) = true := decide_eq_true (by omega)
                clear c24
                obtain ⟨ji25, hji25⟩ : ∃ j_ : Int, (wrap64 ((x9_2.length : Int) - 1)) = j_ := ⟨_, rfl⟩
                replace H : (if 0 ≤ (ji25) then (if (ji25) < (x9_2.length : Int) then (if (rd_T35 x9_2 (ji25)).f2 = true then (if (ji25) ≤ (x9_2.length : Int) then (squash_key.l1 k2 true (x9_2.take ((ji25) : Int).toNat)) else (none)) else (some x9_2)) else (none)) else (none)) = some r := by first | (rw [hji25] at H; exact H) | (simp only [hji25] at H ⊢; exact H)
                have hji25w : (IntKind.i64.wrap ((x9_2.length : Int) - 1)) = ji25 := (i64_w _).trans hji25
                by_cases c26 : 0 ≤ (ji25)
                · rw [if_pos c26] at H
                  have c26b0 : decide (0 ≤ (ji25)) = true := decide_eq_true c26
                  clear c26
                  by_cases c27 : (ji25) < (x9_2.length : Int)
                  · rw [if_pos c27] at H
                    have c27b0 : decide ((ji25) < (x9_2.length : Int)) = true := decide_eq_true c27
                    clear c27
                    obtain ⟨bq28, hbq28⟩ : ∃ b_ : Bool, b_ = ((rd_T35 x9_2 (ji25)).f2) := ⟨_, rfl⟩
                    replace H : (if bq28 = true then (if (ji25) ≤ (x9_2.length : Int) then (squash_key.l1 k2 true (x9_2.take ((ji25) : Int).toNat)) else (none)) else (some x9_2)) = some r := by rw [← hbq28] at H; exact H
                    have Nbq28 := Aside0.mk hbq28
                    clear hbq28
                    by_cases c29 : bq28 = true
                    · subst c29
                      have H1 : (if (ji25) ≤ (x9_2.length : Int) then (squash_key.l1 k2 true (x9_2.take ((ji25) : Int).toNat)) else (none)) = some r := by rw [if_pos rfl] at H; exact H
                      clear H
                      have H := H1
                      clear H1
                      by_cases c30 : (ji25) ≤ (x9_2.length : Int)
                      · rw [if_pos c30] at H
                        have c30b0 := eq_true c30
                        have c30b1 : decide ((ji25) ≤ (x9_2.length : Int)) = true := decide_eq_true c30
                        clear c30
                        obtain ⟨y140, hy140⟩ : ∃ y_ : List (S35), y_ = (x9_2.take ((ji25) : Int).toNat) := ⟨_, rfl⟩
                        replace H : (squash_key.l1 k2 true y140) = some r := by first | (rw [hy140]; with_reducible exact H) | (have H2_ := (Option.bind_some _ _).symm.trans H; rw [hy140]; with_reducible exact H2_) | (have H2_ := (Option.bind_some _ _).symm.trans H; with_reducible exact H2_) | with_reducible exact H | (rw [hy140]; exact H) | exact H
                        have Ny140 := Aside0.mk hy140
                        clear hy140
                        have H' := Aside0.mk H
                        clear H
                        obtain ⟨Ao31, co31, eo31⟩ := Kd.S_slice HO_9.out
                        subst eo31
                        have p139 : 0 ≤ ((ji25) : Int) := pa
                        have q139 : (ji25) < (x9_2.length : Int) := pa
                        obtain ⟨ad139, A139_0, c139_0, A139_4, c139_4, e139, hx139_0, hx139_1, hx139_2, hx139_3, hx139_4, hl139_0, hi139_0, hl139_4, hi139_4⟩ := at_T35 (Kd.S_reads' HO_9.out).2.2 (ji25) p139 q139
                        (try rw [← Nbq28.out] at hx139_2)
                        cases e139
                        obtain ⟨ce139, hce139, hMe139, hcc139⟩ := Kd.S_get HO_9.out z35 (ji25) p139 (by first | exact q139 | exact pa | (have e_ := (Kd.S_reads' HO_9.out).1; omega))
                        obtain ⟨ve139_0, ve139_4, rfl, ge139_0, ge139_4⟩ := k35_openM hMe139
                        have hv139_0 := hcc139 0 _ rfl
                        rw [Nat.add_zero] at hv139_0
                        replace hv139_0 := Option.some.inj (hv139_0.symm.trans hx139_0)
                        rw [hv139_0] at ge139_0
                        have HL139_0 := Aside0.mk (show Kd.R (Kd.int .u8) 5 _ _ _ _ ((rd_T35 x9_2 (ji25)).f0) from ge139_0)
                        clear hv139_0 ge139_0
                        have hv139_4 := hcc139 4 _ rfl
                        rw [add_field _ _ 4 (by omega)] at hv139_4
                        replace hv139_4 := Option.some.inj (hv139_4.symm.trans hx139_4)
                        rw [hv139_4] at ge139_4
                        have HL139_4 := Aside0.mk (show Kd.R (Kd.int .u8) 5 _ _ _ _ ((rd_T35 x9_2 (ji25)).f4) from ge139_4)
                        clear hv139_4 ge139_4
                        clear hcc139 hce139
                        have HR139_0 := Aside0.mk hi139_0
                        have HC139_0 := Aside0.mk hl139_0
                        clear hi139_0 hl139_0
                        have HR139_4 := Aside0.mk hi139_4
                        have HC139_4 := Aside0.mk hl139_4
                        clear hi139_4 hl139_4
                        replace p139 := eq_true p139
                        replace q139 := eq_true q139
                        have q32 : ((ji25) : Int) ≤ ((x9_2.length : Int) : Int) := pa
                        obtain ⟨i032, hi032, _, hsz32, _⟩ := info_parts info35
                        have hcut32 := cut_to (P := Try.prog) 22 35 .i64 Try.underlying22 hi032 (some ad139) x9_2.length co31 (ji25) (pa) q32 (Kd.S_reads' HO_9.out).2.1
                        have hr32 := Kd.S_take (m := ((ji25) : Int).toNat) HO_9.out (by omega)
                        have hy32 : y140.length = ((ji25) : Int).toNat := (by rw [Ny140.out, List.length_take]; omega)
                        rw [← Ny140.out] at hr32
                        rw [← hy32] at hr32 hcut32
                        clear hy32 hi032 hsz32 HO_9
                        have HO142 := Aside0.mk hr32
                        clear hr32
                        replace q32 := eq_true q32
                        go_wp2
                        go_roundg k2
                        case measure => have := HK1.out; have := HK2.out; omega
                        case rel => exact ⟨(y140), H', ⟨by have := HK1.out; have := HK2.out; omega⟩, ⟨by (with_reducible repeat (first | apply Kd.S_alloc | apply Kd.S_drewN | apply Kd.S_drew)); exact HO142.out⟩, ⟨pb⟩⟩
                      · rw [if_neg c30] at H
                        exact absurd H (by simp)
                    · replace c29 := Bool.eq_false_iff.mpr c29
                      subst c29
                      have H1 : (some x9_2) = some r := by rw [if_neg (show ¬ (false = true) by decide)] at H; exact H
                      clear H
                      have H := H1
                      clear H1
                      obtain rfl := Option.some.inj H
                      obtain ⟨Ao33, co33, eo33⟩ := Kd.S_slice HO_9.out
                      subst eo33
                      have p139 : 0 ≤ ((ji25) : Int) := pa
                      have q139 : (ji25) < (x9_2.length : Int) := pa
                      obtain ⟨ad139, A139_0, c139_0, A139_4, c139_4, e139, hx139_0, hx139_1, hx139_2, hx139_3, hx139_4, hl139_0, hi139_0, hl139_4, hi139_4⟩ := at_T35 (Kd.S_reads' HO_9.out).2.2 (ji25) p139 q139
                      (try rw [← Nbq28.out] at hx139_2)
                      cases e139
                      obtain ⟨ce139, hce139, hMe139, hcc139⟩ := Kd.S_get HO_9.out z35 (ji25) p139 (by first | exact q139 | exact pa | (have e_ := (Kd.S_reads' HO_9.out).1; omega))
                      obtain ⟨ve139_0, ve139_4, rfl, ge139_0, ge139_4⟩ := k35_openM hMe139
                      have hv139_0 := hcc139 0 _ rfl
                      rw [Nat.add_zero] at hv139_0
                      replace hv139_0 := Option.some.inj (hv139_0.symm.trans hx139_0)
                      rw [hv139_0] at ge139_0
                      have HL139_0 := Aside0.mk (show Kd.R (Kd.int .u8) 5 _ _ _ _ ((rd_T35 x9_2 (ji25)).f0) from ge139_0)
                      clear hv139_0 ge139_0
                      have hv139_4 := hcc139 4 _ rfl
                      rw [add_field _ _ 4 (by omega)] at hv139_4
                      replace hv139_4 := Option.some.inj (hv139_4.symm.trans hx139_4)
                      rw [hv139_4] at ge139_4
                      have HL139_4 := Aside0.mk (show Kd.R (Kd.int .u8) 5 _ _ _ _ ((rd_T35 x9_2 (ji25)).f4) from ge139_4)
                      clear hv139_4 ge139_4
                      clear hcc139 hce139
                      have HR139_0 := Aside0.mk hi139_0
                      have HC139_0 := Aside0.mk hl139_0
                      clear hi139_0 hl139_0
                      have HR139_4 := Aside0.mk hi139_4
                      have HC139_4 := Aside0.mk hl139_4
                      clear hi139_4 hl139_4
                      replace p139 := eq_true p139
                      replace q139 := eq_true q139
                      go_wp2
                      go_ret
                      exact ⟨_, by first | rfl | (simp [errW_none, errW_some] <;> rfl) | (simp only [← hji25]; first | rfl | (simp [errW_none, errW_some] <;> rfl)) | (simp [*, errW_none, errW_some] <;> rfl), by (with_reducible repeat (first | apply Kd.S_alloc | apply Kd.S_drewN | apply Kd.S_drew)); exact HO_9.out, pb⟩
                  · rw [if_neg c27] at H
                    exact absurd H (by simp)
                · rw [if_neg c26] at H
                  exact absurd H (by simp)
              · rw [if_neg c24] at H
                have c24b0 : decide (0 < (x9_2.length : Int)) = false := decide_eq_false c24
                have c24b1 : decide (0 < x9_2.length) = false := decide_eq_false (by omega)
                clear c24
                obtain rfl := Option.some.inj H
                obtain ⟨Ao34, co34, eo34⟩ := Kd.S_slice HO_9.out
                subst eo34
                go_wp2
                go_ret
                exact ⟨_, by first | rfl | (simp [errW_none, errW_some] <;> rfl) | (simp [*, errW_none, errW_some] <;> rfl), by (with_reducible repeat (first | apply Kd.S_alloc | apply Kd.S_drewN | apply Kd.S_drew)); exact HO_9.out, pb⟩
            · replace c23 := Bool.eq_false_iff.mpr c23
              subst c23
              have H1 : (some x9_2) = some r := by rw [if_neg (show ¬ (false = true) by decide)] at H; exact H
              clear H
              have H := H1
              clear H1
              obtain rfl := Option.some.inj H
              go_wp2
              go_ret
              exact ⟨_, by first | rfl | (simp [errW_none, errW_some] <;> rfl) | (simp [*, errW_none, errW_some] <;> rfl), by (with_reducible repeat (first | apply Kd.S_alloc | apply Kd.S_drewN | apply Kd.S_drew)); exact HO_9.out, pb⟩

end Go.Proofs.Ytnepbpcpfeejkaa.K
