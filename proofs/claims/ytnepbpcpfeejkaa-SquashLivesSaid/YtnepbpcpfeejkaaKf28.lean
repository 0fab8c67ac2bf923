-- Printed by the prover's own turned printer (wip/printer in the prover's repo); Lean checks it.
import Derived.Test.YtnepbpcpfeejkaaK0
import Derived.Test.YtnepbpcpfeejkaaKf17
namespace Go.Proofs.Ytnepbpcpfeejkaa.K
open Go.RowKit Go.Proofs.YtnepbpcpfeejkaaW.PrintWords Go.Proofs.YtnepbpcpfeejkaaW.PrintLast Go.Proofs.YtnepbpcpfeejkaaW.PrintMore
attribute [local go_sem] max2_int min2_int max_two min_two max_three min_three max_four min_four   -- for this text's walks alone
set_option linter.unusedVariables false
set_option linter.unusedSimpArgs false

/-! ### halyardref9_Seen: function 28 -/
def halyardref9_Seen.l0 : Nat → Int → List (S35) → List (S35) → Int → Int → Option ((List (S35)))
  | 0, _, _, _, _, _ => none
  | k + 1, x1, x5, x9, x10, x11 => if x11 < x10 then (if 0 ≤ x11 then (if x11 < (x9.length : Int) then (if ((rd_T35 x9 x11).f1) ≤ x1 then (if (x5.length : Int) = 0 then (if x5.length < 1954687338268 then (halyardref9_Seen.l0 k x1 (x5 ++ [(⟨(rd_T35 x9 x11).f0, (rd_T35 x9 x11).f1, (rd_T35 x9 x11).f2, (rd_T35 x9 x11).f3, (rd_T35 x9 x11).f4⟩ : S35)]) x9 x10 (wrap64 (x11 + 1))) else (none)) else (if 0 ≤ (wrap64 ((x5.length : Int) - 1)) then (if (wrap64 ((x5.length : Int) - 1)) < (x5.length : Int) then ((halyardref2_Compare.f ((rd_T35 x5 (wrap64 ((x5.length : Int) - 1))).f0) ((rd_T35 x9 x11).f0)).bind fun t365 => (if t365 = 0 then (halyardref9_Seen.l0 k x1 x5 x9 x10 (wrap64 (x11 + 1))) else (if x5.length < 1954687338268 then (halyardref9_Seen.l0 k x1 (x5 ++ [(⟨(rd_T35 x9 x11).f0, (rd_T35 x9 x11).f1, (rd_T35 x9 x11).f2, (rd_T35 x9 x11).f3, (rd_T35 x9 x11).f4⟩ : S35)]) x9 x10 (wrap64 (x11 + 1))) else (none)))) else (none)) else (none))) else (halyardref9_Seen.l0 k x1 x5 x9 x10 (wrap64 (x11 + 1)))) else (none)) else (none)) else (some x5)
def halyardref9_Seen.f (k : Nat) (l0 : List (S35)) (a1 : Int) : Option ((List (S35))) := halyardref9_Seen.l0 k a1 ([] : List (S35)) l0 (l0.length : Int) 0
theorem halyardref9_Seen.mono_l : ∀ k, (∀ y0 y1 y2 y3 y4, LeO (halyardref9_Seen.l0 k y0 y1 y2 y3 y4) (halyardref9_Seen.l0 (k + 1) y0 y1 y2 y3 y4))
  | 0 => fun _ _ _ _ _ r h => by simp [halyardref9_Seen.l0] at h
  | k + 1 => by
    have ih0 := halyardref9_Seen.mono_l k
    · intro y0 y1 y2 y3 y4
      unfold halyardref9_Seen.l0
      repeat' first
      | (with_reducible exact ih0 _ _ _ _ _)
      | (with_reducible exact LeO.refl _)
      | (with_reducible exact LeO.none _)
      | (with_reducible refine LeO.ite ?_ ?_)
      | (with_reducible refine LeO.bind ?_ (fun _ => ?_))
      | exact ih0 _ _ _ _ _
      | exact LeO.none _
      | refine LeO.ite ?_ ?_
      | refine LeO.bind ?_ (fun _ => ?_)
theorem halyardref9_Seen.mono : ∀ a0 a1 k, LeO (halyardref9_Seen.f k a0 a1) (halyardref9_Seen.f (k + 1) a0 a1) := by
  intro a0 a1 k
  have ih0 := halyardref9_Seen.mono_l k
  unfold halyardref9_Seen.f
  repeat' first
      | (with_reducible exact ih0 _ _ _ _ _)
      | (with_reducible exact LeO.refl _)
      | (with_reducible exact LeO.none _)
      | (with_reducible refine LeO.ite ?_ ?_)
      | (with_reducible refine LeO.bind ?_ (fun _ => ?_))
      | exact ih0 _ _ _ _ _
      | exact LeO.none _
      | refine LeO.ite ?_ ?_
      | refine LeO.bind ?_ (fun _ => ?_)
def halyardref9_Seen.T6 : Bool × List (List Nat × List Nat) := (true, [([], []), ([0], [0]), ([], []), ([1, 2], [1, 2]), ([3], [3]), ([4], [4]), ([5, 4], [4, 5]), ([6, 4, 4], [4, 6]), ([7], [7]), ([7], [7]), ([9, 7], [7, 9]), ([8, 10, 7], [7, 8, 10]), ([11, 7], [7, 11]), ([12, 7], [7, 12]), ([7], [7]), ([14, 7], [7, 14]), ([13, 15, 7, 7], [7, 13, 15]), ([16, 7], [7, 16]), ([7, 17, 4], [4, 7, 17]), ([4, 18], [4, 18])])
def halyardref9_Seen.B6 : List Nat := [0, 1, 0, 7, 15, 31, 63, 127, 255, 255, 767, 2047, 4095, 8191, 255, 16639, 65535, 131071, 262143, 524287]
theorem halyardref9_Seen.tab6 : rtab .any (opsOf Try.f28 6) = halyardref9_Seen.T6 := by kernel_rfl
theorem halyardref9_Seen.bits6 : waitsOk halyardref9_Seen.T6.2 halyardref9_Seen.B6 = true := by kernel_rfl
set_option maxHeartbeats 8000000 in
set_option maxRecDepth 100000 in
theorem halyardref9_Seen.calls (k : Nat) (P0_ : Nat → Prop) (A0 : Option Addr) (c0 : Nat) (l0 : List (S35)) (a1 : Int) (r : List (S35)) (w : World) (hs0 : Kd.V k35 35 w w.heap.size (fun k_ => P0_ k_) (.slice A0 l0.length c0) l0) (h : halyardref9_Seen.f k l0 a1 = some r) :
    Calls Try.prog 28 #[.slice A0 l0.length c0, .int .i64 a1] w fun e w' => ∃ v0_ : Value, e = .returned (v0_) ∧ Kd.N k35 35 w' w.heap.size (fun k_ => (P0_ k_ ∨ w.heap.size ≤ k_)) v0_ r ∧ Below w.heap.size w w' := by
  have hu35 := Try.underlying35
  have HO0 := Aside0.mk (show Kd.V k35 35 w w.heap.size (fun k_ => (P0_ k_ ∨ w.heap.size ≤ k_)) (.slice A0 l0.length c0) l0 from Kd.V_mono hs0 (fun k_ hk => .inl hk))
  have HB := Aside0.mk (Below.refl w.heap.size w)
  have H : (halyardref9_Seen.l0 k a1 ([] : List (S35)) l0 (l0.length : Int) 0) = some r := h
  clear h
  have H' := Aside0.mk H
  clear H
  go_enter Try.func28, Try.ntmps28
  go_wp2
  go_loopg [5, 11] k (fun kq v5 v11 w' => ∃ (x5_1 : List (S35)) (x11_1 : Int), v11 = .int .i64 x11_1 ∧ Aside0 (halyardref9_Seen.l0 kq a1 x5_1 l0 (l0.length : Int) x11_1 = some r) ∧ Aside0 (kq ≤ k) ∧ Aside0 (Kd.N k35 35 w' w.heap.size (fun k_ => (P0_ k_ ∨ w.heap.size ≤ k_)) v5 x5_1) ∧ Aside0 (Kd.V k35 35 w' w.heap.size (fun k_ => (P0_ k_ ∨ w.heap.size ≤ k_) ∧ some k_ ≠ (v5 : Value).ownBlock) (.slice A0 l0.length c0) l0) ∧ Aside0 (Below w.heap.size w w'))
  case atStart => exact ⟨(([] : List (S35))), (0), (by first | rfl | (simp; done) | (simp [*]; done)), H', ⟨Nat.le_refl _⟩, ⟨by first | exact Kd.S_nil _ _ _ _ _ | exact Kd.N_nil _ _ _ _ _ | exact Kd.V_nil _ _ _ _ _ | exact Kd.Q_nil _ _ _ _ _ | exact Kd.R_nil _ _ _ _ _⟩, ⟨by (with_reducible repeat (first | apply Kd.V_alloc | apply Kd.V_drewN | apply Kd.V_drew)); exact Kd.V_mono HO0.out (fun _ hk => ⟨hk, (by simp [Value.ownBlock])⟩)⟩, ⟨pb⟩⟩
  case round =>
    clear H'
    try clear c2
    try clear p2
    obtain ⟨x5_1, x11_1, rfl, HA, HK1, HO_5, HO_9, HB⟩ := hrel
    cases gk with
    | zero => exact absurd HA.out (by simp [halyardref9_Seen.l0])
    | succ k1 =>
      have H := HA.out
      clear HA
      simp only [halyardref9_Seen.l0] at H
      by_cases c3 : x11_1 < (l0.length : Int)
      · rw [if_pos c3] at H
        have c3b0 : decide (x11_1 < (l0.length : Int)) = true := decide_eq_true c3
        clear c3
        by_cases c4 : 0 ≤ x11_1
        · rw [if_pos c4] at H
          have c4b0 : decide (0 ≤ x11_1) = true := decide_eq_true c4
          clear c4
          by_cases c5 : x11_1 < (l0.length : Int)
          · rw [if_pos c5] at H
            have c5b0 : decide (x11_1 < (l0.length : Int)) = true := decide_eq_true c5
            clear c5
            by_cases c6 : ((rd_T35 l0 x11_1).f1) ≤ a1
            · rw [if_pos c6] at H
              have c6b0 : decide (((rd_T35 l0 x11_1).f1) ≤ a1) = true := decide_eq_true c6
              clear c6
              by_cases c7 : (x5_1.length : Int) = 0
              · rw [if_pos c7] at H
                have c7b0 : ((x5_1.length : Int) == 0) = true := beq_iff_eq.mpr c7
                have c7b1 : ((x5_1.length : Int) != 0) = false := bne_eq_false_iff_eq.mpr c7
                clear c7
                by_cases c8 : x5_1.length < 1954687338268
                · rw [if_pos c8] at H
                  have LMc8 := Aside0.mk c8
                  clear c8
                  obtain ⟨y361, hy361⟩ : ∃ y_ : List (S35), y_ = (x5_1 ++ [(⟨(rd_T35 l0 x11_1).f0, (rd_T35 l0 x11_1).f1, (rd_T35 l0 x11_1).f2, (rd_T35 l0 x11_1).f3, (rd_T35 l0 x11_1).f4⟩ : S35)]) := ⟨_, rfl⟩
                  replace H : (halyardref9_Seen.l0 k1 a1 y361 l0 (l0.length : Int) (wrap64 (x11_1 + 1))) = some r := by first | (rw [hy361]; with_reducible exact H) | (have H2_ := (Option.bind_some _ _).symm.trans H; rw [hy361]; with_reducible exact H2_) | (have H2_ := (Option.bind_some _ _).symm.trans H; with_reducible exact H2_) | with_reducible exact H | (rw [hy361]; exact H) | exact H
                  have Ny361 := Aside0.mk hy361
                  clear hy361
                  have H' := Aside0.mk H
                  clear H
                  have p359 : 0 ≤ (x11_1 : Int) := pa
                  have q359 : x11_1 < (l0.length : Int) := pa
                  obtain ⟨ad359, A359_0, c359_0, A359_4, c359_4, e359, hx359_0, hx359_1, hx359_2, hx359_3, hx359_4, hl359_0, hi359_0, hl359_4, hi359_4⟩ := at_T35 (Kd.V_reads' HO_9.out).2.2 x11_1 p359 q359
                  cases e359
                  obtain ⟨ce359, hce359, hMe359, hcc359⟩ := Kd.V_get HO_9.out z35 x11_1 p359 (by first | exact q359 | exact pa | (have e_ := (Kd.V_reads' HO_9.out).1; omega))
                  obtain ⟨ua359_0, uc359_0, ua359_4, uc359_4, rfl, ul359_0, ge359_0, ul359_4, ge359_4⟩ := k35_openF hMe359
                  have hv359_0 := hcc359 0 _ rfl
                  rw [Nat.add_zero] at hv359_0
                  replace hv359_0 := Option.some.inj (hv359_0.symm.trans hx359_0)
                  injection hv359_0 with hva_ hvn_ hvc_
                  rw [hva_] at ge359_0
                  rw [hvc_] at ul359_0
                  have HL359_0 := Aside0.mk (show Kd.V (Kd.int .u8) 5 _ w.heap.size _ _ ((rd_T35 l0 x11_1).f0) from Kd.V_mk ul359_0 ge359_0)
                  clear hva_ hvn_ hvc_ ge359_0 ul359_0
                  have hv359_4 := hcc359 4 _ rfl
                  rw [add_field _ _ 4 (by omega)] at hv359_4
                  replace hv359_4 := Option.some.inj (hv359_4.symm.trans hx359_4)
                  injection hv359_4 with hva_ hvn_ hvc_
                  rw [hva_] at ge359_4
                  rw [hvc_] at ul359_4
                  have HL359_4 := Aside0.mk (show Kd.V (Kd.int .u8) 5 _ w.heap.size _ _ ((rd_T35 l0 x11_1).f4) from Kd.V_mk ul359_4 ge359_4)
                  clear hva_ hvn_ hvc_ ge359_4 ul359_4
                  clear hcc359 hce359
                  have HR359_0 := Aside0.mk hi359_0
                  have HC359_0 := Aside0.mk hl359_0
                  clear hi359_0 hl359_0
                  have HR359_4 := Aside0.mk hi359_4
                  have HC359_4 := Aside0.mk hl359_4
                  clear hi359_4 hl359_4
                  replace p359 := eq_true p359
                  replace q359 := eq_true q359
                  try go_wp2_with (first | ((with_reducible refine gate_dst (N := 7) rfl ?_); refine box_event ?hg (N := 7) ?hd (cs := #[.slice none 0 0, .int .i64 0, .bool false, .int .i64 0, .slice none 0 0]) (t := 35) ?hr ?_; (case hd => rfl); (case hg => rfl); (case hr => first | (go_simp; done) | (go_simp; rfl)); intro gb360 hg w9 hbox hb; have n0_ := Aside0.mk (Kd.N_below (Kd.N_elderB (by (with_reducible repeat (first | apply Kd.N_alloc | apply Kd.N_drewN | apply Kd.N_drew)); exact HO_5.out) gb360 (Nat.le_of_eq hg.symm)) hb); have n1_ := Aside0.mk (Kd.V_below (Kd.V_elderB (by (with_reducible repeat (first | apply Kd.V_alloc | apply Kd.V_drewN | apply Kd.V_drew)); exact HO_9.out) gb360 (Nat.le_of_eq hg.symm)) hb); have n2_ := Aside0.mk (Kd.V_below (Kd.V_elderB (by (with_reducible repeat (first | apply Kd.V_alloc | apply Kd.V_drewN | apply Kd.V_drew)); exact HL359_0.out) gb360 (Nat.le_of_eq hg.symm)) hb); have n3_ := Aside0.mk (Kd.V_below (Kd.V_elderB (by (with_reducible repeat (first | apply Kd.V_alloc | apply Kd.V_drewN | apply Kd.V_drew)); exact HL359_4.out) gb360 (Nat.le_of_eq hg.symm)) hb); have n4_ := Aside0.mk (Kd.C_below (by repeat (first | (with_reducible exact HR359_0.out) | (with_reducible refine Kd.C_alloc ?_ _) | (with_reducible refine Kd.C_drewN ?_ _) | (with_reducible refine Kd.C_drew ?_) | exact HR359_0.out)) hb); have n5_ := Aside0.mk (Kd.C_below (by repeat (first | (with_reducible exact HR359_4.out) | (with_reducible refine Kd.C_alloc ?_ _) | (with_reducible refine Kd.C_drewN ?_ _) | (with_reducible refine Kd.C_drew ?_) | exact HR359_4.out)) hb); have n6_ := Aside0.mk (below_step pb hb); have n7_ := Aside0.mk (hbox); have n8_ := Aside0.mk ((by rw [hg]; exact (below_size pb) : w.heap.size ≤ gb360)); have n9_ := Aside0.mk ((by rw [hg]; exact (below_size pb) : w.heap.size ≤ gb360)); clear HO_5; clear HO_9; clear HL359_0; clear HL359_4; clear HR359_0; clear HR359_4; clear HB; have HO_5 := n0_; have HO_9 := n1_; have HL359_0 := n2_; have HL359_4 := n3_; have HR359_0 := n4_; have HR359_4 := n5_; have HB := n6_; have BK360 := n7_; have GW360 := n8_; have GE360 := n9_; clear n0_ n1_ n2_ n3_ n4_ n5_ n6_ n7_ n8_ n9_; clear hb hbox hg; have hcz10_0 : w9.cell? ⟨gb360, 0, none⟩ = some (.slice none 0 0) := (blk_cell BK360.out 0).trans rfl; have hcz10_1 : w9.cell? ⟨gb360, 1, none⟩ = some (.int .i64 0) := (blk_cell BK360.out 1).trans rfl; have hcz10_2 : w9.cell? ⟨gb360, 2, none⟩ = some (.bool false) := (blk_cell BK360.out 2).trans rfl; have hcz10_3 : w9.cell? ⟨gb360, 3, none⟩ = some (.int .i64 0) := (blk_cell BK360.out 3).trans rfl; have hcz10_4 : w9.cell? ⟨gb360, 4, none⟩ = some (.slice none 0 0) := (blk_cell BK360.out 4).trans rfl; have hfz10_0 := blk_frozen BK360.out 0; have hfz10_1 := blk_frozen BK360.out 1; have hfz10_2 := blk_frozen BK360.out 2; have hfz10_3 := blk_frozen BK360.out 3; have hfz10_4 := blk_frozen BK360.out 4; obtain ⟨Ao11, co11, eo11⟩ := Kd.N_slice HO_5.out; subst eo11))
                  have n0_ : Aside0 (Kd.N k35 35 (((((w9.setCell ⟨gb360, 0, none⟩ (.slice A359_0 ((rd_T35 l0 x11_1).f0).length c359_0)).setCell ⟨gb360, 1, none⟩ (.int .i64 ((rd_T35 l0 x11_1).f1))).setCell ⟨gb360, 2, none⟩ (.bool ((rd_T35 l0 x11_1).f2))).setCell ⟨gb360, 3, none⟩ (.int .i64 ((rd_T35 l0 x11_1).f3))).setCell ⟨gb360, 4, none⟩ (.slice A359_4 ((rd_T35 l0 x11_1).f4).length c359_4)) w.heap.size (fun k_ => (P0_ k_ ∨ w.heap.size ≤ k_) ∧ k_ ≠ gb360) (.slice Ao11 x5_1.length co11) x5_1) := ⟨by (with_reducible repeat (first | apply Kd.N_alloc | apply Kd.N_drewN | apply Kd.N_drew)); exact Kd.N_mono (Kd.N_far (p := ⟨gb360, 4, none⟩) (Kd.N_far (p := ⟨gb360, 3, none⟩) (Kd.N_far (p := ⟨gb360, 2, none⟩) (Kd.N_far (p := ⟨gb360, 1, none⟩) (Kd.N_far (p := ⟨gb360, 0, none⟩) (Kd.N_mono HO_5.out (fun k_ hk => (⟨hk, hk.2⟩ : _ ∧ k_ ≠ gb360))) (fun _ hk => hk.2) (.slice A359_0 ((rd_T35 l0 x11_1).f0).length c359_0)) (fun _ hk => hk.2) (.int .i64 ((rd_T35 l0 x11_1).f1))) (fun _ hk => hk.2) (.bool ((rd_T35 l0 x11_1).f2))) (fun _ hk => hk.2) (.int .i64 ((rd_T35 l0 x11_1).f3))) (fun _ hk => hk.2) (.slice A359_4 ((rd_T35 l0 x11_1).f4).length c359_4)) (fun _ hk => ⟨hk.1.1, hk.1.2⟩)⟩
                  have n1_ : Aside0 (Kd.V k35 35 (((((w9.setCell ⟨gb360, 0, none⟩ (.slice A359_0 ((rd_T35 l0 x11_1).f0).length c359_0)).setCell ⟨gb360, 1, none⟩ (.int .i64 ((rd_T35 l0 x11_1).f1))).setCell ⟨gb360, 2, none⟩ (.bool ((rd_T35 l0 x11_1).f2))).setCell ⟨gb360, 3, none⟩ (.int .i64 ((rd_T35 l0 x11_1).f3))).setCell ⟨gb360, 4, none⟩ (.slice A359_4 ((rd_T35 l0 x11_1).f4).length c359_4)) w.heap.size (fun k_ => (P0_ k_ ∨ w.heap.size ≤ k_) ∧ some k_ ≠ (.slice Ao11 x5_1.length co11 : Value).ownBlock ∧ k_ ≠ gb360) (.slice (some ad359) l0.length c0) l0) := ⟨by (with_reducible repeat (first | apply Kd.V_alloc | apply Kd.V_drewN | apply Kd.V_drew)); exact Kd.V_mono (Kd.V_far (p := ⟨gb360, 4, none⟩) (Kd.V_far (p := ⟨gb360, 3, none⟩) (Kd.V_far (p := ⟨gb360, 2, none⟩) (Kd.V_far (p := ⟨gb360, 1, none⟩) (Kd.V_far (p := ⟨gb360, 0, none⟩) (Kd.V_mono HO_9.out (fun k_ hk => (⟨hk, hk.2⟩ : _ ∧ k_ ≠ gb360))) (fun _ hk => hk.2) (.slice A359_0 ((rd_T35 l0 x11_1).f0).length c359_0)) (fun _ hk => hk.2) (.int .i64 ((rd_T35 l0 x11_1).f1))) (fun _ hk => hk.2) (.bool ((rd_T35 l0 x11_1).f2))) (fun _ hk => hk.2) (.int .i64 ((rd_T35 l0 x11_1).f3))) (fun _ hk => hk.2) (.slice A359_4 ((rd_T35 l0 x11_1).f4).length c359_4)) (fun _ hk => ⟨hk.1.1.1, ⟨hk.1.1.2, hk.1.2⟩⟩)⟩
                  have n2_ : Aside0 (Kd.V (Kd.int .u8) 5 (((((w9.setCell ⟨gb360, 0, none⟩ (.slice A359_0 ((rd_T35 l0 x11_1).f0).length c359_0)).setCell ⟨gb360, 1, none⟩ (.int .i64 ((rd_T35 l0 x11_1).f1))).setCell ⟨gb360, 2, none⟩ (.bool ((rd_T35 l0 x11_1).f2))).setCell ⟨gb360, 3, none⟩ (.int .i64 ((rd_T35 l0 x11_1).f3))).setCell ⟨gb360, 4, none⟩ (.slice A359_4 ((rd_T35 l0 x11_1).f4).length c359_4)) w.heap.size (fun k_ => (P0_ k_ ∨ w.heap.size ≤ k_) ∧ some k_ ≠ (.slice Ao11 x5_1.length co11 : Value).ownBlock ∧ k_ ≠ gb360) (.slice A359_0 ((rd_T35 l0 x11_1).f0).length c359_0) ((rd_T35 l0 x11_1).f0)) := ⟨by (with_reducible repeat (first | apply Kd.V_alloc | apply Kd.V_drewN | apply Kd.V_drew)); exact Kd.V_mono (Kd.V_far (p := ⟨gb360, 4, none⟩) (Kd.V_far (p := ⟨gb360, 3, none⟩) (Kd.V_far (p := ⟨gb360, 2, none⟩) (Kd.V_far (p := ⟨gb360, 1, none⟩) (Kd.V_far (p := ⟨gb360, 0, none⟩) (Kd.V_mono HL359_0.out (fun k_ hk => (⟨hk, hk.2⟩ : _ ∧ k_ ≠ gb360))) (fun _ hk => hk.2) (.slice A359_0 ((rd_T35 l0 x11_1).f0).length c359_0)) (fun _ hk => hk.2) (.int .i64 ((rd_T35 l0 x11_1).f1))) (fun _ hk => hk.2) (.bool ((rd_T35 l0 x11_1).f2))) (fun _ hk => hk.2) (.int .i64 ((rd_T35 l0 x11_1).f3))) (fun _ hk => hk.2) (.slice A359_4 ((rd_T35 l0 x11_1).f4).length c359_4)) (fun _ hk => ⟨hk.1.1.1, ⟨hk.1.1.2, hk.1.2⟩⟩)⟩
                  have n3_ : Aside0 (Kd.V (Kd.int .u8) 5 (((((w9.setCell ⟨gb360, 0, none⟩ (.slice A359_0 ((rd_T35 l0 x11_1).f0).length c359_0)).setCell ⟨gb360, 1, none⟩ (.int .i64 ((rd_T35 l0 x11_1).f1))).setCell ⟨gb360, 2, none⟩ (.bool ((rd_T35 l0 x11_1).f2))).setCell ⟨gb360, 3, none⟩ (.int .i64 ((rd_T35 l0 x11_1).f3))).setCell ⟨gb360, 4, none⟩ (.slice A359_4 ((rd_T35 l0 x11_1).f4).length c359_4)) w.heap.size (fun k_ => (P0_ k_ ∨ w.heap.size ≤ k_) ∧ some k_ ≠ (.slice Ao11 x5_1.length co11 : Value).ownBlock ∧ k_ ≠ gb360) (.slice A359_4 ((rd_T35 l0 x11_1).f4).length c359_4) ((rd_T35 l0 x11_1).f4)) := ⟨by (with_reducible repeat (first | apply Kd.V_alloc | apply Kd.V_drewN | apply Kd.V_drew)); exact Kd.V_mono (Kd.V_far (p := ⟨gb360, 4, none⟩) (Kd.V_far (p := ⟨gb360, 3, none⟩) (Kd.V_far (p := ⟨gb360, 2, none⟩) (Kd.V_far (p := ⟨gb360, 1, none⟩) (Kd.V_far (p := ⟨gb360, 0, none⟩) (Kd.V_mono HL359_4.out (fun k_ hk => (⟨hk, hk.2⟩ : _ ∧ k_ ≠ gb360))) (fun _ hk => hk.2) (.slice A359_0 ((rd_T35 l0 x11_1).f0).length c359_0)) (fun _ hk => hk.2) (.int .i64 ((rd_T35 l0 x11_1).f1))) (fun _ hk => hk.2) (.bool ((rd_T35 l0 x11_1).f2))) (fun _ hk => hk.2) (.int .i64 ((rd_T35 l0 x11_1).f3))) (fun _ hk => hk.2) (.slice A359_4 ((rd_T35 l0 x11_1).f4).length c359_4)) (fun _ hk => ⟨hk.1.1.1, ⟨hk.1.1.2, hk.1.2⟩⟩)⟩
                  have n4_ : Aside0 ((((((w9.setCell ⟨gb360, 0, none⟩ (.slice A359_0 ((rd_T35 l0 x11_1).f0).length c359_0)).setCell ⟨gb360, 1, none⟩ (.int .i64 ((rd_T35 l0 x11_1).f1))).setCell ⟨gb360, 2, none⟩ (.bool ((rd_T35 l0 x11_1).f2))).setCell ⟨gb360, 3, none⟩ (.int .i64 ((rd_T35 l0 x11_1).f3))).setCell ⟨gb360, 4, none⟩ (.slice A359_4 ((rd_T35 l0 x11_1).f4).length c359_4)).heap[gb360]? = some (.cells #[.slice A359_0 ((rd_T35 l0 x11_1).f0).length c359_0, .int .i64 ((rd_T35 l0 x11_1).f1), .bool ((rd_T35 l0 x11_1).f2), .int .i64 ((rd_T35 l0 x11_1).f3), .slice A359_4 ((rd_T35 l0 x11_1).f4).length c359_4] 35 (0, 0))) := ⟨by (with_reducible repeat (first | refine blk_drewN ?_ _ | refine blk_drew ?_ | refine blk_alloc ?_ _)); refine blk_put (cs := #[.slice A359_0 ((rd_T35 l0 x11_1).f0).length c359_0, .int .i64 ((rd_T35 l0 x11_1).f1), .bool ((rd_T35 l0 x11_1).f2), .int .i64 ((rd_T35 l0 x11_1).f3), .slice none 0 0]) ?_ 4 _ rfl; (with_reducible repeat (first | refine blk_drewN ?_ _ | refine blk_drew ?_ | refine blk_alloc ?_ _)); refine blk_put (cs := #[.slice A359_0 ((rd_T35 l0 x11_1).f0).length c359_0, .int .i64 ((rd_T35 l0 x11_1).f1), .bool ((rd_T35 l0 x11_1).f2), .int .i64 0, .slice none 0 0]) ?_ 3 _ rfl; (with_reducible repeat (first | refine blk_drewN ?_ _ | refine blk_drew ?_ | refine blk_alloc ?_ _)); refine blk_put (cs := #[.slice A359_0 ((rd_T35 l0 x11_1).f0).length c359_0, .int .i64 ((rd_T35 l0 x11_1).f1), .bool false, .int .i64 0, .slice none 0 0]) ?_ 2 _ rfl; (with_reducible repeat (first | refine blk_drewN ?_ _ | refine blk_drew ?_ | refine blk_alloc ?_ _)); refine blk_put (cs := #[.slice A359_0 ((rd_T35 l0 x11_1).f0).length c359_0, .int .i64 0, .bool false, .int .i64 0, .slice none 0 0]) ?_ 1 _ rfl; (with_reducible repeat (first | refine blk_drewN ?_ _ | refine blk_drew ?_ | refine blk_alloc ?_ _)); refine blk_put (cs := #[.slice none 0 0, .int .i64 0, .bool false, .int .i64 0, .slice none 0 0]) ?_ 0 _ rfl; (with_reducible repeat (first | refine blk_drewN ?_ _ | refine blk_drew ?_ | refine blk_alloc ?_ _)); exact BK360.out⟩
                  have n5_ : Aside0 (Below w.heap.size w (((((w9.setCell ⟨gb360, 0, none⟩ (.slice A359_0 ((rd_T35 l0 x11_1).f0).length c359_0)).setCell ⟨gb360, 1, none⟩ (.int .i64 ((rd_T35 l0 x11_1).f1))).setCell ⟨gb360, 2, none⟩ (.bool ((rd_T35 l0 x11_1).f2))).setCell ⟨gb360, 3, none⟩ (.int .i64 ((rd_T35 l0 x11_1).f3))).setCell ⟨gb360, 4, none⟩ (.slice A359_4 ((rd_T35 l0 x11_1).f4).length c359_4))) := ⟨by repeat (first | (with_reducible first | exact HB.out | apply below_alloc | apply pw_below_drewN | apply below_drew1 | refine below_set ?_ GE360.out) | exact HB.out)⟩
                  (try clear HO_5)
                  (try clear HO_9)
                  (try clear HL359_0)
                  (try clear HL359_4)
                  (try clear BK360)
                  (try clear HB)
                  generalize (((((w9.setCell ⟨gb360, 0, none⟩ (.slice A359_0 ((rd_T35 l0 x11_1).f0).length c359_0)).setCell ⟨gb360, 1, none⟩ (.int .i64 ((rd_T35 l0 x11_1).f1))).setCell ⟨gb360, 2, none⟩ (.bool ((rd_T35 l0 x11_1).f2))).setCell ⟨gb360, 3, none⟩ (.int .i64 ((rd_T35 l0 x11_1).f3))).setCell ⟨gb360, 4, none⟩ (.slice A359_4 ((rd_T35 l0 x11_1).f4).length c359_4)) = w12 at n0_ n1_ n2_ n3_ n4_ n5_ ⊢
                  have HO_5 := n0_
                  have HO_9 := n1_
                  have HL359_0 := n2_
                  have HL359_4 := n3_
                  have BK360 := n4_
                  have HB := n5_
                  clear n0_ n1_ n2_ n3_ n4_ n5_
                  have n0_ := Aside0.mk (Kd.N_drew HO_5.out)
                  have n1_ := Aside0.mk (Kd.V_drew HO_9.out)
                  have n2_ := Aside0.mk (Kd.V_drew HL359_0.out)
                  have n3_ := Aside0.mk (Kd.V_drew HL359_4.out)
                  have n4_ := Aside0.mk (blk_drew BK360.out)
                  have n5_ := Aside0.mk (below_drew1 HB.out)
                  clear HO_5
                  clear HO_9
                  clear HL359_0
                  clear HL359_4
                  clear BK360
                  clear HB
                  have HO_5 := n0_
                  have HO_9 := n1_
                  have HL359_0 := n2_
                  have HL359_4 := n3_
                  have BK360 := n4_
                  have HB := n5_
                  clear n0_ n1_ n2_ n3_ n4_ n5_
                  refine start_ (n := 20) (S := fun w' => w'.cell? ⟨gb360, 0, none⟩ = some (.slice A359_0 ((rd_T35 l0 x11_1).f0).length c359_0) ∧ w'.cell? ⟨gb360, 1, none⟩ = some (.int .i64 ((rd_T35 l0 x11_1).f1)) ∧ w'.cell? ⟨gb360, 2, none⟩ = some (.bool ((rd_T35 l0 x11_1).f2)) ∧ w'.cell? ⟨gb360, 3, none⟩ = some (.int .i64 ((rd_T35 l0 x11_1).f3)) ∧ w'.cell? ⟨gb360, 4, none⟩ = some (.slice A359_4 ((rd_T35 l0 x11_1).f4).length c359_4)) (ds := []) #[false, false, false, false, false, false, false, false, false, false, false, false, false, false, false, false, false, false, false, false] (by kernel_rfl) rfl rfl ⟨(blk_cell BK360.out 0).trans rfl, (blk_cell BK360.out 1).trans rfl, (blk_cell BK360.out 2).trans rfl, (blk_cell BK360.out 3).trans rfl, (blk_cell BK360.out 4).trans rfl⟩ (fun hHeld => ?_); refine with_tabW halyardref9_Seen.tab6 halyardref9_Seen.bits6 (fun HT_ HW_ => ?_)
                  generalize w12.drew = w13 at HO_5 HO_9 HL359_0 HL359_4 BK360 HB hHeld ⊢
                  refine pure_ (i := 0) (N := some 17) (v := ?_) (a' := ?_) #[true, false, false, false, false, false, false, false, false, false, false, false, false, false, false, false, false, false, false, false] rfl rfl (any_of HT_.out (by kernel_rfl)) (fun _ _ _ h => h) (Or.inl ⟨by rfl, ?_⟩) ?_ ?_
                  rotate_left
                  · intro w'
                    go_simp
                    with_reducible rfl
                  rotate_left
                  · simp only [Act.put, List.setIfInBounds_toArray, List.set_cons_zero, List.set_cons_succ, i64_w, i32_w]
                    rfl
                  refine pure_ (i := 2) (N := some 19) (v := ?_) (a' := ?_) #[true, false, true, false, false, false, false, false, false, false, false, false, false, false, false, false, false, false, false, false] rfl rfl (any_of HT_.out (by kernel_rfl)) (fun _ _ _ h => h) (Or.inl ⟨by rfl, ?_⟩) ?_ ?_
                  rotate_left
                  · intro w'
                    go_simp
                    with_reducible rfl
                  rotate_left
                  · simp only [Act.put, List.setIfInBounds_toArray, List.set_cons_zero, List.set_cons_succ, i64_w, i32_w]
                    rfl
                  refine take_ (i := 1) (N := some 18) (v := ?_) (a' := ?_) #[true, true, true, false, false, false, false, false, false, false, false, false, false, false, false, false, false, false, false, false] rfl rfl (take_ofW HT_.out HW_.out (by kernel_rfl)) (fun _ _ _ h => h) (Or.inl ⟨by rfl, ?_⟩) hHeld ?_ ?_
                  rotate_left
                  · rintro w' ⟨s0, s1, s2, s3, s4⟩
                    go_simp
                    with_reducible rfl
                  rotate_left
                  · simp only [Act.put, List.setIfInBounds_toArray, List.set_cons_zero, List.set_cons_succ, i64_w, i32_w]
                    rfl
                  refine pure_ (i := 3) (N := some 20) (v := ?_) (a' := ?_) #[true, true, true, true, false, false, false, false, false, false, false, false, false, false, false, false, false, false, false, false] rfl rfl (any_of HT_.out (by kernel_rfl)) (fun _ _ _ h => h) (Or.inl ⟨by rfl, ?_⟩) ?_ ?_
                  rotate_left
                  · intro w'
                    go_simp
                    with_reducible rfl
                  rotate_left
                  · simp only [Act.put, List.setIfInBounds_toArray, List.set_cons_zero, List.set_cons_succ, i64_w, i32_w]
                    rfl
                  refine pure_ (i := 4) (N := some 21) (v := ?_) (a' := ?_) #[true, true, true, true, true, false, false, false, false, false, false, false, false, false, false, false, false, false, false, false] rfl rfl (any_of HT_.out (by kernel_rfl)) (fun _ _ _ h => h) (Or.inl ⟨by rfl, ?_⟩) ?_ ?_
                  rotate_left
                  · intro w'
                    go_simp
                    with_reducible rfl
                  rotate_left
                  · simp only [Act.put, List.setIfInBounds_toArray, List.set_cons_zero, List.set_cons_succ, i64_w, i32_w]
                    rfl
                  refine pure_ (i := 5) (N := some 22) (v := ?_) (a' := ?_) #[true, true, true, true, true, true, false, false, false, false, false, false, false, false, false, false, false, false, false, false] rfl rfl (any_of HT_.out (by kernel_rfl)) (fun _ _ _ h => h) (Or.inl ⟨by rfl, ?_⟩) ?_ ?_
                  rotate_left
                  · intro w'
                    go_simp
                    with_reducible rfl
                  rotate_left
                  · simp only [Act.put, List.setIfInBounds_toArray, List.set_cons_zero, List.set_cons_succ, i64_w, i32_w]
                    rfl
                  refine pure_ (i := 6) (N := some 23) (v := ?_) (a' := ?_) #[true, true, true, true, true, true, true, false, false, false, false, false, false, false, false, false, false, false, false, false] rfl rfl (any_of HT_.out (by kernel_rfl)) (fun _ _ _ h => h) (Or.inl ⟨by rfl, ?_⟩) ?_ ?_
                  rotate_left
                  · intro w'
                    go_simp
                    with_reducible rfl
                  rotate_left
                  · simp only [Act.put, List.setIfInBounds_toArray, List.set_cons_zero, List.set_cons_succ, i64_w, i32_w]
                    rfl
                  refine pure_ (i := 7) (N := some 24) (v := ?_) (a' := ?_) #[true, true, true, true, true, true, true, true, false, false, false, false, false, false, false, false, false, false, false, false] rfl rfl (any_of HT_.out (by kernel_rfl)) (fun _ _ _ h => h) (Or.inl ⟨by rfl, ?_⟩) ?_ ?_
                  rotate_left
                  · intro w'
                    go_simp
                    with_reducible rfl
                  rotate_left
                  · simp only [Act.put, List.setIfInBounds_toArray, List.set_cons_zero, List.set_cons_succ, i64_w, i32_w]
                    rfl
                  refine pure_ (i := 8) (N := some 25) (v := undef) (a' := ?_) #[true, true, true, true, true, true, true, true, true, false, false, false, false, false, false, false, false, false, false, false] rfl rfl (any_of HT_.out (by kernel_rfl)) (fun _ _ _ h => h) (Or.inr ⟨by rfl, rfl⟩) ?_ ?_
                  rotate_left
                  · simp only [Act.put, List.setIfInBounds_toArray, List.set_cons_zero, List.set_cons_succ, i64_w, i32_w]
                    rfl
                  refine pure_ (i := 9) (N := some 26) (v := undef) (a' := ?_) #[true, true, true, true, true, true, true, true, true, true, false, false, false, false, false, false, false, false, false, false] rfl rfl (any_of HT_.out (by kernel_rfl)) (fun _ _ _ h => h) (Or.inr ⟨by rfl, rfl⟩) ?_ ?_
                  rotate_left
                  · simp only [Act.put, List.setIfInBounds_toArray, List.set_cons_zero, List.set_cons_succ, i64_w, i32_w]
                    rfl
                  refine pure_ (i := 10) (N := some 27) (v := undef) (a' := ?_) #[true, true, true, true, true, true, true, true, true, true, true, false, false, false, false, false, false, false, false, false] rfl rfl (any_of HT_.out (by kernel_rfl)) (fun _ _ _ h => h) (Or.inr ⟨by rfl, rfl⟩) ?_ ?_
                  rotate_left
                  · simp only [Act.put, List.setIfInBounds_toArray, List.set_cons_zero, List.set_cons_succ, i64_w, i32_w]
                    rfl
                  refine pure_ (i := 11) (N := some 28) (v := undef) (a' := ?_) #[true, true, true, true, true, true, true, true, true, true, true, true, false, false, false, false, false, false, false, false] rfl rfl (any_of HT_.out (by kernel_rfl)) (fun _ _ _ h => h) (Or.inr ⟨by rfl, rfl⟩) ?_ ?_
                  rotate_left
                  · simp only [Act.put, List.setIfInBounds_toArray, List.set_cons_zero, List.set_cons_succ, i64_w, i32_w]
                    rfl
                  refine pure_ (i := 12) (N := some 29) (v := undef) (a' := ?_) #[true, true, true, true, true, true, true, true, true, true, true, true, true, false, false, false, false, false, false, false] rfl rfl (any_of HT_.out (by kernel_rfl)) (fun _ _ _ h => h) (Or.inr ⟨by rfl, rfl⟩) ?_ ?_
                  rotate_left
                  · simp only [Act.put, List.setIfInBounds_toArray, List.set_cons_zero, List.set_cons_succ, i64_w, i32_w]
                    rfl
                  refine pure_ (i := 13) (N := some 30) (v := undef) (a' := ?_) #[true, true, true, true, true, true, true, true, true, true, true, true, true, true, false, false, false, false, false, false] rfl rfl (any_of HT_.out (by kernel_rfl)) (fun _ _ _ h => h) (Or.inr ⟨by rfl, rfl⟩) ?_ ?_
                  rotate_left
                  · simp only [Act.put, List.setIfInBounds_toArray, List.set_cons_zero, List.set_cons_succ, i64_w, i32_w]
                    rfl
                  refine pure_ (i := 14) (N := some 31) (v := undef) (a' := ?_) #[true, true, true, true, true, true, true, true, true, true, true, true, true, true, true, false, false, false, false, false] rfl rfl (any_of HT_.out (by kernel_rfl)) (fun _ _ _ h => h) (Or.inr ⟨by rfl, rfl⟩) ?_ ?_
                  rotate_left
                  · simp only [Act.put, List.setIfInBounds_toArray, List.set_cons_zero, List.set_cons_succ, i64_w, i32_w]
                    rfl
                  refine pure_ (i := 15) (N := some 32) (v := undef) (a' := ?_) #[true, true, true, true, true, true, true, true, true, true, true, true, true, true, true, true, false, false, false, false] rfl rfl (any_of HT_.out (by kernel_rfl)) (fun _ _ _ h => h) (Or.inr ⟨by rfl, rfl⟩) ?_ ?_
                  rotate_left
                  · simp only [Act.put, List.setIfInBounds_toArray, List.set_cons_zero, List.set_cons_succ, i64_w, i32_w]
                    rfl
                  refine pure_ (i := 16) (N := some 33) (v := undef) (a' := ?_) #[true, true, true, true, true, true, true, true, true, true, true, true, true, true, true, true, true, false, false, false] rfl rfl (any_of HT_.out (by kernel_rfl)) (fun _ _ _ h => h) (Or.inr ⟨by rfl, rfl⟩) ?_ ?_
                  rotate_left
                  · simp only [Act.put, List.setIfInBounds_toArray, List.set_cons_zero, List.set_cons_succ, i64_w, i32_w]
                    rfl
                  refine pure_ (i := 17) (N := some 34) (v := undef) (a' := ?_) #[true, true, true, true, true, true, true, true, true, true, true, true, true, true, true, true, true, true, false, false] rfl rfl (any_of HT_.out (by kernel_rfl)) (fun _ _ _ h => h) (Or.inr ⟨by rfl, rfl⟩) ?_ ?_
                  rotate_left
                  · simp only [Act.put, List.setIfInBounds_toArray, List.set_cons_zero, List.set_cons_succ, i64_w, i32_w]
                    rfl
                  refine pure_ (i := 18) (N := some 35) (v := ?_) (a' := ?_) #[true, true, true, true, true, true, true, true, true, true, true, true, true, true, true, true, true, true, true, false] rfl rfl (any_of HT_.out (by kernel_rfl)) (fun _ _ _ h => h) (Or.inl ⟨by rfl, ?_⟩) ?_ ?_
                  rotate_left
                  · intro w'
                    go_simp
                    with_reducible rfl
                  rotate_left
                  · simp only [Act.put, List.setIfInBounds_toArray, List.set_cons_zero, List.set_cons_succ, i64_w, i32_w]
                    rfl
                  refine pure_ (i := 19) (N := some 36) (v := ?_) (a' := ?_) #[true, true, true, true, true, true, true, true, true, true, true, true, true, true, true, true, true, true, true, true] rfl rfl (any_of HT_.out (by kernel_rfl)) (fun _ _ _ h => h) (Or.inl ⟨by rfl, ?_⟩) ?_ ?_
                  rotate_left
                  · intro w'
                    go_simp
                    with_reducible rfl
                  rotate_left
                  · simp only [Act.put, List.setIfInBounds_toArray, List.set_cons_zero, List.set_cons_succ, i64_w, i32_w]
                    rfl
                  refine done_ (done_of HT_.out (by kernel_rfl)) ?_
                  have hcz14_0 : w13.cell? ⟨gb360, 0, none⟩ = some (.slice A359_0 ((rd_T35 l0 x11_1).f0).length c359_0) := (blk_cell BK360.out 0).trans rfl
                  have hcz14_1 : w13.cell? ⟨gb360, 1, none⟩ = some (.int .i64 ((rd_T35 l0 x11_1).f1)) := (blk_cell BK360.out 1).trans rfl
                  have hcz14_2 : w13.cell? ⟨gb360, 2, none⟩ = some (.bool ((rd_T35 l0 x11_1).f2)) := (blk_cell BK360.out 2).trans rfl
                  have hcz14_3 : w13.cell? ⟨gb360, 3, none⟩ = some (.int .i64 ((rd_T35 l0 x11_1).f3)) := (blk_cell BK360.out 3).trans rfl
                  have hcz14_4 : w13.cell? ⟨gb360, 4, none⟩ = some (.slice A359_4 ((rd_T35 l0 x11_1).f4).length c359_4) := (blk_cell BK360.out 4).trans rfl
                  have hfz14_0 := blk_frozen BK360.out 0
                  have hfz14_1 := blk_frozen BK360.out 1
                  have hfz14_2 := blk_frozen BK360.out 2
                  have hfz14_3 := blk_frozen BK360.out 3
                  have hfz14_4 := blk_frozen BK360.out 4
                  try go_wp2_with (first | ((with_reducible refine gate_builtin (b := .append) (xs := #[.tmp 37, .tmp 39]) rfl ?_); at_builtin; refine Kd.N_append k35 (w0 := w) w.heap.size rfl (.tmp 37) (.tmp 39) 22 35 (.agg #[(.slice none 0 0), (.int .i64 0), (.bool false), (.int .i64 0), (.slice none 0 0)]) 72 rfl Try.underlying22 info35 rfl (by decide) (by omega) (.slice Ao11 x5_1.length co11) x5_1 (⟨(rd_T35 l0 x11_1).f0, (rd_T35 l0 x11_1).f1, (rd_T35 l0 x11_1).f2, (rd_T35 l0 x11_1).f3, (rd_T35 l0 x11_1).f4⟩ : S35) [.slice A359_0 ((rd_T35 l0 x11_1).f0).length c359_0, .int .i64 ((rd_T35 l0 x11_1).f1), .bool ((rd_T35 l0 x11_1).f2), .int .i64 ((rd_T35 l0 x11_1).f3), .slice A359_4 ((rd_T35 l0 x11_1).f4).length c359_4] (fun k_ => (P0_ k_ ∨ w.heap.size ≤ k_) ∧ k_ ≠ gb360) (fun k_ => ((fun k_ => (P0_ k_ ∨ w.heap.size ≤ k_) ∧ k_ ≠ gb360)) k_ ∧ some k_ ≠ (.slice Ao11 x5_1.length co11 : Value).ownBlock) rfl rfl ?aP (fun _ hk => hk) ?aF ?aO ?aB ?aS ?aL ?_; (case aP => exact (k35_mkF _ _ (⟨(rd_T35 l0 x11_1).f0, (rd_T35 l0 x11_1).f1, (rd_T35 l0 x11_1).f2, (rd_T35 l0 x11_1).f3, (rd_T35 l0 x11_1).f4⟩ : S35) (Kd.V_reads' (Kd.V_mono (ok' := (fun k_ => ((fun k_ => (P0_ k_ ∨ w.heap.size ≤ k_) ∧ k_ ≠ gb360)) k_ ∧ some k_ ≠ (.slice Ao11 x5_1.length co11 : Value).ownBlock)) (HL359_0.out) (fun k_ hk => ⟨⟨hk.1, hk.2.2⟩, hk.2.1⟩))).2.1 (Kd.V_F (Kd.V_mono (ok' := (fun k_ => ((fun k_ => (P0_ k_ ∨ w.heap.size ≤ k_) ∧ k_ ≠ gb360)) k_ ∧ some k_ ≠ (.slice Ao11 x5_1.length co11 : Value).ownBlock)) (HL359_0.out) (fun k_ hk => ⟨⟨hk.1, hk.2.2⟩, hk.2.1⟩))) (Kd.V_reads' (Kd.V_mono (ok' := (fun k_ => ((fun k_ => (P0_ k_ ∨ w.heap.size ≤ k_) ∧ k_ ≠ gb360)) k_ ∧ some k_ ≠ (.slice Ao11 x5_1.length co11 : Value).ownBlock)) (HL359_4.out) (fun k_ hk => ⟨⟨hk.1, hk.2.2⟩, hk.2.1⟩))).2.1 (Kd.V_F (Kd.V_mono (ok' := (fun k_ => ((fun k_ => (P0_ k_ ∨ w.heap.size ≤ k_) ∧ k_ ≠ gb360)) k_ ∧ some k_ ≠ (.slice Ao11 x5_1.length co11 : Value).ownBlock)) (HL359_4.out) (fun k_ hk => ⟨⟨hk.1, hk.2.2⟩, hk.2.1⟩))))); (case aB => exact (by repeat (first | (with_reducible first | exact HB.out | apply below_alloc | apply pw_below_drewN | apply below_drew1 | refine below_set ?_ GE360.out) | exact HB.out))); (case aF => exact (fun k_ hk => ⟨(.inr (Nat.le_trans (below_size (by repeat (first | (with_reducible first | exact HB.out | apply below_alloc | apply pw_below_drewN | apply below_drew1 | refine below_set ?_ GE360.out) | exact HB.out))) hk)), Kd.freshB (g := gb360) (o := .cells #[.slice A359_0 ((rd_T35 l0 x11_1).f0).length c359_0, .int .i64 ((rd_T35 l0 x11_1).f1), .bool ((rd_T35 l0 x11_1).f2), .int .i64 ((rd_T35 l0 x11_1).f3), .slice A359_4 ((rd_T35 l0 x11_1).f4).length c359_4] 35 (0, 0)) (by (with_reducible repeat (first | refine blk_drewN ?_ _ | refine blk_drew ?_ | refine blk_alloc ?_ _)); exact BK360.out) k_ hk⟩)); (case aO => exact (by (with_reducible repeat (first | apply Kd.N_alloc | apply Kd.N_drewN | apply Kd.N_drew)); exact HO_5.out)); (case aS => exact (below_size (by repeat (first | (with_reducible first | exact HB.out | apply below_alloc | apply pw_below_drewN | apply below_drew1 | refine below_set ?_ GE360.out) | exact HB.out)))); (case aL => have := LMc8.out; omega); intro v362 w15 ho hb hg hat; rw [← Ny361.out] at ho; have n0_ := Aside0.mk (Kd.V_afterv (ok := (fun k_ => (P0_ k_ ∨ w.heap.size ≤ k_) ∧ k_ ≠ gb360)) (by (with_reducible repeat (first | apply Kd.V_alloc | apply Kd.V_drewN | apply Kd.V_drew)); exact Kd.V_mono HO_9.out (fun _ hk => ⟨⟨hk.1, hk.2.2⟩, hk.2.1⟩)) hg hat); have n1_ := Aside0.mk (Kd.V_afterv (ok := (fun k_ => (P0_ k_ ∨ w.heap.size ≤ k_) ∧ k_ ≠ gb360)) (by (with_reducible repeat (first | apply Kd.V_alloc | apply Kd.V_drewN | apply Kd.V_drew)); exact Kd.V_mono HL359_0.out (fun _ hk => ⟨⟨hk.1, hk.2.2⟩, hk.2.1⟩)) hg hat); have n2_ := Aside0.mk (Kd.V_afterv (ok := (fun k_ => (P0_ k_ ∨ w.heap.size ≤ k_) ∧ k_ ≠ gb360)) (by (with_reducible repeat (first | apply Kd.V_alloc | apply Kd.V_drewN | apply Kd.V_drew)); exact Kd.V_mono HL359_4.out (fun _ hk => ⟨⟨hk.1, hk.2.2⟩, hk.2.1⟩)) hg hat); have n3_ := Aside0.mk (blk_grown (g := gb360) (o := .cells #[.slice A359_0 ((rd_T35 l0 x11_1).f0).length c359_0, .int .i64 ((rd_T35 l0 x11_1).f1), .bool ((rd_T35 l0 x11_1).f2), .int .i64 ((rd_T35 l0 x11_1).f3), .slice A359_4 ((rd_T35 l0 x11_1).f4).length c359_4] 35 (0, 0)) (by (with_reducible repeat (first | refine blk_drewN ?_ _ | refine blk_drew ?_ | refine blk_alloc ?_ _)); exact BK360.out) hg (Kd.N_away HO_5.out (fun _ hk => hk.2))); have n4_ := Aside0.mk (hb); have n5_ := Aside0.mk (ho); clear HO_9; clear HL359_0; clear HL359_4; clear BK360; clear HB; clear HO_5; have HO_9 := n0_; have HL359_0 := n1_; have HL359_4 := n2_; have BK360 := n3_; have HB := n4_; have HO363 := n5_; clear n0_ n1_ n2_ n3_ n4_ n5_; clear ho hb hg hat))
                  go_roundg k1
                  case measure => have := HK1.out; omega
                  case rel => exact ⟨(y361), (wrap64 (x11_1 + 1)), (by first | rfl | (simp; done) | (simp [*]; done)), H', ⟨by have := HK1.out; omega⟩, ⟨by (with_reducible repeat (first | apply Kd.N_alloc | apply Kd.N_drewN | apply Kd.N_drew)); exact Kd.N_mono HO363.out (fun _ hk => hk.1)⟩, ⟨by (with_reducible repeat (first | apply Kd.V_alloc | apply Kd.V_drewN | apply Kd.V_drew)); exact Kd.V_mono HO_9.out (fun _ hk => ⟨hk.1.1, hk.2⟩)⟩, ⟨by repeat (first | (with_reducible first | exact HB.out | apply below_alloc | apply pw_below_drewN | apply below_drew1 | refine below_set ?_ GE360.out) | exact HB.out)⟩⟩
                · rw [if_neg c8] at H
                  exact absurd H (by simp)
              · rw [if_neg c7] at H
                have c7b0 : ((x5_1.length : Int) == 0) = false := beq_eq_false_iff_ne.mpr c7
                have c7b1 : ((x5_1.length : Int) != 0) = true := bne_iff_ne.mpr c7
                have c7b2 : ¬ (x5_1 = []) := fun h_ => c7 (by rw [h_]; rfl)
                obtain ⟨ji16, hji16⟩ : ∃ j_ : Int, (wrap64 ((x5_1.length : Int) - 1)) = j_ := ⟨_, rfl⟩
                replace H : (if 0 ≤ (ji16) then (if (ji16) < (x5_1.length : Int) then ((halyardref2_Compare.f ((rd_T35 x5_1 (ji16)).f0) ((rd_T35 l0 x11_1).f0)).bind fun t365 => (if t365 = 0 then (halyardref9_Seen.l0 k1 a1 x5_1 l0 (l0.length : Int) (wrap64 (x11_1 + 1))) else (if x5_1.length < 1954687338268 then (halyardref9_Seen.l0 k1 a1 (x5_1 ++ [(⟨(rd_T35 l0 x11_1).f0, (rd_T35 l0 x11_1).f1, (rd_T35 l0 x11_1).f2, (rd_T35 l0 x11_1).f3, (rd_T35 l0 x11_1).f4⟩ : S35)]) l0 (l0.length : Int) (wrap64 (x11_1 + 1))) else (none)))) else (none)) else (none)) = some r := by first | (rw [hji16] at H; exact H) | (simp only [hji16] at H ⊢; exact H)
                have hji16w : (IntKind.i64.wrap ((x5_1.length : Int) - 1)) = ji16 := (i64_w _).trans hji16
                by_cases c17 : 0 ≤ (ji16)
                · rw [if_pos c17] at H
                  have c17b0 : decide (0 ≤ (ji16)) = true := decide_eq_true c17
                  clear c17
                  by_cases c18 : (ji16) < (x5_1.length : Int)
                  · rw [if_pos c18] at H
                    have c18b0 : decide ((ji16) < (x5_1.length : Int)) = true := decide_eq_true c18
                    clear c18
                    replace H := Option.bind_eq_some_iff.mp H
                    obtain ⟨t365, A190, H⟩ := H
                    replace H : (if t365 = 0 then (halyardref9_Seen.l0 k1 a1 x5_1 l0 (l0.length : Int) (wrap64 (x11_1 + 1))) else (if x5_1.length < 1954687338268 then (halyardref9_Seen.l0 k1 a1 (x5_1 ++ [(⟨(rd_T35 l0 x11_1).f0, (rd_T35 l0 x11_1).f1, (rd_T35 l0 x11_1).f2, (rd_T35 l0 x11_1).f3, (rd_T35 l0 x11_1).f4⟩ : S35)]) l0 (l0.length : Int) (wrap64 (x11_1 + 1))) else (none))) = some r := H
                    have A19 := Aside0.mk A190
                    clear A190
                    by_cases c20 : t365 = 0
                    · rw [if_pos c20] at H
                      have c20b0 : (t365 == 0) = true := beq_iff_eq.mpr c20
                      have c20b1 : (t365 != 0) = false := bne_eq_false_iff_eq.mpr c20
                      clear c20
                      have H' := Aside0.mk H
                      clear H
                      have p359 : 0 ≤ (x11_1 : Int) := pa
                      have q359 : x11_1 < (l0.length : Int) := pa
                      obtain ⟨ad359, A359_0, c359_0, A359_4, c359_4, e359, hx359_0, hx359_1, hx359_2, hx359_3, hx359_4, hl359_0, hi359_0, hl359_4, hi359_4⟩ := at_T35 (Kd.V_reads' HO_9.out).2.2 x11_1 p359 q359
                      cases e359
                      obtain ⟨ce359, hce359, hMe359, hcc359⟩ := Kd.V_get HO_9.out z35 x11_1 p359 (by first | exact q359 | exact pa | (have e_ := (Kd.V_reads' HO_9.out).1; omega))
                      obtain ⟨ua359_0, uc359_0, ua359_4, uc359_4, rfl, ul359_0, ge359_0, ul359_4, ge359_4⟩ := k35_openF hMe359
                      have hv359_0 := hcc359 0 _ rfl
                      rw [Nat.add_zero] at hv359_0
                      replace hv359_0 := Option.some.inj (hv359_0.symm.trans hx359_0)
                      injection hv359_0 with hva_ hvn_ hvc_
                      rw [hva_] at ge359_0
                      rw [hvc_] at ul359_0
                      have HL359_0 := Aside0.mk (show Kd.V (Kd.int .u8) 5 _ w.heap.size _ _ ((rd_T35 l0 x11_1).f0) from Kd.V_mk ul359_0 ge359_0)
                      clear hva_ hvn_ hvc_ ge359_0 ul359_0
                      have hv359_4 := hcc359 4 _ rfl
                      rw [add_field _ _ 4 (by omega)] at hv359_4
                      replace hv359_4 := Option.some.inj (hv359_4.symm.trans hx359_4)
                      injection hv359_4 with hva_ hvn_ hvc_
                      rw [hva_] at ge359_4
                      rw [hvc_] at ul359_4
                      have HL359_4 := Aside0.mk (show Kd.V (Kd.int .u8) 5 _ w.heap.size _ _ ((rd_T35 l0 x11_1).f4) from Kd.V_mk ul359_4 ge359_4)
                      clear hva_ hvn_ hvc_ ge359_4 ul359_4
                      clear hcc359 hce359
                      have HR359_0 := Aside0.mk hi359_0
                      have HC359_0 := Aside0.mk hl359_0
                      clear hi359_0 hl359_0
                      have HR359_4 := Aside0.mk hi359_4
                      have HC359_4 := Aside0.mk hl359_4
                      clear hi359_4 hl359_4
                      replace p359 := eq_true p359
                      replace q359 := eq_true q359
                      try go_wp2_with (first | ((with_reducible refine gate_dst (N := 7) rfl ?_); refine box_event ?hg (N := 7) ?hd (cs := #[.slice none 0 0, .int .i64 0, .bool false, .int .i64 0, .slice none 0 0]) (t := 35) ?hr ?_; (case hd => rfl); (case hg => rfl); (case hr => first | (go_simp; done) | (go_simp; rfl)); intro gb360 hg w21 hbox hb; have n0_ := Aside0.mk (Kd.N_below (Kd.N_elderB (by (with_reducible repeat (first | apply Kd.N_alloc | apply Kd.N_drewN | apply Kd.N_drew)); exact HO_5.out) gb360 (Nat.le_of_eq hg.symm)) hb); have n1_ := Aside0.mk (Kd.V_below (Kd.V_elderB (by (with_reducible repeat (first | apply Kd.V_alloc | apply Kd.V_drewN | apply Kd.V_drew)); exact HO_9.out) gb360 (Nat.le_of_eq hg.symm)) hb); have n2_ := Aside0.mk (Kd.V_below (Kd.V_elderB (by (with_reducible repeat (first | apply Kd.V_alloc | apply Kd.V_drewN | apply Kd.V_drew)); exact HL359_0.out) gb360 (Nat.le_of_eq hg.symm)) hb); have n3_ := Aside0.mk (Kd.V_below (Kd.V_elderB (by (with_reducible repeat (first | apply Kd.V_alloc | apply Kd.V_drewN | apply Kd.V_drew)); exact HL359_4.out) gb360 (Nat.le_of_eq hg.symm)) hb); have n4_ := Aside0.mk (Kd.C_below (by repeat (first | (with_reducible exact HR359_0.out) | (with_reducible refine Kd.C_alloc ?_ _) | (with_reducible refine Kd.C_drewN ?_ _) | (with_reducible refine Kd.C_drew ?_) | exact HR359_0.out)) hb); have n5_ := Aside0.mk (Kd.C_below (by repeat (first | (with_reducible exact HR359_4.out) | (with_reducible refine Kd.C_alloc ?_ _) | (with_reducible refine Kd.C_drewN ?_ _) | (with_reducible refine Kd.C_drew ?_) | exact HR359_4.out)) hb); have n6_ := Aside0.mk (below_step pb hb); have n7_ := Aside0.mk (hbox); have n8_ := Aside0.mk ((by rw [hg]; exact (below_size pb) : w.heap.size ≤ gb360)); have n9_ := Aside0.mk ((by rw [hg]; exact (below_size pb) : w.heap.size ≤ gb360)); clear HO_5; clear HO_9; clear HL359_0; clear HL359_4; clear HR359_0; clear HR359_4; clear HB; have HO_5 := n0_; have HO_9 := n1_; have HL359_0 := n2_; have HL359_4 := n3_; have HR359_0 := n4_; have HR359_4 := n5_; have HB := n6_; have BK360 := n7_; have GW360 := n8_; have GE360 := n9_; clear n0_ n1_ n2_ n3_ n4_ n5_ n6_ n7_ n8_ n9_; clear hb hbox hg; have hcz22_0 : w21.cell? ⟨gb360, 0, none⟩ = some (.slice none 0 0) := (blk_cell BK360.out 0).trans rfl; have hcz22_1 : w21.cell? ⟨gb360, 1, none⟩ = some (.int .i64 0) := (blk_cell BK360.out 1).trans rfl; have hcz22_2 : w21.cell? ⟨gb360, 2, none⟩ = some (.bool false) := (blk_cell BK360.out 2).trans rfl; have hcz22_3 : w21.cell? ⟨gb360, 3, none⟩ = some (.int .i64 0) := (blk_cell BK360.out 3).trans rfl; have hcz22_4 : w21.cell? ⟨gb360, 4, none⟩ = some (.slice none 0 0) := (blk_cell BK360.out 4).trans rfl; have hfz22_0 := blk_frozen BK360.out 0; have hfz22_1 := blk_frozen BK360.out 1; have hfz22_2 := blk_frozen BK360.out 2; have hfz22_3 := blk_frozen BK360.out 3; have hfz22_4 := blk_frozen BK360.out 4; obtain ⟨Ao23, co23, eo23⟩ := Kd.N_slice HO_5.out; subst eo23))
                      have n0_ : Aside0 (Kd.N k35 35 (((((w21.setCell ⟨gb360, 0, none⟩ (.slice A359_0 ((rd_T35 l0 x11_1).f0).length c359_0)).setCell ⟨gb360, 1, none⟩ (.int .i64 ((rd_T35 l0 x11_1).f1))).setCell ⟨gb360, 2, none⟩ (.bool ((rd_T35 l0 x11_1).f2))).setCell ⟨gb360, 3, none⟩ (.int .i64 ((rd_T35 l0 x11_1).f3))).setCell ⟨gb360, 4, none⟩ (.slice A359_4 ((rd_T35 l0 x11_1).f4).length c359_4)) w.heap.size (fun k_ => (P0_ k_ ∨ w.heap.size ≤ k_) ∧ k_ ≠ gb360) (.slice Ao23 x5_1.length co23) x5_1) := ⟨by (with_reducible repeat (first | apply Kd.N_alloc | apply Kd.N_drewN | apply Kd.N_drew)); exact Kd.N_mono (Kd.N_far (p := ⟨gb360, 4, none⟩) (Kd.N_far (p := ⟨gb360, 3, none⟩) (Kd.N_far (p := ⟨gb360, 2, none⟩) (Kd.N_far (p := ⟨gb360, 1, none⟩) (Kd.N_far (p := ⟨gb360, 0, none⟩) (Kd.N_mono HO_5.out (fun k_ hk => (⟨hk, hk.2⟩ : _ ∧ k_ ≠ gb360))) (fun _ hk => hk.2) (.slice A359_0 ((rd_T35 l0 x11_1).f0).length c359_0)) (fun _ hk => hk.2) (.int .i64 ((rd_T35 l0 x11_1).f1))) (fun _ hk => hk.2) (.bool ((rd_T35 l0 x11_1).f2))) (fun _ hk => hk.2) (.int .i64 ((rd_T35 l0 x11_1).f3))) (fun _ hk => hk.2) (.slice A359_4 ((rd_T35 l0 x11_1).f4).length c359_4)) (fun _ hk => ⟨hk.1.1, hk.1.2⟩)⟩
                      have n1_ : Aside0 (Kd.V k35 35 (((((w21.setCell ⟨gb360, 0, none⟩ (.slice A359_0 ((rd_T35 l0 x11_1).f0).length c359_0)).setCell ⟨gb360, 1, none⟩ (.int .i64 ((rd_T35 l0 x11_1).f1))).setCell ⟨gb360, 2, none⟩ (.bool ((rd_T35 l0 x11_1).f2))).setCell ⟨gb360, 3, none⟩ (.int .i64 ((rd_T35 l0 x11_1).f3))).setCell ⟨gb360, 4, none⟩ (.slice A359_4 ((rd_T35 l0 x11_1).f4).length c359_4)) w.heap.size (fun k_ => (P0_ k_ ∨ w.heap.size ≤ k_) ∧ some k_ ≠ (.slice Ao23 x5_1.length co23 : Value).ownBlock ∧ k_ ≠ gb360) (.slice (some ad359) l0.length c0) l0) := ⟨by (with_reducible repeat (first | apply Kd.V_alloc | apply Kd.V_drewN | apply Kd.V_drew)); exact Kd.V_mono (Kd.V_far (p := ⟨gb360, 4, none⟩) (Kd.V_far (p := ⟨gb360, 3, none⟩) (Kd.V_far (p := ⟨gb360, 2, none⟩) (Kd.V_far (p := ⟨gb360, 1, none⟩) (Kd.V_far (p := ⟨gb360, 0, none⟩) (Kd.V_mono HO_9.out (fun k_ hk => (⟨hk, hk.2⟩ : _ ∧ k_ ≠ gb360))) (fun _ hk => hk.2) (.slice A359_0 ((rd_T35 l0 x11_1).f0).length c359_0)) (fun _ hk => hk.2) (.int .i64 ((rd_T35 l0 x11_1).f1))) (fun _ hk => hk.2) (.bool ((rd_T35 l0 x11_1).f2))) (fun _ hk => hk.2) (.int .i64 ((rd_T35 l0 x11_1).f3))) (fun _ hk => hk.2) (.slice A359_4 ((rd_T35 l0 x11_1).f4).length c359_4)) (fun _ hk => ⟨hk.1.1.1, ⟨hk.1.1.2, hk.1.2⟩⟩)⟩
                      have n2_ : Aside0 (Kd.V (Kd.int .u8) 5 (((((w21.setCell ⟨gb360, 0, none⟩ (.slice A359_0 ((rd_T35 l0 x11_1).f0).length c359_0)).setCell ⟨gb360, 1, none⟩ (.int .i64 ((rd_T35 l0 x11_1).f1))).setCell ⟨gb360, 2, none⟩ (.bool ((rd_T35 l0 x11_1).f2))).setCell ⟨gb360, 3, none⟩ (.int .i64 ((rd_T35 l0 x11_1).f3))).setCell ⟨gb360, 4, none⟩ (.slice A359_4 ((rd_T35 l0 x11_1).f4).length c359_4)) w.heap.size (fun k_ => (P0_ k_ ∨ w.heap.size ≤ k_) ∧ some k_ ≠ (.slice Ao23 x5_1.length co23 : Value).ownBlock ∧ k_ ≠ gb360) (.slice A359_0 ((rd_T35 l0 x11_1).f0).length c359_0) ((rd_T35 l0 x11_1).f0)) := ⟨by (with_reducible repeat (first | apply Kd.V_alloc | apply Kd.V_drewN | apply Kd.V_drew)); exact Kd.V_mono (Kd.V_far (p := ⟨gb360, 4, none⟩) (Kd.V_far (p := ⟨gb360, 3, none⟩) (Kd.V_far (p := ⟨gb360, 2, none⟩) (Kd.V_far (p := ⟨gb360, 1, none⟩) (Kd.V_far (p := ⟨gb360, 0, none⟩) (Kd.V_mono HL359_0.out (fun k_ hk => (⟨hk, hk.2⟩ : _ ∧ k_ ≠ gb360))) (fun _ hk => hk.2) (.slice A359_0 ((rd_T35 l0 x11_1).f0).length c359_0)) (fun _ hk => hk.2) (.int .i64 ((rd_T35 l0 x11_1).f1))) (fun _ hk => hk.2) (.bool ((rd_T35 l0 x11_1).f2))) (fun _ hk => hk.2) (.int .i64 ((rd_T35 l0 x11_1).f3))) (fun _ hk => hk.2) (.slice A359_4 ((rd_T35 l0 x11_1).f4).length c359_4)) (fun _ hk => ⟨hk.1.1.1, ⟨hk.1.1.2, hk.1.2⟩⟩)⟩
                      have n3_ : Aside0 (Kd.V (Kd.int .u8) 5 (((((w21.setCell ⟨gb360, 0, none⟩ (.slice A359_0 ((rd_T35 l0 x11_1).f0).length c359_0)).setCell ⟨gb360, 1, none⟩ (.int .i64 ((rd_T35 l0 x11_1).f1))).setCell ⟨gb360, 2, none⟩ (.bool ((rd_T35 l0 x11_1).f2))).setCell ⟨gb360, 3, none⟩ (.int .i64 ((rd_T35 l0 x11_1).f3))).setCell ⟨gb360, 4, none⟩ (.slice A359_4 ((rd_T35 l0 x11_1).f4).length c359_4)) w.heap.size (fun k_ => (P0_ k_ ∨ w.heap.size ≤ k_) ∧ some k_ ≠ (.slice Ao23 x5_1.length co23 : Value).ownBlock ∧ k_ ≠ gb360) (.slice A359_4 ((rd_T35 l0 x11_1).f4).length c359_4) ((rd_T35 l0 x11_1).f4)) := ⟨by (with_reducible repeat (first | apply Kd.V_alloc | apply Kd.V_drewN | apply Kd.V_drew)); exact Kd.V_mono (Kd.V_far (p := ⟨gb360, 4, none⟩) (Kd.V_far (p := ⟨gb360, 3, none⟩) (Kd.V_far (p := ⟨gb360, 2, none⟩) (Kd.V_far (p := ⟨gb360, 1, none⟩) (Kd.V_far (p := ⟨gb360, 0, none⟩) (Kd.V_mono HL359_4.out (fun k_ hk => (⟨hk, hk.2⟩ : _ ∧ k_ ≠ gb360))) (fun _ hk => hk.2) (.slice A359_0 ((rd_T35 l0 x11_1).f0).length c359_0)) (fun _ hk => hk.2) (.int .i64 ((rd_T35 l0 x11_1).f1))) (fun _ hk => hk.2) (.bool ((rd_T35 l0 x11_1).f2))) (fun _ hk => hk.2) (.int .i64 ((rd_T35 l0 x11_1).f3))) (fun _ hk => hk.2) (.slice A359_4 ((rd_T35 l0 x11_1).f4).length c359_4)) (fun _ hk => ⟨hk.1.1.1, ⟨hk.1.1.2, hk.1.2⟩⟩)⟩
                      have n4_ : Aside0 ((((((w21.setCell ⟨gb360, 0, none⟩ (.slice A359_0 ((rd_T35 l0 x11_1).f0).length c359_0)).setCell ⟨gb360, 1, none⟩ (.int .i64 ((rd_T35 l0 x11_1).f1))).setCell ⟨gb360, 2, none⟩ (.bool ((rd_T35 l0 x11_1).f2))).setCell ⟨gb360, 3, none⟩ (.int .i64 ((rd_T35 l0 x11_1).f3))).setCell ⟨gb360, 4, none⟩ (.slice A359_4 ((rd_T35 l0 x11_1).f4).length c359_4)).heap[gb360]? = some (.cells #[.slice A359_0 ((rd_T35 l0 x11_1).f0).length c359_0, .int .i64 ((rd_T35 l0 x11_1).f1), .bool ((rd_T35 l0 x11_1).f2), .int .i64 ((rd_T35 l0 x11_1).f3), .slice A359_4 ((rd_T35 l0 x11_1).f4).length c359_4] 35 (0, 0))) := ⟨by (with_reducible repeat (first | refine blk_drewN ?_ _ | refine blk_drew ?_ | refine blk_alloc ?_ _)); refine blk_put (cs := #[.slice A359_0 ((rd_T35 l0 x11_1).f0).length c359_0, .int .i64 ((rd_T35 l0 x11_1).f1), .bool ((rd_T35 l0 x11_1).f2), .int .i64 ((rd_T35 l0 x11_1).f3), .slice none 0 0]) ?_ 4 _ rfl; (with_reducible repeat (first | refine blk_drewN ?_ _ | refine blk_drew ?_ | refine blk_alloc ?_ _)); refine blk_put (cs := #[.slice A359_0 ((rd_T35 l0 x11_1).f0).length c359_0, .int .i64 ((rd_T35 l0 x11_1).f1), .bool ((rd_T35 l0 x11_1).f2), .int .i64 0, .slice none 0 0]) ?_ 3 _ rfl; (with_reducible repeat (first | refine blk_drewN ?_ _ | refine blk_drew ?_ | refine blk_alloc ?_ _)); refine blk_put (cs := #[.slice A359_0 ((rd_T35 l0 x11_1).f0).length c359_0, .int .i64 ((rd_T35 l0 x11_1).f1), .bool false, .int .i64 0, .slice none 0 0]) ?_ 2 _ rfl; (with_reducible repeat (first | refine blk_drewN ?_ _ | refine blk_drew ?_ | refine blk_alloc ?_ _)); refine blk_put (cs := #[.slice A359_0 ((rd_T35 l0 x11_1).f0).length c359_0, .int .i64 0, .bool false, .int .i64 0, .slice none 0 0]) ?_ 1 _ rfl; (with_reducible repeat (first | refine blk_drewN ?_ _ | refine blk_drew ?_ | refine blk_alloc ?_ _)); refine blk_put (cs := #[.slice none 0 0, .int .i64 0, .bool false, .int .i64 0, .slice none 0 0]) ?_ 0 _ rfl; (with_reducible repeat (first | refine blk_drewN ?_ _ | refine blk_drew ?_ | refine blk_alloc ?_ _)); exact BK360.out⟩
                      have n5_ : Aside0 (Below w.heap.size w (((((w21.setCell ⟨gb360, 0, none⟩ (.slice A359_0 ((rd_T35 l0 x11_1).f0).length c359_0)).setCell ⟨gb360, 1, none⟩ (.int .i64 ((rd_T35 l0 x11_1).f1))).setCell ⟨gb360, 2, none⟩ (.bool ((rd_T35 l0 x11_1).f2))).setCell ⟨gb360, 3, none⟩ (.int .i64 ((rd_T35 l0 x11_1).f3))).setCell ⟨gb360, 4, none⟩ (.slice A359_4 ((rd_T35 l0 x11_1).f4).length c359_4))) := ⟨by repeat (first | (with_reducible first | exact HB.out | apply below_alloc | apply pw_below_drewN | apply below_drew1 | refine below_set ?_ GE360.out) | exact HB.out)⟩
                      (try clear HO_5)
                      (try clear HO_9)
                      (try clear HL359_0)
                      (try clear HL359_4)
                      (try clear BK360)
                      (try clear HB)
                      generalize (((((w21.setCell ⟨gb360, 0, none⟩ (.slice A359_0 ((rd_T35 l0 x11_1).f0).length c359_0)).setCell ⟨gb360, 1, none⟩ (.int .i64 ((rd_T35 l0 x11_1).f1))).setCell ⟨gb360, 2, none⟩ (.bool ((rd_T35 l0 x11_1).f2))).setCell ⟨gb360, 3, none⟩ (.int .i64 ((rd_T35 l0 x11_1).f3))).setCell ⟨gb360, 4, none⟩ (.slice A359_4 ((rd_T35 l0 x11_1).f4).length c359_4)) = w24 at n0_ n1_ n2_ n3_ n4_ n5_ ⊢
                      have HO_5 := n0_
                      have HO_9 := n1_
                      have HL359_0 := n2_
                      have HL359_4 := n3_
                      have BK360 := n4_
                      have HB := n5_
                      clear n0_ n1_ n2_ n3_ n4_ n5_
                      have n0_ := Aside0.mk (Kd.N_drew HO_5.out)
                      have n1_ := Aside0.mk (Kd.V_drew HO_9.out)
                      have n2_ := Aside0.mk (Kd.V_drew HL359_0.out)
                      have n3_ := Aside0.mk (Kd.V_drew HL359_4.out)
                      have n4_ := Aside0.mk (blk_drew BK360.out)
                      have n5_ := Aside0.mk (below_drew1 HB.out)
                      clear HO_5
                      clear HO_9
                      clear HL359_0
                      clear HL359_4
                      clear BK360
                      clear HB
                      have HO_5 := n0_
                      have HO_9 := n1_
                      have HL359_0 := n2_
                      have HL359_4 := n3_
                      have BK360 := n4_
                      have HB := n5_
                      clear n0_ n1_ n2_ n3_ n4_ n5_
                      have p364 : 0 ≤ ((ji16) : Int) := pa
                      have q364 : (ji16) < (x5_1.length : Int) := pa
                      obtain ⟨ad364, A364_0, c364_0, A364_4, c364_4, e364, hx364_0, hx364_1, hx364_2, hx364_3, hx364_4, hl364_0, hi364_0, hl364_4, hi364_4⟩ := at_T35 (Kd.N_reads' HO_5.out).2.2 (ji16) p364 q364
                      cases e364
                      obtain ⟨ce364, hce364, hMe364, hcc364⟩ := Kd.N_get HO_5.out z35 (ji16) p364 (by first | exact q364 | exact pa | (have e_ := (Kd.N_reads' HO_5.out).1; omega))
                      obtain ⟨ua364_0, uc364_0, ua364_4, uc364_4, rfl, ul364_0, ge364_0, ul364_4, ge364_4⟩ := k35_openF hMe364
                      have hv364_0 := hcc364 0 _ rfl
                      rw [Nat.add_zero] at hv364_0
                      replace hv364_0 := Option.some.inj (hv364_0.symm.trans hx364_0)
                      injection hv364_0 with hva_ hvn_ hvc_
                      rw [hva_] at ge364_0
                      rw [hvc_] at ul364_0
                      have HL364_0 := Aside0.mk (show Kd.V (Kd.int .u8) 5 _ w.heap.size _ _ ((rd_T35 x5_1 (ji16)).f0) from Kd.V_mk ul364_0 ge364_0)
                      clear hva_ hvn_ hvc_ ge364_0 ul364_0
                      have hv364_4 := hcc364 4 _ rfl
                      rw [add_field _ _ 4 (by omega)] at hv364_4
                      replace hv364_4 := Option.some.inj (hv364_4.symm.trans hx364_4)
                      injection hv364_4 with hva_ hvn_ hvc_
                      rw [hva_] at ge364_4
                      rw [hvc_] at ul364_4
                      have HL364_4 := Aside0.mk (show Kd.V (Kd.int .u8) 5 _ w.heap.size _ _ ((rd_T35 x5_1 (ji16)).f4) from Kd.V_mk ul364_4 ge364_4)
                      clear hva_ hvn_ hvc_ ge364_4 ul364_4
                      clear hcc364 hce364
                      have HR364_0 := Aside0.mk hi364_0
                      have HC364_0 := Aside0.mk hl364_0
                      clear hi364_0 hl364_0
                      have HR364_4 := Aside0.mk hi364_4
                      have HC364_4 := Aside0.mk hl364_4
                      clear hi364_4 hl364_4
                      replace p364 := eq_true p364
                      replace q364 := eq_true q364
                      refine start_ (n := 20) (S := fun w' => w'.cell? ⟨gb360, 0, none⟩ = some (.slice A359_0 ((rd_T35 l0 x11_1).f0).length c359_0) ∧ w'.cell? ⟨gb360, 1, none⟩ = some (.int .i64 ((rd_T35 l0 x11_1).f1)) ∧ w'.cell? ⟨gb360, 2, none⟩ = some (.bool ((rd_T35 l0 x11_1).f2)) ∧ w'.cell? ⟨gb360, 3, none⟩ = some (.int .i64 ((rd_T35 l0 x11_1).f3)) ∧ w'.cell? ⟨gb360, 4, none⟩ = some (.slice A359_4 ((rd_T35 l0 x11_1).f4).length c359_4) ∧ w'.cell? (ad364.add (((ji16)).toNat * 5)) = some (.slice A364_0 ((rd_T35 x5_1 (ji16)).f0).length c364_0) ∧ w'.cell? ⟨(ad364.add (((ji16)).toNat * 5)).block, (ad364.add (((ji16)).toNat * 5)).off + 1, none⟩ = some (.int .i64 ((rd_T35 x5_1 (ji16)).f1)) ∧ w'.cell? ⟨(ad364.add (((ji16)).toNat * 5)).block, (ad364.add (((ji16)).toNat * 5)).off + 2, none⟩ = some (.bool ((rd_T35 x5_1 (ji16)).f2)) ∧ w'.cell? ⟨(ad364.add (((ji16)).toNat * 5)).block, (ad364.add (((ji16)).toNat * 5)).off + 3, none⟩ = some (.int .i64 ((rd_T35 x5_1 (ji16)).f3)) ∧ w'.cell? ⟨(ad364.add (((ji16)).toNat * 5)).block, (ad364.add (((ji16)).toNat * 5)).off + 4, none⟩ = some (.slice A364_4 ((rd_T35 x5_1 (ji16)).f4).length c364_4)) (ds := []) #[false, false, false, false, false, false, false, false, false, false, false, false, false, false, false, false, false, false, false, false] (by kernel_rfl) rfl rfl ⟨(blk_cell BK360.out 0).trans rfl, (blk_cell BK360.out 1).trans rfl, (blk_cell BK360.out 2).trans rfl, (blk_cell BK360.out 3).trans rfl, (blk_cell BK360.out 4).trans rfl, hx364_0, hx364_1, hx364_2, hx364_3, hx364_4⟩ (fun hHeld => ?_); refine with_tabW halyardref9_Seen.tab6 halyardref9_Seen.bits6 (fun HT_ HW_ => ?_)
                      generalize w24.drew = w25 at HO_5 HO_9 HL359_0 HL359_4 BK360 HB HL364_0 HL364_4 HR364_0 HR364_4 hx364_0 hx364_1 hx364_2 hx364_3 hx364_4 hHeld ⊢
                      refine pure_ (i := 0) (N := some 17) (v := ?_) (a' := ?_) #[true, false, false, false, false, false, false, false, false, false, false, false, false, false, false, false, false, false, false, false] rfl rfl (any_of HT_.out (by kernel_rfl)) (fun _ _ _ h => h) (Or.inl ⟨by rfl, ?_⟩) ?_ ?_
                      rotate_left
                      · intro w'
                        go_simp
                        with_reducible rfl
                      rotate_left
                      · simp only [Act.put, List.setIfInBounds_toArray, List.set_cons_zero, List.set_cons_succ, i64_w, i32_w]
                        rfl
                      refine pure_ (i := 2) (N := some 19) (v := ?_) (a' := ?_) #[true, false, true, false, false, false, false, false, false, false, false, false, false, false, false, false, false, false, false, false] rfl rfl (any_of HT_.out (by kernel_rfl)) (fun _ _ _ h => h) (Or.inl ⟨by rfl, ?_⟩) ?_ ?_
                      rotate_left
                      · intro w'
                        go_simp
                        with_reducible rfl
                      rotate_left
                      · simp only [Act.put, List.setIfInBounds_toArray, List.set_cons_zero, List.set_cons_succ, i64_w, i32_w]
                        rfl
                      refine take_ (i := 1) (N := some 18) (v := ?_) (a' := ?_) #[true, true, true, false, false, false, false, false, false, false, false, false, false, false, false, false, false, false, false, false] rfl rfl (take_ofW HT_.out HW_.out (by kernel_rfl)) (fun _ _ _ h => h) (Or.inl ⟨by rfl, ?_⟩) hHeld ?_ ?_
                      rotate_left
                      · rintro w' ⟨s0, s1, s2, s3, s4, s5, s6, s7, s8, s9⟩
                        go_simp
                        with_reducible rfl
                      rotate_left
                      · simp only [Act.put, List.setIfInBounds_toArray, List.set_cons_zero, List.set_cons_succ, i64_w, i32_w]
                        rfl
                      refine pure_ (i := 3) (N := some 20) (v := ?_) (a' := ?_) #[true, true, true, true, false, false, false, false, false, false, false, false, false, false, false, false, false, false, false, false] rfl rfl (any_of HT_.out (by kernel_rfl)) (fun _ _ _ h => h) (Or.inl ⟨by rfl, ?_⟩) ?_ ?_
                      rotate_left
                      · intro w'
                        go_simp
                        with_reducible rfl
                      rotate_left
                      · simp only [Act.put, List.setIfInBounds_toArray, List.set_cons_zero, List.set_cons_succ, i64_w, i32_w]
                        rfl
                      refine pure_ (i := 4) (N := some 21) (v := ?_) (a' := ?_) #[true, true, true, true, true, false, false, false, false, false, false, false, false, false, false, false, false, false, false, false] rfl rfl (any_of HT_.out (by kernel_rfl)) (fun _ _ _ h => h) (Or.inl ⟨by rfl, ?_⟩) ?_ ?_
                      rotate_left
                      · intro w'
                        go_simp
                        with_reducible rfl
                      rotate_left
                      · simp only [Act.put, List.setIfInBounds_toArray, List.set_cons_zero, List.set_cons_succ, i64_w, i32_w]
                        rfl
                      refine pure_ (i := 5) (N := some 22) (v := ?_) (a' := ?_) #[true, true, true, true, true, true, false, false, false, false, false, false, false, false, false, false, false, false, false, false] rfl rfl (any_of HT_.out (by kernel_rfl)) (fun _ _ _ h => h) (Or.inl ⟨by rfl, ?_⟩) ?_ ?_
                      rotate_left
                      · intro w'
                        go_simp
                        with_reducible rfl
                      rotate_left
                      · simp only [Act.put, List.setIfInBounds_toArray, List.set_cons_zero, List.set_cons_succ, i64_w, i32_w]
                        rfl
                      refine pure_ (i := 6) (N := some 23) (v := ?_) (a' := ?_) #[true, true, true, true, true, true, true, false, false, false, false, false, false, false, false, false, false, false, false, false] rfl rfl (any_of HT_.out (by kernel_rfl)) (fun _ _ _ h => h) (Or.inl ⟨by rfl, ?_⟩) ?_ ?_
                      rotate_left
                      · intro w'
                        go_simp
                        with_reducible rfl
                      rotate_left
                      · simp only [Act.put, List.setIfInBounds_toArray, List.set_cons_zero, List.set_cons_succ, i64_w, i32_w]
                        rfl
                      refine pure_ (i := 7) (N := some 24) (v := ?_) (a' := ?_) #[true, true, true, true, true, true, true, true, false, false, false, false, false, false, false, false, false, false, false, false] rfl rfl (any_of HT_.out (by kernel_rfl)) (fun _ _ _ h => h) (Or.inl ⟨by rfl, ?_⟩) ?_ ?_
                      rotate_left
                      · intro w'
                        go_simp
                        with_reducible rfl
                      rotate_left
                      · simp only [Act.put, List.setIfInBounds_toArray, List.set_cons_zero, List.set_cons_succ, i64_w, i32_w]
                        rfl
                      refine pure_ (i := 8) (N := some 25) (v := ?_) (a' := ?_) #[true, true, true, true, true, true, true, true, true, false, false, false, false, false, false, false, false, false, false, false] rfl rfl (any_of HT_.out (by kernel_rfl)) (fun _ _ _ h => h) (Or.inl ⟨by rfl, ?_⟩) ?_ ?_
                      rotate_left
                      · intro w'
                        go_simp
                        with_reducible rfl
                      rotate_left
                      · simp only [Act.put, List.setIfInBounds_toArray, List.set_cons_zero, List.set_cons_succ, i64_w, i32_w]
                        rfl
                      refine pure_ (i := 9) (N := some 26) (v := ?_) (a' := ?_) #[true, true, true, true, true, true, true, true, true, true, false, false, false, false, false, false, false, false, false, false] rfl rfl (any_of HT_.out (by kernel_rfl)) (fun _ _ _ h => h) (Or.inl ⟨by rfl, ?_⟩) ?_ ?_
                      rotate_left
                      · intro w'
                        go_simp
                        with_reducible rfl
                      rotate_left
                      · simp only [Act.put, List.setIfInBounds_toArray, List.set_cons_zero, List.set_cons_succ, i64_w, i32_w]
                        rfl
                      refine pure_ (i := 10) (N := some 27) (v := ?_) (a' := ?_) #[true, true, true, true, true, true, true, true, true, true, true, false, false, false, false, false, false, false, false, false] rfl rfl (any_of HT_.out (by kernel_rfl)) (fun _ _ _ h => h) (Or.inl ⟨by rfl, ?_⟩) ?_ ?_
                      rotate_left
                      · intro w'
                        go_simp
                        with_reducible rfl
                      rotate_left
                      · simp only [Act.put, List.setIfInBounds_toArray, List.set_cons_zero, List.set_cons_succ, i64_w, i32_w]
                        rfl
                      refine pure_ (i := 11) (N := some 28) (v := ?_) (a' := ?_) #[true, true, true, true, true, true, true, true, true, true, true, true, false, false, false, false, false, false, false, false] rfl rfl (any_of HT_.out (by kernel_rfl)) (fun _ _ _ h => h) (Or.inl ⟨by rfl, ?_⟩) ?_ ?_
                      rotate_left
                      · intro w'
                        go_simp
                        with_reducible rfl
                      rotate_left
                      · simp only [Act.put, List.setIfInBounds_toArray, List.set_cons_zero, List.set_cons_succ, i64_w, i32_w]
                        rfl
                      refine pure_ (i := 12) (N := some 29) (v := ?_) (a' := ?_) #[true, true, true, true, true, true, true, true, true, true, true, true, true, false, false, false, false, false, false, false] rfl rfl (any_of HT_.out (by kernel_rfl)) (fun _ _ _ h => h) (Or.inl ⟨by rfl, ?_⟩) ?_ ?_
                      rotate_left
                      · intro w'
                        go_simp
                        with_reducible rfl
                      rotate_left
                      · simp only [Act.put, List.setIfInBounds_toArray, List.set_cons_zero, List.set_cons_succ, i64_w, i32_w]
                        rfl
                      refine pure_ (i := 14) (N := some 31) (v := ?_) (a' := ?_) #[true, true, true, true, true, true, true, true, true, true, true, true, true, false, true, false, false, false, false, false] rfl rfl (any_of HT_.out (by kernel_rfl)) (fun _ _ _ h => h) (Or.inl ⟨by rfl, ?_⟩) ?_ ?_
                      rotate_left
                      · intro w'
                        go_simp
                        with_reducible rfl
                      rotate_left
                      · simp only [Act.put, List.setIfInBounds_toArray, List.set_cons_zero, List.set_cons_succ, i64_w, i32_w]
                        rfl
                      refine take_ (i := 13) (N := some 30) (v := ?_) (a' := ?_) #[true, true, true, true, true, true, true, true, true, true, true, true, true, true, true, false, false, false, false, false] rfl rfl (take_ofW HT_.out HW_.out (by kernel_rfl)) (fun _ _ _ h => h) (Or.inl ⟨by rfl, ?_⟩) hHeld ?_ ?_
                      rotate_left
                      · rintro w' ⟨s0, s1, s2, s3, s4, s5, s6, s7, s8, s9⟩
                        go_simp
                        with_reducible rfl
                      rotate_left
                      · simp only [Act.put, List.setIfInBounds_toArray, List.set_cons_zero, List.set_cons_succ, i64_w, i32_w]
                        rfl
                      refine take_ (i := 15) (N := some 32) (v := ?_) (a' := ?_) #[true, true, true, true, true, true, true, true, true, true, true, true, true, true, true, true, false, false, false, false] rfl rfl (take_ofW HT_.out HW_.out (by kernel_rfl)) (fun _ _ _ h => h) (Or.inl ⟨by rfl, ?_⟩) hHeld ?_ ?_
                      rotate_left
                      · rintro w' ⟨s0, s1, s2, s3, s4, s5, s6, s7, s8, s9⟩
                        go_simp
                        with_reducible rfl
                      rotate_left
                      · simp only [Act.put, List.setIfInBounds_toArray, List.set_cons_zero, List.set_cons_succ, i64_w, i32_w]
                        rfl
                      refine one_ (i := 16) (N := some 33) #[true, true, true, true, true, true, true, true, true, true, true, true, true, true, true, true, true, false, false, false] rfl rfl (one_of HT_.out (by kernel_rfl)) (by decide) (fun K hK => ?_)
                      refine goes_ Try.func17 (by kernel_rfl) rfl #[.slice A364_0 ((rd_T35 x5_1 (ji16)).f0).length c364_0, .slice A359_0 ((rd_T35 l0 x11_1).f0).length c359_0] (by rfl) rfl rfl (by (try simp only [List.map_toArray, List.map_cons, List.map_nil]); first | done | (simp only [hji16]; rfl) | rfl | (simp only [List.length_drop, List.length_take]; rfl)) ?_
                      with_reducible refine (halyardref2_Compare.calls _ _ ((rd_T35 x5_1 (ji16)).f0) _ _ ((rd_T35 l0 x11_1).f0) t365 _ ?side1 ?side2 ?side3 ?side4 A19.out).mono ?_
                      (case side1 => repeat (first | exact (by repeat (first | (with_reducible exact HR364_0.out) | (with_reducible refine Kd.C_alloc ?_ _) | (with_reducible refine Kd.C_drewN ?_ _) | (with_reducible refine Kd.C_drew ?_) | exact HR364_0.out)) | (with_reducible refine Kd.C_alloc ?_ _) | (with_reducible refine Kd.C_drewN ?_ _) | (with_reducible refine Kd.C_drew ?_)))
                      (case side2 => exact HC364_0.out)
                      (case side3 => repeat (first | exact ((Kd.V_reads' (by (with_reducible repeat (first | apply Kd.V_alloc | apply Kd.V_drewN | apply Kd.V_drew)); exact HL359_0.out)).2.2) | (with_reducible refine Kd.C_alloc ?_ _) | (with_reducible refine Kd.C_drewN ?_ _) | (with_reducible refine Kd.C_drew ?_)))
                      (case side4 => exact HC359_0.out)
                      rintro e w26 ⟨rfl, hb⟩
                      have HS5_ := (hb.cell (World.block_lt_of_cell? _ _ (hHeld.2.2.2.2.2.1))).trans (hHeld.2.2.2.2.2.1)
                      have HS6_ := (hb.cell (World.block_lt_of_cell? _ _ (hHeld.2.2.2.2.2.2.1))).trans (hHeld.2.2.2.2.2.2.1)
                      have HS7_ := (hb.cell (World.block_lt_of_cell? _ _ (hHeld.2.2.2.2.2.2.2.1))).trans (hHeld.2.2.2.2.2.2.2.1)
                      have HS8_ := (hb.cell (World.block_lt_of_cell? _ _ (hHeld.2.2.2.2.2.2.2.2.1))).trans (hHeld.2.2.2.2.2.2.2.2.1)
                      have HS9_ := (hb.cell (World.block_lt_of_cell? _ _ (hHeld.2.2.2.2.2.2.2.2.2))).trans (hHeld.2.2.2.2.2.2.2.2.2)
                      refine ⟨_, rfl, ?_⟩
                      have n0_ := Aside0.mk (Kd.N_below (by (with_reducible repeat (first | apply Kd.N_alloc | apply Kd.N_drewN | apply Kd.N_drew)); exact HO_5.out) hb)
                      have n1_ := Aside0.mk (Kd.V_below (by (with_reducible repeat (first | apply Kd.V_alloc | apply Kd.V_drewN | apply Kd.V_drew)); exact HO_9.out) hb)
                      have n2_ := Aside0.mk (Kd.V_below (by (with_reducible repeat (first | apply Kd.V_alloc | apply Kd.V_drewN | apply Kd.V_drew)); exact HL359_0.out) hb)
                      have n3_ := Aside0.mk (Kd.V_below (by (with_reducible repeat (first | apply Kd.V_alloc | apply Kd.V_drewN | apply Kd.V_drew)); exact HL359_4.out) hb)
                      have n4_ := Aside0.mk (Kd.V_below (by (with_reducible repeat (first | apply Kd.V_alloc | apply Kd.V_drewN | apply Kd.V_drew)); exact HL364_0.out) hb)
                      have n5_ := Aside0.mk (Kd.V_below (by (with_reducible repeat (first | apply Kd.V_alloc | apply Kd.V_drewN | apply Kd.V_drew)); exact HL364_4.out) hb)
                      have n6_ := Aside0.mk (blk_below (g := gb360) (o := .cells #[.slice A359_0 ((rd_T35 l0 x11_1).f0).length c359_0, .int .i64 ((rd_T35 l0 x11_1).f1), .bool ((rd_T35 l0 x11_1).f2), .int .i64 ((rd_T35 l0 x11_1).f3), .slice A359_4 ((rd_T35 l0 x11_1).f4).length c359_4] 35 (0, 0)) (by (with_reducible repeat (first | refine blk_drewN ?_ _ | refine blk_drew ?_ | refine blk_alloc ?_ _)); exact BK360.out) hb)
                      have n7_ := Aside0.mk (Kd.C_below (by repeat (first | (with_reducible exact HR364_0.out) | (with_reducible refine Kd.C_alloc ?_ _) | (with_reducible refine Kd.C_drewN ?_ _) | (with_reducible refine Kd.C_drew ?_) | exact HR364_0.out)) hb)
                      have n8_ := Aside0.mk (Kd.C_below (by repeat (first | (with_reducible exact HR364_4.out) | (with_reducible refine Kd.C_alloc ?_ _) | (with_reducible refine Kd.C_drewN ?_ _) | (with_reducible refine Kd.C_drew ?_) | exact HR364_4.out)) hb)
                      have n9_ := Aside0.mk (below_step (by repeat (first | (with_reducible first | exact HB.out | apply below_alloc | apply pw_below_drewN | apply below_drew1 | refine below_set ?_ GE360.out) | exact HB.out)) hb)
                      clear HO_5
                      clear HO_9
                      clear HL359_0
                      clear HL359_4
                      clear HL364_0
                      clear HL364_4
                      clear BK360
                      clear HR364_0
                      clear HR364_4
                      clear HB
                      have HO_5 := n0_
                      have HO_9 := n1_
                      have HL359_0 := n2_
                      have HL359_4 := n3_
                      have HL364_0 := n4_
                      have HL364_4 := n5_
                      have BK360 := n6_
                      have HR364_0 := n7_
                      have HR364_4 := n8_
                      have HB := n9_
                      clear n0_ n1_ n2_ n3_ n4_ n5_ n6_ n7_ n8_ n9_
                      (try clear hb)
                      (try clear hb2)
                      (try clear hk)
                      (try clear hi)
                      refine hK.out _ _ ⟨(blk_cell BK360.out 0).trans rfl, (blk_cell BK360.out 1).trans rfl, (blk_cell BK360.out 2).trans rfl, (blk_cell BK360.out 3).trans rfl, (blk_cell BK360.out 4).trans rfl, HS5_, HS6_, HS7_, HS8_, HS9_⟩ (fun hHeld => ?_)
                      clear hK K
                      refine norm_ (a' := ?_) ?_ ?_
                      rotate_left
                      · show Act.put _ (some 33) _ = _
                        simp only [Act.put, List.setIfInBounds_toArray, List.set_cons_zero, List.set_cons_succ, i64_w, i32_w]
                        rfl
                      refine pure_ (i := 17) (N := some 34) (v := ?_) (a' := ?_) #[true, true, true, true, true, true, true, true, true, true, true, true, true, true, true, true, true, true, false, false] rfl rfl (any_of HT_.out (by kernel_rfl)) (fun _ _ _ h => h) (Or.inl ⟨by rfl, ?_⟩) ?_ ?_
                      rotate_left
                      · intro w'
                        go_simp
                        with_reducible rfl
                      rotate_left
                      · simp only [Act.put, List.setIfInBounds_toArray, List.set_cons_zero, List.set_cons_succ, i64_w, i32_w]
                        rfl
                      refine pure_ (i := 18) (N := some 35) (v := ?_) (a' := ?_) #[true, true, true, true, true, true, true, true, true, true, true, true, true, true, true, true, true, true, true, false] rfl rfl (any_of HT_.out (by kernel_rfl)) (fun _ _ _ h => h) (Or.inl ⟨by rfl, ?_⟩) ?_ ?_
                      rotate_left
                      · intro w'
                        go_simp
                        with_reducible rfl
                      rotate_left
                      · simp only [Act.put, List.setIfInBounds_toArray, List.set_cons_zero, List.set_cons_succ, i64_w, i32_w]
                        rfl
                      refine pure_ (i := 19) (N := some 36) (v := ?_) (a' := ?_) #[true, true, true, true, true, true, true, true, true, true, true, true, true, true, true, true, true, true, true, true] rfl rfl (any_of HT_.out (by kernel_rfl)) (fun _ _ _ h => h) (Or.inl ⟨by rfl, ?_⟩) ?_ ?_
                      rotate_left
                      · intro w'
                        go_simp
                        with_reducible rfl
                      rotate_left
                      · simp only [Act.put, List.setIfInBounds_toArray, List.set_cons_zero, List.set_cons_succ, i64_w, i32_w]
                        rfl
                      refine done_ (done_of HT_.out (by kernel_rfl)) ?_
                      try go_wp2
                      go_roundg k1
                      case measure => have := HK1.out; omega
                      case rel => exact ⟨(x5_1), (wrap64 (x11_1 + 1)), (by first | rfl | (simp; done) | (simp [*]; done)), H', ⟨by have := HK1.out; omega⟩, ⟨by (with_reducible repeat (first | apply Kd.N_alloc | apply Kd.N_drewN | apply Kd.N_drew)); exact Kd.N_mono HO_5.out (fun _ hk => hk.1)⟩, ⟨by (with_reducible repeat (first | apply Kd.V_alloc | apply Kd.V_drewN | apply Kd.V_drew)); exact Kd.V_mono HO_9.out (fun _ hk => ⟨hk.1, hk.2.1⟩)⟩, ⟨by repeat (first | (with_reducible first | exact HB.out | apply below_alloc | apply pw_below_drewN | apply below_drew1 | refine below_set ?_ GE360.out) | exact HB.out)⟩⟩
                    · rw [if_neg c20] at H
                      have c20b0 : (t365 == 0) = false := beq_eq_false_iff_ne.mpr c20
                      have c20b1 : (t365 != 0) = true := bne_iff_ne.mpr c20
                      by_cases c27 : x5_1.length < 1954687338268
                      · rw [if_pos c27] at H
                        have LMc27 := Aside0.mk c27
                        clear c27
                        obtain ⟨y366, hy366⟩ : ∃ y_ : List (S35), y_ = (x5_1 ++ [(⟨(rd_T35 l0 x11_1).f0, (rd_T35 l0 x11_1).f1, (rd_T35 l0 x11_1).f2, (rd_T35 l0 x11_1).f3, (rd_T35 l0 x11_1).f4⟩ : S35)]) := ⟨_, rfl⟩
                        replace H : (halyardref9_Seen.l0 k1 a1 y366 l0 (l0.length : Int) (wrap64 (x11_1 + 1))) = some r := by first | (rw [hy366]; with_reducible exact H) | (have H2_ := (Option.bind_some _ _).symm.trans H; rw [hy366]; with_reducible exact H2_) | (have H2_ := (Option.bind_some _ _).symm.trans H; with_reducible exact H2_) | with_reducible exact H | (rw [hy366]; exact H) | exact H
                        have Ny366 := Aside0.mk hy366
                        clear hy366
                        have H' := Aside0.mk H
                        clear H
                        have p359 : 0 ≤ (x11_1 : Int) := pa
                        have q359 : x11_1 < (l0.length : Int) := pa
                        obtain ⟨ad359, A359_0, c359_0, A359_4, c359_4, e359, hx359_0, hx359_1, hx359_2, hx359_3, hx359_4, hl359_0, hi359_0, hl359_4, hi359_4⟩ := at_T35 (Kd.V_reads' HO_9.out).2.2 x11_1 p359 q359
                        cases e359
                        obtain ⟨ce359, hce359, hMe359, hcc359⟩ := Kd.V_get HO_9.out z35 x11_1 p359 (by first | exact q359 | exact pa | (have e_ := (Kd.V_reads' HO_9.out).1; omega))
                        obtain ⟨ua359_0, uc359_0, ua359_4, uc359_4, rfl, ul359_0, ge359_0, ul359_4, ge359_4⟩ := k35_openF hMe359
                        have hv359_0 := hcc359 0 _ rfl
                        rw [Nat.add_zero] at hv359_0
                        replace hv359_0 := Option.some.inj (hv359_0.symm.trans hx359_0)
                        injection hv359_0 with hva_ hvn_ hvc_
                        rw [hva_] at ge359_0
                        rw [hvc_] at ul359_0
                        have HL359_0 := Aside0.mk (show Kd.V (Kd.int .u8) 5 _ w.heap.size _ _ ((rd_T35 l0 x11_1).f0) from Kd.V_mk ul359_0 ge359_0)
                        clear hva_ hvn_ hvc_ ge359_0 ul359_0
                        have hv359_4 := hcc359 4 _ rfl
                        rw [add_field _ _ 4 (by omega)] at hv359_4
                        replace hv359_4 := Option.some.inj (hv359_4.symm.trans hx359_4)
                        injection hv359_4 with hva_ hvn_ hvc_
                        rw [hva_] at ge359_4
                        rw [hvc_] at ul359_4
                        have HL359_4 := Aside0.mk (show Kd.V (Kd.int .u8) 5 _ w.heap.size _ _ ((rd_T35 l0 x11_1).f4) from Kd.V_mk ul359_4 ge359_4)
                        clear hva_ hvn_ hvc_ ge359_4 ul359_4
                        clear hcc359 hce359
                        have HR359_0 := Aside0.mk hi359_0
                        have HC359_0 := Aside0.mk hl359_0
                        clear hi359_0 hl359_0
                        have HR359_4 := Aside0.mk hi359_4
                        have HC359_4 := Aside0.mk hl359_4
                        clear hi359_4 hl359_4
                        replace p359 := eq_true p359
                        replace q359 := eq_true q359
                        try go_wp2_with (first | ((with_reducible refine gate_dst (N := 7) rfl ?_); refine box_event ?hg (N := 7) ?hd (cs := #[.slice none 0 0, .int .i64 0, .bool false, .int .i64 0, .slice none 0 0]) (t := 35) ?hr ?_; (case hd => rfl); (case hg => rfl); (case hr => first | (go_simp; done) | (go_simp; rfl)); intro gb360 hg w28 hbox hb; have n0_ := Aside0.mk (Kd.N_below (Kd.N_elderB (by (with_reducible repeat (first | apply Kd.N_alloc | apply Kd.N_drewN | apply Kd.N_drew)); exact HO_5.out) gb360 (Nat.le_of_eq hg.symm)) hb); have n1_ := Aside0.mk (Kd.V_below (Kd.V_elderB (by (with_reducible repeat (first | apply Kd.V_alloc | apply Kd.V_drewN | apply Kd.V_drew)); exact HO_9.out) gb360 (Nat.le_of_eq hg.symm)) hb); have n2_ := Aside0.mk (Kd.V_below (Kd.V_elderB (by (with_reducible repeat (first | apply Kd.V_alloc | apply Kd.V_drewN | apply Kd.V_drew)); exact HL359_0.out) gb360 (Nat.le_of_eq hg.symm)) hb); have n3_ := Aside0.mk (Kd.V_below (Kd.V_elderB (by (with_reducible repeat (first | apply Kd.V_alloc | apply Kd.V_drewN | apply Kd.V_drew)); exact HL359_4.out) gb360 (Nat.le_of_eq hg.symm)) hb); have n4_ := Aside0.mk (Kd.C_below (by repeat (first | (with_reducible exact HR359_0.out) | (with_reducible refine Kd.C_alloc ?_ _) | (with_reducible refine Kd.C_drewN ?_ _) | (with_reducible refine Kd.C_drew ?_) | exact HR359_0.out)) hb); have n5_ := Aside0.mk (Kd.C_below (by repeat (first | (with_reducible exact HR359_4.out) | (with_reducible refine Kd.C_alloc ?_ _) | (with_reducible refine Kd.C_drewN ?_ _) | (with_reducible refine Kd.C_drew ?_) | exact HR359_4.out)) hb); have n6_ := Aside0.mk (below_step pb hb); have n7_ := Aside0.mk (hbox); have n8_ := Aside0.mk ((by rw [hg]; exact (below_size pb) : w.heap.size ≤ gb360)); have n9_ := Aside0.mk ((by rw [hg]; exact (below_size pb) : w.heap.size ≤ gb360)); clear HO_5; clear HO_9; clear HL359_0; clear HL359_4; clear HR359_0; clear HR359_4; clear HB; have HO_5 := n0_; have HO_9 := n1_; have HL359_0 := n2_; have HL359_4 := n3_; have HR359_0 := n4_; have HR359_4 := n5_; have HB := n6_; have BK360 := n7_; have GW360 := n8_; have GE360 := n9_; clear n0_ n1_ n2_ n3_ n4_ n5_ n6_ n7_ n8_ n9_; clear hb hbox hg; have hcz29_0 : w28.cell? ⟨gb360, 0, none⟩ = some (.slice none 0 0) := (blk_cell BK360.out 0).trans rfl; have hcz29_1 : w28.cell? ⟨gb360, 1, none⟩ = some (.int .i64 0) := (blk_cell BK360.out 1).trans rfl; have hcz29_2 : w28.cell? ⟨gb360, 2, none⟩ = some (.bool false) := (blk_cell BK360.out 2).trans rfl; have hcz29_3 : w28.cell? ⟨gb360, 3, none⟩ = some (.int .i64 0) := (blk_cell BK360.out 3).trans rfl; have hcz29_4 : w28.cell? ⟨gb360, 4, none⟩ = some (.slice none 0 0) := (blk_cell BK360.out 4).trans rfl; have hfz29_0 := blk_frozen BK360.out 0; have hfz29_1 := blk_frozen BK360.out 1; have hfz29_2 := blk_frozen BK360.out 2; have hfz29_3 := blk_frozen BK360.out 3; have hfz29_4 := blk_frozen BK360.out 4; obtain ⟨Ao30, co30, eo30⟩ := Kd.N_slice HO_5.out; subst eo30))
                        have n0_ : Aside0 (Kd.N k35 35 (((((w28.setCell ⟨gb360, 0, none⟩ (.slice A359_0 ((rd_T35 l0 x11_1).f0).length c359_0)).setCell ⟨gb360, 1, none⟩ (.int .i64 ((rd_T35 l0 x11_1).f1))).setCell ⟨gb360, 2, none⟩ (.bool ((rd_T35 l0 x11_1).f2))).setCell ⟨gb360, 3, none⟩ (.int .i64 ((rd_T35 l0 x11_1).f3))).setCell ⟨gb360, 4, none⟩ (.slice A359_4 ((rd_T35 l0 x11_1).f4).length c359_4)) w.heap.size (fun k_ => (P0_ k_ ∨ w.heap.size ≤ k_) ∧ k_ ≠ gb360) (.slice Ao30 x5_1.length co30) x5_1) := ⟨by (with_reducible repeat (first | apply Kd.N_alloc | apply Kd.N_drewN | apply Kd.N_drew)); exact Kd.N_mono (Kd.N_far (p := ⟨gb360, 4, none⟩) (Kd.N_far (p := ⟨gb360, 3, none⟩) (Kd.N_far (p := ⟨gb360, 2, none⟩) (Kd.N_far (p := ⟨gb360, 1, none⟩) (Kd.N_far (p := ⟨gb360, 0, none⟩) (Kd.N_mono HO_5.out (fun k_ hk => (⟨hk, hk.2⟩ : _ ∧ k_ ≠ gb360))) (fun _ hk => hk.2) (.slice A359_0 ((rd_T35 l0 x11_1).f0).length c359_0)) (fun _ hk => hk.2) (.int .i64 ((rd_T35 l0 x11_1).f1))) (fun _ hk => hk.2) (.bool ((rd_T35 l0 x11_1).f2))) (fun _ hk => hk.2) (.int .i64 ((rd_T35 l0 x11_1).f3))) (fun _ hk => hk.2) (.slice A359_4 ((rd_T35 l0 x11_1).f4).length c359_4)) (fun _ hk => ⟨hk.1.1, hk.1.2⟩)⟩
                        have n1_ : Aside0 (Kd.V k35 35 (((((w28.setCell ⟨gb360, 0, none⟩ (.slice A359_0 ((rd_T35 l0 x11_1).f0).length c359_0)).setCell ⟨gb360, 1, none⟩ (.int .i64 ((rd_T35 l0 x11_1).f1))).setCell ⟨gb360, 2, none⟩ (.bool ((rd_T35 l0 x11_1).f2))).setCell ⟨gb360, 3, none⟩ (.int .i64 ((rd_T35 l0 x11_1).f3))).setCell ⟨gb360, 4, none⟩ (.slice A359_4 ((rd_T35 l0 x11_1).f4).length c359_4)) w.heap.size (fun k_ => (P0_ k_ ∨ w.heap.size ≤ k_) ∧ some k_ ≠ (.slice Ao30 x5_1.length co30 : Value).ownBlock ∧ k_ ≠ gb360) (.slice (some ad359) l0.length c0) l0) := ⟨by (with_reducible repeat (first | apply Kd.V_alloc | apply Kd.V_drewN | apply Kd.V_drew)); exact Kd.V_mono (Kd.V_far (p := ⟨gb360, 4, none⟩) (Kd.V_far (p := ⟨gb360, 3, none⟩) (Kd.V_far (p := ⟨gb360, 2, none⟩) (Kd.V_far (p := ⟨gb360, 1, none⟩) (Kd.V_far (p := ⟨gb360, 0, none⟩) (Kd.V_mono HO_9.out (fun k_ hk => (⟨hk, hk.2⟩ : _ ∧ k_ ≠ gb360))) (fun _ hk => hk.2) (.slice A359_0 ((rd_T35 l0 x11_1).f0).length c359_0)) (fun _ hk => hk.2) (.int .i64 ((rd_T35 l0 x11_1).f1))) (fun _ hk => hk.2) (.bool ((rd_T35 l0 x11_1).f2))) (fun _ hk => hk.2) (.int .i64 ((rd_T35 l0 x11_1).f3))) (fun _ hk => hk.2) (.slice A359_4 ((rd_T35 l0 x11_1).f4).length c359_4)) (fun _ hk => ⟨hk.1.1.1, ⟨hk.1.1.2, hk.1.2⟩⟩)⟩
                        have n2_ : Aside0 (Kd.V (Kd.int .u8) 5 (((((w28.setCell ⟨gb360, 0, none⟩ (.slice A359_0 ((rd_T35 l0 x11_1).f0).length c359_0)).setCell ⟨gb360, 1, none⟩ (.int .i64 ((rd_T35 l0 x11_1).f1))).setCell ⟨gb360, 2, none⟩ (.bool ((rd_T35 l0 x11_1).f2))).setCell ⟨gb360, 3, none⟩ (.int .i64 ((rd_T35 l0 x11_1).f3))).setCell ⟨gb360, 4, none⟩ (.slice A359_4 ((rd_T35 l0 x11_1).f4).length c359_4)) w.heap.size (fun k_ => (P0_ k_ ∨ w.heap.size ≤ k_) ∧ some k_ ≠ (.slice Ao30 x5_1.length co30 : Value).ownBlock ∧ k_ ≠ gb360) (.slice A359_0 ((rd_T35 l0 x11_1).f0).length c359_0) ((rd_T35 l0 x11_1).f0)) := ⟨by (with_reducible repeat (first | apply Kd.V_alloc | apply Kd.V_drewN | apply Kd.V_drew)); exact Kd.V_mono (Kd.V_far (p := ⟨gb360, 4, none⟩) (Kd.V_far (p := ⟨gb360, 3, none⟩) (Kd.V_far (p := ⟨gb360, 2, none⟩) (Kd.V_far (p := ⟨gb360, 1, none⟩) (Kd.V_far (p := ⟨gb360, 0, none⟩) (Kd.V_mono HL359_0.out (fun k_ hk => (⟨hk, hk.2⟩ : _ ∧ k_ ≠ gb360))) (fun _ hk => hk.2) (.slice A359_0 ((rd_T35 l0 x11_1).f0).length c359_0)) (fun _ hk => hk.2) (.int .i64 ((rd_T35 l0 x11_1).f1))) (fun _ hk => hk.2) (.bool ((rd_T35 l0 x11_1).f2))) (fun _ hk => hk.2) (.int .i64 ((rd_T35 l0 x11_1).f3))) (fun _ hk => hk.2) (.slice A359_4 ((rd_T35 l0 x11_1).f4).length c359_4)) (fun _ hk => ⟨hk.1.1.1, ⟨hk.1.1.2, hk.1.2⟩⟩)⟩
                        have n3_ : Aside0 (Kd.V (Kd.int .u8) 5 (((((w28.setCell ⟨gb360, 0, none⟩ (.slice A359_0 ((rd_T35 l0 x11_1).f0).length c359_0)).setCell ⟨gb360, 1, none⟩ (.int .i64 ((rd_T35 l0 x11_1).f1))).setCell ⟨gb360, 2, none⟩ (.bool ((rd_T35 l0 x11_1).f2))).setCell ⟨gb360, 3, none⟩ (.int .i64 ((rd_T35 l0 x11_1).f3))).setCell ⟨gb360, 4, none⟩ (.slice A359_4 ((rd_T35 l0 x11_1).f4).length c359_4)) w.heap.size (fun k_ => (P0_ k_ ∨ w.heap.size ≤ k_) ∧ some k_ ≠ (.slice Ao30 x5_1.length co30 : Value).ownBlock ∧ k_ ≠ gb360) (.slice A359_4 ((rd_T35 l0 x11_1).f4).length c359_4) ((rd_T35 l0 x11_1).f4)) := ⟨by (with_reducible repeat (first | apply Kd.V_alloc | apply Kd.V_drewN | apply Kd.V_drew)); exact Kd.V_mono (Kd.V_far (p := ⟨gb360, 4, none⟩) (Kd.V_far (p := ⟨gb360, 3, none⟩) (Kd.V_far (p := ⟨gb360, 2, none⟩) (Kd.V_far (p := ⟨gb360, 1, none⟩) (Kd.V_far (p := ⟨gb360, 0, none⟩) (Kd.V_mono HL359_4.out (fun k_ hk => (⟨hk, hk.2⟩ : _ ∧ k_ ≠ gb360))) (fun _ hk => hk.2) (.slice A359_0 ((rd_T35 l0 x11_1).f0).length c359_0)) (fun _ hk => hk.2) (.int .i64 ((rd_T35 l0 x11_1).f1))) (fun _ hk => hk.2) (.bool ((rd_T35 l0 x11_1).f2))) (fun _ hk => hk.2) (.int .i64 ((rd_T35 l0 x11_1).f3))) (fun _ hk => hk.2) (.slice A359_4 ((rd_T35 l0 x11_1).f4).length c359_4)) (fun _ hk => ⟨hk.1.1.1, ⟨hk.1.1.2, hk.1.2⟩⟩)⟩
                        have n4_ : Aside0 ((((((w28.setCell ⟨gb360, 0, none⟩ (.slice A359_0 ((rd_T35 l0 x11_1).f0).length c359_0)).setCell ⟨gb360, 1, none⟩ (.int .i64 ((rd_T35 l0 x11_1).f1))).setCell ⟨gb360, 2, none⟩ (.bool ((rd_T35 l0 x11_1).f2))).setCell ⟨gb360, 3, none⟩ (.int .i64 ((rd_T35 l0 x11_1).f3))).setCell ⟨gb360, 4, none⟩ (.slice A359_4 ((rd_T35 l0 x11_1).f4).length c359_4)).heap[gb360]? = some (.cells #[.slice A359_0 ((rd_T35 l0 x11_1).f0).length c359_0, .int .i64 ((rd_T35 l0 x11_1).f1), .bool ((rd_T35 l0 x11_1).f2), .int .i64 ((rd_T35 l0 x11_1).f3), .slice A359_4 ((rd_T35 l0 x11_1).f4).length c359_4] 35 (0, 0))) := ⟨by (with_reducible repeat (first | refine blk_drewN ?_ _ | refine blk_drew ?_ | refine blk_alloc ?_ _)); refine blk_put (cs := #[.slice A359_0 ((rd_T35 l0 x11_1).f0).length c359_0, .int .i64 ((rd_T35 l0 x11_1).f1), .bool ((rd_T35 l0 x11_1).f2), .int .i64 ((rd_T35 l0 x11_1).f3), .slice none 0 0]) ?_ 4 _ rfl; (with_reducible repeat (first | refine blk_drewN ?_ _ | refine blk_drew ?_ | refine blk_alloc ?_ _)); refine blk_put (cs := #[.slice A359_0 ((rd_T35 l0 x11_1).f0).length c359_0, .int .i64 ((rd_T35 l0 x11_1).f1), .bool ((rd_T35 l0 x11_1).f2), .int .i64 0, .slice none 0 0]) ?_ 3 _ rfl; (with_reducible repeat (first | refine blk_drewN ?_ _ | refine blk_drew ?_ | refine blk_alloc ?_ _)); refine blk_put (cs := #[.slice A359_0 ((rd_T35 l0 x11_1).f0).length c359_0, .int .i64 ((rd_T35 l0 x11_1).f1), .bool false, .int .i64 0, .slice none 0 0]) ?_ 2 _ rfl; (with_reducible repeat (first | refine blk_drewN ?_ _ | refine blk_drew ?_ | refine blk_alloc ?_ _)); refine blk_put (cs := #[.slice A359_0 ((rd_T35 l0 x11_1).f0).length c359_0, .int .i64 0, .bool false, .int .i64 0, .slice none 0 0]) ?_ 1 _ rfl; (with_reducible repeat (first | refine blk_drewN ?_ _ | refine blk_drew ?_ | refine blk_alloc ?_ _)); refine blk_put (cs := #[.slice none 0 0, .int .i64 0, .bool false, .int .i64 0, .slice none 0 0]) ?_ 0 _ rfl; (with_reducible repeat (first | refine blk_drewN ?_ _ | refine blk_drew ?_ | refine blk_alloc ?_ _)); exact BK360.out⟩
                        have n5_ : Aside0 (Below w.heap.size w (((((w28.setCell ⟨gb360, 0, none⟩ (.slice A359_0 ((rd_T35 l0 x11_1).f0).length c359_0)).setCell ⟨gb360, 1, none⟩ (.int .i64 ((rd_T35 l0 x11_1).f1))).setCell ⟨gb360, 2, none⟩ (.bool ((rd_T35 l0 x11_1).f2))).setCell ⟨gb360, 3, none⟩ (.int .i64 ((rd_T35 l0 x11_1).f3))).setCell ⟨gb360, 4, none⟩ (.slice A359_4 ((rd_T35 l0 x11_1).f4).length c359_4))) := ⟨by repeat (first | (with_reducible first | exact HB.out | apply below_alloc | apply pw_below_drewN | apply below_drew1 | refine below_set ?_ GE360.out) | exact HB.out)⟩
                        (try clear HO_5)
                        (try clear HO_9)
                        (try clear HL359_0)
                        (try clear HL359_4)
                        (try clear BK360)
                        (try clear HB)
                        generalize (((((w28.setCell ⟨gb360, 0, none⟩ (.slice A359_0 ((rd_T35 l0 x11_1).f0).length c359_0)).setCell ⟨gb360, 1, none⟩ (.int .i64 ((rd_T35 l0 x11_1).f1))).setCell ⟨gb360, 2, none⟩ (.bool ((rd_T35 l0 x11_1).f2))).setCell ⟨gb360, 3, none⟩ (.int .i64 ((rd_T35 l0 x11_1).f3))).setCell ⟨gb360, 4, none⟩ (.slice A359_4 ((rd_T35 l0 x11_1).f4).length c359_4)) = w31 at n0_ n1_ n2_ n3_ n4_ n5_ ⊢
                        have HO_5 := n0_
                        have HO_9 := n1_
                        have HL359_0 := n2_
                        have HL359_4 := n3_
                        have BK360 := n4_
                        have HB := n5_
                        clear n0_ n1_ n2_ n3_ n4_ n5_
                        have n0_ := Aside0.mk (Kd.N_drew HO_5.out)
                        have n1_ := Aside0.mk (Kd.V_drew HO_9.out)
                        have n2_ := Aside0.mk (Kd.V_drew HL359_0.out)
                        have n3_ := Aside0.mk (Kd.V_drew HL359_4.out)
                        have n4_ := Aside0.mk (blk_drew BK360.out)
                        have n5_ := Aside0.mk (below_drew1 HB.out)
                        clear HO_5
                        clear HO_9
                        clear HL359_0
                        clear HL359_4
                        clear BK360
                        clear HB
                        have HO_5 := n0_
                        have HO_9 := n1_
                        have HL359_0 := n2_
                        have HL359_4 := n3_
                        have BK360 := n4_
                        have HB := n5_
                        clear n0_ n1_ n2_ n3_ n4_ n5_
                        have p364 : 0 ≤ ((ji16) : Int) := pa
                        have q364 : (ji16) < (x5_1.length : Int) := pa
                        obtain ⟨ad364, A364_0, c364_0, A364_4, c364_4, e364, hx364_0, hx364_1, hx364_2, hx364_3, hx364_4, hl364_0, hi364_0, hl364_4, hi364_4⟩ := at_T35 (Kd.N_reads' HO_5.out).2.2 (ji16) p364 q364
                        cases e364
                        obtain ⟨ce364, hce364, hMe364, hcc364⟩ := Kd.N_get HO_5.out z35 (ji16) p364 (by first | exact q364 | exact pa | (have e_ := (Kd.N_reads' HO_5.out).1; omega))
                        obtain ⟨ua364_0, uc364_0, ua364_4, uc364_4, rfl, ul364_0, ge364_0, ul364_4, ge364_4⟩ := k35_openF hMe364
                        have hv364_0 := hcc364 0 _ rfl
                        rw [Nat.add_zero] at hv364_0
                        replace hv364_0 := Option.some.inj (hv364_0.symm.trans hx364_0)
                        injection hv364_0 with hva_ hvn_ hvc_
                        rw [hva_] at ge364_0
                        rw [hvc_] at ul364_0
                        have HL364_0 := Aside0.mk (show Kd.V (Kd.int .u8) 5 _ w.heap.size _ _ ((rd_T35 x5_1 (ji16)).f0) from Kd.V_mk ul364_0 ge364_0)
                        clear hva_ hvn_ hvc_ ge364_0 ul364_0
                        have hv364_4 := hcc364 4 _ rfl
                        rw [add_field _ _ 4 (by omega)] at hv364_4
                        replace hv364_4 := Option.some.inj (hv364_4.symm.trans hx364_4)
                        injection hv364_4 with hva_ hvn_ hvc_
                        rw [hva_] at ge364_4
                        rw [hvc_] at ul364_4
                        have HL364_4 := Aside0.mk (show Kd.V (Kd.int .u8) 5 _ w.heap.size _ _ ((rd_T35 x5_1 (ji16)).f4) from Kd.V_mk ul364_4 ge364_4)
                        clear hva_ hvn_ hvc_ ge364_4 ul364_4
                        clear hcc364 hce364
                        have HR364_0 := Aside0.mk hi364_0
                        have HC364_0 := Aside0.mk hl364_0
                        clear hi364_0 hl364_0
                        have HR364_4 := Aside0.mk hi364_4
                        have HC364_4 := Aside0.mk hl364_4
                        clear hi364_4 hl364_4
                        replace p364 := eq_true p364
                        replace q364 := eq_true q364
                        refine start_ (n := 20) (S := fun w' => w'.cell? ⟨gb360, 0, none⟩ = some (.slice A359_0 ((rd_T35 l0 x11_1).f0).length c359_0) ∧ w'.cell? ⟨gb360, 1, none⟩ = some (.int .i64 ((rd_T35 l0 x11_1).f1)) ∧ w'.cell? ⟨gb360, 2, none⟩ = some (.bool ((rd_T35 l0 x11_1).f2)) ∧ w'.cell? ⟨gb360, 3, none⟩ = some (.int .i64 ((rd_T35 l0 x11_1).f3)) ∧ w'.cell? ⟨gb360, 4, none⟩ = some (.slice A359_4 ((rd_T35 l0 x11_1).f4).length c359_4) ∧ w'.cell? (ad364.add (((ji16)).toNat * 5)) = some (.slice A364_0 ((rd_T35 x5_1 (ji16)).f0).length c364_0) ∧ w'.cell? ⟨(ad364.add (((ji16)).toNat * 5)).block, (ad364.add (((ji16)).toNat * 5)).off + 1, none⟩ = some (.int .i64 ((rd_T35 x5_1 (ji16)).f1)) ∧ w'.cell? ⟨(ad364.add (((ji16)).toNat * 5)).block, (ad364.add (((ji16)).toNat * 5)).off + 2, none⟩ = some (.bool ((rd_T35 x5_1 (ji16)).f2)) ∧ w'.cell? ⟨(ad364.add (((ji16)).toNat * 5)).block, (ad364.add (((ji16)).toNat * 5)).off + 3, none⟩ = some (.int .i64 ((rd_T35 x5_1 (ji16)).f3)) ∧ w'.cell? ⟨(ad364.add (((ji16)).toNat * 5)).block, (ad364.add (((ji16)).toNat * 5)).off + 4, none⟩ = some (.slice A364_4 ((rd_T35 x5_1 (ji16)).f4).length c364_4)) (ds := []) #[false, false, false, false, false, false, false, false, false, false, false, false, false, false, false, false, false, false, false, false] (by kernel_rfl) rfl rfl ⟨(blk_cell BK360.out 0).trans rfl, (blk_cell BK360.out 1).trans rfl, (blk_cell BK360.out 2).trans rfl, (blk_cell BK360.out 3).trans rfl, (blk_cell BK360.out 4).trans rfl, hx364_0, hx364_1, hx364_2, hx364_3, hx364_4⟩ (fun hHeld => ?_); refine with_tabW halyardref9_Seen.tab6 halyardref9_Seen.bits6 (fun HT_ HW_ => ?_)
                        generalize w31.drew = w32 at HO_5 HO_9 HL359_0 HL359_4 BK360 HB HL364_0 HL364_4 HR364_0 HR364_4 hx364_0 hx364_1 hx364_2 hx364_3 hx364_4 hHeld ⊢
                        refine pure_ (i := 0) (N := some 17) (v := ?_) (a' := ?_) #[true, false, false, false, false, false, false, false, false, false, false, false, false, false, false, false, false, false, false, false] rfl rfl (any_of HT_.out (by kernel_rfl)) (fun _ _ _ h => h) (Or.inl ⟨by rfl, ?_⟩) ?_ ?_
                        rotate_left
                        · intro w'
                          go_simp
                          with_reducible rfl
                        rotate_left
                        · simp only [Act.put, List.setIfInBounds_toArray, List.set_cons_zero, List.set_cons_succ, i64_w, i32_w]
                          rfl
                        refine pure_ (i := 2) (N := some 19) (v := ?_) (a' := ?_) #[true, false, true, false, false, false, false, false, false, false, false, false, false, false, false, false, false, false, false, false] rfl rfl (any_of HT_.out (by kernel_rfl)) (fun _ _ _ h => h) (Or.inl ⟨by rfl, ?_⟩) ?_ ?_
                        rotate_left
                        · intro w'
                          go_simp
                          with_reducible rfl
                        rotate_left
                        · simp only [Act.put, List.setIfInBounds_toArray, List.set_cons_zero, List.set_cons_succ, i64_w, i32_w]
                          rfl
                        refine take_ (i := 1) (N := some 18) (v := ?_) (a' := ?_) #[true, true, true, false, false, false, false, false, false, false, false, false, false, false, false, false, false, false, false, false] rfl rfl (take_ofW HT_.out HW_.out (by kernel_rfl)) (fun _ _ _ h => h) (Or.inl ⟨by rfl, ?_⟩) hHeld ?_ ?_
                        rotate_left
                        · rintro w' ⟨s0, s1, s2, s3, s4, s5, s6, s7, s8, s9⟩
                          go_simp
                          with_reducible rfl
                        rotate_left
                        · simp only [Act.put, List.setIfInBounds_toArray, List.set_cons_zero, List.set_cons_succ, i64_w, i32_w]
                          rfl
                        refine pure_ (i := 3) (N := some 20) (v := ?_) (a' := ?_) #[true, true, true, true, false, false, false, false, false, false, false, false, false, false, false, false, false, false, false, false] rfl rfl (any_of HT_.out (by kernel_rfl)) (fun _ _ _ h => h) (Or.inl ⟨by rfl, ?_⟩) ?_ ?_
                        rotate_left
                        · intro w'
                          go_simp
                          with_reducible rfl
                        rotate_left
                        · simp only [Act.put, List.setIfInBounds_toArray, List.set_cons_zero, List.set_cons_succ, i64_w, i32_w]
                          rfl
                        refine pure_ (i := 4) (N := some 21) (v := ?_) (a' := ?_) #[true, true, true, true, true, false, false, false, false, false, false, false, false, false, false, false, false, false, false, false] rfl rfl (any_of HT_.out (by kernel_rfl)) (fun _ _ _ h => h) (Or.inl ⟨by rfl, ?_⟩) ?_ ?_
                        rotate_left
                        · intro w'
                          go_simp
                          with_reducible rfl
                        rotate_left
                        · simp only [Act.put, List.setIfInBounds_toArray, List.set_cons_zero, List.set_cons_succ, i64_w, i32_w]
                          rfl
                        refine pure_ (i := 5) (N := some 22) (v := ?_) (a' := ?_) #[true, true, true, true, true, true, false, false, false, false, false, false, false, false, false, false, false, false, false, false] rfl rfl (any_of HT_.out (by kernel_rfl)) (fun _ _ _ h => h) (Or.inl ⟨by rfl, ?_⟩) ?_ ?_
                        rotate_left
                        · intro w'
                          go_simp
                          with_reducible rfl
                        rotate_left
                        · simp only [Act.put, List.setIfInBounds_toArray, List.set_cons_zero, List.set_cons_succ, i64_w, i32_w]
                          rfl
                        refine pure_ (i := 6) (N := some 23) (v := ?_) (a' := ?_) #[true, true, true, true, true, true, true, false, false, false, false, false, false, false, false, false, false, false, false, false] rfl rfl (any_of HT_.out (by kernel_rfl)) (fun _ _ _ h => h) (Or.inl ⟨by rfl, ?_⟩) ?_ ?_
                        rotate_left
                        · intro w'
                          go_simp
                          with_reducible rfl
                        rotate_left
                        · simp only [Act.put, List.setIfInBounds_toArray, List.set_cons_zero, List.set_cons_succ, i64_w, i32_w]
                          rfl
                        refine pure_ (i := 7) (N := some 24) (v := ?_) (a' := ?_) #[true, true, true, true, true, true, true, true, false, false, false, false, false, false, false, false, false, false, false, false] rfl rfl (any_of HT_.out (by kernel_rfl)) (fun _ _ _ h => h) (Or.inl ⟨by rfl, ?_⟩) ?_ ?_
                        rotate_left
                        · intro w'
                          go_simp
                          with_reducible rfl
                        rotate_left
                        · simp only [Act.put, List.setIfInBounds_toArray, List.set_cons_zero, List.set_cons_succ, i64_w, i32_w]
                          rfl
                        refine pure_ (i := 8) (N := some 25) (v := ?_) (a' := ?_) #[true, true, true, true, true, true, true, true, true, false, false, false, false, false, false, false, false, false, false, false] rfl rfl (any_of HT_.out (by kernel_rfl)) (fun _ _ _ h => h) (Or.inl ⟨by rfl, ?_⟩) ?_ ?_
                        rotate_left
                        · intro w'
                          go_simp
                          with_reducible rfl
                        rotate_left
                        · simp only [Act.put, List.setIfInBounds_toArray, List.set_cons_zero, List.set_cons_succ, i64_w, i32_w]
                          rfl
                        refine pure_ (i := 9) (N := some 26) (v := ?_) (a' := ?_) #[true, true, true, true, true, true, true, true, true, true, false, false, false, false, false, false, false, false, false, false] rfl rfl (any_of HT_.out (by kernel_rfl)) (fun _ _ _ h => h) (Or.inl ⟨by rfl, ?_⟩) ?_ ?_
                        rotate_left
                        · intro w'
                          go_simp
                          with_reducible rfl
                        rotate_left
                        · simp only [Act.put, List.setIfInBounds_toArray, List.set_cons_zero, List.set_cons_succ, i64_w, i32_w]
                          rfl
                        refine pure_ (i := 10) (N := some 27) (v := ?_) (a' := ?_) #[true, true, true, true, true, true, true, true, true, true, true, false, false, false, false, false, false, false, false, false] rfl rfl (any_of HT_.out (by kernel_rfl)) (fun _ _ _ h => h) (Or.inl ⟨by rfl, ?_⟩) ?_ ?_
                        rotate_left
                        · intro w'
                          go_simp
                          with_reducible rfl
                        rotate_left
                        · simp only [Act.put, List.setIfInBounds_toArray, List.set_cons_zero, List.set_cons_succ, i64_w, i32_w]
                          rfl
                        refine pure_ (i := 11) (N := some 28) (v := ?_) (a' := ?_) #[true, true, true, true, true, true, true, true, true, true, true, true, false, false, false, false, false, false, false, false] rfl rfl (any_of HT_.out (by kernel_rfl)) (fun _ _ _ h => h) (Or.inl ⟨by rfl, ?_⟩) ?_ ?_
                        rotate_left
                        · intro w'
                          go_simp
                          with_reducible rfl
                        rotate_left
                        · simp only [Act.put, List.setIfInBounds_toArray, List.set_cons_zero, List.set_cons_succ, i64_w, i32_w]
                          rfl
                        refine pure_ (i := 12) (N := some 29) (v := ?_) (a' := ?_) #[true, true, true, true, true, true, true, true, true, true, true, true, true, false, false, false, false, false, false, false] rfl rfl (any_of HT_.out (by kernel_rfl)) (fun _ _ _ h => h) (Or.inl ⟨by rfl, ?_⟩) ?_ ?_
                        rotate_left
                        · intro w'
                          go_simp
                          with_reducible rfl
                        rotate_left
                        · simp only [Act.put, List.setIfInBounds_toArray, List.set_cons_zero, List.set_cons_succ, i64_w, i32_w]
                          rfl
                        refine pure_ (i := 14) (N := some 31) (v := ?_) (a' := ?_) #[true, true, true, true, true, true, true, true, true, true, true, true, true, false, true, false, false, false, false, false] rfl rfl (any_of HT_.out (by kernel_rfl)) (fun _ _ _ h => h) (Or.inl ⟨by rfl, ?_⟩) ?_ ?_
                        rotate_left
                        · intro w'
                          go_simp
                          with_reducible rfl
                        rotate_left
                        · simp only [Act.put, List.setIfInBounds_toArray, List.set_cons_zero, List.set_cons_succ, i64_w, i32_w]
                          rfl
                        refine take_ (i := 13) (N := some 30) (v := ?_) (a' := ?_) #[true, true, true, true, true, true, true, true, true, true, true, true, true, true, true, false, false, false, false, false] rfl rfl (take_ofW HT_.out HW_.out (by kernel_rfl)) (fun _ _ _ h => h) (Or.inl ⟨by rfl, ?_⟩) hHeld ?_ ?_
                        rotate_left
                        · rintro w' ⟨s0, s1, s2, s3, s4, s5, s6, s7, s8, s9⟩
                          go_simp
                          with_reducible rfl
                        rotate_left
                        · simp only [Act.put, List.setIfInBounds_toArray, List.set_cons_zero, List.set_cons_succ, i64_w, i32_w]
                          rfl
                        refine take_ (i := 15) (N := some 32) (v := ?_) (a' := ?_) #[true, true, true, true, true, true, true, true, true, true, true, true, true, true, true, true, false, false, false, false] rfl rfl (take_ofW HT_.out HW_.out (by kernel_rfl)) (fun _ _ _ h => h) (Or.inl ⟨by rfl, ?_⟩) hHeld ?_ ?_
                        rotate_left
                        · rintro w' ⟨s0, s1, s2, s3, s4, s5, s6, s7, s8, s9⟩
                          go_simp
                          with_reducible rfl
                        rotate_left
                        · simp only [Act.put, List.setIfInBounds_toArray, List.set_cons_zero, List.set_cons_succ, i64_w, i32_w]
                          rfl
                        refine one_ (i := 16) (N := some 33) #[true, true, true, true, true, true, true, true, true, true, true, true, true, true, true, true, true, false, false, false] rfl rfl (one_of HT_.out (by kernel_rfl)) (by decide) (fun K hK => ?_)
                        refine goes_ Try.func17 (by kernel_rfl) rfl #[.slice A364_0 ((rd_T35 x5_1 (ji16)).f0).length c364_0, .slice A359_0 ((rd_T35 l0 x11_1).f0).length c359_0] (by rfl) rfl rfl (by (try simp only [List.map_toArray, List.map_cons, List.map_nil]); first | done | (simp only [hji16]; rfl) | rfl | (simp only [List.length_drop, List.length_take]; rfl)) ?_
                        with_reducible refine (halyardref2_Compare.calls _ _ ((rd_T35 x5_1 (ji16)).f0) _ _ ((rd_T35 l0 x11_1).f0) t365 _ ?side1 ?side2 ?side3 ?side4 A19.out).mono ?_
                        (case side1 => repeat (first | exact (by repeat (first | (with_reducible exact HR364_0.out) | (with_reducible refine Kd.C_alloc ?_ _) | (with_reducible refine Kd.C_drewN ?_ _) | (with_reducible refine Kd.C_drew ?_) | exact HR364_0.out)) | (with_reducible refine Kd.C_alloc ?_ _) | (with_reducible refine Kd.C_drewN ?_ _) | (with_reducible refine Kd.C_drew ?_)))
                        (case side2 => exact HC364_0.out)
                        (case side3 => repeat (first | exact ((Kd.V_reads' (by (with_reducible repeat (first | apply Kd.V_alloc | apply Kd.V_drewN | apply Kd.V_drew)); exact HL359_0.out)).2.2) | (with_reducible refine Kd.C_alloc ?_ _) | (with_reducible refine Kd.C_drewN ?_ _) | (with_reducible refine Kd.C_drew ?_)))
                        (case side4 => exact HC359_0.out)
                        rintro e w33 ⟨rfl, hb⟩
                        have HS5_ := (hb.cell (World.block_lt_of_cell? _ _ (hHeld.2.2.2.2.2.1))).trans (hHeld.2.2.2.2.2.1)
                        have HS6_ := (hb.cell (World.block_lt_of_cell? _ _ (hHeld.2.2.2.2.2.2.1))).trans (hHeld.2.2.2.2.2.2.1)
                        have HS7_ := (hb.cell (World.block_lt_of_cell? _ _ (hHeld.2.2.2.2.2.2.2.1))).trans (hHeld.2.2.2.2.2.2.2.1)
                        have HS8_ := (hb.cell (World.block_lt_of_cell? _ _ (hHeld.2.2.2.2.2.2.2.2.1))).trans (hHeld.2.2.2.2.2.2.2.2.1)
                        have HS9_ := (hb.cell (World.block_lt_of_cell? _ _ (hHeld.2.2.2.2.2.2.2.2.2))).trans (hHeld.2.2.2.2.2.2.2.2.2)
                        refine ⟨_, rfl, ?_⟩
                        have n0_ := Aside0.mk (Kd.N_below (by (with_reducible repeat (first | apply Kd.N_alloc | apply Kd.N_drewN | apply Kd.N_drew)); exact HO_5.out) hb)
                        have n1_ := Aside0.mk (Kd.V_below (by (with_reducible repeat (first | apply Kd.V_alloc | apply Kd.V_drewN | apply Kd.V_drew)); exact HO_9.out) hb)
                        have n2_ := Aside0.mk (Kd.V_below (by (with_reducible repeat (first | apply Kd.V_alloc | apply Kd.V_drewN | apply Kd.V_drew)); exact HL359_0.out) hb)
                        have n3_ := Aside0.mk (Kd.V_below (by (with_reducible repeat (first | apply Kd.V_alloc | apply Kd.V_drewN | apply Kd.V_drew)); exact HL359_4.out) hb)
                        have n4_ := Aside0.mk (Kd.V_below (by (with_reducible repeat (first | apply Kd.V_alloc | apply Kd.V_drewN | apply Kd.V_drew)); exact HL364_0.out) hb)
                        have n5_ := Aside0.mk (Kd.V_below (by (with_reducible repeat (first | apply Kd.V_alloc | apply Kd.V_drewN | apply Kd.V_drew)); exact HL364_4.out) hb)
                        have n6_ := Aside0.mk (blk_below (g := gb360) (o := .cells #[.slice A359_0 ((rd_T35 l0 x11_1).f0).length c359_0, .int .i64 ((rd_T35 l0 x11_1).f1), .bool ((rd_T35 l0 x11_1).f2), .int .i64 ((rd_T35 l0 x11_1).f3), .slice A359_4 ((rd_T35 l0 x11_1).f4).length c359_4] 35 (0, 0)) (by (with_reducible repeat (first | refine blk_drewN ?_ _ | refine blk_drew ?_ | refine blk_alloc ?_ _)); exact BK360.out) hb)
                        have n7_ := Aside0.mk (Kd.C_below (by repeat (first | (with_reducible exact HR364_0.out) | (with_reducible refine Kd.C_alloc ?_ _) | (with_reducible refine Kd.C_drewN ?_ _) | (with_reducible refine Kd.C_drew ?_) | exact HR364_0.out)) hb)
                        have n8_ := Aside0.mk (Kd.C_below (by repeat (first | (with_reducible exact HR364_4.out) | (with_reducible refine Kd.C_alloc ?_ _) | (with_reducible refine Kd.C_drewN ?_ _) | (with_reducible refine Kd.C_drew ?_) | exact HR364_4.out)) hb)
                        have n9_ := Aside0.mk (below_step (by repeat (first | (with_reducible first | exact HB.out | apply below_alloc | apply pw_below_drewN | apply below_drew1 | refine below_set ?_ GE360.out) | exact HB.out)) hb)
                        clear HO_5
                        clear HO_9
                        clear HL359_0
                        clear HL359_4
                        clear HL364_0
                        clear HL364_4
                        clear BK360
                        clear HR364_0
                        clear HR364_4
                        clear HB
                        have HO_5 := n0_
                        have HO_9 := n1_
                        have HL359_0 := n2_
                        have HL359_4 := n3_
                        have HL364_0 := n4_
                        have HL364_4 := n5_
                        have BK360 := n6_
                        have HR364_0 := n7_
                        have HR364_4 := n8_
                        have HB := n9_
                        clear n0_ n1_ n2_ n3_ n4_ n5_ n6_ n7_ n8_ n9_
                        (try clear hb)
                        (try clear hb2)
                        (try clear hk)
                        (try clear hi)
                        refine hK.out _ _ ⟨(blk_cell BK360.out 0).trans rfl, (blk_cell BK360.out 1).trans rfl, (blk_cell BK360.out 2).trans rfl, (blk_cell BK360.out 3).trans rfl, (blk_cell BK360.out 4).trans rfl, HS5_, HS6_, HS7_, HS8_, HS9_⟩ (fun hHeld => ?_)
                        clear hK K
                        refine norm_ (a' := ?_) ?_ ?_
                        rotate_left
                        · show Act.put _ (some 33) _ = _
                          simp only [Act.put, List.setIfInBounds_toArray, List.set_cons_zero, List.set_cons_succ, i64_w, i32_w]
                          rfl
                        refine pure_ (i := 17) (N := some 34) (v := ?_) (a' := ?_) #[true, true, true, true, true, true, true, true, true, true, true, true, true, true, true, true, true, true, false, false] rfl rfl (any_of HT_.out (by kernel_rfl)) (fun _ _ _ h => h) (Or.inl ⟨by rfl, ?_⟩) ?_ ?_
                        rotate_left
                        · intro w'
                          go_simp
                          with_reducible rfl
                        rotate_left
                        · simp only [Act.put, List.setIfInBounds_toArray, List.set_cons_zero, List.set_cons_succ, i64_w, i32_w]
                          rfl
                        refine pure_ (i := 18) (N := some 35) (v := ?_) (a' := ?_) #[true, true, true, true, true, true, true, true, true, true, true, true, true, true, true, true, true, true, true, false] rfl rfl (any_of HT_.out (by kernel_rfl)) (fun _ _ _ h => h) (Or.inl ⟨by rfl, ?_⟩) ?_ ?_
                        rotate_left
                        · intro w'
                          go_simp
                          with_reducible rfl
                        rotate_left
                        · simp only [Act.put, List.setIfInBounds_toArray, List.set_cons_zero, List.set_cons_succ, i64_w, i32_w]
                          rfl
                        refine pure_ (i := 19) (N := some 36) (v := ?_) (a' := ?_) #[true, true, true, true, true, true, true, true, true, true, true, true, true, true, true, true, true, true, true, true] rfl rfl (any_of HT_.out (by kernel_rfl)) (fun _ _ _ h => h) (Or.inl ⟨by rfl, ?_⟩) ?_ ?_
                        rotate_left
                        · intro w'
                          go_simp
                          with_reducible rfl
                        rotate_left
                        · simp only [Act.put, List.setIfInBounds_toArray, List.set_cons_zero, List.set_cons_succ, i64_w, i32_w]
                          rfl
                        refine done_ (done_of HT_.out (by kernel_rfl)) ?_
                        have hcz34_0 : w33.cell? ⟨gb360, 0, none⟩ = some (.slice A359_0 ((rd_T35 l0 x11_1).f0).length c359_0) := (blk_cell BK360.out 0).trans rfl
                        have hcz34_1 : w33.cell? ⟨gb360, 1, none⟩ = some (.int .i64 ((rd_T35 l0 x11_1).f1)) := (blk_cell BK360.out 1).trans rfl
                        have hcz34_2 : w33.cell? ⟨gb360, 2, none⟩ = some (.bool ((rd_T35 l0 x11_1).f2)) := (blk_cell BK360.out 2).trans rfl
                        have hcz34_3 : w33.cell? ⟨gb360, 3, none⟩ = some (.int .i64 ((rd_T35 l0 x11_1).f3)) := (blk_cell BK360.out 3).trans rfl
                        have hcz34_4 : w33.cell? ⟨gb360, 4, none⟩ = some (.slice A359_4 ((rd_T35 l0 x11_1).f4).length c359_4) := (blk_cell BK360.out 4).trans rfl
                        have hfz34_0 := blk_frozen BK360.out 0
                        have hfz34_1 := blk_frozen BK360.out 1
                        have hfz34_2 := blk_frozen BK360.out 2
                        have hfz34_3 := blk_frozen BK360.out 3
                        have hfz34_4 := blk_frozen BK360.out 4
                        try go_wp2_with (first | ((with_reducible refine gate_builtin (b := .append) (xs := #[.tmp 37, .tmp 39]) rfl ?_); at_builtin; refine Kd.N_append k35 (w0 := w) w.heap.size rfl (.tmp 37) (.tmp 39) 22 35 (.agg #[(.slice none 0 0), (.int .i64 0), (.bool false), (.int .i64 0), (.slice none 0 0)]) 72 rfl Try.underlying22 info35 rfl (by decide) (by omega) (.slice (some ad364) x5_1.length co30) x5_1 (⟨(rd_T35 l0 x11_1).f0, (rd_T35 l0 x11_1).f1, (rd_T35 l0 x11_1).f2, (rd_T35 l0 x11_1).f3, (rd_T35 l0 x11_1).f4⟩ : S35) [.slice A359_0 ((rd_T35 l0 x11_1).f0).length c359_0, .int .i64 ((rd_T35 l0 x11_1).f1), .bool ((rd_T35 l0 x11_1).f2), .int .i64 ((rd_T35 l0 x11_1).f3), .slice A359_4 ((rd_T35 l0 x11_1).f4).length c359_4] (fun k_ => (P0_ k_ ∨ w.heap.size ≤ k_) ∧ k_ ≠ gb360) (fun k_ => ((fun k_ => (P0_ k_ ∨ w.heap.size ≤ k_) ∧ k_ ≠ gb360)) k_ ∧ some k_ ≠ (.slice (some ad364) x5_1.length co30 : Value).ownBlock) rfl rfl ?aP (fun _ hk => hk) ?aF ?aO ?aB ?aS ?aL ?_; (case aP => exact (k35_mkF _ _ (⟨(rd_T35 l0 x11_1).f0, (rd_T35 l0 x11_1).f1, (rd_T35 l0 x11_1).f2, (rd_T35 l0 x11_1).f3, (rd_T35 l0 x11_1).f4⟩ : S35) (Kd.V_reads' (Kd.V_mono (ok' := (fun k_ => ((fun k_ => (P0_ k_ ∨ w.heap.size ≤ k_) ∧ k_ ≠ gb360)) k_ ∧ some k_ ≠ (.slice (some ad364) x5_1.length co30 : Value).ownBlock)) (HL359_0.out) (fun k_ hk => ⟨⟨hk.1, hk.2.2⟩, hk.2.1⟩))).2.1 (Kd.V_F (Kd.V_mono (ok' := (fun k_ => ((fun k_ => (P0_ k_ ∨ w.heap.size ≤ k_) ∧ k_ ≠ gb360)) k_ ∧ some k_ ≠ (.slice (some ad364) x5_1.length co30 : Value).ownBlock)) (HL359_0.out) (fun k_ hk => ⟨⟨hk.1, hk.2.2⟩, hk.2.1⟩))) (Kd.V_reads' (Kd.V_mono (ok' := (fun k_ => ((fun k_ => (P0_ k_ ∨ w.heap.size ≤ k_) ∧ k_ ≠ gb360)) k_ ∧ some k_ ≠ (.slice (some ad364) x5_1.length co30 : Value).ownBlock)) (HL359_4.out) (fun k_ hk => ⟨⟨hk.1, hk.2.2⟩, hk.2.1⟩))).2.1 (Kd.V_F (Kd.V_mono (ok' := (fun k_ => ((fun k_ => (P0_ k_ ∨ w.heap.size ≤ k_) ∧ k_ ≠ gb360)) k_ ∧ some k_ ≠ (.slice (some ad364) x5_1.length co30 : Value).ownBlock)) (HL359_4.out) (fun k_ hk => ⟨⟨hk.1, hk.2.2⟩, hk.2.1⟩))))); (case aB => exact (by repeat (first | (with_reducible first | exact HB.out | apply below_alloc | apply pw_below_drewN | apply below_drew1 | refine below_set ?_ GE360.out) | exact HB.out))); (case aF => exact (fun k_ hk => ⟨(.inr (Nat.le_trans (below_size (by repeat (first | (with_reducible first | exact HB.out | apply below_alloc | apply pw_below_drewN | apply below_drew1 | refine below_set ?_ GE360.out) | exact HB.out))) hk)), Kd.freshB (g := gb360) (o := .cells #[.slice A359_0 ((rd_T35 l0 x11_1).f0).length c359_0, .int .i64 ((rd_T35 l0 x11_1).f1), .bool ((rd_T35 l0 x11_1).f2), .int .i64 ((rd_T35 l0 x11_1).f3), .slice A359_4 ((rd_T35 l0 x11_1).f4).length c359_4] 35 (0, 0)) (by (with_reducible repeat (first | refine blk_drewN ?_ _ | refine blk_drew ?_ | refine blk_alloc ?_ _)); exact BK360.out) k_ hk⟩)); (case aO => exact (by (with_reducible repeat (first | apply Kd.N_alloc | apply Kd.N_drewN | apply Kd.N_drew)); exact HO_5.out)); (case aS => exact (below_size (by repeat (first | (with_reducible first | exact HB.out | apply below_alloc | apply pw_below_drewN | apply below_drew1 | refine below_set ?_ GE360.out) | exact HB.out)))); (case aL => have := LMc27.out; omega); intro v367 w35 ho hb hg hat; rw [← Ny366.out] at ho; have n0_ := Aside0.mk (Kd.V_afterv (ok := (fun k_ => (P0_ k_ ∨ w.heap.size ≤ k_) ∧ k_ ≠ gb360)) (by (with_reducible repeat (first | apply Kd.V_alloc | apply Kd.V_drewN | apply Kd.V_drew)); exact Kd.V_mono HO_9.out (fun _ hk => ⟨⟨hk.1, hk.2.2⟩, hk.2.1⟩)) hg hat); have n1_ := Aside0.mk (Kd.V_afterv (ok := (fun k_ => (P0_ k_ ∨ w.heap.size ≤ k_) ∧ k_ ≠ gb360)) (by (with_reducible repeat (first | apply Kd.V_alloc | apply Kd.V_drewN | apply Kd.V_drew)); exact Kd.V_mono HL359_0.out (fun _ hk => ⟨⟨hk.1, hk.2.2⟩, hk.2.1⟩)) hg hat); have n2_ := Aside0.mk (Kd.V_afterv (ok := (fun k_ => (P0_ k_ ∨ w.heap.size ≤ k_) ∧ k_ ≠ gb360)) (by (with_reducible repeat (first | apply Kd.V_alloc | apply Kd.V_drewN | apply Kd.V_drew)); exact Kd.V_mono HL359_4.out (fun _ hk => ⟨⟨hk.1, hk.2.2⟩, hk.2.1⟩)) hg hat); have n3_ := Aside0.mk (blk_grown (g := gb360) (o := .cells #[.slice A359_0 ((rd_T35 l0 x11_1).f0).length c359_0, .int .i64 ((rd_T35 l0 x11_1).f1), .bool ((rd_T35 l0 x11_1).f2), .int .i64 ((rd_T35 l0 x11_1).f3), .slice A359_4 ((rd_T35 l0 x11_1).f4).length c359_4] 35 (0, 0)) (by (with_reducible repeat (first | refine blk_drewN ?_ _ | refine blk_drew ?_ | refine blk_alloc ?_ _)); exact BK360.out) hg (Kd.N_away HO_5.out (fun _ hk => hk.2))); have n4_ := Aside0.mk (Kd.V_afterv (ok := (fun k_ => (P0_ k_ ∨ w.heap.size ≤ k_) ∧ k_ ≠ gb360)) (by (with_reducible repeat (first | apply Kd.V_alloc | apply Kd.V_drewN | apply Kd.V_drew)); exact HL364_0.out) hg hat); have n5_ := Aside0.mk (Kd.V_afterv (ok := (fun k_ => (P0_ k_ ∨ w.heap.size ≤ k_) ∧ k_ ≠ gb360)) (by (with_reducible repeat (first | apply Kd.V_alloc | apply Kd.V_drewN | apply Kd.V_drew)); exact HL364_4.out) hg hat); have n6_ := Aside0.mk (hb); have n7_ := Aside0.mk (ho); clear HO_9; clear HL359_0; clear HL359_4; clear BK360; clear HL364_0; clear HL364_4; clear HB; clear HO_5; have HO_9 := n0_; have HL359_0 := n1_; have HL359_4 := n2_; have BK360 := n3_; have HL364_0 := n4_; have HL364_4 := n5_; have HB := n6_; have HO368 := n7_; clear n0_ n1_ n2_ n3_ n4_ n5_ n6_ n7_; clear ho hb hg hat))
                        go_roundg k1
                        case measure => have := HK1.out; omega
                        case rel => exact ⟨(y366), (wrap64 (x11_1 + 1)), (by first | rfl | (simp; done) | (simp [*]; done)), H', ⟨by have := HK1.out; omega⟩, ⟨by (with_reducible repeat (first | apply Kd.N_alloc | apply Kd.N_drewN | apply Kd.N_drew)); exact Kd.N_mono HO368.out (fun _ hk => hk.1)⟩, ⟨by (with_reducible repeat (first | apply Kd.V_alloc | apply Kd.V_drewN | apply Kd.V_drew)); exact Kd.V_mono HO_9.out (fun _ hk => ⟨hk.1.1, hk.2⟩)⟩, ⟨by repeat (first | (with_reducible first | exact HB.out | apply below_alloc | apply pw_below_drewN | apply below_drew1 | refine below_set ?_ GE360.out) | exact HB.out)⟩⟩
                      · rw [if_neg c27] at H
                        exact absurd H (by simp)
                  · rw [if_neg c18] at H
                    exact absurd H (by simp)
                · rw [if_neg c17] at H
                  exact absurd H (by simp)
            · rw [if_neg c6] at H
              have c6b0 : decide (((rd_T35 l0 x11_1).f1) ≤ a1) = false := decide_eq_false c6
              clear c6
              have H' := Aside0.mk H
              clear H
              have p359 : 0 ≤ (x11_1 : Int) := pa
              have q359 : x11_1 < (l0.length : Int) := pa
              obtain ⟨ad359, A359_0, c359_0, A359_4, c359_4, e359, hx359_0, hx359_1, hx359_2, hx359_3, hx359_4, hl359_0, hi359_0, hl359_4, hi359_4⟩ := at_T35 (Kd.V_reads' HO_9.out).2.2 x11_1 p359 q359
              cases e359
              obtain ⟨ce359, hce359, hMe359, hcc359⟩ := Kd.V_get HO_9.out z35 x11_1 p359 (by first | exact q359 | exact pa | (have e_ := (Kd.V_reads' HO_9.out).1; omega))
              obtain ⟨ua359_0, uc359_0, ua359_4, uc359_4, rfl, ul359_0, ge359_0, ul359_4, ge359_4⟩ := k35_openF hMe359
              have hv359_0 := hcc359 0 _ rfl
              rw [Nat.add_zero] at hv359_0
              replace hv359_0 := Option.some.inj (hv359_0.symm.trans hx359_0)
              injection hv359_0 with hva_ hvn_ hvc_
              rw [hva_] at ge359_0
              rw [hvc_] at ul359_0
              have HL359_0 := Aside0.mk (show Kd.V (Kd.int .u8) 5 _ w.heap.size _ _ ((rd_T35 l0 x11_1).f0) from Kd.V_mk ul359_0 ge359_0)
              clear hva_ hvn_ hvc_ ge359_0 ul359_0
              have hv359_4 := hcc359 4 _ rfl
              rw [add_field _ _ 4 (by omega)] at hv359_4
              replace hv359_4 := Option.some.inj (hv359_4.symm.trans hx359_4)
              injection hv359_4 with hva_ hvn_ hvc_
              rw [hva_] at ge359_4
              rw [hvc_] at ul359_4
              have HL359_4 := Aside0.mk (show Kd.V (Kd.int .u8) 5 _ w.heap.size _ _ ((rd_T35 l0 x11_1).f4) from Kd.V_mk ul359_4 ge359_4)
              clear hva_ hvn_ hvc_ ge359_4 ul359_4
              clear hcc359 hce359
              have HR359_0 := Aside0.mk hi359_0
              have HC359_0 := Aside0.mk hl359_0
              clear hi359_0 hl359_0
              have HR359_4 := Aside0.mk hi359_4
              have HC359_4 := Aside0.mk hl359_4
              clear hi359_4 hl359_4
              replace p359 := eq_true p359
              replace q359 := eq_true q359
              try go_wp2_with (first | ((with_reducible refine gate_dst (N := 7) rfl ?_); refine box_event ?hg (N := 7) ?hd (cs := #[.slice none 0 0, .int .i64 0, .bool false, .int .i64 0, .slice none 0 0]) (t := 35) ?hr ?_; (case hd => rfl); (case hg => rfl); (case hr => first | (go_simp; done) | (go_simp; rfl)); intro gb360 hg w36 hbox hb; have n0_ := Aside0.mk (Kd.N_below (Kd.N_elderB (by (with_reducible repeat (first | apply Kd.N_alloc | apply Kd.N_drewN | apply Kd.N_drew)); exact HO_5.out) gb360 (Nat.le_of_eq hg.symm)) hb); have n1_ := Aside0.mk (Kd.V_below (Kd.V_elderB (by (with_reducible repeat (first | apply Kd.V_alloc | apply Kd.V_drewN | apply Kd.V_drew)); exact HO_9.out) gb360 (Nat.le_of_eq hg.symm)) hb); have n2_ := Aside0.mk (Kd.V_below (Kd.V_elderB (by (with_reducible repeat (first | apply Kd.V_alloc | apply Kd.V_drewN | apply Kd.V_drew)); exact HL359_0.out) gb360 (Nat.le_of_eq hg.symm)) hb); have n3_ := Aside0.mk (Kd.V_below (Kd.V_elderB (by (with_reducible repeat (first | apply Kd.V_alloc | apply Kd.V_drewN | apply Kd.V_drew)); exact HL359_4.out) gb360 (Nat.le_of_eq hg.symm)) hb); have n4_ := Aside0.mk (Kd.C_below (by repeat (first | (with_reducible exact HR359_0.out) | (with_reducible refine Kd.C_alloc ?_ _) | (with_reducible refine Kd.C_drewN ?_ _) | (with_reducible refine Kd.C_drew ?_) | exact HR359_0.out)) hb); have n5_ := Aside0.mk (Kd.C_below (by repeat (first | (with_reducible exact HR359_4.out) | (with_reducible refine Kd.C_alloc ?_ _) | (with_reducible refine Kd.C_drewN ?_ _) | (with_reducible refine Kd.C_drew ?_) | exact HR359_4.out)) hb); have n6_ := Aside0.mk (below_step pb hb); have n7_ := Aside0.mk (hbox); have n8_ := Aside0.mk ((by rw [hg]; exact (below_size pb) : w.heap.size ≤ gb360)); have n9_ := Aside0.mk ((by rw [hg]; exact (below_size pb) : w.heap.size ≤ gb360)); clear HO_5; clear HO_9; clear HL359_0; clear HL359_4; clear HR359_0; clear HR359_4; clear HB; have HO_5 := n0_; have HO_9 := n1_; have HL359_0 := n2_; have HL359_4 := n3_; have HR359_0 := n4_; have HR359_4 := n5_; have HB := n6_; have BK360 := n7_; have GW360 := n8_; have GE360 := n9_; clear n0_ n1_ n2_ n3_ n4_ n5_ n6_ n7_ n8_ n9_; clear hb hbox hg; have hcz37_0 : w36.cell? ⟨gb360, 0, none⟩ = some (.slice none 0 0) := (blk_cell BK360.out 0).trans rfl; have hcz37_1 : w36.cell? ⟨gb360, 1, none⟩ = some (.int .i64 0) := (blk_cell BK360.out 1).trans rfl; have hcz37_2 : w36.cell? ⟨gb360, 2, none⟩ = some (.bool false) := (blk_cell BK360.out 2).trans rfl; have hcz37_3 : w36.cell? ⟨gb360, 3, none⟩ = some (.int .i64 0) := (blk_cell BK360.out 3).trans rfl; have hcz37_4 : w36.cell? ⟨gb360, 4, none⟩ = some (.slice none 0 0) := (blk_cell BK360.out 4).trans rfl; have hfz37_0 := blk_frozen BK360.out 0; have hfz37_1 := blk_frozen BK360.out 1; have hfz37_2 := blk_frozen BK360.out 2; have hfz37_3 := blk_frozen BK360.out 3; have hfz37_4 := blk_frozen BK360.out 4; obtain ⟨Ao38, co38, eo38⟩ := Kd.N_slice HO_5.out; subst eo38))
              have n0_ : Aside0 (Kd.N k35 35 (((((w36.setCell ⟨gb360, 0, none⟩ (.slice A359_0 ((rd_T35 l0 x11_1).f0).length c359_0)).setCell ⟨gb360, 1, none⟩ (.int .i64 ((rd_T35 l0 x11_1).f1))).setCell ⟨gb360, 2, none⟩ (.bool ((rd_T35 l0 x11_1).f2))).setCell ⟨gb360, 3, none⟩ (.int .i64 ((rd_T35 l0 x11_1).f3))).setCell ⟨gb360, 4, none⟩ (.slice A359_4 ((rd_T35 l0 x11_1).f4).length c359_4)) w.heap.size (fun k_ => (P0_ k_ ∨ w.heap.size ≤ k_) ∧ k_ ≠ gb360) (.slice Ao38 x5_1.length co38) x5_1) := ⟨by (with_reducible repeat (first | apply Kd.N_alloc | apply Kd.N_drewN | apply Kd.N_drew)); exact Kd.N_mono (Kd.N_far (p := ⟨gb360, 4, none⟩) (Kd.N_far (p := ⟨gb360, 3, none⟩) (Kd.N_far (p := ⟨gb360, 2, none⟩) (Kd.N_far (p := ⟨gb360, 1, none⟩) (Kd.N_far (p := ⟨gb360, 0, none⟩) (Kd.N_mono HO_5.out (fun k_ hk => (⟨hk, hk.2⟩ : _ ∧ k_ ≠ gb360))) (fun _ hk => hk.2) (.slice A359_0 ((rd_T35 l0 x11_1).f0).length c359_0)) (fun _ hk => hk.2) (.int .i64 ((rd_T35 l0 x11_1).f1))) (fun _ hk => hk.2) (.bool ((rd_T35 l0 x11_1).f2))) (fun _ hk => hk.2) (.int .i64 ((rd_T35 l0 x11_1).f3))) (fun _ hk => hk.2) (.slice A359_4 ((rd_T35 l0 x11_1).f4).length c359_4)) (fun _ hk => ⟨hk.1.1, hk.1.2⟩)⟩
              have n1_ : Aside0 (Kd.V k35 35 (((((w36.setCell ⟨gb360, 0, none⟩ (.slice A359_0 ((rd_T35 l0 x11_1).f0).length c359_0)).setCell ⟨gb360, 1, none⟩ (.int .i64 ((rd_T35 l0 x11_1).f1))).setCell ⟨gb360, 2, none⟩ (.bool ((rd_T35 l0 x11_1).f2))).setCell ⟨gb360, 3, none⟩ (.int .i64 ((rd_T35 l0 x11_1).f3))).setCell ⟨gb360, 4, none⟩ (.slice A359_4 ((rd_T35 l0 x11_1).f4).length c359_4)) w.heap.size (fun k_ => (P0_ k_ ∨ w.heap.size ≤ k_) ∧ some k_ ≠ (.slice Ao38 x5_1.length co38 : Value).ownBlock ∧ k_ ≠ gb360) (.slice (some ad359) l0.length c0) l0) := ⟨by (with_reducible repeat (first | apply Kd.V_alloc | apply Kd.V_drewN | apply Kd.V_drew)); exact Kd.V_mono (Kd.V_far (p := ⟨gb360, 4, none⟩) (Kd.V_far (p := ⟨gb360, 3, none⟩) (Kd.V_far (p := ⟨gb360, 2, none⟩) (Kd.V_far (p := ⟨gb360, 1, none⟩) (Kd.V_far (p := ⟨gb360, 0, none⟩) (Kd.V_mono HO_9.out (fun k_ hk => (⟨hk, hk.2⟩ : _ ∧ k_ ≠ gb360))) (fun _ hk => hk.2) (.slice A359_0 ((rd_T35 l0 x11_1).f0).length c359_0)) (fun _ hk => hk.2) (.int .i64 ((rd_T35 l0 x11_1).f1))) (fun _ hk => hk.2) (.bool ((rd_T35 l0 x11_1).f2))) (fun _ hk => hk.2) (.int .i64 ((rd_T35 l0 x11_1).f3))) (fun _ hk => hk.2) (.slice A359_4 ((rd_T35 l0 x11_1).f4).length c359_4)) (fun _ hk => ⟨hk.1.1.1, ⟨hk.1.1.2, hk.1.2⟩⟩)⟩
              have n2_ : Aside0 (Kd.V (Kd.int .u8) 5 (((((w36.setCell ⟨gb360, 0, none⟩ (.slice A359_0 ((rd_T35 l0 x11_1).f0).length c359_0)).setCell ⟨gb360, 1, none⟩ (.int .i64 ((rd_T35 l0 x11_1).f1))).setCell ⟨gb360, 2, none⟩ (.bool ((rd_T35 l0 x11_1).f2))).setCell ⟨gb360, 3, none⟩ (.int .i64 ((rd_T35 l0 x11_1).f3))).setCell ⟨gb360, 4, none⟩ (.slice A359_4 ((rd_T35 l0 x11_1).f4).length c359_4)) w.heap.size (fun k_ => (P0_ k_ ∨ w.heap.size ≤ k_) ∧ some k_ ≠ (.slice Ao38 x5_1.length co38 : Value).ownBlock ∧ k_ ≠ gb360) (.slice A359_0 ((rd_T35 l0 x11_1).f0).length c359_0) ((rd_T35 l0 x11_1).f0)) := ⟨by (with_reducible repeat (first | apply Kd.V_alloc | apply Kd.V_drewN | apply Kd.V_drew)); exact Kd.V_mono (Kd.V_far (p := ⟨gb360, 4, none⟩) (Kd.V_far (p := ⟨gb360, 3, none⟩) (Kd.V_far (p := ⟨gb360, 2, none⟩) (Kd.V_far (p := ⟨gb360, 1, none⟩) (Kd.V_far (p := ⟨gb360, 0, none⟩) (Kd.V_mono HL359_0.out (fun k_ hk => (⟨hk, hk.2⟩ : _ ∧ k_ ≠ gb360))) (fun _ hk => hk.2) (.slice A359_0 ((rd_T35 l0 x11_1).f0).length c359_0)) (fun _ hk => hk.2) (.int .i64 ((rd_T35 l0 x11_1).f1))) (fun _ hk => hk.2) (.bool ((rd_T35 l0 x11_1).f2))) (fun _ hk => hk.2) (.int .i64 ((rd_T35 l0 x11_1).f3))) (fun _ hk => hk.2) (.slice A359_4 ((rd_T35 l0 x11_1).f4).length c359_4)) (fun _ hk => ⟨hk.1.1.1, ⟨hk.1.1.2, hk.1.2⟩⟩)⟩
              have n3_ : Aside0 (Kd.V (Kd.int .u8) 5 (((((w36.setCell ⟨gb360, 0, none⟩ (.slice A359_0 ((rd_T35 l0 x11_1).f0).length c359_0)).setCell ⟨gb360, 1, none⟩ (.int .i64 ((rd_T35 l0 x11_1).f1))).setCell ⟨gb360, 2, none⟩ (.bool ((rd_T35 l0 x11_1).f2))).setCell ⟨gb360, 3, none⟩ (.int .i64 ((rd_T35 l0 x11_1).f3))).setCell ⟨gb360, 4, none⟩ (.slice A359_4 ((rd_T35 l0 x11_1).f4).length c359_4)) w.heap.size (fun k_ => (P0_ k_ ∨ w.heap.size ≤ k_) ∧ some k_ ≠ (.slice Ao38 x5_1.length co38 : Value).ownBlock ∧ k_ ≠ gb360) (.slice A359_4 ((rd_T35 l0 x11_1).f4).length c359_4) ((rd_T35 l0 x11_1).f4)) := ⟨by (with_reducible repeat (first | apply Kd.V_alloc | apply Kd.V_drewN | apply Kd.V_drew)); exact Kd.V_mono (Kd.V_far (p := ⟨gb360, 4, none⟩) (Kd.V_far (p := ⟨gb360, 3, none⟩) (Kd.V_far (p := ⟨gb360, 2, none⟩) (Kd.V_far (p := ⟨gb360, 1, none⟩) (Kd.V_far (p := ⟨gb360, 0, none⟩) (Kd.V_mono HL359_4.out (fun k_ hk => (⟨hk, hk.2⟩ : _ ∧ k_ ≠ gb360))) (fun _ hk => hk.2) (.slice A359_0 ((rd_T35 l0 x11_1).f0).length c359_0)) (fun _ hk => hk.2) (.int .i64 ((rd_T35 l0 x11_1).f1))) (fun _ hk => hk.2) (.bool ((rd_T35 l0 x11_1).f2))) (fun _ hk => hk.2) (.int .i64 ((rd_T35 l0 x11_1).f3))) (fun _ hk => hk.2) (.slice A359_4 ((rd_T35 l0 x11_1).f4).length c359_4)) (fun _ hk => ⟨hk.1.1.1, ⟨hk.1.1.2, hk.1.2⟩⟩)⟩
              have n4_ : Aside0 ((((((w36.setCell ⟨gb360, 0, none⟩ (.slice A359_0 ((rd_T35 l0 x11_1).f0).length c359_0)).setCell ⟨gb360, 1, none⟩ (.int .i64 ((rd_T35 l0 x11_1).f1))).setCell ⟨gb360, 2, none⟩ (.bool ((rd_T35 l0 x11_1).f2))).setCell ⟨gb360, 3, none⟩ (.int .i64 ((rd_T35 l0 x11_1).f3))).setCell ⟨gb360, 4, none⟩ (.slice A359_4 ((rd_T35 l0 x11_1).f4).length c359_4)).heap[gb360]? = some (.cells #[.slice A359_0 ((rd_T35 l0 x11_1).f0).length c359_0, .int .i64 ((rd_T35 l0 x11_1).f1), .bool ((rd_T35 l0 x11_1).f2), .int .i64 ((rd_T35 l0 x11_1).f3), .slice A359_4 ((rd_T35 l0 x11_1).f4).length c359_4] 35 (0, 0))) := ⟨by (with_reducible repeat (first | refine blk_drewN ?_ _ | refine blk_drew ?_ | refine blk_alloc ?_ _)); refine blk_put (cs := #[.slice A359_0 ((rd_T35 l0 x11_1).f0).length c359_0, .int .i64 ((rd_T35 l0 x11_1).f1), .bool ((rd_T35 l0 x11_1).f2), .int .i64 ((rd_T35 l0 x11_1).f3), .slice none 0 0]) ?_ 4 _ rfl; (with_reducible repeat (first | refine blk_drewN ?_ _ | refine blk_drew ?_ | refine blk_alloc ?_ _)); refine blk_put (cs := #[.slice A359_0 ((rd_T35 l0 x11_1).f0).length c359_0, .int .i64 ((rd_T35 l0 x11_1).f1), .bool ((rd_T35 l0 x11_1).f2), .int .i64 0, .slice none 0 0]) ?_ 3 _ rfl; (with_reducible repeat (first | refine blk_drewN ?_ _ | refine blk_drew ?_ | refine blk_alloc ?_ _)); refine blk_put (cs := #[.slice A359_0 ((rd_T35 l0 x11_1).f0).length c359_0, .int .i64 ((rd_T35 l0 x11_1).f1), .bool false, .int .i64 0, .slice none 0 0]) ?_ 2 _ rfl; (with_reducible repeat (first | refine blk_drewN ?_ _ | refine blk_drew ?_ | refine blk_alloc ?_ _)); refine blk_put (cs := #[.slice A359_0 ((rd_T35 l0 x11_1).f0).length c359_0, .int .i64 0, .bool false, .int .i64 0, .slice none 0 0]) ?_ 1 _ rfl; (with_reducible repeat (first | refine blk_drewN ?_ _ | refine blk_drew ?_ | refine blk_alloc ?_ _)); refine blk_put (cs := #[.slice none 0 0, .int .i64 0, .bool false, .int .i64 0, .slice none 0 0]) ?_ 0 _ rfl; (with_reducible repeat (first | refine blk_drewN ?_ _ | refine blk_drew ?_ | refine blk_alloc ?_ _)); exact BK360.out⟩
              have n5_ : Aside0 (Below w.heap.size w (((((w36.setCell ⟨gb360, 0, none⟩ (.slice A359_0 ((rd_T35 l0 x11_1).f0).length c359_0)).setCell ⟨gb360, 1, none⟩ (.int .i64 ((rd_T35 l0 x11_1).f1))).setCell ⟨gb360, 2, none⟩ (.bool ((rd_T35 l0 x11_1).f2))).setCell ⟨gb360, 3, none⟩ (.int .i64 ((rd_T35 l0 x11_1).f3))).setCell ⟨gb360, 4, none⟩ (.slice A359_4 ((rd_T35 l0 x11_1).f4).length c359_4))) := ⟨by repeat (first | (with_reducible first | exact HB.out | apply below_alloc | apply pw_below_drewN | apply below_drew1 | refine below_set ?_ GE360.out) | exact HB.out)⟩
              (try clear HO_5)
              (try clear HO_9)
              (try clear HL359_0)
              (try clear HL359_4)
              (try clear BK360)
              (try clear HB)
              generalize (((((w36.setCell ⟨gb360, 0, none⟩ (.slice A359_0 ((rd_T35 l0 x11_1).f0).length c359_0)).setCell ⟨gb360, 1, none⟩ (.int .i64 ((rd_T35 l0 x11_1).f1))).setCell ⟨gb360, 2, none⟩ (.bool ((rd_T35 l0 x11_1).f2))).setCell ⟨gb360, 3, none⟩ (.int .i64 ((rd_T35 l0 x11_1).f3))).setCell ⟨gb360, 4, none⟩ (.slice A359_4 ((rd_T35 l0 x11_1).f4).length c359_4)) = w39 at n0_ n1_ n2_ n3_ n4_ n5_ ⊢
              have HO_5 := n0_
              have HO_9 := n1_
              have HL359_0 := n2_
              have HL359_4 := n3_
              have BK360 := n4_
              have HB := n5_
              clear n0_ n1_ n2_ n3_ n4_ n5_
              have n0_ := Aside0.mk (Kd.N_drew HO_5.out)
              have n1_ := Aside0.mk (Kd.V_drew HO_9.out)
              have n2_ := Aside0.mk (Kd.V_drew HL359_0.out)
              have n3_ := Aside0.mk (Kd.V_drew HL359_4.out)
              have n4_ := Aside0.mk (blk_drew BK360.out)
              have n5_ := Aside0.mk (below_drew1 HB.out)
              clear HO_5
              clear HO_9
              clear HL359_0
              clear HL359_4
              clear BK360
              clear HB
              have HO_5 := n0_
              have HO_9 := n1_
              have HL359_0 := n2_
              have HL359_4 := n3_
              have BK360 := n4_
              have HB := n5_
              clear n0_ n1_ n2_ n3_ n4_ n5_
              refine start_ (n := 20) (S := fun w' => w'.cell? ⟨gb360, 0, none⟩ = some (.slice A359_0 ((rd_T35 l0 x11_1).f0).length c359_0) ∧ w'.cell? ⟨gb360, 1, none⟩ = some (.int .i64 ((rd_T35 l0 x11_1).f1)) ∧ w'.cell? ⟨gb360, 2, none⟩ = some (.bool ((rd_T35 l0 x11_1).f2)) ∧ w'.cell? ⟨gb360, 3, none⟩ = some (.int .i64 ((rd_T35 l0 x11_1).f3)) ∧ w'.cell? ⟨gb360, 4, none⟩ = some (.slice A359_4 ((rd_T35 l0 x11_1).f4).length c359_4)) (ds := []) #[false, false, false, false, false, false, false, false, false, false, false, false, false, false, false, false, false, false, false, false] (by kernel_rfl) rfl rfl ⟨(blk_cell BK360.out 0).trans rfl, (blk_cell BK360.out 1).trans rfl, (blk_cell BK360.out 2).trans rfl, (blk_cell BK360.out 3).trans rfl, (blk_cell BK360.out 4).trans rfl⟩ (fun hHeld => ?_); refine with_tabW halyardref9_Seen.tab6 halyardref9_Seen.bits6 (fun HT_ HW_ => ?_)
              generalize w39.drew = w40 at HO_5 HO_9 HL359_0 HL359_4 BK360 HB hHeld ⊢
              refine pure_ (i := 0) (N := some 17) (v := ?_) (a' := ?_) #[true, false, false, false, false, false, false, false, false, false, false, false, false, false, false, false, false, false, false, false] rfl rfl (any_of HT_.out (by kernel_rfl)) (fun _ _ _ h => h) (Or.inl ⟨by rfl, ?_⟩) ?_ ?_
              rotate_left
              · intro w'
                go_simp
                with_reducible rfl
              rotate_left
              · simp only [Act.put, List.setIfInBounds_toArray, List.set_cons_zero, List.set_cons_succ, i64_w, i32_w]
                rfl
              refine pure_ (i := 2) (N := some 19) (v := ?_) (a' := ?_) #[true, false, true, false, false, false, false, false, false, false, false, false, false, false, false, false, false, false, false, false] rfl rfl (any_of HT_.out (by kernel_rfl)) (fun _ _ _ h => h) (Or.inl ⟨by rfl, ?_⟩) ?_ ?_
              rotate_left
              · intro w'
                go_simp
                with_reducible rfl
              rotate_left
              · simp only [Act.put, List.setIfInBounds_toArray, List.set_cons_zero, List.set_cons_succ, i64_w, i32_w]
                rfl
              refine take_ (i := 1) (N := some 18) (v := ?_) (a' := ?_) #[true, true, true, false, false, false, false, false, false, false, false, false, false, false, false, false, false, false, false, false] rfl rfl (take_ofW HT_.out HW_.out (by kernel_rfl)) (fun _ _ _ h => h) (Or.inl ⟨by rfl, ?_⟩) hHeld ?_ ?_
              rotate_left
              · rintro w' ⟨s0, s1, s2, s3, s4⟩
                go_simp
                with_reducible rfl
              rotate_left
              · simp only [Act.put, List.setIfInBounds_toArray, List.set_cons_zero, List.set_cons_succ, i64_w, i32_w]
                rfl
              refine pure_ (i := 3) (N := some 20) (v := ?_) (a' := ?_) #[true, true, true, true, false, false, false, false, false, false, false, false, false, false, false, false, false, false, false, false] rfl rfl (any_of HT_.out (by kernel_rfl)) (fun _ _ _ h => h) (Or.inl ⟨by rfl, ?_⟩) ?_ ?_
              rotate_left
              · intro w'
                go_simp
                with_reducible rfl
              rotate_left
              · simp only [Act.put, List.setIfInBounds_toArray, List.set_cons_zero, List.set_cons_succ, i64_w, i32_w]
                rfl
              refine pure_ (i := 4) (N := some 21) (v := ?_) (a' := ?_) #[true, true, true, true, true, false, false, false, false, false, false, false, false, false, false, false, false, false, false, false] rfl rfl (any_of HT_.out (by kernel_rfl)) (fun _ _ _ h => h) (Or.inl ⟨by rfl, ?_⟩) ?_ ?_
              rotate_left
              · intro w'
                go_simp
                with_reducible rfl
              rotate_left
              · simp only [Act.put, List.setIfInBounds_toArray, List.set_cons_zero, List.set_cons_succ, i64_w, i32_w]
                rfl
              refine pure_ (i := 5) (N := some 22) (v := undef) (a' := ?_) #[true, true, true, true, true, true, false, false, false, false, false, false, false, false, false, false, false, false, false, false] rfl rfl (any_of HT_.out (by kernel_rfl)) (fun _ _ _ h => h) (Or.inr ⟨by rfl, rfl⟩) ?_ ?_
              rotate_left
              · simp only [Act.put, List.setIfInBounds_toArray, List.set_cons_zero, List.set_cons_succ, i64_w, i32_w]
                rfl
              refine pure_ (i := 6) (N := some 23) (v := undef) (a' := ?_) #[true, true, true, true, true, true, true, false, false, false, false, false, false, false, false, false, false, false, false, false] rfl rfl (any_of HT_.out (by kernel_rfl)) (fun _ _ _ h => h) (Or.inr ⟨by rfl, rfl⟩) ?_ ?_
              rotate_left
              · simp only [Act.put, List.setIfInBounds_toArray, List.set_cons_zero, List.set_cons_succ, i64_w, i32_w]
                rfl
              refine pure_ (i := 7) (N := some 24) (v := undef) (a' := ?_) #[true, true, true, true, true, true, true, true, false, false, false, false, false, false, false, false, false, false, false, false] rfl rfl (any_of HT_.out (by kernel_rfl)) (fun _ _ _ h => h) (Or.inr ⟨by rfl, rfl⟩) ?_ ?_
              rotate_left
              · simp only [Act.put, List.setIfInBounds_toArray, List.set_cons_zero, List.set_cons_succ, i64_w, i32_w]
                rfl
              refine pure_ (i := 8) (N := some 25) (v := undef) (a' := ?_) #[true, true, true, true, true, true, true, true, true, false, false, false, false, false, false, false, false, false, false, false] rfl rfl (any_of HT_.out (by kernel_rfl)) (fun _ _ _ h => h) (Or.inr ⟨by rfl, rfl⟩) ?_ ?_
              rotate_left
              · simp only [Act.put, List.setIfInBounds_toArray, List.set_cons_zero, List.set_cons_succ, i64_w, i32_w]
                rfl
              refine pure_ (i := 9) (N := some 26) (v := undef) (a' := ?_) #[true, true, true, true, true, true, true, true, true, true, false, false, false, false, false, false, false, false, false, false] rfl rfl (any_of HT_.out (by kernel_rfl)) (fun _ _ _ h => h) (Or.inr ⟨by rfl, rfl⟩) ?_ ?_
              rotate_left
              · simp only [Act.put, List.setIfInBounds_toArray, List.set_cons_zero, List.set_cons_succ, i64_w, i32_w]
                rfl
              refine pure_ (i := 10) (N := some 27) (v := undef) (a' := ?_) #[true, true, true, true, true, true, true, true, true, true, true, false, false, false, false, false, false, false, false, false] rfl rfl (any_of HT_.out (by kernel_rfl)) (fun _ _ _ h => h) (Or.inr ⟨by rfl, rfl⟩) ?_ ?_
              rotate_left
              · simp only [Act.put, List.setIfInBounds_toArray, List.set_cons_zero, List.set_cons_succ, i64_w, i32_w]
                rfl
              refine pure_ (i := 11) (N := some 28) (v := undef) (a' := ?_) #[true, true, true, true, true, true, true, true, true, true, true, true, false, false, false, false, false, false, false, false] rfl rfl (any_of HT_.out (by kernel_rfl)) (fun _ _ _ h => h) (Or.inr ⟨by rfl, rfl⟩) ?_ ?_
              rotate_left
              · simp only [Act.put, List.setIfInBounds_toArray, List.set_cons_zero, List.set_cons_succ, i64_w, i32_w]
                rfl
              refine pure_ (i := 12) (N := some 29) (v := undef) (a' := ?_) #[true, true, true, true, true, true, true, true, true, true, true, true, true, false, false, false, false, false, false, false] rfl rfl (any_of HT_.out (by kernel_rfl)) (fun _ _ _ h => h) (Or.inr ⟨by rfl, rfl⟩) ?_ ?_
              rotate_left
              · simp only [Act.put, List.setIfInBounds_toArray, List.set_cons_zero, List.set_cons_succ, i64_w, i32_w]
                rfl
              refine pure_ (i := 13) (N := some 30) (v := undef) (a' := ?_) #[true, true, true, true, true, true, true, true, true, true, true, true, true, true, false, false, false, false, false, false] rfl rfl (any_of HT_.out (by kernel_rfl)) (fun _ _ _ h => h) (Or.inr ⟨by rfl, rfl⟩) ?_ ?_
              rotate_left
              · simp only [Act.put, List.setIfInBounds_toArray, List.set_cons_zero, List.set_cons_succ, i64_w, i32_w]
                rfl
              refine pure_ (i := 14) (N := some 31) (v := undef) (a' := ?_) #[true, true, true, true, true, true, true, true, true, true, true, true, true, true, true, false, false, false, false, false] rfl rfl (any_of HT_.out (by kernel_rfl)) (fun _ _ _ h => h) (Or.inr ⟨by rfl, rfl⟩) ?_ ?_
              rotate_left
              · simp only [Act.put, List.setIfInBounds_toArray, List.set_cons_zero, List.set_cons_succ, i64_w, i32_w]
                rfl
              refine pure_ (i := 15) (N := some 32) (v := undef) (a' := ?_) #[true, true, true, true, true, true, true, true, true, true, true, true, true, true, true, true, false, false, false, false] rfl rfl (any_of HT_.out (by kernel_rfl)) (fun _ _ _ h => h) (Or.inr ⟨by rfl, rfl⟩) ?_ ?_
              rotate_left
              · simp only [Act.put, List.setIfInBounds_toArray, List.set_cons_zero, List.set_cons_succ, i64_w, i32_w]
                rfl
              refine pure_ (i := 16) (N := some 33) (v := undef) (a' := ?_) #[true, true, true, true, true, true, true, true, true, true, true, true, true, true, true, true, true, false, false, false] rfl rfl (any_of HT_.out (by kernel_rfl)) (fun _ _ _ h => h) (Or.inr ⟨by rfl, rfl⟩) ?_ ?_
              rotate_left
              · simp only [Act.put, List.setIfInBounds_toArray, List.set_cons_zero, List.set_cons_succ, i64_w, i32_w]
                rfl
              refine pure_ (i := 17) (N := some 34) (v := undef) (a' := ?_) #[true, true, true, true, true, true, true, true, true, true, true, true, true, true, true, true, true, true, false, false] rfl rfl (any_of HT_.out (by kernel_rfl)) (fun _ _ _ h => h) (Or.inr ⟨by rfl, rfl⟩) ?_ ?_
              rotate_left
              · simp only [Act.put, List.setIfInBounds_toArray, List.set_cons_zero, List.set_cons_succ, i64_w, i32_w]
                rfl
              refine pure_ (i := 18) (N := some 35) (v := undef) (a' := ?_) #[true, true, true, true, true, true, true, true, true, true, true, true, true, true, true, true, true, true, true, false] rfl rfl (any_of HT_.out (by kernel_rfl)) (fun _ _ _ h => h) (Or.inr ⟨by rfl, rfl⟩) ?_ ?_
              rotate_left
              · simp only [Act.put, List.setIfInBounds_toArray, List.set_cons_zero, List.set_cons_succ, i64_w, i32_w]
                rfl
              refine pure_ (i := 19) (N := some 36) (v := ?_) (a' := ?_) #[true, true, true, true, true, true, true, true, true, true, true, true, true, true, true, true, true, true, true, true] rfl rfl (any_of HT_.out (by kernel_rfl)) (fun _ _ _ h => h) (Or.inl ⟨by rfl, ?_⟩) ?_ ?_
              rotate_left
              · intro w'
                go_simp
                with_reducible rfl
              rotate_left
              · simp only [Act.put, List.setIfInBounds_toArray, List.set_cons_zero, List.set_cons_succ, i64_w, i32_w]
                rfl
              refine done_ (done_of HT_.out (by kernel_rfl)) ?_
              try go_wp2
              go_roundg k1
              case measure => have := HK1.out; omega
              case rel => exact ⟨(x5_1), (wrap64 (x11_1 + 1)), (by first | rfl | (simp; done) | (simp [*]; done)), H', ⟨by have := HK1.out; omega⟩, ⟨by (with_reducible repeat (first | apply Kd.N_alloc | apply Kd.N_drewN | apply Kd.N_drew)); exact Kd.N_mono HO_5.out (fun _ hk => hk.1)⟩, ⟨by (with_reducible repeat (first | apply Kd.V_alloc | apply Kd.V_drewN | apply Kd.V_drew)); exact Kd.V_mono HO_9.out (fun _ hk => ⟨hk.1, hk.2.1⟩)⟩, ⟨by repeat (first | (with_reducible first | exact HB.out | apply below_alloc | apply pw_below_drewN | apply below_drew1 | refine below_set ?_ GE360.out) | exact HB.out)⟩⟩
          · rw [if_neg c5] at H
            exact absurd H (by simp)
        · rw [if_neg c4] at H
          exact absurd H (by simp)
      · rw [if_neg c3] at H
        have c3b0 : decide (x11_1 < (l0.length : Int)) = false := decide_eq_false c3
        clear c3
        obtain rfl := Option.some.inj H
        go_wp2
        go_ret
        exact ⟨_, by first | rfl | (simp [errW_none, errW_some] <;> rfl) | (simp [*, errW_none, errW_some] <;> rfl), by (with_reducible repeat (first | apply Kd.N_alloc | apply Kd.N_drewN | apply Kd.N_drew)); exact HO_5.out, pb⟩

end Go.Proofs.Ytnepbpcpfeejkaa.K
