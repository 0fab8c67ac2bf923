-- Printed by the prover's own turned printer (wip/printer in the prover's repo); Lean checks it.
import Derived.Test.YtnepbpcpfeejkaaK0
import Derived.Test.YtnepbpcpfeejkaaKf29
import Derived.Test.YtnepbpcpfeejkaaKf28
namespace Go.Proofs.Ytnepbpcpfeejkaa.K
open Go.RowKit Go.Proofs.YtnepbpcpfeejkaaW.PrintWords Go.Proofs.YtnepbpcpfeejkaaW.PrintLast Go.Proofs.YtnepbpcpfeejkaaW.PrintMore
attribute [local go_sem] max2_int min2_int max_two min_two max_three min_three max_four min_four   -- for this text's walks alone
set_option linter.unusedVariables false
set_option linter.unusedSimpArgs false

/-! ### halyardref9_Live: function 19 -/
def halyardref9_Live.l0 : Nat → Int → List (S35) → List (S35) → Int → Int → Option ((List (S35)))
  | 0, _, _, _, _, _ => none
  | k + 1, x2, x7, x12, x13, x14 => if x14 < x13 then (if 0 ≤ x14 then (if x14 < (x12.length : Int) then (if ((rd_T35 x12 x14).f2 = true) then (halyardref9_Live.l0 k x2 x7 x12 x13 (wrap64 (x14 + 1))) else ((halyardref9_Ended.f ((rd_T35 x12 x14).f3) x2).bind fun t374 => (if t374 = true then (halyardref9_Live.l0 k x2 x7 x12 x13 (wrap64 (x14 + 1))) else (if x7.length < 1954687338268 then (halyardref9_Live.l0 k x2 (x7 ++ [(⟨(rd_T35 x12 x14).f0, (rd_T35 x12 x14).f1, (rd_T35 x12 x14).f2, (rd_T35 x12 x14).f3, (rd_T35 x12 x14).f4⟩ : S35)]) x12 x13 (wrap64 (x14 + 1))) else (none))))) else (none)) else (none)) else (some x7)
def halyardref9_Live.f (k : Nat) (l0 : List (S35)) (a1 : Int) (a2 : Int) : Option ((List (S35))) := (halyardref9_Seen.f k l0 a1).bind fun t369 => (halyardref9_Live.l0 k a2 ([] : List (S35)) t369 (t369.length : Int) 0)
theorem halyardref9_Live.mono_l : ∀ k, (∀ y0 y1 y2 y3 y4, LeO (halyardref9_Live.l0 k y0 y1 y2 y3 y4) (halyardref9_Live.l0 (k + 1) y0 y1 y2 y3 y4))
  | 0 => fun _ _ _ _ _ r h => by simp [halyardref9_Live.l0] at h
  | k + 1 => by
    have ih0 := halyardref9_Live.mono_l k
    · intro y0 y1 y2 y3 y4
      unfold halyardref9_Live.l0
      repeat' first
      | (with_reducible exact ih0 _ _ _ _ _)
      | (with_reducible exact halyardref9_Seen.mono _ _ _)
      | (with_reducible exact LeO.refl _)
      | (with_reducible exact LeO.none _)
      | (with_reducible refine LeO.ite ?_ ?_)
      | (with_reducible refine LeO.bind ?_ (fun _ => ?_))
      | exact ih0 _ _ _ _ _
      | exact halyardref9_Seen.mono _ _ _
      | exact LeO.none _
      | refine LeO.ite ?_ ?_
      | refine LeO.bind ?_ (fun _ => ?_)
theorem halyardref9_Live.mono : ∀ a0 a1 a2 k, LeO (halyardref9_Live.f k a0 a1 a2) (halyardref9_Live.f (k + 1) a0 a1 a2) := by
  intro a0 a1 a2 k
  have ih0 := halyardref9_Live.mono_l k
  unfold halyardref9_Live.f
  repeat' first
      | (with_reducible exact ih0 _ _ _ _ _)
      | (with_reducible exact halyardref9_Seen.mono _ _ _)
      | (with_reducible exact LeO.refl _)
      | (with_reducible exact LeO.none _)
      | (with_reducible refine LeO.ite ?_ ?_)
      | (with_reducible refine LeO.bind ?_ (fun _ => ?_))
      | exact ih0 _ _ _ _ _
      | exact halyardref9_Seen.mono _ _ _
      | exact LeO.none _
      | refine LeO.ite ?_ ?_
      | refine LeO.bind ?_ (fun _ => ?_)
set_option maxHeartbeats 8000000 in
set_option maxRecDepth 100000 in
theorem halyardref9_Live.calls (k : Nat) (P0_ : Nat → Prop) (A0 : Option Addr) (c0 : Nat) (l0 : List (S35)) (a1 : Int) (a2 : Int) (r : List (S35)) (w : World) (hs0 : Kd.V k35 35 w w.heap.size (fun k_ => P0_ k_) (.slice A0 l0.length c0) l0) (h : halyardref9_Live.f k l0 a1 a2 = some r) :
    Calls Try.prog 19 #[.slice A0 l0.length c0, .int .i64 a1, .int .i64 a2] w fun e w' => ∃ v0_ : Value, e = .returned (v0_) ∧ Kd.N k35 35 w' w.heap.size (fun k_ => (P0_ k_ ∨ w.heap.size ≤ k_)) v0_ r ∧ Below w.heap.size w w' := by
  have hu35 := Try.underlying35
  have HO0 := Aside0.mk (show Kd.V k35 35 w w.heap.size (fun k_ => (P0_ k_ ∨ w.heap.size ≤ k_)) (.slice A0 l0.length c0) l0 from Kd.V_mono hs0 (fun k_ hk => .inl hk))
  have HB := Aside0.mk (Below.refl w.heap.size w)
  have H : ((halyardref9_Seen.f k l0 a1).bind fun t369 => (halyardref9_Live.l0 k a2 ([] : List (S35)) t369 (t369.length : Int) 0)) = some r := h
  clear h
  replace H := Option.bind_eq_some_iff.mp H
  obtain ⟨t369, A40, H⟩ := H
  replace H : (halyardref9_Live.l0 k a2 ([] : List (S35)) t369 (t369.length : Int) 0) = some r := H
  have A4 := Aside0.mk A40
  clear A40
  have H' := Aside0.mk H
  clear H
  go_enter Try.func19, Try.ntmps19
  go_wp2_with (first | ((with_reducible refine gate_callee (f := 28) rfl ?_); refine goesL_ (some 12) rfl rfl Try.func28 (by kernel_rfl) rfl #[.slice A0 l0.length c0, .int .i64 a1] rfl pm ?_; (with_reducible refine (halyardref9_Seen.calls k (fun k_ => (P0_ k_ ∨ w.heap.size ≤ k_)) _ _ l0 a1 t369 _ ?side1 A4.out).mono ?_); (case side1 => exact HO0.out); rintro e w5 ⟨v370, rfl, ho0, hb⟩; refine ⟨_, rfl, ?_⟩; have n0_ := Aside0.mk (Kd.V_elder' (by (with_reducible repeat (first | apply Kd.V_alloc | apply Kd.V_drewN | apply Kd.V_drew)); exact HO0.out) (Kd.N_base ho0) hb); have n1_ := Aside0.mk (Kd.N_lower (Kd.N_mono (ok' := fun k_ => (P0_ k_ ∨ w.heap.size ≤ k_)) ho0 (fun k_ hk_ => Or.elim hk_ (fun hs_ => hs_) (fun hn_ => (.inr (Nat.le_trans (below_size pb) hn_))))) (below_size pb)); have n2_ := Aside0.mk (below_step pb hb); clear HO0; clear HB; have HO0 := n0_; have HO371 := n1_; have HB := n2_; clear n0_ n1_ n2_; (try clear hb); (try clear hb2); (try clear hk); (try clear hi); (try clear ho0); obtain ⟨Ao6, co6, eo6⟩ := Kd.N_slice HO371.out; subst eo6))
  go_loopg [7, 14] k (fun kq v7 v14 w' => ∃ (x7_1 : List (S35)) (x14_1 : Int), v14 = .int .i64 x14_1 ∧ Aside0 (halyardref9_Live.l0 kq a2 x7_1 t369 (t369.length : Int) x14_1 = some r) ∧ Aside0 (kq ≤ k) ∧ Aside0 (Kd.N k35 35 w' w.heap.size (fun k_ => (P0_ k_ ∨ w.heap.size ≤ k_) ∧ some k_ ≠ ((.slice Ao6 t369.length co6) : Value).ownBlock) v7 x7_1) ∧ Aside0 (Kd.N k35 35 w' w.heap.size (fun k_ => (P0_ k_ ∨ w.heap.size ≤ k_) ∧ some k_ ≠ (v7 : Value).ownBlock) (.slice Ao6 t369.length co6) t369) ∧ Aside0 (Below w.heap.size w w'))
  case atStart => exact ⟨(([] : List (S35))), (0), (by first | rfl | (simp; done) | (simp [*]; done)), H', ⟨Nat.le_refl _⟩, ⟨by first | exact Kd.S_nil _ _ _ _ _ | exact Kd.N_nil _ _ _ _ _ | exact Kd.V_nil _ _ _ _ _ | exact Kd.Q_nil _ _ _ _ _ | exact Kd.R_nil _ _ _ _ _⟩, ⟨by (with_reducible repeat (first | apply Kd.N_alloc | apply Kd.N_drewN | apply Kd.N_drew)); exact Kd.N_mono HO371.out (fun _ hk => ⟨hk, (by simp [Value.ownBlock])⟩)⟩, ⟨pb⟩⟩
  case round =>
    clear H'
    try clear c1
    try clear c2
    try clear p2
    obtain ⟨x7_1, x14_1, rfl, HA, HK1, HO_7, HO_12, HB⟩ := hrel
    cases gk with
    | zero => exact absurd HA.out (by simp [halyardref9_Live.l0])
    | succ k1 =>
      have H := HA.out
      clear HA
      simp only [halyardref9_Live.l0] at H
      by_cases c7 : x14_1 < (t369.length : Int)
      · rw [if_pos c7] at H
        have c7b0 : decide (x14_1 < (t369.length : Int)) = true := decide_eq_true c7
        clear c7
        by_cases c8 : 0 ≤ x14_1
        · rw [if_pos c8] at H
          have c8b0 : decide (0 ≤ x14_1) = true := decide_eq_true c8
          clear c8
          by_cases c9 : x14_1 < (t369.length : Int)
          · rw [if_pos c9] at H
            have c9b0 : decide (x14_1 < (t369.length : Int)) = true := decide_eq_true c9
            clear c9
            obtain ⟨bq10, hbq10⟩ : ∃ b_ : Bool, b_ = ((rd_T35 t369 x14_1).f2) := ⟨_, rfl⟩
            replace H : (if (bq10 = true) then (halyardref9_Live.l0 k1 a2 x7_1 t369 (t369.length : Int) (wrap64 (x14_1 + 1))) else ((halyardref9_Ended.f ((rd_T35 t369 x14_1).f3) a2).bind fun t374 => (if t374 = true then (halyardref9_Live.l0 k1 a2 x7_1 t369 (t369.length : Int) (wrap64 (x14_1 + 1))) else (if x7_1.length < 1954687338268 then (halyardref9_Live.l0 k1 a2 (x7_1 ++ [(⟨(rd_T35 t369 x14_1).f0, (rd_T35 t369 x14_1).f1, bq10, (rd_T35 t369 x14_1).f3, (rd_T35 t369 x14_1).f4⟩ : S35)]) t369 (t369.length : Int) (wrap64 (x14_1 + 1))) else (none))))) = some r := by rw [← hbq10] at H; exact H
            have Nbq10 := Aside0.mk hbq10
            clear hbq10
            by_cases c11 : (bq10 = true)
            · subst c11
              have H1 : (halyardref9_Live.l0 k1 a2 x7_1 t369 (t369.length : Int) (wrap64 (x14_1 + 1))) = some r := by rw [if_pos rfl] at H; exact H
              clear H
              have H := H1
              clear H1
              have H' := Aside0.mk H
              clear H
              have p372 : 0 ≤ (x14_1 : Int) := pa
              have q372 : x14_1 < (t369.length : Int) := pa
              obtain ⟨ad372, A372_0, c372_0, A372_4, c372_4, e372, hx372_0, hx372_1, hx372_2, hx372_3, hx372_4, hl372_0, hi372_0, hl372_4, hi372_4⟩ := at_T35 (Kd.N_reads' HO_12.out).2.2 x14_1 p372 q372
              (try rw [← Nbq10.out] at hx372_2)
              cases e372
              obtain ⟨ce372, hce372, hMe372, hcc372⟩ := Kd.N_get HO_12.out z35 x14_1 p372 (by first | exact q372 | exact pa | (have e_ := (Kd.N_reads' HO_12.out).1; omega))
              obtain ⟨ua372_0, uc372_0, ua372_4, uc372_4, rfl, ul372_0, ge372_0, ul372_4, ge372_4⟩ := k35_openF hMe372
              have hv372_0 := hcc372 0 _ rfl
              rw [Nat.add_zero] at hv372_0
              replace hv372_0 := Option.some.inj (hv372_0.symm.trans hx372_0)
              injection hv372_0 with hva_ hvn_ hvc_
              rw [hva_] at ge372_0
              rw [hvc_] at ul372_0
              have HL372_0 := Aside0.mk (show Kd.V (Kd.int .u8) 5 _ w.heap.size _ _ ((rd_T35 t369 x14_1).f0) from Kd.V_mk ul372_0 ge372_0)
              clear hva_ hvn_ hvc_ ge372_0 ul372_0
              have hv372_4 := hcc372 4 _ rfl
              rw [add_field _ _ 4 (by omega)] at hv372_4
              replace hv372_4 := Option.some.inj (hv372_4.symm.trans hx372_4)
              injection hv372_4 with hva_ hvn_ hvc_
              rw [hva_] at ge372_4
              rw [hvc_] at ul372_4
              have HL372_4 := Aside0.mk (show Kd.V (Kd.int .u8) 5 _ w.heap.size _ _ ((rd_T35 t369 x14_1).f4) from Kd.V_mk ul372_4 ge372_4)
              clear hva_ hvn_ hvc_ ge372_4 ul372_4
              clear hcc372 hce372
              have HR372_0 := Aside0.mk hi372_0
              have HC372_0 := Aside0.mk hl372_0
              clear hi372_0 hl372_0
              have HR372_4 := Aside0.mk hi372_4
              have HC372_4 := Aside0.mk hl372_4
              clear hi372_4 hl372_4
              replace p372 := eq_true p372
              replace q372 := eq_true q372
              go_wp2_with (first | ((with_reducible refine gate_dst (N := 9) rfl ?_); refine box_event ?hg (N := 9) ?hd (cs := #[.slice none 0 0, .int .i64 0, .bool false, .int .i64 0, .slice none 0 0]) (t := 35) ?hr ?_; (case hd => rfl); (case hg => rfl); (case hr => first | (go_simp; done) | (go_simp; rfl)); intro gb373 hg w12 hbox hb; have n0_ := Aside0.mk (Kd.N_below (Kd.N_elderB (by (with_reducible repeat (first | apply Kd.N_alloc | apply Kd.N_drewN | apply Kd.N_drew)); exact HO_7.out) gb373 (Nat.le_of_eq hg.symm)) hb); have n1_ := Aside0.mk (Kd.N_below (Kd.N_elderB (by (with_reducible repeat (first | apply Kd.N_alloc | apply Kd.N_drewN | apply Kd.N_drew)); exact HO_12.out) gb373 (Nat.le_of_eq hg.symm)) hb); have n2_ := Aside0.mk (Kd.V_below (Kd.V_elderB (by (with_reducible repeat (first | apply Kd.V_alloc | apply Kd.V_drewN | apply Kd.V_drew)); exact HL372_0.out) gb373 (Nat.le_of_eq hg.symm)) hb); have n3_ := Aside0.mk (Kd.V_below (Kd.V_elderB (by (with_reducible repeat (first | apply Kd.V_alloc | apply Kd.V_drewN | apply Kd.V_drew)); exact HL372_4.out) gb373 (Nat.le_of_eq hg.symm)) hb); have n4_ := Aside0.mk (Kd.C_below (by repeat (first | (with_reducible exact HR372_0.out) | (with_reducible refine Kd.C_alloc ?_ _) | (with_reducible refine Kd.C_drewN ?_ _) | (with_reducible refine Kd.C_drew ?_) | exact HR372_0.out)) hb); have n5_ := Aside0.mk (Kd.C_below (by repeat (first | (with_reducible exact HR372_4.out) | (with_reducible refine Kd.C_alloc ?_ _) | (with_reducible refine Kd.C_drewN ?_ _) | (with_reducible refine Kd.C_drew ?_) | exact HR372_4.out)) hb); have n6_ := Aside0.mk (below_step pb hb); have n7_ := Aside0.mk (hbox); have n8_ := Aside0.mk ((by rw [hg]; exact (below_size pb) : w.heap.size ≤ gb373)); have n9_ := Aside0.mk ((by rw [hg]; exact (below_size pb) : w.heap.size ≤ gb373)); clear HO_7; clear HO_12; clear HL372_0; clear HL372_4; clear HR372_0; clear HR372_4; clear HB; have HO_7 := n0_; have HO_12 := n1_; have HL372_0 := n2_; have HL372_4 := n3_; have HR372_0 := n4_; have HR372_4 := n5_; have HB := n6_; have BK373 := n7_; have GW373 := n8_; have GE373 := n9_; clear n0_ n1_ n2_ n3_ n4_ n5_ n6_ n7_ n8_ n9_; clear hb hbox hg; have hcz13_0 : w12.cell? ⟨gb373, 0, none⟩ = some (.slice none 0 0) := (blk_cell BK373.out 0).trans rfl; have hcz13_1 : w12.cell? ⟨gb373, 1, none⟩ = some (.int .i64 0) := (blk_cell BK373.out 1).trans rfl; have hcz13_2 : w12.cell? ⟨gb373, 2, none⟩ = some (.bool false) := (blk_cell BK373.out 2).trans rfl; have hcz13_3 : w12.cell? ⟨gb373, 3, none⟩ = some (.int .i64 0) := (blk_cell BK373.out 3).trans rfl; have hcz13_4 : w12.cell? ⟨gb373, 4, none⟩ = some (.slice none 0 0) := (blk_cell BK373.out 4).trans rfl; have hfz13_0 := blk_frozen BK373.out 0; have hfz13_1 := blk_frozen BK373.out 1; have hfz13_2 := blk_frozen BK373.out 2; have hfz13_3 := blk_frozen BK373.out 3; have hfz13_4 := blk_frozen BK373.out 4))
              go_roundg k1
              case measure => have := HK1.out; omega
              case rel => exact ⟨(x7_1), (wrap64 (x14_1 + 1)), (by first | rfl | (simp; done) | (simp [*]; done)), H', ⟨by have := HK1.out; omega⟩, ⟨by (with_reducible repeat (first | apply Kd.N_alloc | apply Kd.N_drewN | apply Kd.N_drew)); exact Kd.N_mono (Kd.N_far (p := ⟨gb373, 4, none⟩) (Kd.N_far (p := ⟨gb373, 3, none⟩) (Kd.N_far (p := ⟨gb373, 2, none⟩) (Kd.N_far (p := ⟨gb373, 1, none⟩) (Kd.N_far (p := ⟨gb373, 0, none⟩) (Kd.N_mono HO_7.out (fun k_ hk => (⟨hk, hk.2⟩ : _ ∧ k_ ≠ gb373))) (fun _ hk => hk.2) (.slice A372_0 ((rd_T35 t369 x14_1).f0).length c372_0)) (fun _ hk => hk.2) (.int .i64 ((rd_T35 t369 x14_1).f1))) (fun _ hk => hk.2) (.bool true)) (fun _ hk => hk.2) (.int .i64 ((rd_T35 t369 x14_1).f3))) (fun _ hk => hk.2) (.slice A372_4 ((rd_T35 t369 x14_1).f4).length c372_4)) (fun _ hk => ⟨hk.1.1.1, hk.1.1.2⟩)⟩, ⟨by (with_reducible repeat (first | apply Kd.N_alloc | apply Kd.N_drewN | apply Kd.N_drew)); exact Kd.N_mono (Kd.N_far (p := ⟨gb373, 4, none⟩) (Kd.N_far (p := ⟨gb373, 3, none⟩) (Kd.N_far (p := ⟨gb373, 2, none⟩) (Kd.N_far (p := ⟨gb373, 1, none⟩) (Kd.N_far (p := ⟨gb373, 0, none⟩) (Kd.N_mono HO_12.out (fun k_ hk => (⟨hk, hk.2⟩ : _ ∧ k_ ≠ gb373))) (fun _ hk => hk.2) (.slice A372_0 ((rd_T35 t369 x14_1).f0).length c372_0)) (fun _ hk => hk.2) (.int .i64 ((rd_T35 t369 x14_1).f1))) (fun _ hk => hk.2) (.bool true)) (fun _ hk => hk.2) (.int .i64 ((rd_T35 t369 x14_1).f3))) (fun _ hk => hk.2) (.slice A372_4 ((rd_T35 t369 x14_1).f4).length c372_4)) (fun _ hk => ⟨hk.1.1.1, hk.1.1.2⟩)⟩, ⟨by repeat (first | (with_reducible first | exact HB.out | apply below_alloc | apply pw_below_drewN | apply below_drew1 | refine below_set ?_ GE373.out) | exact HB.out)⟩⟩
            · replace c11 := Bool.eq_false_iff.mpr c11
              subst c11
              have H1 : ((halyardref9_Ended.f ((rd_T35 t369 x14_1).f3) a2).bind fun t374 => (if t374 = true then (halyardref9_Live.l0 k1 a2 x7_1 t369 (t369.length : Int) (wrap64 (x14_1 + 1))) else (if x7_1.length < 1954687338268 then (halyardref9_Live.l0 k1 a2 (x7_1 ++ [(⟨(rd_T35 t369 x14_1).f0, (rd_T35 t369 x14_1).f1, false, (rd_T35 t369 x14_1).f3, (rd_T35 t369 x14_1).f4⟩ : S35)]) t369 (t369.length : Int) (wrap64 (x14_1 + 1))) else (none)))) = some r := by rw [if_neg (show ¬ (false = true) by decide)] at H; exact H
              clear H
              have H := H1
              clear H1
              replace H := Option.bind_eq_some_iff.mp H
              obtain ⟨t374, A140, H⟩ := H
              replace H : (if t374 = true then (halyardref9_Live.l0 k1 a2 x7_1 t369 (t369.length : Int) (wrap64 (x14_1 + 1))) else (if x7_1.length < 1954687338268 then (halyardref9_Live.l0 k1 a2 (x7_1 ++ [(⟨(rd_T35 t369 x14_1).f0, (rd_T35 t369 x14_1).f1, false, (rd_T35 t369 x14_1).f3, (rd_T35 t369 x14_1).f4⟩ : S35)]) t369 (t369.length : Int) (wrap64 (x14_1 + 1))) else (none))) = some r := H
              have A14 := Aside0.mk A140
              clear A140
              by_cases c15 : t374 = true
              · subst c15
                have H1 : (halyardref9_Live.l0 k1 a2 x7_1 t369 (t369.length : Int) (wrap64 (x14_1 + 1))) = some r := by rw [if_pos rfl] at H; exact H
                clear H
                have H := H1
                clear H1
                have H' := Aside0.mk H
                clear H
                have p372 : 0 ≤ (x14_1 : Int) := pa
                have q372 : x14_1 < (t369.length : Int) := pa
                obtain ⟨ad372, A372_0, c372_0, A372_4, c372_4, e372, hx372_0, hx372_1, hx372_2, hx372_3, hx372_4, hl372_0, hi372_0, hl372_4, hi372_4⟩ := at_T35 (Kd.N_reads' HO_12.out).2.2 x14_1 p372 q372
                (try rw [← Nbq10.out] at hx372_2)
                cases e372
                obtain ⟨ce372, hce372, hMe372, hcc372⟩ := Kd.N_get HO_12.out z35 x14_1 p372 (by first | exact q372 | exact pa | (have e_ := (Kd.N_reads' HO_12.out).1; omega))
                obtain ⟨ua372_0, uc372_0, ua372_4, uc372_4, rfl, ul372_0, ge372_0, ul372_4, ge372_4⟩ := k35_openF hMe372
                have hv372_0 := hcc372 0 _ rfl
                rw [Nat.add_zero] at hv372_0
                replace hv372_0 := Option.some.inj (hv372_0.symm.trans hx372_0)
                injection hv372_0 with hva_ hvn_ hvc_
                rw [hva_] at ge372_0
                rw [hvc_] at ul372_0
                have HL372_0 := Aside0.mk (show Kd.V (Kd.int .u8) 5 _ w.heap.size _ _ ((rd_T35 t369 x14_1).f0) from Kd.V_mk ul372_0 ge372_0)
                clear hva_ hvn_ hvc_ ge372_0 ul372_0
                have hv372_4 := hcc372 4 _ rfl
                rw [add_field _ _ 4 (by omega)] at hv372_4
                replace hv372_4 := Option.some.inj (hv372_4.symm.trans hx372_4)
                injection hv372_4 with hva_ hvn_ hvc_
                rw [hva_] at ge372_4
                rw [hvc_] at ul372_4
                have HL372_4 := Aside0.mk (show Kd.V (Kd.int .u8) 5 _ w.heap.size _ _ ((rd_T35 t369 x14_1).f4) from Kd.V_mk ul372_4 ge372_4)
                clear hva_ hvn_ hvc_ ge372_4 ul372_4
                clear hcc372 hce372
                have HR372_0 := Aside0.mk hi372_0
                have HC372_0 := Aside0.mk hl372_0
                clear hi372_0 hl372_0
                have HR372_4 := Aside0.mk hi372_4
                have HC372_4 := Aside0.mk hl372_4
                clear hi372_4 hl372_4
                replace p372 := eq_true p372
                replace q372 := eq_true q372
                go_wp2_with (first | ((with_reducible refine gate_dst (N := 9) rfl ?_); refine box_event ?hg (N := 9) ?hd (cs := #[.slice none 0 0, .int .i64 0, .bool false, .int .i64 0, .slice none 0 0]) (t := 35) ?hr ?_; (case hd => rfl); (case hg => rfl); (case hr => first | (go_simp; done) | (go_simp; rfl)); intro gb373 hg w16 hbox hb; have n0_ := Aside0.mk (Kd.N_below (Kd.N_elderB (by (with_reducible repeat (first | apply Kd.N_alloc | apply Kd.N_drewN | apply Kd.N_drew)); exact HO_7.out) gb373 (Nat.le_of_eq hg.symm)) hb); have n1_ := Aside0.mk (Kd.N_below (Kd.N_elderB (by (with_reducible repeat (first | apply Kd.N_alloc | apply Kd.N_drewN | apply Kd.N_drew)); exact HO_12.out) gb373 (Nat.le_of_eq hg.symm)) hb); have n2_ := Aside0.mk (Kd.V_below (Kd.V_elderB (by (with_reducible repeat (first | apply Kd.V_alloc | apply Kd.V_drewN | apply Kd.V_drew)); exact HL372_0.out) gb373 (Nat.le_of_eq hg.symm)) hb); have n3_ := Aside0.mk (Kd.V_below (Kd.V_elderB (by (with_reducible repeat (first | apply Kd.V_alloc | apply Kd.V_drewN | apply Kd.V_drew)); exact HL372_4.out) gb373 (Nat.le_of_eq hg.symm)) hb); have n4_ := Aside0.mk (Kd.C_below (by repeat (first | (with_reducible exact HR372_0.out) | (with_reducible refine Kd.C_alloc ?_ _) | (with_reducible refine Kd.C_drewN ?_ _) | (with_reducible refine Kd.C_drew ?_) | exact HR372_0.out)) hb); have n5_ := Aside0.mk (Kd.C_below (by repeat (first | (with_reducible exact HR372_4.out) | (with_reducible refine Kd.C_alloc ?_ _) | (with_reducible refine Kd.C_drewN ?_ _) | (with_reducible refine Kd.C_drew ?_) | exact HR372_4.out)) hb); have n6_ := Aside0.mk (below_step pb hb); have n7_ := Aside0.mk (hbox); have n8_ := Aside0.mk ((by rw [hg]; exact (below_size pb) : w.heap.size ≤ gb373)); have n9_ := Aside0.mk ((by rw [hg]; exact (below_size pb) : w.heap.size ≤ gb373)); clear HO_7; clear HO_12; clear HL372_0; clear HL372_4; clear HR372_0; clear HR372_4; clear HB; have HO_7 := n0_; have HO_12 := n1_; have HL372_0 := n2_; have HL372_4 := n3_; have HR372_0 := n4_; have HR372_4 := n5_; have HB := n6_; have BK373 := n7_; have GW373 := n8_; have GE373 := n9_; clear n0_ n1_ n2_ n3_ n4_ n5_ n6_ n7_ n8_ n9_; clear hb hbox hg; have hcz17_0 : w16.cell? ⟨gb373, 0, none⟩ = some (.slice none 0 0) := (blk_cell BK373.out 0).trans rfl; have hcz17_1 : w16.cell? ⟨gb373, 1, none⟩ = some (.int .i64 0) := (blk_cell BK373.out 1).trans rfl; have hcz17_2 : w16.cell? ⟨gb373, 2, none⟩ = some (.bool false) := (blk_cell BK373.out 2).trans rfl; have hcz17_3 : w16.cell? ⟨gb373, 3, none⟩ = some (.int .i64 0) := (blk_cell BK373.out 3).trans rfl; have hcz17_4 : w16.cell? ⟨gb373, 4, none⟩ = some (.slice none 0 0) := (blk_cell BK373.out 4).trans rfl; have hfz17_0 := blk_frozen BK373.out 0; have hfz17_1 := blk_frozen BK373.out 1; have hfz17_2 := blk_frozen BK373.out 2; have hfz17_3 := blk_frozen BK373.out 3; have hfz17_4 := blk_frozen BK373.out 4) | (go_at_call 29; (with_reducible refine (halyardref9_Ended.calls ((rd_T35 t369 x14_1).f3) a2 true _ A14.out).mono ?_); rintro e w18 ⟨rfl, hb⟩; have n0_ := Aside0.mk (Kd.N_below (by (with_reducible repeat (first | apply Kd.N_alloc | apply Kd.N_drewN | apply Kd.N_drew)); exact (Kd.N_mono (Kd.N_far (p := ⟨gb373, 4, none⟩) (Kd.N_far (p := ⟨gb373, 3, none⟩) (Kd.N_far (p := ⟨gb373, 2, none⟩) (Kd.N_far (p := ⟨gb373, 1, none⟩) (Kd.N_far (p := ⟨gb373, 0, none⟩) (Kd.N_mono HO_7.out (fun k_ hk => (⟨hk, hk.2⟩ : _ ∧ k_ ≠ gb373))) (fun _ hk => hk.2) (.slice A372_0 ((rd_T35 t369 x14_1).f0).length c372_0)) (fun _ hk => hk.2) (.int .i64 ((rd_T35 t369 x14_1).f1))) (fun _ hk => hk.2) (.bool false)) (fun _ hk => hk.2) (.int .i64 ((rd_T35 t369 x14_1).f3))) (fun _ hk => hk.2) (.slice A372_4 ((rd_T35 t369 x14_1).f4).length c372_4)) (fun _ h_ => h_.1))) hb); have n1_ := Aside0.mk (Kd.N_below (by (with_reducible repeat (first | apply Kd.N_alloc | apply Kd.N_drewN | apply Kd.N_drew)); exact (Kd.N_mono (Kd.N_far (p := ⟨gb373, 4, none⟩) (Kd.N_far (p := ⟨gb373, 3, none⟩) (Kd.N_far (p := ⟨gb373, 2, none⟩) (Kd.N_far (p := ⟨gb373, 1, none⟩) (Kd.N_far (p := ⟨gb373, 0, none⟩) (Kd.N_mono HO_12.out (fun k_ hk => (⟨hk, hk.2⟩ : _ ∧ k_ ≠ gb373))) (fun _ hk => hk.2) (.slice A372_0 ((rd_T35 t369 x14_1).f0).length c372_0)) (fun _ hk => hk.2) (.int .i64 ((rd_T35 t369 x14_1).f1))) (fun _ hk => hk.2) (.bool false)) (fun _ hk => hk.2) (.int .i64 ((rd_T35 t369 x14_1).f3))) (fun _ hk => hk.2) (.slice A372_4 ((rd_T35 t369 x14_1).f4).length c372_4)) (fun _ h_ => h_.1))) hb); have n2_ := Aside0.mk (Kd.V_below (by (with_reducible repeat (first | apply Kd.V_alloc | apply Kd.V_drewN | apply Kd.V_drew)); exact (Kd.V_mono (Kd.V_far (p := ⟨gb373, 4, none⟩) (Kd.V_far (p := ⟨gb373, 3, none⟩) (Kd.V_far (p := ⟨gb373, 2, none⟩) (Kd.V_far (p := ⟨gb373, 1, none⟩) (Kd.V_far (p := ⟨gb373, 0, none⟩) (Kd.V_mono HL372_0.out (fun k_ hk => (⟨hk, hk.2⟩ : _ ∧ k_ ≠ gb373))) (fun _ hk => hk.2) (.slice A372_0 ((rd_T35 t369 x14_1).f0).length c372_0)) (fun _ hk => hk.2) (.int .i64 ((rd_T35 t369 x14_1).f1))) (fun _ hk => hk.2) (.bool false)) (fun _ hk => hk.2) (.int .i64 ((rd_T35 t369 x14_1).f3))) (fun _ hk => hk.2) (.slice A372_4 ((rd_T35 t369 x14_1).f4).length c372_4)) (fun _ h_ => h_.1))) hb); have n3_ := Aside0.mk (Kd.V_below (by (with_reducible repeat (first | apply Kd.V_alloc | apply Kd.V_drewN | apply Kd.V_drew)); exact (Kd.V_mono (Kd.V_far (p := ⟨gb373, 4, none⟩) (Kd.V_far (p := ⟨gb373, 3, none⟩) (Kd.V_far (p := ⟨gb373, 2, none⟩) (Kd.V_far (p := ⟨gb373, 1, none⟩) (Kd.V_far (p := ⟨gb373, 0, none⟩) (Kd.V_mono HL372_4.out (fun k_ hk => (⟨hk, hk.2⟩ : _ ∧ k_ ≠ gb373))) (fun _ hk => hk.2) (.slice A372_0 ((rd_T35 t369 x14_1).f0).length c372_0)) (fun _ hk => hk.2) (.int .i64 ((rd_T35 t369 x14_1).f1))) (fun _ hk => hk.2) (.bool false)) (fun _ hk => hk.2) (.int .i64 ((rd_T35 t369 x14_1).f3))) (fun _ hk => hk.2) (.slice A372_4 ((rd_T35 t369 x14_1).f4).length c372_4)) (fun _ h_ => h_.1))) hb); have n4_ := Aside0.mk (Kd.C_below ((Kd.V_reads' (by (with_reducible repeat (first | apply Kd.V_alloc | apply Kd.V_drewN | apply Kd.V_drew)); exact (Kd.V_mono (Kd.V_far (p := ⟨gb373, 4, none⟩) (Kd.V_far (p := ⟨gb373, 3, none⟩) (Kd.V_far (p := ⟨gb373, 2, none⟩) (Kd.V_far (p := ⟨gb373, 1, none⟩) (Kd.V_far (p := ⟨gb373, 0, none⟩) (Kd.V_mono HL372_0.out (fun k_ hk => (⟨hk, hk.2⟩ : _ ∧ k_ ≠ gb373))) (fun _ hk => hk.2) (.slice A372_0 ((rd_T35 t369 x14_1).f0).length c372_0)) (fun _ hk => hk.2) (.int .i64 ((rd_T35 t369 x14_1).f1))) (fun _ hk => hk.2) (.bool false)) (fun _ hk => hk.2) (.int .i64 ((rd_T35 t369 x14_1).f3))) (fun _ hk => hk.2) (.slice A372_4 ((rd_T35 t369 x14_1).f4).length c372_4)) (fun _ h_ => h_.1)))).2.2) hb); have n5_ := Aside0.mk (Kd.C_below ((Kd.V_reads' (by (with_reducible repeat (first | apply Kd.V_alloc | apply Kd.V_drewN | apply Kd.V_drew)); exact (Kd.V_mono (Kd.V_far (p := ⟨gb373, 4, none⟩) (Kd.V_far (p := ⟨gb373, 3, none⟩) (Kd.V_far (p := ⟨gb373, 2, none⟩) (Kd.V_far (p := ⟨gb373, 1, none⟩) (Kd.V_far (p := ⟨gb373, 0, none⟩) (Kd.V_mono HL372_4.out (fun k_ hk => (⟨hk, hk.2⟩ : _ ∧ k_ ≠ gb373))) (fun _ hk => hk.2) (.slice A372_0 ((rd_T35 t369 x14_1).f0).length c372_0)) (fun _ hk => hk.2) (.int .i64 ((rd_T35 t369 x14_1).f1))) (fun _ hk => hk.2) (.bool false)) (fun _ hk => hk.2) (.int .i64 ((rd_T35 t369 x14_1).f3))) (fun _ hk => hk.2) (.slice A372_4 ((rd_T35 t369 x14_1).f4).length c372_4)) (fun _ h_ => h_.1)))).2.2) hb); have n6_ := Aside0.mk (blk_below (g := gb373) (o := .cells #[.slice A372_0 ((rd_T35 t369 x14_1).f0).length c372_0, .int .i64 ((rd_T35 t369 x14_1).f1), .bool false, .int .i64 ((rd_T35 t369 x14_1).f3), .slice A372_4 ((rd_T35 t369 x14_1).f4).length c372_4] 35 (0, 0)) (by (with_reducible repeat (first | refine blk_drewN ?_ _ | refine blk_drew ?_ | refine blk_alloc ?_ _)); refine blk_put (cs := #[.slice A372_0 ((rd_T35 t369 x14_1).f0).length c372_0, .int .i64 ((rd_T35 t369 x14_1).f1), .bool false, .int .i64 ((rd_T35 t369 x14_1).f3), .slice none 0 0]) ?_ 4 _ rfl; (with_reducible repeat (first | refine blk_drewN ?_ _ | refine blk_drew ?_ | refine blk_alloc ?_ _)); refine blk_put (cs := #[.slice A372_0 ((rd_T35 t369 x14_1).f0).length c372_0, .int .i64 ((rd_T35 t369 x14_1).f1), .bool false, .int .i64 0, .slice none 0 0]) ?_ 3 _ rfl; (with_reducible repeat (first | refine blk_drewN ?_ _ | refine blk_drew ?_ | refine blk_alloc ?_ _)); refine blk_put (cs := #[.slice A372_0 ((rd_T35 t369 x14_1).f0).length c372_0, .int .i64 ((rd_T35 t369 x14_1).f1), .bool false, .int .i64 0, .slice none 0 0]) ?_ 2 _ rfl; (with_reducible repeat (first | refine blk_drewN ?_ _ | refine blk_drew ?_ | refine blk_alloc ?_ _)); refine blk_put (cs := #[.slice A372_0 ((rd_T35 t369 x14_1).f0).length c372_0, .int .i64 0, .bool false, .int .i64 0, .slice none 0 0]) ?_ 1 _ rfl; (with_reducible repeat (first | refine blk_drewN ?_ _ | refine blk_drew ?_ | refine blk_alloc ?_ _)); refine blk_put (cs := #[.slice none 0 0, .int .i64 0, .bool false, .int .i64 0, .slice none 0 0]) ?_ 0 _ rfl; (with_reducible repeat (first | refine blk_drewN ?_ _ | refine blk_drew ?_ | refine blk_alloc ?_ _)); exact BK373.out) hb); have n7_ := Aside0.mk (below_step (by repeat (first | (with_reducible first | exact HB.out | apply below_alloc | apply pw_below_drewN | apply below_drew1 | refine below_set ?_ GE373.out) | exact HB.out)) hb); clear HO_7; clear HO_12; clear HL372_0; clear HL372_4; clear HR372_0; clear HR372_4; clear BK373; clear HB; have HO_7 := n0_; have HO_12 := n1_; have HL372_0 := n2_; have HL372_4 := n3_; have HR372_0 := n4_; have HR372_4 := n5_; have BK373 := n6_; have HB := n7_; clear n0_ n1_ n2_ n3_ n4_ n5_ n6_ n7_; (try clear hb); (try clear hb2); (try clear hk); (try clear hi)))
                go_roundg k1
                case measure => have := HK1.out; omega
                case rel => exact ⟨(x7_1), (wrap64 (x14_1 + 1)), (by first | rfl | (simp; done) | (simp [*]; done)), H', ⟨by have := HK1.out; omega⟩, ⟨by (with_reducible repeat (first | apply Kd.N_alloc | apply Kd.N_drewN | apply Kd.N_drew)); exact Kd.N_mono HO_7.out (fun _ hk => ⟨hk.1.1, hk.1.2⟩)⟩, ⟨by (with_reducible repeat (first | apply Kd.N_alloc | apply Kd.N_drewN | apply Kd.N_drew)); exact Kd.N_mono HO_12.out (fun _ hk => ⟨hk.1.1, hk.1.2⟩)⟩, ⟨by repeat (first | (with_reducible first | exact HB.out | apply below_alloc | apply pw_below_drewN | apply below_drew1 | refine below_set ?_ GE373.out) | exact HB.out)⟩⟩
              · replace c15 := Bool.eq_false_iff.mpr c15
                subst c15
                have H1 : (if x7_1.length < 1954687338268 then (halyardref9_Live.l0 k1 a2 (x7_1 ++ [(⟨(rd_T35 t369 x14_1).f0, (rd_T35 t369 x14_1).f1, false, (rd_T35 t369 x14_1).f3, (rd_T35 t369 x14_1).f4⟩ : S35)]) t369 (t369.length : Int) (wrap64 (x14_1 + 1))) else (none)) = some r := by rw [if_neg (show ¬ (false = true) by decide)] at H; exact H
                clear H
                have H := H1
                clear H1
                by_cases c19 : x7_1.length < 1954687338268
                · rw [if_pos c19] at H
                  have LMc19 := Aside0.mk c19
                  clear c19
                  obtain ⟨y375, hy375⟩ : ∃ y_ : List (S35), y_ = (x7_1 ++ [(⟨(rd_T35 t369 x14_1).f0, (rd_T35 t369 x14_1).f1, false, (rd_T35 t369 x14_1).f3, (rd_T35 t369 x14_1).f4⟩ : S35)]) := ⟨_, rfl⟩
                  replace H : (halyardref9_Live.l0 k1 a2 y375 t369 (t369.length : Int) (wrap64 (x14_1 + 1))) = some r := by first | (rw [hy375]; with_reducible exact H) | (have H2_ := (Option.bind_some _ _).symm.trans H; rw [hy375]; with_reducible exact H2_) | (have H2_ := (Option.bind_some _ _).symm.trans H; with_reducible exact H2_) | with_reducible exact H | (rw [hy375]; exact H) | exact H
                  have Ny375 := Aside0.mk hy375
                  clear hy375
                  have H' := Aside0.mk H
                  clear H
                  have p372 : 0 ≤ (x14_1 : Int) := pa
                  have q372 : x14_1 < (t369.length : Int) := pa
                  obtain ⟨ad372, A372_0, c372_0, A372_4, c372_4, e372, hx372_0, hx372_1, hx372_2, hx372_3, hx372_4, hl372_0, hi372_0, hl372_4, hi372_4⟩ := at_T35 (Kd.N_reads' HO_12.out).2.2 x14_1 p372 q372
                  (try rw [← Nbq10.out] at hx372_2)
                  cases e372
                  obtain ⟨ce372, hce372, hMe372, hcc372⟩ := Kd.N_get HO_12.out z35 x14_1 p372 (by first | exact q372 | exact pa | (have e_ := (Kd.N_reads' HO_12.out).1; omega))
                  obtain ⟨ua372_0, uc372_0, ua372_4, uc372_4, rfl, ul372_0, ge372_0, ul372_4, ge372_4⟩ := k35_openF hMe372
                  have hv372_0 := hcc372 0 _ rfl
                  rw [Nat.add_zero] at hv372_0
                  replace hv372_0 := Option.some.inj (hv372_0.symm.trans hx372_0)
                  injection hv372_0 with hva_ hvn_ hvc_
                  rw [hva_] at ge372_0
                  rw [hvc_] at ul372_0
                  have HL372_0 := Aside0.mk (show Kd.V (Kd.int .u8) 5 _ w.heap.size _ _ ((rd_T35 t369 x14_1).f0) from Kd.V_mk ul372_0 ge372_0)
                  clear hva_ hvn_ hvc_ ge372_0 ul372_0
                  have hv372_4 := hcc372 4 _ rfl
                  rw [add_field _ _ 4 (by omega)] at hv372_4
                  replace hv372_4 := Option.some.inj (hv372_4.symm.trans hx372_4)
                  injection hv372_4 with hva_ hvn_ hvc_
                  rw [hva_] at ge372_4
                  rw [hvc_] at ul372_4
                  have HL372_4 := Aside0.mk (show Kd.V (Kd.int .u8) 5 _ w.heap.size _ _ ((rd_T35 t369 x14_1).f4) from Kd.V_mk ul372_4 ge372_4)
                  clear hva_ hvn_ hvc_ ge372_4 ul372_4
                  clear hcc372 hce372
                  have HR372_0 := Aside0.mk hi372_0
                  have HC372_0 := Aside0.mk hl372_0
                  clear hi372_0 hl372_0
                  have HR372_4 := Aside0.mk hi372_4
                  have HC372_4 := Aside0.mk hl372_4
                  clear hi372_4 hl372_4
                  replace p372 := eq_true p372
                  replace q372 := eq_true q372
                  go_wp2_with (first | ((with_reducible refine gate_dst (N := 9) rfl ?_); refine box_event ?hg (N := 9) ?hd (cs := #[.slice none 0 0, .int .i64 0, .bool false, .int .i64 0, .slice none 0 0]) (t := 35) ?hr ?_; (case hd => rfl); (case hg => rfl); (case hr => first | (go_simp; done) | (go_simp; rfl)); intro gb373 hg w20 hbox hb; have n0_ := Aside0.mk (Kd.N_below (Kd.N_elderB (by (with_reducible repeat (first | apply Kd.N_alloc | apply Kd.N_drewN | apply Kd.N_drew)); exact HO_7.out) gb373 (Nat.le_of_eq hg.symm)) hb); have n1_ := Aside0.mk (Kd.N_below (Kd.N_elderB (by (with_reducible repeat (first | apply Kd.N_alloc | apply Kd.N_drewN | apply Kd.N_drew)); exact HO_12.out) gb373 (Nat.le_of_eq hg.symm)) hb); have n2_ := Aside0.mk (Kd.V_below (Kd.V_elderB (by (with_reducible repeat (first | apply Kd.V_alloc | apply Kd.V_drewN | apply Kd.V_drew)); exact HL372_0.out) gb373 (Nat.le_of_eq hg.symm)) hb); have n3_ := Aside0.mk (Kd.V_below (Kd.V_elderB (by (with_reducible repeat (first | apply Kd.V_alloc | apply Kd.V_drewN | apply Kd.V_drew)); exact HL372_4.out) gb373 (Nat.le_of_eq hg.symm)) hb); have n4_ := Aside0.mk (Kd.C_below (by repeat (first | (with_reducible exact HR372_0.out) | (with_reducible refine Kd.C_alloc ?_ _) | (with_reducible refine Kd.C_drewN ?_ _) | (with_reducible refine Kd.C_drew ?_) | exact HR372_0.out)) hb); have n5_ := Aside0.mk (Kd.C_below (by repeat (first | (with_reducible exact HR372_4.out) | (with_reducible refine Kd.C_alloc ?_ _) | (with_reducible refine Kd.C_drewN ?_ _) | (with_reducible refine Kd.C_drew ?_) | exact HR372_4.out)) hb); have n6_ := Aside0.mk (below_step pb hb); have n7_ := Aside0.mk (hbox); have n8_ := Aside0.mk ((by rw [hg]; exact (below_size pb) : w.heap.size ≤ gb373)); have n9_ := Aside0.mk ((by rw [hg]; exact (below_size pb) : w.heap.size ≤ gb373)); clear HO_7; clear HO_12; clear HL372_0; clear HL372_4; clear HR372_0; clear HR372_4; clear HB; have HO_7 := n0_; have HO_12 := n1_; have HL372_0 := n2_; have HL372_4 := n3_; have HR372_0 := n4_; have HR372_4 := n5_; have HB := n6_; have BK373 := n7_; have GW373 := n8_; have GE373 := n9_; clear n0_ n1_ n2_ n3_ n4_ n5_ n6_ n7_ n8_ n9_; clear hb hbox hg; have hcz21_0 : w20.cell? ⟨gb373, 0, none⟩ = some (.slice none 0 0) := (blk_cell BK373.out 0).trans rfl; have hcz21_1 : w20.cell? ⟨gb373, 1, none⟩ = some (.int .i64 0) := (blk_cell BK373.out 1).trans rfl; have hcz21_2 : w20.cell? ⟨gb373, 2, none⟩ = some (.bool false) := (blk_cell BK373.out 2).trans rfl; have hcz21_3 : w20.cell? ⟨gb373, 3, none⟩ = some (.int .i64 0) := (blk_cell BK373.out 3).trans rfl; have hcz21_4 : w20.cell? ⟨gb373, 4, none⟩ = some (.slice none 0 0) := (blk_cell BK373.out 4).trans rfl; have hfz21_0 := blk_frozen BK373.out 0; have hfz21_1 := blk_frozen BK373.out 1; have hfz21_2 := blk_frozen BK373.out 2; have hfz21_3 := blk_frozen BK373.out 3; have hfz21_4 := blk_frozen BK373.out 4) | (go_at_call 29; (with_reducible refine (halyardref9_Ended.calls ((rd_T35 t369 x14_1).f3) a2 false _ A14.out).mono ?_); rintro e w22 ⟨rfl, hb⟩; have n0_ := Aside0.mk (Kd.N_below (by (with_reducible repeat (first | apply Kd.N_alloc | apply Kd.N_drewN | apply Kd.N_drew)); exact (Kd.N_mono (Kd.N_far (p := ⟨gb373, 4, none⟩) (Kd.N_far (p := ⟨gb373, 3, none⟩) (Kd.N_far (p := ⟨gb373, 2, none⟩) (Kd.N_far (p := ⟨gb373, 1, none⟩) (Kd.N_far (p := ⟨gb373, 0, none⟩) (Kd.N_mono HO_7.out (fun k_ hk => (⟨hk, hk.2⟩ : _ ∧ k_ ≠ gb373))) (fun _ hk => hk.2) (.slice A372_0 ((rd_T35 t369 x14_1).f0).length c372_0)) (fun _ hk => hk.2) (.int .i64 ((rd_T35 t369 x14_1).f1))) (fun _ hk => hk.2) (.bool false)) (fun _ hk => hk.2) (.int .i64 ((rd_T35 t369 x14_1).f3))) (fun _ hk => hk.2) (.slice A372_4 ((rd_T35 t369 x14_1).f4).length c372_4)) (fun _ h_ => h_.1))) hb); have n1_ := Aside0.mk (Kd.N_below (by (with_reducible repeat (first | apply Kd.N_alloc | apply Kd.N_drewN | apply Kd.N_drew)); exact (Kd.N_mono (Kd.N_far (p := ⟨gb373, 4, none⟩) (Kd.N_far (p := ⟨gb373, 3, none⟩) (Kd.N_far (p := ⟨gb373, 2, none⟩) (Kd.N_far (p := ⟨gb373, 1, none⟩) (Kd.N_far (p := ⟨gb373, 0, none⟩) (Kd.N_mono HO_12.out (fun k_ hk => (⟨hk, hk.2⟩ : _ ∧ k_ ≠ gb373))) (fun _ hk => hk.2) (.slice A372_0 ((rd_T35 t369 x14_1).f0).length c372_0)) (fun _ hk => hk.2) (.int .i64 ((rd_T35 t369 x14_1).f1))) (fun _ hk => hk.2) (.bool false)) (fun _ hk => hk.2) (.int .i64 ((rd_T35 t369 x14_1).f3))) (fun _ hk => hk.2) (.slice A372_4 ((rd_T35 t369 x14_1).f4).length c372_4)) (fun _ h_ => h_.1))) hb); have n2_ := Aside0.mk (Kd.V_below (by (with_reducible repeat (first | apply Kd.V_alloc | apply Kd.V_drewN | apply Kd.V_drew)); exact (Kd.V_mono (Kd.V_far (p := ⟨gb373, 4, none⟩) (Kd.V_far (p := ⟨gb373, 3, none⟩) (Kd.V_far (p := ⟨gb373, 2, none⟩) (Kd.V_far (p := ⟨gb373, 1, none⟩) (Kd.V_far (p := ⟨gb373, 0, none⟩) (Kd.V_mono HL372_0.out (fun k_ hk => (⟨hk, hk.2⟩ : _ ∧ k_ ≠ gb373))) (fun _ hk => hk.2) (.slice A372_0 ((rd_T35 t369 x14_1).f0).length c372_0)) (fun _ hk => hk.2) (.int .i64 ((rd_T35 t369 x14_1).f1))) (fun _ hk => hk.2) (.bool false)) (fun _ hk => hk.2) (.int .i64 ((rd_T35 t369 x14_1).f3))) (fun _ hk => hk.2) (.slice A372_4 ((rd_T35 t369 x14_1).f4).length c372_4)) (fun _ h_ => h_.1))) hb); have n3_ := Aside0.mk (Kd.V_below (by (with_reducible repeat (first | apply Kd.V_alloc | apply Kd.V_drewN | apply Kd.V_drew)); exact (Kd.V_mono (Kd.V_far (p := ⟨gb373, 4, none⟩) (Kd.V_far (p := ⟨gb373, 3, none⟩) (Kd.V_far (p := ⟨gb373, 2, none⟩) (Kd.V_far (p := ⟨gb373, 1, none⟩) (Kd.V_far (p := ⟨gb373, 0, none⟩) (Kd.V_mono HL372_4.out (fun k_ hk => (⟨hk, hk.2⟩ : _ ∧ k_ ≠ gb373))) (fun _ hk => hk.2) (.slice A372_0 ((rd_T35 t369 x14_1).f0).length c372_0)) (fun _ hk => hk.2) (.int .i64 ((rd_T35 t369 x14_1).f1))) (fun _ hk => hk.2) (.bool false)) (fun _ hk => hk.2) (.int .i64 ((rd_T35 t369 x14_1).f3))) (fun _ hk => hk.2) (.slice A372_4 ((rd_T35 t369 x14_1).f4).length c372_4)) (fun _ h_ => h_.1))) hb); have n4_ := Aside0.mk (Kd.C_below ((Kd.V_reads' (by (with_reducible repeat (first | apply Kd.V_alloc | apply Kd.V_drewN | apply Kd.V_drew)); exact (Kd.V_mono (Kd.V_far (p := ⟨gb373, 4, none⟩) (Kd.V_far (p := ⟨gb373, 3, none⟩) (Kd.V_far (p := ⟨gb373, 2, none⟩) (Kd.V_far (p := ⟨gb373, 1, none⟩) (Kd.V_far (p := ⟨gb373, 0, none⟩) (Kd.V_mono HL372_0.out (fun k_ hk => (⟨hk, hk.2⟩ : _ ∧ k_ ≠ gb373))) (fun _ hk => hk.2) (.slice A372_0 ((rd_T35 t369 x14_1).f0).length c372_0)) (fun _ hk => hk.2) (.int .i64 ((rd_T35 t369 x14_1).f1))) (fun _ hk => hk.2) (.bool false)) (fun _ hk => hk.2) (.int .i64 ((rd_T35 t369 x14_1).f3))) (fun _ hk => hk.2) (.slice A372_4 ((rd_T35 t369 x14_1).f4).length c372_4)) (fun _ h_ => h_.1)))).2.2) hb); have n5_ := Aside0.mk (Kd.C_below ((Kd.V_reads' (by (with_reducible repeat (first | apply Kd.V_alloc | apply Kd.V_drewN | apply Kd.V_drew)); exact (Kd.V_mono (Kd.V_far (p := ⟨gb373, 4, none⟩) (Kd.V_far (p := ⟨gb373, 3, none⟩) (Kd.V_far (p := ⟨gb373, 2, none⟩) (Kd.V_far (p := ⟨gb373, 1, none⟩) (Kd.V_far (p := ⟨gb373, 0, none⟩) (Kd.V_mono HL372_4.out (fun k_ hk => (⟨hk, hk.2⟩ : _ ∧ k_ ≠ gb373))) (fun _ hk => hk.2) (.slice A372_0 ((rd_T35 t369 x14_1).f0).length c372_0)) (fun _ hk => hk.2) (.int .i64 ((rd_T35 t369 x14_1).f1))) (fun _ hk => hk.2) (.bool false)) (fun _ hk => hk.2) (.int .i64 ((rd_T35 t369 x14_1).f3))) (fun _ hk => hk.2) (.slice A372_4 ((rd_T35 t369 x14_1).f4).length c372_4)) (fun _ h_ => h_.1)))).2.2) hb); have n6_ := Aside0.mk (blk_below (g := gb373) (o := .cells #[.slice A372_0 ((rd_T35 t369 x14_1).f0).length c372_0, .int .i64 ((rd_T35 t369 x14_1).f1), .bool false, .int .i64 ((rd_T35 t369 x14_1).f3), .slice A372_4 ((rd_T35 t369 x14_1).f4).length c372_4] 35 (0, 0)) (by (with_reducible repeat (first | refine blk_drewN ?_ _ | refine blk_drew ?_ | refine blk_alloc ?_ _)); refine blk_put (cs := #[.slice A372_0 ((rd_T35 t369 x14_1).f0).length c372_0, .int .i64 ((rd_T35 t369 x14_1).f1), .bool false, .int .i64 ((rd_T35 t369 x14_1).f3), .slice none 0 0]) ?_ 4 _ rfl; (with_reducible repeat (first | refine blk_drewN ?_ _ | refine blk_drew ?_ | refine blk_alloc ?_ _)); refine blk_put (cs := #[.slice A372_0 ((rd_T35 t369 x14_1).f0).length c372_0, .int .i64 ((rd_T35 t369 x14_1).f1), .bool false, .int .i64 0, .slice none 0 0]) ?_ 3 _ rfl; (with_reducible repeat (first | refine blk_drewN ?_ _ | refine blk_drew ?_ | refine blk_alloc ?_ _)); refine blk_put (cs := #[.slice A372_0 ((rd_T35 t369 x14_1).f0).length c372_0, .int .i64 ((rd_T35 t369 x14_1).f1), .bool false, .int .i64 0, .slice none 0 0]) ?_ 2 _ rfl; (with_reducible repeat (first | refine blk_drewN ?_ _ | refine blk_drew ?_ | refine blk_alloc ?_ _)); refine blk_put (cs := #[.slice A372_0 ((rd_T35 t369 x14_1).f0).length c372_0, .int .i64 0, .bool false, .int .i64 0, .slice none 0 0]) ?_ 1 _ rfl; (with_reducible repeat (first | refine blk_drewN ?_ _ | refine blk_drew ?_ | refine blk_alloc ?_ _)); refine blk_put (cs := #[.slice none 0 0, .int .i64 0, .bool false, .int .i64 0, .slice none 0 0]) ?_ 0 _ rfl; (with_reducible repeat (first | refine blk_drewN ?_ _ | refine blk_drew ?_ | refine blk_alloc ?_ _)); exact BK373.out) hb); have n7_ := Aside0.mk (below_step (by repeat (first | (with_reducible first | exact HB.out | apply below_alloc | apply pw_below_drewN | apply below_drew1 | refine below_set ?_ GE373.out) | exact HB.out)) hb); clear HO_7; clear HO_12; clear HL372_0; clear HL372_4; clear HR372_0; clear HR372_4; clear BK373; clear HB; have HO_7 := n0_; have HO_12 := n1_; have HL372_0 := n2_; have HL372_4 := n3_; have HR372_0 := n4_; have HR372_4 := n5_; have BK373 := n6_; have HB := n7_; clear n0_ n1_ n2_ n3_ n4_ n5_ n6_ n7_; (try clear hb); (try clear hb2); (try clear hk); (try clear hi); have hcz23_0 : w22.cell? ⟨gb373, 0, none⟩ = some (.slice A372_0 ((rd_T35 t369 x14_1).f0).length c372_0) := (blk_cell BK373.out 0).trans rfl; have hcz23_1 : w22.cell? ⟨gb373, 1, none⟩ = some (.int .i64 ((rd_T35 t369 x14_1).f1)) := (blk_cell BK373.out 1).trans rfl; have hcz23_2 : w22.cell? ⟨gb373, 2, none⟩ = some (.bool false) := (blk_cell BK373.out 2).trans rfl; have hcz23_3 : w22.cell? ⟨gb373, 3, none⟩ = some (.int .i64 ((rd_T35 t369 x14_1).f3)) := (blk_cell BK373.out 3).trans rfl; have hcz23_4 : w22.cell? ⟨gb373, 4, none⟩ = some (.slice A372_4 ((rd_T35 t369 x14_1).f4).length c372_4) := (blk_cell BK373.out 4).trans rfl; have hfz23_0 := blk_frozen BK373.out 0; have hfz23_1 := blk_frozen BK373.out 1; have hfz23_2 := blk_frozen BK373.out 2; have hfz23_3 := blk_frozen BK373.out 3; have hfz23_4 := blk_frozen BK373.out 4) | ((with_reducible refine gate_builtin (b := .append) (xs := #[.tmp 28, .tmp 30]) rfl ?_); at_builtin; refine Kd.N_append k35 (w0 := w) w.heap.size rfl (.tmp 28) (.tmp 30) 22 35 (.agg #[(.slice none 0 0), (.int .i64 0), (.bool false), (.int .i64 0), (.slice none 0 0)]) 72 rfl Try.underlying22 info35 rfl (by decide) (by omega) u7 x7_1 (⟨(rd_T35 t369 x14_1).f0, (rd_T35 t369 x14_1).f1, false, (rd_T35 t369 x14_1).f3, (rd_T35 t369 x14_1).f4⟩ : S35) [.slice A372_0 ((rd_T35 t369 x14_1).f0).length c372_0, .int .i64 ((rd_T35 t369 x14_1).f1), .bool false, .int .i64 ((rd_T35 t369 x14_1).f3), .slice A372_4 ((rd_T35 t369 x14_1).f4).length c372_4] (fun k_ => (P0_ k_ ∨ w.heap.size ≤ k_) ∧ some k_ ≠ (.slice (some ad372) t369.length co6 : Value).ownBlock ∧ k_ ≠ gb373) (fun k_ => ((fun k_ => (P0_ k_ ∨ w.heap.size ≤ k_) ∧ some k_ ≠ (.slice (some ad372) t369.length co6 : Value).ownBlock ∧ k_ ≠ gb373)) k_ ∧ some k_ ≠ (u7 : Value).ownBlock) rfl rfl ?aP (fun _ hk => hk) ?aF ?aO ?aB ?aS ?aL ?_; (case aP => exact (k35_mkF _ _ (⟨(rd_T35 t369 x14_1).f0, (rd_T35 t369 x14_1).f1, false, (rd_T35 t369 x14_1).f3, (rd_T35 t369 x14_1).f4⟩ : S35) (Kd.V_reads' (Kd.V_mono (ok' := (fun k_ => ((fun k_ => (P0_ k_ ∨ w.heap.size ≤ k_) ∧ some k_ ≠ (.slice (some ad372) t369.length co6 : Value).ownBlock ∧ k_ ≠ gb373)) k_ ∧ some k_ ≠ (u7 : Value).ownBlock)) (HL372_0.out) (fun k_ hk => ⟨⟨hk.1.1.1, ⟨hk.1.2, hk.2⟩⟩, hk.1.1.2⟩))).2.1 (Kd.V_F (Kd.V_mono (ok' := (fun k_ => ((fun k_ => (P0_ k_ ∨ w.heap.size ≤ k_) ∧ some k_ ≠ (.slice (some ad372) t369.length co6 : Value).ownBlock ∧ k_ ≠ gb373)) k_ ∧ some k_ ≠ (u7 : Value).ownBlock)) (HL372_0.out) (fun k_ hk => ⟨⟨hk.1.1.1, ⟨hk.1.2, hk.2⟩⟩, hk.1.1.2⟩))) (Kd.V_reads' (Kd.V_mono (ok' := (fun k_ => ((fun k_ => (P0_ k_ ∨ w.heap.size ≤ k_) ∧ some k_ ≠ (.slice (some ad372) t369.length co6 : Value).ownBlock ∧ k_ ≠ gb373)) k_ ∧ some k_ ≠ (u7 : Value).ownBlock)) (HL372_4.out) (fun k_ hk => ⟨⟨hk.1.1.1, ⟨hk.1.2, hk.2⟩⟩, hk.1.1.2⟩))).2.1 (Kd.V_F (Kd.V_mono (ok' := (fun k_ => ((fun k_ => (P0_ k_ ∨ w.heap.size ≤ k_) ∧ some k_ ≠ (.slice (some ad372) t369.length co6 : Value).ownBlock ∧ k_ ≠ gb373)) k_ ∧ some k_ ≠ (u7 : Value).ownBlock)) (HL372_4.out) (fun k_ hk => ⟨⟨hk.1.1.1, ⟨hk.1.2, hk.2⟩⟩, hk.1.1.2⟩))))); (case aB => exact (by repeat (first | (with_reducible first | exact HB.out | apply below_alloc | apply pw_below_drewN | apply below_drew1 | refine below_set ?_ GE373.out) | exact HB.out))); (case aF => exact (fun k_ hk => ⟨(.inr (Nat.le_trans (below_size (by repeat (first | (with_reducible first | exact HB.out | apply below_alloc | apply pw_below_drewN | apply below_drew1 | refine below_set ?_ GE373.out) | exact HB.out))) hk)), Kd.fresh' (Kd.N_lt (by (with_reducible repeat (first | apply Kd.N_alloc | apply Kd.N_drewN | apply Kd.N_drew)); exact HO_12.out)) k_ hk, Kd.freshB (g := gb373) (o := .cells #[.slice A372_0 ((rd_T35 t369 x14_1).f0).length c372_0, .int .i64 ((rd_T35 t369 x14_1).f1), .bool false, .int .i64 ((rd_T35 t369 x14_1).f3), .slice A372_4 ((rd_T35 t369 x14_1).f4).length c372_4] 35 (0, 0)) (by (with_reducible repeat (first | refine blk_drewN ?_ _ | refine blk_drew ?_ | refine blk_alloc ?_ _)); exact BK373.out) k_ hk⟩)); (case aO => exact (by (with_reducible repeat (first | apply Kd.N_alloc | apply Kd.N_drewN | apply Kd.N_drew)); exact Kd.N_mono HO_7.out (fun _ hk => ⟨hk.1.1, ⟨hk.1.2, hk.2⟩⟩))); (case aS => exact (below_size (by repeat (first | (with_reducible first | exact HB.out | apply below_alloc | apply pw_below_drewN | apply below_drew1 | refine below_set ?_ GE373.out) | exact HB.out)))); (case aL => have := LMc19.out; omega); intro v376 w24 ho hb hg hat; rw [← Ny375.out] at ho; have n0_ := Aside0.mk (Kd.N_afterv (ok := (fun k_ => (P0_ k_ ∨ w.heap.size ≤ k_) ∧ k_ ≠ gb373)) (by (with_reducible repeat (first | apply Kd.N_alloc | apply Kd.N_drewN | apply Kd.N_drew)); exact Kd.N_mono HO_12.out (fun _ hk => ⟨⟨hk.1.1, hk.2⟩, hk.1.2⟩)) hg hat); have n1_ := Aside0.mk (Kd.V_afterv (ok := (fun k_ => (P0_ k_ ∨ w.heap.size ≤ k_) ∧ some k_ ≠ (.slice (some ad372) t369.length co6 : Value).ownBlock ∧ k_ ≠ gb373)) (by (with_reducible repeat (first | apply Kd.V_alloc | apply Kd.V_drewN | apply Kd.V_drew)); exact Kd.V_mono HL372_0.out (fun _ hk => ⟨⟨hk.1.1.1, ⟨hk.1.2, hk.2⟩⟩, hk.1.1.2⟩)) hg hat); have n2_ := Aside0.mk (Kd.V_afterv (ok := (fun k_ => (P0_ k_ ∨ w.heap.size ≤ k_) ∧ some k_ ≠ (.slice (some ad372) t369.length co6 : Value).ownBlock ∧ k_ ≠ gb373)) (by (with_reducible repeat (first | apply Kd.V_alloc | apply Kd.V_drewN | apply Kd.V_drew)); exact Kd.V_mono HL372_4.out (fun _ hk => ⟨⟨hk.1.1.1, ⟨hk.1.2, hk.2⟩⟩, hk.1.1.2⟩)) hg hat); have n3_ := Aside0.mk (blk_grown (g := gb373) (o := .cells #[.slice A372_0 ((rd_T35 t369 x14_1).f0).length c372_0, .int .i64 ((rd_T35 t369 x14_1).f1), .bool false, .int .i64 ((rd_T35 t369 x14_1).f3), .slice A372_4 ((rd_T35 t369 x14_1).f4).length c372_4] 35 (0, 0)) (by (with_reducible repeat (first | refine blk_drewN ?_ _ | refine blk_drew ?_ | refine blk_alloc ?_ _)); exact BK373.out) hg (Kd.N_away HO_7.out (fun _ hk => hk.2))); have n4_ := Aside0.mk (hb); have n5_ := Aside0.mk (ho); clear HO_12; clear HL372_0; clear HL372_4; clear BK373; clear HB; clear HO_7; have HO_12 := n0_; have HL372_0 := n1_; have HL372_4 := n2_; have BK373 := n3_; have HB := n4_; have HO377 := n5_; clear n0_ n1_ n2_ n3_ n4_ n5_; clear ho hb hg hat))
                  go_roundg k1
                  case measure => have := HK1.out; omega
                  case rel => exact ⟨(y375), (wrap64 (x14_1 + 1)), (by first | rfl | (simp; done) | (simp [*]; done)), H', ⟨by have := HK1.out; omega⟩, ⟨by (with_reducible repeat (first | apply Kd.N_alloc | apply Kd.N_drewN | apply Kd.N_drew)); exact Kd.N_mono HO377.out (fun _ hk => ⟨hk.1, hk.2.1⟩)⟩, ⟨by (with_reducible repeat (first | apply Kd.N_alloc | apply Kd.N_drewN | apply Kd.N_drew)); exact Kd.N_mono HO_12.out (fun _ hk => ⟨hk.1.1, hk.2⟩)⟩, ⟨by repeat (first | (with_reducible first | exact HB.out | apply below_alloc | apply pw_below_drewN | apply below_drew1 | refine below_set ?_ GE373.out) | exact HB.out)⟩⟩
                · rw [if_neg c19] at H
                  exact absurd H (by simp)
          · rw [if_neg c9] at H
            exact absurd H (by simp)
        · rw [if_neg c8] at H
          exact absurd H (by simp)
      · rw [if_neg c7] at H
        have c7b0 : decide (x14_1 < (t369.length : Int)) = false := decide_eq_false c7
        clear c7
        obtain rfl := Option.some.inj H
        go_wp2
        go_ret
        exact ⟨_, by first | rfl | (simp [errW_none, errW_some] <;> rfl) | (simp [*, errW_none, errW_some] <;> rfl), by (with_reducible repeat (first | apply Kd.N_alloc | apply Kd.N_drewN | apply Kd.N_drew)); exact Kd.N_mono HO_7.out (fun _ hk => hk.1), pb⟩

end Go.Proofs.Ytnepbpcpfeejkaa.K
