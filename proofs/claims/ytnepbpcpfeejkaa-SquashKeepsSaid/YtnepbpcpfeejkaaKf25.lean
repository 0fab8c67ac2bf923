-- Printed by the prover's own turned printer (wip/printer in the prover's repo); Lean checks it.
import Derived.Test.YtnepbpcpfeejkaaK0
namespace Go.Proofs.Ytnepbpcpfeejkaa.K
open Go.RowKit Go.Proofs.YtnepbpcpfeejkaaW.PrintWords Go.Proofs.YtnepbpcpfeejkaaW.PrintLast Go.Proofs.YtnepbpcpfeejkaaW.PrintMore
attribute [local go_sem] max2_int min2_int max_two min_two max_three min_three max_four min_four   -- for this text's walks alone
set_option linter.unusedVariables false
set_option linter.unusedSimpArgs false

/-! ### halyardref9_May: function 25 -/
def halyardref9_May.f (l0_0 : List Int) (a0_1 : Int) (a0_2 : Bool) (a0_3 : Int) (l0_4 : List Int) : Option (Bool) := if (l0_0.length : Int) < 1 then (some false) else (if (l0_0.length : Int) > 512 then (some false) else (if a0_1 < 1 then (some false) else (if a0_1 > 4611686018427387904 then (some false) else (if a0_3 < 0 then (some false) else (if a0_3 > 4611686018427387904 then (some false) else (if (l0_4.length : Int) > 2048 then (some false) else (if a0_2 = true then (if a0_3 = 0 then (some ((l0_4.length : Int) == 0)) else (some false)) else (some true))))))))
set_option maxHeartbeats 8000000 in
set_option maxRecDepth 100000 in
theorem halyardref9_May.calls (A0_0 : Option Addr) (c0_0 : Nat) (l0_0 : List Int) (a0_1 : Int) (a0_2 : Bool) (a0_3 : Int) (A0_4 : Option Addr) (c0_4 : Nat) (l0_4 : List Int) (r : Bool) (w : World) (hr0_0 : Kd.C (Kd.int .u8) w A0_0 l0_0.length l0_0) (hc0_0 : l0_0.length ≤ c0_0) (hr0_4 : Kd.C (Kd.int .u8) w A0_4 l0_4.length l0_4) (hc0_4 : l0_4.length ≤ c0_4) (h : halyardref9_May.f l0_0 a0_1 a0_2 a0_3 l0_4 = some r) :
    Calls Try.prog 25 #[.agg #[.slice A0_0 l0_0.length c0_0, .int .i64 a0_1, .bool a0_2, .int .i64 a0_3, .slice A0_4 l0_4.length c0_4]] w fun e w' => e = .returned (.bool r) ∧ Below w.heap.size w w' := by
  have hu35 := Try.underlying35
  have HR0_0 := Aside0.mk hr0_0
  have HC0_0 := Aside0.mk hc0_0
  clear hr0_0 hc0_0
  have HR0_4 := Aside0.mk hr0_4
  have HC0_4 := Aside0.mk hc0_4
  clear hr0_4 hc0_4
  have HB := Aside0.mk (Below.refl w.heap.size w)
  have H : (if (l0_0.length : Int) < 1 then (some false) else (if (l0_0.length : Int) > 512 then (some false) else (if a0_1 < 1 then (some false) else (if a0_1 > 4611686018427387904 then (some false) else (if a0_3 < 0 then (some false) else (if a0_3 > 4611686018427387904 then (some false) else (if (l0_4.length : Int) > 2048 then (some false) else (if a0_2 = true then (if a0_3 = 0 then (some ((l0_4.length : Int) == 0)) else (some false)) else (some true))))))))) = some r := h
  clear h
  by_cases c2 : (l0_0.length : Int) < 1
  · rw [if_pos c2] at H
    have c2b0 : decide ((l0_0.length : Int) < 1) = true := decide_eq_true c2
    have c2b1 : decide (l0_0.length < 1) = true := decide_eq_true (by omega)
    clear c2
    obtain rfl := Option.some.inj H
    go_enter Try.func25, Try.ntmps25
    go_wp2_with (first | ((with_reducible refine gate_dst (N := 1) rfl ?_); (try (refine gate_guard (by rfl) ?_; dsimp only)); refine box_event ?hg (N := 1) ?hd (cs := #[.slice A0_0 l0_0.length c0_0, .int .i64 a0_1, .bool a0_2, .int .i64 a0_3, .slice A0_4 l0_4.length c0_4]) (t := 35) ?hr ?_; (case hd => rfl); (case hg => rfl); (case hr => first | (go_simp; done) | (go_simp; rfl)); intro gb200 hg w3 hbox hb; have n0_ := Aside0.mk (below_step pb hb); have n1_ := Aside0.mk (hbox); have n2_ := Aside0.mk ((by rw [hg]; exact (below_size pb) : w.heap.size ≤ gb200)); have n3_ := Aside0.mk ((by rw [hg]; exact (below_size pb) : w.heap.size ≤ gb200)); clear HB; have HB := n0_; have BK200 := n1_; have GW200 := n2_; have GE200 := n3_; clear n0_ n1_ n2_ n3_; clear hb hbox hg; have hcz4_0 : w3.cell? ⟨gb200, 0, none⟩ = some (.slice A0_0 l0_0.length c0_0) := (blk_cell BK200.out 0).trans rfl; have hcz4_1 : w3.cell? ⟨gb200, 1, none⟩ = some (.int .i64 a0_1) := (blk_cell BK200.out 1).trans rfl; have hcz4_2 : w3.cell? ⟨gb200, 2, none⟩ = some (.bool a0_2) := (blk_cell BK200.out 2).trans rfl; have hcz4_3 : w3.cell? ⟨gb200, 3, none⟩ = some (.int .i64 a0_3) := (blk_cell BK200.out 3).trans rfl; have hcz4_4 : w3.cell? ⟨gb200, 4, none⟩ = some (.slice A0_4 l0_4.length c0_4) := (blk_cell BK200.out 4).trans rfl; have hfz4_0 := blk_frozen BK200.out 0; have hfz4_1 := blk_frozen BK200.out 1; have hfz4_2 := blk_frozen BK200.out 2; have hfz4_3 := blk_frozen BK200.out 3; have hfz4_4 := blk_frozen BK200.out 4))
    go_ret
    exact ⟨by first | rfl | (simp [errW_none, errW_some] <;> rfl) | (simp [*, errW_none, errW_some] <;> rfl), by repeat (first | (with_reducible first | exact HB.out | apply below_alloc | apply pw_below_drewN | apply below_drew1 | refine below_set ?_ GE200.out) | exact HB.out)⟩
  · rw [if_neg c2] at H
    have c2b0 : decide ((l0_0.length : Int) < 1) = false := decide_eq_false c2
    have c2b1 : decide (l0_0.length < 1) = false := decide_eq_false (by omega)
    clear c2
    by_cases c5 : (l0_0.length : Int) > 512
    · rw [if_pos c5] at H
      have c5b0 : decide (512 < (l0_0.length : Int)) = true := decide_eq_true c5
      have c5b1 : decide (512 < l0_0.length) = true := decide_eq_true (by omega)
      clear c5
      obtain rfl := Option.some.inj H
      go_enter Try.func25, Try.ntmps25
      go_wp2_with (first | ((with_reducible refine gate_dst (N := 1) rfl ?_); (try (refine gate_guard (by rfl) ?_; dsimp only)); refine box_event ?hg (N := 1) ?hd (cs := #[.slice A0_0 l0_0.length c0_0, .int .i64 a0_1, .bool a0_2, .int .i64 a0_3, .slice A0_4 l0_4.length c0_4]) (t := 35) ?hr ?_; (case hd => rfl); (case hg => rfl); (case hr => first | (go_simp; done) | (go_simp; rfl)); intro gb200 hg w6 hbox hb; have n0_ := Aside0.mk (below_step pb hb); have n1_ := Aside0.mk (hbox); have n2_ := Aside0.mk ((by rw [hg]; exact (below_size pb) : w.heap.size ≤ gb200)); have n3_ := Aside0.mk ((by rw [hg]; exact (below_size pb) : w.heap.size ≤ gb200)); clear HB; have HB := n0_; have BK200 := n1_; have GW200 := n2_; have GE200 := n3_; clear n0_ n1_ n2_ n3_; clear hb hbox hg; have hcz7_0 : w6.cell? ⟨gb200, 0, none⟩ = some (.slice A0_0 l0_0.length c0_0) := (blk_cell BK200.out 0).trans rfl; have hcz7_1 : w6.cell? ⟨gb200, 1, none⟩ = some (.int .i64 a0_1) := (blk_cell BK200.out 1).trans rfl; have hcz7_2 : w6.cell? ⟨gb200, 2, none⟩ = some (.bool a0_2) := (blk_cell BK200.out 2).trans rfl; have hcz7_3 : w6.cell? ⟨gb200, 3, none⟩ = some (.int .i64 a0_3) := (blk_cell BK200.out 3).trans rfl; have hcz7_4 : w6.cell? ⟨gb200, 4, none⟩ = some (.slice A0_4 l0_4.length c0_4) := (blk_cell BK200.out 4).trans rfl; have hfz7_0 := blk_frozen BK200.out 0; have hfz7_1 := blk_frozen BK200.out 1; have hfz7_2 := blk_frozen BK200.out 2; have hfz7_3 := blk_frozen BK200.out 3; have hfz7_4 := blk_frozen BK200.out 4))
      go_ret
      exact ⟨by first | rfl | (simp [errW_none, errW_some] <;> rfl) | (simp [*, errW_none, errW_some] <;> rfl), by repeat (first | (with_reducible first | exact HB.out | apply below_alloc | apply pw_below_drewN | apply below_drew1 | refine below_set ?_ GE200.out) | exact HB.out)⟩
    · rw [if_neg c5] at H
      have c5b0 : decide (512 < (l0_0.length : Int)) = false := decide_eq_false c5
      have c5b1 : decide (512 < l0_0.length) = false := decide_eq_false (by omega)
      clear c5
      by_cases c8 : a0_1 < 1
      · rw [if_pos c8] at H
        have c8b0 : decide (a0_1 < 1) = true := decide_eq_true c8
        clear c8
        obtain rfl := Option.some.inj H
        go_enter Try.func25, Try.ntmps25
        go_wp2_with (first | ((with_reducible refine gate_dst (N := 1) rfl ?_); (try (refine gate_guard (by rfl) ?_; dsimp only)); refine box_event ?hg (N := 1) ?hd (cs := #[.slice A0_0 l0_0.length c0_0, .int .i64 a0_1, .bool a0_2, .int .i64 a0_3, .slice A0_4 l0_4.length c0_4]) (t := 35) ?hr ?_; (case hd => rfl); (case hg => rfl); (case hr => first | (go_simp; done) | (go_simp; rfl)); intro gb200 hg w9 hbox hb; have n0_ := Aside0.mk (below_step pb hb); have n1_ := Aside0.mk (hbox); have n2_ := Aside0.mk ((by rw [hg]; exact (below_size pb) : w.heap.size ≤ gb200)); have n3_ := Aside0.mk ((by rw [hg]; exact (below_size pb) : w.heap.size ≤ gb200)); clear HB; have HB := n0_; have BK200 := n1_; have GW200 := n2_; have GE200 := n3_; clear n0_ n1_ n2_ n3_; clear hb hbox hg; have hcz10_0 : w9.cell? ⟨gb200, 0, none⟩ = some (.slice A0_0 l0_0.length c0_0) := (blk_cell BK200.out 0).trans rfl; have hcz10_1 : w9.cell? ⟨gb200, 1, none⟩ = some (.int .i64 a0_1) := (blk_cell BK200.out 1).trans rfl; have hcz10_2 : w9.cell? ⟨gb200, 2, none⟩ = some (.bool a0_2) := (blk_cell BK200.out 2).trans rfl; have hcz10_3 : w9.cell? ⟨gb200, 3, none⟩ = some (.int .i64 a0_3) := (blk_cell BK200.out 3).trans rfl; have hcz10_4 : w9.cell? ⟨gb200, 4, none⟩ = some (.slice A0_4 l0_4.length c0_4) := (blk_cell BK200.out 4).trans rfl; have hfz10_0 := blk_frozen BK200.out 0; have hfz10_1 := blk_frozen BK200.out 1; have hfz10_2 := blk_frozen BK200.out 2; have hfz10_3 := blk_frozen BK200.out 3; have hfz10_4 := blk_frozen BK200.out 4))
        go_ret
        exact ⟨by first | rfl | (simp [errW_none, errW_some] <;> rfl) | (simp [*, errW_none, errW_some] <;> rfl), by repeat (first | (with_reducible first | exact HB.out | apply below_alloc | apply pw_below_drewN | apply below_drew1 | refine below_set ?_ GE200.out) | exact HB.out)⟩
      · rw [if_neg c8] at H
        have c8b0 : decide (a0_1 < 1) = false := decide_eq_false c8
        clear c8
        by_cases c11 : a0_1 > 4611686018427387904
        · rw [if_pos c11] at H
          have c11b0 : decide (4611686018427387904 < a0_1) = true := decide_eq_true c11
          clear c11
          obtain rfl := Option.some.inj H
          go_enter Try.func25, Try.ntmps25
          go_wp2_with (first | ((with_reducible refine gate_dst (N := 1) rfl ?_); (try (refine gate_guard (by rfl) ?_; dsimp only)); refine box_event ?hg (N := 1) ?hd (cs := #[.slice A0_0 l0_0.length c0_0, .int .i64 a0_1, .bool a0_2, .int .i64 a0_3, .slice A0_4 l0_4.length c0_4]) (t := 35) ?hr ?_; (case hd => rfl); (case hg => rfl); (case hr => first | (go_simp; done) | (go_simp; rfl)); intro gb200 hg w12 hbox hb; have n0_ := Aside0.mk (below_step pb hb); have n1_ := Aside0.mk (hbox); have n2_ := Aside0.mk ((by rw [hg]; exact (below_size pb) : w.heap.size ≤ gb200)); have n3_ := Aside0.mk ((by rw [hg]; exact (below_size pb) : w.heap.size ≤ gb200)); clear HB; have HB := n0_; have BK200 := n1_; have GW200 := n2_; have GE200 := n3_; clear n0_ n1_ n2_ n3_; clear hb hbox hg; have hcz13_0 : w12.cell? ⟨gb200, 0, none⟩ = some (.slice A0_0 l0_0.length c0_0) := (blk_cell BK200.out 0).trans rfl; have hcz13_1 : w12.cell? ⟨gb200, 1, none⟩ = some (.int .i64 a0_1) := (blk_cell BK200.out 1).trans rfl; have hcz13_2 : w12.cell? ⟨gb200, 2, none⟩ = some (.bool a0_2) := (blk_cell BK200.out 2).trans rfl; have hcz13_3 : w12.cell? ⟨gb200, 3, none⟩ = some (.int .i64 a0_3) := (blk_cell BK200.out 3).trans rfl; have hcz13_4 : w12.cell? ⟨gb200, 4, none⟩ = some (.slice A0_4 l0_4.length c0_4) := (blk_cell BK200.out 4).trans rfl; have hfz13_0 := blk_frozen BK200.out 0; have hfz13_1 := blk_frozen BK200.out 1; have hfz13_2 := blk_frozen BK200.out 2; have hfz13_3 := blk_frozen BK200.out 3; have hfz13_4 := blk_frozen BK200.out 4))
          go_ret
          exact ⟨by first | rfl | (simp [errW_none, errW_some] <;> rfl) | (simp [*, errW_none, errW_some] <;> rfl), by repeat (first | (with_reducible first | exact HB.out | apply below_alloc | apply pw_below_drewN | apply below_drew1 | refine below_set ?_ GE200.out) | exact HB.out)⟩
        · rw [if_neg c11] at H
          have c11b0 : decide (4611686018427387904 < a0_1) = false := decide_eq_false c11
          clear c11
          by_cases c14 : a0_3 < 0
          · rw [if_pos c14] at H
            have c14b0 : decide (a0_3 < 0) = true := decide_eq_true c14
            clear c14
            obtain rfl := Option.some.inj H
            go_enter Try.func25, Try.ntmps25
            go_wp2_with (first | ((with_reducible refine gate_dst (N := 1) rfl ?_); (try (refine gate_guard (by rfl) ?_; dsimp only)); refine box_event ?hg (N := 1) ?hd (cs := #[.slice A0_0 l0_0.length c0_0, .int .i64 a0_1, .bool a0_2, .int .i64 a0_3, .slice A0_4 l0_4.length c0_4]) (t := 35) ?hr ?_; (case hd => rfl); (case hg => rfl); (case hr => first | (go_simp; done) | (go_simp; rfl)); intro gb200 hg w15 hbox hb; have n0_ := Aside0.mk (below_step pb hb); have n1_ := Aside0.mk (hbox); have n2_ := Aside0.mk ((by rw [hg]; exact (below_size pb) : w.heap.size ≤ gb200)); have n3_ := Aside0.mk ((by rw [hg]; exact (below_size pb) : w.heap.size ≤ gb200)); clear HB; have HB := n0_; have BK200 := n1_; have GW200 := n2_; have GE200 := n3_; clear n0_ n1_ n2_ n3_; clear hb hbox hg; have hcz16_0 : w15.cell? ⟨gb200, 0, none⟩ = some (.slice A0_0 l0_0.length c0_0) := (blk_cell BK200.out 0).trans rfl; have hcz16_1 : w15.cell? ⟨gb200, 1, none⟩ = some (.int .i64 a0_1) := (blk_cell BK200.out 1).trans rfl; have hcz16_2 : w15.cell? ⟨gb200, 2, none⟩ = some (.bool a0_2) := (blk_cell BK200.out 2).trans rfl; have hcz16_3 : w15.cell? ⟨gb200, 3, none⟩ = some (.int .i64 a0_3) := (blk_cell BK200.out 3).trans rfl; have hcz16_4 : w15.cell? ⟨gb200, 4, none⟩ = some (.slice A0_4 l0_4.length c0_4) := (blk_cell BK200.out 4).trans rfl; have hfz16_0 := blk_frozen BK200.out 0; have hfz16_1 := blk_frozen BK200.out 1; have hfz16_2 := blk_frozen BK200.out 2; have hfz16_3 := blk_frozen BK200.out 3; have hfz16_4 := blk_frozen BK200.out 4))
            go_ret
            exact ⟨by first | rfl | (simp [errW_none, errW_some] <;> rfl) | (simp [*, errW_none, errW_some] <;> rfl), by repeat (first | (with_reducible first | exact HB.out | apply below_alloc | apply pw_below_drewN | apply below_drew1 | refine below_set ?_ GE200.out) | exact HB.out)⟩
          · rw [if_neg c14] at H
            have c14b0 : decide (a0_3 < 0) = false := decide_eq_false c14
            clear c14
            by_cases c17 : a0_3 > 4611686018427387904
            · rw [if_pos c17] at H
              have c17b0 : decide (4611686018427387904 < a0_3) = true := decide_eq_true c17
              clear c17
              obtain rfl := Option.some.inj H
              go_enter Try.func25, Try.ntmps25
              go_wp2_with (first | ((with_reducible refine gate_dst (N := 1) rfl ?_); (try (refine gate_guard (by rfl) ?_; dsimp only)); refine box_event ?hg (N := 1) ?hd (cs := #[.slice A0_0 l0_0.length c0_0, .int .i64 a0_1, .bool a0_2, .int .i64 a0_3, .slice A0_4 l0_4.length c0_4]) (t := 35) ?hr ?_; (case hd => rfl); (case hg => rfl); (case hr => first | (go_simp; done) | (go_simp; rfl)); intro gb200 hg w18 hbox hb; have n0_ := Aside0.mk (below_step pb hb); have n1_ := Aside0.mk (hbox); have n2_ := Aside0.mk ((by rw [hg]; exact (below_size pb) : w.heap.size ≤ gb200)); have n3_ := Aside0.mk ((by rw [hg]; exact (below_size pb) : w.heap.size ≤ gb200)); clear HB; have HB := n0_; have BK200 := n1_; have GW200 := n2_; have GE200 := n3_; clear n0_ n1_ n2_ n3_; clear hb hbox hg; have hcz19_0 : w18.cell? ⟨gb200, 0, none⟩ = some (.slice A0_0 l0_0.length c0_0) := (blk_cell BK200.out 0).trans rfl; have hcz19_1 : w18.cell? ⟨gb200, 1, none⟩ = some (.int .i64 a0_1) := (blk_cell BK200.out 1).trans rfl; have hcz19_2 : w18.cell? ⟨gb200, 2, none⟩ = some (.bool a0_2) := (blk_cell BK200.out 2).trans rfl; have hcz19_3 : w18.cell? ⟨gb200, 3, none⟩ = some (.int .i64 a0_3) := (blk_cell BK200.out 3).trans rfl; have hcz19_4 : w18.cell? ⟨gb200, 4, none⟩ = some (.slice A0_4 l0_4.length c0_4) := (blk_cell BK200.out 4).trans rfl; have hfz19_0 := blk_frozen BK200.out 0; have hfz19_1 := blk_frozen BK200.out 1; have hfz19_2 := blk_frozen BK200.out 2; have hfz19_3 := blk_frozen BK200.out 3; have hfz19_4 := blk_frozen BK200.out 4))
              go_ret
              exact ⟨by first | rfl | (simp [errW_none, errW_some] <;> rfl) | (simp [*, errW_none, errW_some] <;> rfl), by repeat (first | (with_reducible first | exact HB.out | apply below_alloc | apply pw_below_drewN | apply below_drew1 | refine below_set ?_ GE200.out) | exact HB.out)⟩
            · rw [if_neg c17] at H
              have c17b0 : decide (4611686018427387904 < a0_3) = false := decide_eq_false c17
              clear c17
              by_cases c20 : (l0_4.length : Int) > 2048
              · rw [if_pos c20] at H
                have c20b0 : decide (2048 < (l0_4.length : Int)) = true := decide_eq_true c20
                have c20b1 : decide (2048 < l0_4.length) = true := decide_eq_true (by omega)
                clear c20
                obtain rfl := Option.some.inj H
                go_enter Try.func25, Try.ntmps25
                go_wp2_with (first | ((with_reducible refine gate_dst (N := 1) rfl ?_); (try (refine gate_guard (by rfl) ?_; dsimp only)); refine box_event ?hg (N := 1) ?hd (cs := #[.slice A0_0 l0_0.length c0_0, .int .i64 a0_1, .bool a0_2, .int .i64 a0_3, .slice A0_4 l0_4.length c0_4]) (t := 35) ?hr ?_; (case hd => rfl); (case hg => rfl); (case hr => first | (go_simp; done) | (go_simp; rfl)); intro gb200 hg w21 hbox hb; have n0_ := Aside0.mk (below_step pb hb); have n1_ := Aside0.mk (hbox); have n2_ := Aside0.mk ((by rw [hg]; exact (below_size pb) : w.heap.size ≤ gb200)); have n3_ := Aside0.mk ((by rw [hg]; exact (below_size pb) : w.heap.size ≤ gb200)); clear HB; have HB := n0_; have BK200 := n1_; have GW200 := n2_; have GE200 := n3_; clear n0_ n1_ n2_ n3_; clear hb hbox hg; have hcz22_0 : w21.cell? ⟨gb200, 0, none⟩ = some (.slice A0_0 l0_0.length c0_0) := (blk_cell BK200.out 0).trans rfl; have hcz22_1 : w21.cell? ⟨gb200, 1, none⟩ = some (.int .i64 a0_1) := (blk_cell BK200.out 1).trans rfl; have hcz22_2 : w21.cell? ⟨gb200, 2, none⟩ = some (.bool a0_2) := (blk_cell BK200.out 2).trans rfl; have hcz22_3 : w21.cell? ⟨gb200, 3, none⟩ = some (.int .i64 a0_3) := (blk_cell BK200.out 3).trans rfl; have hcz22_4 : w21.cell? ⟨gb200, 4, none⟩ = some (.slice A0_4 l0_4.length c0_4) := (blk_cell BK200.out 4).trans rfl; have hfz22_0 := blk_frozen BK200.out 0; have hfz22_1 := blk_frozen BK200.out 1; have hfz22_2 := blk_frozen BK200.out 2; have hfz22_3 := blk_frozen BK200.out 3; have hfz22_4 := blk_frozen BK200.out 4))
                go_ret
                exact ⟨by first | rfl | (simp [errW_none, errW_some] <;> rfl) | (simp [*, errW_none, errW_some] <;> rfl), by repeat (first | (with_reducible first | exact HB.out | apply below_alloc | apply pw_below_drewN | apply below_drew1 | refine below_set ?_ GE200.out) | exact HB.out)⟩
              · rw [if_neg c20] at H
                have c20b0 : decide (2048 < (l0_4.length : Int)) = false := decide_eq_false c20
                have c20b1 : decide (2048 < l0_4.length) = false := decide_eq_false (by omega)
                clear c20
                by_cases c23 : a0_2 = true
                · subst c23
                  have H1 : (if a0_3 = 0 then (some ((l0_4.length : Int) == 0)) else (some false)) = some r := by rw [if_pos rfl] at H; exact H
                  clear H
                  have H := H1
                  clear H1
                  by_cases c24 : a0_3 = 0
                  · rw [if_pos c24] at H
                    have c24b0 : (a0_3 == 0) = true := beq_iff_eq.mpr c24
                    have c24b1 : (a0_3 != 0) = false := bne_eq_false_iff_eq.mpr c24
                    clear c24
                    obtain rfl := Option.some.inj H
                    go_enter Try.func25, Try.ntmps25
                    go_wp2_with (first | ((with_reducible refine gate_dst (N := 1) rfl ?_); (try (refine gate_guard (by rfl) ?_; dsimp only)); refine box_event ?hg (N := 1) ?hd (cs := #[.slice A0_0 l0_0.length c0_0, .int .i64 a0_1, .bool true, .int .i64 a0_3, .slice A0_4 l0_4.length c0_4]) (t := 35) ?hr ?_; (case hd => rfl); (case hg => rfl); (case hr => first | (go_simp; done) | (go_simp; rfl)); intro gb200 hg w25 hbox hb; have n0_ := Aside0.mk (below_step pb hb); have n1_ := Aside0.mk (hbox); have n2_ := Aside0.mk ((by rw [hg]; exact (below_size pb) : w.heap.size ≤ gb200)); have n3_ := Aside0.mk ((by rw [hg]; exact (below_size pb) : w.heap.size ≤ gb200)); clear HB; have HB := n0_; have BK200 := n1_; have GW200 := n2_; have GE200 := n3_; clear n0_ n1_ n2_ n3_; clear hb hbox hg; have hcz26_0 : w25.cell? ⟨gb200, 0, none⟩ = some (.slice A0_0 l0_0.length c0_0) := (blk_cell BK200.out 0).trans rfl; have hcz26_1 : w25.cell? ⟨gb200, 1, none⟩ = some (.int .i64 a0_1) := (blk_cell BK200.out 1).trans rfl; have hcz26_2 : w25.cell? ⟨gb200, 2, none⟩ = some (.bool true) := (blk_cell BK200.out 2).trans rfl; have hcz26_3 : w25.cell? ⟨gb200, 3, none⟩ = some (.int .i64 a0_3) := (blk_cell BK200.out 3).trans rfl; have hcz26_4 : w25.cell? ⟨gb200, 4, none⟩ = some (.slice A0_4 l0_4.length c0_4) := (blk_cell BK200.out 4).trans rfl; have hfz26_0 := blk_frozen BK200.out 0; have hfz26_1 := blk_frozen BK200.out 1; have hfz26_2 := blk_frozen BK200.out 2; have hfz26_3 := blk_frozen BK200.out 3; have hfz26_4 := blk_frozen BK200.out 4))
                    go_ret
                    exact ⟨by first | rfl | (simp [errW_none, errW_some] <;> rfl) | (simp [*, errW_none, errW_some] <;> rfl), by repeat (first | (with_reducible first | exact HB.out | apply below_alloc | apply pw_below_drewN | apply below_drew1 | refine below_set ?_ GE200.out) | exact HB.out)⟩
                  · rw [if_neg c24] at H
                    have c24b0 : (a0_3 == 0) = false := beq_eq_false_iff_ne.mpr c24
                    have c24b1 : (a0_3 != 0) = true := bne_iff_ne.mpr c24
                    obtain rfl := Option.some.inj H
                    go_enter Try.func25, Try.ntmps25
                    go_wp2_with (first | ((with_reducible refine gate_dst (N := 1) rfl ?_); (try (refine gate_guard (by rfl) ?_; dsimp only)); refine box_event ?hg (N := 1) ?hd (cs := #[.slice A0_0 l0_0.length c0_0, .int .i64 a0_1, .bool true, .int .i64 a0_3, .slice A0_4 l0_4.length c0_4]) (t := 35) ?hr ?_; (case hd => rfl); (case hg => rfl); (case hr => first | (go_simp; done) | (go_simp; rfl)); intro gb200 hg w27 hbox hb; have n0_ := Aside0.mk (below_step pb hb); have n1_ := Aside0.mk (hbox); have n2_ := Aside0.mk ((by rw [hg]; exact (below_size pb) : w.heap.size ≤ gb200)); have n3_ := Aside0.mk ((by rw [hg]; exact (below_size pb) : w.heap.size ≤ gb200)); clear HB; have HB := n0_; have BK200 := n1_; have GW200 := n2_; have GE200 := n3_; clear n0_ n1_ n2_ n3_; clear hb hbox hg; have hcz28_0 : w27.cell? ⟨gb200, 0, none⟩ = some (.slice A0_0 l0_0.length c0_0) := (blk_cell BK200.out 0).trans rfl; have hcz28_1 : w27.cell? ⟨gb200, 1, none⟩ = some (.int .i64 a0_1) := (blk_cell BK200.out 1).trans rfl; have hcz28_2 : w27.cell? ⟨gb200, 2, none⟩ = some (.bool true) := (blk_cell BK200.out 2).trans rfl; have hcz28_3 : w27.cell? ⟨gb200, 3, none⟩ = some (.int .i64 a0_3) := (blk_cell BK200.out 3).trans rfl; have hcz28_4 : w27.cell? ⟨gb200, 4, none⟩ = some (.slice A0_4 l0_4.length c0_4) := (blk_cell BK200.out 4).trans rfl; have hfz28_0 := blk_frozen BK200.out 0; have hfz28_1 := blk_frozen BK200.out 1; have hfz28_2 := blk_frozen BK200.out 2; have hfz28_3 := blk_frozen BK200.out 3; have hfz28_4 := blk_frozen BK200.out 4))
                    go_ret
                    exact ⟨by first | rfl | (simp [errW_none, errW_some] <;> rfl) | (simp [*, errW_none, errW_some] <;> rfl), by repeat (first | (with_reducible first | exact HB.out | apply below_alloc | apply pw_below_drewN | apply below_drew1 | refine below_set ?_ GE200.out) | exact HB.out)⟩
                · replace c23 := Bool.eq_false_iff.mpr c23
                  subst c23
                  have H1 : (some true) = some r := by rw [if_neg (show ¬ (false = true) by decide)] at H; exact H
                  clear H
                  have H := H1
                  clear H1
                  obtain rfl := Option.some.inj H
                  go_enter Try.func25, Try.ntmps25
                  go_wp2_with (first | ((with_reducible refine gate_dst (N := 1) rfl ?_); (try (refine gate_guard (by rfl) ?_; dsimp only)); refine box_event ?hg (N := 1) ?hd (cs := #[.slice A0_0 l0_0.length c0_0, .int .i64 a0_1, .bool false, .int .i64 a0_3, .slice A0_4 l0_4.length c0_4]) (t := 35) ?hr ?_; (case hd => rfl); (case hg => rfl); (case hr => first | (go_simp; done) | (go_simp; rfl)); intro gb200 hg w29 hbox hb; have n0_ := Aside0.mk (below_step pb hb); have n1_ := Aside0.mk (hbox); have n2_ := Aside0.mk ((by rw [hg]; exact (below_size pb) : w.heap.size ≤ gb200)); have n3_ := Aside0.mk ((by rw [hg]; exact (below_size pb) : w.heap.size ≤ gb200)); clear HB; have HB := n0_; have BK200 := n1_; have GW200 := n2_; have GE200 := n3_; clear n0_ n1_ n2_ n3_; clear hb hbox hg; have hcz30_0 : w29.cell? ⟨gb200, 0, none⟩ = some (.slice A0_0 l0_0.length c0_0) := (blk_cell BK200.out 0).trans rfl; have hcz30_1 : w29.cell? ⟨gb200, 1, none⟩ = some (.int .i64 a0_1) := (blk_cell BK200.out 1).trans rfl; have hcz30_2 : w29.cell? ⟨gb200, 2, none⟩ = some (.bool false) := (blk_cell BK200.out 2).trans rfl; have hcz30_3 : w29.cell? ⟨gb200, 3, none⟩ = some (.int .i64 a0_3) := (blk_cell BK200.out 3).trans rfl; have hcz30_4 : w29.cell? ⟨gb200, 4, none⟩ = some (.slice A0_4 l0_4.length c0_4) := (blk_cell BK200.out 4).trans rfl; have hfz30_0 := blk_frozen BK200.out 0; have hfz30_1 := blk_frozen BK200.out 1; have hfz30_2 := blk_frozen BK200.out 2; have hfz30_3 := blk_frozen BK200.out 3; have hfz30_4 := blk_frozen BK200.out 4))
                  go_ret
                  exact ⟨by first | rfl | (simp [errW_none, errW_some] <;> rfl) | (simp [*, errW_none, errW_some] <;> rfl), by repeat (first | (with_reducible first | exact HB.out | apply below_alloc | apply pw_below_drewN | apply below_drew1 | refine below_set ?_ GE200.out) | exact HB.out)⟩

end Go.Proofs.Ytnepbpcpfeejkaa.K
