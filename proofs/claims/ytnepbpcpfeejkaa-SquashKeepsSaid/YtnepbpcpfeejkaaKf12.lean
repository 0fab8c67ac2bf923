-- Printed by the prover's own turned printer (wip/printer in the prover's repo); Lean checks it.
import Derived.Test.YtnepbpcpfeejkaaK0
import Derived.Test.YtnepbpcpfeejkaaKf23
namespace Go.Proofs.Ytnepbpcpfeejkaa.K
open Go.RowKit Go.Proofs.YtnepbpcpfeejkaaW.PrintWords Go.Proofs.YtnepbpcpfeejkaaW.PrintLast Go.Proofs.YtnepbpcpfeejkaaW.PrintMore
attribute [local go_sem] max2_int min2_int max_two min_two max_three min_three max_four min_four   -- for this text's walks alone
set_option linter.unusedVariables false
set_option linter.unusedSimpArgs false

/-! ### halyardref9_Ordered: function 12 -/
def halyardref9_Ordered.l0 : Nat → List (S35) → Int → Option (Bool)
  | 0, _, _ => none
  | k + 1, x0, x3 => if x3 < (x0.length : Int) then (if 0 ≤ (wrap64 (x3 - 1)) then (if (wrap64 (x3 - 1)) < (x0.length : Int) then (if 0 ≤ x3 then ((halyardref9_Ahead.f ((rd_T35 x0 (wrap64 (x3 - 1))).f0) ((rd_T35 x0 (wrap64 (x3 - 1))).f1) ((rd_T35 x0 (wrap64 (x3 - 1))).f2) ((rd_T35 x0 (wrap64 (x3 - 1))).f3) ((rd_T35 x0 (wrap64 (x3 - 1))).f4) ((rd_T35 x0 x3).f0) ((rd_T35 x0 x3).f1) ((rd_T35 x0 x3).f2) ((rd_T35 x0 x3).f3) ((rd_T35 x0 x3).f4)).bind fun t182 => (if t182 ≥ 0 then (some false) else (halyardref9_Ordered.l0 k x0 (wrap64 (x3 + 1))))) else (none)) else (none)) else (none)) else (some true)
def halyardref9_Ordered.f (k : Nat) (l0 : List (S35)) : Option (Bool) := halyardref9_Ordered.l0 k l0 1
theorem halyardref9_Ordered.mono_l : ∀ k, (∀ y0 y1, LeO (halyardref9_Ordered.l0 k y0 y1) (halyardref9_Ordered.l0 (k + 1) y0 y1))
  | 0 => fun _ _ r h => by simp [halyardref9_Ordered.l0] at h
  | k + 1 => by
    have ih0 := halyardref9_Ordered.mono_l k
    · intro y0 y1
      unfold halyardref9_Ordered.l0
      repeat' first
      | (with_reducible exact ih0 _ _)
      | (with_reducible exact LeO.refl _)
      | (with_reducible exact LeO.none _)
      | (with_reducible refine LeO.ite ?_ ?_)
      | (with_reducible refine LeO.bind ?_ (fun _ => ?_))
      | exact ih0 _ _
      | exact LeO.none _
      | refine LeO.ite ?_ ?_
      | refine LeO.bind ?_ (fun _ => ?_)
theorem halyardref9_Ordered.mono : ∀ a0 k, LeO (halyardref9_Ordered.f k a0) (halyardref9_Ordered.f (k + 1) a0) := by
  intro a0 k
  have ih0 := halyardref9_Ordered.mono_l k
  unfold halyardref9_Ordered.f
  repeat' first
      | (with_reducible exact ih0 _ _)
      | (with_reducible exact LeO.refl _)
      | (with_reducible exact LeO.none _)
      | (with_reducible refine LeO.ite ?_ ?_)
      | (with_reducible refine LeO.bind ?_ (fun _ => ?_))
      | exact ih0 _ _
      | exact LeO.none _
      | refine LeO.ite ?_ ?_
      | refine LeO.bind ?_ (fun _ => ?_)
def halyardref9_Ordered.T4 : Bool × List (List Nat × List Nat) := (true, [([], []), ([], []), ([1], [1]), ([0, 2], [0, 2]), ([3], [3]), ([], []), ([], []), ([5, 6], [5, 6]), ([7], [7]), ([4, 8], [4, 8]), ([9], [9])])
def halyardref9_Ordered.B4 : List Nat := [0, 0, 2, 7, 15, 0, 0, 96, 224, 511, 1023]
theorem halyardref9_Ordered.tab4 : rtab .any (opsOf Try.f12 4) = halyardref9_Ordered.T4 := by kernel_rfl
theorem halyardref9_Ordered.bits4 : waitsOk halyardref9_Ordered.T4.2 halyardref9_Ordered.B4 = true := by kernel_rfl
set_option maxHeartbeats 8000000 in
set_option maxRecDepth 100000 in
theorem halyardref9_Ordered.calls (k : Nat) (A0 : Option Addr) (c0 : Nat) (l0 : List (S35)) (r : Bool) (w : World) (hr0 : Kd.C k35 w A0 l0.length l0) (hc0 : l0.length ≤ c0) (h : halyardref9_Ordered.f k l0 = some r) :
    Calls Try.prog 12 #[.slice A0 l0.length c0] w fun e w' => e = .returned (.bool r) ∧ Below w.heap.size w w' := by
  have hu35 := Try.underlying35
  have HR0 := Aside0.mk hr0
  have HC0 := Aside0.mk hc0
  clear hr0 hc0
  have HB := Aside0.mk (Below.refl w.heap.size w)
  have H : (halyardref9_Ordered.l0 k l0 1) = some r := h
  clear h
  have H' := Aside0.mk H
  clear H
  go_enter Try.func12, Try.ntmps12
  go_wp2
  go_loopg [3] k (fun kq v3 w' => ∃ (x3_1 : Int), v3 = .int .i64 x3_1 ∧ Aside0 (halyardref9_Ordered.l0 kq l0 x3_1 = some r) ∧ Aside0 (kq ≤ k) ∧ Aside0 (Below w.heap.size w w'))
  case atStart => exact ⟨(1), (by first | rfl | (simp; done) | (simp [*]; done)), H', ⟨Nat.le_refl _⟩, ⟨pb⟩⟩
  case round =>
    clear H'
    try clear c1
    obtain ⟨x3_1, rfl, HA, HK1, HB⟩ := hrel
    cases gk with
    | zero => exact absurd HA.out (by simp [halyardref9_Ordered.l0])
    | succ k1 =>
      have H := HA.out
      clear HA
      simp only [halyardref9_Ordered.l0] at H
      by_cases c2 : x3_1 < (l0.length : Int)
      · rw [if_pos c2] at H
        have c2b0 : decide (x3_1 < (l0.length : Int)) = true := decide_eq_true c2
        clear c2
        obtain ⟨ji3, hji3⟩ : ∃ j_ : Int, (wrap64 (x3_1 - 1)) = j_ := ⟨_, rfl⟩
        replace H : (if 0 ≤ (ji3) then (if (ji3) < (l0.length : Int) then (if 0 ≤ x3_1 then ((halyardref9_Ahead.f ((rd_T35 l0 (ji3)).f0) ((rd_T35 l0 (ji3)).f1) ((rd_T35 l0 (ji3)).f2) ((rd_T35 l0 (ji3)).f3) ((rd_T35 l0 (ji3)).f4) ((rd_T35 l0 x3_1).f0) ((rd_T35 l0 x3_1).f1) ((rd_T35 l0 x3_1).f2) ((rd_T35 l0 x3_1).f3) ((rd_T35 l0 x3_1).f4)).bind fun t182 => (if t182 ≥ 0 then (some false) else (halyardref9_Ordered.l0 k1 l0 (wrap64 (x3_1 + 1))))) else (none)) else (none)) else (none)) = some r := by first | (rw [hji3] at H; exact H) | (simp only [hji3] at H ⊢; exact H)
        have hji3w : (IntKind.i64.wrap (x3_1 - 1)) = ji3 := (i64_w _).trans hji3
        by_cases c4 : 0 ≤ (ji3)
        · rw [if_pos c4] at H
          have c4b0 : decide (0 ≤ (ji3)) = true := decide_eq_true c4
          clear c4
          by_cases c5 : (ji3) < (l0.length : Int)
          · rw [if_pos c5] at H
            have c5b0 : decide ((ji3) < (l0.length : Int)) = true := decide_eq_true c5
            clear c5
            by_cases c6 : 0 ≤ x3_1
            · rw [if_pos c6] at H
              have c6b0 : decide (0 ≤ x3_1) = true := decide_eq_true c6
              clear c6
              replace H := Option.bind_eq_some_iff.mp H
              obtain ⟨t182, A70, H⟩ := H
              replace H : (if t182 ≥ 0 then (some false) else (halyardref9_Ordered.l0 k1 l0 (wrap64 (x3_1 + 1)))) = some r := H
              have A7 := Aside0.mk A70
              clear A70
              by_cases c8 : t182 ≥ 0
              · rw [if_pos c8] at H
                have c8b0 : decide (0 ≤ t182) = true := decide_eq_true c8
                clear c8
                obtain rfl := Option.some.inj H
                try go_wp2
                have n0_ := Aside0.mk (below_drew1 HB.out)
                clear HB
                have HB := n0_
                clear n0_
                have p180 : 0 ≤ ((ji3) : Int) := pa
                have q180 : (ji3) < (l0.length : Int) := pa
                obtain ⟨ad180, A180_0, c180_0, A180_4, c180_4, e180, hx180_0, hx180_1, hx180_2, hx180_3, hx180_4, hl180_0, hi180_0, hl180_4, hi180_4⟩ := at_T35 HR0.out (ji3) p180 q180
                have hw180_4 := hx180_4
                have hw180_3 := hx180_3
                have hw180_2 := hx180_2
                have hw180_1 := hx180_1
                have hw180_0 := hx180_0
                cases e180
                replace hx180_0 := (HB.out.cell (World.block_lt_of_cell? w _ hx180_0)).trans hx180_0
                replace hx180_1 := (HB.out.cell (World.block_lt_of_cell? w _ hx180_1)).trans hx180_1
                replace hx180_2 := (HB.out.cell (World.block_lt_of_cell? w _ hx180_2)).trans hx180_2
                replace hx180_3 := (HB.out.cell (World.block_lt_of_cell? w _ hx180_3)).trans hx180_3
                replace hx180_4 := (HB.out.cell (World.block_lt_of_cell? w _ hx180_4)).trans hx180_4
                have HR180_0 := Aside0.mk hi180_0
                have HC180_0 := Aside0.mk hl180_0
                clear hi180_0 hl180_0
                have HR180_4 := Aside0.mk hi180_4
                have HC180_4 := Aside0.mk hl180_4
                clear hi180_4 hl180_4
                replace p180 := eq_true p180
                replace q180 := eq_true q180
                have p181 : 0 ≤ (x3_1 : Int) := pa
                have q181 : x3_1 < (l0.length : Int) := pa
                obtain ⟨ad181, A181_0, c181_0, A181_4, c181_4, e181, hx181_0, hx181_1, hx181_2, hx181_3, hx181_4, hl181_0, hi181_0, hl181_4, hi181_4⟩ := at_T35 HR0.out x3_1 p181 q181
                have hw181_4 := hx181_4
                have hw181_3 := hx181_3
                have hw181_2 := hx181_2
                have hw181_1 := hx181_1
                have hw181_0 := hx181_0
                obtain rfl : ad180 = ad181 := (by injection e181)
                replace hx181_0 := (HB.out.cell (World.block_lt_of_cell? w _ hx181_0)).trans hx181_0
                replace hx181_1 := (HB.out.cell (World.block_lt_of_cell? w _ hx181_1)).trans hx181_1
                replace hx181_2 := (HB.out.cell (World.block_lt_of_cell? w _ hx181_2)).trans hx181_2
                replace hx181_3 := (HB.out.cell (World.block_lt_of_cell? w _ hx181_3)).trans hx181_3
                replace hx181_4 := (HB.out.cell (World.block_lt_of_cell? w _ hx181_4)).trans hx181_4
                have HR181_0 := Aside0.mk hi181_0
                have HC181_0 := Aside0.mk hl181_0
                clear hi181_0 hl181_0
                have HR181_4 := Aside0.mk hi181_4
                have HC181_4 := Aside0.mk hl181_4
                clear hi181_4 hl181_4
                replace p181 := eq_true p181
                replace q181 := eq_true q181
                refine start_ (n := 11) (S := fun w' => w'.cell? (ad180.add (((ji3)).toNat * 5)) = some (.slice A180_0 ((rd_T35 l0 (ji3)).f0).length c180_0) ∧ w'.cell? ⟨(ad180.add (((ji3)).toNat * 5)).block, (ad180.add (((ji3)).toNat * 5)).off + 1, none⟩ = some (.int .i64 ((rd_T35 l0 (ji3)).f1)) ∧ w'.cell? ⟨(ad180.add (((ji3)).toNat * 5)).block, (ad180.add (((ji3)).toNat * 5)).off + 2, none⟩ = some (.bool ((rd_T35 l0 (ji3)).f2)) ∧ w'.cell? ⟨(ad180.add (((ji3)).toNat * 5)).block, (ad180.add (((ji3)).toNat * 5)).off + 3, none⟩ = some (.int .i64 ((rd_T35 l0 (ji3)).f3)) ∧ w'.cell? ⟨(ad180.add (((ji3)).toNat * 5)).block, (ad180.add (((ji3)).toNat * 5)).off + 4, none⟩ = some (.slice A180_4 ((rd_T35 l0 (ji3)).f4).length c180_4) ∧ w'.cell? (ad180.add ((x3_1).toNat * 5)) = some (.slice A181_0 ((rd_T35 l0 x3_1).f0).length c181_0) ∧ w'.cell? ⟨(ad180.add ((x3_1).toNat * 5)).block, (ad180.add ((x3_1).toNat * 5)).off + 1, none⟩ = some (.int .i64 ((rd_T35 l0 x3_1).f1)) ∧ w'.cell? ⟨(ad180.add ((x3_1).toNat * 5)).block, (ad180.add ((x3_1).toNat * 5)).off + 2, none⟩ = some (.bool ((rd_T35 l0 x3_1).f2)) ∧ w'.cell? ⟨(ad180.add ((x3_1).toNat * 5)).block, (ad180.add ((x3_1).toNat * 5)).off + 3, none⟩ = some (.int .i64 ((rd_T35 l0 x3_1).f3)) ∧ w'.cell? ⟨(ad180.add ((x3_1).toNat * 5)).block, (ad180.add ((x3_1).toNat * 5)).off + 4, none⟩ = some (.slice A181_4 ((rd_T35 l0 x3_1).f4).length c181_4)) (ds := []) #[false, false, false, false, false, false, false, false, false, false, false] (by kernel_rfl) rfl rfl ⟨((HB.out.cell (World.block_lt_of_cell? w _ hw180_0)).trans hw180_0), ((HB.out.cell (World.block_lt_of_cell? w _ hw180_1)).trans hw180_1), ((HB.out.cell (World.block_lt_of_cell? w _ hw180_2)).trans hw180_2), ((HB.out.cell (World.block_lt_of_cell? w _ hw180_3)).trans hw180_3), ((HB.out.cell (World.block_lt_of_cell? w _ hw180_4)).trans hw180_4), ((HB.out.cell (World.block_lt_of_cell? w _ hw181_0)).trans hw181_0), ((HB.out.cell (World.block_lt_of_cell? w _ hw181_1)).trans hw181_1), ((HB.out.cell (World.block_lt_of_cell? w _ hw181_2)).trans hw181_2), ((HB.out.cell (World.block_lt_of_cell? w _ hw181_3)).trans hw181_3), ((HB.out.cell (World.block_lt_of_cell? w _ hw181_4)).trans hw181_4)⟩ (fun hHeld => ?_); refine with_tabW halyardref9_Ordered.tab4 halyardref9_Ordered.bits4 (fun HT_ HW_ => ?_)
                generalize wr.drew = w9 at HB HR180_0 HR180_4 HR181_0 HR181_4 hx180_0 hx180_1 hx180_2 hx180_3 hx180_4 hx181_0 hx181_1 hx181_2 hx181_3 hx181_4 hHeld ⊢
                refine pure_ (i := 0) (N := some 10) (v := ?_) (a' := ?_) #[true, false, false, false, false, false, false, false, false, false, false] rfl rfl (any_of HT_.out (by kernel_rfl)) (fun _ _ _ h => h) (Or.inl ⟨by rfl, ?_⟩) ?_ ?_
                rotate_left
                · intro w'
                  go_simp
                  with_reducible rfl
                rotate_left
                · simp only [Act.put, List.setIfInBounds_toArray, List.set_cons_zero, List.set_cons_succ, i64_w, i32_w]
                  rfl
                refine pure_ (i := 1) (N := some 11) (v := ?_) (a' := ?_) #[true, true, false, false, false, false, false, false, false, false, false] rfl rfl (any_of HT_.out (by kernel_rfl)) (fun _ _ _ h => h) (Or.inl ⟨by rfl, ?_⟩) ?_ ?_
                rotate_left
                · intro w'
                  go_simp
                  with_reducible rfl
                rotate_left
                · simp only [Act.put, List.setIfInBounds_toArray, List.set_cons_zero, List.set_cons_succ, i64_w, i32_w]
                  rfl
                refine pure_ (i := 2) (N := some 12) (v := ?_) (a' := ?_) #[true, true, true, false, false, false, false, false, false, false, false] rfl rfl (any_of HT_.out (by kernel_rfl)) (fun _ _ _ h => h) (Or.inl ⟨by rfl, ?_⟩) ?_ ?_
                rotate_left
                · intro w'
                  go_simp
                  with_reducible rfl
                rotate_left
                · simp only [Act.put, List.setIfInBounds_toArray, List.set_cons_zero, List.set_cons_succ, i64_w, i32_w]
                  rfl
                refine pure_ (i := 3) (N := some 13) (v := ?_) (a' := ?_) #[true, true, true, true, false, false, false, false, false, false, false] rfl rfl (any_of HT_.out (by kernel_rfl)) (fun _ _ _ h => h) (Or.inl ⟨by rfl, ?_⟩) ?_ ?_
                rotate_left
                · intro w'
                  go_simp
                  with_reducible rfl
                rotate_left
                · simp only [Act.put, List.setIfInBounds_toArray, List.set_cons_zero, List.set_cons_succ, i64_w, i32_w]
                  rfl
                refine pure_ (i := 5) (N := some 15) (v := ?_) (a' := ?_) #[true, true, true, true, false, true, false, false, false, false, false] rfl rfl (any_of HT_.out (by kernel_rfl)) (fun _ _ _ h => h) (Or.inl ⟨by rfl, ?_⟩) ?_ ?_
                rotate_left
                · intro w'
                  go_simp
                  with_reducible rfl
                rotate_left
                · simp only [Act.put, List.setIfInBounds_toArray, List.set_cons_zero, List.set_cons_succ, i64_w, i32_w]
                  rfl
                refine pure_ (i := 6) (N := some 16) (v := ?_) (a' := ?_) #[true, true, true, true, false, true, true, false, false, false, false] rfl rfl (any_of HT_.out (by kernel_rfl)) (fun _ _ _ h => h) (Or.inl ⟨by rfl, ?_⟩) ?_ ?_
                rotate_left
                · intro w'
                  go_simp
                  with_reducible rfl
                rotate_left
                · simp only [Act.put, List.setIfInBounds_toArray, List.set_cons_zero, List.set_cons_succ, i64_w, i32_w]
                  rfl
                refine pure_ (i := 7) (N := some 17) (v := ?_) (a' := ?_) #[true, true, true, true, false, true, true, true, false, false, false] rfl rfl (any_of HT_.out (by kernel_rfl)) (fun _ _ _ h => h) (Or.inl ⟨by rfl, ?_⟩) ?_ ?_
                rotate_left
                · intro w'
                  go_simp
                  with_reducible rfl
                rotate_left
                · simp only [Act.put, List.setIfInBounds_toArray, List.set_cons_zero, List.set_cons_succ, i64_w, i32_w]
                  rfl
                refine take_ (i := 4) (N := some 14) (v := ?_) (a' := ?_) #[true, true, true, true, true, true, true, true, false, false, false] rfl rfl (take_ofW HT_.out HW_.out (by kernel_rfl)) (fun _ _ _ h => h) (Or.inl ⟨by rfl, ?_⟩) hHeld ?_ ?_
                rotate_left
                · rintro w' ⟨s0, s1, s2, s3, s4, s5, s6, s7, s8, s9⟩
                  go_simp
                  with_reducible rfl
                rotate_left
                · simp only [Act.put, List.setIfInBounds_toArray, List.set_cons_zero, List.set_cons_succ, i64_w, i32_w]
                  rfl
                refine take_ (i := 8) (N := some 18) (v := ?_) (a' := ?_) #[true, true, true, true, true, true, true, true, true, false, false] rfl rfl (take_ofW HT_.out HW_.out (by kernel_rfl)) (fun _ _ _ h => h) (Or.inl ⟨by rfl, ?_⟩) hHeld ?_ ?_
                rotate_left
                · rintro w' ⟨s0, s1, s2, s3, s4, s5, s6, s7, s8, s9⟩
                  go_simp
                  with_reducible rfl
                rotate_left
                · simp only [Act.put, List.setIfInBounds_toArray, List.set_cons_zero, List.set_cons_succ, i64_w, i32_w]
                  rfl
                refine one_ (i := 9) (N := some 19) #[true, true, true, true, true, true, true, true, true, true, false] rfl rfl (one_of HT_.out (by kernel_rfl)) (by decide) (fun K hK => ?_)
                refine goes_ Try.func23 (by kernel_rfl) rfl #[.agg #[.slice A180_0 ((rd_T35 l0 (ji3)).f0).length c180_0, .int .i64 ((rd_T35 l0 (ji3)).f1), .bool ((rd_T35 l0 (ji3)).f2), .int .i64 ((rd_T35 l0 (ji3)).f3), .slice A180_4 ((rd_T35 l0 (ji3)).f4).length c180_4], .agg #[.slice A181_0 ((rd_T35 l0 x3_1).f0).length c181_0, .int .i64 ((rd_T35 l0 x3_1).f1), .bool ((rd_T35 l0 x3_1).f2), .int .i64 ((rd_T35 l0 x3_1).f3), .slice A181_4 ((rd_T35 l0 x3_1).f4).length c181_4]] (by rfl) rfl rfl (by (try simp only [List.map_toArray, List.map_cons, List.map_nil]); first | done | (simp only [hji3]; rfl) | rfl | (simp only [List.length_drop, List.length_take]; rfl)) ?_
                with_reducible refine (halyardref9_Ahead.calls _ _ ((rd_T35 l0 (ji3)).f0) ((rd_T35 l0 (ji3)).f1) ((rd_T35 l0 (ji3)).f2) ((rd_T35 l0 (ji3)).f3) _ _ ((rd_T35 l0 (ji3)).f4) _ _ ((rd_T35 l0 x3_1).f0) ((rd_T35 l0 x3_1).f1) ((rd_T35 l0 x3_1).f2) ((rd_T35 l0 x3_1).f3) _ _ ((rd_T35 l0 x3_1).f4) t182 _ ?side1 ?side2 ?side3 ?side4 ?side5 ?side6 ?side7 ?side8 A7.out).mono ?_
                (case side1 => repeat (first | exact (Kd.C_below HR180_0.out HB.out) | (with_reducible refine Kd.C_alloc ?_ _) | (with_reducible refine Kd.C_drewN ?_ _) | (with_reducible refine Kd.C_drew ?_)))
                (case side2 => exact HC180_0.out)
                (case side3 => repeat (first | exact (Kd.C_below HR180_4.out HB.out) | (with_reducible refine Kd.C_alloc ?_ _) | (with_reducible refine Kd.C_drewN ?_ _) | (with_reducible refine Kd.C_drew ?_)))
                (case side4 => exact HC180_4.out)
                (case side5 => repeat (first | exact (Kd.C_below HR181_0.out HB.out) | (with_reducible refine Kd.C_alloc ?_ _) | (with_reducible refine Kd.C_drewN ?_ _) | (with_reducible refine Kd.C_drew ?_)))
                (case side6 => exact HC181_0.out)
                (case side7 => repeat (first | exact (Kd.C_below HR181_4.out HB.out) | (with_reducible refine Kd.C_alloc ?_ _) | (with_reducible refine Kd.C_drewN ?_ _) | (with_reducible refine Kd.C_drew ?_)))
                (case side8 => exact HC181_4.out)
                rintro e w10 ⟨rfl, hb⟩
                refine ⟨_, rfl, ?_⟩
                have n0_ := Aside0.mk (below_step pb hb)
                clear HB
                have HB := n0_
                clear n0_
                (try clear hb)
                (try clear hb2)
                (try clear hk)
                (try clear hi)
                refine hK.out _ _ ⟨((HB.out.cell (World.block_lt_of_cell? w _ hw180_0)).trans hw180_0), ((HB.out.cell (World.block_lt_of_cell? w _ hw180_1)).trans hw180_1), ((HB.out.cell (World.block_lt_of_cell? w _ hw180_2)).trans hw180_2), ((HB.out.cell (World.block_lt_of_cell? w _ hw180_3)).trans hw180_3), ((HB.out.cell (World.block_lt_of_cell? w _ hw180_4)).trans hw180_4), ((HB.out.cell (World.block_lt_of_cell? w _ hw181_0)).trans hw181_0), ((HB.out.cell (World.block_lt_of_cell? w _ hw181_1)).trans hw181_1), ((HB.out.cell (World.block_lt_of_cell? w _ hw181_2)).trans hw181_2), ((HB.out.cell (World.block_lt_of_cell? w _ hw181_3)).trans hw181_3), ((HB.out.cell (World.block_lt_of_cell? w _ hw181_4)).trans hw181_4)⟩ (fun hHeld => ?_)
                clear hK K
                refine norm_ (a' := ?_) ?_ ?_
                rotate_left
                · show Act.put _ (some 19) _ = _
                  simp only [Act.put, List.setIfInBounds_toArray, List.set_cons_zero, List.set_cons_succ, i64_w, i32_w]
                  rfl
                refine pure_ (i := 10) (N := some 20) (v := ?_) (a' := ?_) #[true, true, true, true, true, true, true, true, true, true, true] rfl rfl (any_of HT_.out (by kernel_rfl)) (fun _ _ _ h => h) (Or.inl ⟨by rfl, ?_⟩) ?_ ?_
                rotate_left
                · intro w'
                  go_simp
                  with_reducible rfl
                rotate_left
                · simp only [Act.put, List.setIfInBounds_toArray, List.set_cons_zero, List.set_cons_succ, i64_w, i32_w]
                  rfl
                refine done_ (done_of HT_.out (by kernel_rfl)) ?_
                try go_wp2
                go_ret
                exact ⟨by first | rfl | (simp [errW_none, errW_some] <;> rfl) | (simp only [← hji3]; first | rfl | (simp [errW_none, errW_some] <;> rfl)) | (simp [*, errW_none, errW_some] <;> rfl), pb⟩
              · rw [if_neg c8] at H
                have c8b0 : decide (0 ≤ t182) = false := decide_eq_false c8
                clear c8
                have H' := Aside0.mk H
                clear H
                try go_wp2
                have n0_ := Aside0.mk (below_drew1 HB.out)
                clear HB
                have HB := n0_
                clear n0_
                have p180 : 0 ≤ ((ji3) : Int) := pa
                have q180 : (ji3) < (l0.length : Int) := pa
                obtain ⟨ad180, A180_0, c180_0, A180_4, c180_4, e180, hx180_0, hx180_1, hx180_2, hx180_3, hx180_4, hl180_0, hi180_0, hl180_4, hi180_4⟩ := at_T35 HR0.out (ji3) p180 q180
                have hw180_4 := hx180_4
                have hw180_3 := hx180_3
                have hw180_2 := hx180_2
                have hw180_1 := hx180_1
                have hw180_0 := hx180_0
                cases e180
                replace hx180_0 := (HB.out.cell (World.block_lt_of_cell? w _ hx180_0)).trans hx180_0
                replace hx180_1 := (HB.out.cell (World.block_lt_of_cell? w _ hx180_1)).trans hx180_1
                replace hx180_2 := (HB.out.cell (World.block_lt_of_cell? w _ hx180_2)).trans hx180_2
                replace hx180_3 := (HB.out.cell (World.block_lt_of_cell? w _ hx180_3)).trans hx180_3
                replace hx180_4 := (HB.out.cell (World.block_lt_of_cell? w _ hx180_4)).trans hx180_4
                have HR180_0 := Aside0.mk hi180_0
                have HC180_0 := Aside0.mk hl180_0
                clear hi180_0 hl180_0
                have HR180_4 := Aside0.mk hi180_4
                have HC180_4 := Aside0.mk hl180_4
                clear hi180_4 hl180_4
                replace p180 := eq_true p180
                replace q180 := eq_true q180
                have p181 : 0 ≤ (x3_1 : Int) := pa
                have q181 : x3_1 < (l0.length : Int) := pa
                obtain ⟨ad181, A181_0, c181_0, A181_4, c181_4, e181, hx181_0, hx181_1, hx181_2, hx181_3, hx181_4, hl181_0, hi181_0, hl181_4, hi181_4⟩ := at_T35 HR0.out x3_1 p181 q181
                have hw181_4 := hx181_4
                have hw181_3 := hx181_3
                have hw181_2 := hx181_2
                have hw181_1 := hx181_1
                have hw181_0 := hx181_0
                obtain rfl : ad180 = ad181 := (by injection e181)
                replace hx181_0 := (HB.out.cell (World.block_lt_of_cell? w _ hx181_0)).trans hx181_0
                replace hx181_1 := (HB.out.cell (World.block_lt_of_cell? w _ hx181_1)).trans hx181_1
                replace hx181_2 := (HB.out.cell (World.block_lt_of_cell? w _ hx181_2)).trans hx181_2
                replace hx181_3 := (HB.out.cell (World.block_lt_of_cell? w _ hx181_3)).trans hx181_3
                replace hx181_4 := (HB.out.cell (World.block_lt_of_cell? w _ hx181_4)).trans hx181_4
                have HR181_0 := Aside0.mk hi181_0
                have HC181_0 := Aside0.mk hl181_0
                clear hi181_0 hl181_0
                have HR181_4 := Aside0.mk hi181_4
                have HC181_4 := Aside0.mk hl181_4
                clear hi181_4 hl181_4
                replace p181 := eq_true p181
                replace q181 := eq_true q181
                refine start_ (n := 11) (S := fun w' => w'.cell? (ad180.add (((ji3)).toNat * 5)) = some (.slice A180_0 ((rd_T35 l0 (ji3)).f0).length c180_0) ∧ w'.cell? ⟨(ad180.add (((ji3)).toNat * 5)).block, (ad180.add (((ji3)).toNat * 5)).off + 1, none⟩ = some (.int .i64 ((rd_T35 l0 (ji3)).f1)) ∧ w'.cell? ⟨(ad180.add (((ji3)).toNat * 5)).block, (ad180.add (((ji3)).toNat * 5)).off + 2, none⟩ = some (.bool ((rd_T35 l0 (ji3)).f2)) ∧ w'.cell? ⟨(ad180.add (((ji3)).toNat * 5)).block, (ad180.add (((ji3)).toNat * 5)).off + 3, none⟩ = some (.int .i64 ((rd_T35 l0 (ji3)).f3)) ∧ w'.cell? ⟨(ad180.add (((ji3)).toNat * 5)).block, (ad180.add (((ji3)).toNat * 5)).off + 4, none⟩ = some (.slice A180_4 ((rd_T35 l0 (ji3)).f4).length c180_4) ∧ w'.cell? (ad180.add ((x3_1).toNat * 5)) = some (.slice A181_0 ((rd_T35 l0 x3_1).f0).length c181_0) ∧ w'.cell? ⟨(ad180.add ((x3_1).toNat * 5)).block, (ad180.add ((x3_1).toNat * 5)).off + 1, none⟩ = some (.int .i64 ((rd_T35 l0 x3_1).f1)) ∧ w'.cell? ⟨(ad180.add ((x3_1).toNat * 5)).block, (ad180.add ((x3_1).toNat * 5)).off + 2, none⟩ = some (.bool ((rd_T35 l0 x3_1).f2)) ∧ w'.cell? ⟨(ad180.add ((x3_1).toNat * 5)).block, (ad180.add ((x3_1).toNat * 5)).off + 3, none⟩ = some (.int .i64 ((rd_T35 l0 x3_1).f3)) ∧ w'.cell? ⟨(ad180.add ((x3_1).toNat * 5)).block, (ad180.add ((x3_1).toNat * 5)).off + 4, none⟩ = some (.slice A181_4 ((rd_T35 l0 x3_1).f4).length c181_4)) (ds := []) #[false, false, false, false, false, false, false, false, false, false, false] (by kernel_rfl) rfl rfl ⟨((HB.out.cell (World.block_lt_of_cell? w _ hw180_0)).trans hw180_0), ((HB.out.cell (World.block_lt_of_cell? w _ hw180_1)).trans hw180_1), ((HB.out.cell (World.block_lt_of_cell? w _ hw180_2)).trans hw180_2), ((HB.out.cell (World.block_lt_of_cell? w _ hw180_3)).trans hw180_3), ((HB.out.cell (World.block_lt_of_cell? w _ hw180_4)).trans hw180_4), ((HB.out.cell (World.block_lt_of_cell? w _ hw181_0)).trans hw181_0), ((HB.out.cell (World.block_lt_of_cell? w _ hw181_1)).trans hw181_1), ((HB.out.cell (World.block_lt_of_cell? w _ hw181_2)).trans hw181_2), ((HB.out.cell (World.block_lt_of_cell? w _ hw181_3)).trans hw181_3), ((HB.out.cell (World.block_lt_of_cell? w _ hw181_4)).trans hw181_4)⟩ (fun hHeld => ?_); refine with_tabW halyardref9_Ordered.tab4 halyardref9_Ordered.bits4 (fun HT_ HW_ => ?_)
                generalize wr.drew = w11 at HB HR180_0 HR180_4 HR181_0 HR181_4 hx180_0 hx180_1 hx180_2 hx180_3 hx180_4 hx181_0 hx181_1 hx181_2 hx181_3 hx181_4 hHeld ⊢
                refine pure_ (i := 0) (N := some 10) (v := ?_) (a' := ?_) #[true, false, false, false, false, false, false, false, false, false, false] rfl rfl (any_of HT_.out (by kernel_rfl)) (fun _ _ _ h => h) (Or.inl ⟨by rfl, ?_⟩) ?_ ?_
                rotate_left
                · intro w'
                  go_simp
                  with_reducible rfl
                rotate_left
                · simp only [Act.put, List.setIfInBounds_toArray, List.set_cons_zero, List.set_cons_succ, i64_w, i32_w]
                  rfl
                refine pure_ (i := 1) (N := some 11) (v := ?_) (a' := ?_) #[true, true, false, false, false, false, false, false, false, false, false] rfl rfl (any_of HT_.out (by kernel_rfl)) (fun _ _ _ h => h) (Or.inl ⟨by rfl, ?_⟩) ?_ ?_
                rotate_left
                · intro w'
                  go_simp
                  with_reducible rfl
                rotate_left
                · simp only [Act.put, List.setIfInBounds_toArray, List.set_cons_zero, List.set_cons_succ, i64_w, i32_w]
                  rfl
                refine pure_ (i := 2) (N := some 12) (v := ?_) (a' := ?_) #[true, true, true, false, false, false, false, false, false, false, false] rfl rfl (any_of HT_.out (by kernel_rfl)) (fun _ _ _ h => h) (Or.inl ⟨by rfl, ?_⟩) ?_ ?_
                rotate_left
                · intro w'
                  go_simp
                  with_reducible rfl
                rotate_left
                · simp only [Act.put, List.setIfInBounds_toArray, List.set_cons_zero, List.set_cons_succ, i64_w, i32_w]
                  rfl
                refine pure_ (i := 3) (N := some 13) (v := ?_) (a' := ?_) #[true, true, true, true, false, false, false, false, false, false, false] rfl rfl (any_of HT_.out (by kernel_rfl)) (fun _ _ _ h => h) (Or.inl ⟨by rfl, ?_⟩) ?_ ?_
                rotate_left
                · intro w'
                  go_simp
                  with_reducible rfl
                rotate_left
                · simp only [Act.put, List.setIfInBounds_toArray, List.set_cons_zero, List.set_cons_succ, i64_w, i32_w]
                  rfl
                refine pure_ (i := 5) (N := some 15) (v := ?_) (a' := ?_) #[true, true, true, true, false, true, false, false, false, false, false] rfl rfl (any_of HT_.out (by kernel_rfl)) (fun _ _ _ h => h) (Or.inl ⟨by rfl, ?_⟩) ?_ ?_
                rotate_left
                · intro w'
                  go_simp
                  with_reducible rfl
                rotate_left
                · simp only [Act.put, List.setIfInBounds_toArray, List.set_cons_zero, List.set_cons_succ, i64_w, i32_w]
                  rfl
                refine pure_ (i := 6) (N := some 16) (v := ?_) (a' := ?_) #[true, true, true, true, false, true, true, false, false, false, false] rfl rfl (any_of HT_.out (by kernel_rfl)) (fun _ _ _ h => h) (Or.inl ⟨by rfl, ?_⟩) ?_ ?_
                rotate_left
                · intro w'
                  go_simp
                  with_reducible rfl
                rotate_left
                · simp only [Act.put, List.setIfInBounds_toArray, List.set_cons_zero, List.set_cons_succ, i64_w, i32_w]
                  rfl
                refine pure_ (i := 7) (N := some 17) (v := ?_) (a' := ?_) #[true, true, true, true, false, true, true, true, false, false, false] rfl rfl (any_of HT_.out (by kernel_rfl)) (fun _ _ _ h => h) (Or.inl ⟨by rfl, ?_⟩) ?_ ?_
                rotate_left
                · intro w'
                  go_simp
                  with_reducible rfl
                rotate_left
                · simp only [Act.put, List.setIfInBounds_toArray, List.set_cons_zero, List.set_cons_succ, i64_w, i32_w]
                  rfl
                refine take_ (i := 4) (N := some 14) (v := ?_) (a' := ?_) #[true, true, true, true, true, true, true, true, false, false, false] rfl rfl (take_ofW HT_.out HW_.out (by kernel_rfl)) (fun _ _ _ h => h) (Or.inl ⟨by rfl, ?_⟩) hHeld ?_ ?_
                rotate_left
                · rintro w' ⟨s0, s1, s2, s3, s4, s5, s6, s7, s8, s9⟩
                  go_simp
                  with_reducible rfl
                rotate_left
                · simp only [Act.put, List.setIfInBounds_toArray, List.set_cons_zero, List.set_cons_succ, i64_w, i32_w]
                  rfl
                refine take_ (i := 8) (N := some 18) (v := ?_) (a' := ?_) #[true, true, true, true, true, true, true, true, true, false, false] rfl rfl (take_ofW HT_.out HW_.out (by kernel_rfl)) (fun _ _ _ h => h) (Or.inl ⟨by rfl, ?_⟩) hHeld ?_ ?_
                rotate_left
                · rintro w' ⟨s0, s1, s2, s3, s4, s5, s6, s7, s8, s9⟩
                  go_simp
                  with_reducible rfl
                rotate_left
                · simp only [Act.put, List.setIfInBounds_toArray, List.set_cons_zero, List.set_cons_succ, i64_w, i32_w]
                  rfl
                refine one_ (i := 9) (N := some 19) #[true, true, true, true, true, true, true, true, true, true, false] rfl rfl (one_of HT_.out (by kernel_rfl)) (by decide) (fun K hK => ?_)
                refine goes_ Try.func23 (by kernel_rfl) rfl #[.agg #[.slice A180_0 ((rd_T35 l0 (ji3)).f0).length c180_0, .int .i64 ((rd_T35 l0 (ji3)).f1), .bool ((rd_T35 l0 (ji3)).f2), .int .i64 ((rd_T35 l0 (ji3)).f3), .slice A180_4 ((rd_T35 l0 (ji3)).f4).length c180_4], .agg #[.slice A181_0 ((rd_T35 l0 x3_1).f0).length c181_0, .int .i64 ((rd_T35 l0 x3_1).f1), .bool ((rd_T35 l0 x3_1).f2), .int .i64 ((rd_T35 l0 x3_1).f3), .slice A181_4 ((rd_T35 l0 x3_1).f4).length c181_4]] (by rfl) rfl rfl (by (try simp only [List.map_toArray, List.map_cons, List.map_nil]); first | done | (simp only [hji3]; rfl) | rfl | (simp only [List.length_drop, List.length_take]; rfl)) ?_
                with_reducible refine (halyardref9_Ahead.calls _ _ ((rd_T35 l0 (ji3)).f0) ((rd_T35 l0 (ji3)).f1) ((rd_T35 l0 (ji3)).f2) ((rd_T35 l0 (ji3)).f3) _ _ ((rd_T35 l0 (ji3)).f4) _ _ ((rd_T35 l0 x3_1).f0) ((rd_T35 l0 x3_1).f1) ((rd_T35 l0 x3_1).f2) ((rd_T35 l0 x3_1).f3) _ _ ((rd_T35 l0 x3_1).f4) t182 _ ?side1 ?side2 ?side3 ?side4 ?side5 ?side6 ?side7 ?side8 A7.out).mono ?_
                (case side1 => repeat (first | exact (Kd.C_below HR180_0.out HB.out) | (with_reducible refine Kd.C_alloc ?_ _) | (with_reducible refine Kd.C_drewN ?_ _) | (with_reducible refine Kd.C_drew ?_)))
                (case side2 => exact HC180_0.out)
                (case side3 => repeat (first | exact (Kd.C_below HR180_4.out HB.out) | (with_reducible refine Kd.C_alloc ?_ _) | (with_reducible refine Kd.C_drewN ?_ _) | (with_reducible refine Kd.C_drew ?_)))
                (case side4 => exact HC180_4.out)
                (case side5 => repeat (first | exact (Kd.C_below HR181_0.out HB.out) | (with_reducible refine Kd.C_alloc ?_ _) | (with_reducible refine Kd.C_drewN ?_ _) | (with_reducible refine Kd.C_drew ?_)))
                (case side6 => exact HC181_0.out)
                (case side7 => repeat (first | exact (Kd.C_below HR181_4.out HB.out) | (with_reducible refine Kd.C_alloc ?_ _) | (with_reducible refine Kd.C_drewN ?_ _) | (with_reducible refine Kd.C_drew ?_)))
                (case side8 => exact HC181_4.out)
                rintro e w12 ⟨rfl, hb⟩
                refine ⟨_, rfl, ?_⟩
                have n0_ := Aside0.mk (below_step pb hb)
                clear HB
                have HB := n0_
                clear n0_
                (try clear hb)
                (try clear hb2)
                (try clear hk)
                (try clear hi)
                refine hK.out _ _ ⟨((HB.out.cell (World.block_lt_of_cell? w _ hw180_0)).trans hw180_0), ((HB.out.cell (World.block_lt_of_cell? w _ hw180_1)).trans hw180_1), ((HB.out.cell (World.block_lt_of_cell? w _ hw180_2)).trans hw180_2), ((HB.out.cell (World.block_lt_of_cell? w _ hw180_3)).trans hw180_3), ((HB.out.cell (World.block_lt_of_cell? w _ hw180_4)).trans hw180_4), ((HB.out.cell (World.block_lt_of_cell? w _ hw181_0)).trans hw181_0), ((HB.out.cell (World.block_lt_of_cell? w _ hw181_1)).trans hw181_1), ((HB.out.cell (World.block_lt_of_cell? w _ hw181_2)).trans hw181_2), ((HB.out.cell (World.block_lt_of_cell? w _ hw181_3)).trans hw181_3), ((HB.out.cell (World.block_lt_of_cell? w _ hw181_4)).trans hw181_4)⟩ (fun hHeld => ?_)
                clear hK K
                refine norm_ (a' := ?_) ?_ ?_
                rotate_left
                · show Act.put _ (some 19) _ = _
                  simp only [Act.put, List.setIfInBounds_toArray, List.set_cons_zero, List.set_cons_succ, i64_w, i32_w]
                  rfl
                refine pure_ (i := 10) (N := some 20) (v := ?_) (a' := ?_) #[true, true, true, true, true, true, true, true, true, true, true] rfl rfl (any_of HT_.out (by kernel_rfl)) (fun _ _ _ h => h) (Or.inl ⟨by rfl, ?_⟩) ?_ ?_
                rotate_left
                · intro w'
                  go_simp
                  with_reducible rfl
                rotate_left
                · simp only [Act.put, List.setIfInBounds_toArray, List.set_cons_zero, List.set_cons_succ, i64_w, i32_w]
                  rfl
                refine done_ (done_of HT_.out (by kernel_rfl)) ?_
                try go_wp2
                go_roundg k1
                case measure => have := HK1.out; omega
                case rel => exact ⟨(wrap64 (x3_1 + 1)), (by first | rfl | (simp; done) | (simp [*]; done)), H', ⟨by have := HK1.out; omega⟩, ⟨pb⟩⟩
            · rw [if_neg c6] at H
              exact absurd H (by simp)
          · rw [if_neg c5] at H
            exact absurd H (by simp)
        · rw [if_neg c4] at H
          exact absurd H (by simp)
      · rw [if_neg c2] at H
        have c2b0 : decide (x3_1 < (l0.length : Int)) = false := decide_eq_false c2
        clear c2
        obtain rfl := Option.some.inj H
        go_wp2
        go_ret
        exact ⟨by first | rfl | (simp [errW_none, errW_some] <;> rfl) | (simp [*, errW_none, errW_some] <;> rfl), pb⟩

end Go.Proofs.Ytnepbpcpfeejkaa.K
