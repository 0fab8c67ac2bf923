-- Printed by the prover's own turned printer (wip/printer in the prover's repo); Lean checks it.
import Derived.Test.YtnepbpcpfeejkaaK0
import Derived.Test.YtnepbpcpfeejkaaKf31
namespace Go.Proofs.Ytnepbpcpfeejkaa.K
open Go.RowKit Go.Proofs.YtnepbpcpfeejkaaW.PrintWords Go.Proofs.YtnepbpcpfeejkaaW.PrintLast Go.Proofs.YtnepbpcpfeejkaaW.PrintMore
attribute [local go_sem] max2_int min2_int max_two min_two max_three min_three max_four min_four   -- for this text's walks alone
set_option linter.unusedVariables false
set_option linter.unusedSimpArgs false

/-! ### squash_one: function 21 -/
def squash_one.l0 : Nat → List (S35) → Int → Option (Int)
  | 0, _, _ => none
  | k + 1, x0, x3 => if x3 < (x0.length : Int) then (if 0 ≤ x3 then (if 0 < (x0.length : Int) then ((bytes_Equal.f ((rd_T35 x0 x3).f0) ((rd_T35 x0 0).f0)).bind fun t110 => (if t110 = true then (squash_one.l0 k x0 (wrap64 (x3 + 1))) else (some x3))) else (none)) else (none)) else (some x3)
def squash_one.f (k : Nat) (l0 : List (S35)) : Option (Int) := squash_one.l0 k l0 1
theorem squash_one.mono_l : ∀ k, (∀ y0 y1, LeO (squash_one.l0 k y0 y1) (squash_one.l0 (k + 1) y0 y1))
  | 0 => fun _ _ r h => by simp [squash_one.l0] at h
  | k + 1 => by
    have ih0 := squash_one.mono_l k
    · intro y0 y1
      unfold squash_one.l0
      repeat' first
      | (with_reducible exact ih0 _ _)
      | (with_reducible exact LeO.refl _)
      | (with_reducible exact LeO.none _)
      | (with_reducible refine LeO.ite ?_ ?_)
      | (with_reducible refine LeO.bind ?_ (fun _ => ?_))
      | exact ih0 _ _
      | exact LeO.none _
      | refine LeO.ite ?_ ?_
      | refine LeO.bind ?_ (fun _ => ?_)
theorem squash_one.mono : ∀ a0 k, LeO (squash_one.f k a0) (squash_one.f (k + 1) a0) := by
  intro a0 k
  have ih0 := squash_one.mono_l k
  unfold squash_one.f
  repeat' first
      | (with_reducible exact ih0 _ _)
      | (with_reducible exact LeO.refl _)
      | (with_reducible exact LeO.none _)
      | (with_reducible refine LeO.ite ?_ ?_)
      | (with_reducible refine LeO.bind ?_ (fun _ => ?_))
      | exact ih0 _ _
      | exact LeO.none _
      | refine LeO.ite ?_ ?_
      | refine LeO.bind ?_ (fun _ => ?_)
def squash_one.T2 : Bool × List (List Nat × List Nat) := (true, [([], []), ([], []), ([1], [1]), ([0, 2], [0, 2]), ([3], [3]), ([4], [4]), ([4], [4]), ([5, 6, 4], [4, 5, 6]), ([7, 4], [4, 7]), ([8, 4], [4, 8]), ([4], [4]), ([10, 4], [4, 10]), ([11, 4], [4, 11]), ([12, 4], [4, 12]), ([9, 13, 4, 4], [4, 9, 13]), ([4, 14], [4, 14])])
def squash_one.B2 : List Nat := [0, 0, 2, 7, 15, 31, 31, 127, 255, 511, 31, 1055, 3103, 7199, 16383, 32767]
theorem squash_one.tab2 : rtab .any (opsOf Try.f21 2) = squash_one.T2 := by kernel_rfl
theorem squash_one.bits2 : waitsOk squash_one.T2.2 squash_one.B2 = true := by kernel_rfl
set_option maxHeartbeats 8000000 in
set_option maxRecDepth 100000 in
theorem squash_one.calls (k : Nat) (A0 : Option Addr) (c0 : Nat) (l0 : List (S35)) (r : Int) (w : World) (hr0 : Kd.C k35 w A0 l0.length l0) (hc0 : l0.length ≤ c0) (h : squash_one.f k l0 = some r) :
    Calls Try.prog 21 #[.slice A0 l0.length c0] w fun e w' => e = .returned (.int .i64 r) ∧ Below w.heap.size w w' := by
  have HR0 := Aside0.mk hr0
  have HC0 := Aside0.mk hc0
  clear hr0 hc0
  have HB := Aside0.mk (Below.refl w.heap.size w)
  have H : (squash_one.l0 k l0 1) = some r := h
  clear h
  have H' := Aside0.mk H
  clear H
  go_enter Try.func21, Try.ntmps21
  go_wp2
  go_loopg [3] k (fun kq v3 w' => ∃ (x3_1 : Int), v3 = .int .i64 x3_1 ∧ Aside0 (squash_one.l0 kq l0 x3_1 = some r) ∧ Aside0 (kq ≤ k) ∧ Aside0 (Below w.heap.size w w'))
  case atStart => exact ⟨(1), (by first | rfl | (simp; done) | (simp [*]; done)), H', ⟨Nat.le_refl _⟩, ⟨pb⟩⟩
  case round =>
    clear H'
    obtain ⟨x3_1, rfl, HA, HK1, HB⟩ := hrel
    cases gk with
    | zero => exact absurd HA.out (by simp [squash_one.l0])
    | succ k1 =>
      have H := HA.out
      clear HA
      simp only [squash_one.l0] at H
      by_cases c2 : x3_1 < (l0.length : Int)
      · rw [if_pos c2] at H
        have c2b0 : decide (x3_1 < (l0.length : Int)) = true := decide_eq_true c2
        clear c2
        by_cases c3 : 0 ≤ x3_1
        · rw [if_pos c3] at H
          have c3b0 : decide (0 ≤ x3_1) = true := decide_eq_true c3
          clear c3
          by_cases c4 : 0 < (l0.length : Int)
          · rw [if_pos c4] at H
            have c4b0 : decide (0 < (l0.length : Int)) = true := decide_eq_true c4
            have c4b1 : decide (0 < l0.length) = true := decide_eq_true (by omega)
            clear c4
            replace H := Option.bind_eq_some_iff.mp H
            obtain ⟨t110, A50, H⟩ := H
            replace H : (if t110 = true then (squash_one.l0 k1 l0 (wrap64 (x3_1 + 1))) else (some x3_1)) = some r := H
            have A5 := Aside0.mk A50
            clear A50
            by_cases c6 : t110 = true
            · subst c6
              have H1 : (squash_one.l0 k1 l0 (wrap64 (x3_1 + 1))) = some r := by rw [if_pos rfl] at H; exact H
              clear H
              have H := H1
              clear H1
              have H' := Aside0.mk H
              clear H
              try go_wp2
              have n0_ := Aside0.mk (below_drew1 HB.out)
              clear HB
              have HB := n0_
              clear n0_
              have p108 : 0 ≤ (x3_1 : Int) := pa
              have q108 : x3_1 < (l0.length : Int) := pa
              obtain ⟨ad108, A108_0, c108_0, A108_4, c108_4, e108, hx108_0, hx108_1, hx108_2, hx108_3, hx108_4, hl108_0, hi108_0, hl108_4, hi108_4⟩ := at_T35 HR0.out x3_1 p108 q108
              have hw108_4 := hx108_4
              have hw108_3 := hx108_3
              have hw108_2 := hx108_2
              have hw108_1 := hx108_1
              have hw108_0 := hx108_0
              cases e108
              replace hx108_0 := (HB.out.cell (World.block_lt_of_cell? w _ hx108_0)).trans hx108_0
              replace hx108_1 := (HB.out.cell (World.block_lt_of_cell? w _ hx108_1)).trans hx108_1
              replace hx108_2 := (HB.out.cell (World.block_lt_of_cell? w _ hx108_2)).trans hx108_2
              replace hx108_3 := (HB.out.cell (World.block_lt_of_cell? w _ hx108_3)).trans hx108_3
              replace hx108_4 := (HB.out.cell (World.block_lt_of_cell? w _ hx108_4)).trans hx108_4
              have HR108_0 := Aside0.mk hi108_0
              have HC108_0 := Aside0.mk hl108_0
              clear hi108_0 hl108_0
              have HR108_4 := Aside0.mk hi108_4
              have HC108_4 := Aside0.mk hl108_4
              clear hi108_4 hl108_4
              replace p108 := eq_true p108
              replace q108 := eq_true q108
              have p109 : 0 ≤ (0 : Int) := (by omega)
              have q109 : 0 < (l0.length : Int) := pa
              obtain ⟨ad109, A109_0, c109_0, A109_4, c109_4, e109, hx109_0, hx109_1, hx109_2, hx109_3, hx109_4, hl109_0, hi109_0, hl109_4, hi109_4⟩ := at_T35 HR0.out 0 p109 q109
              have hw109_4 := hx109_4
              (try rw [show ((0 : Int)).toNat = 0 from rfl] at hw109_4)
              (try rw [show 0 * 5 = 0 from rfl] at hw109_4)
              (try rw [Addr.add_zero'] at hw109_4)
              have hw109_3 := hx109_3
              (try rw [show ((0 : Int)).toNat = 0 from rfl] at hw109_3)
              (try rw [show 0 * 5 = 0 from rfl] at hw109_3)
              (try rw [Addr.add_zero'] at hw109_3)
              have hw109_2 := hx109_2
              (try rw [show ((0 : Int)).toNat = 0 from rfl] at hw109_2)
              (try rw [show 0 * 5 = 0 from rfl] at hw109_2)
              (try rw [Addr.add_zero'] at hw109_2)
              have hw109_1 := hx109_1
              (try rw [show ((0 : Int)).toNat = 0 from rfl] at hw109_1)
              (try rw [show 0 * 5 = 0 from rfl] at hw109_1)
              (try rw [Addr.add_zero'] at hw109_1)
              have hw109_0 := hx109_0
              (try rw [show ((0 : Int)).toNat = 0 from rfl] at hw109_0)
              (try rw [show 0 * 5 = 0 from rfl] at hw109_0)
              (try rw [Addr.add_zero'] at hw109_0)
              obtain rfl : ad108 = ad109 := (by injection e109)
              have qi109 : (0 < l0.length) = True := eq_true (by omega)
              (try rw [show ((0 : Int)).toNat = 0 from rfl] at hx109_0)
              (try rw [show 0 * 5 = 0 from rfl] at hx109_0)
              (try rw [Addr.add_zero'] at hx109_0)
              (try rw [show ((0 : Int)).toNat = 0 from rfl] at hx109_1)
              (try rw [show 0 * 5 = 0 from rfl] at hx109_1)
              (try rw [Addr.add_zero'] at hx109_1)
              (try rw [show ((0 : Int)).toNat = 0 from rfl] at hx109_2)
              (try rw [show 0 * 5 = 0 from rfl] at hx109_2)
              (try rw [Addr.add_zero'] at hx109_2)
              (try rw [show ((0 : Int)).toNat = 0 from rfl] at hx109_3)
              (try rw [show 0 * 5 = 0 from rfl] at hx109_3)
              (try rw [Addr.add_zero'] at hx109_3)
              (try rw [show ((0 : Int)).toNat = 0 from rfl] at hx109_4)
              (try rw [show 0 * 5 = 0 from rfl] at hx109_4)
              (try rw [Addr.add_zero'] at hx109_4)
              replace hx109_0 := (HB.out.cell (World.block_lt_of_cell? w _ hx109_0)).trans hx109_0
              replace hx109_1 := (HB.out.cell (World.block_lt_of_cell? w _ hx109_1)).trans hx109_1
              replace hx109_2 := (HB.out.cell (World.block_lt_of_cell? w _ hx109_2)).trans hx109_2
              replace hx109_3 := (HB.out.cell (World.block_lt_of_cell? w _ hx109_3)).trans hx109_3
              replace hx109_4 := (HB.out.cell (World.block_lt_of_cell? w _ hx109_4)).trans hx109_4
              have HR109_0 := Aside0.mk hi109_0
              have HC109_0 := Aside0.mk hl109_0
              clear hi109_0 hl109_0
              have HR109_4 := Aside0.mk hi109_4
              have HC109_4 := Aside0.mk hl109_4
              clear hi109_4 hl109_4
              replace p109 := eq_true p109
              replace q109 := eq_true q109
              refine start_ (n := 16) (S := fun w' => w'.cell? (ad108.add ((x3_1).toNat * 5)) = some (.slice A108_0 ((rd_T35 l0 x3_1).f0).length c108_0) ∧ w'.cell? ⟨(ad108.add ((x3_1).toNat * 5)).block, (ad108.add ((x3_1).toNat * 5)).off + 1, none⟩ = some (.int .i64 ((rd_T35 l0 x3_1).f1)) ∧ w'.cell? ⟨(ad108.add ((x3_1).toNat * 5)).block, (ad108.add ((x3_1).toNat * 5)).off + 2, none⟩ = some (.bool ((rd_T35 l0 x3_1).f2)) ∧ w'.cell? ⟨(ad108.add ((x3_1).toNat * 5)).block, (ad108.add ((x3_1).toNat * 5)).off + 3, none⟩ = some (.int .i64 ((rd_T35 l0 x3_1).f3)) ∧ w'.cell? ⟨(ad108.add ((x3_1).toNat * 5)).block, (ad108.add ((x3_1).toNat * 5)).off + 4, none⟩ = some (.slice A108_4 ((rd_T35 l0 x3_1).f4).length c108_4) ∧ w'.cell? ad108 = some (.slice A109_0 ((rd_T35 l0 0).f0).length c109_0) ∧ w'.cell? ⟨ad108.block, ad108.off + 1, none⟩ = some (.int .i64 ((rd_T35 l0 0).f1)) ∧ w'.cell? ⟨ad108.block, ad108.off + 2, none⟩ = some (.bool ((rd_T35 l0 0).f2)) ∧ w'.cell? ⟨ad108.block, ad108.off + 3, none⟩ = some (.int .i64 ((rd_T35 l0 0).f3)) ∧ w'.cell? ⟨ad108.block, ad108.off + 4, none⟩ = some (.slice A109_4 ((rd_T35 l0 0).f4).length c109_4)) (ds := []) #[false, false, false, false, false, false, false, false, false, false, false, false, false, false, false, false] (by kernel_rfl) rfl rfl ⟨((HB.out.cell (World.block_lt_of_cell? w _ hw108_0)).trans hw108_0), ((HB.out.cell (World.block_lt_of_cell? w _ hw108_1)).trans hw108_1), ((HB.out.cell (World.block_lt_of_cell? w _ hw108_2)).trans hw108_2), ((HB.out.cell (World.block_lt_of_cell? w _ hw108_3)).trans hw108_3), ((HB.out.cell (World.block_lt_of_cell? w _ hw108_4)).trans hw108_4), ((HB.out.cell (World.block_lt_of_cell? w _ hw109_0)).trans hw109_0), ((HB.out.cell (World.block_lt_of_cell? w _ hw109_1)).trans hw109_1), ((HB.out.cell (World.block_lt_of_cell? w _ hw109_2)).trans hw109_2), ((HB.out.cell (World.block_lt_of_cell? w _ hw109_3)).trans hw109_3), ((HB.out.cell (World.block_lt_of_cell? w _ hw109_4)).trans hw109_4)⟩ (fun hHeld => ?_); refine with_tabW squash_one.tab2 squash_one.bits2 (fun HT_ HW_ => ?_)
              generalize wr.drew = w7 at HB HR108_0 HR108_4 HR109_0 HR109_4 hx108_0 hx108_1 hx108_2 hx108_3 hx108_4 hx109_0 hx109_1 hx109_2 hx109_3 hx109_4 hHeld ⊢
              refine pure_ (i := 0) (N := some 4) (v := ?_) (a' := ?_) #[true, false, false, false, false, false, false, false, false, false, false, false, false, false, false, false] rfl rfl (any_of HT_.out (by kernel_rfl)) (fun _ _ _ h => h) (Or.inl ⟨by rfl, ?_⟩) ?_ ?_
              rotate_left
              · intro w'
                go_simp
                with_reducible rfl
              rotate_left
              · simp only [Act.put, List.setIfInBounds_toArray, List.set_cons_zero, List.set_cons_succ, i64_w, i32_w]
                rfl
              refine pure_ (i := 1) (N := some 5) (v := ?_) (a' := ?_) #[true, true, false, false, false, false, false, false, false, false, false, false, false, false, false, false] rfl rfl (any_of HT_.out (by kernel_rfl)) (fun _ _ _ h => h) (Or.inl ⟨by rfl, ?_⟩) ?_ ?_
              rotate_left
              · intro w'
                go_simp
                with_reducible rfl
              rotate_left
              · simp only [Act.put, List.setIfInBounds_toArray, List.set_cons_zero, List.set_cons_succ, i64_w, i32_w]
                rfl
              refine pure_ (i := 2) (N := some 6) (v := ?_) (a' := ?_) #[true, true, true, false, false, false, false, false, false, false, false, false, false, false, false, false] rfl rfl (any_of HT_.out (by kernel_rfl)) (fun _ _ _ h => h) (Or.inl ⟨by rfl, ?_⟩) ?_ ?_
              rotate_left
              · intro w'
                go_simp
                with_reducible rfl
              rotate_left
              · simp only [Act.put, List.setIfInBounds_toArray, List.set_cons_zero, List.set_cons_succ, i64_w, i32_w]
                rfl
              refine pure_ (i := 3) (N := some 7) (v := ?_) (a' := ?_) #[true, true, true, true, false, false, false, false, false, false, false, false, false, false, false, false] rfl rfl (any_of HT_.out (by kernel_rfl)) (fun _ _ _ h => h) (Or.inl ⟨by rfl, ?_⟩) ?_ ?_
              rotate_left
              · intro w'
                go_simp
                with_reducible rfl
              rotate_left
              · simp only [Act.put, List.setIfInBounds_toArray, List.set_cons_zero, List.set_cons_succ, i64_w, i32_w]
                rfl
              refine pure_ (i := 4) (N := some 8) (v := ?_) (a' := ?_) #[true, true, true, true, true, false, false, false, false, false, false, false, false, false, false, false] rfl rfl (any_of HT_.out (by kernel_rfl)) (fun _ _ _ h => h) (Or.inl ⟨by rfl, ?_⟩) ?_ ?_
              rotate_left
              · intro w'
                go_simp
                with_reducible rfl
              rotate_left
              · simp only [Act.put, List.setIfInBounds_toArray, List.set_cons_zero, List.set_cons_succ, i64_w, i32_w]
                rfl
              refine pure_ (i := 5) (N := some 9) (v := ?_) (a' := ?_) #[true, true, true, true, true, true, false, false, false, false, false, false, false, false, false, false] rfl rfl (any_of HT_.out (by kernel_rfl)) (fun _ _ _ h => h) (Or.inl ⟨by rfl, ?_⟩) ?_ ?_
              rotate_left
              · intro w'
                go_simp
                with_reducible rfl
              rotate_left
              · simp only [Act.put, List.setIfInBounds_toArray, List.set_cons_zero, List.set_cons_succ, i64_w, i32_w]
                rfl
              refine pure_ (i := 6) (N := some 10) (v := ?_) (a' := ?_) #[true, true, true, true, true, true, true, false, false, false, false, false, false, false, false, false] rfl rfl (any_of HT_.out (by kernel_rfl)) (fun _ _ _ h => h) (Or.inl ⟨by rfl, ?_⟩) ?_ ?_
              rotate_left
              · intro w'
                go_simp
                with_reducible rfl
              rotate_left
              · simp only [Act.put, List.setIfInBounds_toArray, List.set_cons_zero, List.set_cons_succ, i64_w, i32_w]
                rfl
              refine pure_ (i := 7) (N := some 11) (v := ?_) (a' := ?_) #[true, true, true, true, true, true, true, true, false, false, false, false, false, false, false, false] rfl rfl (any_of HT_.out (by kernel_rfl)) (fun _ _ _ h => h) (Or.inl ⟨by rfl, ?_⟩) ?_ ?_
              rotate_left
              · intro w'
                go_simp
                with_reducible rfl
              rotate_left
              · simp only [Act.put, List.setIfInBounds_toArray, List.set_cons_zero, List.set_cons_succ, i64_w, i32_w]
                rfl
              refine pure_ (i := 8) (N := some 12) (v := ?_) (a' := ?_) #[true, true, true, true, true, true, true, true, true, false, false, false, false, false, false, false] rfl rfl (any_of HT_.out (by kernel_rfl)) (fun _ _ _ h => h) (Or.inl ⟨by rfl, ?_⟩) ?_ ?_
              rotate_left
              · intro w'
                go_simp
                with_reducible rfl
              rotate_left
              · simp only [Act.put, List.setIfInBounds_toArray, List.set_cons_zero, List.set_cons_succ, i64_w, i32_w]
                rfl
              refine pure_ (i := 10) (N := some 14) (v := ?_) (a' := ?_) #[true, true, true, true, true, true, true, true, true, false, true, false, false, false, false, false] rfl rfl (any_of HT_.out (by kernel_rfl)) (fun _ _ _ h => h) (Or.inl ⟨by rfl, ?_⟩) ?_ ?_
              rotate_left
              · intro w'
                go_simp
                with_reducible rfl
              rotate_left
              · simp only [Act.put, List.setIfInBounds_toArray, List.set_cons_zero, List.set_cons_succ, i64_w, i32_w]
                rfl
              refine pure_ (i := 11) (N := some 15) (v := ?_) (a' := ?_) #[true, true, true, true, true, true, true, true, true, false, true, true, false, false, false, false] rfl rfl (any_of HT_.out (by kernel_rfl)) (fun _ _ _ h => h) (Or.inl ⟨by rfl, ?_⟩) ?_ ?_
              rotate_left
              · intro w'
                go_simp
                with_reducible rfl
              rotate_left
              · simp only [Act.put, List.setIfInBounds_toArray, List.set_cons_zero, List.set_cons_succ, i64_w, i32_w]
                rfl
              refine pure_ (i := 12) (N := some 16) (v := ?_) (a' := ?_) #[true, true, true, true, true, true, true, true, true, false, true, true, true, false, false, false] rfl rfl (any_of HT_.out (by kernel_rfl)) (fun _ _ _ h => h) (Or.inl ⟨by rfl, ?_⟩) ?_ ?_
              rotate_left
              · intro w'
                go_simp
                with_reducible rfl
              rotate_left
              · simp only [Act.put, List.setIfInBounds_toArray, List.set_cons_zero, List.set_cons_succ, i64_w, i32_w]
                rfl
              refine take_ (i := 9) (N := some 13) (v := ?_) (a' := ?_) #[true, true, true, true, true, true, true, true, true, true, true, true, true, false, false, false] rfl rfl (take_ofW HT_.out HW_.out (by kernel_rfl)) (fun _ _ _ h => h) (Or.inl ⟨by rfl, ?_⟩) hHeld ?_ ?_
              rotate_left
              · rintro w' ⟨s0, s1, s2, s3, s4, s5, s6, s7, s8, s9⟩
                go_simp
                with_reducible rfl
              rotate_left
              · simp only [Act.put, List.setIfInBounds_toArray, List.set_cons_zero, List.set_cons_succ, i64_w, i32_w]
                rfl
              refine take_ (i := 13) (N := some 17) (v := ?_) (a' := ?_) #[true, true, true, true, true, true, true, true, true, true, true, true, true, true, false, false] rfl rfl (take_ofW HT_.out HW_.out (by kernel_rfl)) (fun _ _ _ h => h) (Or.inl ⟨by rfl, ?_⟩) hHeld ?_ ?_
              rotate_left
              · rintro w' ⟨s0, s1, s2, s3, s4, s5, s6, s7, s8, s9⟩
                go_simp
                with_reducible rfl
              rotate_left
              · simp only [Act.put, List.setIfInBounds_toArray, List.set_cons_zero, List.set_cons_succ, i64_w, i32_w]
                rfl
              refine one_ (i := 14) (N := some 18) #[true, true, true, true, true, true, true, true, true, true, true, true, true, true, true, false] rfl rfl (one_of HT_.out (by kernel_rfl)) (by decide) (fun K hK => ?_)
              refine goes_ Try.func31 (by kernel_rfl) rfl #[.slice A108_0 ((rd_T35 l0 x3_1).f0).length c108_0, .slice A109_0 ((rd_T35 l0 0).f0).length c109_0] (by rfl) rfl rfl pm ?_
              with_reducible refine (bytes_Equal.calls _ _ ((rd_T35 l0 x3_1).f0) _ _ ((rd_T35 l0 0).f0) true _ ?side1 ?side2 ?side3 ?side4 A5.out).mono ?_
              (case side1 => repeat (first | exact (Kd.C_below HR108_0.out HB.out) | (with_reducible refine Kd.C_alloc ?_ _) | (with_reducible refine Kd.C_drewN ?_ _) | (with_reducible refine Kd.C_drew ?_)))
              (case side2 => exact HC108_0.out)
              (case side3 => repeat (first | exact (Kd.C_below HR109_0.out HB.out) | (with_reducible refine Kd.C_alloc ?_ _) | (with_reducible refine Kd.C_drewN ?_ _) | (with_reducible refine Kd.C_drew ?_)))
              (case side4 => exact HC109_0.out)
              rintro e w8 ⟨rfl, hb⟩
              refine ⟨_, rfl, ?_⟩
              have n0_ := Aside0.mk (below_step pb hb)
              clear HB
              have HB := n0_
              clear n0_
              (try clear hb)
              (try clear hb2)
              (try clear hk)
              (try clear hi)
              refine hK.out _ _ ⟨((HB.out.cell (World.block_lt_of_cell? w _ hw108_0)).trans hw108_0), ((HB.out.cell (World.block_lt_of_cell? w _ hw108_1)).trans hw108_1), ((HB.out.cell (World.block_lt_of_cell? w _ hw108_2)).trans hw108_2), ((HB.out.cell (World.block_lt_of_cell? w _ hw108_3)).trans hw108_3), ((HB.out.cell (World.block_lt_of_cell? w _ hw108_4)).trans hw108_4), ((HB.out.cell (World.block_lt_of_cell? w _ hw109_0)).trans hw109_0), ((HB.out.cell (World.block_lt_of_cell? w _ hw109_1)).trans hw109_1), ((HB.out.cell (World.block_lt_of_cell? w _ hw109_2)).trans hw109_2), ((HB.out.cell (World.block_lt_of_cell? w _ hw109_3)).trans hw109_3), ((HB.out.cell (World.block_lt_of_cell? w _ hw109_4)).trans hw109_4)⟩ (fun hHeld => ?_)
              clear hK K
              refine norm_ (a' := ?_) ?_ ?_
              rotate_left
              · show Act.put _ (some 18) _ = _
                simp only [Act.put, List.setIfInBounds_toArray, List.set_cons_zero, List.set_cons_succ, i64_w, i32_w]
                rfl
              refine pure_ (i := 15) (N := some 19) (v := ?_) (a' := ?_) #[true, true, true, true, true, true, true, true, true, true, true, true, true, true, true, true] rfl rfl (any_of HT_.out (by kernel_rfl)) (fun _ _ _ h => h) (Or.inl ⟨by rfl, ?_⟩) ?_ ?_
              rotate_left
              · intro w'
                go_simp
                with_reducible rfl
              rotate_left
              · simp only [Act.put, List.setIfInBounds_toArray, List.set_cons_zero, List.set_cons_succ, i64_w, i32_w]
                rfl
              refine done_ (done_of HT_.out (by kernel_rfl)) ?_
              try go_wp2
              go_roundg k1
              case measure => have := HK1.out; omega
              case rel => exact ⟨(wrap64 (x3_1 + 1)), (by first | rfl | (simp; done) | (simp [*]; done)), H', ⟨by have := HK1.out; omega⟩, ⟨pb⟩⟩
            · replace c6 := Bool.eq_false_iff.mpr c6
              subst c6
              have H1 : (some x3_1) = some r := by rw [if_neg (show ¬ (false = true) by decide)] at H; exact H
              clear H
              have H := H1
              clear H1
              obtain rfl := Option.some.inj H
              try go_wp2
              have n0_ := Aside0.mk (below_drew1 HB.out)
              clear HB
              have HB := n0_
              clear n0_
              have p108 : 0 ≤ (x3_1 : Int) := pa
              have q108 : x3_1 < (l0.length : Int) := pa
              obtain ⟨ad108, A108_0, c108_0, A108_4, c108_4, e108, hx108_0, hx108_1, hx108_2, hx108_3, hx108_4, hl108_0, hi108_0, hl108_4, hi108_4⟩ := at_T35 HR0.out x3_1 p108 q108
              have hw108_4 := hx108_4
              have hw108_3 := hx108_3
              have hw108_2 := hx108_2
              have hw108_1 := hx108_1
              have hw108_0 := hx108_0
              cases e108
              replace hx108_0 := (HB.out.cell (World.block_lt_of_cell? w _ hx108_0)).trans hx108_0
              replace hx108_1 := (HB.out.cell (World.block_lt_of_cell? w _ hx108_1)).trans hx108_1
              replace hx108_2 := (HB.out.cell (World.block_lt_of_cell? w _ hx108_2)).trans hx108_2
              replace hx108_3 := (HB.out.cell (World.block_lt_of_cell? w _ hx108_3)).trans hx108_3
              replace hx108_4 := (HB.out.cell (World.block_lt_of_cell? w _ hx108_4)).trans hx108_4
              have HR108_0 := Aside0.mk hi108_0
              have HC108_0 := Aside0.mk hl108_0
              clear hi108_0 hl108_0
              have HR108_4 := Aside0.mk hi108_4
              have HC108_4 := Aside0.mk hl108_4
              clear hi108_4 hl108_4
              replace p108 := eq_true p108
              replace q108 := eq_true q108
              have p109 : 0 ≤ (0 : Int) := (by omega)
              have q109 : 0 < (l0.length : Int) := pa
              obtain ⟨ad109, A109_0, c109_0, A109_4, c109_4, e109, hx109_0, hx109_1, hx109_2, hx109_3, hx109_4, hl109_0, hi109_0, hl109_4, hi109_4⟩ := at_T35 HR0.out 0 p109 q109
              have hw109_4 := hx109_4
              (try rw [show ((0 : Int)).toNat = 0 from rfl] at hw109_4)
              (try rw [show 0 * 5 = 0 from rfl] at hw109_4)
              (try rw [Addr.add_zero'] at hw109_4)
              have hw109_3 := hx109_3
              (try rw [show ((0 : Int)).toNat = 0 from rfl] at hw109_3)
              (try rw [show 0 * 5 = 0 from rfl] at hw109_3)
              (try rw [Addr.add_zero'] at hw109_3)
              have hw109_2 := hx109_2
              (try rw [show ((0 : Int)).toNat = 0 from rfl] at hw109_2)
              (try rw [show 0 * 5 = 0 from rfl] at hw109_2)
              (try rw [Addr.add_zero'] at hw109_2)
              have hw109_1 := hx109_1
              (try rw [show ((0 : Int)).toNat = 0 from rfl] at hw109_1)
              (try rw [show 0 * 5 = 0 from rfl] at hw109_1)
              (try rw [Addr.add_zero'] at hw109_1)
              have hw109_0 := hx109_0
              (try rw [show ((0 : Int)).toNat = 0 from rfl] at hw109_0)
              (try rw [show 0 * 5 = 0 from rfl] at hw109_0)
              (try rw [Addr.add_zero'] at hw109_0)
              obtain rfl : ad108 = ad109 := (by injection e109)
              have qi109 : (0 < l0.length) = True := eq_true (by omega)
              (try rw [show ((0 : Int)).toNat = 0 from rfl] at hx109_0)
              (try rw [show 0 * 5 = 0 from rfl] at hx109_0)
              (try rw [Addr.add_zero'] at hx109_0)
              (try rw [show ((0 : Int)).toNat = 0 from rfl] at hx109_1)
              (try rw [show 0 * 5 = 0 from rfl] at hx109_1)
              (try rw [Addr.add_zero'] at hx109_1)
              (try rw [show ((0 : Int)).toNat = 0 from rfl] at hx109_2)
              (try rw [show 0 * 5 = 0 from rfl] at hx109_2)
              (try rw [Addr.add_zero'] at hx109_2)
              (try rw [show ((0 : Int)).toNat = 0 from rfl] at hx109_3)
              (try rw [show 0 * 5 = 0 from rfl] at hx109_3)
              (try rw [Addr.add_zero'] at hx109_3)
              (try rw [show ((0 : Int)).toNat = 0 from rfl] at hx109_4)
              (try rw [show 0 * 5 = 0 from rfl] at hx109_4)
              (try rw [Addr.add_zero'] at hx109_4)
              replace hx109_0 := (HB.out.cell (World.block_lt_of_cell? w _ hx109_0)).trans hx109_0
              replace hx109_1 := (HB.out.cell (World.block_lt_of_cell? w _ hx109_1)).trans hx109_1
              replace hx109_2 := (HB.out.cell (World.block_lt_of_cell? w _ hx109_2)).trans hx109_2
              replace hx109_3 := (HB.out.cell (World.block_lt_of_cell? w _ hx109_3)).trans hx109_3
              replace hx109_4 := (HB.out.cell (World.block_lt_of_cell? w _ hx109_4)).trans hx109_4
              have HR109_0 := Aside0.mk hi109_0
              have HC109_0 := Aside0.mk hl109_0
              clear hi109_0 hl109_0
              have HR109_4 := Aside0.mk hi109_4
              have HC109_4 := Aside0.mk hl109_4
              clear hi109_4 hl109_4
              replace p109 := eq_true p109
              replace q109 := eq_true q109
              refine start_ (n := 16) (S := fun w' => w'.cell? (ad108.add ((x3_1).toNat * 5)) = some (.slice A108_0 ((rd_T35 l0 x3_1).f0).length c108_0) ∧ w'.cell? ⟨(ad108.add ((x3_1).toNat * 5)).block, (ad108.add ((x3_1).toNat * 5)).off + 1, none⟩ = some (.int .i64 ((rd_T35 l0 x3_1).f1)) ∧ w'.cell? ⟨(ad108.add ((x3_1).toNat * 5)).block, (ad108.add ((x3_1).toNat * 5)).off + 2, none⟩ = some (.bool ((rd_T35 l0 x3_1).f2)) ∧ w'.cell? ⟨(ad108.add ((x3_1).toNat * 5)).block, (ad108.add ((x3_1).toNat * 5)).off + 3, none⟩ = some (.int .i64 ((rd_T35 l0 x3_1).f3)) ∧ w'.cell? ⟨(ad108.add ((x3_1).toNat * 5)).block, (ad108.add ((x3_1).toNat * 5)).off + 4, none⟩ = some (.slice A108_4 ((rd_T35 l0 x3_1).f4).length c108_4) ∧ w'.cell? ad108 = some (.slice A109_0 ((rd_T35 l0 0).f0).length c109_0) ∧ w'.cell? ⟨ad108.block, ad108.off + 1, none⟩ = some (.int .i64 ((rd_T35 l0 0).f1)) ∧ w'.cell? ⟨ad108.block, ad108.off + 2, none⟩ = some (.bool ((rd_T35 l0 0).f2)) ∧ w'.cell? ⟨ad108.block, ad108.off + 3, none⟩ = some (.int .i64 ((rd_T35 l0 0).f3)) ∧ w'.cell? ⟨ad108.block, ad108.off + 4, none⟩ = some (.slice A109_4 ((rd_T35 l0 0).f4).length c109_4)) (ds := []) #[false, false, false, false, false, false, false, false, false, false, false, false, false, false, false, false] (by kernel_rfl) rfl rfl ⟨((HB.out.cell (World.block_lt_of_cell? w _ hw108_0)).trans hw108_0), ((HB.out.cell (World.block_lt_of_cell? w _ hw108_1)).trans hw108_1), ((HB.out.cell (World.block_lt_of_cell? w _ hw108_2)).trans hw108_2), ((HB.out.cell (World.block_lt_of_cell? w _ hw108_3)).trans hw108_3), ((HB.out.cell (World.block_lt_of_cell? w _ hw108_4)).trans hw108_4), ((HB.out.cell (World.block_lt_of_cell? w _ hw109_0)).trans hw109_0), ((HB.out.cell (World.block_lt_of_cell? w _ hw109_1)).trans hw109_1), ((HB.out.cell (World.block_lt_of_cell? w _ hw109_2)).trans hw109_2), ((HB.out.cell (World.block_lt_of_cell? w _ hw109_3)).trans hw109_3), ((HB.out.cell (World.block_lt_of_cell? w _ hw109_4)).trans hw109_4)⟩ (fun hHeld => ?_); refine with_tabW squash_one.tab2 squash_one.bits2 (fun HT_ HW_ => ?_)
              generalize wr.drew = w9 at HB HR108_0 HR108_4 HR109_0 HR109_4 hx108_0 hx108_1 hx108_2 hx108_3 hx108_4 hx109_0 hx109_1 hx109_2 hx109_3 hx109_4 hHeld ⊢
              refine pure_ (i := 0) (N := some 4) (v := ?_) (a' := ?_) #[true, false, false, false, false, false, false, false, false, false, false, false, false, false, false, false] rfl rfl (any_of HT_.out (by kernel_rfl)) (fun _ _ _ h => h) (Or.inl ⟨by rfl, ?_⟩) ?_ ?_
              rotate_left
              · intro w'
                go_simp
                with_reducible rfl
              rotate_left
              · simp only [Act.put, List.setIfInBounds_toArray, List.set_cons_zero, List.set_cons_succ, i64_w, i32_w]
                rfl
              refine pure_ (i := 1) (N := some 5) (v := ?_) (a' := ?_) #[true, true, false, false, false, false, false, false, false, false, false, false, false, false, false, false] rfl rfl (any_of HT_.out (by kernel_rfl)) (fun _ _ _ h => h) (Or.inl ⟨by rfl, ?_⟩) ?_ ?_
              rotate_left
              · intro w'
                go_simp
                with_reducible rfl
              rotate_left
              · simp only [Act.put, List.setIfInBounds_toArray, List.set_cons_zero, List.set_cons_succ, i64_w, i32_w]
                rfl
              refine pure_ (i := 2) (N := some 6) (v := ?_) (a' := ?_) #[true, true, true, false, false, false, false, false, false, false, false, false, false, false, false, false] rfl rfl (any_of HT_.out (by kernel_rfl)) (fun _ _ _ h => h) (Or.inl ⟨by rfl, ?_⟩) ?_ ?_
              rotate_left
              · intro w'
                go_simp
                with_reducible rfl
              rotate_left
              · simp only [Act.put, List.setIfInBounds_toArray, List.set_cons_zero, List.set_cons_succ, i64_w, i32_w]
                rfl
              refine pure_ (i := 3) (N := some 7) (v := ?_) (a' := ?_) #[true, true, true, true, false, false, false, false, false, false, false, false, false, false, false, false] rfl rfl (any_of HT_.out (by kernel_rfl)) (fun _ _ _ h => h) (Or.inl ⟨by rfl, ?_⟩) ?_ ?_
              rotate_left
              · intro w'
                go_simp
                with_reducible rfl
              rotate_left
              · simp only [Act.put, List.setIfInBounds_toArray, List.set_cons_zero, List.set_cons_succ, i64_w, i32_w]
                rfl
              refine pure_ (i := 4) (N := some 8) (v := ?_) (a' := ?_) #[true, true, true, true, true, false, false, false, false, false, false, false, false, false, false, false] rfl rfl (any_of HT_.out (by kernel_rfl)) (fun _ _ _ h => h) (Or.inl ⟨by rfl, ?_⟩) ?_ ?_
              rotate_left
              · intro w'
                go_simp
                with_reducible rfl
              rotate_left
              · simp only [Act.put, List.setIfInBounds_toArray, List.set_cons_zero, List.set_cons_succ, i64_w, i32_w]
                rfl
              refine pure_ (i := 5) (N := some 9) (v := ?_) (a' := ?_) #[true, true, true, true, true, true, false, false, false, false, false, false, false, false, false, false] rfl rfl (any_of HT_.out (by kernel_rfl)) (fun _ _ _ h => h) (Or.inl ⟨by rfl, ?_⟩) ?_ ?_
              rotate_left
              · intro w'
                go_simp
                with_reducible rfl
              rotate_left
              · simp only [Act.put, List.setIfInBounds_toArray, List.set_cons_zero, List.set_cons_succ, i64_w, i32_w]
                rfl
              refine pure_ (i := 6) (N := some 10) (v := ?_) (a' := ?_) #[true, true, true, true, true, true, true, false, false, false, false, false, false, false, false, false] rfl rfl (any_of HT_.out (by kernel_rfl)) (fun _ _ _ h => h) (Or.inl ⟨by rfl, ?_⟩) ?_ ?_
              rotate_left
              · intro w'
                go_simp
                with_reducible rfl
              rotate_left
              · simp only [Act.put, List.setIfInBounds_toArray, List.set_cons_zero, List.set_cons_succ, i64_w, i32_w]
                rfl
              refine pure_ (i := 7) (N := some 11) (v := ?_) (a' := ?_) #[true, true, true, true, true, true, true, true, false, false, false, false, false, false, false, false] rfl rfl (any_of HT_.out (by kernel_rfl)) (fun _ _ _ h => h) (Or.inl ⟨by rfl, ?_⟩) ?_ ?_
              rotate_left
              · intro w'
                go_simp
                with_reducible rfl
              rotate_left
              · simp only [Act.put, List.setIfInBounds_toArray, List.set_cons_zero, List.set_cons_succ, i64_w, i32_w]
                rfl
              refine pure_ (i := 8) (N := some 12) (v := ?_) (a' := ?_) #[true, true, true, true, true, true, true, true, true, false, false, false, false, false, false, false] rfl rfl (any_of HT_.out (by kernel_rfl)) (fun _ _ _ h => h) (Or.inl ⟨by rfl, ?_⟩) ?_ ?_
              rotate_left
              · intro w'
                go_simp
                with_reducible rfl
              rotate_left
              · simp only [Act.put, List.setIfInBounds_toArray, List.set_cons_zero, List.set_cons_succ, i64_w, i32_w]
                rfl
              refine pure_ (i := 10) (N := some 14) (v := ?_) (a' := ?_) #[true, true, true, true, true, true, true, true, true, false, true, false, false, false, false, false] rfl rfl (any_of HT_.out (by kernel_rfl)) (fun _ _ _ h => h) (Or.inl ⟨by rfl, ?_⟩) ?_ ?_
              rotate_left
              · intro w'
                go_simp
                with_reducible rfl
              rotate_left
              · simp only [Act.put, List.setIfInBounds_toArray, List.set_cons_zero, List.set_cons_succ, i64_w, i32_w]
                rfl
              refine pure_ (i := 11) (N := some 15) (v := ?_) (a' := ?_) #[true, true, true, true, true, true, true, true, true, false, true, true, false, false, false, false] rfl rfl (any_of HT_.out (by kernel_rfl)) (fun _ _ _ h => h) (Or.inl ⟨by rfl, ?_⟩) ?_ ?_
              rotate_left
              · intro w'
                go_simp
                with_reducible rfl
              rotate_left
              · simp only [Act.put, List.setIfInBounds_toArray, List.set_cons_zero, List.set_cons_succ, i64_w, i32_w]
                rfl
              refine pure_ (i := 12) (N := some 16) (v := ?_) (a' := ?_) #[true, true, true, true, true, true, true, true, true, false, true, true, true, false, false, false] rfl rfl (any_of HT_.out (by kernel_rfl)) (fun _ _ _ h => h) (Or.inl ⟨by rfl, ?_⟩) ?_ ?_
              rotate_left
              · intro w'
                go_simp
                with_reducible rfl
              rotate_left
              · simp only [Act.put, List.setIfInBounds_toArray, List.set_cons_zero, List.set_cons_succ, i64_w, i32_w]
                rfl
              refine take_ (i := 9) (N := some 13) (v := ?_) (a' := ?_) #[true, true, true, true, true, true, true, true, true, true, true, true, true, false, false, false] rfl rfl (take_ofW HT_.out HW_.out (by kernel_rfl)) (fun _ _ _ h => h) (Or.inl ⟨by rfl, ?_⟩) hHeld ?_ ?_
              rotate_left
              · rintro w' ⟨s0, s1, s2, s3, s4, s5, s6, s7, s8, s9⟩
                go_simp
                with_reducible rfl
              rotate_left
              · simp only [Act.put, List.setIfInBounds_toArray, List.set_cons_zero, List.set_cons_succ, i64_w, i32_w]
                rfl
              refine take_ (i := 13) (N := some 17) (v := ?_) (a' := ?_) #[true, true, true, true, true, true, true, true, true, true, true, true, true, true, false, false] rfl rfl (take_ofW HT_.out HW_.out (by kernel_rfl)) (fun _ _ _ h => h) (Or.inl ⟨by rfl, ?_⟩) hHeld ?_ ?_
              rotate_left
              · rintro w' ⟨s0, s1, s2, s3, s4, s5, s6, s7, s8, s9⟩
                go_simp
                with_reducible rfl
              rotate_left
              · simp only [Act.put, List.setIfInBounds_toArray, List.set_cons_zero, List.set_cons_succ, i64_w, i32_w]
                rfl
              refine one_ (i := 14) (N := some 18) #[true, true, true, true, true, true, true, true, true, true, true, true, true, true, true, false] rfl rfl (one_of HT_.out (by kernel_rfl)) (by decide) (fun K hK => ?_)
              refine goes_ Try.func31 (by kernel_rfl) rfl #[.slice A108_0 ((rd_T35 l0 x3_1).f0).length c108_0, .slice A109_0 ((rd_T35 l0 0).f0).length c109_0] (by rfl) rfl rfl pm ?_
              with_reducible refine (bytes_Equal.calls _ _ ((rd_T35 l0 x3_1).f0) _ _ ((rd_T35 l0 0).f0) false _ ?side1 ?side2 ?side3 ?side4 A5.out).mono ?_
              (case side1 => repeat (first | exact (Kd.C_below HR108_0.out HB.out) | (with_reducible refine Kd.C_alloc ?_ _) | (with_reducible refine Kd.C_drewN ?_ _) | (with_reducible refine Kd.C_drew ?_)))
              (case side2 => exact HC108_0.out)
              (case side3 => repeat (first | exact (Kd.C_below HR109_0.out HB.out) | (with_reducible refine Kd.C_alloc ?_ _) | (with_reducible refine Kd.C_drewN ?_ _) | (with_reducible refine Kd.C_drew ?_)))
              (case side4 => exact HC109_0.out)
              rintro e w10 ⟨rfl, hb⟩
              refine ⟨_, rfl, ?_⟩
              have n0_ := Aside0.mk (below_step pb hb)
              clear HB
              have HB := n0_
              clear n0_
              (try clear hb)
              (try clear hb2)
              (try clear hk)
              (try clear hi)
              refine hK.out _ _ ⟨((HB.out.cell (World.block_lt_of_cell? w _ hw108_0)).trans hw108_0), ((HB.out.cell (World.block_lt_of_cell? w _ hw108_1)).trans hw108_1), ((HB.out.cell (World.block_lt_of_cell? w _ hw108_2)).trans hw108_2), ((HB.out.cell (World.block_lt_of_cell? w _ hw108_3)).trans hw108_3), ((HB.out.cell (World.block_lt_of_cell? w _ hw108_4)).trans hw108_4), ((HB.out.cell (World.block_lt_of_cell? w _ hw109_0)).trans hw109_0), ((HB.out.cell (World.block_lt_of_cell? w _ hw109_1)).trans hw109_1), ((HB.out.cell (World.block_lt_of_cell? w _ hw109_2)).trans hw109_2), ((HB.out.cell (World.block_lt_of_cell? w _ hw109_3)).trans hw109_3), ((HB.out.cell (World.block_lt_of_cell? w _ hw109_4)).trans hw109_4)⟩ (fun hHeld => ?_)
              clear hK K
              refine norm_ (a' := ?_) ?_ ?_
              rotate_left
              · show Act.put _ (some 18) _ = _
                simp only [Act.put, List.setIfInBounds_toArray, List.set_cons_zero, List.set_cons_succ, i64_w, i32_w]
                rfl
              refine pure_ (i := 15) (N := some 19) (v := ?_) (a' := ?_) #[true, true, true, true, true, true, true, true, true, true, true, true, true, true, true, true] rfl rfl (any_of HT_.out (by kernel_rfl)) (fun _ _ _ h => h) (Or.inl ⟨by rfl, ?_⟩) ?_ ?_
              rotate_left
              · intro w'
                go_simp
                with_reducible rfl
              rotate_left
              · simp only [Act.put, List.setIfInBounds_toArray, List.set_cons_zero, List.set_cons_succ, i64_w, i32_w]
                rfl
              refine done_ (done_of HT_.out (by kernel_rfl)) ?_
              try go_wp2
              go_ret
              exact ⟨by first | rfl | (simp [errW_none, errW_some] <;> rfl) | (simp [*, errW_none, errW_some] <;> rfl), pb⟩
          · rw [if_neg c4] at H
            exact absurd H (by simp)
        · rw [if_neg c3] at H
          exact absurd H (by simp)
      · rw [if_neg c2] at H
        have c2b0 : decide (x3_1 < (l0.length : Int)) = false := decide_eq_false c2
        clear c2
        obtain rfl := Option.some.inj H
        try go_wp2
        have n0_ := Aside0.mk (below_drew1 HB.out)
        clear HB
        have HB := n0_
        clear n0_
        refine start_ (n := 16) (S := fun w' => True) (ds := []) #[false, false, false, false, false, false, false, false, false, false, false, false, false, false, false, false] (by kernel_rfl) rfl rfl trivial (fun hHeld => ?_); refine with_tabW squash_one.tab2 squash_one.bits2 (fun HT_ HW_ => ?_)
        generalize wr.drew = w11 at HB hHeld ⊢
        refine pure_ (i := 0) (N := some 4) (v := ?_) (a' := ?_) #[true, false, false, false, false, false, false, false, false, false, false, false, false, false, false, false] rfl rfl (any_of HT_.out (by kernel_rfl)) (fun _ _ _ h => h) (Or.inl ⟨by rfl, ?_⟩) ?_ ?_
        rotate_left
        · intro w'
          go_simp
          with_reducible rfl
        rotate_left
        · simp only [Act.put, List.setIfInBounds_toArray, List.set_cons_zero, List.set_cons_succ, i64_w, i32_w]
          rfl
        refine pure_ (i := 1) (N := some 5) (v := ?_) (a' := ?_) #[true, true, false, false, false, false, false, false, false, false, false, false, false, false, false, false] rfl rfl (any_of HT_.out (by kernel_rfl)) (fun _ _ _ h => h) (Or.inl ⟨by rfl, ?_⟩) ?_ ?_
        rotate_left
        · intro w'
          go_simp
          with_reducible rfl
        rotate_left
        · simp only [Act.put, List.setIfInBounds_toArray, List.set_cons_zero, List.set_cons_succ, i64_w, i32_w]
          rfl
        refine pure_ (i := 2) (N := some 6) (v := ?_) (a' := ?_) #[true, true, true, false, false, false, false, false, false, false, false, false, false, false, false, false] rfl rfl (any_of HT_.out (by kernel_rfl)) (fun _ _ _ h => h) (Or.inl ⟨by rfl, ?_⟩) ?_ ?_
        rotate_left
        · intro w'
          go_simp
          with_reducible rfl
        rotate_left
        · simp only [Act.put, List.setIfInBounds_toArray, List.set_cons_zero, List.set_cons_succ, i64_w, i32_w]
          rfl
        refine pure_ (i := 3) (N := some 7) (v := ?_) (a' := ?_) #[true, true, true, true, false, false, false, false, false, false, false, false, false, false, false, false] rfl rfl (any_of HT_.out (by kernel_rfl)) (fun _ _ _ h => h) (Or.inl ⟨by rfl, ?_⟩) ?_ ?_
        rotate_left
        · intro w'
          go_simp
          with_reducible rfl
        rotate_left
        · simp only [Act.put, List.setIfInBounds_toArray, List.set_cons_zero, List.set_cons_succ, i64_w, i32_w]
          rfl
        refine pure_ (i := 4) (N := some 8) (v := ?_) (a' := ?_) #[true, true, true, true, true, false, false, false, false, false, false, false, false, false, false, false] rfl rfl (any_of HT_.out (by kernel_rfl)) (fun _ _ _ h => h) (Or.inl ⟨by rfl, ?_⟩) ?_ ?_
        rotate_left
        · intro w'
          go_simp
          with_reducible rfl
        rotate_left
        · simp only [Act.put, List.setIfInBounds_toArray, List.set_cons_zero, List.set_cons_succ, i64_w, i32_w]
          rfl
        refine pure_ (i := 5) (N := some 9) (v := undef) (a' := ?_) #[true, true, true, true, true, true, false, false, false, false, false, false, false, false, false, false] rfl rfl (any_of HT_.out (by kernel_rfl)) (fun _ _ _ h => h) (Or.inr ⟨by rfl, rfl⟩) ?_ ?_
        rotate_left
        · simp only [Act.put, List.setIfInBounds_toArray, List.set_cons_zero, List.set_cons_succ, i64_w, i32_w]
          rfl
        refine pure_ (i := 6) (N := some 10) (v := undef) (a' := ?_) #[true, true, true, true, true, true, true, false, false, false, false, false, false, false, false, false] rfl rfl (any_of HT_.out (by kernel_rfl)) (fun _ _ _ h => h) (Or.inr ⟨by rfl, rfl⟩) ?_ ?_
        rotate_left
        · simp only [Act.put, List.setIfInBounds_toArray, List.set_cons_zero, List.set_cons_succ, i64_w, i32_w]
          rfl
        refine pure_ (i := 7) (N := some 11) (v := undef) (a' := ?_) #[true, true, true, true, true, true, true, true, false, false, false, false, false, false, false, false] rfl rfl (any_of HT_.out (by kernel_rfl)) (fun _ _ _ h => h) (Or.inr ⟨by rfl, rfl⟩) ?_ ?_
        rotate_left
        · simp only [Act.put, List.setIfInBounds_toArray, List.set_cons_zero, List.set_cons_succ, i64_w, i32_w]
          rfl
        refine pure_ (i := 8) (N := some 12) (v := undef) (a' := ?_) #[true, true, true, true, true, true, true, true, true, false, false, false, false, false, false, false] rfl rfl (any_of HT_.out (by kernel_rfl)) (fun _ _ _ h => h) (Or.inr ⟨by rfl, rfl⟩) ?_ ?_
        rotate_left
        · simp only [Act.put, List.setIfInBounds_toArray, List.set_cons_zero, List.set_cons_succ, i64_w, i32_w]
          rfl
        refine pure_ (i := 9) (N := some 13) (v := undef) (a' := ?_) #[true, true, true, true, true, true, true, true, true, true, false, false, false, false, false, false] rfl rfl (any_of HT_.out (by kernel_rfl)) (fun _ _ _ h => h) (Or.inr ⟨by rfl, rfl⟩) ?_ ?_
        rotate_left
        · simp only [Act.put, List.setIfInBounds_toArray, List.set_cons_zero, List.set_cons_succ, i64_w, i32_w]
          rfl
        refine pure_ (i := 10) (N := some 14) (v := undef) (a' := ?_) #[true, true, true, true, true, true, true, true, true, true, true, false, false, false, false, false] rfl rfl (any_of HT_.out (by kernel_rfl)) (fun _ _ _ h => h) (Or.inr ⟨by rfl, rfl⟩) ?_ ?_
        rotate_left
        · simp only [Act.put, List.setIfInBounds_toArray, List.set_cons_zero, List.set_cons_succ, i64_w, i32_w]
          rfl
        refine pure_ (i := 11) (N := some 15) (v := undef) (a' := ?_) #[true, true, true, true, true, true, true, true, true, true, true, true, false, false, false, false] rfl rfl (any_of HT_.out (by kernel_rfl)) (fun _ _ _ h => h) (Or.inr ⟨by rfl, rfl⟩) ?_ ?_
        rotate_left
        · simp only [Act.put, List.setIfInBounds_toArray, List.set_cons_zero, List.set_cons_succ, i64_w, i32_w]
          rfl
        refine pure_ (i := 12) (N := some 16) (v := undef) (a' := ?_) #[true, true, true, true, true, true, true, true, true, true, true, true, true, false, false, false] rfl rfl (any_of HT_.out (by kernel_rfl)) (fun _ _ _ h => h) (Or.inr ⟨by rfl, rfl⟩) ?_ ?_
        rotate_left
        · simp only [Act.put, List.setIfInBounds_toArray, List.set_cons_zero, List.set_cons_succ, i64_w, i32_w]
          rfl
        refine pure_ (i := 13) (N := some 17) (v := undef) (a' := ?_) #[true, true, true, true, true, true, true, true, true, true, true, true, true, true, false, false] rfl rfl (any_of HT_.out (by kernel_rfl)) (fun _ _ _ h => h) (Or.inr ⟨by rfl, rfl⟩) ?_ ?_
        rotate_left
        · simp only [Act.put, List.setIfInBounds_toArray, List.set_cons_zero, List.set_cons_succ, i64_w, i32_w]
          rfl
        refine pure_ (i := 14) (N := some 18) (v := undef) (a' := ?_) #[true, true, true, true, true, true, true, true, true, true, true, true, true, true, true, false] rfl rfl (any_of HT_.out (by kernel_rfl)) (fun _ _ _ h => h) (Or.inr ⟨by rfl, rfl⟩) ?_ ?_
        rotate_left
        · simp only [Act.put, List.setIfInBounds_toArray, List.set_cons_zero, List.set_cons_succ, i64_w, i32_w]
          rfl
        refine pure_ (i := 15) (N := some 19) (v := ?_) (a' := ?_) #[true, true, true, true, true, true, true, true, true, true, true, true, true, true, true, true] rfl rfl (any_of HT_.out (by kernel_rfl)) (fun _ _ _ h => h) (Or.inl ⟨by rfl, ?_⟩) ?_ ?_
        rotate_left
        · intro w'
          go_simp
          with_reducible rfl
        rotate_left
        · simp only [Act.put, List.setIfInBounds_toArray, List.set_cons_zero, List.set_cons_succ, i64_w, i32_w]
          rfl
        refine done_ (done_of HT_.out (by kernel_rfl)) ?_
        try go_wp2
        go_ret
        exact ⟨by first | rfl | (simp [errW_none, errW_some] <;> rfl) | (simp [*, errW_none, errW_some] <;> rfl), pb⟩

end Go.Proofs.Ytnepbpcpfeejkaa.K
