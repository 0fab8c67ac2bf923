-- Printed by the prover's own turned printer (wip/printer in the prover's repo); Lean checks it.
import Derived.Test.YtldndnjajpjajaaK0
import Derived.Test.YtldndnjajpjajaaKf12
import Derived.Test.YtldndnjajpjajaaKf10
import Derived.Test.YtldndnjajpjajaaKf14
import Derived.Test.YtldndnjajpjajaaKf17
import Derived.Test.YtldndnjajpjajaaKf20
namespace Go.Proofs.Ytldndnjajpjajaa.K
open Go.RowKit Go.Proofs.YtldndnjajpjajaaW.PrintWords Go.Proofs.YtldndnjajpjajaaW.PrintLast Go.Proofs.YtldndnjajpjajaaW.PrintMore
attribute [local go_sem] max2_int min2_int max_two min_two max_three min_three max_four min_four   -- for this text's walks alone
set_option linter.unusedVariables false
set_option linter.unusedSimpArgs false

/-! ### halyardlaw7_KeyBack: function 8 -/
mutual
def halyardlaw7_KeyBack.j0 : Nat → List Int → Bool → Option (Bool)
  | 0, _, _ => none
  | k + 1, x7, x64 => if x64 = true then (some false) else (halyardlaw7_KeyBack.l0 k x7 (x7.length : Int) 0)
def halyardlaw7_KeyBack.l0 : Nat → List Int → Int → Int → Option (Bool)
  | 0, _, _, _ => none
  | k + 1, x7, x66, x67 => if x67 < x66 then (if 0 ≤ x67 then (if x67 ≤ (x7.length : Int) then ((key_TakeBytes.f (x7.take (x67 : Int).toNat)).bind fun bt319 => (if bt319.2.2 = 5 then (halyardlaw7_KeyBack.l0 k x7 x66 (wrap64 (x67 + 1))) else (some false))) else (none)) else (none)) else ((halyardlaw7_awake.f k).bind fun t324 => (some t324))
end
def halyardlaw7_KeyBack.f (k : Nat) (l0 : List Int) (l1 : List Int) (a2 : Int) : Option (Bool) := if (l0.length : Int) > 300 then ((halyardlaw7_awake.f k).bind fun t289 => (some t289)) else ((key_Bytes.f k ([] : List Int) l0).bind fun t290 => ((some (([] : List Int) : List Int)).bind fun y293 => (if y293.length + t290.length < 140737488355328 then ((some (y293 ++ t290 : List Int)).bind fun y296 => (if y296.length + l1.length < 140737488355328 then ((key_TakeBytes.f (y296 ++ l1)).bind fun bt302 => ((key_Number.f k ([] : List Int) a2).bind fun t307 => (if t307.length + l1.length < 140737488355328 then ((key_TakeNumber.f k (t307 ++ l1)).bind fun bt313 => (if (strOfNums bt302.1).toList = (strOfNums l0).toList then (if bt302.2.1 = (t290.length : Int) then (if bt302.2.2 = 0 then (if bt313.1 = a2 then (halyardlaw7_KeyBack.j0 k t290 (bt313.2 != 0)) else (halyardlaw7_KeyBack.j0 k t290 true)) else (halyardlaw7_KeyBack.j0 k t290 true)) else (halyardlaw7_KeyBack.j0 k t290 true)) else (halyardlaw7_KeyBack.j0 k t290 true))) else (none)))) else (none))) else (none))))
theorem halyardlaw7_KeyBack.mono_l : ∀ k, (∀ y0 y1, LeO (halyardlaw7_KeyBack.j0 k y0 y1) (halyardlaw7_KeyBack.j0 (k + 1) y0 y1)) ∧ (∀ y0 y1 y2, LeO (halyardlaw7_KeyBack.l0 k y0 y1 y2) (halyardlaw7_KeyBack.l0 (k + 1) y0 y1 y2))
  | 0 => ⟨fun _ _ r h => by simp [halyardlaw7_KeyBack.j0] at h, fun _ _ _ r h => by simp [halyardlaw7_KeyBack.l0] at h⟩
  | k + 1 => by
    obtain ⟨ih0, ih1⟩ := halyardlaw7_KeyBack.mono_l k
    refine ⟨?_, ?_⟩
    · intro y0 y1
      unfold halyardlaw7_KeyBack.j0
      repeat' first
      | (with_reducible exact ih0 _ _)
      | (with_reducible exact ih1 _ _ _)
      | (with_reducible exact halyardlaw7_awake.mono _)
      | (with_reducible exact key_Bytes.mono _ _ _)
      | (with_reducible exact key_Number.mono _ _ _)
      | (with_reducible exact key_TakeNumber.mono _ _)
      | (with_reducible exact LeO.refl _)
      | (with_reducible exact LeO.none _)
      | (with_reducible refine LeO.ite ?_ ?_)
      | (with_reducible refine LeO.bind ?_ (fun _ => ?_))
      | exact ih0 _ _
      | exact ih1 _ _ _
      | exact halyardlaw7_awake.mono _
      | exact key_Bytes.mono _ _ _
      | exact key_Number.mono _ _ _
      | exact key_TakeNumber.mono _ _
      | exact LeO.none _
      | refine LeO.ite ?_ ?_
      | refine LeO.bind ?_ (fun _ => ?_)
    · intro y0 y1 y2
      unfold halyardlaw7_KeyBack.l0
      repeat' first
      | (with_reducible exact ih0 _ _)
      | (with_reducible exact ih1 _ _ _)
      | (with_reducible exact halyardlaw7_awake.mono _)
      | (with_reducible exact key_Bytes.mono _ _ _)
      | (with_reducible exact key_Number.mono _ _ _)
      | (with_reducible exact key_TakeNumber.mono _ _)
      | (with_reducible exact LeO.refl _)
      | (with_reducible exact LeO.none _)
      | (with_reducible refine LeO.ite ?_ ?_)
      | (with_reducible refine LeO.bind ?_ (fun _ => ?_))
      | exact ih0 _ _
      | exact ih1 _ _ _
      | exact halyardlaw7_awake.mono _
      | exact key_Bytes.mono _ _ _
      | exact key_Number.mono _ _ _
      | exact key_TakeNumber.mono _ _
      | exact LeO.none _
      | refine LeO.ite ?_ ?_
      | refine LeO.bind ?_ (fun _ => ?_)
theorem halyardlaw7_KeyBack.mono : ∀ a0 a1 a2 k, LeO (halyardlaw7_KeyBack.f k a0 a1 a2) (halyardlaw7_KeyBack.f (k + 1) a0 a1 a2) := by
  intro a0 a1 a2 k
  obtain ⟨ih0, ih1⟩ := halyardlaw7_KeyBack.mono_l k
  unfold halyardlaw7_KeyBack.f
  repeat' first
      | (with_reducible exact ih0 _ _)
      | (with_reducible exact ih1 _ _ _)
      | (with_reducible exact halyardlaw7_awake.mono _)
      | (with_reducible exact key_Bytes.mono _ _ _)
      | (with_reducible exact key_Number.mono _ _ _)
      | (with_reducible exact key_TakeNumber.mono _ _)
      | (with_reducible exact LeO.refl _)
      | (with_reducible exact LeO.none _)
      | (with_reducible refine LeO.ite ?_ ?_)
      | (with_reducible refine LeO.bind ?_ (fun _ => ?_))
      | exact ih0 _ _
      | exact ih1 _ _ _
      | exact halyardlaw7_awake.mono _
      | exact key_Bytes.mono _ _ _
      | exact key_Number.mono _ _ _
      | exact key_TakeNumber.mono _ _
      | exact LeO.none _
      | refine LeO.ite ?_ ?_
      | refine LeO.bind ?_ (fun _ => ?_)
set_option maxHeartbeats 8000000 in
set_option maxRecDepth 100000 in
theorem halyardlaw7_KeyBack.calls (k : Nat) (A0 : Option Addr) (c0 : Nat) (l0 : List Int) (A1 : Option Addr) (c1 : Nat) (l1 : List Int) (a2 : Int) (r : Bool) (w : World) (hr0 : Kd.C (Kd.int .u8) w A0 l0.length l0) (hc0 : l0.length ≤ c0) (hr1 : Kd.C (Kd.int .u8) w A1 l1.length l1) (hc1 : l1.length ≤ c1) (h : halyardlaw7_KeyBack.f k l0 l1 a2 = some r) :
    Calls Try.prog 8 #[.slice A0 l0.length c0, .slice A1 l1.length c1, .int .i64 a2] w fun e w' => e = .returned (.bool r) ∧ Below w.heap.size w w' := by
  have HR0 := Aside0.mk hr0
  have HC0 := Aside0.mk hc0
  clear hr0 hc0
  have HR1 := Aside0.mk hr1
  have HC1 := Aside0.mk hc1
  clear hr1 hc1
  have HB := Aside0.mk (Below.refl w.heap.size w)
  have H : (if (l0.length : Int) > 300 then ((halyardlaw7_awake.f k).bind fun t289 => (some t289)) else ((key_Bytes.f k ([] : List Int) l0).bind fun t290 => ((some (([] : List Int) : List Int)).bind fun y293 => (if y293.length + t290.length < 140737488355328 then ((some (y293 ++ t290 : List Int)).bind fun y296 => (if y296.length + l1.length < 140737488355328 then ((key_TakeBytes.f (y296 ++ l1)).bind fun bt302 => ((key_Number.f k ([] : List Int) a2).bind fun t307 => (if t307.length + l1.length < 140737488355328 then ((key_TakeNumber.f k (t307 ++ l1)).bind fun bt313 => (if (strOfNums bt302.1).toList = (strOfNums l0).toList then (if bt302.2.1 = (t290.length : Int) then (if bt302.2.2 = 0 then (if bt313.1 = a2 then (halyardlaw7_KeyBack.j0 k t290 (bt313.2 != 0)) else (halyardlaw7_KeyBack.j0 k t290 true)) else (halyardlaw7_KeyBack.j0 k t290 true)) else (halyardlaw7_KeyBack.j0 k t290 true)) else (halyardlaw7_KeyBack.j0 k t290 true))) else (none)))) else (none))) else (none))))) = some r := h
  clear h
  by_cases c4 : (l0.length : Int) > 300
  · rw [if_pos c4] at H
    have c4b0 : decide (300 < (l0.length : Int)) = true := decide_eq_true c4
    have c4b1 : decide (300 < l0.length) = true := decide_eq_true (by omega)
    clear c4
    replace H := Option.bind_eq_some_iff.mp H
    obtain ⟨t289, A50, H⟩ := H
    replace H : (some t289) = some r := H
    have A5 := Aside0.mk A50
    clear A50
    obtain rfl := Option.some.inj H
    go_enter Try.func8, Try.ntmps8
    go_wp2_with (first | ((with_reducible refine gate_callee (f := 10) rfl ?_); refine goesL_ (some 20) rfl rfl Try.func10 (by kernel_rfl) rfl #[] rfl (by (try simp only [List.map_toArray, List.map_cons, List.map_nil]); first | done | rfl | (simp only [List.length_drop, List.length_take]; rfl)) ?_; (with_reducible refine (halyardlaw7_awake.calls k  t289 _ A5.out).mono ?_); rintro e w6 ⟨rfl, hb⟩; refine ⟨_, rfl, ?_⟩; have n0_ := Aside0.mk (below_step (by repeat (first | (with_reducible first | exact HB.out | apply below_alloc | apply pw_below_drewN | apply below_drew1) | exact HB.out)) hb); clear HB; have HB := n0_; clear n0_; (try clear hb); (try clear hb2); (try clear hk); (try clear hi)))
    go_ret
    exact ⟨by first | rfl | (simp [errW_none, errW_some] <;> rfl) | (simp [*, errW_none, errW_some] <;> rfl), by repeat (first | (with_reducible first | exact HB.out | apply below_alloc | apply pw_below_drewN | apply below_drew1) | exact HB.out)⟩
  · rw [if_neg c4] at H
    have c4b0 : decide (300 < (l0.length : Int)) = false := decide_eq_false c4
    have c4b1 : decide (300 < l0.length) = false := decide_eq_false (by omega)
    clear c4
    replace H := Option.bind_eq_some_iff.mp H
    obtain ⟨t290, A70, H⟩ := H
    replace H : ((some (([] : List Int) : List Int)).bind fun y293 => (if y293.length + t290.length < 140737488355328 then ((some (y293 ++ t290 : List Int)).bind fun y296 => (if y296.length + l1.length < 140737488355328 then ((key_TakeBytes.f (y296 ++ l1)).bind fun bt302 => ((key_Number.f k ([] : List Int) a2).bind fun t307 => (if t307.length + l1.length < 140737488355328 then ((key_TakeNumber.f k (t307 ++ l1)).bind fun bt313 => (if (strOfNums bt302.1).toList = (strOfNums l0).toList then (if bt302.2.1 = (t290.length : Int) then (if bt302.2.2 = 0 then (if bt313.1 = a2 then (halyardlaw7_KeyBack.j0 k t290 (bt313.2 != 0)) else (halyardlaw7_KeyBack.j0 k t290 true)) else (halyardlaw7_KeyBack.j0 k t290 true)) else (halyardlaw7_KeyBack.j0 k t290 true)) else (halyardlaw7_KeyBack.j0 k t290 true))) else (none)))) else (none))) else (none))) = some r := H
    have A7 := Aside0.mk A70
    clear A70
    obtain ⟨y293, hy293⟩ : ∃ y_ : List Int, y_ = (([] : List Int)) := ⟨_, rfl⟩
    replace H : (if y293.length + t290.length < 140737488355328 then ((some (y293 ++ t290 : List Int)).bind fun y296 => (if y296.length + l1.length < 140737488355328 then ((key_TakeBytes.f (y296 ++ l1)).bind fun bt302 => ((key_Number.f k ([] : List Int) a2).bind fun t307 => (if t307.length + l1.length < 140737488355328 then ((key_TakeNumber.f k (t307 ++ l1)).bind fun bt313 => (if (strOfNums bt302.1).toList = (strOfNums l0).toList then (if bt302.2.1 = (t290.length : Int) then (if bt302.2.2 = 0 then (if bt313.1 = a2 then (halyardlaw7_KeyBack.j0 k t290 (bt313.2 != 0)) else (halyardlaw7_KeyBack.j0 k t290 true)) else (halyardlaw7_KeyBack.j0 k t290 true)) else (halyardlaw7_KeyBack.j0 k t290 true)) else (halyardlaw7_KeyBack.j0 k t290 true))) else (none)))) else (none))) else (none)) = some r := by first | (rw [hy293]; with_reducible exact H) | (have H2_ := (Option.bind_some _ _).symm.trans H; rw [hy293]; with_reducible exact H2_) | (have H2_ := (Option.bind_some _ _).symm.trans H; with_reducible exact H2_) | with_reducible exact H | (rw [hy293]; exact H) | exact H
    have Ny293 := Aside0.mk hy293
    clear hy293
    by_cases c8 : y293.length + t290.length < 140737488355328
    · rw [if_pos c8] at H
      have LMc8 := Aside0.mk c8
      clear c8
      obtain ⟨y296, hy296⟩ : ∃ y_ : List Int, y_ = (y293 ++ t290) := ⟨_, rfl⟩
      replace H : (if y296.length + l1.length < 140737488355328 then ((key_TakeBytes.f (y296 ++ l1)).bind fun bt302 => ((key_Number.f k ([] : List Int) a2).bind fun t307 => (if t307.length + l1.length < 140737488355328 then ((key_TakeNumber.f k (t307 ++ l1)).bind fun bt313 => (if (strOfNums bt302.1).toList = (strOfNums l0).toList then (if bt302.2.1 = (t290.length : Int) then (if bt302.2.2 = 0 then (if bt313.1 = a2 then (halyardlaw7_KeyBack.j0 k t290 (bt313.2 != 0)) else (halyardlaw7_KeyBack.j0 k t290 true)) else (halyardlaw7_KeyBack.j0 k t290 true)) else (halyardlaw7_KeyBack.j0 k t290 true)) else (halyardlaw7_KeyBack.j0 k t290 true))) else (none)))) else (none)) = some r := by first | (rw [hy296]; with_reducible exact H) | (have H2_ := (Option.bind_some _ _).symm.trans H; rw [hy296]; with_reducible exact H2_) | (have H2_ := (Option.bind_some _ _).symm.trans H; with_reducible exact H2_) | with_reducible exact H | (rw [hy296]; exact H) | exact H
      have Ny296 := Aside0.mk hy296
      clear hy296
      by_cases c9 : y296.length + l1.length < 140737488355328
      · rw [if_pos c9] at H
        have LMc9 := Aside0.mk c9
        clear c9
        obtain ⟨y299, hy299⟩ : ∃ y_ : List Int, y_ = (y296 ++ l1) := ⟨_, rfl⟩
        replace H : ((key_TakeBytes.f y299).bind fun bt302 => ((key_Number.f k ([] : List Int) a2).bind fun t307 => (if t307.length + l1.length < 140737488355328 then ((key_TakeNumber.f k (t307 ++ l1)).bind fun bt313 => (if (strOfNums bt302.1).toList = (strOfNums l0).toList then (if bt302.2.1 = (t290.length : Int) then (if bt302.2.2 = 0 then (if bt313.1 = a2 then (halyardlaw7_KeyBack.j0 k t290 (bt313.2 != 0)) else (halyardlaw7_KeyBack.j0 k t290 true)) else (halyardlaw7_KeyBack.j0 k t290 true)) else (halyardlaw7_KeyBack.j0 k t290 true)) else (halyardlaw7_KeyBack.j0 k t290 true))) else (none)))) = some r := by first | (rw [hy299]; with_reducible exact H) | (have H2_ := (Option.bind_some _ _).symm.trans H; rw [hy299]; with_reducible exact H2_) | (have H2_ := (Option.bind_some _ _).symm.trans H; with_reducible exact H2_) | with_reducible exact H | (rw [hy299]; exact H) | exact H
        have Ny299 := Aside0.mk hy299
        clear hy299
        replace H := Option.bind_eq_some_iff.mp H
        obtain ⟨⟨t302, t303, t304⟩, A100, H⟩ := H
        replace H : ((key_Number.f k ([] : List Int) a2).bind fun t307 => (if t307.length + l1.length < 140737488355328 then ((key_TakeNumber.f k (t307 ++ l1)).bind fun bt313 => (if (strOfNums t302).toList = (strOfNums l0).toList then (if t303 = (t290.length : Int) then (if t304 = 0 then (if bt313.1 = a2 then (halyardlaw7_KeyBack.j0 k t290 (bt313.2 != 0)) else (halyardlaw7_KeyBack.j0 k t290 true)) else (halyardlaw7_KeyBack.j0 k t290 true)) else (halyardlaw7_KeyBack.j0 k t290 true)) else (halyardlaw7_KeyBack.j0 k t290 true))) else (none))) = some r := H
        have A10 := Aside0.mk A100
        clear A100
        replace H := Option.bind_eq_some_iff.mp H
        obtain ⟨t307, A110, H⟩ := H
        replace H : (if t307.length + l1.length < 140737488355328 then ((key_TakeNumber.f k (t307 ++ l1)).bind fun bt313 => (if (strOfNums t302).toList = (strOfNums l0).toList then (if t303 = (t290.length : Int) then (if t304 = 0 then (if bt313.1 = a2 then (halyardlaw7_KeyBack.j0 k t290 (bt313.2 != 0)) else (halyardlaw7_KeyBack.j0 k t290 true)) else (halyardlaw7_KeyBack.j0 k t290 true)) else (halyardlaw7_KeyBack.j0 k t290 true)) else (halyardlaw7_KeyBack.j0 k t290 true))) else (none)) = some r := H
        have A11 := Aside0.mk A110
        clear A110
        by_cases c12 : t307.length + l1.length < 140737488355328
        · rw [if_pos c12] at H
          have LMc12 := Aside0.mk c12
          clear c12
          obtain ⟨y310, hy310⟩ : ∃ y_ : List Int, y_ = (t307 ++ l1) := ⟨_, rfl⟩
          replace H : ((key_TakeNumber.f k y310).bind fun bt313 => (if (strOfNums t302).toList = (strOfNums l0).toList then (if t303 = (t290.length : Int) then (if t304 = 0 then (if bt313.1 = a2 then (halyardlaw7_KeyBack.j0 k t290 (bt313.2 != 0)) else (halyardlaw7_KeyBack.j0 k t290 true)) else (halyardlaw7_KeyBack.j0 k t290 true)) else (halyardlaw7_KeyBack.j0 k t290 true)) else (halyardlaw7_KeyBack.j0 k t290 true))) = some r := by first | (rw [hy310]; with_reducible exact H) | (have H2_ := (Option.bind_some _ _).symm.trans H; rw [hy310]; with_reducible exact H2_) | (have H2_ := (Option.bind_some _ _).symm.trans H; with_reducible exact H2_) | with_reducible exact H | (rw [hy310]; exact H) | exact H
          have Ny310 := Aside0.mk hy310
          clear hy310
          replace H := Option.bind_eq_some_iff.mp H
          obtain ⟨⟨t313, t314⟩, A130, H⟩ := H
          replace H : (if (strOfNums t302).toList = (strOfNums l0).toList then (if t303 = (t290.length : Int) then (if t304 = 0 then (if t313 = a2 then (halyardlaw7_KeyBack.j0 k t290 (t314 != 0)) else (halyardlaw7_KeyBack.j0 k t290 true)) else (halyardlaw7_KeyBack.j0 k t290 true)) else (halyardlaw7_KeyBack.j0 k t290 true)) else (halyardlaw7_KeyBack.j0 k t290 true)) = some r := H
          have A13 := Aside0.mk A130
          clear A130
          have HC14 := Aside0.mk H
          clear H
          go_enter Try.func8, Try.ntmps8
          go_upto_region 6 with (first | ((with_reducible refine gate_callee (f := 12) rfl ?_); refine goesL_ (some 22) rfl rfl Try.func12 (by kernel_rfl) rfl #[.slice none 0 0, .slice A0 l0.length c0] rfl (by (try simp only [List.map_toArray, List.map_cons, List.map_nil]); first | done | rfl | (simp only [List.length_drop, List.length_take]; rfl)) ?_; (refine (key_Bytes.calls k _ _ ([] : List Int) _ _ l0 t290 _ ?side1 ?side2 ?side3 ?side4 A7.out).mono ?_); (case side1 => exact Kd.C_nil _ _); (case side2 => exact Nat.le_refl _); (case side3 => repeat (first | exact HR0.out | (with_reducible refine Kd.C_alloc ?_ _) | (with_reducible refine Kd.C_drewN ?_ _) | (with_reducible refine Kd.C_drew ?_))); (case side4 => exact HC0.out); rintro e w15 ⟨v291, rfl, ho0, hb⟩; refine ⟨_, rfl, ?_⟩; have n0_ := Aside0.mk (Kd.R_lower ho0 (below_size (by repeat (first | (with_reducible first | exact HB.out | apply below_alloc | apply pw_below_drewN | apply below_drew1) | exact HB.out)))); have n1_ := Aside0.mk (below_step (by repeat (first | (with_reducible first | exact HB.out | apply below_alloc | apply pw_below_drewN | apply below_drew1) | exact HB.out)) hb); clear HB; have HO292 := n0_; have HB := n1_; clear n0_ n1_; (try clear hb); (try clear hb2); (try clear hk); (try clear hi); (try clear ho0)) | ((with_reducible refine gate_dst (N := 24) rfl ?_); (try (refine gate_guard (by rfl) ?_; dsimp only)); refine Kd.R_lit (Kd.int .u8) _ 5 ?hg (N := 24) ?hd (xs := ([] : List Int)) (inner := []) (ok := fun _ => True) (okp := fun _ => True) ?hr ?hp (fun _ hk => hk) trivial (Below.refl _ _) (Nat.le_refl _) (by simp) ?_; (case hd => rfl); (case hg => rfl); (case hr => first | (go_simp; done) | (go_simp; rfl)); (case hp => exact (Reps.none _ _)); intro v294 w16 ho17 hb hg_ hnew_; clear hg_ hnew_; (first | rw [← Ny293.out] at ho17 | (simp only [Int.reduceToNat] at ho17; rw [← Ny293.out] at ho17)); have n0_ := Aside0.mk (Kd.R_elder' (by (with_reducible repeat (first | apply Kd.R_alloc | apply Kd.R_drewN | apply Kd.R_drew)); exact HO292.out) (Kd.R_base ho17) hb); have n1_ := Aside0.mk (Kd.R_lower (Kd.R_new' ho17 (Kd.R_lt (by (with_reducible repeat (first | apply Kd.R_alloc | apply Kd.R_drewN | apply Kd.R_drew)); exact HO292.out))) (below_size (by repeat (first | (with_reducible first | exact HB.out | apply below_alloc | apply pw_below_drewN | apply below_drew1) | exact HB.out)))); have n2_ := Aside0.mk (below_step (by repeat (first | (with_reducible first | exact HB.out | apply below_alloc | apply pw_below_drewN | apply below_drew1) | exact HB.out)) hb); clear HO292; clear HB; have HO292 := n0_; have HO295 := n1_; have HB := n2_; clear n0_ n1_ n2_; clear hb ho17; obtain ⟨Ao19, co19, eo19⟩ := Kd.R_slice HO292.out; subst eo19) | ((with_reducible refine gate_builtin (b := .append) (xs := #[.tmp 24, .tmp 25]) rfl ?_); (try (refine gate_guard (by rfl) ?_; dsimp only)); at_builtin; refine Kd.R_append_rows (Kd.int .u8) (w0 := w) w.heap.size rfl (.tmp 24) (.tmp 25) 23 5 (.int .u8 0) 1 rfl Try.underlying23 info5 rfl (by decide) (by omega) v294 y293 t290 _ _ _ (fun k_ => some k_ ≠ (.slice Ao19 t290.length co19 : Value).ownBlock) (fun _ => False) rfl rfl ?aO ?aR (fun _ _ h => h) (fun _ h => h.elim) ?aF ?aB ?aS ?aL ?_; (case aR => repeat (first | exact (Kd.R_reads' HO292.out).2.2 | (with_reducible refine Kd.C_alloc ?_ _) | (with_reducible refine Kd.C_drewN ?_ _) | (with_reducible refine Kd.C_drew ?_))); (case aB => exact (by repeat (first | (with_reducible first | exact HB.out | apply below_alloc | apply pw_below_drewN | apply below_drew1) | exact HB.out))); (case aF => exact (fun k_ hk => Kd.fresh' (Kd.R_lt (by (with_reducible repeat (first | apply Kd.R_alloc | apply Kd.R_drewN | apply Kd.R_drew)); exact HO292.out)) k_ hk)); (case aO => exact (by (with_reducible repeat (first | apply Kd.R_alloc | apply Kd.R_drewN | apply Kd.R_drew)); exact Kd.R_mono HO295.out (fun _ hk => hk.2))); (case aS => exact (below_size (by repeat (first | (with_reducible first | exact HB.out | apply below_alloc | apply pw_below_drewN | apply below_drew1) | exact HB.out)))); (case aL => have := LMc8.out; omega); intro v297 w18 ho hb hg hat; rw [← Ny296.out] at ho; have n0_ := Aside0.mk (Kd.R_after (ok := (fun _ => True)) (by (with_reducible repeat (first | apply Kd.R_alloc | apply Kd.R_drewN | apply Kd.R_drew)); exact HO292.out) hg hat); have n1_ := Aside0.mk (hb); have n2_ := Aside0.mk (ho); clear HO292; clear HB; clear HO295; have HO292 := n0_; have HB := n1_; have HO298 := n2_; clear n0_ n1_ n2_; clear ho hb hg hat) | ((with_reducible refine gate_builtin (b := .append) (xs := #[.tmp 26, .tmp 27]) rfl ?_); (try (refine gate_guard (by rfl) ?_; dsimp only)); at_builtin; refine Kd.R_append_rows (Kd.int .u8) (w0 := w) w.heap.size rfl (.tmp 26) (.tmp 27) 23 5 (.int .u8 0) 1 rfl Try.underlying23 info5 rfl (by decide) (by omega) v297 y296 l1 _ _ _ (fun k_ => some k_ ≠ (.slice Ao19 t290.length co19 : Value).ownBlock) (fun _ => False) rfl rfl ?aO ?aR (fun _ _ h => h) (fun _ h => h.elim) ?aF ?aB ?aS ?aL ?_; (case aR => repeat (first | exact (Kd.C_below HR1.out HB.out) | (with_reducible refine Kd.C_alloc ?_ _) | (with_reducible refine Kd.C_drewN ?_ _) | (with_reducible refine Kd.C_drew ?_))); (case aB => exact (by repeat (first | (with_reducible first | exact HB.out | apply below_alloc | apply pw_below_drewN | apply below_drew1) | exact HB.out))); (case aF => exact (fun k_ hk => Kd.fresh' (Kd.R_lt (by (with_reducible repeat (first | apply Kd.R_alloc | apply Kd.R_drewN | apply Kd.R_drew)); exact HO292.out)) k_ hk)); (case aO => exact (by (with_reducible repeat (first | apply Kd.R_alloc | apply Kd.R_drewN | apply Kd.R_drew)); exact HO298.out)); (case aS => exact (below_size (by repeat (first | (with_reducible first | exact HB.out | apply below_alloc | apply pw_below_drewN | apply below_drew1) | exact HB.out)))); (case aL => have := LMc9.out; omega); intro v300 w20 ho hb hg hat; rw [← Ny299.out] at ho; have n0_ := Aside0.mk (Kd.R_after (ok := (fun _ => True)) (by (with_reducible repeat (first | apply Kd.R_alloc | apply Kd.R_drewN | apply Kd.R_drew)); exact HO292.out) hg hat); have n1_ := Aside0.mk (hb); have n2_ := Aside0.mk (ho); clear HO292; clear HB; clear HO298; have HO292 := n0_; have HB := n1_; have HO301 := n2_; clear n0_ n1_ n2_; clear ho hb hg hat; obtain ⟨Ao21, co21, eo21⟩ := Kd.R_slice HO301.out; subst eo21) | ((with_reducible refine gate_callee (f := 20) rfl ?_); refine goesL_ (some 29) rfl rfl Try.func20 (by kernel_rfl) rfl #[.slice Ao21 y299.length co21] rfl (by (try simp only [List.map_toArray, List.map_cons, List.map_nil]); first | done | rfl | (simp only [List.length_drop, List.length_take]; rfl)) ?_; (with_reducible refine (key_TakeBytes.calls _ _ y299 t302 t303 t304 _ ?side1 ?side2 A10.out).mono ?_); (case side1 => repeat (first | exact (Kd.R_reads' HO301.out).2.2 | (with_reducible refine Kd.C_alloc ?_ _) | (with_reducible refine Kd.C_drewN ?_ _) | (with_reducible refine Kd.C_drew ?_))); (case side2 => exact (Kd.R_reads' HO301.out).2.1); rintro e w22 ⟨v305, rfl, ho0, hb⟩; refine ⟨_, rfl, ?_⟩; have n0_ := Aside0.mk (Kd.R_elder' (by (with_reducible repeat (first | apply Kd.R_alloc | apply Kd.R_drewN | apply Kd.R_drew)); exact HO292.out) (Kd.R_base ho0) hb); have n1_ := Aside0.mk (Kd.R_elder' (by (with_reducible repeat (first | apply Kd.R_alloc | apply Kd.R_drewN | apply Kd.R_drew)); exact HO301.out) (Kd.R_base ho0) hb); have n2_ := Aside0.mk (Kd.R_lower (Kd.R_new' (Kd.R_new' ho0 (Kd.R_lt (by (with_reducible repeat (first | apply Kd.R_alloc | apply Kd.R_drewN | apply Kd.R_drew)); exact HO292.out))) (Kd.R_lt (by (with_reducible repeat (first | apply Kd.R_alloc | apply Kd.R_drewN | apply Kd.R_drew)); exact HO301.out))) (below_size (by repeat (first | (with_reducible first | exact HB.out | apply below_alloc | apply pw_below_drewN | apply below_drew1) | exact HB.out)))); have n3_ := Aside0.mk (below_step (by repeat (first | (with_reducible first | exact HB.out | apply below_alloc | apply pw_below_drewN | apply below_drew1) | exact HB.out)) hb); clear HO292; clear HO301; clear HB; have HO292 := n0_; have HO301 := n1_; have HO306 := n2_; have HB := n3_; clear n0_ n1_ n2_ n3_; (try clear hb); (try clear hb2); (try clear hk); (try clear hi); (try clear ho0)) | ((with_reducible refine gate_callee (f := 14) rfl ?_); refine goesL_ (some 35) rfl rfl Try.func14 (by kernel_rfl) rfl #[.slice none 0 0, .int .i64 a2] rfl (by (try simp only [List.map_toArray, List.map_cons, List.map_nil]); first | done | rfl | (simp only [List.length_drop, List.length_take]; rfl)) ?_; (refine (key_Number.calls k _ _ ([] : List Int) a2 t307 _ ?side1 ?side2 A11.out).mono ?_); (case side1 => exact Kd.C_nil _ _); (case side2 => exact Nat.le_refl _); rintro e w23 ⟨v308, rfl, ho0, hb⟩; refine ⟨_, rfl, ?_⟩; have n0_ := Aside0.mk (Kd.R_elder' (by (with_reducible repeat (first | apply Kd.R_alloc | apply Kd.R_drewN | apply Kd.R_drew)); exact HO292.out) (Kd.R_base ho0) hb); have n1_ := Aside0.mk (Kd.R_elder' (by (with_reducible repeat (first | apply Kd.R_alloc | apply Kd.R_drewN | apply Kd.R_drew)); exact HO301.out) (Kd.R_base ho0) hb); have n2_ := Aside0.mk (Kd.R_elder' (by (with_reducible repeat (first | apply Kd.R_alloc | apply Kd.R_drewN | apply Kd.R_drew)); exact HO306.out) (Kd.R_base ho0) hb); have n3_ := Aside0.mk (Kd.R_lower (Kd.R_new' (Kd.R_new' (Kd.R_new' ho0 (Kd.R_lt (by (with_reducible repeat (first | apply Kd.R_alloc | apply Kd.R_drewN | apply Kd.R_drew)); exact HO292.out))) (Kd.R_lt (by (with_reducible repeat (first | apply Kd.R_alloc | apply Kd.R_drewN | apply Kd.R_drew)); exact HO301.out))) (Kd.R_lt (by (with_reducible repeat (first | apply Kd.R_alloc | apply Kd.R_drewN | apply Kd.R_drew)); exact HO306.out))) (below_size (by repeat (first | (with_reducible first | exact HB.out | apply below_alloc | apply pw_below_drewN | apply below_drew1) | exact HB.out)))); have n4_ := Aside0.mk (below_step (by repeat (first | (with_reducible first | exact HB.out | apply below_alloc | apply pw_below_drewN | apply below_drew1) | exact HB.out)) hb); clear HO292; clear HO301; clear HO306; clear HB; have HO292 := n0_; have HO301 := n1_; have HO306 := n2_; have HO309 := n3_; have HB := n4_; clear n0_ n1_ n2_ n3_ n4_; (try clear hb); (try clear hb2); (try clear hk); (try clear hi); (try clear ho0)) | ((with_reducible refine gate_builtin (b := .append) (xs := #[.tmp 35, .tmp 36]) rfl ?_); (try (refine gate_guard (by rfl) ?_; dsimp only)); at_builtin; refine Kd.R_append_rows (Kd.int .u8) (w0 := w) w.heap.size rfl (.tmp 35) (.tmp 36) 23 5 (.int .u8 0) 1 rfl Try.underlying23 info5 rfl (by decide) (by omega) v308 t307 l1 _ _ _ (fun k_ => some k_ ≠ (.slice Ao19 t290.length co19 : Value).ownBlock ∧ some k_ ≠ (.slice Ao21 y299.length co21 : Value).ownBlock ∧ some k_ ≠ (v305 : Value).ownBlock) (fun _ => False) rfl rfl ?aO ?aR (fun _ _ h => h) (fun _ h => h.elim) ?aF ?aB ?aS ?aL ?_; (case aR => repeat (first | exact (Kd.C_below HR1.out HB.out) | (with_reducible refine Kd.C_alloc ?_ _) | (with_reducible refine Kd.C_drewN ?_ _) | (with_reducible refine Kd.C_drew ?_))); (case aB => exact (by repeat (first | (with_reducible first | exact HB.out | apply below_alloc | apply pw_below_drewN | apply below_drew1) | exact HB.out))); (case aF => exact (fun k_ hk => ⟨Kd.fresh' (Kd.R_lt (by (with_reducible repeat (first | apply Kd.R_alloc | apply Kd.R_drewN | apply Kd.R_drew)); exact HO292.out)) k_ hk, Kd.fresh' (Kd.R_lt (by (with_reducible repeat (first | apply Kd.R_alloc | apply Kd.R_drewN | apply Kd.R_drew)); exact HO301.out)) k_ hk, Kd.fresh' (Kd.R_lt (by (with_reducible repeat (first | apply Kd.R_alloc | apply Kd.R_drewN | apply Kd.R_drew)); exact HO306.out)) k_ hk⟩)); (case aO => exact (by (with_reducible repeat (first | apply Kd.R_alloc | apply Kd.R_drewN | apply Kd.R_drew)); exact Kd.R_mono HO309.out (fun _ hk => ⟨hk.1.1.2, ⟨hk.1.2, hk.2⟩⟩))); (case aS => exact (below_size (by repeat (first | (with_reducible first | exact HB.out | apply below_alloc | apply pw_below_drewN | apply below_drew1) | exact HB.out)))); (case aL => have := LMc12.out; omega); intro v311 w24 ho hb hg hat; rw [← Ny310.out] at ho; have n0_ := Aside0.mk (Kd.R_after (ok := (fun k_ => some k_ ≠ (.slice Ao21 y299.length co21 : Value).ownBlock ∧ some k_ ≠ (v305 : Value).ownBlock)) (by (with_reducible repeat (first | apply Kd.R_alloc | apply Kd.R_drewN | apply Kd.R_drew)); exact Kd.R_mono HO292.out (fun _ hk => ⟨⟨hk.1.1.2, hk.1.2⟩, hk.2⟩)) hg hat); have n1_ := Aside0.mk (Kd.R_after (ok := (fun k_ => some k_ ≠ (.slice Ao19 t290.length co19 : Value).ownBlock ∧ some k_ ≠ (v305 : Value).ownBlock)) (by (with_reducible repeat (first | apply Kd.R_alloc | apply Kd.R_drewN | apply Kd.R_drew)); exact HO301.out) hg hat); have n2_ := Aside0.mk (Kd.R_after (ok := (fun k_ => some k_ ≠ (.slice Ao19 t290.length co19 : Value).ownBlock ∧ some k_ ≠ (.slice Ao21 y299.length co21 : Value).ownBlock)) (by (with_reducible repeat (first | apply Kd.R_alloc | apply Kd.R_drewN | apply Kd.R_drew)); exact Kd.R_mono HO306.out (fun _ hk => ⟨⟨hk.1.1.2, hk.1.2⟩, hk.2⟩)) hg hat); have n3_ := Aside0.mk (hb); have n4_ := Aside0.mk (ho); clear HO292; clear HO301; clear HO306; clear HB; clear HO309; have HO292 := n0_; have HO301 := n1_; have HO306 := n2_; have HB := n3_; have HO312 := n4_; clear n0_ n1_ n2_ n3_ n4_; clear ho hb hg hat; obtain ⟨Ao25, co25, eo25⟩ := Kd.R_slice HO312.out; subst eo25) | ((with_reducible refine gate_callee (f := 17) rfl ?_); refine goesL_ (some 38) rfl rfl Try.func17 (by kernel_rfl) rfl #[.slice Ao25 y310.length co25] rfl (by (try simp only [List.map_toArray, List.map_cons, List.map_nil]); first | done | rfl | (simp only [List.length_drop, List.length_take]; rfl)) ?_; (with_reducible refine (key_TakeNumber.calls k _ _ y310 t313 t314 _ ?side1 ?side2 A13.out).mono ?_); (case side1 => repeat (first | exact (Kd.R_reads' HO312.out).2.2 | (with_reducible refine Kd.C_alloc ?_ _) | (with_reducible refine Kd.C_drewN ?_ _) | (with_reducible refine Kd.C_drew ?_))); (case side2 => exact (Kd.R_reads' HO312.out).2.1); rintro e w26 ⟨rfl, hb⟩; refine ⟨_, rfl, ?_⟩; have n0_ := Aside0.mk (Kd.R_below (by (with_reducible repeat (first | apply Kd.R_alloc | apply Kd.R_drewN | apply Kd.R_drew)); exact HO292.out) hb); have n1_ := Aside0.mk (Kd.R_below (by (with_reducible repeat (first | apply Kd.R_alloc | apply Kd.R_drewN | apply Kd.R_drew)); exact HO301.out) hb); have n2_ := Aside0.mk (Kd.R_below (by (with_reducible repeat (first | apply Kd.R_alloc | apply Kd.R_drewN | apply Kd.R_drew)); exact HO306.out) hb); have n3_ := Aside0.mk (Kd.R_below (by (with_reducible repeat (first | apply Kd.R_alloc | apply Kd.R_drewN | apply Kd.R_drew)); exact HO312.out) hb); have n4_ := Aside0.mk (below_step (by repeat (first | (with_reducible first | exact HB.out | apply below_alloc | apply pw_below_drewN | apply below_drew1) | exact HB.out)) hb); clear HO292; clear HO301; clear HO306; clear HO312; clear HB; have HO292 := n0_; have HO301 := n1_; have HO306 := n2_; have HO312 := n3_; have HB := n4_; clear n0_ n1_ n2_ n3_ n4_; (try clear hb); (try clear hb2); (try clear hk); (try clear hi)))
          (try simp only [Act.put, List.setIfInBounds_toArray, List.set_cons_zero, List.set_cons_succ])
          go_cut [64] (fun v64 wc => ∃ (kq : Nat) (x64_13 : Bool), v64 = .bool x64_13 ∧ Aside0 (halyardlaw7_KeyBack.j0 kq t290 x64_13 = some r) ∧ Aside0 (kq ≤ k) ∧ Aside0 (Kd.R (Kd.int .u8) 5 wc w.heap.size (fun _ => True) (.slice Ao19 t290.length co19) t290) ∧ Aside0 (Below w.heap.size w wc))
          case first =>
            have H := HC14.out
            clear HC14
            by_cases c27 : (strOfNums t302).toList = (strOfNums l0).toList
            · rw [if_pos c27] at H
              have c27b0 : ((strOfNums t302).toList == (strOfNums l0).toList) = true := beq_iff_eq.mpr c27
              have c27b1 : ((strOfNums t302).toList != (strOfNums l0).toList) = false := bne_eq_false_iff_eq.mpr c27
              clear c27
              (first | rw [c27b0] | (simp only [i64_w, i32_w]; rw [c27b0]) | skip)
              by_cases c28 : t303 = (t290.length : Int)
              · rw [if_pos c28] at H
                have c28b0 : (t303 == (t290.length : Int)) = true := beq_iff_eq.mpr c28
                have c28b1 : (t303 != (t290.length : Int)) = false := bne_eq_false_iff_eq.mpr c28
                clear c28
                by_cases c29 : t304 = 0
                · rw [if_pos c29] at H
                  have c29b0 : (t304 == 0) = true := beq_iff_eq.mpr c29
                  have c29b1 : (t304 != 0) = false := bne_eq_false_iff_eq.mpr c29
                  clear c29
                  by_cases c30 : t313 = a2
                  · rw [if_pos c30] at H
                    have c30b0 : (t313 == a2) = true := beq_iff_eq.mpr c30
                    have c30b1 : (t313 != a2) = false := bne_eq_false_iff_eq.mpr c30
                    clear c30
                    have H' := Aside0.mk H
                    clear H
                    have hcv31 := own_string (P := Try.prog) Try.underlying23 Try.underlying5 Try.underlying9 (Kd.own_of_R HO306.out)
                    have hcv32 := Kd.C_string (P := Try.prog) (A := A0) (c := c0) Try.underlying23 Try.underlying5 Try.underlying9 (Kd.C_below HR0.out HB.out)
                    have hcv32d := fun n_ : Nat => Kd.C_string (P := Try.prog) (A := A0) (c := c0) Try.underlying23 Try.underlying5 Try.underlying9 (Kd.C_drewN ((Kd.C_below HR0.out HB.out)) n_)
                    go_wp2
                    go_meet
                    case rel => exact ⟨_, ((t314 != 0)), (by first | rfl | (simp; done) | (simp [*]; done)), H', ⟨by first | omega | exact Nat.le_refl _⟩, ⟨by (with_reducible repeat (first | apply Kd.R_alloc | apply Kd.R_drewN | apply Kd.R_drew)); exact Kd.R_mono HO292.out (fun _ hk => trivial)⟩, ⟨by repeat (first | (with_reducible first | exact HB.out | apply below_alloc | apply pw_below_drewN | apply below_drew1) | exact HB.out)⟩⟩
                  · rw [if_neg c30] at H
                    have c30b0 : (t313 == a2) = false := beq_eq_false_iff_ne.mpr c30
                    have c30b1 : (t313 != a2) = true := bne_iff_ne.mpr c30
                    have H' := Aside0.mk H
                    clear H
                    have hcv33 := own_string (P := Try.prog) Try.underlying23 Try.underlying5 Try.underlying9 (Kd.own_of_R HO306.out)
                    have hcv34 := Kd.C_string (P := Try.prog) (A := A0) (c := c0) Try.underlying23 Try.underlying5 Try.underlying9 (Kd.C_below HR0.out HB.out)
                    have hcv34d := fun n_ : Nat => Kd.C_string (P := Try.prog) (A := A0) (c := c0) Try.underlying23 Try.underlying5 Try.underlying9 (Kd.C_drewN ((Kd.C_below HR0.out HB.out)) n_)
                    go_wp2
                    go_meet
                    case rel => exact ⟨_, (true), (by first | rfl | (simp; done) | (simp [*]; done)), H', ⟨by first | omega | exact Nat.le_refl _⟩, ⟨by (with_reducible repeat (first | apply Kd.R_alloc | apply Kd.R_drewN | apply Kd.R_drew)); exact Kd.R_mono HO292.out (fun _ hk => trivial)⟩, ⟨by repeat (first | (with_reducible first | exact HB.out | apply below_alloc | apply pw_below_drewN | apply below_drew1) | exact HB.out)⟩⟩
                · rw [if_neg c29] at H
                  have c29b0 : (t304 == 0) = false := beq_eq_false_iff_ne.mpr c29
                  have c29b1 : (t304 != 0) = true := bne_iff_ne.mpr c29
                  have H' := Aside0.mk H
                  clear H
                  have hcv35 := own_string (P := Try.prog) Try.underlying23 Try.underlying5 Try.underlying9 (Kd.own_of_R HO306.out)
                  have hcv36 := Kd.C_string (P := Try.prog) (A := A0) (c := c0) Try.underlying23 Try.underlying5 Try.underlying9 (Kd.C_below HR0.out HB.out)
                  have hcv36d := fun n_ : Nat => Kd.C_string (P := Try.prog) (A := A0) (c := c0) Try.underlying23 Try.underlying5 Try.underlying9 (Kd.C_drewN ((Kd.C_below HR0.out HB.out)) n_)
                  go_wp2
                  go_meet
                  case rel => exact ⟨_, (true), (by first | rfl | (simp; done) | (simp [*]; done)), H', ⟨by first | omega | exact Nat.le_refl _⟩, ⟨by (with_reducible repeat (first | apply Kd.R_alloc | apply Kd.R_drewN | apply Kd.R_drew)); exact Kd.R_mono HO292.out (fun _ hk => trivial)⟩, ⟨by repeat (first | (with_reducible first | exact HB.out | apply below_alloc | apply pw_below_drewN | apply below_drew1) | exact HB.out)⟩⟩
              · rw [if_neg c28] at H
                have c28b0 : (t303 == (t290.length : Int)) = false := beq_eq_false_iff_ne.mpr c28
                have c28b1 : (t303 != (t290.length : Int)) = true := bne_iff_ne.mpr c28
                have H' := Aside0.mk H
                clear H
                have hcv37 := own_string (P := Try.prog) Try.underlying23 Try.underlying5 Try.underlying9 (Kd.own_of_R HO306.out)
                have hcv38 := Kd.C_string (P := Try.prog) (A := A0) (c := c0) Try.underlying23 Try.underlying5 Try.underlying9 (Kd.C_below HR0.out HB.out)
                have hcv38d := fun n_ : Nat => Kd.C_string (P := Try.prog) (A := A0) (c := c0) Try.underlying23 Try.underlying5 Try.underlying9 (Kd.C_drewN ((Kd.C_below HR0.out HB.out)) n_)
                go_wp2
                go_meet
                case rel => exact ⟨_, (true), (by first | rfl | (simp; done) | (simp [*]; done)), H', ⟨by first | omega | exact Nat.le_refl _⟩, ⟨by (with_reducible repeat (first | apply Kd.R_alloc | apply Kd.R_drewN | apply Kd.R_drew)); exact Kd.R_mono HO292.out (fun _ hk => trivial)⟩, ⟨by repeat (first | (with_reducible first | exact HB.out | apply below_alloc | apply pw_below_drewN | apply below_drew1) | exact HB.out)⟩⟩
            · rw [if_neg c27] at H
              have c27b0 : ((strOfNums t302).toList == (strOfNums l0).toList) = false := beq_eq_false_iff_ne.mpr c27
              have c27b1 : ((strOfNums t302).toList != (strOfNums l0).toList) = true := bne_iff_ne.mpr c27
              (first | rw [c27b0] | (simp only [i64_w, i32_w]; rw [c27b0]) | skip)
              have H' := Aside0.mk H
              clear H
              have hcv39 := own_string (P := Try.prog) Try.underlying23 Try.underlying5 Try.underlying9 (Kd.own_of_R HO306.out)
              have hcv40 := Kd.C_string (P := Try.prog) (A := A0) (c := c0) Try.underlying23 Try.underlying5 Try.underlying9 (Kd.C_below HR0.out HB.out)
              have hcv40d := fun n_ : Nat => Kd.C_string (P := Try.prog) (A := A0) (c := c0) Try.underlying23 Try.underlying5 Try.underlying9 (Kd.C_drewN ((Kd.C_below HR0.out HB.out)) n_)
              go_wp2
              go_meet
              case rel => exact ⟨_, (true), (by first | rfl | (simp; done) | (simp [*]; done)), H', ⟨by first | omega | exact Nat.le_refl _⟩, ⟨by (with_reducible repeat (first | apply Kd.R_alloc | apply Kd.R_drewN | apply Kd.R_drew)); exact Kd.R_mono HO292.out (fun _ hk => trivial)⟩, ⟨by repeat (first | (with_reducible first | exact HB.out | apply below_alloc | apply pw_below_drewN | apply below_drew1) | exact HB.out)⟩⟩
          case rest =>
            clear HC14
            try clear c1
            try clear c2
            try clear p2
            try clear c3
            try clear hcv3
            try clear c4
            try clear c4b0
            try clear c4b1
            try clear hcv4
            try clear c8
            try clear c9
            try clear c10
            try clear c12
            try clear c14
            try clear c17
            try clear c20
            try clear c27
            try clear c27b0
            try clear c27b1
            try clear c28
            try clear c28b0
            try clear c28b1
            try clear c29
            try clear c29b0
            try clear c29b1
            try clear c30
            try clear c30b0
            try clear c30b1
            try clear hcv31
            try clear hcv32
            try clear hcv33
            try clear hcv34
            try clear hcv35
            try clear hcv36
            try clear hcv37
            try clear hcv38
            try clear hcv39
            try clear hcv40
            obtain ⟨kq, x64_13, rfl, HA, HJ13, HO_7, HB⟩ := hcut
            cases kq with
            | zero => exact absurd HA.out (by simp [halyardlaw7_KeyBack.j0])
            | succ kj13 =>
              have H := HA.out
              clear HA
              simp only [halyardlaw7_KeyBack.j0] at H
              by_cases c41 : x64_13 = true
              · subst c41
                have H1 : (some false) = some r := by rw [if_pos rfl] at H; exact H
                clear H
                have H := H1
                clear H1
                obtain rfl := Option.some.inj H
                go_wp2
                go_ret
                exact ⟨by first | rfl | (simp [errW_none, errW_some] <;> rfl) | (simp [*, errW_none, errW_some] <;> rfl), by repeat (first | (with_reducible first | exact HB.out | apply below_alloc | apply pw_below_drewN | apply below_drew1) | exact HB.out)⟩
              · replace c41 := Bool.eq_false_iff.mpr c41
                subst c41
                have H1 : (halyardlaw7_KeyBack.l0 kj13 t290 (t290.length : Int) 0) = some r := by rw [if_neg (show ¬ (false = true) by decide)] at H; exact H
                clear H
                have H := H1
                clear H1
                have H' := Aside0.mk H
                clear H
                go_wp2
                go_loopg [67] kj13 (fun kq v67 w' => ∃ (x67_2 : Int), v67 = .int .i64 x67_2 ∧ Aside0 (halyardlaw7_KeyBack.l0 kq t290 (t290.length : Int) x67_2 = some r) ∧ Aside0 (kq ≤ kj13) ∧ Aside0 (Kd.R (Kd.int .u8) 5 w' w.heap.size (fun _ => True) (.slice Ao19 t290.length co19) t290) ∧ Aside0 (Below w.heap.size w w'))
                case atStart => exact ⟨(0), (by first | rfl | (simp; done) | (simp [*]; done)), H', ⟨Nat.le_refl _⟩, ⟨by (with_reducible repeat (first | apply Kd.R_alloc | apply Kd.R_drewN | apply Kd.R_drew)); exact HO_7.out⟩, ⟨by repeat (first | (with_reducible first | exact HB.out | apply below_alloc | apply pw_below_drewN | apply below_drew1) | exact HB.out)⟩⟩
                case round =>
                  clear H'
                  try clear c1
                  try clear c2
                  try clear p2
                  try clear c3
                  try clear hcv3
                  try clear c4
                  try clear c4b0
                  try clear c4b1
                  try clear hcv4
                  try clear c8
                  try clear c9
                  try clear c10
                  try clear c12
                  try clear c14
                  try clear c17
                  try clear c20
                  try clear c27
                  try clear c27b0
                  try clear c27b1
                  try clear c28
                  try clear c28b0
                  try clear c28b1
                  try clear c29
                  try clear c29b0
                  try clear c29b1
                  try clear c30
                  try clear c30b0
                  try clear c30b1
                  try clear hcv31
                  try clear hcv32
                  try clear hcv33
                  try clear hcv34
                  try clear hcv35
                  try clear hcv36
                  try clear hcv37
                  try clear hcv38
                  try clear hcv39
                  try clear hcv40
                  try clear c41
                  try clear p2
                  obtain ⟨x67_2, rfl, HA, HK2, HO_7, HB⟩ := hrel
                  cases gk with
                  | zero => exact absurd HA.out (by simp [halyardlaw7_KeyBack.l0])
                  | succ k2 =>
                    have H := HA.out
                    clear HA
                    simp only [halyardlaw7_KeyBack.l0] at H
                    by_cases c42 : x67_2 < (t290.length : Int)
                    · rw [if_pos c42] at H
                      have c42b0 : decide (x67_2 < (t290.length : Int)) = true := decide_eq_true c42
                      clear c42
                      by_cases c43 : 0 ≤ x67_2
                      · rw [if_pos c43] at H
                        have c43b0 := eq_true c43
                        have c43b1 : decide (0 ≤ x67_2) = true := decide_eq_true c43
                        clear c43
                        by_cases c44 : x67_2 ≤ (t290.length : Int)
                        · rw [if_pos c44] at H
                          have c44b0 := eq_true c44
                          have c44b1 : decide (x67_2 ≤ (t290.length : Int)) = true := decide_eq_true c44
                          clear c44
                          obtain ⟨y315, hy315⟩ : ∃ y_ : List Int, y_ = (t290.take (x67_2 : Int).toNat) := ⟨_, rfl⟩
                          replace H : ((key_TakeBytes.f y315).bind fun bt319 => (if bt319.2.2 = 5 then (halyardlaw7_KeyBack.l0 k2 t290 (t290.length : Int) (wrap64 (x67_2 + 1))) else (some false))) = some r := by first | (rw [hy315]; with_reducible exact H) | (have H2_ := (Option.bind_some _ _).symm.trans H; rw [hy315]; with_reducible exact H2_) | (have H2_ := (Option.bind_some _ _).symm.trans H; with_reducible exact H2_) | with_reducible exact H | (rw [hy315]; exact H) | exact H
                          have Ny315 := Aside0.mk hy315
                          clear hy315
                          replace H := Option.bind_eq_some_iff.mp H
                          obtain ⟨⟨t319, t320, t321⟩, A450, H⟩ := H
                          replace H : (if t321 = 5 then (halyardlaw7_KeyBack.l0 k2 t290 (t290.length : Int) (wrap64 (x67_2 + 1))) else (some false)) = some r := H
                          have A45 := Aside0.mk A450
                          clear A450
                          by_cases c46 : t321 = 5
                          · rw [if_pos c46] at H
                            have c46b0 : (t321 == 5) = true := beq_iff_eq.mpr c46
                            have c46b1 : (t321 != 5) = false := bne_eq_false_iff_eq.mpr c46
                            clear c46
                            have H' := Aside0.mk H
                            clear H
                            have q47 : (x67_2 : Int) ≤ ((t290.length : Int) : Int) := of_decide_eq_true (by first | (with_reducible assumption) | assumption)
                            obtain ⟨i047, hi047, _, hsz47, _⟩ := info_parts info5
                            have hroom47 : t290.length ≤ co19 := (Kd.R_reads' HO_7.out).2.1
                            have hC47 : Kd.C (Kd.int .u8) _ Ao19 t290.length t290 := (Kd.R_reads' HO_7.out).2.2
                            have hcut47 := cut_to (P := Try.prog) 23 5 .i64 Try.underlying23 hi047 Ao19 t290.length co19 x67_2 (of_decide_eq_true (by first | (with_reducible assumption) | assumption)) q47 hroom47
                            have hr47 := Kd.C_take (m := (x67_2 : Int).toNat) hC47 (by omega)
                            have hy47 : y315.length = (x67_2 : Int).toNat := (by rw [Ny315.out, List.length_take]; omega)
                            rw [← Ny315.out] at hr47
                            rw [← hy47] at hcut47
                            have HR318 := Aside0.mk hr47
                            have HC318 := Aside0.mk (show y315.length ≤ co19 from by omega)
                            clear hr47 hC47 hroom47 hi047 hsz47
                            have KY47 := Aside0.mk hy47
                            clear hy47
                            have KL47 := Aside0.mk (show (x67_2 : Int).toNat ≤ t290.length from by omega)
                            replace q47 := eq_true q47
                            go_wp2_with (first | ((with_reducible refine gate_callee (f := 20) rfl ?_); refine goesL_ (some 74) rfl rfl Try.func20 (by kernel_rfl) rfl #[.slice Ao19 y315.length co19] rfl (by (try simp only [List.map_toArray, List.map_cons, List.map_nil]); first | done | rfl | (simp only [List.length_drop, List.length_take]; rfl)) ?_; (with_reducible refine (key_TakeBytes.calls _ _ y315 t319 t320 t321 _ ?side1 ?side2 A45.out).mono ?_); (case side1 => repeat (first | exact (by repeat (first | (with_reducible exact HR318.out) | (with_reducible refine Kd.C_alloc ?_ _) | (with_reducible refine Kd.C_drewN ?_ _) | (with_reducible refine Kd.C_drew ?_) | exact HR318.out)) | (with_reducible refine Kd.C_alloc ?_ _) | (with_reducible refine Kd.C_drewN ?_ _) | (with_reducible refine Kd.C_drew ?_))); (case side2 => exact HC318.out); rintro e w48 ⟨v322, rfl, ho0, hb⟩; refine ⟨_, rfl, ?_⟩; have n0_ := Aside0.mk (Kd.R_elder' (by (with_reducible repeat (first | apply Kd.R_alloc | apply Kd.R_drewN | apply Kd.R_drew)); exact HO_7.out) (Kd.R_base ho0) hb); have n1_ := Aside0.mk (Kd.R_lower (Kd.R_new' ho0 (Kd.R_lt (by (with_reducible repeat (first | apply Kd.R_alloc | apply Kd.R_drewN | apply Kd.R_drew)); exact HO_7.out))) (below_size (by repeat (first | (with_reducible first | exact HB.out | apply below_alloc | apply pw_below_drewN | apply below_drew1) | exact HB.out)))); have n2_ := Aside0.mk (Kd.C_below (by repeat (first | (with_reducible exact HR318.out) | (with_reducible refine Kd.C_alloc ?_ _) | (with_reducible refine Kd.C_drewN ?_ _) | (with_reducible refine Kd.C_drew ?_) | exact HR318.out)) hb); have n3_ := Aside0.mk (below_step (by repeat (first | (with_reducible first | exact HB.out | apply below_alloc | apply pw_below_drewN | apply below_drew1) | exact HB.out)) hb); clear HO_7; clear HR318; clear HB; have HO_7 := n0_; have HO323 := n1_; have HR318 := n2_; have HB := n3_; clear n0_ n1_ n2_ n3_; (try clear hb); (try clear hb2); (try clear hk); (try clear hi); (try clear ho0)))
                            go_roundg k2
                            case measure => have := HJ13.out; have := HK2.out; omega
                            case rel => exact ⟨(wrap64 (x67_2 + 1)), (by first | rfl | (simp; done) | (simp [*]; done)), H', ⟨by have := HJ13.out; have := HK2.out; omega⟩, ⟨by (with_reducible repeat (first | apply Kd.R_alloc | apply Kd.R_drewN | apply Kd.R_drew)); exact Kd.R_mono HO_7.out (fun _ hk => trivial)⟩, ⟨by repeat (first | (with_reducible first | exact HB.out | apply below_alloc | apply pw_below_drewN | apply below_drew1) | exact HB.out)⟩⟩
                          · rw [if_neg c46] at H
                            have c46b0 : (t321 == 5) = false := beq_eq_false_iff_ne.mpr c46
                            have c46b1 : (t321 != 5) = true := bne_iff_ne.mpr c46
                            obtain rfl := Option.some.inj H
                            have q49 : (x67_2 : Int) ≤ ((t290.length : Int) : Int) := of_decide_eq_true (by first | (with_reducible assumption) | assumption)
                            obtain ⟨i049, hi049, _, hsz49, _⟩ := info_parts info5
                            have hroom49 : t290.length ≤ co19 := (Kd.R_reads' HO_7.out).2.1
                            have hC49 : Kd.C (Kd.int .u8) _ Ao19 t290.length t290 := (Kd.R_reads' HO_7.out).2.2
                            have hcut49 := cut_to (P := Try.prog) 23 5 .i64 Try.underlying23 hi049 Ao19 t290.length co19 x67_2 (of_decide_eq_true (by first | (with_reducible assumption) | assumption)) q49 hroom49
                            have hr49 := Kd.C_take (m := (x67_2 : Int).toNat) hC49 (by omega)
                            have hy49 : y315.length = (x67_2 : Int).toNat := (by rw [Ny315.out, List.length_take]; omega)
                            rw [← Ny315.out] at hr49
                            rw [← hy49] at hcut49
                            have HR318 := Aside0.mk hr49
                            have HC318 := Aside0.mk (show y315.length ≤ co19 from by omega)
                            clear hr49 hC49 hroom49 hi049 hsz49
                            have KY49 := Aside0.mk hy49
                            clear hy49
                            have KL49 := Aside0.mk (show (x67_2 : Int).toNat ≤ t290.length from by omega)
                            replace q49 := eq_true q49
                            go_wp2_with (first | ((with_reducible refine gate_callee (f := 20) rfl ?_); refine goesL_ (some 74) rfl rfl Try.func20 (by kernel_rfl) rfl #[.slice Ao19 y315.length co19] rfl (by (try simp only [List.map_toArray, List.map_cons, List.map_nil]); first | done | rfl | (simp only [List.length_drop, List.length_take]; rfl)) ?_; (with_reducible refine (key_TakeBytes.calls _ _ y315 t319 t320 t321 _ ?side1 ?side2 A45.out).mono ?_); (case side1 => repeat (first | exact (by repeat (first | (with_reducible exact HR318.out) | (with_reducible refine Kd.C_alloc ?_ _) | (with_reducible refine Kd.C_drewN ?_ _) | (with_reducible refine Kd.C_drew ?_) | exact HR318.out)) | (with_reducible refine Kd.C_alloc ?_ _) | (with_reducible refine Kd.C_drewN ?_ _) | (with_reducible refine Kd.C_drew ?_))); (case side2 => exact HC318.out); rintro e w50 ⟨v322, rfl, ho0, hb⟩; refine ⟨_, rfl, ?_⟩; have n0_ := Aside0.mk (Kd.R_elder' (by (with_reducible repeat (first | apply Kd.R_alloc | apply Kd.R_drewN | apply Kd.R_drew)); exact HO_7.out) (Kd.R_base ho0) hb); have n1_ := Aside0.mk (Kd.R_lower (Kd.R_new' ho0 (Kd.R_lt (by (with_reducible repeat (first | apply Kd.R_alloc | apply Kd.R_drewN | apply Kd.R_drew)); exact HO_7.out))) (below_size (by repeat (first | (with_reducible first | exact HB.out | apply below_alloc | apply pw_below_drewN | apply below_drew1) | exact HB.out)))); have n2_ := Aside0.mk (Kd.C_below (by repeat (first | (with_reducible exact HR318.out) | (with_reducible refine Kd.C_alloc ?_ _) | (with_reducible refine Kd.C_drewN ?_ _) | (with_reducible refine Kd.C_drew ?_) | exact HR318.out)) hb); have n3_ := Aside0.mk (below_step (by repeat (first | (with_reducible first | exact HB.out | apply below_alloc | apply pw_below_drewN | apply below_drew1) | exact HB.out)) hb); clear HO_7; clear HR318; clear HB; have HO_7 := n0_; have HO323 := n1_; have HR318 := n2_; have HB := n3_; clear n0_ n1_ n2_ n3_; (try clear hb); (try clear hb2); (try clear hk); (try clear hi); (try clear ho0)))
                            go_ret
                            exact ⟨by first | rfl | (simp [errW_none, errW_some] <;> rfl) | (simp [*, errW_none, errW_some] <;> rfl), by repeat (first | (with_reducible first | exact HB.out | apply below_alloc | apply pw_below_drewN | apply below_drew1) | exact HB.out)⟩
                        · rw [if_neg c44] at H
                          exact absurd H (by simp)
                      · rw [if_neg c43] at H
                        exact absurd H (by simp)
                    · rw [if_neg c42] at H
                      have c42b0 : decide (x67_2 < (t290.length : Int)) = false := decide_eq_false c42
                      clear c42
                      replace H := Option.bind_eq_some_iff.mp H
                      obtain ⟨t324, A510, H⟩ := H
                      replace H : (some t324) = some r := H
                      have A51 := Aside0.mk A510
                      clear A510
                      obtain rfl := Option.some.inj H
                      go_wp2_with (first | ((with_reducible refine gate_callee (f := 10) rfl ?_); refine goesL_ (some 81) rfl rfl Try.func10 (by kernel_rfl) rfl #[] rfl (by (try simp only [List.map_toArray, List.map_cons, List.map_nil]); first | done | rfl | (simp only [List.length_drop, List.length_take]; rfl)) ?_; (with_reducible refine (halyardlaw7_awake.calls k2  t324 _ A51.out).mono ?_); rintro e w52 ⟨rfl, hb⟩; refine ⟨_, rfl, ?_⟩; have n0_ := Aside0.mk (Kd.R_below (by (with_reducible repeat (first | apply Kd.R_alloc | apply Kd.R_drewN | apply Kd.R_drew)); exact HO_7.out) hb); have n1_ := Aside0.mk (below_step (by repeat (first | (with_reducible first | exact HB.out | apply below_alloc | apply pw_below_drewN | apply below_drew1) | exact HB.out)) hb); clear HO_7; clear HB; have HO_7 := n0_; have HB := n1_; clear n0_ n1_; (try clear hb); (try clear hb2); (try clear hk); (try clear hi)))
                      go_ret
                      exact ⟨by first | rfl | (simp [errW_none, errW_some] <;> rfl) | (simp [*, errW_none, errW_some] <;> rfl), by repeat (first | (with_reducible first | exact HB.out | apply below_alloc | apply pw_below_drewN | apply below_drew1) | exact HB.out)⟩
        · rw [if_neg c12] at H
          exact absurd H (by simp)
      · rw [if_neg c9] at H
        exact absurd H (by simp)
    · rw [if_neg c8] at H
      exact absurd H (by simp)

/-- THE ONE PURE STATEMENT of halyardlaw7_KeyBack: yours. -/
def halyardlaw7_KeyBack.Pure : Prop := ∀ (l0 : List Int) (l1 : List Int) (a2 : Int), l0.length ≤ maxLen → l0.length * 1 ≤ 140737488351232 → (∀ x ∈ l0, (Lit.int .u8 x).wf = true) → l1.length ≤ maxLen → l1.length * 1 ≤ 140737488351232 → (∀ x ∈ l1, (Lit.int .u8 x).wf = true) → (Lit.int .i64 a2).wf = true → ∃ k, halyardlaw7_KeyBack.f k l0 l1 a2 = some true
theorem halyardlaw7_KeyBack.walk (P : halyardlaw7_KeyBack.Pure) (a0 : Option Addr) (len0 cap0 : Nat) (z0 : List Int) (a1 : Option Addr) (len1 cap1 : Nat) (z1 : List Int) (a2 : Int) (w : World) (w0 : (a0 = none ∧ len0 = 0 ∧ cap0 = 0 ∧ z0 = []) ∨ ∃ x, a0 = some x ∧ len0 ≤ cap0 ∧ cap0 ≤ maxLen ∧ z0.length = cap0 ∧ (∀ i, i < z0.length → w.cell? (x.add i) = some (.int .u8 (z0.getD i 0))) ∧ ∀ n ∈ z0, (Lit.int .u8 n).wf = true) (y0 : len0 * 1 ≤ 140737488351232) (w1 : (a1 = none ∧ len1 = 0 ∧ cap1 = 0 ∧ z1 = []) ∨ ∃ x, a1 = some x ∧ len1 ≤ cap1 ∧ cap1 ≤ maxLen ∧ z1.length = cap1 ∧ (∀ i, i < z1.length → w.cell? (x.add i) = some (.int .u8 (z1.getD i 0))) ∧ ∀ n ∈ z1, (Lit.int .u8 n).wf = true) (y1 : len1 * 1 ≤ 140737488351232) (w2 : (Lit.int .i64 a2).wf = true) :
    Calls Try.prog 8 #[.slice a0 len0 cap0, .slice a1 len1 cap1, .int .i64 a2] w fun e w' => e = .returned (.bool true) ∧ Below w.heap.size w w' := by
  obtain ⟨l0, rfl, hr0, hm0, hw0, hc0⟩ := ReadsInt.ofRowC w0
  obtain ⟨l1, rfl, hr1, hm1, hw1, hc1⟩ := ReadsInt.ofRowC w1
  obtain ⟨k, h⟩ := P l0 l1 a2 hm0 y0 hw0 hm1 y1 hw1 w2
  refine (halyardlaw7_KeyBack.calls k _ _ l0 _ _ l1 a2 true w (Kd.C_of_reads (d := (0 : Int)) (h1 := fun _ => rfl) hr0) hc0 (Kd.C_of_reads (d := (0 : Int)) (h1 := fun _ => rfl) hr1) hc1 h).mono ?_
  rintro e w' ⟨rfl, hd⟩
  exact ⟨rfl, hd⟩

end Go.Proofs.Ytldndnjajpjajaa.K
