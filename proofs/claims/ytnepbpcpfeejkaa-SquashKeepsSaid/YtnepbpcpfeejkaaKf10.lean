-- Printed by the prover's own turned printer (wip/printer in the prover's repo); Lean checks it.
import Derived.Test.YtnepbpcpfeejkaaK0
import Derived.Lib.SlBytesConst
import Derived.Test.YtnepbpcpfeejkaaKf11
namespace Go.Proofs.Ytnepbpcpfeejkaa.K
open Go.RowKit Go.Proofs.YtnepbpcpfeejkaaW.PrintWords Go.Proofs.YtnepbpcpfeejkaaW.PrintLast Go.Proofs.YtnepbpcpfeejkaaW.PrintMore
attribute [local go_sem] max2_int min2_int max_two min_two max_three min_three max_four min_four   -- for this text's walks alone
set_option linter.unusedVariables false
set_option linter.unusedSimpArgs false

/-! ### halyardlaw18_awake: function 10 -/
/-- The world behind the literals. -/
abbrev AwW (w : World) : World := ((w.alloc (.cells #[.int .u8 97] 5 (1, 2))).alloc (.cells #[.int .u8 120] 5 (1, 2))).alloc (.cells #[.slice (some ⟨w.heap.size, 0, none⟩) 1 1, .int .i64 9, .bool false, .int .i64 5, .slice (some ⟨w.heap.size + 1, 0, none⟩) 1 1] 35 (0, 0))
theorem aw_one {W : World} {g : Nat} {x : Int} {d : Nat × Nat} (h : W.heap[g]? = some (.cells #[.int .u8 x] 5 d)) : (Kd.int .u8).C W (some ⟨g, 0, none⟩) 1 [x] := by
  refine ⟨rfl, by omega, fun _ => ⟨_, rfl, fun j p hj => ?_⟩⟩
  match j, hj with
  | 0, hj =>
    simp only [List.getElem?_cons_zero, Option.some.injEq] at hj
    subst hj
    refine ⟨[.int .u8 x], rfl, rfl, fun i u hi => ?_⟩
    match i, hi with
    | 0, hi =>
      simp only [List.getElem?_cons_zero, Option.some.injEq] at hi
      subst hi
      simp [World.cell?, Addr.add, h]
    | i + 1, hi => simp at hi
  | j + 1, hj => simp at hj
theorem aw_keep {w : World} {g : Nat} {o : Obj} (h : w.heap[g]? = some o) (o' : Obj) : (w.alloc o').heap[g]? = some o := by
  have hl := blk_lt h
  show (w.heap.push o')[g]? = some o
  rw [Array.getElem?_push, if_neg (by omega)]
  exact h
theorem aw_at {w : World} {g : Nat} {o : Obj} (h : w.heap.size = g) : (w.alloc o).heap[g]? = some o := by subst h; exact blk_new _ _
theorem aw_heap (w : World) : (AwW w).heap[w.heap.size]? = some (.cells #[.int .u8 97] 5 (1, 2)) ∧ (AwW w).heap[w.heap.size + 1]? = some (.cells #[.int .u8 120] 5 (1, 2)) ∧ (AwW w).heap[w.heap.size + 1 + 1]? = some (.cells #[.slice (some ⟨w.heap.size, 0, none⟩) 1 1, .int .i64 9, .bool false, .int .i64 5, .slice (some ⟨w.heap.size + 1, 0, none⟩) 1 1] 35 (0, 0)) ∧ (AwW w).heap.size = w.heap.size + 1 + 1 + 1 := by
  exact ⟨aw_keep (aw_keep (aw_at rfl) _) _, aw_keep (aw_at (by simp)) _, aw_at (by simp), by simp⟩
theorem awake_V (w : World) : Kd.V k35 35 (AwW w) (AwW w).heap.size (fun _ => True) (.slice (some ⟨w.heap.size + 1 + 1, 0, none⟩) 1 1) [(⟨[97], 9, false, 5, [120]⟩ : S35)] := by
  refine ⟨_, _, rfl, Nat.le_refl _, fun W' hW => ?_⟩
  obtain ⟨h0, h1, h2, hs⟩ := aw_heap w
  have e0 := (hW _ trivial (by rw [hs]; omega)).trans h0
  have e1 := (hW _ trivial (by rw [hs]; omega)).trans h1
  have e2 := (hW _ trivial (by rw [hs]; omega)).trans h2
  refine ⟨rfl, by simp, fun _ => ⟨_, rfl, fun j p hj => ?_⟩⟩
  match j, hj with
  | 0, hj =>
    simp only [List.getElem?_cons_zero, Option.some.injEq] at hj
    subst hj
    refine ⟨_, rfl, k35_mk W' (⟨[97], 9, false, 5, [120]⟩ : S35) (c0 := 1) (by simp) (aw_one e0) (c4 := 1) (by simp) (aw_one e1), fun i u hi => ?_⟩
    match i, hi with
    | 0, hi | 1, hi | 2, hi | 3, hi | 4, hi =>
      simp only [List.getElem?_cons_zero, List.getElem?_cons_succ, Option.some.injEq] at hi
      subst hi
      simp [World.cell?, Addr.add, e2]
    | i + 5, hi => simp at hi
  | j + 1, hj => simp at hj
theorem awake_B (w : World) : Below w.heap.size w (AwW w) := (((Below.refl _ _).alloc (Nat.le_refl _) _).alloc (by simp) _).alloc (by simp; omega) _
def halyardlaw18_awake.f (k : Nat)  : Option (Bool) := (squash_Keep.f k (([(⟨(([97] : List Int)), 9, false, 5, (([120] : List Int))⟩ : S35)] : List (S35))) ([] : List Int) 5 false).bind fun bt170 => (if bt170.2 = 0 then (if (bt170.1.length : Int) = 1 then (if 0 < (bt170.1.length : Int) then (if (rd_T35 bt170.1 0).f2 = true then (if ((rd_T35 bt170.1 0).f3) = 0 then (some ((((rd_T35 bt170.1 0).f4).length : Int) == 0)) else (some false)) else (some false)) else (none)) else (some false)) else (some false))
theorem halyardlaw18_awake.mono : ∀ k, LeO (halyardlaw18_awake.f k ) (halyardlaw18_awake.f (k + 1) ) := by
  intro  k
  unfold halyardlaw18_awake.f
  repeat' first
      | (with_reducible exact squash_Keep.mono _ _ _ _ _)
      | (with_reducible exact LeO.refl _)
      | (with_reducible exact LeO.none _)
      | (with_reducible refine LeO.ite ?_ ?_)
      | (with_reducible refine LeO.bind ?_ (fun _ => ?_))
      | exact squash_Keep.mono _ _ _ _ _
      | exact LeO.none _
      | refine LeO.ite ?_ ?_
      | refine LeO.bind ?_ (fun _ => ?_)
set_option maxHeartbeats 8000000 in
set_option maxRecDepth 100000 in
theorem halyardlaw18_awake.calls (k : Nat)  (r : Bool) (w : World) (h : halyardlaw18_awake.f k  = some r) :
    Calls Try.prog 10 #[] w fun e w' => e = .returned (.bool r) ∧ Below w.heap.size w w' := by
  have hu35 := Try.underlying35
  have HB := Aside0.mk (awake_B w)
  have kc := fun (w : World) (C : Array Value) (n c : Nat) => Lib.run_convert_bytes_const (P := Try.prog) w 33 5 C n c Try.underlying33 Try.underlying5
  have kc2 : (convert 33 33 (.slice (some ⟨w.heap.size + 1, 0, none⟩) 1 1)).run Try.prog ((w.alloc (.cells #[.int .u8 97] 5 (1, 2))).alloc (.cells #[.int .u8 120] 5)) = .ok (.slice (some ⟨w.heap.size + 1, 0, none⟩) 1 1) ((w.alloc (.cells #[.int .u8 97] 5 (1, 2))).alloc (.cells #[.int .u8 120] 5 (1, 2))) := by
    have h := kc (w.alloc (.cells #[.int .u8 97] 5 (1, 2))) #[.int .u8 120] 1 1
    rw [show (w.alloc (.cells #[.int .u8 97] 5 (1, 2))).heap.size = w.heap.size + 1 by simp] at h
    exact h
  have H : ((squash_Keep.f k (([(⟨(([97] : List Int)), 9, false, 5, (([120] : List Int))⟩ : S35)] : List (S35))) ([] : List Int) 5 false).bind fun bt170 => (if bt170.2 = 0 then (if (bt170.1.length : Int) = 1 then (if 0 < (bt170.1.length : Int) then (if (rd_T35 bt170.1 0).f2 = true then (if ((rd_T35 bt170.1 0).f3) = 0 then (some ((((rd_T35 bt170.1 0).f4).length : Int) == 0)) else (some false)) else (some false)) else (none)) else (some false)) else (some false))) = some r := h
  clear h
  obtain ⟨y161, hy161⟩ : ∃ y_ : List Int, y_ = (([97] : List Int)) := ⟨_, rfl⟩
  replace H : ((squash_Keep.f k (([(⟨y161, 9, false, 5, (([120] : List Int))⟩ : S35)] : List (S35))) ([] : List Int) 5 false).bind fun bt170 => (if bt170.2 = 0 then (if (bt170.1.length : Int) = 1 then (if 0 < (bt170.1.length : Int) then (if (rd_T35 bt170.1 0).f2 = true then (if ((rd_T35 bt170.1 0).f3) = 0 then (some ((((rd_T35 bt170.1 0).f4).length : Int) == 0)) else (some false)) else (some false)) else (none)) else (some false)) else (some false))) = some r := by first | (rw [hy161]; with_reducible exact H) | (have H2_ := (Option.bind_some _ _).symm.trans H; rw [hy161]; with_reducible exact H2_) | (have H2_ := (Option.bind_some _ _).symm.trans H; with_reducible exact H2_) | with_reducible exact H | (rw [hy161]; exact H) | exact H
  have Ny161 := Aside0.mk hy161
  clear hy161
  obtain ⟨y164, hy164⟩ : ∃ y_ : List Int, y_ = (([120] : List Int)) := ⟨_, rfl⟩
  replace H : ((squash_Keep.f k (([(⟨y161, 9, false, 5, y164⟩ : S35)] : List (S35))) ([] : List Int) 5 false).bind fun bt170 => (if bt170.2 = 0 then (if (bt170.1.length : Int) = 1 then (if 0 < (bt170.1.length : Int) then (if (rd_T35 bt170.1 0).f2 = true then (if ((rd_T35 bt170.1 0).f3) = 0 then (some ((((rd_T35 bt170.1 0).f4).length : Int) == 0)) else (some false)) else (some false)) else (none)) else (some false)) else (some false))) = some r := by first | (rw [hy164]; with_reducible exact H) | (have H2_ := (Option.bind_some _ _).symm.trans H; rw [hy164]; with_reducible exact H2_) | (have H2_ := (Option.bind_some _ _).symm.trans H; with_reducible exact H2_) | with_reducible exact H | (rw [hy164]; exact H) | exact H
  have Ny164 := Aside0.mk hy164
  clear hy164
  obtain ⟨y167, hy167⟩ : ∃ y_ : List (S35), y_ = (([(⟨y161, 9, false, 5, y164⟩ : S35)] : List (S35))) := ⟨_, rfl⟩
  replace H : ((squash_Keep.f k y167 ([] : List Int) 5 false).bind fun bt170 => (if bt170.2 = 0 then (if (bt170.1.length : Int) = 1 then (if 0 < (bt170.1.length : Int) then (if (rd_T35 bt170.1 0).f2 = true then (if ((rd_T35 bt170.1 0).f3) = 0 then (some ((((rd_T35 bt170.1 0).f4).length : Int) == 0)) else (some false)) else (some false)) else (none)) else (some false)) else (some false))) = some r := by first | (rw [hy167]; with_reducible exact H) | (have H2_ := (Option.bind_some _ _).symm.trans H; rw [hy167]; with_reducible exact H2_) | (have H2_ := (Option.bind_some _ _).symm.trans H; with_reducible exact H2_) | with_reducible exact H | (rw [hy167]; exact H) | exact H
  have Ny167 := Aside0.mk hy167
  clear hy167
  replace H := Option.bind_eq_some_iff.mp H
  obtain ⟨⟨t170, t173⟩, A10, H⟩ := H
  replace H : (if t173 = 0 then (if (t170.length : Int) = 1 then (if 0 < (t170.length : Int) then (if (rd_T35 t170 0).f2 = true then (if ((rd_T35 t170 0).f3) = 0 then (some ((((rd_T35 t170 0).f4).length : Int) == 0)) else (some false)) else (some false)) else (none)) else (some false)) else (some false)) = some r := H
  have A1 := Aside0.mk (show squash_Keep.f k [(⟨[97], 9, false, 5, [120]⟩ : S35)] ([] : List Int) 5 false = some (t170, t173) by rw [Ny167.out, Ny161.out, Ny164.out] at A10; exact A10)
  clear A10
  by_cases c2 : t173 = 0
  · rw [if_pos c2] at H
    have c2b0 : (t173 == 0) = true := beq_iff_eq.mpr c2
    have c2b1 : (t173 != 0) = false := bne_eq_false_iff_eq.mpr c2
    clear c2
    by_cases c3 : (t170.length : Int) = 1
    · rw [if_pos c3] at H
      have c3b0 : ((t170.length : Int) == 1) = true := beq_iff_eq.mpr c3
      have c3b1 : ((t170.length : Int) != 1) = false := bne_eq_false_iff_eq.mpr c3
      clear c3
      by_cases c4 : 0 < (t170.length : Int)
      · rw [if_pos c4] at H
        have c4b0 : decide (0 < (t170.length : Int)) = true := decide_eq_true c4
        have c4b1 : decide (0 < t170.length) = true := decide_eq_true (by omega)
        clear c4
        obtain ⟨bq5, hbq5⟩ : ∃ b_ : Bool, b_ = ((rd_T35 t170 0).f2) := ⟨_, rfl⟩
        replace H : (if bq5 = true then (if ((rd_T35 t170 0).f3) = 0 then (some ((((rd_T35 t170 0).f4).length : Int) == 0)) else (some false)) else (some false)) = some r := by rw [← hbq5] at H; exact H
        have Nbq5 := Aside0.mk hbq5
        clear hbq5
        by_cases c6 : bq5 = true
        · subst c6
          have H1 : (if ((rd_T35 t170 0).f3) = 0 then (some ((((rd_T35 t170 0).f4).length : Int) == 0)) else (some false)) = some r := by rw [if_pos rfl] at H; exact H
          clear H
          have H := H1
          clear H1
          by_cases c7 : ((rd_T35 t170 0).f3) = 0
          · rw [if_pos c7] at H
            have c7b0 : (((rd_T35 t170 0).f3) == 0) = true := beq_iff_eq.mpr c7
            have c7b1 : (((rd_T35 t170 0).f3) != 0) = false := bne_eq_false_iff_eq.mpr c7
            clear c7
            obtain rfl := Option.some.inj H
            go_enter Try.func10, Try.ntmps10
            go_wp2_with (first | ((with_reducible refine gate_callee (f := 11) rfl ?_); refine goesL_ (some 10) rfl rfl Try.func11 (by kernel_rfl) rfl #[.slice (some ⟨w.heap.size + 1 + 1, 0, none⟩) 1 1, .slice none 0 0, .int .i64 5, .bool false] rfl pm ?_; (refine (squash_Keep.calls k (fun k_ => True) (some ⟨w.heap.size + 1 + 1, 0, none⟩) 1 [(⟨[97], 9, false, 5, [120]⟩ : S35)] _ _ ([] : List Int) 5 false t170 t173 _ ?side1 ?side2 ?side3 A1.out).mono ?_); (case side1 => exact awake_V w); (case side2 => exact Kd.C_nil _ _); (case side3 => exact Nat.le_refl _); rintro e w17 ⟨v171, rfl, ho0, hb⟩; refine ⟨_, rfl, ?_⟩; have n1_ := Aside0.mk (Kd.N_lower (Kd.N_mono (ok' := fun k_ => True) ho0 (fun k_ hk_ => trivial)) (below_size pb)); have n2_ := Aside0.mk (below_step pb hb); clear HB; have HO172 := n1_; have HB := n2_; clear n1_ n2_; (try clear hb); (try clear hb2); (try clear hk); (try clear hi); (try clear ho0); obtain ⟨Ao18, co18, eo18⟩ := Kd.N_slice HO172.out; subst eo18; have p174 : 0 ≤ (0 : Int) := (by omega); have q174 : 0 < (t170.length : Int) := pa; obtain ⟨ad174, A174_0, c174_0, A174_4, c174_4, e174, hx174_0, hx174_1, hx174_2, hx174_3, hx174_4, hl174_0, hi174_0, hl174_4, hi174_4⟩ := at_T35 (Kd.N_reads' HO172.out).2.2 0 p174 q174; (try rw [← Nbq5.out] at hx174_2); cases e174; obtain ⟨ce174, hce174, hMe174, hcc174⟩ := Kd.N_get HO172.out z35 0 p174 (by first | exact q174 | exact pa | (have e_ := (Kd.N_reads' HO172.out).1; omega)); obtain ⟨ua174_0, uc174_0, ua174_4, uc174_4, rfl, ul174_0, ge174_0, ul174_4, ge174_4⟩ := k35_openF hMe174; have hv174_0 := hcc174 0 _ rfl; rw [Nat.add_zero] at hv174_0; replace hv174_0 := Option.some.inj (hv174_0.symm.trans hx174_0); injection hv174_0 with hva_ hvn_ hvc_; rw [hva_] at ge174_0; rw [hvc_] at ul174_0; have HL174_0 := Aside0.mk (show Kd.V (Kd.int .u8) 5 _ w.heap.size _ _ ((rd_T35 t170 0).f0) from Kd.V_mk ul174_0 ge174_0); clear hva_ hvn_ hvc_ ge174_0 ul174_0; have hv174_4 := hcc174 4 _ rfl; rw [add_field _ _ 4 (by omega)] at hv174_4; replace hv174_4 := Option.some.inj (hv174_4.symm.trans hx174_4); injection hv174_4 with hva_ hvn_ hvc_; rw [hva_] at ge174_4; rw [hvc_] at ul174_4; have HL174_4 := Aside0.mk (show Kd.V (Kd.int .u8) 5 _ w.heap.size _ _ ((rd_T35 t170 0).f4) from Kd.V_mk ul174_4 ge174_4); clear hva_ hvn_ hvc_ ge174_4 ul174_4; clear hcc174 hce174; have qi174 : (0 < t170.length) = True := eq_true (by omega); (try rw [show ((0 : Int)).toNat = 0 from rfl] at hx174_0); (try rw [show 0 * 5 = 0 from rfl] at hx174_0); (try rw [Addr.add_zero'] at hx174_0); (try rw [show ((0 : Int)).toNat = 0 from rfl] at hx174_1); (try rw [show 0 * 5 = 0 from rfl] at hx174_1); (try rw [Addr.add_zero'] at hx174_1); (try rw [show ((0 : Int)).toNat = 0 from rfl] at hx174_2); (try rw [show 0 * 5 = 0 from rfl] at hx174_2); (try rw [Addr.add_zero'] at hx174_2); (try rw [show ((0 : Int)).toNat = 0 from rfl] at hx174_3); (try rw [show 0 * 5 = 0 from rfl] at hx174_3); (try rw [Addr.add_zero'] at hx174_3); (try rw [show ((0 : Int)).toNat = 0 from rfl] at hx174_4); (try rw [show 0 * 5 = 0 from rfl] at hx174_4); (try rw [Addr.add_zero'] at hx174_4); have HR174_0 := Aside0.mk hi174_0; have HC174_0 := Aside0.mk hl174_0; clear hi174_0 hl174_0; have HR174_4 := Aside0.mk hi174_4; have HC174_4 := Aside0.mk hl174_4; clear hi174_4 hl174_4; replace p174 := eq_true p174; replace q174 := eq_true q174; have p175 : 0 ≤ (0 : Int) := (by omega); have q175 : 0 < (t170.length : Int) := pa; obtain ⟨ad175, A175_0, c175_0, A175_4, c175_4, e175, hx175_0, hx175_1, hx175_2, hx175_3, hx175_4, hl175_0, hi175_0, hl175_4, hi175_4⟩ := at_T35 (Kd.N_reads' HO172.out).2.2 0 p175 q175; (try rw [← Nbq5.out] at hx175_2); obtain rfl : ad174 = ad175 := (by injection e175); obtain ⟨ce175, hce175, hMe175, hcc175⟩ := Kd.N_get HO172.out z35 0 p175 (by first | exact q175 | exact pa | (have e_ := (Kd.N_reads' HO172.out).1; omega)); obtain ⟨ua175_0, uc175_0, ua175_4, uc175_4, rfl, ul175_0, ge175_0, ul175_4, ge175_4⟩ := k35_openF hMe175; have hv175_0 := hcc175 0 _ rfl; rw [Nat.add_zero] at hv175_0; replace hv175_0 := Option.some.inj (hv175_0.symm.trans hx175_0); injection hv175_0 with hva_ hvn_ hvc_; rw [hva_] at ge175_0; rw [hvc_] at ul175_0; have HL175_0 := Aside0.mk (show Kd.V (Kd.int .u8) 5 _ w.heap.size _ _ ((rd_T35 t170 0).f0) from Kd.V_mk ul175_0 ge175_0); clear hva_ hvn_ hvc_ ge175_0 ul175_0; have hv175_4 := hcc175 4 _ rfl; rw [add_field _ _ 4 (by omega)] at hv175_4; replace hv175_4 := Option.some.inj (hv175_4.symm.trans hx175_4); injection hv175_4 with hva_ hvn_ hvc_; rw [hva_] at ge175_4; rw [hvc_] at ul175_4; have HL175_4 := Aside0.mk (show Kd.V (Kd.int .u8) 5 _ w.heap.size _ _ ((rd_T35 t170 0).f4) from Kd.V_mk ul175_4 ge175_4); clear hva_ hvn_ hvc_ ge175_4 ul175_4; clear hcc175 hce175; have qi175 : (0 < t170.length) = True := eq_true (by omega); (try rw [show ((0 : Int)).toNat = 0 from rfl] at hx175_0); (try rw [show 0 * 5 = 0 from rfl] at hx175_0); (try rw [Addr.add_zero'] at hx175_0); (try rw [show ((0 : Int)).toNat = 0 from rfl] at hx175_1); (try rw [show 0 * 5 = 0 from rfl] at hx175_1); (try rw [Addr.add_zero'] at hx175_1); (try rw [show ((0 : Int)).toNat = 0 from rfl] at hx175_2); (try rw [show 0 * 5 = 0 from rfl] at hx175_2); (try rw [Addr.add_zero'] at hx175_2); (try rw [show ((0 : Int)).toNat = 0 from rfl] at hx175_3); (try rw [show 0 * 5 = 0 from rfl] at hx175_3); (try rw [Addr.add_zero'] at hx175_3); (try rw [show ((0 : Int)).toNat = 0 from rfl] at hx175_4); (try rw [show 0 * 5 = 0 from rfl] at hx175_4); (try rw [Addr.add_zero'] at hx175_4); have HR175_0 := Aside0.mk hi175_0; have HC175_0 := Aside0.mk hl175_0; clear hi175_0 hl175_0; have HR175_4 := Aside0.mk hi175_4; have HC175_4 := Aside0.mk hl175_4; clear hi175_4 hl175_4; replace p175 := eq_true p175; replace q175 := eq_true q175; have ea_ := Option.some.inj (hx174_0.symm.trans hx175_0); injection ea_ with ea_ en_ ec_; subst ea_; subst ec_; clear en_; have ea_ := Option.some.inj (hx174_4.symm.trans hx175_4); injection ea_ with ea_ en_ ec_; subst ea_; subst ec_; clear en_; have p176 : 0 ≤ (0 : Int) := (by omega); have q176 : 0 < (t170.length : Int) := pa; obtain ⟨ad176, A176_0, c176_0, A176_4, c176_4, e176, hx176_0, hx176_1, hx176_2, hx176_3, hx176_4, hl176_0, hi176_0, hl176_4, hi176_4⟩ := at_T35 (Kd.N_reads' HO172.out).2.2 0 p176 q176; (try rw [← Nbq5.out] at hx176_2); obtain rfl : ad174 = ad176 := (by injection e176); obtain ⟨ce176, hce176, hMe176, hcc176⟩ := Kd.N_get HO172.out z35 0 p176 (by first | exact q176 | exact pa | (have e_ := (Kd.N_reads' HO172.out).1; omega)); obtain ⟨ua176_0, uc176_0, ua176_4, uc176_4, rfl, ul176_0, ge176_0, ul176_4, ge176_4⟩ := k35_openF hMe176; have hv176_0 := hcc176 0 _ rfl; rw [Nat.add_zero] at hv176_0; replace hv176_0 := Option.some.inj (hv176_0.symm.trans hx176_0); injection hv176_0 with hva_ hvn_ hvc_; rw [hva_] at ge176_0; rw [hvc_] at ul176_0; have HL176_0 := Aside0.mk (show Kd.V (Kd.int .u8) 5 _ w.heap.size _ _ ((rd_T35 t170 0).f0) from Kd.V_mk ul176_0 ge176_0); clear hva_ hvn_ hvc_ ge176_0 ul176_0; have hv176_4 := hcc176 4 _ rfl; rw [add_field _ _ 4 (by omega)] at hv176_4; replace hv176_4 := Option.some.inj (hv176_4.symm.trans hx176_4); injection hv176_4 with hva_ hvn_ hvc_; rw [hva_] at ge176_4; rw [hvc_] at ul176_4; have HL176_4 := Aside0.mk (show Kd.V (Kd.int .u8) 5 _ w.heap.size _ _ ((rd_T35 t170 0).f4) from Kd.V_mk ul176_4 ge176_4); clear hva_ hvn_ hvc_ ge176_4 ul176_4; clear hcc176 hce176; have qi176 : (0 < t170.length) = True := eq_true (by omega); (try rw [show ((0 : Int)).toNat = 0 from rfl] at hx176_0); (try rw [show 0 * 5 = 0 from rfl] at hx176_0); (try rw [Addr.add_zero'] at hx176_0); (try rw [show ((0 : Int)).toNat = 0 from rfl] at hx176_1); (try rw [show 0 * 5 = 0 from rfl] at hx176_1); (try rw [Addr.add_zero'] at hx176_1); (try rw [show ((0 : Int)).toNat = 0 from rfl] at hx176_2); (try rw [show 0 * 5 = 0 from rfl] at hx176_2); (try rw [Addr.add_zero'] at hx176_2); (try rw [show ((0 : Int)).toNat = 0 from rfl] at hx176_3); (try rw [show 0 * 5 = 0 from rfl] at hx176_3); (try rw [Addr.add_zero'] at hx176_3); (try rw [show ((0 : Int)).toNat = 0 from rfl] at hx176_4); (try rw [show 0 * 5 = 0 from rfl] at hx176_4); (try rw [Addr.add_zero'] at hx176_4); have HR176_0 := Aside0.mk hi176_0; have HC176_0 := Aside0.mk hl176_0; clear hi176_0 hl176_0; have HR176_4 := Aside0.mk hi176_4; have HC176_4 := Aside0.mk hl176_4; clear hi176_4 hl176_4; replace p176 := eq_true p176; replace q176 := eq_true q176; have ea_ := Option.some.inj (hx174_0.symm.trans hx176_0); injection ea_ with ea_ en_ ec_; subst ea_; subst ec_; clear en_; have ea_ := Option.some.inj (hx174_4.symm.trans hx176_4); injection ea_ with ea_ en_ ec_; subst ea_; subst ec_; clear en_))
            go_ret
            exact ⟨by first | rfl | (simp [errW_none, errW_some] <;> rfl) | (simp [*, errW_none, errW_some] <;> rfl), pb⟩
          · rw [if_neg c7] at H
            have c7b0 : (((rd_T35 t170 0).f3) == 0) = false := beq_eq_false_iff_ne.mpr c7
            have c7b1 : (((rd_T35 t170 0).f3) != 0) = true := bne_iff_ne.mpr c7
            obtain rfl := Option.some.inj H
            go_enter Try.func10, Try.ntmps10
            go_wp2_with (first | ((with_reducible refine gate_callee (f := 11) rfl ?_); refine goesL_ (some 10) rfl rfl Try.func11 (by kernel_rfl) rfl #[.slice (some ⟨w.heap.size + 1 + 1, 0, none⟩) 1 1, .slice none 0 0, .int .i64 5, .bool false] rfl pm ?_; (refine (squash_Keep.calls k (fun k_ => True) (some ⟨w.heap.size + 1 + 1, 0, none⟩) 1 [(⟨[97], 9, false, 5, [120]⟩ : S35)] _ _ ([] : List Int) 5 false t170 t173 _ ?side1 ?side2 ?side3 A1.out).mono ?_); (case side1 => exact awake_V w); (case side2 => exact Kd.C_nil _ _); (case side3 => exact Nat.le_refl _); rintro e w28 ⟨v171, rfl, ho0, hb⟩; refine ⟨_, rfl, ?_⟩; have n1_ := Aside0.mk (Kd.N_lower (Kd.N_mono (ok' := fun k_ => True) ho0 (fun k_ hk_ => trivial)) (below_size pb)); have n2_ := Aside0.mk (below_step pb hb); clear HB; have HO172 := n1_; have HB := n2_; clear n1_ n2_; (try clear hb); (try clear hb2); (try clear hk); (try clear hi); (try clear ho0); obtain ⟨Ao29, co29, eo29⟩ := Kd.N_slice HO172.out; subst eo29; have p174 : 0 ≤ (0 : Int) := (by omega); have q174 : 0 < (t170.length : Int) := pa; obtain ⟨ad174, A174_0, c174_0, A174_4, c174_4, e174, hx174_0, hx174_1, hx174_2, hx174_3, hx174_4, hl174_0, hi174_0, hl174_4, hi174_4⟩ := at_T35 (Kd.N_reads' HO172.out).2.2 0 p174 q174; (try rw [← Nbq5.out] at hx174_2); cases e174; obtain ⟨ce174, hce174, hMe174, hcc174⟩ := Kd.N_get HO172.out z35 0 p174 (by first | exact q174 | exact pa | (have e_ := (Kd.N_reads' HO172.out).1; omega)); obtain ⟨ua174_0, uc174_0, ua174_4, uc174_4, rfl, ul174_0, ge174_0, ul174_4, ge174_4⟩ := k35_openF hMe174; have hv174_0 := hcc174 0 _ rfl; rw [Nat.add_zero] at hv174_0; replace hv174_0 := Option.some.inj (hv174_0.symm.trans hx174_0); injection hv174_0 with hva_ hvn_ hvc_; rw [hva_] at ge174_0; rw [hvc_] at ul174_0; have HL174_0 := Aside0.mk (show Kd.V (Kd.int .u8) 5 _ w.heap.size _ _ ((rd_T35 t170 0).f0) from Kd.V_mk ul174_0 ge174_0); clear hva_ hvn_ hvc_ ge174_0 ul174_0; have hv174_4 := hcc174 4 _ rfl; rw [add_field _ _ 4 (by omega)] at hv174_4; replace hv174_4 := Option.some.inj (hv174_4.symm.trans hx174_4); injection hv174_4 with hva_ hvn_ hvc_; rw [hva_] at ge174_4; rw [hvc_] at ul174_4; have HL174_4 := Aside0.mk (show Kd.V (Kd.int .u8) 5 _ w.heap.size _ _ ((rd_T35 t170 0).f4) from Kd.V_mk ul174_4 ge174_4); clear hva_ hvn_ hvc_ ge174_4 ul174_4; clear hcc174 hce174; have qi174 : (0 < t170.length) = True := eq_true (by omega); (try rw [show ((0 : Int)).toNat = 0 from rfl] at hx174_0); (try rw [show 0 * 5 = 0 from rfl] at hx174_0); (try rw [Addr.add_zero'] at hx174_0); (try rw [show ((0 : Int)).toNat = 0 from rfl] at hx174_1); (try rw [show 0 * 5 = 0 from rfl] at hx174_1); (try rw [Addr.add_zero'] at hx174_1); (try rw [show ((0 : Int)).toNat = 0 from rfl] at hx174_2); (try rw [show 0 * 5 = 0 from rfl] at hx174_2); (try rw [Addr.add_zero'] at hx174_2); (try rw [show ((0 : Int)).toNat = 0 from rfl] at hx174_3); (try rw [show 0 * 5 = 0 from rfl] at hx174_3); (try rw [Addr.add_zero'] at hx174_3); (try rw [show ((0 : Int)).toNat = 0 from rfl] at hx174_4); (try rw [show 0 * 5 = 0 from rfl] at hx174_4); (try rw [Addr.add_zero'] at hx174_4); have HR174_0 := Aside0.mk hi174_0; have HC174_0 := Aside0.mk hl174_0; clear hi174_0 hl174_0; have HR174_4 := Aside0.mk hi174_4; have HC174_4 := Aside0.mk hl174_4; clear hi174_4 hl174_4; replace p174 := eq_true p174; replace q174 := eq_true q174; have p175 : 0 ≤ (0 : Int) := (by omega); have q175 : 0 < (t170.length : Int) := pa; obtain ⟨ad175, A175_0, c175_0, A175_4, c175_4, e175, hx175_0, hx175_1, hx175_2, hx175_3, hx175_4, hl175_0, hi175_0, hl175_4, hi175_4⟩ := at_T35 (Kd.N_reads' HO172.out).2.2 0 p175 q175; (try rw [← Nbq5.out] at hx175_2); obtain rfl : ad174 = ad175 := (by injection e175); obtain ⟨ce175, hce175, hMe175, hcc175⟩ := Kd.N_get HO172.out z35 0 p175 (by first | exact q175 | exact pa | (have e_ := (Kd.N_reads' HO172.out).1; omega)); obtain ⟨ua175_0, uc175_0, ua175_4, uc175_4, rfl, ul175_0, ge175_0, ul175_4, ge175_4⟩ := k35_openF hMe175; have hv175_0 := hcc175 0 _ rfl; rw [Nat.add_zero] at hv175_0; replace hv175_0 := Option.some.inj (hv175_0.symm.trans hx175_0); injection hv175_0 with hva_ hvn_ hvc_; rw [hva_] at ge175_0; rw [hvc_] at ul175_0; have HL175_0 := Aside0.mk (show Kd.V (Kd.int .u8) 5 _ w.heap.size _ _ ((rd_T35 t170 0).f0) from Kd.V_mk ul175_0 ge175_0); clear hva_ hvn_ hvc_ ge175_0 ul175_0; have hv175_4 := hcc175 4 _ rfl; rw [add_field _ _ 4 (by omega)] at hv175_4; replace hv175_4 := Option.some.inj (hv175_4.symm.trans hx175_4); injection hv175_4 with hva_ hvn_ hvc_; rw [hva_] at ge175_4; rw [hvc_] at ul175_4; have HL175_4 := Aside0.mk (show Kd.V (Kd.int .u8) 5 _ w.heap.size _ _ ((rd_T35 t170 0).f4) from Kd.V_mk ul175_4 ge175_4); clear hva_ hvn_ hvc_ ge175_4 ul175_4; clear hcc175 hce175; have qi175 : (0 < t170.length) = True := eq_true (by omega); (try rw [show ((0 : Int)).toNat = 0 from rfl] at hx175_0); (try rw [show 0 * 5 = 0 from rfl] at hx175_0); (try rw [Addr.add_zero'] at hx175_0); (try rw [show ((0 : Int)).toNat = 0 from rfl] at hx175_1); (try rw [show 0 * 5 = 0 from rfl] at hx175_1); (try rw [Addr.add_zero'] at hx175_1); (try rw [show ((0 : Int)).toNat = 0 from rfl] at hx175_2); (try rw [show 0 * 5 = 0 from rfl] at hx175_2); (try rw [Addr.add_zero'] at hx175_2); (try rw [show ((0 : Int)).toNat = 0 from rfl] at hx175_3); (try rw [show 0 * 5 = 0 from rfl] at hx175_3); (try rw [Addr.add_zero'] at hx175_3); (try rw [show ((0 : Int)).toNat = 0 from rfl] at hx175_4); (try rw [show 0 * 5 = 0 from rfl] at hx175_4); (try rw [Addr.add_zero'] at hx175_4); have HR175_0 := Aside0.mk hi175_0; have HC175_0 := Aside0.mk hl175_0; clear hi175_0 hl175_0; have HR175_4 := Aside0.mk hi175_4; have HC175_4 := Aside0.mk hl175_4; clear hi175_4 hl175_4; replace p175 := eq_true p175; replace q175 := eq_true q175; have ea_ := Option.some.inj (hx174_0.symm.trans hx175_0); injection ea_ with ea_ en_ ec_; subst ea_; subst ec_; clear en_; have ea_ := Option.some.inj (hx174_4.symm.trans hx175_4); injection ea_ with ea_ en_ ec_; subst ea_; subst ec_; clear en_))
            go_ret
            exact ⟨by first | rfl | (simp [errW_none, errW_some] <;> rfl) | (simp [*, errW_none, errW_some] <;> rfl), pb⟩
        · replace c6 := Bool.eq_false_iff.mpr c6
          subst c6
          have H1 : (some false) = some r := by rw [if_neg (show ¬ (false = true) by decide)] at H; exact H
          clear H
          have H := H1
          clear H1
          obtain rfl := Option.some.inj H
          go_enter Try.func10, Try.ntmps10
          go_wp2_with (first | ((with_reducible refine gate_callee (f := 11) rfl ?_); refine goesL_ (some 10) rfl rfl Try.func11 (by kernel_rfl) rfl #[.slice (some ⟨w.heap.size + 1 + 1, 0, none⟩) 1 1, .slice none 0 0, .int .i64 5, .bool false] rfl pm ?_; (refine (squash_Keep.calls k (fun k_ => True) (some ⟨w.heap.size + 1 + 1, 0, none⟩) 1 [(⟨[97], 9, false, 5, [120]⟩ : S35)] _ _ ([] : List Int) 5 false t170 t173 _ ?side1 ?side2 ?side3 A1.out).mono ?_); (case side1 => exact awake_V w); (case side2 => exact Kd.C_nil _ _); (case side3 => exact Nat.le_refl _); rintro e w39 ⟨v171, rfl, ho0, hb⟩; refine ⟨_, rfl, ?_⟩; have n1_ := Aside0.mk (Kd.N_lower (Kd.N_mono (ok' := fun k_ => True) ho0 (fun k_ hk_ => trivial)) (below_size pb)); have n2_ := Aside0.mk (below_step pb hb); clear HB; have HO172 := n1_; have HB := n2_; clear n1_ n2_; (try clear hb); (try clear hb2); (try clear hk); (try clear hi); (try clear ho0); obtain ⟨Ao40, co40, eo40⟩ := Kd.N_slice HO172.out; subst eo40; have p174 : 0 ≤ (0 : Int) := (by omega); have q174 : 0 < (t170.length : Int) := pa; obtain ⟨ad174, A174_0, c174_0, A174_4, c174_4, e174, hx174_0, hx174_1, hx174_2, hx174_3, hx174_4, hl174_0, hi174_0, hl174_4, hi174_4⟩ := at_T35 (Kd.N_reads' HO172.out).2.2 0 p174 q174; (try rw [← Nbq5.out] at hx174_2); cases e174; obtain ⟨ce174, hce174, hMe174, hcc174⟩ := Kd.N_get HO172.out z35 0 p174 (by first | exact q174 | exact pa | (have e_ := (Kd.N_reads' HO172.out).1; omega)); obtain ⟨ua174_0, uc174_0, ua174_4, uc174_4, rfl, ul174_0, ge174_0, ul174_4, ge174_4⟩ := k35_openF hMe174; have hv174_0 := hcc174 0 _ rfl; rw [Nat.add_zero] at hv174_0; replace hv174_0 := Option.some.inj (hv174_0.symm.trans hx174_0); injection hv174_0 with hva_ hvn_ hvc_; rw [hva_] at ge174_0; rw [hvc_] at ul174_0; have HL174_0 := Aside0.mk (show Kd.V (Kd.int .u8) 5 _ w.heap.size _ _ ((rd_T35 t170 0).f0) from Kd.V_mk ul174_0 ge174_0); clear hva_ hvn_ hvc_ ge174_0 ul174_0; have hv174_4 := hcc174 4 _ rfl; rw [add_field _ _ 4 (by omega)] at hv174_4; replace hv174_4 := Option.some.inj (hv174_4.symm.trans hx174_4); injection hv174_4 with hva_ hvn_ hvc_; rw [hva_] at ge174_4; rw [hvc_] at ul174_4; have HL174_4 := Aside0.mk (show Kd.V (Kd.int .u8) 5 _ w.heap.size _ _ ((rd_T35 t170 0).f4) from Kd.V_mk ul174_4 ge174_4); clear hva_ hvn_ hvc_ ge174_4 ul174_4; clear hcc174 hce174; have qi174 : (0 < t170.length) = True := eq_true (by omega); (try rw [show ((0 : Int)).toNat = 0 from rfl] at hx174_0); (try rw [show 0 * 5 = 0 from rfl] at hx174_0); (try rw [Addr.add_zero'] at hx174_0); (try rw [show ((0 : Int)).toNat = 0 from rfl] at hx174_1); (try rw [show 0 * 5 = 0 from rfl] at hx174_1); (try rw [Addr.add_zero'] at hx174_1); (try rw [show ((0 : Int)).toNat = 0 from rfl] at hx174_2); (try rw [show 0 * 5 = 0 from rfl] at hx174_2); (try rw [Addr.add_zero'] at hx174_2); (try rw [show ((0 : Int)).toNat = 0 from rfl] at hx174_3); (try rw [show 0 * 5 = 0 from rfl] at hx174_3); (try rw [Addr.add_zero'] at hx174_3); (try rw [show ((0 : Int)).toNat = 0 from rfl] at hx174_4); (try rw [show 0 * 5 = 0 from rfl] at hx174_4); (try rw [Addr.add_zero'] at hx174_4); have HR174_0 := Aside0.mk hi174_0; have HC174_0 := Aside0.mk hl174_0; clear hi174_0 hl174_0; have HR174_4 := Aside0.mk hi174_4; have HC174_4 := Aside0.mk hl174_4; clear hi174_4 hl174_4; replace p174 := eq_true p174; replace q174 := eq_true q174))
          go_ret
          exact ⟨by first | rfl | (simp [errW_none, errW_some] <;> rfl) | (simp [*, errW_none, errW_some] <;> rfl), pb⟩
      · rw [if_neg c4] at H
        exact absurd H (by simp)
    · rw [if_neg c3] at H
      have c3b0 : ((t170.length : Int) == 1) = false := beq_eq_false_iff_ne.mpr c3
      have c3b1 : ((t170.length : Int) != 1) = true := bne_iff_ne.mpr c3
      obtain rfl := Option.some.inj H
      go_enter Try.func10, Try.ntmps10
      go_wp2_with (first | ((with_reducible refine gate_callee (f := 11) rfl ?_); refine goesL_ (some 10) rfl rfl Try.func11 (by kernel_rfl) rfl #[.slice (some ⟨w.heap.size + 1 + 1, 0, none⟩) 1 1, .slice none 0 0, .int .i64 5, .bool false] rfl pm ?_; (refine (squash_Keep.calls k (fun k_ => True) (some ⟨w.heap.size + 1 + 1, 0, none⟩) 1 [(⟨[97], 9, false, 5, [120]⟩ : S35)] _ _ ([] : List Int) 5 false t170 t173 _ ?side1 ?side2 ?side3 A1.out).mono ?_); (case side1 => exact awake_V w); (case side2 => exact Kd.C_nil _ _); (case side3 => exact Nat.le_refl _); rintro e w50 ⟨v171, rfl, ho0, hb⟩; refine ⟨_, rfl, ?_⟩; have n1_ := Aside0.mk (Kd.N_lower (Kd.N_mono (ok' := fun k_ => True) ho0 (fun k_ hk_ => trivial)) (below_size pb)); have n2_ := Aside0.mk (below_step pb hb); clear HB; have HO172 := n1_; have HB := n2_; clear n1_ n2_; (try clear hb); (try clear hb2); (try clear hk); (try clear hi); (try clear ho0); obtain ⟨Ao51, co51, eo51⟩ := Kd.N_slice HO172.out; subst eo51))
      go_ret
      exact ⟨by first | rfl | (simp [errW_none, errW_some] <;> rfl) | (simp [*, errW_none, errW_some] <;> rfl), pb⟩
  · rw [if_neg c2] at H
    have c2b0 : (t173 == 0) = false := beq_eq_false_iff_ne.mpr c2
    have c2b1 : (t173 != 0) = true := bne_iff_ne.mpr c2
    obtain rfl := Option.some.inj H
    go_enter Try.func10, Try.ntmps10
    go_wp2_with (first | ((with_reducible refine gate_callee (f := 11) rfl ?_); refine goesL_ (some 10) rfl rfl Try.func11 (by kernel_rfl) rfl #[.slice (some ⟨w.heap.size + 1 + 1, 0, none⟩) 1 1, .slice none 0 0, .int .i64 5, .bool false] rfl pm ?_; (refine (squash_Keep.calls k (fun k_ => True) (some ⟨w.heap.size + 1 + 1, 0, none⟩) 1 [(⟨[97], 9, false, 5, [120]⟩ : S35)] _ _ ([] : List Int) 5 false t170 t173 _ ?side1 ?side2 ?side3 A1.out).mono ?_); (case side1 => exact awake_V w); (case side2 => exact Kd.C_nil _ _); (case side3 => exact Nat.le_refl _); rintro e w61 ⟨v171, rfl, ho0, hb⟩; refine ⟨_, rfl, ?_⟩; have n1_ := Aside0.mk (Kd.N_lower (Kd.N_mono (ok' := fun k_ => True) ho0 (fun k_ hk_ => trivial)) (below_size pb)); have n2_ := Aside0.mk (below_step pb hb); clear HB; have HO172 := n1_; have HB := n2_; clear n1_ n2_; (try clear hb); (try clear hb2); (try clear hk); (try clear hi); (try clear ho0)))
    go_ret
    exact ⟨by first | rfl | (simp [errW_none, errW_some] <;> rfl) | (simp [*, errW_none, errW_some] <;> rfl), pb⟩

end Go.Proofs.Ytnepbpcpfeejkaa.K
