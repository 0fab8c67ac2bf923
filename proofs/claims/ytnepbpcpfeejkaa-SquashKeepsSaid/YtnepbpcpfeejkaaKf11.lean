-- Printed by the prover's own turned printer (wip/printer in the prover's repo); Lean checks it.
import Derived.Test.YtnepbpcpfeejkaaK0
import Derived.Test.YtnepbpcpfeejkaaKf20
import Derived.Test.YtnepbpcpfeejkaaKf21
import Derived.Test.YtnepbpcpfeejkaaKf22
namespace Go.Proofs.Ytnepbpcpfeejkaa.K
open Go.RowKit Go.Proofs.YtnepbpcpfeejkaaW.PrintWords Go.Proofs.YtnepbpcpfeejkaaW.PrintLast Go.Proofs.YtnepbpcpfeejkaaW.PrintMore
attribute [local go_sem] max2_int min2_int max_two min_two max_three min_three max_four min_four   -- for this text's walks alone
set_option linter.unusedVariables false
set_option linter.unusedSimpArgs false

/-! ### squash_Keep: function 11 -/
/-- What a label's passes do, by a number that each pass lowers. -/
theorem wp_scope_ghost {P : Program} {a : Act} {w : World} {Q : Exit → Act → World → Prop} {c rest : Code} (l : Nat) (J : Nat → Act → World → Prop) (hf : findLabel c l = some (Code.skip.seq rest))
    (pass : ∀ (X : Act → World → Prop) k a w, J k a w → Hid (∀ k' a' w', k' < k → J k' a' w' → X a' w') → rest.wp P (Exit.jump l X Q) a w)
    (first : (∀ (X : Act → World → Prop) k a w, J k a w → Hid (∀ k' a' w', k' < k → J k' a' w' → X a' w') → rest.wp P (Exit.jump l X Q) a w) → c.wp P (Exit.jump l (fun a' w' => ∃ k, J k a' w') Q) a w) : (Code.scope c).wp P Q a w := by
  replace first := first pass
  have pass0 := pass
  clear pass
  have pass : ∀ (X : Act → World → Prop) k a w, J k a w → Hid (∀ k' a' w', k' < k → J k' a' w' → X a' w') → (Code.skip.seq rest).wp P (Exit.jump l X Q) a w := fun X k a w hJ hX => wp_seq (wp_skip (pass0 X k a w hJ hX))
  replace pass : ∀ k a w, J k a w → (Code.skip.seq rest).wp P (Exit.jump l (fun a' w' => ∃ k', k' < k ∧ J k' a' w') Q) a w := fun k a w hJ => pass _ k a w hJ (fun k' a' w' hk hJ' => ⟨k', hk, hJ'⟩)
  intro b k cs
  have hg : gotoIn l (.inScope c :: k) = some (.code (Code.skip.seq rest) :: .inScope c :: k) := by simp [gotoIn, hf]
  have key : ∀ n a w, J n a w → ∃ e a' w', Q e a' w' ∧ Arrives P (lone (b.at a (.code (Code.skip.seq rest) :: .inScope c :: k)) cs w) b k cs e a' w' := by
    intro n
    induction n using Nat.strongRecOn with
    | _ n ih =>
      intro a w hJ
      obtain ⟨e, a₁, w₁, hq, harr⟩ := pass n a w hJ b (.inScope c :: k) cs
      cases e with
      | normal => exact ⟨.normal, a₁, w₁, hq, Steps.trans harr (.one step_inScope)⟩
      | exit id => exact ⟨.exit id, a₁, w₁, hq, fun k' hk => harr k' (by simp [exitTo, hk])⟩
      | goto l' =>
        obtain ⟨rfl, n', hlt, hJ'⟩ := hq
        obtain ⟨e₂, a₂, w₂, hq₂, harr₂⟩ := ih _ hlt a₁ w₁ hJ'
        exact ⟨e₂, a₂, w₂, hq₂, .of_steps (harr _ hg) harr₂⟩
      | ret => exact ⟨_, a₁, w₁, hq, harr⟩
      | panic ch => exact ⟨_, a₁, w₁, hq, harr⟩
      | outgrown => exact ⟨_, a₁, w₁, hq, harr⟩
  obtain ⟨e, a₁, w₁, hq, harr⟩ := first b (.inScope c :: k) cs
  cases e with
  | normal => exact ⟨.normal, a₁, w₁, hq, .head step_scope (Steps.trans harr (.one step_inScope))⟩
  | exit id => exact ⟨.exit id, a₁, w₁, hq, fun k' hk => .head step_scope (harr k' (by simp [exitTo, hk]))⟩
  | goto l' =>
    obtain ⟨rfl, n', hJ'⟩ := hq
    obtain ⟨e₂, a₂, w₂, hq₂, harr₂⟩ := key _ a₁ w₁ hJ'
    exact ⟨e₂, a₂, w₂, hq₂, .of_steps (.head step_scope (harr _ hg)) harr₂⟩
  | ret => exact ⟨_, a₁, w₁, hq, .of_steps (.one step_scope) harr⟩
  | panic ch => exact ⟨_, a₁, w₁, hq, .of_steps (.one step_scope) harr⟩
  | outgrown => exact ⟨_, a₁, w₁, hq, .of_steps (.one step_scope) harr⟩

def squash_Keep.l0 : Nat → List (S35) → List Int → Int → Bool → List (S35) → Option ((List (S35)) × Int)
  | 0, _, _, _, _, _ => none
  | k + 1, x0, x1, x2, x3, x10 => if (x0.length : Int) > 0 then ((squash_one.f k x0).bind fun t144 => (if 0 ≤ t144 then (if t144 ≤ (x0.length : Int) then ((squash_key.f k (x0.take (t144 : Int).toNat) x1 x2 x3).bind fun t150 => (if x10.length + t150.length < 1954687338268 then (squash_Keep.l0 k (x0.drop (t144 : Int).toNat) x1 x2 x3 (x10 ++ t150)) else (none))) else (none)) else (none))) else (some (x10, 0))
def squash_Keep.f (k : Nat) (l0 : List (S35)) (l1 : List Int) (a2 : Int) (a3 : Bool) : Option ((List (S35)) × Int) := (squash_ordered.f k l0).bind fun t143 => (if t143 = true then (squash_Keep.l0 k l0 l1 a2 a3 ([] : List (S35))) else (some (([] : List (S35)), 11)))
theorem squash_Keep.mono_l : ∀ k, (∀ y0 y1 y2 y3 y4, LeO (squash_Keep.l0 k y0 y1 y2 y3 y4) (squash_Keep.l0 (k + 1) y0 y1 y2 y3 y4))
  | 0 => fun _ _ _ _ _ r h => by simp [squash_Keep.l0] at h
  | k + 1 => by
    have ih0 := squash_Keep.mono_l k
    · intro y0 y1 y2 y3 y4
      unfold squash_Keep.l0
      repeat' first
      | (with_reducible exact ih0 _ _ _ _ _)
      | (with_reducible exact squash_key.mono _ _ _ _ _)
      | (with_reducible exact squash_one.mono _ _)
      | (with_reducible exact squash_ordered.mono _ _)
      | (with_reducible exact LeO.refl _)
      | (with_reducible exact LeO.none _)
      | (with_reducible refine LeO.ite ?_ ?_)
      | (with_reducible refine LeO.bind ?_ (fun _ => ?_))
      | exact ih0 _ _ _ _ _
      | exact squash_key.mono _ _ _ _ _
      | exact squash_one.mono _ _
      | exact squash_ordered.mono _ _
      | exact LeO.none _
      | refine LeO.ite ?_ ?_
      | refine LeO.bind ?_ (fun _ => ?_)
theorem squash_Keep.mono : ∀ a0 a1 a2 a3 k, LeO (squash_Keep.f k a0 a1 a2 a3) (squash_Keep.f (k + 1) a0 a1 a2 a3) := by
  intro a0 a1 a2 a3 k
  have ih0 := squash_Keep.mono_l k
  unfold squash_Keep.f
  repeat' first
      | (with_reducible exact ih0 _ _ _ _ _)
      | (with_reducible exact squash_key.mono _ _ _ _ _)
      | (with_reducible exact squash_one.mono _ _)
      | (with_reducible exact squash_ordered.mono _ _)
      | (with_reducible exact LeO.refl _)
      | (with_reducible exact LeO.none _)
      | (with_reducible refine LeO.ite ?_ ?_)
      | (with_reducible refine LeO.bind ?_ (fun _ => ?_))
      | exact ih0 _ _ _ _ _
      | exact squash_key.mono _ _ _ _ _
      | exact squash_one.mono _ _
      | exact squash_ordered.mono _ _
      | exact LeO.none _
      | refine LeO.ite ?_ ?_
      | refine LeO.bind ?_ (fun _ => ?_)
set_option maxHeartbeats 8000000 in
set_option maxRecDepth 100000 in
theorem squash_Keep.calls (k : Nat) (P0_ : Nat → Prop) (A0 : Option Addr) (c0 : Nat) (l0 : List (S35)) (A1 : Option Addr) (c1 : Nat) (l1 : List Int) (a2 : Int) (a3 : Bool) (r1 : List (S35)) (r2 : Int) (w : World) (hs0 : Kd.V k35 35 w w.heap.size (fun k_ => P0_ k_) (.slice A0 l0.length c0) l0) (hr1 : Kd.C (Kd.int .i64) w A1 l1.length l1) (hc1 : l1.length ≤ c1) (h : squash_Keep.f k l0 l1 a2 a3 = some (r1, r2)) :
    Calls Try.prog 11 #[.slice A0 l0.length c0, .slice A1 l1.length c1, .int .i64 a2, .bool a3] w fun e w' => ∃ v0_ : Value, e = .returned (.tuple #[v0_, .int .i64 r2]) ∧ Kd.N k35 35 w' w.heap.size (fun k_ => (P0_ k_ ∨ w.heap.size ≤ k_)) v0_ r1 ∧ Below w.heap.size w w' := by
  have HO0 := Aside0.mk (show Kd.V k35 35 w w.heap.size (fun k_ => (P0_ k_ ∨ w.heap.size ≤ k_)) (.slice A0 l0.length c0) l0 from Kd.V_mono hs0 (fun k_ hk => .inl hk))
  have HR1 := Aside0.mk hr1
  have HC1 := Aside0.mk hc1
  clear hr1 hc1
  have HB := Aside0.mk (Below.refl w.heap.size w)
  have H : ((squash_ordered.f k l0).bind fun t143 => (if t143 = true then (squash_Keep.l0 k l0 l1 a2 a3 ([] : List (S35))) else (some (([] : List (S35)), 11)))) = some (r1, r2) := h
  clear h
  replace H := Option.bind_eq_some_iff.mp H
  obtain ⟨t143, A50, H⟩ := H
  replace H : (if t143 = true then (squash_Keep.l0 k l0 l1 a2 a3 ([] : List (S35))) else (some (([] : List (S35)), 11))) = some (r1, r2) := H
  have A5 := Aside0.mk A50
  clear A50
  by_cases c6 : t143 = true
  · subst c6
    have H1 : (squash_Keep.l0 k l0 l1 a2 a3 ([] : List (S35))) = some (r1, r2) := by rw [if_pos rfl] at H; exact H
    clear H
    have H := H1
    clear H1
    have H' := Aside0.mk H
    clear H
    go_enter Try.func11, Try.ntmps11
    go_wp2
    refine wp_scope_ghost 0 (fun kq a' w' => ∃ (x0_1 : List (S35)) (x10_1 : List (S35)) (v0 v10 u11 u12 u13 u14 u15 u16 u17 u18 u19 u20 u21 u22 u23 u24 u25 u26 u27 u28 u29 u30 u31 u32 : Value), a' = { tmps := #[v0, .slice A1 l1.length c1, .int .i64 a2, .bool a3, undef, undef, undef, undef, .slice none 0 0, .int .i64 0, v10, u11, u12, u13, u14, u15, u16, u17, u18, u19, u20, u21, u22, u23, u24, u25, u26, u27, u28, u29, u30, u31, u32], defers := [] } ∧ Aside0 (squash_Keep.l0 kq x0_1 l1 a2 a3 x10_1 = some (r1, r2)) ∧ Aside0 (kq ≤ k) ∧ Aside0 (Kd.V k35 35 w' w.heap.size (fun k_ => (P0_ k_ ∨ w.heap.size ≤ k_) ∧ some k_ ≠ (v10 : Value).ownBlock) v0 x0_1) ∧ Aside0 (Kd.N k35 35 w' w.heap.size (fun k_ => (P0_ k_ ∨ w.heap.size ≤ k_)) v10 x10_1) ∧ Aside0 (Below w.heap.size w w')) rfl ?_ ?_
    · rintro X gk a' w' ⟨x0_1, x10_1, u0, u10, u11, u12, u13, u14, u15, u16, u17, u18, u19, u20, u21, u22, u23, u24, u25, u26, u27, u28, u29, u30, u31, u32, rfl, HA, HK1, HO_0, HO_10, HB⟩ hX
      have HLT := Aside0.mk (True.intro)
      clear H'
      try clear c1
      try clear c2
      try clear p2
      try clear c6
      cases gk with
      | zero => exact absurd HA.out (by simp [squash_Keep.l0])
      | succ k1 =>
        have H := HA.out
        clear HA
        simp only [squash_Keep.l0] at H
        by_cases c8 : (x0_1.length : Int) > 0
        · rw [if_pos c8] at H
          have c8b0 : decide (0 < (x0_1.length : Int)) = true := decide_eq_true c8
          have c8b1 : decide (0 < x0_1.length) = true := decide_eq_true (by omega)
          clear c8
          replace H := Option.bind_eq_some_iff.mp H
          obtain ⟨t144, A90, H⟩ := H
          replace H : (if 0 ≤ t144 then (if t144 ≤ (x0_1.length : Int) then ((squash_key.f k1 (x0_1.take (t144 : Int).toNat) l1 a2 a3).bind fun t150 => (if x10_1.length + t150.length < 1954687338268 then (squash_Keep.l0 k1 (x0_1.drop (t144 : Int).toNat) l1 a2 a3 (x10_1 ++ t150)) else (none))) else (none)) else (none)) = some (r1, r2) := H
          have A9 := Aside0.mk A90
          clear A90
          by_cases c10 : 0 ≤ t144
          · rw [if_pos c10] at H
            have c10b0 := eq_true c10
            have c10b1 : decide (0 ≤ t144) = true := decide_eq_true c10
            clear c10
            by_cases c11 : t144 ≤ (x0_1.length : Int)
            · rw [if_pos c11] at H
              have c11b0 := eq_true c11
              have c11b1 : decide (t144 ≤ (x0_1.length : Int)) = true := decide_eq_true c11
              clear c11
              obtain ⟨y145, hy145⟩ : ∃ y_ : List (S35), y_ = (x0_1.take (t144 : Int).toNat) := ⟨_, rfl⟩
              replace H : ((squash_key.f k1 y145 l1 a2 a3).bind fun t150 => (if x10_1.length + t150.length < 1954687338268 then (squash_Keep.l0 k1 (x0_1.drop (t144 : Int).toNat) l1 a2 a3 (x10_1 ++ t150)) else (none))) = some (r1, r2) := by first | (rw [hy145]; with_reducible exact H) | (have H2_ := (Option.bind_some _ _).symm.trans H; rw [hy145]; with_reducible exact H2_) | (have H2_ := (Option.bind_some _ _).symm.trans H; with_reducible exact H2_) | with_reducible exact H | (rw [hy145]; exact H) | exact H
              have Ny145 := Aside0.mk hy145
              clear hy145
              replace H := Option.bind_eq_some_iff.mp H
              obtain ⟨t150, A120, H⟩ := H
              replace H : (if x10_1.length + t150.length < 1954687338268 then (squash_Keep.l0 k1 (x0_1.drop (t144 : Int).toNat) l1 a2 a3 (x10_1 ++ t150)) else (none)) = some (r1, r2) := H
              have A12 := Aside0.mk A120
              clear A120
              by_cases c13 : x10_1.length + t150.length < 1954687338268
              · rw [if_pos c13] at H
                have LMc13 := Aside0.mk c13
                clear c13
                obtain ⟨y153, hy153⟩ : ∃ y_ : List (S35), y_ = (x10_1 ++ t150) := ⟨_, rfl⟩
                replace H : (squash_Keep.l0 k1 (x0_1.drop (t144 : Int).toNat) l1 a2 a3 y153) = some (r1, r2) := by first | (rw [hy153]; with_reducible exact H) | (have H2_ := (Option.bind_some _ _).symm.trans H; rw [hy153]; with_reducible exact H2_) | (have H2_ := (Option.bind_some _ _).symm.trans H; with_reducible exact H2_) | with_reducible exact H | (rw [hy153]; exact H) | exact H
                have Ny153 := Aside0.mk hy153
                clear hy153
                have c14b0 := eq_true (pa : 0 ≤ t144)
                have c15b0 := eq_true (pa : t144 ≤ (x0_1.length : Int))
                obtain ⟨y156, hy156⟩ : ∃ y_ : List (S35), y_ = (x0_1.drop (t144 : Int).toNat) := ⟨_, rfl⟩
                replace H : (squash_Keep.l0 k1 y156 l1 a2 a3 y153) = some (r1, r2) := by first | (rw [hy156]; with_reducible exact H) | (have H2_ := (Option.bind_some _ _).symm.trans H; rw [hy156]; with_reducible exact H2_) | (have H2_ := (Option.bind_some _ _).symm.trans H; with_reducible exact H2_) | with_reducible exact H | (rw [hy156]; exact H) | exact H
                have Ny156 := Aside0.mk hy156
                clear hy156
                have H' := Aside0.mk H
                clear H
                obtain ⟨Ao16, co16, eo16⟩ := Kd.V_slice HO_0.out
                subst eo16
                go_wp2_with (first | ((with_reducible refine gate_callee (f := 21) rfl ?_); refine goesL_ (some 19) rfl rfl Try.func21 (by kernel_rfl) rfl #[.slice Ao16 x0_1.length co16] rfl pm ?_; (with_reducible refine (squash_one.calls k1 _ _ x0_1 t144 _ ?side1 ?side2 A9.out).mono ?_); (case side1 => repeat (first | exact (Kd.V_reads' HO_0.out).2.2 | (with_reducible refine Kd.C_alloc ?_ _) | (with_reducible refine Kd.C_drewN ?_ _) | (with_reducible refine Kd.C_drew ?_))); (case side2 => exact (Kd.V_reads' HO_0.out).2.1); rintro e w17 ⟨rfl, hb⟩; refine ⟨_, rfl, ?_⟩; have n0_ := Aside0.mk (Kd.V_below (by (with_reducible repeat (first | apply Kd.V_alloc | apply Kd.V_drewN | apply Kd.V_drew)); exact HO_0.out) hb); have n1_ := Aside0.mk (Kd.N_below (by (with_reducible repeat (first | apply Kd.N_alloc | apply Kd.N_drewN | apply Kd.N_drew)); exact HO_10.out) hb); have n2_ := Aside0.mk (below_step pb hb); clear HO_0; clear HO_10; clear HB; have HO_0 := n0_; have HO_10 := n1_; have HB := n2_; clear n0_ n1_ n2_; (try clear hb); (try clear hb2); (try clear hk); (try clear hi); have q18 : (t144 : Int) ≤ ((x0_1.length : Int) : Int) := pa; obtain ⟨i018, hi018, _, hsz18, _⟩ := info_parts info35; have hroom18 : x0_1.length ≤ co16 := (Kd.V_reads' HO_0.out).2.1; have hC18 : Kd.F k35 _ _ Ao16 x0_1.length x0_1 := (Kd.V_at (base := w.heap.size) HO_0.out).2.2; have hcut18 := cut_to (P := Try.prog) 22 35 .i64 Try.underlying22 hi018 Ao16 x0_1.length co16 t144 (pa) q18 hroom18; have hr18 := Kd.F_take (m := (t144 : Int).toNat) hC18 (by omega); have hy18 : y145.length = (t144 : Int).toNat := (by rw [Ny145.out, List.length_take]; omega); rw [← Ny145.out] at hr18; rw [← hy18] at hcut18; have HO149 := Aside0.mk (show Kd.V k35 35 _ w.heap.size _ (.slice Ao16 y145.length co16) y145 from Kd.V_mk (by omega) hr18); have HC149 := Aside0.mk (show y145.length ≤ co16 from by omega); clear hr18 hC18 hroom18 hi018 hsz18; have KY18 := Aside0.mk hy18; clear hy18; replace q18 := eq_true q18) | ((with_reducible refine gate_callee (f := 22) rfl ?_); refine goesL_ (some 27) rfl rfl Try.func22 (by kernel_rfl) rfl #[.slice Ao16 y145.length co16, .slice A1 l1.length c1, .int .i64 a2, .bool a3] rfl pm ?_; (with_reducible refine (squash_key.calls k1 _ _ y145 _ _ l1 a2 a3 t150 _ ?side1 ?side2 ?side3 ?side4 A12.out).mono ?_); (case side1 => repeat (first | exact (Kd.V_reads' HO149.out).2.2 | (with_reducible refine Kd.C_alloc ?_ _) | (with_reducible refine Kd.C_drewN ?_ _) | (with_reducible refine Kd.C_drew ?_))); (case side2 => exact (Kd.V_reads' HO149.out).2.1); (case side3 => repeat (first | exact (Kd.C_below HR1.out HB.out) | (with_reducible refine Kd.C_alloc ?_ _) | (with_reducible refine Kd.C_drewN ?_ _) | (with_reducible refine Kd.C_drew ?_))); (case side4 => exact HC1.out); rintro e w19 ⟨v151, rfl, ho0, hb⟩; refine ⟨_, rfl, ?_⟩; have n0_ := Aside0.mk (Kd.V_elder' (by (with_reducible repeat (first | apply Kd.V_alloc | apply Kd.V_drewN | apply Kd.V_drew)); exact HO_0.out) (by first | exact Kd.N_base ho0 | exact Kd.S_base ho0) hb); have n1_ := Aside0.mk (Kd.N_elder' (by (with_reducible repeat (first | apply Kd.N_alloc | apply Kd.N_drewN | apply Kd.N_drew)); exact HO_10.out) (by first | exact Kd.N_base ho0 | exact Kd.S_base ho0) hb); have n2_ := Aside0.mk (Kd.V_elder' (by (with_reducible repeat (first | apply Kd.V_alloc | apply Kd.V_drewN | apply Kd.V_drew)); exact HO149.out) (by first | exact Kd.N_base ho0 | exact Kd.S_base ho0) hb); have n3_ := Aside0.mk (Kd.N_lower (Kd.N_mono (ok' := fun k_ => (P0_ k_ ∨ w.heap.size ≤ k_) ∧ some k_ ≠ (u10 : Value).ownBlock) (Kd.S_N (Kd.S_bound ho0)) (fun k_ hk_ => ⟨(.inr (Nat.le_trans (below_size pb) hk_.2.1)), (Kd.fresh' (Kd.N_lt (by (with_reducible repeat (first | apply Kd.N_alloc | apply Kd.N_drewN | apply Kd.N_drew)); exact HO_10.out)) k_ hk_.2.1)⟩)) (below_size pb)); have n4_ := Aside0.mk (below_step pb hb); clear HO_0; clear HO_10; clear HO149; clear HB; have HO_0 := n0_; have HO_10 := n1_; have HO149 := n2_; have HO152 := n3_; have HB := n4_; clear n0_ n1_ n2_ n3_ n4_; (try clear hb); (try clear hb2); (try clear hk); (try clear hi); (try clear ho0); obtain ⟨Ao21, co21, eo21⟩ := Kd.N_slice HO152.out; subst eo21) | ((with_reducible refine gate_builtin (b := .append) (xs := #[.tmp 20, .tmp 27]) rfl ?_); at_builtin; refine Kd.N_append_rows k35 (w0 := w) w.heap.size rfl (.tmp 20) (.tmp 27) 22 35 (.agg #[(.slice none 0 0), (.int .i64 0), (.bool false), (.int .i64 0), (.slice none 0 0)]) 72 rfl Try.underlying22 info35 rfl (by decide) (by omega) u10 x10_1 t150 _ _ _ (fun k_ => (P0_ k_ ∨ w.heap.size ≤ k_)) (fun k_ => ((fun k_ => (P0_ k_ ∨ w.heap.size ≤ k_))) k_ ∧ some k_ ≠ (u10 : Value).ownBlock) rfl rfl ?aO ?aR (fun _ hk => hk) ?aF ?aB ?aS ?aL ?_; (case aR => exact (by skip; exact Kd.N_F (Kd.N_mono (ok' := (fun k_ => ((fun k_ => (P0_ k_ ∨ w.heap.size ≤ k_))) k_ ∧ some k_ ≠ (u10 : Value).ownBlock)) (HO152.out) (fun k_ hk => ⟨hk.1, hk.2⟩)))); (case aB => exact pb); (case aF => exact (fun k_ hk => (.inr (Nat.le_trans (below_size pb) hk)))); (case aO => exact (by (with_reducible repeat (first | apply Kd.N_alloc | apply Kd.N_drewN | apply Kd.N_drew)); exact Kd.N_mono HO_10.out (fun _ hk => hk.1))); (case aS => exact (below_size pb)); (case aL => have := LMc13.out; omega); intro v154 w20 ho hb hg hat; rw [← Ny153.out] at ho; have n0_ := Aside0.mk (Kd.V_afterv (ok := (fun k_ => (P0_ k_ ∨ w.heap.size ≤ k_) ∧ some k_ ≠ (.slice Ao21 t150.length co21 : Value).ownBlock)) (by (with_reducible repeat (first | apply Kd.V_alloc | apply Kd.V_drewN | apply Kd.V_drew)); exact Kd.V_mono HO_0.out (fun _ hk => ⟨⟨hk.1.1, hk.2⟩, hk.1.2⟩)) hg hat); have n1_ := Aside0.mk (Kd.V_afterv (ok := (fun k_ => (P0_ k_ ∨ w.heap.size ≤ k_) ∧ some k_ ≠ (.slice Ao21 t150.length co21 : Value).ownBlock)) (by (with_reducible repeat (first | apply Kd.V_alloc | apply Kd.V_drewN | apply Kd.V_drew)); exact Kd.V_mono HO149.out (fun _ hk => ⟨⟨hk.1.1, hk.2⟩, hk.1.2⟩)) hg hat); have n2_ := Aside0.mk (Kd.N_afterv (ok := (fun k_ => (P0_ k_ ∨ w.heap.size ≤ k_))) (by (with_reducible repeat (first | apply Kd.N_alloc | apply Kd.N_drewN | apply Kd.N_drew)); exact HO152.out) hg hat); have n3_ := Aside0.mk (hb); have n4_ := Aside0.mk (ho); clear HO_0; clear HO149; clear HO152; clear HB; clear HO_10; have HO_0 := n0_; have HO149 := n1_; have HO152 := n2_; have HB := n3_; have HO155 := n4_; clear n0_ n1_ n2_ n3_ n4_; clear ho hb hg hat; have q22 : (t144 : Int) ≤ ((x0_1.length : Int) : Int) := pa; obtain ⟨i022, hi022, _, hsz22, _⟩ := info_parts info35; have hroom22 : x0_1.length ≤ co16 := (Kd.V_reads' HO_0.out).2.1; have hC22 : Kd.F k35 _ _ Ao16 x0_1.length x0_1 := (Kd.V_at (base := w.heap.size) HO_0.out).2.2; have q022 : (0 : Int) ≤ (t144 : Int) := pa; have hcut22 := cut_from (P := Try.prog) 22 35 .i64 Try.underlying22 hi022 5 hsz22 Ao16 x0_1.length co16 t144 q022 q22; have hr22 := Kd.F_cut (m := (t144 : Int).toNat) (c := co16) hC22 (by omega) hroom22; obtain ⟨A22, hA22⟩ : ∃ A1, A1 = (if co16 = (t144 : Int).toNat then Ao16 else (Ao16 : Option Addr).map (·.add ((t144 : Int).toNat * 5))) := ⟨_, rfl⟩; obtain ⟨c22, hc22⟩ : ∃ c1, c1 = co16 - (t144 : Int).toNat := ⟨_, rfl⟩; have hy22 : y156.length = x0_1.length - (t144 : Int).toNat := (by rw [Ny156.out, List.length_drop] <;> omega); rw [show (x0_1).drop (t144 : Int).toNat = y156 from Ny156.out.symm] at hr22; replace hr22 : Kd.F k35 _ _ A22 y156.length y156 := (by rw [hA22]; exact hr22); rw [← hy22, ← hA22, ← hc22] at hcut22; have HO160 := Aside0.mk (show Kd.V k35 35 _ w.heap.size _ (.slice A22 y156.length c22) y156 from Kd.V_mk (by rw [hy22, hc22]; exact Nat.sub_le_sub_right hroom22 _) hr22); have HC160 := Aside0.mk (show y156.length ≤ c22 from by rw [hy22, hc22]; exact Nat.sub_le_sub_right hroom22 _); clear hr22 hC22 hroom22 hi022 hsz22 hc22; have KY22 := Aside0.mk hy22; have KA22 := Aside0.mk hA22; clear hy22 hA22; replace q22 := eq_true q22))
                go_step3
                exact ⟨rfl, hX.out k1 _ _ (Nat.lt_succ_self k1) ⟨y156, y153, _, _, _, _, _, _, _, _, _, _, _, _, _, _, _, _, _, _, _, _, _, _, _, _, rfl, H', ⟨by have := HK1.out; omega⟩, ⟨by (with_reducible repeat (first | apply Kd.V_alloc | apply Kd.V_drewN | apply Kd.V_drew)); exact Kd.V_mono HO160.out (fun _ hk => ⟨hk.1.1, hk.2⟩)⟩, ⟨by (with_reducible repeat (first | apply Kd.N_alloc | apply Kd.N_drewN | apply Kd.N_drew)); exact HO155.out⟩, ⟨pb⟩⟩⟩
              · rw [if_neg c13] at H
                exact absurd H (by simp)
            · rw [if_neg c11] at H
              exact absurd H (by simp)
          · rw [if_neg c10] at H
            exact absurd H (by simp)
        · rw [if_neg c8] at H
          have c8b0 : decide (0 < (x0_1.length : Int)) = false := decide_eq_false c8
          have c8b1 : decide (0 < x0_1.length) = false := decide_eq_false (by omega)
          clear c8
          simp only [Option.some.injEq, Prod.mk.injEq] at H
          obtain ⟨rfl, rfl⟩ := H
          obtain ⟨Ao23, co23, eo23⟩ := Kd.V_slice HO_0.out
          subst eo23
          go_wp2
          simp only [Exit.jump]
          go_ret2
          exact ⟨_, by first | rfl | (simp [errW_none, errW_some] <;> rfl) | (simp [*, errW_none, errW_some] <;> rfl), by (with_reducible repeat (first | apply Kd.N_alloc | apply Kd.N_drewN | apply Kd.N_drew)); exact HO_10.out, pb⟩
    · intro hp
      go_wp2_with (first | ((with_reducible refine gate_callee (f := 20) rfl ?_); refine goesL_ (some 13) rfl rfl Try.func20 (by kernel_rfl) rfl #[.slice A0 l0.length c0] rfl pm ?_; (with_reducible refine (squash_ordered.calls k _ _ l0 true _ ?side1 ?side2 A5.out).mono ?_); (case side1 => repeat (first | exact (Kd.V_reads' HO0.out).2.2 | (with_reducible refine Kd.C_alloc ?_ _) | (with_reducible refine Kd.C_drewN ?_ _) | (with_reducible refine Kd.C_drew ?_))); (case side2 => exact (Kd.V_reads' HO0.out).2.1); rintro e w7 ⟨rfl, hb⟩; refine ⟨_, rfl, ?_⟩; have n0_ := Aside0.mk (Kd.V_below (by (with_reducible repeat (first | apply Kd.V_alloc | apply Kd.V_drewN | apply Kd.V_drew)); exact HO0.out) hb); have n1_ := Aside0.mk (below_step pb hb); clear HO0; clear HB; have HO0 := n0_; have HB := n1_; clear n0_ n1_; (try clear hb); (try clear hb2); (try clear hk); (try clear hi)))
      go_step3
      refine ‹∀ (a : Act) (w : World), Code.wp _ _ _ a w → _› _ _ ?_
      refine hp _ k _ _ ⟨l0, ([] : List (S35)), _, _, _, _, _, _, _, _, _, _, _, _, _, _, _, _, _, _, _, _, _, _, _, _, rfl, H', ⟨Nat.le_refl _⟩, ⟨by (with_reducible repeat (first | apply Kd.V_alloc | apply Kd.V_drewN | apply Kd.V_drew)); exact Kd.V_mono HO0.out (fun _ hk => ⟨hk, (by simp [Value.ownBlock])⟩)⟩, ⟨by first | exact Kd.S_nil _ _ _ _ _ | exact Kd.N_nil _ _ _ _ _ | exact Kd.V_nil _ _ _ _ _ | exact Kd.Q_nil _ _ _ _ _ | exact Kd.R_nil _ _ _ _ _⟩, ⟨pb⟩⟩ ?_
      intro k' a' w' _ hJ
      exact ⟨k', hJ⟩
  · replace c6 := Bool.eq_false_iff.mpr c6
    subst c6
    have H1 : (some (([] : List (S35)), 11)) = some (r1, r2) := by rw [if_neg (show ¬ (false = true) by decide)] at H; exact H
    clear H
    have H := H1
    clear H1
    simp only [Option.some.injEq, Prod.mk.injEq] at H
    obtain ⟨rfl, rfl⟩ := H
    go_enter Try.func11, Try.ntmps11
    go_wp2
    go_step3
    go_wp2_with (first | ((with_reducible refine gate_callee (f := 20) rfl ?_); refine goesL_ (some 13) rfl rfl Try.func20 (by kernel_rfl) rfl #[.slice A0 l0.length c0] rfl pm ?_; (with_reducible refine (squash_ordered.calls k _ _ l0 false _ ?side1 ?side2 A5.out).mono ?_); (case side1 => repeat (first | exact (Kd.V_reads' HO0.out).2.2 | (with_reducible refine Kd.C_alloc ?_ _) | (with_reducible refine Kd.C_drewN ?_ _) | (with_reducible refine Kd.C_drew ?_))); (case side2 => exact (Kd.V_reads' HO0.out).2.1); rintro e w24 ⟨rfl, hb⟩; refine ⟨_, rfl, ?_⟩; have n0_ := Aside0.mk (Kd.V_below (by (with_reducible repeat (first | apply Kd.V_alloc | apply Kd.V_drewN | apply Kd.V_drew)); exact HO0.out) hb); have n1_ := Aside0.mk (below_step pb hb); clear HO0; clear HB; have HO0 := n0_; have HB := n1_; clear n0_ n1_; (try clear hb); (try clear hb2); (try clear hk); (try clear hi)))
    rw [Exit.noGoto_ret]
    go_ret2
    exact ⟨_, by first | rfl | (simp [errW_none, errW_some] <;> rfl) | (simp [*, errW_none, errW_some] <;> rfl), by first | exact Kd.S_nil _ _ _ _ _ | exact Kd.N_nil _ _ _ _ _ | exact Kd.V_nil _ _ _ _ _ | exact Kd.Q_nil _ _ _ _ _ | exact Kd.R_nil _ _ _ _ _, pb⟩

end Go.Proofs.Ytnepbpcpfeejkaa.K
