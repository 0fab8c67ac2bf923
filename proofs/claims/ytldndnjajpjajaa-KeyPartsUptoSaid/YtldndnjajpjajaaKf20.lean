-- Printed by the prover's own turned printer (wip/printer in the prover's repo); Lean checks it.
import Derived.Test.YtldndnjajpjajaaK0
namespace Go.Proofs.Ytldndnjajpjajaa.K
open Go.RowKit Go.Proofs.YtldndnjajpjajaaW.PrintWords Go.Proofs.YtldndnjajpjajaaW.PrintLast Go.Proofs.YtldndnjajpjajaaW.PrintMore
attribute [local go_sem] max2_int min2_int max_two min_two max_three min_three max_four min_four   -- for this text's walks alone
set_option linter.unusedVariables false
set_option linter.unusedSimpArgs false

/-! ### key_TakeBytes: function 20 -/
-- GIVEN making
/-- What a label's passes do, by a number that each pass lowers. -/
theorem wp_scope_ghost {P : Program} {a : Act} {w : World} {Q : Exit → Act → World → Prop} {c rest : Code} (l : Nat) (J : Nat → Act → World → Prop) (hf : findLabel c l = some (Code.skip.seq rest))
    (pass : ∀ (X : Act → World → Prop) k a w, J k a w → Hid (∀ k' a' w', k' < k → J k' a' w' → X a' w') → rest.wp P (Exit.jump l X Q) a w)
    (first : (∀ (X : Act → World → Prop) k a w, J k a w → Hid (∀ k' a' w', k' < k → J k' a' w' → X a' w') → rest.wp P (Exit.jump l X Q) a w) → c.wp P (Exit.jump l (fun a' w' => ∃ k, J k a' w') Q) a w) : (Code.scope c).wp P Q a w := by
  replace first := first pass
  have pass0 := pass
  clear pass
  have pass : ∀ (X : Act → World → Prop) k a w, J k a w → Hid (∀ k' a' w', k' < k → J k' a' w' → X a' w') → (Code.skip.seq rest).wp P (Exit.jump l X Q) a w := fun X k a w hJ hX => wp_seq (wp_skip (pass0 X k a w hJ hX))
  replace pass : ∀ k a w, J k a w → (Code.skip.seq rest).wp P (Exit.jump l (fun a' w' => ∃ k', k' < k ∧ J k' a' w') Q) a w := fun k a w hJ => pass _ k a w hJ (fun k' a' w' hk hJ' => ⟨k', hk, hJ'⟩)
  intro b k cs
  have hg : gotoIn l (.inScope c :: k) = some (.code (Code.skip.seq rest) :: .inScope c :: k) := by simp [gotoIn, hf]
  have key : ∀ n a w, J n a w → ∃ e a' w', Q e a' w' ∧ Arrives P (lone (b.at a (.code (Code.skip.seq rest) :: .inScope c :: k)) cs w) b k cs e a' w' := by
    intro n
    induction n using Nat.strongRecOn with
    | _ n ih =>
      intro a w hJ
      obtain ⟨e, a₁, w₁, hq, harr⟩ := pass n a w hJ b (.inScope c :: k) cs
      cases e with
      | normal => exact ⟨.normal, a₁, w₁, hq, Steps.trans harr (.one step_inScope)⟩
      | exit id => exact ⟨.exit id, a₁, w₁, hq, fun k' hk => harr k' (by simp [exitTo, hk])⟩
      | goto l' =>
        obtain ⟨rfl, n', hlt, hJ'⟩ := hq
        obtain ⟨e₂, a₂, w₂, hq₂, harr₂⟩ := ih _ hlt a₁ w₁ hJ'
        exact ⟨e₂, a₂, w₂, hq₂, .of_steps (harr _ hg) harr₂⟩
      | ret => exact ⟨_, a₁, w₁, hq, harr⟩
      | panic ch => exact ⟨_, a₁, w₁, hq, harr⟩
      | outgrown => exact ⟨_, a₁, w₁, hq, harr⟩
  obtain ⟨e, a₁, w₁, hq, harr⟩ := first b (.inScope c :: k) cs
  cases e with
  | normal => exact ⟨.normal, a₁, w₁, hq, .head step_scope (Steps.trans harr (.one step_inScope))⟩
  | exit id => exact ⟨.exit id, a₁, w₁, hq, fun k' hk => .head step_scope (harr k' (by simp [exitTo, hk]))⟩
  | goto l' =>
    obtain ⟨rfl, n', hJ'⟩ := hq
    obtain ⟨e₂, a₂, w₂, hq₂, harr₂⟩ := key _ a₁ w₁ hJ'
    exact ⟨e₂, a₂, w₂, hq₂, .of_steps (.head step_scope (harr _ hg)) harr₂⟩
  | ret => exact ⟨_, a₁, w₁, hq, .of_steps (.one step_scope) harr⟩
  | panic ch => exact ⟨_, a₁, w₁, hq, .of_steps (.one step_scope) harr⟩
  | outgrown => exact ⟨_, a₁, w₁, hq, .of_steps (.one step_scope) harr⟩

/-- key.TakeBytes from a place on: what is left, what has been gathered, the place. -/
def tbg : List Int → List Int → Int → List Int × Int × Int
  | [], _, _ => ([], 0, 5)
  | x :: r, acc, i => if x = 0 then
      match r with
      | [] => ([], 0, 5)
      | y :: r' => if y = 255 then tbg r' (acc ++ [0]) (i + 2) else if y = 1 then (acc, i + 2, 0) else ([], 0, 3)
    else tbg r (acc ++ [x]) (i + 1)
def key_TakeBytes.f (l0 : List Int) : Option (List Int × Int × Int) := if l0.length < 140737488355328 then some (tbg l0 [] 0) else none
theorem tbg_end {l : List Int} {i : Nat} {acc : List Int} {j : Int} (h : l.length ≤ i) : tbg (l.drop i) acc j = ([], 0, 5) := by
  rw [List.drop_of_length_le h]; rfl
theorem tbg_drop {l : List Int} {i : Nat} (h : i < l.length) : l.drop i = rd l i :: l.drop (i + 1) := by
  rw [List.drop_eq_getElem_cons h]
  simp [rd, List.getD_eq_getElem?_getD, List.getElem?_eq_getElem h]
theorem tbg_one {l : List Int} {i : Nat} {acc : List Int} (h : i < l.length) (h0 : rd l i ≠ 0) : tbg (l.drop i) acc i = tbg (l.drop (i + 1)) (acc ++ [rd l i]) (i + 1 : Nat) := by
  rw [tbg_drop h]; generalize rd l (i : Int) = y at h0 ⊢; cases List.drop (i + 1) l <;> simp [tbg, h0]
theorem tbg_cut {l : List Int} {i : Nat} {acc : List Int} (h : i < l.length) (h0 : rd l i = 0) (h1 : l.length ≤ i + 1) : tbg (l.drop i) acc i = ([], 0, 5) := by
  rw [tbg_drop h, List.drop_of_length_le h1, h0]; simp [tbg]
theorem tbg_two {l : List Int} {i : Nat} {acc : List Int} (h : i + 1 < l.length) (h0 : rd l i = 0) (h1 : rd l (i + 1 : Nat) = 255) : tbg (l.drop i) acc i = tbg (l.drop (i + 2)) (acc ++ [0]) (i + 2 : Nat) := by
  rw [tbg_drop (by omega), tbg_drop h, h0, h1]; simp [tbg]
theorem tbg_ok {l : List Int} {i : Nat} {acc : List Int} (h : i + 1 < l.length) (h0 : rd l i = 0) (h1 : rd l (i + 1 : Nat) = 1) : tbg (l.drop i) acc i = (acc, (i : Int) + 2, 0) := by
  rw [tbg_drop (by omega), tbg_drop h, h0, h1]; simp [tbg]
theorem tbg_form {l : List Int} {i : Nat} {acc : List Int} (h : i + 1 < l.length) (h0 : rd l i = 0) (h1 : rd l (i + 1 : Nat) ≠ 255) (h2 : rd l (i + 1 : Nat) ≠ 1) : tbg (l.drop i) acc i = ([], 0, 3) := by
  rw [tbg_drop (by omega), tbg_drop h, h0]; generalize rd l ((i + 1 : Nat) : Int) = y at h1 h2 ⊢; simp [tbg, h1, h2]
set_option maxHeartbeats 4000000 in
set_option maxRecDepth 100000 in
theorem key_TakeBytes.calls (A0 : Option Addr) (c0 : Nat) (l0 : List Int) (r1 : List Int) (r2 : Int) (r3 : Int) (w : World) (hr0 : Kd.C (Kd.int .u8) w A0 l0.length l0) (hc0 : l0.length ≤ c0) (h : key_TakeBytes.f l0 = some (r1, r2, r3)) :
    Calls Try.prog 20 #[.slice A0 l0.length c0] w fun e w' => ∃ v0_ : Value, e = .returned (.tuple #[v0_, .int .i64 r2, .int .i64 r3]) ∧ Kd.R (Kd.int .u8) 5 w' w.heap.size (fun _ => True) v0_ r1 ∧ Below w.heap.size w w' := by
  have HR0 := Aside0.mk hr0
  have HC0 := Aside0.mk hc0
  have hl : l0.length < 140737488355328 ∧ tbg l0 [] 0 = (r1, r2, r3) := by
    unfold key_TakeBytes.f at h
    split at h
    · exact ⟨by assumption, Option.some.inj h⟩
    · cases h
  have HL := Aside0.mk hl.1
  have HT := Aside0.mk hl.2
  clear hr0 hc0 h hl
  go_enter Try.func20, Try.ntmps20
  go_wp2
  refine wp_scope_ghost 0 (fun k a' w' => ∃ (i : Nat) (acc : List Int) (v5 j7 j8 j9 j10 j11 j12 j13 j14 j15 j16 j17 j18 j19 j20 j21 j22 j23 j24 j25 j26 j27 j28 j29 j30 j31 j32 j33 j34 j35 j36 j37 j38 j39 j40 j41 j42 j43 j44 j45 j46 j47 j48 j49 j50 j51 j52 j53 j54 j55 j56 j57 j58 j59 j60 j61 j62 : Value), a' = { tmps := #[.slice A0 l0.length c0, undef, .slice none 0 0, .int .i64 0, .int .i64 0, v5, .int .i64 (i : Int), j7, j8, j9, j10, j11, j12, j13, j14, j15, j16, j17, j18, j19, j20, j21, j22, j23, j24, j25, j26, j27, j28, j29, j30, j31, j32, j33, j34, j35, j36, j37, j38, j39, j40, j41, j42, j43, j44, j45, j46, j47, j48, j49, j50, j51, j52, j53, j54, j55, j56, j57, j58, j59, j60, j61, j62], defers := [] } ∧ Aside0 (k = l0.length - i) ∧ Aside0 (i ≤ l0.length) ∧ Aside0 (acc.length ≤ i) ∧ Aside0 (tbg (l0.drop i) acc i = (r1, r2, r3)) ∧ Aside0 (Kd.R (Kd.int .u8) 5 w' w.heap.size (fun _ => True) v5 acc) ∧ Aside0 (Below w.heap.size w w')) rfl ?_ ?_
  · rintro X k a' w' ⟨i, acc, v5, j7, j8, j9, j10, j11, j12, j13, j14, j15, j16, j17, j18, j19, j20, j21, j22, j23, j24, j25, j26, j27, j28, j29, j30, j31, j32, j33, j34, j35, j36, j37, j38, j39, j40, j41, j42, j43, j44, j45, j46, j47, j48, j49, j50, j51, j52, j53, j54, j55, j56, j57, j58, j59, j60, j61, j62, rfl, HK, HI, HA, HQ, HO, HB⟩ hX
    by_cases hi : i < l0.length
    · have c0b : decide (l0.length ≤ i) = false := by simp; omega
      obtain ⟨ad, e, hx⟩ := Kd.at_int HR0.out (i : Int) (by omega) (by omega)
      cases e
      replace hx : w'.cell? (ad.add i) = some (.int .u8 (rd l0 (i : Int))) := (HB.out.cell (World.block_lt_of_cell? w _ hx)).trans hx
      by_cases h0 : rd l0 i = 0
      · have c1b : (rd l0 (i : Int) == 0) = true := beq_iff_eq.mpr h0
        have c1c : (rd l0 (i : Int) != 0) = false := bne_eq_false_iff_eq.mpr h0
        by_cases h1 : l0.length ≤ i + 1
        · have hq := HQ.out
          rw [tbg_cut hi h0 h1] at hq
          clear HQ h0
          simp only [Prod.mk.injEq] at hq
          obtain ⟨rfl, rfl, rfl⟩ := hq
          have hB := HL.out
          go_wp2
          simp only [Exit.jump]
          go_ret3
          exact ⟨_, rfl, Kd.R_nil _ _ _ _ _, by repeat (first | (with_reducible first | exact HB.out | apply below_alloc | apply pw_below_drewN | apply below_drew1) | exact HB.out)⟩
        · have h1' : i + 1 < l0.length := by omega
          obtain ⟨ad', e', hx'⟩ := Kd.at_int HR0.out ((i + 1 : Nat) : Int) (by omega) (by omega)
          obtain rfl : ad = ad' := (by injection e')
          replace hx' : w'.cell? (ad.add (i + 1)) = some (.int .u8 (rd l0 ((i + 1 : Nat) : Int))) := (HB.out.cell (World.block_lt_of_cell? w _ hx')).trans hx'
          clear e'
          have hB := HL.out
          have hx2 : w'.cell? ⟨ad.block, ad.off + (i + 1), none⟩ = some (.int .u8 (rd l0 ((i + 1 : Nat) : Int))) := by
            rw [← hx']; simp [Addr.add]
          clear hx'
          by_cases h2 : rd l0 (i + 1 : Nat) = 255
          · have c2b : (rd l0 ((i + 1 : Nat) : Int) == 255) = true := beq_iff_eq.mpr h2
            have HQ2 := Aside0.mk ((tbg_two (acc := acc) h1' h0 h2).symm.trans HQ.out)
            clear HQ h0 h2
            generalize rd l0 ((i + 1 : Nat) : Int) = y at hx2 c2b
            go_wp2_with (first | ((with_reducible refine gate_builtin (b := .append) (xs := #[.tmp 48, .tmp 49]) rfl ?_); at_builtin; refine Kd.R_append (Kd.int .u8) (w0 := w) w.heap.size rfl (.tmp 48) (.tmp 49) 23 5 (.int .u8 0) 1 rfl Try.underlying23 info5 rfl (by decide) (by omega) v5 acc 0 [.int .u8 0] (fun _ => True) (fun _ => False) rfl rfl ?aP (fun _ hk => hk.elim) ?aF ?aO ?aB ?aS ?aL ?_; (case aP => exact rfl); (case aB => exact (by repeat (first | (with_reducible first | exact HB.out | apply below_alloc | apply pw_below_drewN | apply below_drew1) | exact HB.out))); (case aF => exact (fun _ _ => trivial)); (case aO => exact (by (with_reducible repeat (first | apply Kd.R_alloc | apply Kd.R_drewN | apply Kd.R_drew)); exact HO.out)); (case aS => exact (below_size (by repeat (first | (with_reducible first | exact HB.out | apply below_alloc | apply pw_below_drewN | apply below_drew1) | exact HB.out)))); (case aL => have := HL.out; have := HI.out; have := HA.out; omega); intro v47 w14 ho hb hg hat; have n0_ := Aside0.mk (hb); have n1_ := Aside0.mk (ho); clear HB; clear HO; have HB := n0_; have HO := n1_; clear n0_ n1_; clear ho hb hg hat))
            go_step3
            refine ⟨rfl, hX.out (l0.length - (i + 2)) _ _ (by have := HK.out; omega) ⟨i + 2, acc ++ [0], _, _, _, _, _, _, _, _, _, _, _, _, _, _, _, _, _, _, _, _, _, _, _, _, _, _, _, _, _, _, _, _, _, _, _, _, _, _, _, _, _, _, _, _, _, _, _, _, _, _, _, _, _, _, _, _, _, rfl, ⟨rfl⟩, ⟨by omega⟩, ⟨by have := HA.out; simp; omega⟩, HQ2, ⟨(by (with_reducible repeat (first | apply Kd.R_alloc | apply Kd.R_drewN | apply Kd.R_drew)); exact HO.out)⟩, ⟨(by repeat (first | (with_reducible first | exact HB.out | apply below_alloc | apply pw_below_drewN | apply below_drew1) | exact HB.out))⟩⟩⟩
          · by_cases h3 : rd l0 (i + 1 : Nat) = 1
            · have hq := HQ.out
              rw [tbg_ok h1' h0 h3] at hq
              clear HQ h0
              simp only [Prod.mk.injEq] at hq
              obtain ⟨rfl, rfl, rfl⟩ := hq
              have c2b : (rd l0 ((i + 1 : Nat) : Int) == 255) = false := beq_eq_false_iff_ne.mpr h2
              have c3b : (rd l0 ((i + 1 : Nat) : Int) != 1) = false := bne_eq_false_iff_eq.mpr h3
              clear h2 h3
              generalize rd l0 ((i + 1 : Nat) : Int) = y at hx2 c2b c3b
              go_wp2
              simp only [Exit.jump]
              go_ret3
              exact ⟨_, rfl, (by (with_reducible repeat (first | apply Kd.R_alloc | apply Kd.R_drewN | apply Kd.R_drew)); exact HO.out), (by repeat (first | (with_reducible first | exact HB.out | apply below_alloc | apply pw_below_drewN | apply below_drew1) | exact HB.out))⟩
            · have hq := HQ.out
              rw [tbg_form h1' h0 h2 h3] at hq
              clear HQ h0
              simp only [Prod.mk.injEq] at hq
              obtain ⟨rfl, rfl, rfl⟩ := hq
              have c2b : (rd l0 ((i + 1 : Nat) : Int) == 255) = false := beq_eq_false_iff_ne.mpr h2
              have c3b : (rd l0 ((i + 1 : Nat) : Int) != 1) = true := bne_iff_ne.mpr h3
              clear h2 h3
              generalize rd l0 ((i + 1 : Nat) : Int) = y at hx2 c2b c3b
              go_wp2
              simp only [Exit.jump]
              go_ret3
              exact ⟨_, rfl, Kd.R_nil _ _ _ _ _, (by repeat (first | (with_reducible first | exact HB.out | apply below_alloc | apply pw_below_drewN | apply below_drew1) | exact HB.out))⟩
      · have c1b : (rd l0 (i : Int) == 0) = false := beq_eq_false_iff_ne.mpr h0
        have c1c : (rd l0 (i : Int) != 0) = true := bne_iff_ne.mpr h0
        have HQ2 := Aside0.mk ((tbg_one (acc := acc) hi h0).symm.trans HQ.out)
        have hB := HL.out
        clear HQ h0
        go_wp2_with (first | ((with_reducible refine gate_builtin (b := .append) (xs := #[.tmp 32, .tmp 37]) rfl ?_); at_builtin; refine Kd.R_append (Kd.int .u8) (w0 := w) w.heap.size rfl (.tmp 32) (.tmp 37) 23 5 (.int .u8 0) 1 rfl Try.underlying23 info5 rfl (by decide) (by omega) v5 acc (rd l0 (i : Int)) [.int .u8 (rd l0 (i : Int))] (fun _ => True) (fun _ => False) rfl rfl ?aP (fun _ hk => hk.elim) ?aF ?aO ?aB ?aS ?aL ?_; (case aP => exact rfl); (case aB => exact (by repeat (first | (with_reducible first | exact HB.out | apply below_alloc | apply pw_below_drewN | apply below_drew1) | exact HB.out))); (case aF => exact (fun _ _ => trivial)); (case aO => exact (by (with_reducible repeat (first | apply Kd.R_alloc | apply Kd.R_drewN | apply Kd.R_drew)); exact HO.out)); (case aS => exact (below_size (by repeat (first | (with_reducible first | exact HB.out | apply below_alloc | apply pw_below_drewN | apply below_drew1) | exact HB.out)))); (case aL => have := HL.out; have := HI.out; have := HA.out; omega); intro v47 w14 ho hb hg hat; have n0_ := Aside0.mk (hb); have n1_ := Aside0.mk (ho); clear HB; clear HO; have HB := n0_; have HO := n1_; clear n0_ n1_; clear ho hb hg hat))
        go_step3
        refine ⟨rfl, hX.out (l0.length - (i + 1)) _ _ (by have := HK.out; omega) ⟨i + 1, acc ++ [rd l0 (i : Int)], _, _, _, _, _, _, _, _, _, _, _, _, _, _, _, _, _, _, _, _, _, _, _, _, _, _, _, _, _, _, _, _, _, _, _, _, _, _, _, _, _, _, _, _, _, _, _, _, _, _, _, _, _, _, _, _, _, rfl, ⟨rfl⟩, ⟨by omega⟩, ⟨by have := HA.out; simp; omega⟩, HQ2, ⟨(by (with_reducible repeat (first | apply Kd.R_alloc | apply Kd.R_drewN | apply Kd.R_drew)); exact HO.out)⟩, ⟨(by repeat (first | (with_reducible first | exact HB.out | apply below_alloc | apply pw_below_drewN | apply below_drew1) | exact HB.out))⟩⟩⟩
    · have hq := HQ.out
      rw [tbg_end (by omega)] at hq
      clear HQ
      simp only [Prod.mk.injEq] at hq
      obtain ⟨rfl, rfl, rfl⟩ := hq
      go_wp2
      simp only [Exit.jump]
      go_ret3
      exact ⟨_, rfl, Kd.R_nil _ _ _ _ _, by repeat (first | (with_reducible first | exact HB.out | apply below_alloc | apply pw_below_drewN | apply below_drew1) | exact HB.out)⟩
  · intro hp
    go_wp2
    go_step3
    refine ‹∀ (a : Act) (w : World), Code.wp _ _ _ a w → _› _ _ ?_
    refine hp _ l0.length _ _ ⟨0, [], _, _, _, _, _, _, _, _, _, _, _, _, _, _, _, _, _, _, _, _, _, _, _, _, _, _, _, _, _, _, _, _, _, _, _, _, _, _, _, _, _, _, _, _, _, _, _, _, _, _, _, _, _, _, _, _, _, rfl, ⟨rfl⟩, ⟨Nat.zero_le _⟩, ⟨Nat.le_refl _⟩, HT, ⟨Kd.R_nil _ _ _ _ _⟩, ⟨Below.refl _ _⟩⟩ ?_
    intro k' a' w' _ hJ
    exact ⟨k', hJ⟩

end Go.Proofs.Ytldndnjajpjajaa.K
