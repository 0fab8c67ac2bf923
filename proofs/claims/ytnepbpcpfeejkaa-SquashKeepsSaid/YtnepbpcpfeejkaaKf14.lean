/-
  Compare only draws.
-/
import Derived.Test.YtnepbpcpfeejkaaKf17
import Derived.Test.YtnepbpcpfeejkaaKf24
import Derived.Test.YtnepbpcpfeejkaaEn
namespace Go.Proofs.Ytnepbpcpfeejkaa.K
open Go.RowKit Go.Proofs.YtnepbpcpfeejkaaW.PrintWords Go.Proofs.YtnepbpcpfeejkaaW.PrintLast Go.Proofs.YtnepbpcpfeejkaaW.PrintMore
attribute [local go_sem] max2_int min2_int max_two min_two max_three min_three max_four min_four
set_option linter.unusedVariables false
set_option linter.unusedSimpArgs false
set_option maxHeartbeats 8000000 in
set_option maxRecDepth 100000 in
theorem Compare_quiet (A0 : Option Addr) (c0 : Nat) (l0 : List Int) (A1 : Option Addr) (c1 : Nat) (l1 : List Int) (r : Int) (w : World) (hr0 : Kd.C (Kd.int .u8) w A0 l0.length l0) (hc0 : l0.length ≤ c0) (hr1 : Kd.C (Kd.int .u8) w A1 l1.length l1) (hc1 : l1.length ≤ c1) (h : halyardref2_Compare.f l0 l1 = some r) :
    Calls Try.prog 17 #[.slice A0 l0.length c0, .slice A1 l1.length c1] w fun e w' => e = .returned (.int .i64 r) ∧ ∃ m, w' = w.drewN m := by
  have HR0 := Aside0.mk hr0
  have HC0 := Aside0.mk hc0
  clear hr0 hc0
  have HR1 := Aside0.mk hr1
  have HC1 := Aside0.mk hc1
  clear hr1 hc1
  have H : (if (Op.bytesLess ((strOfNums l0).toList) ((strOfNums l1).toList)) = true then (some (-1)) else (if (Op.bytesLess ((strOfNums l1).toList) ((strOfNums l0).toList)) = true then (some 1) else (some 0))) = some r := h
  clear h
  by_cases c3 : (Op.bytesLess ((strOfNums l0).toList) ((strOfNums l1).toList)) = true
  · rw [if_pos c3] at H
    have c3b0 : (Op.bytesLess ((strOfNums l0).toList) ((strOfNums l1).toList)) = true := c3
    clear c3
    obtain rfl := Option.some.inj H
    have hcv4 := Kd.C_string (P := Try.prog) (A := A0) (c := c0) Try.underlying33 Try.underlying5 Try.underlying9 (Kd.C_below HR0.out ((Below.refl _ _).drew))
    have hcv5 := Kd.C_string (P := Try.prog) (A := A1) (c := c1) Try.underlying33 Try.underlying5 Try.underlying9 (Kd.C_below HR1.out ((Below.refl _ _).drew))
    go_enter Try.func17, Try.ntmps17
    go_wp2
    go_region
    go_wp2
    go_ret
    exact ⟨by first | rfl | (simp; done) | (simp [*]; done), 1, rfl⟩
  · rw [if_neg c3] at H
    have c3b0 : (Op.bytesLess ((strOfNums l0).toList) ((strOfNums l1).toList)) = false := by simpa using c3
    clear c3
    by_cases c6 : (Op.bytesLess ((strOfNums l1).toList) ((strOfNums l0).toList)) = true
    · rw [if_pos c6] at H
      have c6b0 : (Op.bytesLess ((strOfNums l1).toList) ((strOfNums l0).toList)) = true := c6
      clear c6
      obtain rfl := Option.some.inj H
      have hcv7 := Kd.C_string (P := Try.prog) (A := A0) (c := c0) Try.underlying33 Try.underlying5 Try.underlying9 (Kd.C_below HR0.out ((Below.refl _ _).drew))
      have hcv8 := Kd.C_string (P := Try.prog) (A := A1) (c := c1) Try.underlying33 Try.underlying5 Try.underlying9 (Kd.C_below HR1.out ((Below.refl _ _).drew))
      have e12 : ((strOfNums l0).toList == (strOfNums l1).toList) = false := less_ne c6b0
      have e13 : (!(strOfNums l0).toList == (strOfNums l1).toList) = true := by rw [e12]; rfl
      go_enter Try.func17, Try.ntmps17
      go_wp2
      go_region
      go_wp2
      go_ret
      exact ⟨by first | rfl | (simp; done) | (simp [*]; done), 1, rfl⟩
    · rw [if_neg c6] at H
      have c6b0 : (Op.bytesLess ((strOfNums l1).toList) ((strOfNums l0).toList)) = false := by simpa using c6
      clear c6
      obtain rfl := Option.some.inj H
      have hcv9 := Kd.C_string (P := Try.prog) (A := A0) (c := c0) Try.underlying33 Try.underlying5 Try.underlying9 (Kd.C_below HR0.out ((Below.refl _ _).drew))
      have hcv10 := Kd.C_string (P := Try.prog) (A := A1) (c := c1) Try.underlying33 Try.underlying5 Try.underlying9 (Kd.C_below HR1.out ((Below.refl _ _).drew))
      have e12 : ((strOfNums l0).toList == (strOfNums l1).toList) = true := less_eq_ c3b0 c6b0
      have e13 : (!(strOfNums l0).toList == (strOfNums l1).toList) = false := by rw [e12]; rfl
      go_enter Try.func17, Try.ntmps17
      go_wp2
      go_region
      go_wp2
      go_ret
      exact ⟨by first | rfl | (simp; done) | (simp [*]; done), 1, rfl⟩


theorem C_mid24 {α : Type} {k : Kd α} {w : World} {A : Option Addr} {xs : List α} {c lo hi : Nat} (h : k.C w A xs.length xs) (h1 : lo ≤ hi) (h2 : hi ≤ xs.length) (hc : xs.length ≤ c) : k.C w (if c = lo then A else A.map (·.add (lo * k.sz))) ((xs.take hi).drop lo).length ((xs.take hi).drop lo) := by
  have hl : (xs.take hi).length = hi := by rw [List.length_take]; omega
  exact Kd.C_drop (Kd.C_take h h2) (by omega) (by omega)
theorem F_mid24 {α : Type} {d : Kd α} {W : World} {ok : Nat → Prop} {A : Option Addr} {xs : List α} {c lo hi : Nat} (h : Kd.F d W ok A xs.length xs) (h1 : lo ≤ hi) (h2 : hi ≤ xs.length) (hc : xs.length ≤ c) : Kd.F d W ok (if c = lo then A else A.map (·.add (lo * d.sz))) ((xs.take hi).drop lo).length ((xs.take hi).drop lo) := Kd.F_imp h (fun _ hC => C_mid24 hC h1 h2 hc)
theorem cut_mid24 (A : Option Addr) (n c : Nat) (lo hi' : Int) (h0 : 0 ≤ lo) (h1 : lo ≤ hi') (h2 : hi' ≤ n) (hc : n ≤ c) :
    ∀ W : World, (Instr.slice 22 (.slice A n c) (some (.int .i64 lo)) (some (.int .i64 hi')) none).run Try.prog W = .ok (.slice (if c = lo.toNat then A else A.map (·.add (lo.toNat * 5))) (hi'.toNat - lo.toNat) (c - lo.toNat)) W := by
  intro W
  have ht := Try.underlying22
  have hel : Try.prog.elem 22 = 35 := by simp [Program.elem, ht]
  have hu : Try.prog.underlying 22 = some (.slice (Try.prog.elem 22)) := by rw [hel]; exact ht
  have h35 := info35
  cases hti : Try.prog.info? 35 with
  | none => rw [hti] at h35; cases h35
  | some ti =>
    have hsz : ti.size = 5 := by
      rw [hti] at h35
      have h1 := Option.some.inj h35
      exact (Prod.mk.inj (Prod.mk.inj h1).2).1
    rw [run_slice_lh W 22 A n c hu .i64 .i64 lo hi' h0 h1 (by omega), hel]
    simp [sizeOf, typeInfo, hti, hsz, sliced, Result.andThen]
theorem cut_seg {base : Nat} {ok : Nat → Prop} {w : World} {A : Option Addr} {c : Nat} {l0 : List S35} (hV : Kd.V k35 35 w base ok (.slice A l0.length c) l0) (i j : Nat) (z y : Int) (hz : z = (i : Int)) (hy : y = (j : Int)) (hij : i ≤ j) (hj : j ≤ l0.length) :
    ∃ A' c', (∀ W : World, (Instr.slice 22 (.slice A l0.length c) (some (.int .i64 z)) (some (.int .i64 y)) none).run Try.prog W = .ok (.slice A' ((l0.take j).drop i).length c') W) ∧ Kd.V k35 35 w base ok (.slice A' ((l0.take j).drop i).length c') ((l0.take j).drop i) := by
  subst hz hy
  have hc := (Kd.V_reads' hV).2.1
  have hl : ((l0.take j).drop i).length = j - i := by simp; omega
  refine ⟨_, c - i, fun W => ?_, Kd.V_mk (by omega) (F_mid24 (c := c) (Kd.V_F hV) hij hj hc)⟩
  have h := cut_mid24 A l0.length c (i : Int) (j : Int) (by omega) (by omega) (by omega) hc W
  rw [Int.toNat_natCast, Int.toNat_natCast] at h
  rw [hl]
  exact h
open E in
theorem cmpk_zero (a b : List Int) : (cmpk a b == 0) = sk a b := by
  unfold cmpk
  cases h1 : ltk a b with
  | true =>
    have h : sk a b = false := by
      cases h : sk a b with
      | false => rfl
      | true => rw [ltk_irrefl h] at h1; cases h1
    rw [h]; rfl
  | false =>
    cases h2 : ltk b a with
    | true =>
      have h : sk a b = false := by
        cases h : sk a b with
        | false => rfl
        | true => rw [ltk_irrefl (sk_symm h)] at h2; cases h2
      rw [h]; rfl
    | false => rw [tri h1 h2]; rfl
open E in
set_option maxHeartbeats 8000000 in
set_option maxRecDepth 100000 in
theorem halyardref9_Keep.calls (P0_ : Nat → Prop) (A0 : Option Addr) (c0 : Nat) (l0 : List S35) (A1 : Option Addr) (c1 : Nat) (l1 : List Int) (a2 : Int) (a3 : Bool) (w : World) (hs0 : Kd.V k35 35 w w.heap.size (fun k_ => P0_ k_) (.slice A0 l0.length c0) l0) (hr1 : Kd.C (Kd.int .i64) w A1 l1.length l1) (hc1 : l1.length ≤ c1) (hbig : l0.length ≤ 1000000) :
    Calls Try.prog 14 #[.slice A0 l0.length c0, .slice A1 l1.length c1, .int .i64 a2, .bool a3] w fun e w' => ∃ v0_ : Value, e = .returned (v0_) ∧ Kd.N k35 35 w' w.heap.size (fun k_ => (P0_ k_ ∨ w.heap.size ≤ k_)) v0_ (keepP l1 a2 a3 l0) ∧ Below w.heap.size w w' := by
  have hu35 := Try.underlying35
  have HV := Aside0.mk (V_bound24 hs0)
  have HP := Aside0.mk hr1
  have HC1 := Aside0.mk hc1
  clear hs0 hr1 hc1
  have HB0 := Aside0.mk (Below.refl w.heap.size w)
  obtain ⟨T, hT⟩ : ∃ T, keepP l1 a2 a3 l0 = T := ⟨_, rfl⟩
  have HT := Aside0.mk hT
  rw [hT]
  clear hT
  go_enter Try.func14, Try.ntmps14
  go_wp2
  go_loopw [9, 10] (fun v9 v10 wr => ∃ (i : Nat) (z : Int) (o : List S35), i ≤ l0.length ∧ Aside0 (z = (i : Int)) ∧ v10 = .int .i64 z ∧ Aside0 (o ++ keepP l1 a2 a3 (l0.drop i) = T) ∧ Aside0 (o.length ≤ i) ∧ Aside0 (Kd.N k35 35 wr w.heap.size (fun k_ => (P0_ k_ ∨ w.heap.size ≤ k_)) v9 o) ∧ Aside0 (Below w.heap.size w wr)) (fun _ v10 _ => l0.length - (intOf24 v10).toNat)
  case atStart => exact ⟨0, 0, [], by omega, ⟨rfl⟩, rfl, ⟨by rw [List.drop_zero]; exact HT.out⟩, ⟨Nat.le_refl _⟩, ⟨Kd.N_nil _ _ _ _ _⟩, HB0⟩
  case round =>
    obtain ⟨i, z, o, hi, hz, rfl, HO, HL, HN, HB⟩ := hrel
    by_cases hlt : z < (l0.length : Int)
    · have c5b0 : decide (z < (l0.length : Int)) = true := decide_eq_true hlt
      have p1 : 0 ≤ z := by rw [hz.out]; omega
      have HLT := Aside0.mk hlt
      have HP1 := Aside0.mk p1
      clear p1 hlt
      go_wp2
      go_loopw [11] (fun v11 wi => ∃ (j : Nat) (y : Int), i ≤ j ∧ j ≤ l0.length ∧ Aside0 (y = (j : Int)) ∧ v11 = .int .i64 y ∧ Aside0 (∀ n : Nat, i ≤ n → n < j → sk (rd_T35 l0 (n : Int)).f0 (rd_T35 l0 z).f0 = true) ∧ Aside0 (Kd.N k35 35 wi w.heap.size (fun k_ => (P0_ k_ ∨ w.heap.size ≤ k_)) u9 o) ∧ Aside0 (Below w.heap.size w wi)) (fun v11 _ => l0.length - (intOf24 v11).toNat)
      case atStart => exact ⟨i, z, by omega, hi, hz, rfl, ⟨fun n h1 h2 => by omega⟩, HN, HB⟩
      case round =>
        clear HN HB
        obtain ⟨j, y, hij, hj, hy, rfl, HS, HN, HB⟩ := hrel
        by_cases hlj : y < (l0.length : Int)
        · have c6b0 : decide (y < (l0.length : Int)) = true := decide_eq_true hlj
          have p2 : 0 ≤ y := by rw [hy.out]; omega
          have p1 := HP1.out
          have hlt := HLT.out
          have hb1 := (Kd.V_reads' HV.out).2.2
          obtain ⟨ad, A_0, c_0, A_4, c_4, e1, hx_0, hx_1, hx_2, hx_3, hx_4, hl_0, hi_0, hl_4, hi_4⟩ := at_T35 hb1 z p1 hlt
          cases e1
          obtain ⟨ad', B_0, b_0, B_4, b_4, e2, hy_0, hy_1, hy_2, hy_3, hy_4, gl_0, gi_0, gl_4, gi_4⟩ := at_T35 hb1 y p2 hlj
          cases e2
          have HI := Aside0.mk hi_0
          have HG := Aside0.mk gi_0
          have HIL := Aside0.mk hl_0
          have HGL := Aside0.mk gl_0
          replace hx_0 := (HB.out.cell (World.block_lt_of_cell? w _ hx_0)).trans hx_0
          replace hy_0 := (HB.out.cell (World.block_lt_of_cell? w _ hy_0)).trans hy_0
          clear hx_1 hx_2 hx_3 hx_4 hy_1 hy_2 hy_3 hy_4 hl_0 hi_0 hl_4 hi_4 gl_0 gi_0 gl_4 gi_4 hb1
          have HJN : Aside0 (wrap64 (y + 1) = y + 1) := ⟨by unfold wrap64; omega⟩
          have HYL := Aside0.mk hlj
          replace p1 := eq_true p1
          replace p2 := eq_true p2
          replace hlt := eq_true hlt
          replace hlj := eq_true hlj
          cases hsk : sk (rd_T35 l0 y).f0 (rd_T35 l0 z).f0 with
          | true =>
            have d1 : (cmpk (rd_T35 l0 y).f0 (rd_T35 l0 z).f0 == 0) = true := (cmpk_zero _ _).trans hsk
            have HS2 : Aside0 (∀ n : Nat, i ≤ n → n < j + 1 → sk (rd_T35 l0 (n : Int)).f0 (rd_T35 l0 z).f0 = true) := ⟨by
              intro n h1 h2
              rcases Nat.lt_or_ge n j with h | h
              · exact HS.out n h1 h
              · obtain rfl : n = j := by omega
                rw [← hy.out]; exact hsk⟩
            go_wp2
            go_quiet ((go_at_call 17; exact Calls.quiet_of (Compare_quiet B_0 b_0 (rd_T35 l0 y).f0 A_0 c_0 (rd_T35 l0 z).f0 _ _ (Kd.C_below HG.out (pw_below_drewN HB.out _)) HGL.out (Kd.C_below HI.out (pw_below_drewN HB.out _)) HIL.out (cmp_eval' _ _))))
            have hwj := HJN.out
            go_wp2
            go_roundw
            case rel => exact ⟨j + 1, y + 1, by omega, by have := HYL.out; have := hy.out; omega, ⟨by rw [hy.out]; rfl⟩, by go_num, HS2, ⟨Kd.N_drewN HN.out _⟩, ⟨pw_below_drewN HB.out _⟩⟩
            case measure => simp [intOf24]; have := HYL.out; have := hy.out; omega
          | false =>
            have d1 : (cmpk (rd_T35 l0 y).f0 (rd_T35 l0 z).f0 == 0) = false := (cmpk_zero _ _).trans hsk
            have hij2 : i < j := by
              rcases Nat.lt_or_ge i j with h | h
              · exact h
              · obtain rfl : i = j := by omega
                rw [hz.out, hy.out, sk_refl] at hsk
                cases hsk
            have hgrp := keepP_group l1 a2 a3 l0 i j hij2 hj (by rw [← hz.out]; exact HS.out) (fun _ => by rw [← hz.out, ← hy.out]; exact hsk)
            obtain ⟨A', c', hcut, hVs⟩ := cut_seg HV.out i j z y hz.out hy.out (by omega) hj
            have hsl : ((l0.take j).drop i).length ≤ l0.length := by simp; omega
            have HSGL : Aside0 (((l0.take j).drop i).length = j - i) := ⟨by simp; omega⟩
            have HGP := Aside0.mk hgrp
            have HVS := Aside0.mk hVs
            have HSL := Aside0.mk hsl
            clear hgrp hVs hsl
            generalize (l0.take j).drop i = sg at hcut HGP HVS HSL HSGL
            have hkl := keyP_len l1 a2 a3 sg
            have HKL := Aside0.mk hkl
            clear hkl
            go_wp2
            go_quiet ((go_at_call 17; exact Calls.quiet_of (Compare_quiet B_0 b_0 (rd_T35 l0 y).f0 A_0 c_0 (rd_T35 l0 z).f0 _ _ (Kd.C_below HG.out (pw_below_drewN HB.out _)) HGL.out (Kd.C_below HI.out (pw_below_drewN HB.out _)) HIL.out (cmp_eval' _ _))))
            have HN2 := Aside0.mk (Kd.N_drewN HN.out nq)
            have HB2 := Aside0.mk (pw_below_drewN HB.out nq)
            clear HN HB
            generalize World.drewN wr nq = wq at HN2 HB2 ⊢
            go_wp2_with (first | (go_at_call 24; (with_reducible refine (halyardref9_keep.calls (fun k => P0_ k ∧ k < w.heap.size) A' c' sg A1 c1 l1 a2 a3 (keyP l1 a2 a3 sg) wq (Kd.V_below HVS.out HB2.out) (Kd.C_below HP.out HB2.out) HC1.out (keep24_key sg l1 a2 a3 (by have := HSL.out; omega))).mono ?_); rintro e w3 ⟨v0, rfl, hN, hb⟩; obtain ⟨A3, c3, hv3⟩ := Kd.N_slice hN; subst hv3; have HN3 := Aside0.mk (Kd.N_below HN2.out hb); have HB3 := Aside0.mk (below_step HB2.out hb); have HLTo := Aside0.mk (Kd.N_lt HN2.out); have HR3 := Aside0.mk hN; clear hN hb) | ((with_reducible refine gate_builtin (b := .append) (xs := #[.tmp 37, .tmp 45]) rfl ?_); at_builtin; refine Kd.N_append_rows k35 (w0 := w) w.heap.size rfl (.tmp 37) (.tmp 45) 22 35 (.agg #[(.slice none 0 0), (.int .i64 0), (.bool false), (.int .i64 0), (.slice none 0 0)]) 72 rfl Try.underlying22 info35 rfl (by decide) (by omega) u9 o (keyP l1 a2 a3 sg) A3 _ c3 (fun k_ => (P0_ k_ ∨ w.heap.size ≤ k_)) (fun k_ => (P0_ k_ ∧ k_ < w.heap.size) ∨ wq.heap.size ≤ k_) rfl rfl HN3.out (Kd.V_F (base := 0) (Kd.N_V HR3.out)) (fun k hk => hk.elim (fun hk => ⟨.inl hk.1, fun he => by have h1 := Kd.N_base HN3.out k he.symm; have h2 := hk.2; omega⟩) (fun hk => ⟨.inr (Nat.le_trans HB2.out.size hk), fun he => by have h1 := HLTo.out k he.symm; omega⟩)) (fun k hk => .inr (Nat.le_trans HB3.out.size hk)) HB3.out HB3.out.size (by have h1 := HKL.out; have h2 := HSL.out; have h3 := HL.out; omega) ?_; intro v1 w5 hN5 hB5 _ _; have HN5 := Aside0.mk hN5; have HB5 := Aside0.mk hB5; clear hN5 hB5))
            go_roundw
            case rel => exact ⟨j, y, o ++ keyP l1 a2 a3 sg, hj, hy, by go_num, ⟨by rw [List.append_assoc, ← HGP.out]; exact HO.out⟩, ⟨by have h1 := HKL.out; have h2 := HSGL.out; have h3 := HL.out; rw [List.length_append]; omega⟩, HN5, HB5⟩
            case measure => simp [intOf24]; have := hz.out; have := hy.out; have := HLT.out; omega
        · have hjl : j = l0.length := by have := hy.out; omega
          have c6b0 : decide (y < (l0.length : Int)) = false := decide_eq_false hlj
          have hij2 : i < j := by have := HLT.out; have := hz.out; omega
          clear hlj
          have hgrp := keepP_group l1 a2 a3 l0 i j hij2 hj (by rw [← hz.out]; exact HS.out) (fun h => by omega)
          obtain ⟨A', c', hcut, hVs⟩ := cut_seg HV.out i j z y hz.out hy.out (by omega) hj
          have hsl : ((l0.take j).drop i).length ≤ l0.length := by simp; omega
          have HSGL : Aside0 (((l0.take j).drop i).length = j - i) := ⟨by simp; omega⟩
          have HGP := Aside0.mk hgrp
          have HVS := Aside0.mk hVs
          have HSL := Aside0.mk hsl
          clear hgrp hVs hsl
          generalize (l0.take j).drop i = sg at hcut HGP HVS HSL HSGL
          have hkl := keyP_len l1 a2 a3 sg
          have HKL := Aside0.mk hkl
          clear hkl
          go_wp2
          go_quiet (fail)
          have HN2 := Aside0.mk (Kd.N_drewN HN.out nq)
          have HB2 := Aside0.mk (pw_below_drewN HB.out nq)
          clear HN HB
          generalize World.drewN wr nq = wq at HN2 HB2 ⊢
          go_wp2_with (first | (go_at_call 24; (with_reducible refine (halyardref9_keep.calls (fun k => P0_ k ∧ k < w.heap.size) A' c' sg A1 c1 l1 a2 a3 (keyP l1 a2 a3 sg) wq (Kd.V_below HVS.out HB2.out) (Kd.C_below HP.out HB2.out) HC1.out (keep24_key sg l1 a2 a3 (by have := HSL.out; omega))).mono ?_); rintro e w3 ⟨v0, rfl, hN, hb⟩; obtain ⟨A3, c3, hv3⟩ := Kd.N_slice hN; subst hv3; have HN3 := Aside0.mk (Kd.N_below HN2.out hb); have HB3 := Aside0.mk (below_step HB2.out hb); have HLTo := Aside0.mk (Kd.N_lt HN2.out); have HR3 := Aside0.mk hN; clear hN hb) | ((with_reducible refine gate_builtin (b := .append) (xs := #[.tmp 37, .tmp 45]) rfl ?_); at_builtin; refine Kd.N_append_rows k35 (w0 := w) w.heap.size rfl (.tmp 37) (.tmp 45) 22 35 (.agg #[(.slice none 0 0), (.int .i64 0), (.bool false), (.int .i64 0), (.slice none 0 0)]) 72 rfl Try.underlying22 info35 rfl (by decide) (by omega) u9 o (keyP l1 a2 a3 sg) A3 _ c3 (fun k_ => (P0_ k_ ∨ w.heap.size ≤ k_)) (fun k_ => (P0_ k_ ∧ k_ < w.heap.size) ∨ wq.heap.size ≤ k_) rfl rfl HN3.out (Kd.V_F (base := 0) (Kd.N_V HR3.out)) (fun k hk => hk.elim (fun hk => ⟨.inl hk.1, fun he => by have h1 := Kd.N_base HN3.out k he.symm; have h2 := hk.2; omega⟩) (fun hk => ⟨.inr (Nat.le_trans HB2.out.size hk), fun he => by have h1 := HLTo.out k he.symm; omega⟩)) (fun k hk => .inr (Nat.le_trans HB3.out.size hk)) HB3.out HB3.out.size (by have h1 := HKL.out; have h2 := HSL.out; have h3 := HL.out; omega) ?_; intro v1 w5 hN5 hB5 _ _; have HN5 := Aside0.mk hN5; have HB5 := Aside0.mk hB5; clear hN5 hB5))
          go_roundw
          case rel => exact ⟨j, y, o ++ keyP l1 a2 a3 sg, hj, hy, by go_num, ⟨by rw [List.append_assoc, ← HGP.out]; exact HO.out⟩, ⟨by have h1 := HKL.out; have h2 := HSGL.out; have h3 := HL.out; rw [List.length_append]; omega⟩, HN5, HB5⟩
          case measure => simp [intOf24]; have := hz.out; have := hy.out; have := HLT.out; omega
    · obtain rfl : i = l0.length := by have := hz.out; omega
      have c5b0 : decide (z < (l0.length : Int)) = false := decide_eq_false hlt
      clear hlt
      have HF : Aside0 (o = T) := ⟨by have h := HO.out; rw [List.drop_length, keepP_nil, List.append_nil] at h; exact h⟩
      go_wp2
      go_ret
      exact ⟨_, rfl, by rw [← HF.out]; exact HN.out, HB.out⟩
end Go.Proofs.Ytnepbpcpfeejkaa.K
