/-
  SquashKeeps: the law's walk, by hand (begun).
-/
import Derived.Test.YtnepbpcpfeejkaaKf14
import Derived.Test.YtnepbpcpfeejkaaKf9
import Derived.Test.YtnepbpcpfeejkaaKf10
import Derived.Test.YtnepbpcpfeejkaaKf11
import Derived.Test.YtnepbpcpfeejkaaKf12
import Derived.Test.YtnepbpcpfeejkaaKf13
import Derived.Test.YtnepbpcpfeejkaaKf15
namespace Go.Proofs.Ytnepbpcpfeejkaa.K
open Go.RowKit Go.Proofs.YtnepbpcpfeejkaaW.PrintWords Go.Proofs.YtnepbpcpfeejkaaW.PrintLast Go.Proofs.YtnepbpcpfeejkaaW.PrintMore
set_option linter.unusedVariables false
theorem V_to24 {α : Type} {d : Kd α} {e base base' : Nat} {ok : Nat → Prop} {W w1 : World} {v : Value} {xs : List α} (h : Kd.V d e W base ok v xs) (hb : Below W.heap.size W w1) : Kd.V d e w1 base' ok v xs := Kd.V_below (base := base') h hb
open E in
theorem keepP_len24 (pins : List Int) (now : Int) (b : Bool) : ∀ (n : Nat) (l : List S35), l.length ≤ n → (keepP pins now b l).length ≤ l.length
  | _, [], _ => by rw [keepP_nil]; exact Nat.le_refl _
  | 0, _ :: _, h => by simp at h
  | n + 1, e :: t, h => by
    have h1 := keyP_len pins now b (e :: t.takeWhile (sameK e))
    have h2 := congrArg List.length (List.takeWhile_append_dropWhile (p := sameK e) (l := t))
    rw [List.length_append] at h2
    have h3 := keepP_len24 pins now b n (t.dropWhile (sameK e)) (by simp at h; omega)
    rw [keepP_cons, List.length_append]
    simp only [List.length_cons] at h1 ⊢
    omega
open E in
set_option maxHeartbeats 8000000 in
set_option maxRecDepth 100000 in
theorem SquashKeeps_any (A0 : Option Addr) (c0 : Nat) (l0 : List S35) (A1 : Option Addr) (c1 : Nat) (l1 : List Int) (a2 : Int) (a3 : Bool) (w : World) (hr0 : Kd.C k35 w A0 l0.length l0) (hc0 : l0.length ≤ c0) (hr1 : Kd.C (Kd.int .i64) w A1 l1.length l1) (hc1 : l1.length ≤ c1) :
    Calls Try.prog 3 #[.slice A0 l0.length c0, .slice A1 l1.length c1, .int .i64 a2, .bool a3] w fun e w' => e = .returned (.bool true) ∧ Below w.heap.size w w' := by
  have HV := Aside0.mk (show Kd.V k35 35 w w.heap.size (fun k => k < w.heap.size) (.slice A0 l0.length c0) l0 from Kd.V_mk hc0 (Kd.C_F k35_heap hr0))
  have HR0 := Aside0.mk hr0
  have HC0 := Aside0.mk hc0
  have HR1 := Aside0.mk hr1
  have HC1 := Aside0.mk hc1
  obtain ⟨b, ⟨kb, hb⟩, hsm⟩ := light_ev l0
  obtain ⟨ka, ha⟩ := awake_ev
  have HL := Aside0.mk (hb kb (Nat.le_refl _))
  have HA := Aside0.mk (ha ka (Nat.le_refl _))
  clear hr0 hc0 hr1 hc1 hb ha
  cases b with
  | false =>
    go_enter Try.func3, Try.ntmps3
    go_wp2_with (first
      | (go_at_call 9; (with_reducible refine (halyardlaw18_light.calls kb A0 c0 l0 false _ HR0.out HC0.out HL.out).mono ?_); rintro e w1 ⟨rfl, hb⟩; have HB1 := Aside0.mk hb; clear hb)
      | (go_at_call 10; (with_reducible refine (halyardlaw18_awake.calls ka true _ HA.out).mono ?_); rintro e w2 ⟨rfl, hb⟩; have HB2 := Aside0.mk (below_step HB1.out hb); clear hb))
    go_ret
    exact ⟨rfl, HB2.out⟩
  | true =>
    by_cases h30 : (l1.length : Int) > 30
    · have d30 : decide (30 < (l1.length : Int)) = true := decide_eq_true h30
      have d31 : decide (30 < l1.length) = true := decide_eq_true (by omega)
      go_enter Try.func3, Try.ntmps3
      go_wp2_with (first
        | (go_at_call 9; (with_reducible refine (halyardlaw18_light.calls kb A0 c0 l0 true _ HR0.out HC0.out HL.out).mono ?_); rintro e w1 ⟨rfl, hb⟩; have HB1 := Aside0.mk hb; clear hb)
        | (go_at_call 10; (with_reducible refine (halyardlaw18_awake.calls ka true _ HA.out).mono ?_); rintro e w2 ⟨rfl, hb⟩; have HB2 := Aside0.mk (below_step HB1.out hb); clear hb))
      go_ret
      exact ⟨rfl, HB2.out⟩
    · have d30 : decide (30 < (l1.length : Int)) = false := decide_eq_false h30
      have d31 : decide (30 < l1.length) = false := decide_eq_false (by omega)
      have hs := hsm rfl
      have hlen := hs.1
      have hsm2 : Sm 1000 l0 := ⟨by omega, hs.2⟩
      obtain ⟨s, hgd, ⟨kso, hso⟩⟩ := sorted_ev l0 (by omega)
      have HSO := Aside0.mk (hso kso (Nat.le_refl _))
      have ho := pair_ordB hgd.ord
      have hlen2 := hgd.len
      have hsms : Sm 1000 s := ⟨by omega, hgd.sm.2⟩
      obtain ⟨kk, hk⟩ := keep_ev l0 hsm2 l1 (by omega) a2 a3
      have HK := Aside0.mk (hk kk (Nat.le_refl _))
      obtain ⟨kk2, hk2⟩ := keep_ev s hsms l1 (by omega) a2 a3
      rw [if_pos ho] at hk2
      have HK2 := Aside0.mk (hk2 kk2 (Nat.le_refl _))
      obtain ⟨ko, hko⟩ := refOrd_ev l0 (by omega)
      have HO := Aside0.mk (hko ko (Nat.le_refl _))
      have hkl1 : (keepP l1 a2 a3 l0).length ≤ l0.length := keepP_len24 l1 a2 a3 _ l0 (Nat.le_refl _)
      have hkl2 : (keepP l1 a2 a3 s).length ≤ s.length := keepP_len24 l1 a2 a3 _ s (Nat.le_refl _)
      obtain ⟨ks1, hs1⟩ := same_ev (keepP l1 a2 a3 l0) (by omega)
      have HS1 := Aside0.mk (hs1 ks1 (Nat.le_refl _))
      obtain ⟨ks2, hs2⟩ := same_ev (keepP l1 a2 a3 s) (by omega)
      have HS2 := Aside0.mk (hs2 ks2 (Nat.le_refl _))
      clear hk hk2 hko hso hs1 hs2 ho hsms hsm2 hs hgd hkl1 hkl2 hsm
      cases hor : ordB l0 with
      | true =>
        rw [hor] at HK HO
        rw [if_pos rfl] at HK
        go_enter Try.func3, Try.ntmps3
        go_upto_region 9 with (first | (go_at_call 9; (with_reducible refine (halyardlaw18_light.calls kb A0 c0 l0 true _ HR0.out HC0.out HL.out).mono ?_); rintro e w1 ⟨rfl, hb⟩; have HB1 := Aside0.mk hb; clear hb) | (go_at_call 11; (refine (squash_Keep.calls kk (fun k => k < w.heap.size) A0 c0 l0 A1 c1 l1 a2 a3 (keepP l1 a2 a3 l0) 0 _ (V_to24 HV.out HB1.out) (Kd.C_below HR1.out HB1.out) HC1.out HK.out).mono ?_); rintro e w2 ⟨vv, rfl, hN, hb⟩; obtain ⟨Ax1, cx1, hv⟩ := Kd.N_slice hN; subst hv; have HX1 := Aside0.mk hN; have HB2 := Aside0.mk (below_step HB1.out hb); clear hN hb) | (go_at_call 12; (with_reducible refine (halyardref9_Ordered.calls ko A0 c0 l0 true _ (Kd.C_below HR0.out HB2.out) HC0.out HO.out).mono ?_); rintro e w3 ⟨rfl, hb⟩; have HB3 := Aside0.mk (below_step HB2.out hb); have HX3 := Aside0.mk (Kd.N_below HX1.out hb); clear hb) | (go_at_call 14; (refine (halyardref9_Keep.calls (fun k => k < w.heap.size) A0 c0 l0 A1 c1 l1 a2 a3 _ (V_to24 HV.out HB3.out) (Kd.C_below HR1.out HB3.out) HC1.out (by omega)).mono ?_); rintro e w4 ⟨vv, rfl, hN, hb⟩; obtain ⟨Ay3, cy3, hv⟩ := Kd.N_slice hN; subst hv; have HY3 := Aside0.mk hN; have HZ3 := Aside0.mk (Kd.N_below HX3.out hb); have HB4 := Aside0.mk (below_step HB3.out hb); clear hN hb) | (go_at_call 13; (with_reducible refine (halyardref2_SameEntries.calls ks1 Ax1 cx1 (keepP l1 a2 a3 l0) Ay3 cy3 (keepP l1 a2 a3 l0) true _ (Kd.N_reads' HZ3.out).2.2 (Kd.N_reads' HZ3.out).2.1 (Kd.N_reads' HY3.out).2.2 (Kd.N_reads' HY3.out).2.1 HS1.out).mono ?_); rintro e w5 ⟨rfl, hb⟩; have HB5 := Aside0.mk (below_step HB4.out hb); clear hb))
        go_upto_region 10 with (go_at_call 15; go_loud (refine (halyardlaw18_sorted.calls kso (fun k => k < w.heap.size) A0 c0 l0 s _ (V_to24 HV.out HB5.out) HSO.out).mono ?_); rintro e w6 ⟨vv, rfl, hV, hb⟩; obtain ⟨As, cs, hv, hsl, hsF⟩ := hV; subst hv; have HVS := Aside0.mk (show Kd.V k35 35 w6 0 _ (.slice As s.length cs) s from ⟨As, cs, rfl, hsl, hsF⟩); have HB6 := Aside0.mk (below_step HB5.out hb); clear hb hsl hsF)
        go_upto_region 11 with (go_at_call 11; go_loud (refine (squash_Keep.calls kk2 (fun k => k < w.heap.size ∨ w5.heap.size ≤ k) As cs s A1 c1 l1 a2 a3 (keepP l1 a2 a3 s) 0 _ (V_to24 HVS.out (Below.refl _ _)) (Kd.C_below HR1.out HB6.out) HC1.out HK2.out).mono ?_); rintro e w7 ⟨vv, rfl, hN, hb⟩; obtain ⟨Ax6, cx6, hv⟩ := Kd.N_slice hN; subst hv; have HX6 := Aside0.mk hN; have HB7 := Aside0.mk (below_step HB6.out hb); have HVT := Aside0.mk (V_to24 (base' := 0) HVS.out hb); clear hN hb)
        go_wp2_with (first | (go_at_call 14; go_loud (refine (halyardref9_Keep.calls (fun k => k < w.heap.size ∨ w5.heap.size ≤ k) As cs s A1 c1 l1 a2 a3 _ (V_to24 HVT.out (Below.refl _ _)) (Kd.C_below HR1.out HB7.out) HC1.out (by omega)).mono ?_); rintro e w8 ⟨vv, rfl, hN, hb⟩; obtain ⟨Ay7, cy7, hv⟩ := Kd.N_slice hN; subst hv; have HY7 := Aside0.mk hN; have HZ7 := Aside0.mk (Kd.N_below HX6.out hb); have HB8 := Aside0.mk (below_step HB7.out hb); clear hN hb) | (go_at_call 13; go_loud (refine (halyardref2_SameEntries.calls ks2 Ax6 cx6 (keepP l1 a2 a3 s) Ay7 cy7 (keepP l1 a2 a3 s) true _ (Kd.N_reads' HZ7.out).2.2 (Kd.N_reads' HZ7.out).2.1 (Kd.N_reads' HY7.out).2.2 (Kd.N_reads' HY7.out).2.1 HS2.out).mono ?_); rintro e w9 ⟨rfl, hb⟩; have HB9 := Aside0.mk (below_step HB8.out hb); clear hb) | (go_at_call 10; go_loud (refine (halyardlaw18_awake.calls ka true _ HA.out).mono ?_); rintro e w10 ⟨rfl, hb⟩; have HB10 := Aside0.mk (below_step HB9.out hb); clear hb))
        go_ret
        exact ⟨rfl, HB10.out⟩
      | false =>
        rw [hor] at HK HO
        rw [if_neg (by decide)] at HK
        go_enter Try.func3, Try.ntmps3
        go_upto_region 9 with (first | (go_at_call 9; (with_reducible refine (halyardlaw18_light.calls kb A0 c0 l0 true _ HR0.out HC0.out HL.out).mono ?_); rintro e w1 ⟨rfl, hb⟩; have HB1 := Aside0.mk hb; clear hb) | (go_at_call 11; (refine (squash_Keep.calls kk (fun k => k < w.heap.size) A0 c0 l0 A1 c1 l1 a2 a3 [] 11 _ (V_to24 HV.out HB1.out) (Kd.C_below HR1.out HB1.out) HC1.out HK.out).mono ?_); rintro e w2 ⟨vv, rfl, hN, hb⟩; obtain ⟨Ax1, cx1, hv⟩ := Kd.N_slice hN; subst hv; have HX1 := Aside0.mk hN; have HB2 := Aside0.mk (below_step HB1.out hb); clear hN hb) | (go_at_call 12; (with_reducible refine (halyardref9_Ordered.calls ko A0 c0 l0 false _ (Kd.C_below HR0.out HB2.out) HC0.out HO.out).mono ?_); rintro e w3 ⟨rfl, hb⟩; have HB3 := Aside0.mk (below_step HB2.out hb); clear hb))
        go_upto_region 10 with (go_at_call 15; go_loud (refine (halyardlaw18_sorted.calls kso (fun k => k < w.heap.size) A0 c0 l0 s _ (V_to24 HV.out HB3.out) HSO.out).mono ?_); rintro e w4 ⟨vv, rfl, hV, hb⟩; obtain ⟨As, cs, hv, hsl, hsF⟩ := hV; subst hv; have HVS := Aside0.mk (show Kd.V k35 35 w4 0 _ (.slice As s.length cs) s from ⟨As, cs, rfl, hsl, hsF⟩); have HB4 := Aside0.mk (below_step HB3.out hb); clear hb hsl hsF)
        go_upto_region 11 with (go_at_call 11; go_loud (refine (squash_Keep.calls kk2 (fun k => k < w.heap.size ∨ w3.heap.size ≤ k) As cs s A1 c1 l1 a2 a3 (keepP l1 a2 a3 s) 0 _ (V_to24 HVS.out (Below.refl _ _)) (Kd.C_below HR1.out HB4.out) HC1.out HK2.out).mono ?_); rintro e w5 ⟨vv, rfl, hN, hb⟩; obtain ⟨Ax4, cx4, hv⟩ := Kd.N_slice hN; subst hv; have HX4 := Aside0.mk hN; have HB5 := Aside0.mk (below_step HB4.out hb); have HVT := Aside0.mk (V_to24 (base' := 0) HVS.out hb); clear hN hb)
        go_wp2_with (first | (go_at_call 14; go_loud (refine (halyardref9_Keep.calls (fun k => k < w.heap.size ∨ w3.heap.size ≤ k) As cs s A1 c1 l1 a2 a3 _ (V_to24 HVT.out (Below.refl _ _)) (Kd.C_below HR1.out HB5.out) HC1.out (by omega)).mono ?_); rintro e w6 ⟨vv, rfl, hN, hb⟩; obtain ⟨Ay5, cy5, hv⟩ := Kd.N_slice hN; subst hv; have HY5 := Aside0.mk hN; have HZ5 := Aside0.mk (Kd.N_below HX4.out hb); have HB6 := Aside0.mk (below_step HB5.out hb); clear hN hb) | (go_at_call 13; go_loud (refine (halyardref2_SameEntries.calls ks2 Ax4 cx4 (keepP l1 a2 a3 s) Ay5 cy5 (keepP l1 a2 a3 s) true _ (Kd.N_reads' HZ5.out).2.2 (Kd.N_reads' HZ5.out).2.1 (Kd.N_reads' HY5.out).2.2 (Kd.N_reads' HY5.out).2.1 HS2.out).mono ?_); rintro e w7 ⟨rfl, hb⟩; have HB7 := Aside0.mk (below_step HB6.out hb); clear hb) | (go_at_call 10; go_loud (refine (halyardlaw18_awake.calls ka true _ HA.out).mono ?_); rintro e w8 ⟨rfl, hb⟩; have HB8 := Aside0.mk (below_step HB7.out hb); clear hb))
        go_ret
        exact ⟨rfl, HB8.out⟩
end Go.Proofs.Ytnepbpcpfeejkaa.K
