/-
  With more pins no fewer entries are kept, and what is kept with fewer is among them: for rows that are light, and at most 20 pins (of others the statement says no more than the package's own example).
-/
import Derived.Test.YtnepbpcpfeejkaaEm
import Derived.Test.YtnepbpcpfeejkaaKf4
set_option linter.unusedSimpArgs false
set_option linter.unusedVariables false
namespace Go.Proofs.Ytnepbpcpfeejkaa.PurePins
open Go.RowKit Go.Proofs.Ytnepbpcpfeejkaa.K Go.Proofs.Ytnepbpcpfeejkaa.E Go.Proofs.YtnepbpcpfeejkaaW.PrintWords Go.Proofs.YtnepbpcpfeejkaaW.PrintLast

theorem behind_more {pins : List Int} {q : Option Int} {s : Int} (m : Int) (h : behind q s pins = true) : behind q s (pins ++ [m]) = true := by
  cases q with
  | none => rfl
  | some v =>
    simp only [behind, seenAt, List.any_append, Bool.or_eq_true] at h ⊢
    exact .inl h
theorem kp_more (pins : List Int) (m now : Int) : ∀ (q : Option Int) (l : List S35), (kp pins now q l).Sublist (kp (pins ++ [m]) now q l)
  | _, [] => .slnil
  | q, e :: t => by
    have ih := kp_more pins m now (some e.f1) t
    simp only [kp]
    by_cases h : behind q e.f1 pins = true
    · rw [if_pos h, if_pos (behind_more m h)]
      exact ih.cons_cons _
    · rw [if_neg h]
      split
      · exact ih.cons _
      · exact ih
theorem keep_more (pins : List Int) (m now : Int) : ∀ (n : Nat) (l : List S35), l.length = n → (keepP pins now false l).Sublist (keepP (pins ++ [m]) now false l) := by
  intro n
  induction n using Nat.strongRecOn with
  | _ n ih =>
    intro l hn
    cases l with
    | nil => rw [keepP_nil, keepP_nil]; exact .slnil
    | cons e t =>
      rw [keepP_cons, keepP_cons]
      exact (kp_more pins m now none _).append (ih _ (by rw [← hn]; exact dw_lt e t _) _ rfl)
theorem pins_l0 (a b : List S35) (ha : a.length ≤ 1000) (hb : b.length ≤ 1000) : ∀ (d j m : Nat), j + d = b.length → m ≤ a.length → (a.drop m).Sublist (b.drop j) →
    Ev (fun k => halyardlaw18_SquashPins.l0 k a (m : Int) b (b.length : Int) (j : Int)) true
  | 0, j, m, hj, hm, hs => by
    have hd : b.drop j = [] := List.drop_of_length_le (by omega)
    rw [hd] at hs
    have h1 := List.sublist_nil.1 hs
    have h2 : a.length ≤ m := by simpa using h1
    refine Ev.step (f := fun k => (halyardlaw18_awake.f k).bind fun t290 => (some t290)) (fun k => by
      simp only [halyardlaw18_SquashPins.l0]
      rw [if_neg (by omega), if_pos (by omega)]) ?_
    exact Ev.bind awake_ev (Ev.now _)
  | d + 1, j, m, hj, hm, hs => by
    rw [drop_at (by omega : j < b.length)] at hs
    by_cases hma : m < a.length
    · rw [drop_at hma] at hs
      by_cases hsame : sameE (rd_T35 a (m : Int)) (rd_T35 b (j : Int)) = true
      · have hs' : (a.drop (m + 1)).Sublist (b.drop (j + 1)) := by
          generalize rd_T35 a (m : Int) = x at hs
          generalize rd_T35 b (j : Int) = y at hs
          cases hs with
          | cons _ h => exact (List.sublist_cons_self _ _).trans h
          | cons_cons _ h => exact h
        refine Ev.step (f := fun k => halyardlaw18_SquashPins.l0 k a ((m + 1 : Nat) : Int) b (b.length : Int) ((j + 1 : Nat) : Int)) (fun k => by
          simp only [halyardlaw18_SquashPins.l0]
          rw [if_pos (by omega), if_pos (by omega), if_pos (by omega), if_pos (by omega), if_pos (by omega), sameEntry_eval]
          simp only [Option.bind_some]
          rw [if_pos hsame, wrap_up m (by omega), wrap_up j (by omega)]) ?_
        exact pins_l0 a b ha hb d (j + 1) (m + 1) (by omega) (by omega) hs'
      · have hs' : (a.drop m).Sublist (b.drop (j + 1)) := by
          rw [drop_at hma]
          generalize hx : rd_T35 a (m : Int) = x at hs hsame
          generalize hy : rd_T35 b (j : Int) = y at hs hsame
          cases hs with
          | cons _ h => exact h
          | cons_cons _ h => exact absurd (sameE_refl _) hsame
        refine Ev.step (f := fun k => halyardlaw18_SquashPins.l0 k a (m : Int) b (b.length : Int) ((j + 1 : Nat) : Int)) (fun k => by
          simp only [halyardlaw18_SquashPins.l0]
          rw [if_pos (by omega), if_pos (by omega), if_pos (by omega), if_pos (by omega), if_pos (by omega), sameEntry_eval]
          simp only [Option.bind_some]
          rw [if_neg hsame, wrap_up j (by omega)]) ?_
        exact pins_l0 a b ha hb d (j + 1) m (by omega) hm hs'
    · have hd : a.drop m = [] := List.drop_of_length_le (by omega)
      refine Ev.step (f := fun k => halyardlaw18_SquashPins.l0 k a (m : Int) b (b.length : Int) ((j + 1 : Nat) : Int)) (fun k => by
        simp only [halyardlaw18_SquashPins.l0]
        rw [if_pos (by omega), if_pos (by omega), if_pos (by omega), if_neg (by omega), wrap_up j (by omega)]) ?_
      exact pins_l0 a b ha hb d (j + 1) m (by omega) hm (by rw [hd]; exact List.nil_sublist _)
theorem pins_j0 (l : List S35) (hl : l.length ≤ 1000) (pins : List Int) (m now : Int) (b : Bool) (hb : b = false → pins.length ≤ 20) : Ev (fun k => halyardlaw18_SquashPins.j0 k l pins m now b) true := by
  cases b with
  | true =>
    refine Ev.step (f := fun k => (halyardlaw18_awake.f k).bind fun t265 => (some t265)) (fun k => by rw [halyardlaw18_SquashPins.j0, if_pos rfl]) ?_
    exact Ev.bind awake_ev (Ev.now _)
  | false =>
    have hp := hb rfl
    obtain ⟨s, hs, hse⟩ := sorted_ev l hl
    have ho := pair_ordB hs.ord
    have hlen := hs.len
    have hsm : Sm 1000 s := ⟨by omega, hs.sm.2⟩
    have k1 := keep_ev s hsm pins (by omega) now false
    have k2 := keep_ev s hsm (pins ++ [m]) (by simp; omega) now false
    rw [if_pos ho] at k1 k2
    have hsub := keep_more pins m now _ s rfl
    have l1 := keep_len (pins := pins) (now := now) (b := false) (l := s)
    have l2 := keep_len (pins := pins ++ [m]) (now := now) (b := false) (l := s)
    have l3 := hsub.length_le
    refine Ev.step (fun k => by rw [halyardlaw18_SquashPins.j0, if_neg (by simp)]) ?_
    refine Ev.bind hse ?_
    refine Ev.bind k1 ?_
    refine Ev.congr (f := fun k => (squash_Keep.f k s (pins ++ [m]) now false).bind fun bt282 => (if bt282.2 = 0 then (halyardlaw18_SquashPins.j1 k (keepP pins now false s) bt282.1 (decide ((bt282.1.length : Int) < ((keepP pins now false s).length : Int)))) else (halyardlaw18_SquashPins.j1 k (keepP pins now false s) bt282.1 true))) (fun k => by
      simp only [Option.bind_some, List.nil_append, List.length_nil]
      rw [if_pos (by omega), if_pos (by omega)]
      simp only [if_true]) ?_
    refine Ev.bind k2 ?_
    refine Ev.congr (f := fun k => halyardlaw18_SquashPins.j1 k (keepP pins now false s) (keepP (pins ++ [m]) now false s) false) (fun k => by
      rw [if_pos rfl, show decide (((keepP (pins ++ [m]) now false s).length : Int) < ((keepP pins now false s).length : Int)) = false from decide_eq_false (by omega)]) ?_
    refine Ev.step (f := fun k => halyardlaw18_SquashPins.l0 k (keepP pins now false s) ((0 : Nat) : Int) (keepP (pins ++ [m]) now false s) ((keepP (pins ++ [m]) now false s).length : Int) ((0 : Nat) : Int)) (fun k => by rw [halyardlaw18_SquashPins.j1, if_neg (by simp)]; rfl) ?_
    exact pins_l0 _ _ (by omega) (by omega) _ 0 0 (Nat.zero_add _) (Nat.zero_le _) (by simpa using hsub)
theorem SquashPins (l : List S35) (pins : List Int) (m now : Int) : ∃ k, halyardlaw18_SquashPins.f k l pins m now = some true := by
  refine Ev.rounds ?_
  obtain ⟨b, hb, hsm⟩ := light_ev l
  unfold halyardlaw18_SquashPins.f
  refine Ev.bind hb ?_
  cases b with
  | false =>
    refine Ev.congr (f := fun k => halyardlaw18_SquashPins.j0 k l pins m now true) (fun k => by rw [if_neg (by simp)]) ?_
    refine Ev.step (f := fun k => (halyardlaw18_awake.f k).bind fun t265 => (some t265)) (fun k => by rw [halyardlaw18_SquashPins.j0, if_pos rfl]) ?_
    exact Ev.bind awake_ev (Ev.now _)
  | true =>
    have hl := (hsm rfl).1
    refine Ev.congr (f := fun k => halyardlaw18_SquashPins.j0 k l pins m now (decide ((pins.length : Int) > 20))) (fun k => by rw [if_pos rfl]) ?_
    exact pins_j0 l (by omega) pins m now _ (fun h => by have := of_decide_eq_false h; omega)
end Go.Proofs.Ytnepbpcpfeejkaa.PurePins
