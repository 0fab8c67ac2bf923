/-
  What is kept reads as all did: at each pin, and at the newest, at the clock; kept once more nothing changes: for rows that are light, and at most 20 pins (of others the statement says no more than the package's own example).
-/
import Derived.Test.YtnepbpcpfeejkaaEm
import Derived.Test.YtnepbpcpfeejkaaKf7
set_option linter.unusedSimpArgs false
set_option linter.unusedVariables false
namespace Go.Proofs.Ytnepbpcpfeejkaa.PureSame
open Go.RowKit Go.Proofs.Ytnepbpcpfeejkaa.K Go.Proofs.Ytnepbpcpfeejkaa.E Go.Proofs.YtnepbpcpfeejkaaW.PrintWords Go.Proofs.YtnepbpcpfeejkaaW.PrintLast

theorem liveP_len (seq now : Int) : ∀ (n : Nat) (l : List S35), l.length = n → (liveP seq now l).length ≤ n := by
  intro n
  induction n using Nat.strongRecOn with
  | _ n ih =>
    intro l hn
    cases l with
    | nil => rw [liveP_nil]; simp
    | cons e t =>
      have h3 := dw_lt e t (sameK e)
      have h1 := ih _ (by rw [← hn]; exact h3) (t.dropWhile (sameK e)) rfl
      have h2 := pick_len seq now (e :: t.takeWhile (sameK e))
      rw [liveP_cons, List.length_append]
      omega
theorem same_l0' (s : List S35) (hs : Gd 60 s) (pins : List Int) (hp : pins.length ≤ 20) (now : Int) (b : Bool) (y : List Int) (hy : y.length ≤ 1000) (hall : ∀ p ∈ y, p ∈ pins ∨ ∀ f ∈ s, f.f1 ≤ p) : ∀ (d j : Nat), j + d = y.length →
    Ev (fun k => halyardlaw18_SquashSame.l0 k pins now b s (keepP pins now b s) y (y.length : Int) (j : Int)) true := by
  have hsm := hs.sm
  have hlen := hs.len
  have hsm' : Sm 1000 s := ⟨by omega, hsm.2⟩
  have hkm := keep_sm (pins := pins) (now := now) (b := b) hsm'
  have hko := keep_ord (pins := pins) (now := now) (b := b) hs.ord
  have hkl := keep_len (pins := pins) (now := now) (b := b) (l := s)
  intro d
  induction d with
  | zero =>
    intro j hj
    have k1 := keep_ev _ hkm pins (by omega) now b
    rw [if_pos (pair_ordB hko), keep_again _ s rfl hs.ord] at k1
    refine Ev.step (f := fun k => (squash_Keep.f k (keepP pins now b s) pins now b).bind fun bt419 => (if bt419.2 = 0 then ((halyardref2_SameEntries.f k bt419.1 (keepP pins now b s)).bind fun t423 => (if t423 = true then (if ((keepP pins now b s).length : Int) ≤ (s.length : Int) then ((halyardlaw18_awake.f k).bind fun t424 => (some t424)) else (some false)) else (some false))) else (some false))) (fun k => by
      simp only [halyardlaw18_SquashSame.l0]
      rw [if_neg (by omega)]) ?_
    refine Ev.bind k1 ?_
    refine Ev.congr (f := fun k => (halyardref2_SameEntries.f k (keepP pins now b s) (keepP pins now b s)).bind fun t423 => (if t423 = true then (if ((keepP pins now b s).length : Int) ≤ (s.length : Int) then ((halyardlaw18_awake.f k).bind fun t424 => (some t424)) else (some false)) else (some false))) (fun k => by simp only [if_true]) ?_
    refine Ev.bind (same_ev _ (by omega)) ?_
    refine Ev.congr (f := fun k => (halyardlaw18_awake.f k).bind fun t424 => (some t424)) (fun k => by rw [if_pos rfl, if_pos (by omega)]) ?_
    exact Ev.bind awake_ev (Ev.now _)
  | succ d ih =>
    intro j hj
    have hm : rd y (j : Int) ∈ y := by
      have : rd y (j : Int) = y[j] := by simp [Go.Proofs.YtnepbpcpfeejkaaW.PrintWords.rd, List.getD_eq_getElem?_getD, List.getElem?_eq_getElem (show j < y.length by omega)]
      rw [this]
      exact List.getElem_mem _
    have k1 := live_ev s hsm' (rd y (j : Int)) now
    have k2 := live_ev _ hkm (rd y (j : Int)) now
    rw [if_pos (pair_ordB hs.ord)] at k1
    rw [if_pos (pair_ordB hko), live_keep _ s rfl hs.ord (hall _ hm)] at k2
    have hlv := liveP_len (rd y (j : Int)) now _ s rfl
    refine Ev.step (f := fun k => (squash_Live.f k s (rd y (j : Int)) now).bind fun bt426 => ((squash_Live.f k (keepP pins now b s) (rd y (j : Int)) now).bind fun bt430 => (if bt426.2 = 0 then (if bt430.2 = 0 then ((halyardref2_SameEntries.f k bt426.1 bt430.1).bind fun t434 => (if t434 = true then (halyardlaw18_SquashSame.l0 k pins now b s (keepP pins now b s) y (y.length : Int) ((j + 1 : Nat) : Int)) else (some false))) else (some false)) else (some false)))) (fun k => by
      simp only [halyardlaw18_SquashSame.l0]
      rw [if_pos (by omega), if_pos (by omega), if_pos (by omega), wrap_up j (by omega)]) ?_
    refine Ev.bind k1 ?_
    refine Ev.bind k2 ?_
    refine Ev.congr (f := fun k => (halyardref2_SameEntries.f k (liveP (rd y (j : Int)) now s) (liveP (rd y (j : Int)) now s)).bind fun t434 => (if t434 = true then (halyardlaw18_SquashSame.l0 k pins now b s (keepP pins now b s) y (y.length : Int) ((j + 1 : Nat) : Int)) else (some false))) (fun k => by simp only [if_true]) ?_
    refine Ev.bind (same_ev _ (by omega)) ?_
    exact Ev.congr (f := fun k => halyardlaw18_SquashSame.l0 k pins now b s (keepP pins now b s) y (y.length : Int) ((j + 1 : Nat) : Int)) (fun k => by rw [if_pos rfl]) (ih (j + 1) (by omega))
theorem SquashSame (l : List S35) (pins : List Int) (now : Int) (b : Bool) : ∃ k, halyardlaw18_SquashSame.f k l pins now b = some true := by
  refine Ev.rounds ?_
  have haw : ∀ (x : List S35), Ev (fun k => halyardlaw18_SquashSame.j0 k x pins now b true) true := fun x => by
    refine Ev.step (f := fun k => (halyardlaw18_awake.f k).bind fun t265 => (some t265)) (fun k => by rw [halyardlaw18_SquashSame.j0, if_pos rfl]) ?_
    exact Ev.bind awake_ev (Ev.now _)
  obtain ⟨q, hq, hsm⟩ := light_ev l
  unfold halyardlaw18_SquashSame.f
  refine Ev.bind hq ?_
  cases q with
  | false => exact Ev.congr (f := fun k => halyardlaw18_SquashSame.j0 k l pins now b true) (fun k => by rw [if_neg (by simp)]) (haw l)
  | true =>
    have hl := (hsm rfl).1
    refine Ev.congr (f := fun k => halyardlaw18_SquashSame.j0 k l pins now b (decide ((pins.length : Int) > 20))) (fun k => by rw [if_pos rfl]) ?_
    cases hc : decide ((pins.length : Int) > 20) with
    | true => exact haw l
    | false =>
      have hp := of_decide_eq_false hc
      obtain ⟨s, hs, hse⟩ := sorted_ev l (by omega)
      have hlen := hs.len
      have hsm' : Sm 1000 s := ⟨by omega, hs.sm.2⟩
      have k1 := keep_ev s hsm' pins (by omega) now b
      rw [if_pos (pair_ordB hs.ord)] at k1
      refine Ev.step (fun k => by rw [halyardlaw18_SquashSame.j0, if_neg (by simp)]) ?_
      refine Ev.bind hse ?_
      refine Ev.bind k1 ?_
      refine Ev.congr (f := fun k => halyardlaw18_SquashSame.l0 k pins now b s (keepP pins now b s) (pins ++ [4611686018427387904]) ((pins ++ [4611686018427387904]).length : Int) ((0 : Nat) : Int)) (fun k => by
        simp only [if_true, Option.bind_some, List.nil_append, List.length_nil]
        rw [if_pos (by omega), if_pos (by omega)]
        rfl) ?_
      refine same_l0' s hs pins (by omega) now b _ (by simp; omega) (fun p hpm => ?_) _ 0 (Nat.zero_add _)
      rcases List.mem_append.1 hpm with h | h
      · exact .inl h
      · simp only [List.mem_singleton] at h
        subst h
        exact .inr fun f hf => (hs.may f hf).2.1
end Go.Proofs.Ytnepbpcpfeejkaa.PureSame
