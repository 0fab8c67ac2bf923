/-
  What lives of a row of entries at any number and clock is what the document's own function tells: for rows of any kind that are light (of others the statement says no more than the package's own example).
-/
import Derived.Test.YtnepbpcpfeejkaaEl
import Derived.Test.YtnepbpcpfeejkaaKf6
set_option linter.unusedSimpArgs false
set_option linter.unusedVariables false
namespace Go.Proofs.Ytnepbpcpfeejkaa.PureLives
open Go.RowKit Go.Proofs.Ytnepbpcpfeejkaa.K Go.Proofs.Ytnepbpcpfeejkaa.E Go.Proofs.YtnepbpcpfeejkaaW.PrintWords Go.Proofs.YtnepbpcpfeejkaaW.PrintLast

theorem cmpk_zero {a b : List Int} : cmpk a b = 0 ↔ sk a b = true := by
  unfold cmpk
  by_cases c1 : ltk a b = true
  · simp [c1, ltk_not c1]
  · by_cases c2 : ltk b a = true
    · have : sk a b = false := by rw [sk_comm]; exact ltk_not c2
      simp [c1, c2, this]
    · simp [c1, c2, tri (by simpa using c1) (by simpa using c2)]
def other (q : Option (List Int)) (k : List Int) : Bool := match q with | none => true | some q => !sk q k
/-- Of each key the newest up to a number. -/
def sn (seq : Int) : Option (List Int) → List S35 → List S35
  | _, [] => []
  | q, e :: t => if decide (e.f1 ≤ seq) && other q e.f0 then e :: sn seq (some e.f0) t else sn seq q t
def lastK (acc : List S35) : Option (List Int) := acc.getLast?.map (·.f0)
theorem lastK_snoc (acc : List S35) (e : S35) : lastK (acc ++ [e]) = some e.f0 := by simp [lastK]
theorem seen_l0 (l : List S35) (hl : l.length ≤ 1000) (seq : Int) : ∀ (d i k : Nat) (acc : List S35), i + d = l.length → acc.length + d ≤ 1000 → d < k →
    halyardref9_Seen.l0 k seq acc l (l.length : Int) (i : Int) = some (acc ++ sn seq (lastK acc) (l.drop i))
  | 0, i, k, acc, hi, ha, hk => by
    obtain ⟨k, rfl⟩ : ∃ m, k = m + 1 := ⟨k - 1, by omega⟩
    simp only [halyardref9_Seen.l0]
    rw [if_neg (by omega), List.drop_of_length_le (by omega)]
    simp [sn]
  | d + 1, i, k, acc, hi, ha, hk => by
    obtain ⟨k, rfl⟩ : ∃ m, k = m + 1 := ⟨k - 1, by omega⟩
    simp only [halyardref9_Seen.l0]
    rw [if_pos (by omega), if_pos (by omega), if_pos (by omega), wrap_up i (by omega), drop_at (by omega : i < l.length), eta]
    have ih1 := seen_l0 l hl seq d (i + 1) k (acc ++ [rd_T35 l (i : Int)]) (by omega) (by simp; omega) (by omega)
    have ih2 := seen_l0 l hl seq d (i + 1) k acc (by omega) (by omega) (by omega)
    rw [lastK_snoc] at ih1
    rw [ih1, ih2]
    simp only [sn]
    by_cases c1 : (rd_T35 l (i : Int)).f1 ≤ seq
    · rw [if_pos c1]
      by_cases c2 : (acc.length : Int) = 0
      · have : acc = [] := List.eq_nil_of_length_eq_zero (by omega)
        subst this
        rw [if_pos c2, if_pos (by omega)]
        simp [c1, other, lastK]
      · have hne : acc ≠ [] := by intro h; subst h; simp at c2
        have hlast : rd_T35 acc ((acc.length - 1 : Nat) : Int) = acc.getLast hne := by rw [rd_at (by omega : acc.length - 1 < acc.length), List.getLast_eq_getElem]
        have hk2 : lastK acc = some (acc.getLast hne).f0 := by simp [lastK, List.getLast?_eq_some_getLast hne]
        rw [if_neg c2, wrap_dn acc.length (by omega) (by omega), if_pos (by omega), if_pos (by omega), cmp_eval', hlast]
        simp only [Option.bind_some]
        rw [hk2]
        by_cases c3 : sk (acc.getLast hne).f0 (rd_T35 l (i : Int)).f0 = true
        · rw [if_pos (cmpk_zero.2 c3)]
          simp [other, c3]
        · rw [if_neg (mt cmpk_zero.1 c3), if_pos (by omega)]
          simp [other, c1, c3]
    · rw [if_neg c1]
      simp [c1]
/-- Those that are not gone, and have not ended. -/
def stays (now : Int) (e : S35) : Bool := !e.f2 && !endedP e.f3 now
theorem ended_eval (u now : Int) : halyardref9_Ended.f u now = some (endedP u now) := by
  unfold halyardref9_Ended.f endedP
  by_cases c1 : u = 0 <;> simp [c1]
theorem live_l0 (l : List S35) (hl : l.length ≤ 1000) (now : Int) : ∀ (d i k : Nat) (acc : List S35), i + d = l.length → acc.length + d ≤ 1000 → d < k →
    halyardref9_Live.l0 k now acc l (l.length : Int) (i : Int) = some (acc ++ (l.drop i).filter (stays now))
  | 0, i, k, acc, hi, ha, hk => by
    obtain ⟨k, rfl⟩ : ∃ m, k = m + 1 := ⟨k - 1, by omega⟩
    simp only [halyardref9_Live.l0]
    rw [if_neg (by omega), List.drop_of_length_le (by omega)]
    simp
  | d + 1, i, k, acc, hi, ha, hk => by
    obtain ⟨k, rfl⟩ : ∃ m, k = m + 1 := ⟨k - 1, by omega⟩
    simp only [halyardref9_Live.l0]
    rw [if_pos (by omega), if_pos (by omega), if_pos (by omega), wrap_up i (by omega), drop_at (by omega : i < l.length), eta, ended_eval]
    simp only [Option.bind_some]
    rw [live_l0 l hl now d (i + 1) k (acc ++ [_]) (by omega) (by simp; omega) (by omega), live_l0 l hl now d (i + 1) k acc (by omega) (by omega) (by omega)]
    by_cases c1 : (rd_T35 l (i : Int)).f2 = true
    · rw [if_pos c1]; simp [List.filter_cons, stays, c1]
    · rw [if_neg c1]
      by_cases c2 : endedP (rd_T35 l (i : Int)).f3 now = true
      · rw [if_pos c2]; simp [List.filter_cons, stays, c2]
      · rw [if_neg c2, if_pos (by omega)]; simp [List.filter_cons, stays, c1, c2]
theorem sn_len (seq : Int) : ∀ (q : Option (List Int)) (l : List S35), (sn seq q l).length ≤ l.length
  | _, [] => Nat.le_refl _
  | q, e :: t => by
    have h1 := sn_len seq (some e.f0) t
    have h2 := sn_len seq q t
    simp only [sn]
    split <;> simp <;> omega
def refLiveP (seq now : Int) (l : List S35) : List S35 := (sn seq none l).filter (stays now)
theorem refLive_ev (l : List S35) (hl : l.length ≤ 1000) (seq now : Int) : Ev (fun k => halyardref9_Live.f k l seq now) (refLiveP seq now l) := by
  have h1 := sn_len seq none l
  refine ⟨l.length + 1, fun k hk => ?_⟩
  show halyardref9_Live.f k l seq now = _
  unfold halyardref9_Live.f halyardref9_Seen.f
  have e1 : halyardref9_Seen.l0 k seq [] l (l.length : Int) 0 = some (sn seq none l) := seen_l0 l hl seq l.length 0 k [] (by omega) (by simp; omega) (by omega)
  rw [e1]
  exact live_l0 (sn seq none l) (by omega) now _ 0 k [] (Nat.zero_add _) (by simp; omega) (by omega)
/-- One key's entries: those behind the first one that is taken are passed by. -/
theorem sn_skip (seq : Int) (κ : List Int) (rest : List S35) : ∀ g : List S35, (∀ f ∈ g, sk κ f.f0 = true) → sn seq (some κ) (g ++ rest) = sn seq (some κ) rest
  | [], _ => rfl
  | f :: g, h => by
    have h1 := h f (by simp)
    simp only [List.cons_append, sn, other, h1]
    simpa using sn_skip seq κ rest g (fun f hf => h f (by simp [hf]))
theorem sn_group (seq : Int) (q : Option (List Int)) (κ : List Int) (rest : List S35) : ∀ g : List S35, (∀ f ∈ g, sk κ f.f0 = true ∧ other q f.f0 = true) →
    sn seq q (g ++ rest) = match g.find? (fun e => decide (e.f1 ≤ seq)) with | none => sn seq q rest | some x => x :: sn seq (some x.f0) rest
  | [], _ => rfl
  | f :: g, h => by
    have h1 := h f (by simp)
    simp only [List.cons_append, sn, h1.2, Bool.and_true]
    by_cases c : f.f1 ≤ seq
    · simp only [c, decide_true, if_true, List.find?_cons]
      rw [sn_skip seq f.f0 rest g (fun x hx => sk_trans (sk_symm h1.1) (h x (by simp [hx])).1)]
    · simp only [c, decide_false, Bool.false_eq_true, if_false, List.find?_cons]
      exact sn_group seq q κ rest g (fun x hx => h x (by simp [hx]))
/-- In a row in order: what stands behind a key's entries is of greater keys. -/
theorem dw_gt {e : S35} : ∀ {t : List S35}, ((e :: t).Pairwise fun e f => ahd e f = true) → ∀ f ∈ t.dropWhile (sameK e), ltk e.f0 f.f0 = true
  | [], _, f, hf => by simp at hf
  | x :: t, h, f, hf => by
    obtain ⟨h1, h2⟩ := List.pairwise_cons.1 h
    by_cases c : sameK e x = true
    · rw [List.dropWhile_cons_of_pos c] at hf
      exact dw_gt (List.pairwise_cons.2 ⟨fun y hy => h1 y (by simp [hy]), (List.pairwise_cons.1 h2).2⟩) f hf
    · rw [List.dropWhile_cons_of_neg c] at hf
      have hx : ltk e.f0 x.f0 = true := by
        rcases ahd_iff.1 (h1 x (by simp)) with hx | ⟨hx, _⟩
        · exact hx
        · exact absurd (sk_symm hx) c
      rcases List.mem_cons.1 hf with rfl | hf
      · exact hx
      · rcases ahd_iff.1 ((List.pairwise_cons.1 h2).1 f hf) with hy | ⟨hy, _⟩
        · exact ltk_trans hx hy
        · exact ltk_sk hx hy
theorem tw_imp {α : Type} {p : α → Bool} : ∀ {t : List α} {f : α}, f ∈ t.takeWhile p → p f = true
  | [], f, hf => by simp at hf
  | x :: t, f, hf => by
    by_cases c : p x = true
    · rw [List.takeWhile_cons_of_pos c] at hf
      rcases List.mem_cons.1 hf with rfl | hf
      · exact c
      · exact tw_imp hf
    · rw [List.takeWhile_cons_of_neg c] at hf
      cases hf
theorem tw_all {e : S35} {t : List S35} : ∀ f ∈ t.takeWhile (sameK e), sk e.f0 f.f0 = true := fun f hf => sk_symm (tw_imp (p := sameK e) hf)
theorem stays_out (now : Int) (e : S35) : ([e].filter (stays now)) = outP now e := by
  unfold outP stays ownP
  by_cases c1 : endedP e.f3 now = true
  · simp [c1]
  · by_cases c2 : e.f2 = true
    · simp [c1, c2]
    · simp [c1, c2]
theorem refLive_is (seq now : Int) : ∀ (n : Nat) (l : List S35) (q : Option (List Int)), l.length = n → (l.Pairwise fun e f => ahd e f = true) → (∀ f ∈ l, other q f.f0 = true) → (sn seq q l).filter (stays now) = liveP seq now l := by
  intro n
  induction n using Nat.strongRecOn with
  | _ n ih =>
    intro l q hn ho hq
    cases l with
    | nil => rw [liveP_nil]; rfl
    | cons e t =>
      have h3 := dw_lt e t (sameK e)
      have hsub := ho.sublist (dw_sub e t (sameK e))
      have hgt := dw_gt ho
      have hsplit : e :: t = (e :: t.takeWhile (sameK e)) ++ t.dropWhile (sameK e) := by rw [List.cons_append, List.takeWhile_append_dropWhile]
      have hg : ∀ f ∈ e :: t.takeWhile (sameK e), sk e.f0 f.f0 = true := fun f hf => by
        rcases List.mem_cons.1 hf with rfl | hf
        · exact sk_refl _
        · exact tw_all f hf
      rw [liveP_cons]
      conv => lhs; rw [hsplit]
      rw [sn_group seq q e.f0 _ _ (fun f hf => ⟨hg f hf, hq f (hsplit ▸ List.mem_append_left _ hf)⟩)]
      unfold pick
      cases hfind : (e :: t.takeWhile (sameK e)).find? (fun e => decide (e.f1 ≤ seq)) with
      | none =>
        simp only [List.nil_append]
        exact ih _ (by rw [← hn]; exact h3) _ q rfl hsub (fun f hf => hq f (hsplit ▸ List.mem_append_right _ hf))
      | some x =>
        have hx := List.mem_of_find?_eq_some hfind
        dsimp only
        rw [← stays_out, ← ih _ (by rw [← hn]; exact h3) _ (some x.f0) rfl hsub (fun f hf => by
          have h1 := hgt f hf
          have h2 : sk x.f0 f.f0 = false := ltk_not (sk_ltk (sk_symm (hg x hx)) h1)
          simp [other, h2]), ← List.filter_append]
        rfl
theorem refLive_ord (seq now : Int) {l : List S35} (ho : ordB l = true) : refLiveP seq now l = liveP seq now l := refLive_is seq now _ l none rfl (ordB_pair ho) (fun _ _ => rfl)
theorem liveP_len (seq now : Int) : ∀ (n : Nat) (l : List S35), l.length = n → (liveP seq now l).length ≤ n := by
  intro n
  induction n using Nat.strongRecOn with
  | _ n ih =>
    intro l hn
    cases l with
    | nil => rw [liveP_nil]; simp
    | cons e t =>
      have h3 := dw_lt e t (sameK e)
      have h1 := ih _ (by rw [← hn]; exact h3) (t.dropWhile (sameK e)) rfl
      have h2 := pick_len seq now (e :: t.takeWhile (sameK e))
      rw [liveP_cons, List.length_append]
      omega
theorem lives_j0 (l : List S35) (hl : l.length ≤ 1000) (seq now : Int) : Ev (fun k => halyardlaw18_SquashLives.j0 k l seq now) true := by
  obtain ⟨s, hs, hse⟩ := sorted_ev l hl
  have ho := pair_ordB hs.ord
  have hlen := hs.len
  have hsm : Sm 1000 s := ⟨by omega, hs.sm.2⟩
  have hlv := liveP_len seq now _ s rfl
  refine Ev.step (fun k => by rw [halyardlaw18_SquashLives.j0]) ?_
  refine Ev.bind hse ?_
  have h1 := live_ev s hsm seq now
  rw [if_pos ho] at h1
  refine Ev.bind h1 ?_
  refine Ev.congr (f := fun k => (halyardref9_Live.f k s seq now).bind fun t396 => ((halyardref2_SameEntries.f k (liveP seq now s) t396).bind fun t399 => (if t399 = true then ((halyardlaw18_awake.f k).bind fun t400 => (some t400)) else (some false)))) (fun k => by rw [if_pos rfl]) ?_
  refine Ev.bind (refLive_ev s (by omega) seq now) ?_
  rw [refLive_ord seq now ho]
  refine Ev.bind (same_ev _ (by omega)) ?_
  refine Ev.congr (f := fun k => (halyardlaw18_awake.f k).bind fun t400 => (some t400)) (fun k => by rw [if_pos rfl]) ?_
  exact Ev.bind awake_ev (Ev.now _)
theorem SquashLives (l : List S35) (seq now : Int) : ∃ k, halyardlaw18_SquashLives.f k l seq now = some true := by
  refine Ev.rounds ?_
  obtain ⟨b, hb, hsm⟩ := light_ev l
  unfold halyardlaw18_SquashLives.f
  refine Ev.bind hb ?_
  cases b with
  | false =>
    refine Ev.congr (f := fun k => (halyardlaw18_awake.f k).bind fun t379 => (some t379)) (fun k => by rw [if_neg (by simp)]) ?_
    exact Ev.bind awake_ev (Ev.now _)
  | true =>
    have hs := hsm rfl
    have hlen := hs.1
    have hsm : Sm 1000 l := ⟨by omega, hs.2⟩
    have hlv := liveP_len seq now _ l rfl
    refine Ev.congr (f := fun k => (squash_Live.f k l seq now).bind fun bt380 => ((halyardref9_Ordered.f k l).bind fun t384 => (if t384 = true then (if bt380.2 = 0 then ((halyardref9_Live.f k l seq now).bind fun t385 => ((halyardref2_SameEntries.f k bt380.1 t385).bind fun t388 => (if t388 = true then (halyardlaw18_SquashLives.j0 k l seq now) else (some false)))) else (some false)) else (if bt380.2 = 11 then (if (bt380.1.length : Int) > 0 then (some false) else (halyardlaw18_SquashLives.j0 k l seq now)) else (some false))))) (fun k => by rw [if_pos rfl]) ?_
    refine Ev.bind (live_ev l hsm seq now) ?_
    refine Ev.bind (refOrd_ev l (by omega)) ?_
    by_cases ho : ordB l = true
    · rw [if_pos ho, ho]
      refine Ev.congr (f := fun k => (halyardref9_Live.f k l seq now).bind fun t385 => ((halyardref2_SameEntries.f k (liveP seq now l) t385).bind fun t388 => (if t388 = true then (halyardlaw18_SquashLives.j0 k l seq now) else (some false)))) (fun k => by rw [if_pos rfl, if_pos rfl]) ?_
      refine Ev.bind (refLive_ev l (by omega) seq now) ?_
      rw [refLive_ord seq now ho]
      refine Ev.bind (same_ev _ (by omega)) ?_
      refine Ev.congr (f := fun k => halyardlaw18_SquashLives.j0 k l seq now) (fun k => by rw [if_pos rfl]) ?_
      exact lives_j0 l (by omega) seq now
    · rw [if_neg ho]
      refine Ev.congr (f := fun k => halyardlaw18_SquashLives.j0 k l seq now) (fun k => by rw [if_neg ho, if_pos rfl, if_neg (by simp)]) ?_
      exact lives_j0 l (by omega) seq now
end Go.Proofs.Ytnepbpcpfeejkaa.PureLives
