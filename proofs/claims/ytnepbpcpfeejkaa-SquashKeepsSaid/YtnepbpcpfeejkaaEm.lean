/-
  Plain facts on rows of entries: what is kept is a part of what there was, key by key; kept once more nothing changes; what lives in it lived before.
-/
import Derived.Test.YtnepbpcpfeejkaaEl
set_option linter.unusedSimpArgs false
set_option linter.unusedVariables false
namespace Go.Proofs.Ytnepbpcpfeejkaa.E
open Go.RowKit Go.Proofs.Ytnepbpcpfeejkaa.K Go.Proofs.YtnepbpcpfeejkaaW.PrintWords Go.Proofs.YtnepbpcpfeejkaaW.PrintLast

theorem tw_imp {α : Type} {p : α → Bool} : ∀ {t : List α} {f : α}, f ∈ t.takeWhile p → p f = true
  | [], f, hf => by simp at hf
  | x :: t, f, hf => by
    by_cases c : p x = true
    · rw [List.takeWhile_cons_of_pos c] at hf
      rcases List.mem_cons.1 hf with rfl | hf
      · exact c
      · exact tw_imp hf
    · rw [List.takeWhile_cons_of_neg c] at hf
      cases hf
theorem tw_all {e : S35} {t : List S35} : ∀ f ∈ t.takeWhile (sameK e), sk e.f0 f.f0 = true := fun f hf => sk_symm (tw_imp (p := sameK e) hf)
theorem grp_all (e : S35) (t : List S35) : ∀ f ∈ e :: t.takeWhile (sameK e), sk e.f0 f.f0 = true := fun f hf => by
  rcases List.mem_cons.1 hf with rfl | hf
  · exact sk_refl _
  · exact tw_all f hf
theorem dw_gt {e : S35} : ∀ {t : List S35}, ((e :: t).Pairwise fun e f => ahd e f = true) → ∀ f ∈ t.dropWhile (sameK e), ltk e.f0 f.f0 = true
  | [], _, f, hf => by simp at hf
  | x :: t, h, f, hf => by
    obtain ⟨h1, h2⟩ := List.pairwise_cons.1 h
    by_cases c : sameK e x = true
    · rw [List.dropWhile_cons_of_pos c] at hf
      exact dw_gt (List.pairwise_cons.2 ⟨fun y hy => h1 y (by simp [hy]), (List.pairwise_cons.1 h2).2⟩) f hf
    · rw [List.dropWhile_cons_of_neg c] at hf
      have hx : ltk e.f0 x.f0 = true := by
        rcases ahd_iff.1 (h1 x (by simp)) with hx | ⟨hx, _⟩
        · exact hx
        · exact absurd (sk_symm hx) c
      rcases List.mem_cons.1 hf with rfl | hf
      · exact hx
      · rcases ahd_iff.1 ((List.pairwise_cons.1 h2).1 f hf) with hy | ⟨hy, _⟩
        · exact ltk_trans hx hy
        · exact ltk_sk hx hy
theorem split_at (e : S35) (t : List S35) : e :: t = (e :: t.takeWhile (sameK e)) ++ t.dropWhile (sameK e) := by rw [List.cons_append, List.takeWhile_append_dropWhile]
theorem own_f0 (now : Int) (e : S35) : (ownP now e).f0 = e.f0 := by unfold ownP; split <;> rfl
theorem own_f1 (now : Int) (e : S35) : (ownP now e).f1 = e.f1 := by unfold ownP; split <;> rfl
theorem own_own (now : Int) (e : S35) : ownP now (ownP now e) = ownP now e := by
  unfold ownP
  by_cases h : endedP e.f3 now = true
  · rw [if_pos h]; simp [endedP]
  · rw [if_neg h, if_neg h]
theorem out_own (now : Int) (e : S35) : outP now (ownP now e) = outP now e := by unfold outP; rw [own_own]
theorem own_gone {now : Int} {e : S35} (h : e.f2 = true) : (ownP now e).f2 = true := by unfold ownP; split <;> simp [h]
/-! What is kept is a part of what there was. -/
theorem kp_sub (pins : List Int) (now : Int) : ∀ (q : Option Int) (l : List S35), (kp pins now q l).Sublist (l.map (ownP now))
  | _, [] => .slnil
  | q, e :: t => by
    simp only [kp, List.map_cons]
    split
    · exact (kp_sub pins now (some e.f1) t).cons_cons _
    · exact (kp_sub pins now (some e.f1) t).cons _
theorem trimG_sub (l : List S35) : (trimG l).Sublist l := by
  unfold trimG
  have h := (List.dropWhile_sublist (fun e : S35 => e.f2) (l := l.reverse)).reverse
  rwa [List.reverse_reverse] at h
theorem trimB_sub (b : Bool) (l : List S35) : (trimB b l).Sublist l := by
  unfold trimB
  split
  · exact trimG_sub l
  · exact List.Sublist.refl _
theorem keyP_sub (pins : List Int) (now : Int) (b : Bool) (l : List S35) : (keyP pins now b l).Sublist (l.map (ownP now)) := (trimB_sub b _).trans (kp_sub pins now none l)
theorem keepP_sub (pins : List Int) (now : Int) (b : Bool) : ∀ (n : Nat) (l : List S35), l.length = n → (keepP pins now b l).Sublist (l.map (ownP now)) := by
  intro n
  induction n using Nat.strongRecOn with
  | _ n ih =>
    intro l hn
    cases l with
    | nil => rw [keepP_nil]; exact List.Sublist.refl _
    | cons e t =>
      rw [keepP_cons]
      conv => rhs; rw [split_at e t, List.map_append]
      exact (keyP_sub pins now b _).append (ih _ (by rw [← hn]; exact dw_lt e t _) _ rfl)
theorem keep_mem {pins : List Int} {now : Int} {b : Bool} {l : List S35} {f : S35} (h : f ∈ keepP pins now b l) : ∃ e ∈ l, f = ownP now e := by
  have := (keepP_sub pins now b _ l rfl).mem h
  obtain ⟨e, he, rfl⟩ := List.mem_map.1 this
  exact ⟨e, he, rfl⟩
theorem ahd_own (now : Int) (e f : S35) : ahd (ownP now e) (ownP now f) = ahd e f := by simp [ahd, own_f0, own_f1]
theorem keep_ord {pins : List Int} {now : Int} {b : Bool} {l : List S35} (h : l.Pairwise fun e f => ahd e f = true) : (keepP pins now b l).Pairwise fun e f => ahd e f = true := by
  refine List.Pairwise.sublist (keepP_sub pins now b _ l rfl) ?_
  rw [List.pairwise_map]
  exact h.imp fun {a c} hac => by rw [ahd_own]; exact hac
theorem keep_len {pins : List Int} {now : Int} {b : Bool} {l : List S35} : (keepP pins now b l).length ≤ l.length := by
  have := (keepP_sub pins now b _ l rfl).length_le
  rwa [List.length_map] at this
theorem own_small {now : Int} {e : S35} (h : e.f0.length ≤ 600 ∧ e.f4.length ≤ 2100) : (ownP now e).f0.length ≤ 600 ∧ (ownP now e).f4.length ≤ 2100 := by
  unfold ownP
  split
  · exact ⟨h.1, by simp⟩
  · exact h
theorem keep_sm {n : Nat} {pins : List Int} {now : Int} {b : Bool} {l : List S35} (h : Sm n l) : Sm n (keepP pins now b l) := ⟨Nat.le_trans keep_len h.1, fun f hf => by
  obtain ⟨e, he, rfl⟩ := keep_mem hf
  exact own_small (h.2 e he)⟩
/-! Two rows of different keys, one behind the other. -/
theorem tw_append {p : S35 → Bool} {y : List S35} (hy : ∀ f ∈ y, p f = false) : ∀ t : List S35, (t ++ y).takeWhile p = t.takeWhile p ∧ (t ++ y).dropWhile p = t.dropWhile p ++ y
  | [] => by
    cases y with
    | nil => exact ⟨rfl, rfl⟩
    | cons f y =>
      have := hy f (by simp)
      simp [this]
  | x :: t => by
    have ih := tw_append hy t
    by_cases c : p x = true
    · simp only [List.cons_append, List.takeWhile_cons_of_pos c, List.dropWhile_cons_of_pos c]
      exact ⟨by rw [ih.1], ih.2⟩
    · simp only [List.cons_append, List.takeWhile_cons_of_neg c, List.dropWhile_cons_of_neg c]
      exact ⟨trivial, trivial⟩
theorem keepP_append (pins : List Int) (now : Int) (b : Bool) : ∀ (n : Nat) (x y : List S35), x.length = n → (∀ e ∈ x, ∀ f ∈ y, sk e.f0 f.f0 = false) → keepP pins now b (x ++ y) = keepP pins now b x ++ keepP pins now b y := by
  intro n
  induction n using Nat.strongRecOn with
  | _ n ih =>
    intro x y hn hxy
    cases x with
    | nil => rw [keepP_nil]; rfl
    | cons e t =>
      have h1 := tw_append (p := sameK e) (y := y) (fun f hf => by unfold sameK; rw [sk_comm]; exact hxy e (by simp) f hf) t
      rw [List.cons_append, keepP_cons, keepP_cons, h1.1, h1.2, List.append_assoc]
      rw [ih _ (by rw [← hn]; exact dw_lt e t _) _ _ rfl (fun g hg f hf => hxy g ((dw_sub e t _).mem hg) f hf)]
theorem tw_whole {p : S35 → Bool} : ∀ {t : List S35}, (∀ f ∈ t, p f = true) → t.takeWhile p = t
  | [], _ => rfl
  | x :: t, h => by rw [List.takeWhile_cons_of_pos (h x (by simp)), tw_whole (fun f hf => h f (by simp [hf]))]
/-- One key's entries ahead of others. -/
theorem grp_split {A B : List S35} {κ : List Int} (hA : ∀ f ∈ A, sk κ f.f0 = true) (hB : ∀ f ∈ B, sk κ f.f0 = false) : ∀ e t, A = e :: t → (t ++ B).takeWhile (sameK e) = t ∧ (t ++ B).dropWhile (sameK e) = B := by
  intro e t h
  subst h
  have he := hA e (by simp)
  have h1 := tw_append (p := sameK e) (y := B) (fun f hf => by
    cases hc : sk f.f0 e.f0 with
    | false => exact hc
    | true => have := sk_trans he (sk_symm hc); rw [hB f hf] at this; cases this) t
  have h2 : ∀ f ∈ t, sameK e f = true := fun f hf => sk_trans (sk_symm (hA f (by simp [hf]))) he
  have h3 := tw_whole h2
  have h4 : t.dropWhile (sameK e) = [] := by
    have := tw_len (sameK e) t
    rw [h3] at this
    exact List.eq_nil_of_length_eq_zero (by omega)
  rw [h1.1, h1.2, h3, h4]
  exact ⟨rfl, rfl⟩
theorem keepP_grp {pins : List Int} {now : Int} {b : Bool} {A B : List S35} {κ : List Int} (hA : ∀ f ∈ A, sk κ f.f0 = true) (hB : ∀ f ∈ B, sk κ f.f0 = false) : keepP pins now b (A ++ B) = keyP pins now b A ++ keepP pins now b B := by
  cases A with
  | nil => cases b <;> simp [keyP, kp, trimB, trimG]
  | cons e t =>
    obtain ⟨h1, h2⟩ := grp_split hA hB e t rfl
    rw [List.cons_append, keepP_cons, h1, h2]
theorem liveP_grp {seq now : Int} {A B : List S35} {κ : List Int} (hA : ∀ f ∈ A, sk κ f.f0 = true) (hB : ∀ f ∈ B, sk κ f.f0 = false) : liveP seq now (A ++ B) = pick seq now A ++ liveP seq now B := by
  cases A with
  | nil => simp [pick]
  | cons e t =>
    obtain ⟨h1, h2⟩ := grp_split hA hB e t rfl
    rw [List.cons_append, liveP_cons, h1, h2]
theorem key_keys {pins : List Int} {now : Int} {b : Bool} {g : List S35} {κ : List Int} (hg : ∀ f ∈ g, sk κ f.f0 = true) : ∀ f ∈ keyP pins now b g, sk κ f.f0 = true := fun f hf => by
  obtain ⟨e, he, rfl⟩ := List.mem_map.1 ((keyP_sub pins now b g).mem hf)
  rw [own_f0]; exact hg e he
theorem keep_keys {pins : List Int} {now : Int} {b : Bool} {l : List S35} {κ : List Int} (hl : ∀ f ∈ l, sk κ f.f0 = false) : ∀ f ∈ keepP pins now b l, sk κ f.f0 = false := fun f hf => by
  obtain ⟨e, he, rfl⟩ := keep_mem hf
  rw [own_f0]; exact hl e he
/-! What lives. -/
theorem pick_snoc (seq now : Int) (l : List S35) (e : S35) (h : e.f2 = true) : pick seq now (l ++ [e]) = pick seq now l := by
  unfold pick
  rw [List.find?_append]
  cases hf : l.find? (fun e => decide (e.f1 ≤ seq)) with
  | some x => rfl
  | none =>
    by_cases c : e.f1 ≤ seq
    · simp [c, outP, own_gone h]
    · simp [c]
theorem pick_trim (seq now : Int) : ∀ (n : Nat) (l : List S35), l.length = n → pick seq now (trimG l) = pick seq now l
  | 0, l, hn => by
    obtain rfl : l = [] := List.eq_nil_of_length_eq_zero hn
    rfl
  | n + 1, l, hn => by
    have hne : l ≠ [] := by intro h; rw [h] at hn; simp at hn
    have hs := (List.dropLast_concat_getLast hne).symm
    have hd : l.dropLast.length = n := by rw [List.length_dropLast]; omega
    generalize l.dropLast = t at hs hd
    generalize l.getLast hne = e at hs
    subst hs
    rw [trimG_snoc]
    by_cases c : e.f2 = true
    · rw [if_pos c, pick_snoc _ _ _ _ c, pick_trim seq now n t hd]
    · rw [if_neg c]
theorem pick_trimB (seq now : Int) (b : Bool) (l : List S35) : pick seq now (trimB b l) = pick seq now l := by
  unfold trimB
  split
  · exact pick_trim seq now _ l rfl
  · rfl
theorem pick_kp {pins : List Int} {now p : Int} (hp : p ∈ pins) : ∀ (q : Option Int) (g : List S35), (q = none ∨ ∃ v, q = some v ∧ p < v) → pick p now (kp pins now q g) = pick p now g
  | _, [], _ => rfl
  | q, e :: t, hq => by
    simp only [kp]
    by_cases c : e.f1 ≤ p
    · have hb : behind q e.f1 pins = true := by
        rcases hq with rfl | ⟨v, rfl, hv⟩
        · rfl
        · simp only [behind, seenAt, List.any_eq_true]
          exact ⟨p, hp, by simp [c, hv]⟩
      rw [if_pos hb]
      simp [pick, own_f1, c, out_own]
    · have ih := pick_kp (now := now) hp (some e.f1) t (.inr ⟨_, rfl, by omega⟩)
      have h2 : pick p now (e :: t) = pick p now t := by simp [pick, c]
      rw [h2, ← ih]
      split
      · simp [pick, own_f1, c]
      · rfl
theorem pick_top {pins : List Int} {now p : Int} {g : List S35} (hp : ∀ f ∈ g, f.f1 ≤ p) : pick p now (kp pins now none g) = pick p now g := by
  cases g with
  | nil => rfl
  | cons e t =>
    have c := hp e (by simp)
    simp [kp, behind, pick, own_f1, c, out_own]
theorem pick_key {pins : List Int} {now p : Int} {b : Bool} {g : List S35} (hp : p ∈ pins ∨ ∀ f ∈ g, f.f1 ≤ p) : pick p now (keyP pins now b g) = pick p now g := by
  unfold keyP
  rw [pick_trimB]
  rcases hp with hp | hp
  · exact pick_kp hp none g (.inl rfl)
  · exact pick_top hp
theorem live_keep {pins : List Int} {now p : Int} {b : Bool} : ∀ (n : Nat) (l : List S35), l.length = n → (l.Pairwise fun e f => ahd e f = true) → (p ∈ pins ∨ ∀ f ∈ l, f.f1 ≤ p) → liveP p now (keepP pins now b l) = liveP p now l := by
  intro n
  induction n using Nat.strongRecOn with
  | _ n ih =>
    intro l hn ho hp
    cases l with
    | nil => rw [keepP_nil]
    | cons e t =>
      have hgt := dw_gt ho
      have hsub := dw_sub e t (sameK e)
      have ha := grp_all e t
      rw [keepP_cons, liveP_grp (key_keys ha) (keep_keys (fun f hf => ltk_not (hgt f hf))), liveP_cons,
        pick_key (hp.imp id fun h f hf => h f ((tw_sub e t _).mem hf)),
        ih _ (by rw [← hn]; exact dw_lt e t _) _ rfl (ho.sublist hsub) (hp.imp id fun h f hf => h f (hsub.mem hf))]
/-! Kept once more. -/
theorem kp_again {pins : List Int} {now : Int} : ∀ (g : List S35) (q r : Option Int), (q = none ∧ r = none ∨ ∃ v u, q = some v ∧ r = some u ∧ v ≤ u ∧ ∀ f ∈ g, f.f1 ≤ v) → (g.Pairwise fun e f => f.f1 < e.f1) → kp pins now r (kp pins now q g) = kp pins now q g
  | [], _, _, _, _ => rfl
  | e :: t, q, r, hq, hd => by
    obtain ⟨h1, h2⟩ := List.pairwise_cons.1 hd
    have hself := kp_again (pins := pins) (now := now) t (some e.f1) (some e.f1) (.inr ⟨_, _, rfl, rfl, Int.le_refl _, fun f hf => by have := h1 f hf; omega⟩) h2
    simp only [kp]
    by_cases hb : behind q e.f1 pins = true
    · rw [if_pos hb]
      have hr : behind r (ownP now e).f1 pins = true := by
        rw [own_f1]
        rcases hq with ⟨rfl, rfl⟩ | ⟨v, u, rfl, rfl, hvu, _⟩
        · rfl
        · simp only [behind, seenAt, List.any_eq_true] at hb ⊢
          obtain ⟨p, hp, hp2⟩ := hb
          refine ⟨p, hp, ?_⟩
          simp at hp2 ⊢
          omega
      simp only [kp]
      rw [if_pos hr, own_own, own_f1, hself]
    · rw [if_neg hb]
      rcases hq with ⟨rfl, rfl⟩ | ⟨v, u, rfl, rfl, hvu, hall⟩
      · exact absurd rfl hb
      · exact kp_again t (some e.f1) (some u) (.inr ⟨_, _, rfl, rfl, by have := hall e (by simp); omega, fun f hf => by have := h1 f hf; omega⟩) h2
theorem kp_append (pins : List Int) (now : Int) : ∀ (A B : List S35) (q : Option Int), ∃ r, kp pins now q (A ++ B) = kp pins now q A ++ kp pins now r B
  | [], B, q => ⟨q, rfl⟩
  | e :: t, B, q => by
    obtain ⟨r, hr⟩ := kp_append pins now t B (some e.f1)
    refine ⟨r, ?_⟩
    simp only [List.cons_append, kp]
    split <;> simp [hr]
theorem kp_front {pins : List Int} {now : Int} {A B : List S35} {q : Option Int} (h : kp pins now q (A ++ B) = A ++ B) : kp pins now q A = A := by
  obtain ⟨r, hr⟩ := kp_append pins now A B q
  have l1 := kp_len pins now q A
  have l2 := kp_len pins now r B
  have hl := congrArg List.length h
  rw [hr] at h hl
  simp only [List.length_append] at hl
  exact (List.append_inj h (by omega)).1
theorem trimG_front : ∀ (n : Nat) (l : List S35), l.length = n → ∃ B, trimG l ++ B = l
  | 0, l, hn => ⟨[], by obtain rfl : l = [] := List.eq_nil_of_length_eq_zero hn; rfl⟩
  | n + 1, l, hn => by
    have hne : l ≠ [] := by intro h; rw [h] at hn; simp at hn
    have hs := (List.dropLast_concat_getLast hne).symm
    have hd : l.dropLast.length = n := by rw [List.length_dropLast]; omega
    generalize l.dropLast = t at hs hd
    generalize l.getLast hne = e at hs
    subst hs
    rw [trimG_snoc]
    by_cases c : e.f2 = true
    · obtain ⟨B, hB⟩ := trimG_front n t hd
      rw [if_pos c]
      exact ⟨B ++ [e], by rw [← List.append_assoc, hB]⟩
    · rw [if_neg c]
      exact ⟨[], List.append_nil _⟩
theorem trimG_trim : ∀ (n : Nat) (l : List S35), l.length = n → trimG (trimG l) = trimG l
  | 0, l, hn => by obtain rfl : l = [] := List.eq_nil_of_length_eq_zero hn; rfl
  | n + 1, l, hn => by
    have hne : l ≠ [] := by intro h; rw [h] at hn; simp at hn
    have hs := (List.dropLast_concat_getLast hne).symm
    have hd : l.dropLast.length = n := by rw [List.length_dropLast]; omega
    generalize l.dropLast = t at hs hd
    generalize l.getLast hne = e at hs
    subst hs
    rw [trimG_snoc]
    by_cases c : e.f2 = true
    · rw [if_pos c]; exact trimG_trim n t hd
    · rw [if_neg c, trimG_snoc, if_neg c]
theorem key_again {pins : List Int} {now : Int} {b : Bool} {g : List S35} (hd : g.Pairwise fun e f => f.f1 < e.f1) : keyP pins now b (keyP pins now b g) = keyP pins now b g := by
  have h1 := kp_again (pins := pins) (now := now) g none none (.inl ⟨rfl, rfl⟩) hd
  unfold keyP
  generalize kp pins now none g = l at h1
  cases b with
  | false => simp only [trimB]; simpa using h1
  | true =>
    have e1 : trimB true l = trimG l := rfl
    obtain ⟨B, hB⟩ := trimG_front _ l rfl
    rw [e1]
    have h2 : kp pins now none (trimG l) = trimG l := kp_front (B := B) (by rw [hB]; exact h1)
    rw [h2]
    exact trimG_trim _ l rfl
theorem grp_dec {e : S35} {t : List S35} (ho : (e :: t).Pairwise fun e f => ahd e f = true) : (e :: t.takeWhile (sameK e)).Pairwise fun e f => f.f1 < e.f1 := by
  have h1 := ho.sublist (tw_sub e t (sameK e))
  have ha := grp_all e t
  refine List.Pairwise.imp_of_mem (fun {a c} hma hmc hac => ?_) h1
  rcases ahd_iff.1 hac with h | ⟨_, h⟩
  · have := ltk_not h
    rw [sk_trans (sk_symm (ha a hma)) (ha c hmc)] at this
    cases this
  · exact h
theorem keep_again {pins : List Int} {now : Int} {b : Bool} : ∀ (n : Nat) (l : List S35), l.length = n → (l.Pairwise fun e f => ahd e f = true) → keepP pins now b (keepP pins now b l) = keepP pins now b l := by
  intro n
  induction n using Nat.strongRecOn with
  | _ n ih =>
    intro l hn ho
    cases l with
    | nil => rw [keepP_nil, keepP_nil]
    | cons e t =>
      have hgt := dw_gt ho
      have ha := grp_all e t
      rw [keepP_cons, keepP_grp (key_keys ha) (keep_keys (fun f hf => ltk_not (hgt f hf))), key_again (grp_dec ho), ih _ (by rw [← hn]; exact dw_lt e t _) _ rfl (ho.sublist (dw_sub e t _))]
end Go.Proofs.Ytnepbpcpfeejkaa.E
