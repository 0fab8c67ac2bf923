/-
  Without pins, at the bottom, what is kept is just what lives; not at the bottom as many entries as there are keys: for rows that are light (of others the statement says no more than the package's own example).
-/
import Derived.Test.YtnepbpcpfeejkaaEm
import Derived.Test.YtnepbpcpfeejkaaKf8
set_option linter.unusedSimpArgs false
set_option linter.unusedVariables false
namespace Go.Proofs.Ytnepbpcpfeejkaa.PureBottom
open Go.RowKit Go.Proofs.Ytnepbpcpfeejkaa.K Go.Proofs.Ytnepbpcpfeejkaa.E Go.Proofs.YtnepbpcpfeejkaaW.PrintWords Go.Proofs.YtnepbpcpfeejkaaW.PrintLast

theorem kp_none (now q : Int) : ∀ l : List S35, kp [] now (some q) l = []
  | [] => rfl
  | e :: t => by simp [kp, behind, seenAt, kp_none now e.f1 t]
theorem key_none (now : Int) (b : Bool) (e : S35) (t : List S35) : keyP [] now b (e :: t) = trimB b [ownP now e] := by simp [keyP, kp, behind, kp_none]
theorem trim_one (now : Int) (e : S35) : trimB true [ownP now e] = outP now e := by
  have h := trimG_snoc [] (ownP now e)
  have e1 : trimB true [ownP now e] = trimG ([] ++ [ownP now e]) := rfl
  rw [e1, h]
  rfl
theorem bottom_lives (now p : Int) : ∀ (n : Nat) (l : List S35), l.length = n → (∀ f ∈ l, f.f1 ≤ p) → keepP [] now true l = liveP p now l := by
  intro n
  induction n using Nat.strongRecOn with
  | _ n ih =>
    intro l hn hp
    cases l with
    | nil => rw [keepP_nil, liveP_nil]
    | cons e t =>
      rw [keepP_cons, liveP_cons, key_none, trim_one, ih _ (by rw [← hn]; exact dw_lt e t _) _ rfl (fun f hf => hp f ((dw_sub e t _).mem hf))]
      have c := hp e (by simp)
      simp [pick, c]
def other (q : Option (List Int)) (k : List Int) : Bool := match q with | none => true | some q => !sk q k
/-- How many keys there are. -/
def cnt : Option (List Int) → List S35 → Nat
  | _, [] => 0
  | q, e :: t => (if other q e.f0 = true then 1 else 0) + cnt (some e.f0) t
theorem cnt_class {a b : List Int} (h : sk a b = true) : ∀ l : List S35, cnt (some a) l = cnt (some b) l
  | [] => rfl
  | e :: t => by
    have : sk a e.f0 = sk b e.f0 := by
      rw [Bool.eq_iff_iff]
      exact ⟨fun k => sk_trans (sk_symm h) k, fun k => sk_trans h k⟩
    simp [cnt, other, this]
theorem cnt_skip (κ : List Int) (rest : List S35) : ∀ g : List S35, (∀ f ∈ g, sk κ f.f0 = true) → cnt (some κ) (g ++ rest) = cnt (some κ) rest
  | [], _ => rfl
  | f :: g, h => by
    have h1 := h f (by simp)
    simp only [List.cons_append, cnt, other, h1]
    rw [cnt_class (sk_symm h1), cnt_skip κ rest g (fun x hx => h x (by simp [hx]))]
    simp
theorem dw_head {e : S35} : ∀ {t : List S35} {h : S35}, (t.dropWhile (sameK e)).head? = some h → sk e.f0 h.f0 = false
  | [], h, hh => by simp at hh
  | x :: t, h, hh => by
    by_cases c : sameK e x = true
    · rw [List.dropWhile_cons_of_pos c] at hh
      exact dw_head hh
    · rw [List.dropWhile_cons_of_neg c] at hh
      simp only [List.head?_cons, Option.some.injEq] at hh
      subst hh
      cases hk : sk e.f0 x.f0 with
      | false => rfl
      | true => exact absurd (sk_symm hk) c
theorem keys_cnt (now : Int) : ∀ (n : Nat) (l : List S35) (q : Option (List Int)), l.length = n → (∀ h, l.head? = some h → other q h.f0 = true) → (keepP [] now false l).length = cnt q l := by
  intro n
  induction n using Nat.strongRecOn with
  | _ n ih =>
    intro l q hn hq
    cases l with
    | nil => rw [keepP_nil]; rfl
    | cons e t =>
      have hq' := hq e rfl
      rw [keepP_cons, key_none, List.length_append, ih _ (by rw [← hn]; exact dw_lt e t _) _ (some e.f0) rfl (fun h hh => by simp [other, dw_head hh])]
      have e1 : (trimB false [ownP now e]).length = 1 := rfl
      rw [e1]
      simp only [cnt, hq', if_true]
      congr 1
      conv => rhs; rw [← List.takeWhile_append_dropWhile (p := sameK e) (l := t)]
      rw [cnt_skip _ _ _ (fun f hf => tw_all f hf)]
def prevK (s : List S35) (i : Nat) : Option (List Int) := if i = 0 then none else some (rd_T35 s ((i - 1 : Nat) : Int)).f0
theorem bottom_l0 (s a b : List S35) (hs : s.length ≤ 1000) (ha : a.length ≤ 1000) : ∀ (d i c : Nat), i + d = s.length → c + d ≤ 1000 → b.length = c + cnt (prevK s i) (s.drop i) →
    Ev (fun k => halyardlaw18_SquashBottom.l0 k s a 0 b 0 a 0 (c : Int) (s.length : Int) (i : Int)) true
  | 0, i, c, hi, hc, hb => by
    have hd : s.drop i = [] := List.drop_of_length_le (by omega)
    rw [hd] at hb
    have hb' : b.length = c := by simpa [cnt] using hb
    refine Ev.step (f := fun k => (halyardref2_SameEntries.f k a a).bind fun t454 => (if t454 = true then (if (b.length : Int) = (c : Int) then ((halyardlaw18_awake.f k).bind fun t455 => (some t455)) else (some false)) else (some false))) (fun k => by
      simp only [halyardlaw18_SquashBottom.l0]
      rw [if_neg (by omega)]
      simp only [if_true]) ?_
    refine Ev.bind (same_ev a (by omega)) ?_
    refine Ev.congr (f := fun k => (halyardlaw18_awake.f k).bind fun t455 => (some t455)) (fun k => by rw [if_pos rfl, if_pos (by omega)]) ?_
    exact Ev.bind awake_ev (Ev.now _)
  | d + 1, i, c, hi, hc, hb => by
    rw [drop_at (by omega : i < s.length)] at hb
    simp only [cnt] at hb
    have hpk : prevK s (i + 1) = some (rd_T35 s (i : Int)).f0 := by simp [prevK]
    by_cases h0 : i = 0
    · subst h0
      have ih := bottom_l0 s a b hs ha d 1 (c + 1) (by omega) (by omega) (by
        rw [hpk]
        have h1 : other (prevK s 0) (rd_T35 s ((0 : Nat) : Int)).f0 = true := rfl
        rw [h1, if_pos rfl, Nat.zero_add] at hb
        omega)
      refine Ev.step (f := fun k => halyardlaw18_SquashBottom.l0 k s a 0 b 0 a 0 ((c + 1 : Nat) : Int) (s.length : Int) ((1 : Nat) : Int)) (fun k => by
        simp only [halyardlaw18_SquashBottom.l0]
        rw [if_pos (by omega), if_pos (by omega), wrap_up c (by omega), wrap_up 0 (by omega)]) ?_
      exact ih
    · have hpi : prevK s i = some (rd_T35 s ((i - 1 : Nat) : Int)).f0 := by simp [prevK, h0]
      rw [hpi] at hb
      by_cases hk : sk (rd_T35 s ((i - 1 : Nat) : Int)).f0 (rd_T35 s (i : Int)).f0 = true
      · have ih := bottom_l0 s a b hs ha d (i + 1) c (by omega) (by omega) (by
          rw [hpk]
          have h1 : other (some (rd_T35 s ((i - 1 : Nat) : Int)).f0) (rd_T35 s (i : Int)).f0 = false := by simp [other, hk]
          rw [h1, if_neg (by simp)] at hb
          omega)
        refine Ev.step (f := fun k => halyardlaw18_SquashBottom.l0 k s a 0 b 0 a 0 (c : Int) (s.length : Int) ((i + 1 : Nat) : Int)) (fun k => by
          simp only [halyardlaw18_SquashBottom.l0]
          rw [if_pos (by omega), if_neg (by omega), wrap_dn i (by omega) (by omega), if_pos (by omega), if_pos (by omega), if_pos (by omega), if_pos (by omega), if_pos (sk_iff.1 hk), wrap_up i (by omega)]) ?_
        exact ih
      · have ih := bottom_l0 s a b hs ha d (i + 1) (c + 1) (by omega) (by omega) (by
          rw [hpk]
          have h1 : other (some (rd_T35 s ((i - 1 : Nat) : Int)).f0) (rd_T35 s (i : Int)).f0 = true := by simp [other, hk]
          rw [h1, if_pos rfl] at hb
          omega)
        refine Ev.step (f := fun k => halyardlaw18_SquashBottom.l0 k s a 0 b 0 a 0 ((c + 1 : Nat) : Int) (s.length : Int) ((i + 1 : Nat) : Int)) (fun k => by
          simp only [halyardlaw18_SquashBottom.l0]
          rw [if_pos (by omega), if_neg (by omega), wrap_dn i (by omega) (by omega), if_pos (by omega), if_pos (by omega), if_pos (by omega), if_pos (by omega), if_neg (fun h => hk (sk_iff.2 h)), wrap_up i (by omega), wrap_up c (by omega)]) ?_
        exact ih
theorem SquashBottom (l : List S35) (now : Int) : ∃ k, halyardlaw18_SquashBottom.f k l now = some true := by
  refine Ev.rounds ?_
  obtain ⟨b, hb, hsm⟩ := light_ev l
  unfold halyardlaw18_SquashBottom.f
  refine Ev.bind hb ?_
  cases b with
  | false =>
    refine Ev.congr (f := fun k => (halyardlaw18_awake.f k).bind fun t379 => (some t379)) (fun k => by rw [if_neg (by simp)]) ?_
    exact Ev.bind awake_ev (Ev.now _)
  | true =>
    have hl := (hsm rfl).1
    obtain ⟨s, hs, hse⟩ := sorted_ev l (by omega)
    have ho := pair_ordB hs.ord
    have hlen := hs.len
    have hsm : Sm 1000 s := ⟨by omega, hs.sm.2⟩
    have k1 := keep_ev s hsm [] (by simp) now true
    have k2 := keep_ev s hsm [] (by simp) now false
    have k3 := live_ev s hsm 4611686018427387904 now
    rw [if_pos ho] at k1 k2 k3
    have hbl := bottom_lives now 4611686018427387904 _ s rfl (fun f hf => (hs.may f hf).2.1)
    refine Ev.congr (f := fun k => (halyardlaw18_sorted.f k l).bind fun t437 => ((squash_Keep.f k t437 ([] : List Int) now true).bind fun bt440 => ((squash_Keep.f k t437 ([] : List Int) now false).bind fun bt444 => ((squash_Live.f k t437 4611686018427387904 now).bind fun bt448 => (halyardlaw18_SquashBottom.l0 k t437 bt440.1 bt440.2 bt444.1 bt444.2 bt448.1 bt448.2 0 (t437.length : Int) 0))))) (fun k => by rw [if_pos rfl]) ?_
    refine Ev.bind hse ?_
    refine Ev.bind k1 ?_
    refine Ev.bind k2 ?_
    refine Ev.bind k3 ?_
    rw [← hbl]
    have hkl := keep_len (pins := []) (now := now) (b := true) (l := s)
    have hc := keys_cnt now _ s none rfl (fun _ _ => rfl)
    exact bottom_l0 s _ _ (by omega) (by show (keepP [] now true s).length ≤ 1000; omega) s.length 0 0 (by omega) (by omega) (by rw [hc]; simp [prevK])
end Go.Proofs.Ytnepbpcpfeejkaa.PureBottom
