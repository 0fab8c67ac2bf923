/-
  Plain facts on rows of entries: one key's entries; what is kept of them; Keep and Live as plain functions.
-/
import Derived.Test.YtnepbpcpfeejkaaE
import Derived.Test.YtnepbpcpfeejkaaKf18
set_option linter.unusedSimpArgs false
set_option linter.unusedVariables false
namespace Go.Proofs.Ytnepbpcpfeejkaa.E
open Go.RowKit Go.Proofs.Ytnepbpcpfeejkaa.K Go.Proofs.YtnepbpcpfeejkaaW.PrintWords Go.Proofs.YtnepbpcpfeejkaaW.PrintLast

/-- Rows that are small enough. -/
def Sm (n : Nat) (l : List S35) : Prop := l.length ≤ n ∧ ∀ e ∈ l, e.f0.length ≤ 600 ∧ e.f4.length ≤ 2100
def sameK (e f : S35) : Bool := sk f.f0 e.f0
theorem take_tw {α : Type} (p : α → Bool) : ∀ l : List α, l.take (l.takeWhile p).length = l.takeWhile p
  | [] => rfl
  | x :: l => by
    by_cases h : p x = true
    · simp [h, take_tw p l]
    · simp [h]
theorem drop_tw {α : Type} (p : α → Bool) : ∀ l : List α, l.drop (l.takeWhile p).length = l.dropWhile p
  | [] => rfl
  | x :: l => by
    by_cases h : p x = true
    · simp [h, drop_tw p l]
    · simp [h]
theorem tw_len {α : Type} (p : α → Bool) (l : List α) : (l.takeWhile p).length + (l.dropWhile p).length = l.length := by
  rw [← List.length_append, List.takeWhile_append_dropWhile]
theorem one_l0 (e : S35) (t : List S35) (hl : (e :: t).length < 4611686018427387904) : ∀ (d i k : Nat), i + d = (e :: t).length → 1 ≤ i → d < k → squash_one.l0 k (e :: t) (i : Int) = some (((i + (((e :: t).drop i).takeWhile (sameK e)).length : Nat) : Int))
  | 0, i, k, hi, h1, hk => by
    obtain ⟨k, rfl⟩ : ∃ m, k = m + 1 := ⟨k - 1, by omega⟩
    simp only [squash_one.l0]
    rw [if_neg (by omega), List.drop_of_length_le (by omega)]
    rfl
  | d + 1, i, k, hi, h1, hk => by
    obtain ⟨k, rfl⟩ : ∃ m, k = m + 1 := ⟨k - 1, by omega⟩
    simp only [squash_one.l0]
    rw [if_pos (by omega), if_pos (by omega), if_pos (by omega), wrap_up i (by omega), one_l0 e t hl d (i + 1) k (by omega) (by omega) (by omega)]
    simp only [bytes_Equal.f, Option.bind_some]
    rw [drop_at (by omega : i < (e :: t).length)]
    have h0 : rd_T35 (e :: t) 0 = e := rfl
    rw [h0]
    generalize rd_T35 (e :: t) (i : Int) = f
    generalize (e :: t).drop (i + 1) = r
    have hs : (st f.f0 == st e.f0) = sameK e f := rfl
    rw [hs]
    by_cases h : sameK e f = true
    · rw [if_pos h, List.takeWhile_cons_of_pos h]
      congr 1
      simp
      omega
    · rw [if_neg h, List.takeWhile_cons_of_neg h]
      simp
theorem one_ev (e : S35) (t : List S35) (hl : (e :: t).length < 4611686018427387904) : Ev (fun k => squash_one.f k (e :: t)) ((1 + (t.takeWhile (sameK e)).length : Nat) : Int) := by
  refine ⟨t.length + 1, fun k hk => ?_⟩
  unfold squash_one.f
  exact one_l0 e t hl t.length 1 k (by simp; omega) (by omega) (by omega)
/-- Is an entry seen, behind one with the number q? -/
def seenAt (q s : Int) (pins : List Int) : Bool := pins.any fun p => decide (s ≤ p) && decide (p < q)
theorem seen_l0 (l : List S35) (i : Nat) (h1 : 1 ≤ i) (hi : i < l.length) (hl : l.length < 4611686018427387904) (pins : List Int) (hp : pins.length < 4611686018427387904) : ∀ (d j k : Nat), j + d = pins.length → d < k →
    squash_seen.l0 k l (i : Int) pins (pins.length : Int) (j : Int) = some (seenAt (rd_T35 l ((i - 1 : Nat) : Int)).f1 (rd_T35 l (i : Int)).f1 (pins.drop j))
  | 0, j, k, hj, hk => by
    obtain ⟨k, rfl⟩ : ∃ m, k = m + 1 := ⟨k - 1, by omega⟩
    simp only [squash_seen.l0]
    rw [if_neg (by omega), List.drop_of_length_le (by omega)]
    rfl
  | d + 1, j, k, hj, hk => by
    obtain ⟨k, rfl⟩ : ∃ m, k = m + 1 := ⟨k - 1, by omega⟩
    simp only [squash_seen.l0]
    rw [if_pos (by omega), if_pos (by omega), if_pos (by omega), if_pos (by omega), if_pos (by omega), wrap_up j (by omega), seen_l0 l i h1 hi hl pins hp d (j + 1) k (by omega) (by omega), wrap_dn i h1 (by omega), rdI_at (by omega : j < pins.length)]
    generalize pins.drop (j + 1) = r
    generalize rd pins (j : Int) = p
    simp only [seenAt, List.any_cons]
    rw [if_pos (show (0 : Int) ≤ ((i - 1 : Nat) : Int) by omega), if_pos (show ((i - 1 : Nat) : Int) < (l.length : Int) by omega)]
    generalize (rd_T35 l ((i - 1 : Nat) : Int)).f1 = q
    generalize (rd_T35 l (i : Int)).f1 = s
    by_cases c1 : s ≤ p
    · rw [if_pos c1]
      by_cases c2 : p < q
      · rw [if_pos c2]; simp [c1, c2]
      · rw [if_neg c2]; simp [c1, c2]
    · rw [if_neg c1]; simp [c1]
/-- An entry in memory of its own; one that has ended is gone. -/
def endedP (u now : Int) : Bool := decide (u ≠ 0) && decide (u ≤ now)
def ownP (now : Int) (e : S35) : S35 := if endedP e.f3 now = true then ⟨e.f0, e.f1, true, 0, []⟩ else e
theorem own_eval (e : S35) (now : Int) (h : e.f0.length ≤ 600 ∧ e.f4.length ≤ 2100) : squash_own.f e.f0 e.f1 e.f2 e.f3 e.f4 now = some ((ownP now e).f0, (ownP now e).f1, (ownP now e).f2, (ownP now e).f3, (ownP now e).f4) := by
  unfold squash_own.f
  rw [if_pos (by simp; omega)]
  simp only [List.nil_append, Option.bind_some]
  rw [if_pos (by simp; omega)]
  unfold squash_ended.f ownP endedP
  by_cases c1 : e.f3 = 0
  · simp [c1]
  · by_cases c2 : e.f3 ≤ now
    · simp [c1, c2]
    · simp [c1, c2]
def behind (q : Option Int) (s : Int) (pins : List Int) : Bool := match q with | none => true | some q => seenAt q s pins
/-- What of one key's entries is seen. -/
def kp (pins : List Int) (now : Int) : Option Int → List S35 → List S35
  | _, [] => []
  | q, e :: t => if behind q e.f1 pins = true then ownP now e :: kp pins now (some e.f1) t else kp pins now (some e.f1) t
theorem kp_len (pins : List Int) (now : Int) : ∀ (q : Option Int) (l : List S35), (kp pins now q l).length ≤ l.length
  | _, [] => Nat.le_refl _
  | q, e :: t => by
    have := kp_len pins now (some e.f1) t
    simp only [kp]
    split <;> simp <;> omega
/-- Without the last ones that are gone. -/
def trimG (l : List S35) : List S35 := (l.reverse.dropWhile (·.f2)).reverse
def trimB (bottom : Bool) (l : List S35) : List S35 := if bottom = true then trimG l else l
theorem trimG_snoc (l : List S35) (e : S35) : trimG (l ++ [e]) = if e.f2 = true then trimG l else l ++ [e] := by
  unfold trimG
  rw [List.reverse_append]
  simp only [List.reverse_cons, List.reverse_nil, List.nil_append, List.singleton_append]
  by_cases h : e.f2 = true
  · simp [h]
  · simp [h]
theorem trim_l1 (b : Bool) : ∀ (d k : Nat) (l : List S35), l.length = d → l.length < 4611686018427387904 → d < k → squash_key.l1 k b l = some (trimB b l)
  | 0, k, l, hd, hl, hk => by
    obtain ⟨k, rfl⟩ : ∃ m, k = m + 1 := ⟨k - 1, by omega⟩
    obtain rfl : l = [] := List.eq_nil_of_length_eq_zero hd
    simp only [squash_key.l1, trimB, trimG]
    cases b <;> simp
  | d + 1, k, l, hd, hl, hk => by
    obtain ⟨k, rfl⟩ : ∃ m, k = m + 1 := ⟨k - 1, by omega⟩
    simp only [squash_key.l1]
    cases b with
    | false => simp [trimB]
    | true =>
      have hne : l ≠ [] := by intro h; rw [h] at hd; simp at hd
      have hlast : rd_T35 l ((l.length - 1 : Nat) : Int) = l.getLast hne := by rw [rd_at (by omega : l.length - 1 < l.length), List.getLast_eq_getElem]
      rw [if_pos rfl, if_pos (by omega), wrap_dn l.length (by omega) hl, if_pos (by omega), if_pos (by omega), hlast]
      have hsp : l = l.take (l.length - 1) ++ [l.getLast hne] := by
        rw [← List.dropLast_eq_take]; exact (List.dropLast_concat_getLast hne).symm
      have htn : (((l.length - 1 : Nat) : Int)).toNat = l.length - 1 := Int.toNat_natCast _
      rw [htn]
      have e1 : trimB true l = if (l.getLast hne).f2 = true then trimG (l.take (l.length - 1)) else l := by
        have h2 := trimG_snoc (l.take (l.length - 1)) (l.getLast hne)
        rw [← hsp] at h2
        unfold trimB
        rw [if_pos rfl, h2]
      rw [e1]
      by_cases h : (l.getLast hne).f2 = true
      · rw [if_pos h, if_pos h, if_pos (by omega), trim_l1 true d k (l.take (l.length - 1)) (by rw [List.length_take]; omega) (by rw [List.length_take]; omega) (by omega)]
        rfl
      · rw [if_neg h, if_neg h]
def keyP (pins : List Int) (now : Int) (bottom : Bool) (l : List S35) : List S35 := trimB bottom (kp pins now none l)
def prevOf (l : List S35) (i : Nat) : Option Int := if i = 0 then none else some (rd_T35 l ((i - 1 : Nat) : Int)).f1
theorem key_l0 (l : List S35) (hs : Sm 1000 l) (pins : List Int) (hp : pins.length ≤ 1000) (now : Int) (b : Bool) : ∀ (d i k : Nat) (acc : List S35), i + d = l.length → acc.length + d ≤ 1000 → 2100 + d < k →
    squash_key.l0 k l pins now b acc l (l.length : Int) (i : Int) = some (trimB b (acc ++ kp pins now (prevOf l i) (l.drop i)))
  | 0, i, k, acc, hi, ha, hk => by
    obtain ⟨k, rfl⟩ : ∃ m, k = m + 1 := ⟨k - 1, by omega⟩
    simp only [squash_key.l0]
    rw [if_neg (by omega), List.drop_of_length_le (by omega), trim_l1 b acc.length k acc rfl (by omega) (by omega)]
    simp [kp]
  | d + 1, i, k, acc, hi, ha, hk => by
    obtain ⟨k, rfl⟩ : ∃ m, k = m + 1 := ⟨k - 1, by omega⟩
    have hl := hs.1
    simp only [squash_key.l0]
    have hseen : squash_seen.f k l (i : Int) pins = some (behind (prevOf l i) (rd_T35 l (i : Int)).f1 pins) := by
      unfold squash_seen.f prevOf
      by_cases h0 : i = 0
      · subst h0; simp [behind]
      · rw [if_neg (by omega), if_neg h0]
        exact seen_l0 l i (by omega) (by omega) (by omega) pins (by omega) pins.length 0 k (by omega) (by omega)
    have hpr : prevOf l (i + 1) = some (rd_T35 l (i : Int)).f1 := by simp [prevOf]
    rw [if_pos (by omega), if_pos (by omega), if_pos (by omega), hseen, wrap_up i (by omega), own_eval _ _ (hs.2 _ (rd_mem (by omega)))]
    simp only [Option.bind_some]
    rw [if_pos (show acc.length < 1954687338268 by omega), drop_at (by omega : i < l.length)]
    simp only [kp]
    rw [key_l0 l hs pins hp now b d (i + 1) k (acc ++ [_]) (by omega) (by simp; omega) (by omega), key_l0 l hs pins hp now b d (i + 1) k acc (by omega) (by omega) (by omega), hpr]
    by_cases h : behind (prevOf l i) (rd_T35 l (i : Int)).f1 pins = true
    · rw [if_pos h, if_pos h, eta]; simp
    · rw [if_neg h, if_neg h]
theorem key_ev (l : List S35) (hs : Sm 1000 l) (pins : List Int) (hp : pins.length ≤ 1000) (now : Int) (b : Bool) : Ev (fun k => squash_key.f k l pins now b) (keyP pins now b l) := by
  refine ⟨2101 + l.length, fun k hk => ?_⟩
  unfold squash_key.f
  have := hs.1
  exact key_l0 l hs pins hp now b l.length 0 k [] (by omega) (by simp; omega) (by omega)
theorem keyP_len (pins : List Int) (now : Int) (b : Bool) (l : List S35) : (keyP pins now b l).length ≤ l.length := by
  have h1 := kp_len pins now none l
  unfold keyP trimB
  split
  · unfold trimG
    rw [List.length_reverse]
    have h2 := tw_len (fun e : S35 => e.f2) (kp pins now none l).reverse
    rw [List.length_reverse] at h2
    omega
  · exact h1
theorem Sm.sub {n : Nat} {l l' : List S35} (h : Sm n l) (hs : l'.Sublist l) : Sm n l' := ⟨Nat.le_trans hs.length_le h.1, fun e he => h.2 e (hs.mem he)⟩
theorem tw_sub (e : S35) (t : List S35) (p : S35 → Bool) : (e :: t.takeWhile p).Sublist (e :: t) := (List.takeWhile_sublist p).cons_cons e
theorem dw_sub (e : S35) (t : List S35) (p : S35 → Bool) : (t.dropWhile p).Sublist (e :: t) := (List.dropWhile_sublist p).trans (List.sublist_cons_self e t)
theorem dw_lt (e : S35) (t : List S35) (p : S35 → Bool) : (t.dropWhile p).length < (e :: t).length := by
  have := (List.dropWhile_sublist p (l := t)).length_le
  simp
  omega
/-- What of a row is kept. -/
def keepP (pins : List Int) (now : Int) (b : Bool) : List S35 → List S35
  | [] => []
  | e :: t => keyP pins now b (e :: t.takeWhile (sameK e)) ++ keepP pins now b (t.dropWhile (sameK e))
termination_by l => l.length
decreasing_by exact dw_lt e t _
theorem keepP_cons (pins : List Int) (now : Int) (b : Bool) (e : S35) (t : List S35) : keepP pins now b (e :: t) = keyP pins now b (e :: t.takeWhile (sameK e)) ++ keepP pins now b (t.dropWhile (sameK e)) := by rw [keepP]
theorem keepP_nil (pins : List Int) (now : Int) (b : Bool) : keepP pins now b [] = [] := by rw [keepP]
theorem keep_l0 (pins : List Int) (hp : pins.length ≤ 1000) (now : Int) (b : Bool) : ∀ (n : Nat) (l acc : List S35), l.length = n → Sm 1000 l → acc.length + l.length ≤ 1000 → Ev (fun k => squash_Keep.l0 k l pins now b acc) (acc ++ keepP pins now b l, 0) := by
  intro n
  induction n using Nat.strongRecOn with
  | _ n ih =>
    intro l acc hn hs ha
    cases l with
    | nil =>
      refine Ev.step (f := fun _ => some (acc, 0)) (fun k => by simp [squash_Keep.l0]) ?_
      rw [keepP_nil, List.append_nil]
      exact Ev.now _
    | cons e t =>
      have hl := hs.1
      have h1 := tw_len (sameK e) t
      have h2 := keyP_len pins now b (e :: t.takeWhile (sameK e))
      have h3 := dw_lt e t (sameK e)
      refine Ev.step (f := fun k => (squash_one.f k (e :: t)).bind fun t144 => (if 0 ≤ t144 then (if t144 ≤ ((e :: t).length : Int) then ((squash_key.f k ((e :: t).take (t144 : Int).toNat) pins now b).bind fun t150 => (if acc.length + t150.length < 1954687338268 then (squash_Keep.l0 k ((e :: t).drop (t144 : Int).toNat) pins now b (acc ++ t150)) else (none))) else (none)) else (none))) (fun k => by rw [squash_Keep.l0, if_pos (by simp)]) ?_
      refine Ev.bind (one_ev e t (by omega)) ?_
      have e1 : (((1 + (t.takeWhile (sameK e)).length : Nat) : Int)).toNat = (t.takeWhile (sameK e)).length + 1 := by omega
      refine Ev.congr (f := fun k => (squash_key.f k (e :: t.takeWhile (sameK e)) pins now b).bind fun t150 => (if acc.length + t150.length < 1954687338268 then (squash_Keep.l0 k (t.dropWhile (sameK e)) pins now b (acc ++ t150)) else (none))) (fun k => by
        rw [if_pos (by omega), if_pos (by simp; omega), e1, List.take_succ_cons, List.drop_succ_cons, take_tw, drop_tw]) ?_
      refine Ev.bind (key_ev _ (hs.sub (tw_sub e t _)) pins hp now b) ?_
      simp only [List.length_cons] at h2 h3 ha hl
      refine Ev.congr (f := fun k => squash_Keep.l0 k (t.dropWhile (sameK e)) pins now b (acc ++ keyP pins now b (e :: t.takeWhile (sameK e)))) (fun k => by rw [if_pos (by omega)]) ?_
      rw [keepP_cons, ← List.append_assoc]
      exact ih _ (by rw [← hn]; simp; omega) _ _ rfl (hs.sub (dw_sub e t _)) (by rw [List.length_append]; omega)
theorem keep_ev (l : List S35) (hs : Sm 1000 l) (pins : List Int) (hp : pins.length ≤ 1000) (now : Int) (b : Bool) : Ev (fun k => squash_Keep.f k l pins now b) (if ordB l = true then (keepP pins now b l, 0) else ([], 11)) := by
  have hl := hs.1
  unfold squash_Keep.f
  refine Ev.bind (ordered_ev l (by omega)) ?_
  by_cases h : ordB l = true
  · rw [if_pos h]
    refine Ev.congr (f := fun k => squash_Keep.l0 k l pins now b []) (fun k => by rw [if_pos h]) ?_
    exact keep_l0 pins hp now b _ l [] rfl hs (by simpa using hl)
  · rw [if_neg h]
    exact Ev.congr (f := fun k => some ([], 11)) (fun k => by rw [if_neg h]) (Ev.now _)
end Go.Proofs.Ytnepbpcpfeejkaa.E
