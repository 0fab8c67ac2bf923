/-
  The reference's keep, in plain lists: what the program's own key keeps.
-/
import Derived.Test.YtnepbpcpfeejkaaEm
import Derived.Test.YtnepbpcpfeejkaaKf24
namespace Go.Proofs.Ytnepbpcpfeejkaa.E
open Go.RowKit Go.Proofs.Ytnepbpcpfeejkaa.K Go.Proofs.YtnepbpcpfeejkaaW.PrintWords Go.Proofs.YtnepbpcpfeejkaaW.PrintLast
theorem keepRow_own (e : S35) (now : Int) : keepRow e now = ownP now e := by
  unfold keepRow ownP endedP
  by_cases h1 : e.f3 = 0
  · simp [h1]
  · by_cases h2 : e.f3 ≤ now
    · simp [h1, h2]
    · simp [h1, h2]
theorem keepSeen_any (l : List S35) (pins : List Int) (i : Int) : ∀ n, n ≤ pins.length → keepSeen l pins i n = ((i == 0) || seenAt (rd_T35 l (i - 1)).f1 (rd_T35 l i).f1 (pins.take n))
  | 0, _ => by simp [keepSeen, seenAt]
  | n + 1, h => by
    have ih := keepSeen_any l pins i n (by omega)
    have hn : n < pins.length := h
    have e : rd pins (n : Int) = pins[n] := by simp [rd, hn]
    simp only [keepSeen, ih, e, seenAt, List.take_succ_eq_append_getElem hn, List.any_append, List.any_cons, List.any_nil, Bool.or_false, Bool.or_assoc]
theorem keepSeen_behind (l : List S35) (pins : List Int) (i : Nat) : keepSeen l pins (i : Int) pins.length = behind (prevOf l i) (rd_T35 l (i : Int)).f1 pins := by
  rw [keepSeen_any l pins i pins.length (Nat.le_refl _), List.take_length]
  unfold prevOf
  by_cases h : i = 0
  · subst h; simp [behind]
  · have h1 : ((i : Int) == 0) = false := beq_eq_false_iff_ne.mpr (by omega)
    have h2 : (i : Int) - 1 = ((i - 1 : Nat) : Int) := by omega
    rw [h1, h2, if_neg h]
    simp [behind]
theorem keepTo_kp (l : List S35) (pins : List Int) (now : Int) : ∀ n, n ≤ l.length → keepTo l pins now n ++ kp pins now (prevOf l n) (l.drop n) = kp pins now none l
  | 0, _ => by simp [keepTo, prevOf]
  | n + 1, h => by
    have ih := keepTo_kp l pins now n (by omega)
    have hn : n < l.length := h
    rw [← ih, List.drop_eq_getElem_cons hn]
    have e : rd_T35 l (n : Int) = l[n] := rd_at hn
    have hp : prevOf l (n + 1) = some l[n].f1 := by simp [prevOf, e]
    simp only [keepTo, kp, keepSeen_behind, keepRow_own, e, hp]
    split <;> simp
theorem keepTo_all (l : List S35) (pins : List Int) (now : Int) : keepTo l pins now l.length = kp pins now none l := by
  have h := keepTo_kp l pins now l.length (Nat.le_refl _)
  rw [List.drop_length] at h
  simpa [kp] using h
theorem keepCut_trim (b : Bool) (o : List S35) : ∀ n, n ≤ o.length → o.take (keepCut b o n) = trimB b (o.take n)
  | 0, _ => by cases b <;> simp [keepCut, trimB, trimG]
  | n + 1, h => by
    have ih := keepCut_trim b o n (by omega)
    have hn : n < o.length := h
    have e : rd_T35 o (n : Int) = o[n] := rd_at hn
    cases b with
    | false => simp [keepCut, trimB]
    | true =>
      have h2 := trimG_snoc (o.take n) o[n]
      rw [← List.take_succ_eq_append_getElem hn] at h2
      simp only [keepCut, trimB, if_true, true_and, e] at ih ⊢
      rw [h2]
      split
      · exact ih
      · rfl
/-- The reference's keep is the program's key. -/
theorem keep24_key (l : List S35) (pins : List Int) (now : Int) (b : Bool) (h : l.length ≤ 1954687338268) : halyardref9_keep.f l pins now b = some (keyP pins now b l) := by
  unfold halyardref9_keep.f keyP
  rw [if_pos h, keepTo_all, keepCut_trim b _ _ (Nat.le_refl _), List.take_length]
theorem tw_split {α : Type} (p : α → Bool) : ∀ (t : List α) (n : Nat), n ≤ t.length → (∀ m (h : m < t.length), m < n → p t[m] = true) → (∀ (h : n < t.length), p t[n] = false) → t.takeWhile p = t.take n ∧ t.dropWhile p = t.drop n
  | [], n, hn, _, _ => by simp
  | x :: t, 0, _, _, h => by
    have h1 : p x = false := h (by simp)
    simp [h1]
  | x :: t, n + 1, hn, ha, h => by
    have h1 : p x = true := ha 0 (by simp) (by omega)
    obtain ⟨e1, e2⟩ := tw_split p t n (by simpa using hn) (fun m hm hlt => ha (m + 1) (by simpa using hm) (by omega)) (fun hm => h (by simpa using hm))
    simp [h1, e1, e2]
/-- The group of the i-th: the next ones of its key, up to the j-th. -/
theorem keepP_group (pins : List Int) (now : Int) (b : Bool) (l : List S35) (i j : Nat) (hij : i < j) (hj : j ≤ l.length) (hs : ∀ n : Nat, i ≤ n → n < j → sk (rd_T35 l (n : Int)).f0 (rd_T35 l (i : Int)).f0 = true)
    (he : j < l.length → sk (rd_T35 l (j : Int)).f0 (rd_T35 l (i : Int)).f0 = false) : keepP pins now b (l.drop i) = keyP pins now b ((l.take j).drop i) ++ keepP pins now b (l.drop j) := by
  have hi : i < l.length := by omega
  have e0 : l.drop i = l[i] :: l.drop (i + 1) := List.drop_eq_getElem_cons hi
  have ei : rd_T35 l (i : Int) = l[i] := rd_at hi
  obtain ⟨e1, e2⟩ := tw_split (sameK l[i]) (l.drop (i + 1)) (j - (i + 1)) (by simp; omega)
    (fun m hm hlt => by
      have h1 := hs (i + 1 + m) (by omega) (by omega)
      rw [rd_at (by omega), ei] at h1
      simpa [sameK] using h1)
    (fun hm => by
      have hjl : j < l.length := by simp at hm; omega
      have h1 := he hjl
      rw [rd_at hjl, ei] at h1
      have e : i + 1 + (j - (i + 1)) = j := by omega
      simpa [sameK, e] using h1)
  have e3 : (l.take j).drop i = l[i] :: (l.drop (i + 1)).take (j - (i + 1)) := by
    rw [List.drop_take, e0, show j - i = (j - (i + 1)) + 1 by omega, List.take_succ_cons]
  have e4 : (l.drop (i + 1)).drop (j - (i + 1)) = l.drop j := by rw [List.drop_drop]; congr 1; omega
  rw [e0, keepP_cons, e1, e2, e3, e4]
end Go.Proofs.Ytnepbpcpfeejkaa.E
