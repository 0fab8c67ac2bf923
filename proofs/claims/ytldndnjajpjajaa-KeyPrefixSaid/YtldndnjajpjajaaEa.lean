/-
  Plain facts on the functions of package key: the least bytes behind all that begin with others.
-/
import Derived.Test.YtldndnjajpjajaaE
import Derived.Test.YtldndnjajpjajaaKf15
import Derived.Test.YtldndnjajpjajaaKf16
namespace Go.Proofs.Ytldndnjajpjajaa.E
open Go.RowKit Go.Proofs.Ytldndnjajpjajaa.K Go.Proofs.YtldndnjajpjajaaW.PrintWords Go.Proofs.YtldndnjajpjajaaW.PrintLast Go.Proofs.YtldndnjajpjajaaW.PrintMore

/-- How many bytes are left when those of 255 at the end are cut off. -/
def sN (l : List Int) : Nat → Nat
  | 0 => 0
  | n + 1 => if rd l (n : Int) = 255 then sN l n else n + 1
/-- What comes of the first m bytes. -/
def res (l : List Int) : Nat → List Int × Bool
  | 0 => ([], false)
  | m + 1 => ((l.take (m + 1)).set m ((rd l (m : Int) + 1) % 256), true)
theorem rd_take {l : List Int} {m n : Nat} (h : m < n) : rd (l.take n) (m : Int) = rd l (m : Int) := by
  simp only [rd_nat, List.getD_eq_getElem?_getD, List.getElem?_take, if_pos h]
theorem key_After_loop (l : List Int) (hl : l.length < 140737488355328) : ∀ (n k : Nat), n ≤ l.length → n < k → key_After.l0 k l (n : Int) = some (res l (sN l n))
  | 0, k, hn, hk => by
    obtain ⟨k, rfl⟩ : ∃ m, k = m + 1 := ⟨k - 1, by omega⟩
    simp only [key_After.l0]
    rw [if_neg (by simp), if_pos (by simp)]
    rfl
  | n + 1, k, hn, hk => by
    obtain ⟨k, rfl⟩ : ∃ m, k = m + 1 := ⟨k - 1, by omega⟩
    simp only [key_After.l0]
    have hw : wrap64 (((n + 1 : Nat) : Int) - 1) = (n : Int) := by rw [wrap_in (by omega) (by omega)]; omega
    rw [hw, if_pos (by omega), if_pos (by omega), if_pos (by omega)]
    unfold sN
    by_cases h : rd l (n : Int) = 255
    · rw [if_pos h, if_pos h]
      exact key_After_loop l hl n k (by omega) (by omega)
    · rw [if_neg h, if_neg h, if_neg (by omega), if_pos (by omega), if_pos (by omega)]
      have ht : (l.take (n + 1)).length = n + 1 := by rw [List.length_take]; omega
      simp only [Option.bind_some, Int.toNat_natCast, List.nil_append]
      rw [if_pos (by simp only [List.length_nil]; omega), if_pos (by omega), rd_take (by omega)]
      rfl
theorem key_After_eval {l : List Int} (hl : l.length < 140737488355328) (k : Nat) (hk : l.length < k) : key_After.f k l = some (res l (sN l l.length)) := key_After_loop l hl l.length k (Nat.le_refl _) hk
theorem ref_After_loop (l : List Int) (hl : l.length < 140737488355328) : ∀ (n k : Nat), n ≤ l.length → n < k → halyardref2_After.l0 k (l.take n) = some (res l (sN l n))
  | 0, k, hn, hk => by
    obtain ⟨k, rfl⟩ : ∃ m, k = m + 1 := ⟨k - 1, by omega⟩
    simp only [halyardref2_After.l0]
    rw [if_neg (by simp), if_pos (by simp)]
    rfl
  | n + 1, k, hn, hk => by
    obtain ⟨k, rfl⟩ : ∃ m, k = m + 1 := ⟨k - 1, by omega⟩
    have ht : (l.take (n + 1)).length = n + 1 := by rw [List.length_take]; omega
    simp only [halyardref2_After.l0]
    have hw : wrap64 (((l.take (n + 1)).length : Int) - 1) = (n : Int) := by rw [wrap_in (by omega) (by omega)]; omega
    rw [hw, if_pos (by omega), if_pos (by omega), if_pos (by omega), rd_take (by omega)]
    unfold sN
    by_cases h : rd l (n : Int) = 255
    · rw [if_pos h, if_pos h, if_pos (by omega), Int.toNat_natCast, List.take_take, Nat.min_eq_left (by omega)]
      exact ref_After_loop l hl n k (by omega) (by omega)
    · rw [if_neg h, if_neg h, if_neg (by omega), Int.toNat_natCast]
      rfl
theorem ref_After_eval {l : List Int} (hl : l.length < 140737488355328) (k : Nat) (hk : l.length < k) : halyardref2_After.f k l = some (res l (sN l l.length)) := by
  unfold halyardref2_After.f
  rw [if_pos (by simp; omega)]
  have := ref_After_loop l hl l.length k (Nat.le_refl _) hk
  rw [List.take_length] at this
  exact this
/-- The same, from the front on. -/
def after : List Int → Option (List Int)
  | [] => none
  | x :: r => match after r with
    | some e => some (x :: e)
    | none => if x = 255 then none else some [x + 1]
theorem after_cons (x : Int) (r : List Int) : after (x :: r) = match after r with | some e => some (x :: e) | none => if x = 255 then none else some [x + 1] := rfl
theorem sN_cons (x : Int) (r : List Int) : ∀ n, sN (x :: r) (n + 1) = if sN r n = 0 then (if x = 255 then 0 else 1) else sN r n + 1
  | 0 => by
    have h0 : rd (x :: r) ((0 : Nat) : Int) = x := rfl
    simp only [sN, h0]
    simp
  | n + 1 => by
    have h : rd (x :: r) ((n + 1 : Nat) : Int) = rd r (n : Int) := by simp only [rd_nat, List.getD_cons_succ]
    rw [sN, h, sN_cons x r n]
    conv => rhs; rw [sN]
    by_cases h2 : rd r (n : Int) = 255
    · rw [if_pos h2, if_pos h2]
    · rw [if_neg h2, if_neg h2]
      simp
theorem res_after : ∀ {l : List Int}, By l → res l (sN l l.length) = (match after l with | none => ([], false) | some e => (e, true))
  | [], _ => rfl
  | x :: r, hb => by
    have ih := res_after hb.cons.2
    rw [List.length_cons, sN_cons]
    cases hs : sN r r.length with
    | zero =>
      rw [hs] at ih
      cases ha : after r with
      | some e => rw [ha] at ih; simp [res] at ih
      | none =>
        simp only [after, ha, if_true]
        by_cases h : x = 255
        · rw [if_pos h, if_pos h]; rfl
        · rw [if_neg h, if_neg h]
          have := hb.cons.1
          have h0 : rd (x :: r) ((0 : Nat) : Int) = x := rfl
          simp only [res, h0, List.take_succ_cons, List.take_zero, List.set_cons_zero]
          rw [show (x + 1) % 256 = x + 1 from by omega]
    | succ m =>
      rw [hs] at ih
      cases ha : after r with
      | none => rw [ha] at ih; simp [res] at ih
      | some e =>
        rw [ha] at ih
        have h : rd (x :: r) ((m + 1 : Nat) : Int) = rd r (m : Int) := by simp only [rd_nat, List.getD_cons_succ]
        simp only [res, Prod.mk.injEq, and_true] at ih
        simp only [after, ha, Nat.add_eq_zero_iff, Nat.succ_ne_zero, and_false, if_false, res, h, List.take_succ_cons, List.set_cons_succ]
        rw [← ih]
theorem By.after : ∀ {l e : List Int}, By l → after l = some e → By e
  | [], _, _, h => by simp [E.after] at h
  | x :: r, e, hb, h => by
    unfold E.after at h
    cases ha : E.after r with
    | some e' =>
      rw [ha] at h
      obtain rfl := Option.some.inj h
      exact By.mk hb.cons.1.1 hb.cons.1.2 (By.after hb.cons.2 ha)
    | none =>
      rw [ha] at h
      have := hb.cons.1
      by_cases h2 : x = 255
      · simp [h2] at h
      · simp only [h2, if_false, Option.some.injEq] at h
        subst h
        exact By.mk (by omega) (by omega) By.nil
theorem By.res {l : List Int} (hb : By l) : By (res l (sN l l.length)).1 := by
  rw [res_after hb]
  cases h : E.after l with
  | none => exact By.nil
  | some e => exact By.after hb h
/-- What begins with p, and nothing else, is from p on and ahead of 'after p'. -/
theorem prefix_iff : ∀ {p b : List Int}, By p → By b → ((b.take p.length = p) ↔ (0 ≤ cmpI b p ∧ ∀ e, after p = some e → cmpI b e < 0))
  | [], b, _, _ => by cases b <;> simp [cmpI, after]
  | x :: r, [], _, _ => by simp [cmpI]
  | x :: r, y :: c, hp, hb => by
    have ih := prefix_iff hp.cons.2 hb.cons.2
    have h1 := hp.cons.1
    have h2 := hb.cons.1
    simp only [List.length_cons, List.take_succ_cons, List.cons.injEq, cmpI]
    by_cases hlt : y < x
    · rw [if_pos hlt]
      exact ⟨fun h => by omega, fun h => by omega⟩
    · rw [if_neg hlt]
      by_cases hgt : x < y
      · rw [if_pos hgt]
        refine ⟨fun h => by omega, fun h => ?_⟩
        exfalso
        have h3 := h.2
        rw [after_cons] at h3
        cases ha : after r with
        | some e =>
          have := h3 (x :: e) (by rw [ha])
          simp only [cmpI, if_neg hlt, if_pos hgt] at this
          omega
        | none =>
          rw [ha] at h3
          by_cases h255 : x = 255
          · omega
          · have := h3 [x + 1] (by simp [h255])
            simp only [cmpI] at this
            rw [if_neg (by omega)] at this
            by_cases h4 : x + 1 < y
            · rw [if_pos h4] at this; omega
            · rw [if_neg h4] at this
              cases c <;> simp [cmpI] at this
      · rw [if_neg hgt]
        have he : y = x := by omega
        subst he
        rw [ih]
        simp only [true_and]
        refine and_congr_right fun _ => ?_
        rw [after_cons]
        cases ha : after r with
        | some e =>
          constructor
          · intro h e' he'
            obtain rfl := Option.some.inj he'
            simp only [cmpI, Int.lt_irrefl, if_false]
            exact h e rfl
          · intro h e' he'
            obtain rfl := Option.some.inj he'
            have := h (y :: e) rfl
            simpa only [cmpI, Int.lt_irrefl, if_false] using this
        | none =>
          constructor
          · intro _ e' he'
            by_cases h255 : y = 255
            · simp [h255] at he'
            · simp only [h255, if_false, Option.some.injEq] at he'
              subst he'
              simp only [cmpI]
              rw [if_pos (by omega)]
              decide
          · intro _ e' he'
            cases he'
end Go.Proofs.Ytldndnjajpjajaa.E
