/-
  Plain facts on the functions of package key: the order of rows of parts is that of their bytes.
-/
import Derived.Test.YtldndnjajpjajaaEb
import Derived.Test.YtldndnjajpjajaaKf3
namespace Go.Proofs.Ytldndnjajpjajaa.E
open Go.RowKit Go.Proofs.Ytldndnjajpjajaa.K Go.Proofs.YtldndnjajpjajaaW.PrintWords Go.Proofs.YtldndnjajpjajaaW.PrintLast Go.Proofs.YtldndnjajpjajaaW.PrintMore

/-- Rows of parts compared part by part. -/
def cmpR : List (List Int) → List (List Int) → Int
  | [], [] => 0
  | [], _ :: _ => -1
  | _ :: _, [] => 1
  | p :: a, q :: b => if cmpI p q ≠ 0 then cmpI p q else cmpR a b
theorem cmpI_range : ∀ a b : List Int, cmpI a b = -1 ∨ cmpI a b = 0 ∨ cmpI a b = 1
  | [], [] => by simp [cmpI]
  | [], _ :: _ => by simp [cmpI]
  | _ :: _, [] => by simp [cmpI]
  | x :: a, y :: b => by
    have := cmpI_range a b
    simp only [cmpI]
    split
    · simp
    · split
      · simp
      · exact this
theorem cmpR_range : ∀ a b : List (List Int), cmpR a b = -1 ∨ cmpR a b = 0 ∨ cmpR a b = 1
  | [], [] => by simp [cmpR]
  | [], _ :: _ => by simp [cmpR]
  | _ :: _, [] => by simp [cmpR]
  | p :: a, q :: b => by
    have := cmpR_range a b
    have := cmpI_range p q
    simp only [cmpR]
    split <;> assumption
theorem cmpI_anti : ∀ a b : List Int, cmpI b a = -cmpI a b
  | [], [] => by simp [cmpI]
  | [], _ :: _ => by simp [cmpI]
  | _ :: _, [] => by simp [cmpI]
  | x :: a, y :: b => by
    simp only [cmpI, cmpI_anti a b]
    by_cases h1 : x < y
    · rw [if_pos h1, if_neg (by omega), if_pos h1]; decide
    · rw [if_neg h1]
      by_cases h2 : y < x
      · rw [if_pos h2, if_neg h1, if_pos h2]
      · rw [if_neg h2, if_neg h2, if_neg h1]
theorem cmpI_same (x : Int) (a b : List Int) : cmpI (x :: a) (x :: b) = cmpI a b := by simp [cmpI]
theorem cmpI_less {x y : Int} (h : x < y) (a b : List Int) : cmpI (x :: a) (y :: b) = -1 := by simp [cmpI, h]
theorem cmpI_more {x y : Int} (h : y < x) (a b : List Int) : cmpI (x :: a) (y :: b) = 1 := by
  simp only [cmpI]
  rw [if_neg (by omega), if_pos h]
/-- One part each, whatever stands behind. -/
theorem part_order (s t : List Int) : ∀ {p q : List Int}, By p → By q → cmpI (enc p ++ 0 :: 1 :: s) (enc q ++ 0 :: 1 :: t) = if cmpI p q ≠ 0 then cmpI p q else cmpI s t
  | [], [], _, _ => by simp [enc, cmpI]
  | [], y :: q, _, hq => by
    have := hq.cons.1
    by_cases h : y = 0
    · subst h
      simp only [enc, if_true, List.nil_append, List.cons_append, cmpI_same, cmpI_less (show (1 : Int) < 255 by decide)]
      simp [cmpI]
    · simp only [enc, if_neg h, List.nil_append, List.cons_append, cmpI_less (show (0 : Int) < y by omega)]
      simp [cmpI]
  | x :: p, [], hp, _ => by
    have := hp.cons.1
    by_cases h : x = 0
    · subst h
      simp only [enc, if_true, List.nil_append, List.cons_append, cmpI_same, cmpI_more (show (1 : Int) < 255 by decide)]
      simp [cmpI]
    · simp only [enc, if_neg h, List.nil_append, List.cons_append, cmpI_more (show (0 : Int) < x by omega)]
      simp [cmpI]
  | x :: p, y :: q, hp, hq => by
    have h1 := hp.cons.1
    have h2 := hq.cons.1
    have ih := part_order s t hp.cons.2 hq.cons.2
    rcases Int.lt_trichotomy x y with h | h | h
    · rw [cmpI_less h]
      by_cases hx : x = 0
      · subst hx
        simp only [enc, if_true, if_neg (show ¬ y = 0 by omega), List.cons_append, cmpI_less h]
        simp
      · simp only [enc, if_neg hx, if_neg (show ¬ y = 0 by omega), List.cons_append, cmpI_less h]
        simp
    · subst h
      rw [cmpI_same]
      by_cases hx : x = 0
      · subst hx
        simp only [enc, if_true, List.cons_append, cmpI_same]
        exact ih
      · simp only [enc, if_neg hx, List.cons_append, cmpI_same]
        exact ih
    · rw [cmpI_more h]
      by_cases hy : y = 0
      · subst hy
        simp only [enc, if_true, if_neg (show ¬ x = 0 by omega), List.cons_append, cmpI_more h]
        simp
      · simp only [enc, if_neg hy, if_neg (show ¬ x = 0 by omega), List.cons_append, cmpI_more h]
        simp
/-- A row's bytes. -/
def rowB : List (List Int) → List Int
  | [] => []
  | p :: a => enc p ++ 0 :: 1 :: rowB a
def Bys (a : List (List Int)) : Prop := ∀ p ∈ a, By p
theorem Bys.cons {p : List Int} {a : List (List Int)} (h : Bys (p :: a)) : By p ∧ Bys a := ⟨h p (by simp), fun q hq => h q (by simp [hq])⟩
theorem By.rowB : ∀ {a : List (List Int)}, Bys a → By (rowB a)
  | [], _ => By.nil
  | p :: a, h => (By.enc h.cons.1).append (By.mk (by omega) (by omega) (By.mk (by omega) (by omega) (By.rowB h.cons.2)))
theorem rows_order : ∀ {a b : List (List Int)}, Bys a → Bys b → cmpI (rowB a) (rowB b) = cmpR a b
  | [], [], _, _ => rfl
  | [], q :: b, _, _ => by
    simp only [rowB, cmpR]
    cases enc q <;> simp [cmpI]
  | p :: a, [], _, _ => by
    simp only [rowB, cmpR]
    cases enc p <;> simp [cmpI]
  | p :: a, q :: b, ha, hb => by
    simp only [rowB, cmpR]
    rw [part_order _ _ ha.cons.1 hb.cons.1, rows_order ha.cons.2 hb.cons.2]
theorem val_less : ∀ {x y : List Int} {v v' : Int}, By x → By y → x.length = y.length → v < v' → val x v < val y v'
  | [], [], v, v', _, _, _, h => h
  | a :: x, b :: y, v, v', hx, hy, hl, h => by
    have h1 := hx.cons.1
    have h2 := hy.cons.1
    simp only [val]
    exact val_less hx.cons.2 hy.cons.2 (by simpa using hl) (by omega)
  | [], _ :: _, _, _, _, _, hl, _ => by simp at hl
  | _ :: _, [], _, _, _, _, hl, _ => by simp at hl
theorem val_order : ∀ {x y : List Int} {v : Int}, By x → By y → x.length = y.length → cmpI x y = if val x v < val y v then -1 else if val y v < val x v then 1 else 0
  | [], [], v, _, _, _ => by simp [cmpI, val]
  | a :: x, b :: y, v, hx, hy, hl => by
    have hl' : x.length = y.length := by simpa using hl
    rcases Int.lt_trichotomy a b with h | h | h
    · have e : val (a :: x) v < val (b :: y) v := (by have := val_less (v := v * 256 + a) (v' := v * 256 + b) hx.cons.2 hy.cons.2 hl' (by omega); exact this)
      rw [cmpI_less h, if_pos e]
    · subst h
      rw [cmpI_same]
      exact val_order (v := v * 256 + a) hx.cons.2 hy.cons.2 hl'
    · have e : val (b :: y) v < val (a :: x) v := (by have := val_less (v := v * 256 + b) (v' := v * 256 + a) hy.cons.2 hx.cons.2 hl'.symm (by omega); exact this)
      rw [cmpI_more h, if_neg (by omega), if_pos e]
  | [], _ :: _, _, _, _, hl => by simp at hl
  | _ :: _, [], _, _, _, hl => by simp at hl
theorem num8_order {m n : Int} (h0 : -9223372036854775808 ≤ m) (h1 : m < 9223372036854775808) (h2 : -9223372036854775808 ≤ n) (h3 : n < 9223372036854775808) :
    cmpI (num8 (lift m)) (num8 (lift n)) = if m < n then -1 else if n < m then 1 else 0 := by
  rw [val_order (v := 0) (By.num8 (lift m)) (By.num8 (lift n)) rfl, val_num8 (by unfold lift; omega) (by unfold lift; omega), val_num8 (by unfold lift; omega) (by unfold lift; omega)]
  unfold lift
  by_cases h : m < n
  · rw [if_pos h, if_pos (by omega)]
  · rw [if_neg h, if_neg (by omega)]
    by_cases h4 : n < m
    · rw [if_pos h4, if_pos (by omega)]
    · rw [if_neg h4, if_neg (by omega)]
theorem rowB_append : ∀ a b : List (List Int), rowB (a ++ b) = rowB a ++ rowB b
  | [], _ => rfl
  | p :: a, b => by simp [rowB, rowB_append a b]
end Go.Proofs.Ytldndnjajpjajaa.E
