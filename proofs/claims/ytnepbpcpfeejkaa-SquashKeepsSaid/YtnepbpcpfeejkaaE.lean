/-
  Plain facts on rows of entries: their order; what is kept, key by key.
-/
import Derived.Test.YtnepbpcpfeejkaaKf11
import Derived.Test.YtnepbpcpfeejkaaKf12
import Derived.Test.YtnepbpcpfeejkaaKf13
import Derived.Test.YtnepbpcpfeejkaaKf15
set_option linter.unusedSimpArgs false
set_option linter.unusedVariables false
namespace Go.Proofs.Ytnepbpcpfeejkaa.E
open Go.RowKit Go.Proofs.Ytnepbpcpfeejkaa.K Go.Proofs.YtnepbpcpfeejkaaW.PrintWords Go.Proofs.YtnepbpcpfeejkaaW.PrintLast

theorem wrap_in {x : Int} (h0 : -9223372036854775808 ≤ x) (h1 : x < 9223372036854775808) : wrap64 x = x := by unfold wrap64; omega
theorem wrap_up (i : Nat) (h : i < 4611686018427387904) : wrap64 ((i : Int) + 1) = ((i + 1 : Nat) : Int) := by rw [wrap_in (by omega) (by omega)]; omega
theorem wrap_dn (i : Nat) (h0 : 1 ≤ i) (h : i < 4611686018427387904) : wrap64 ((i : Int) - 1) = ((i - 1 : Nat) : Int) := by rw [wrap_in (by omega) (by omega)]; omega
theorem rd_at {l : List S35} {i : Nat} (h : i < l.length) : rd_T35 l (i : Int) = l[i] := by simp [rd_T35, List.getD_eq_getElem?_getD, List.getElem?_eq_getElem h]
theorem drop_at {l : List S35} {i : Nat} (h : i < l.length) : l.drop i = rd_T35 l (i : Int) :: l.drop (i + 1) := by
  rw [List.drop_eq_getElem_cons h, rd_at h]
theorem rd_mem {l : List S35} {i : Nat} (h : i < l.length) : rd_T35 l (i : Int) ∈ l := by rw [rd_at h]; exact List.getElem_mem h
theorem rdI_at {l : List Int} {i : Nat} (h : i < l.length) : l.drop i = rd l (i : Int) :: l.drop (i + 1) := by
  rw [List.drop_eq_getElem_cons h]
  simp [Go.Proofs.YtnepbpcpfeejkaaW.PrintWords.rd, List.getD_eq_getElem?_getD, List.getElem?_eq_getElem h]
theorem eta (e : S35) : (⟨e.f0, e.f1, e.f2, e.f3, e.f4⟩ : S35) = e := rfl

abbrev st (l : List Int) : List UInt8 := (strOfNums l).toList
/-- The one key ahead of the other; the same key. -/
def ltk (a b : List Int) : Bool := Op.bytesLess (st a) (st b)
def sk (a b : List Int) : Bool := st a == st b
theorem sk_iff {a b : List Int} : sk a b = true ↔ st a = st b := beq_iff_eq
theorem sk_refl (a : List Int) : sk a a = true := sk_iff.2 rfl
theorem sk_symm {a b : List Int} (h : sk a b = true) : sk b a = true := sk_iff.2 (sk_iff.1 h).symm
theorem sk_trans {a b c : List Int} (h : sk a b = true) (k : sk b c = true) : sk a c = true := sk_iff.2 ((sk_iff.1 h).trans (sk_iff.1 k))
theorem sk_comm (a b : List Int) : sk a b = sk b a := by rw [Bool.eq_iff_iff]; exact ⟨sk_symm, sk_symm⟩
theorem ltk_irrefl {a b : List Int} (h : sk a b = true) : ltk a b = false := by unfold ltk; rw [sk_iff.1 h]; exact less_irrefl _
theorem less_trans : ∀ {a b c : List UInt8}, Op.bytesLess a b = true → Op.bytesLess b c = true → Op.bytesLess a c = true
  | _, [], _, h, _ => by cases ‹List UInt8› <;> simp [Op.bytesLess] at h
  | [], _ :: _, [], _, k => by simp [Op.bytesLess] at k
  | [], _ :: _, _ :: _, _, _ => by simp [Op.bytesLess]
  | _ :: _, _ :: _, [], _, k => by simp [Op.bytesLess] at k
  | x :: a, y :: b, z :: c, h, k => by
    simp only [Op.bytesLess, Bool.or_eq_true, decide_eq_true_eq, Bool.and_eq_true, beq_iff_eq] at h k ⊢
    rcases h with h | ⟨rfl, h⟩
    · rcases k with k | ⟨rfl, k⟩
      · exact .inl (UInt8.lt_trans h k)
      · exact .inl h
    · rcases k with k | ⟨rfl, k⟩
      · exact .inl k
      · exact .inr ⟨rfl, less_trans h k⟩
theorem ltk_trans {a b c : List Int} (h : ltk a b = true) (k : ltk b c = true) : ltk a c = true := less_trans h k
theorem ltk_sk {a b c : List Int} (h : ltk a b = true) (k : sk b c = true) : ltk a c = true := by unfold ltk at h ⊢; rw [← sk_iff.1 k]; exact h
theorem sk_ltk {a b c : List Int} (h : sk a b = true) (k : ltk b c = true) : ltk a c = true := by unfold ltk at k ⊢; rw [sk_iff.1 h]; exact k
theorem ltk_not {a b : List Int} (h : ltk a b = true) : sk a b = false := by
  cases hs : sk a b with
  | false => rfl
  | true => rw [ltk_irrefl hs] at h; cases h
theorem ltk_asymm {a b : List Int} (h : ltk a b = true) : ltk b a = false := by
  cases hs : ltk b a with
  | false => rfl
  | true => have := ltk_trans h hs; rw [ltk_irrefl (sk_refl a)] at this; cases this
theorem tri {a b : List Int} (h : ltk a b = false) (k : ltk b a = false) : sk a b = true := sk_iff.2 (less_tri h k)
/-- Which of two is ahead. -/
def cmpk (a b : List Int) : Int := if ltk a b = true then -1 else if ltk b a = true then 1 else 0
theorem cmp_eval (a b : List Int) : bytes_Compare.f a b = some (cmpk a b) := by
  unfold bytes_Compare.f cmpk ltk
  split
  · rfl
  · split <;> rfl
theorem cmp_eval' (a b : List Int) : halyardref2_Compare.f a b = some (cmpk a b) := cmp_eval a b
/-- An entry ahead of another one: by key, newer first. -/
def ahd (e f : S35) : Bool := ltk e.f0 f.f0 || (sk e.f0 f.f0 && decide (f.f1 < e.f1))
theorem ahd_iff {e f : S35} : ahd e f = true ↔ ltk e.f0 f.f0 = true ∨ (sk e.f0 f.f0 = true ∧ f.f1 < e.f1) := by simp [ahd]
theorem ahd_trans {e f g : S35} (h : ahd e f = true) (k : ahd f g = true) : ahd e g = true := by
  rw [ahd_iff] at *
  rcases h with h | ⟨h, h'⟩
  · rcases k with k | ⟨k, _⟩
    · exact .inl (ltk_trans h k)
    · exact .inl (ltk_sk h k)
  · rcases k with k | ⟨k, k'⟩
    · exact .inl (sk_ltk h k)
    · exact .inr ⟨sk_trans h k, by omega⟩
def ordB : List S35 → Bool
  | [] => true
  | [_] => true
  | e :: f :: r => ahd e f && ordB (f :: r)
theorem ordB_pair : ∀ {l : List S35}, ordB l = true → l.Pairwise fun e f => ahd e f = true
  | [], _ => .nil
  | [_], _ => .cons (fun _ h => by cases h) .nil
  | e :: f :: r, h => by
    simp only [ordB, Bool.and_eq_true] at h
    have ih := ordB_pair h.2
    refine .cons (fun g hg => ?_) ih
    rcases List.mem_cons.1 hg with rfl | hg
    · exact h.1
    · exact ahd_trans h.1 ((List.pairwise_cons.1 ih).1 g hg)
theorem pair_ordB : ∀ {l : List S35}, (l.Pairwise fun e f => ahd e f = true) → ordB l = true
  | [], _ => rfl
  | [_], _ => rfl
  | e :: f :: r, h => by
    simp only [ordB, Bool.and_eq_true]
    exact ⟨(List.pairwise_cons.1 h).1 f (by simp), pair_ordB (List.pairwise_cons.1 h).2⟩
theorem ordered_l0 (l : List S35) (hl : l.length < 4611686018427387904) : ∀ (d i k : Nat), i + d = l.length → 1 ≤ i → d < k → squash_ordered.l0 k l (i : Int) = some (ordB (l.drop (i - 1)))
  | 0, i, k, hi, h1, hk => by
    obtain ⟨k, rfl⟩ : ∃ m, k = m + 1 := ⟨k - 1, by omega⟩
    simp only [squash_ordered.l0]
    rw [if_neg (by omega), drop_at (by omega : i - 1 < l.length), List.drop_of_length_le (by omega)]
    rfl
  | d + 1, i, k, hi, h1, hk => by
    obtain ⟨k, rfl⟩ : ∃ m, k = m + 1 := ⟨k - 1, by omega⟩
    simp only [squash_ordered.l0]
    rw [if_pos (by omega), wrap_dn i h1 (by omega), if_pos (by omega), if_pos (by omega), if_pos (by omega), cmp_eval, wrap_up i (by omega), ordered_l0 l hl d (i + 1) k (by omega) (by omega) (by omega)]
    simp only [Option.bind_some]
    rw [drop_at (by omega : i - 1 < l.length), show i - 1 + 1 = i by omega, show i + 1 - 1 = i by omega, drop_at (by omega : i < l.length)]
    generalize rd_T35 l ((i - 1 : Nat) : Int) = e
    generalize rd_T35 l (i : Int) = f
    generalize l.drop (i + 1) = r
    simp only [ordB, ahd]
    unfold cmpk
    by_cases c1 : ltk e.f0 f.f0 = true
    · simp [c1]
    · by_cases c2 : ltk f.f0 e.f0 = true
      · have c3 : sk e.f0 f.f0 = false := by rw [sk_comm]; exact ltk_not c2
        simp [c1, c2, c3]
      · have c3 : sk e.f0 f.f0 = true := tri (by simpa using c1) (by simpa using c2)
        simp only [c1, c2, c3]
        by_cases c4 : e.f1 ≤ f.f1
        · simp [c4]
          intro h
          omega
        · simp [c4]
          intro _
          omega
theorem ordered_ev (l : List S35) (hl : l.length < 4611686018427387904) : Ev (fun k => squash_ordered.f k l) (ordB l) := by
  refine ⟨l.length + 1, fun k hk => ?_⟩
  unfold squash_ordered.f
  cases l with
  | nil =>
    obtain ⟨k, rfl⟩ : ∃ m, k = m + 1 := ⟨k - 1, by omega⟩
    simp [squash_ordered.l0, ordB]
  | cons e t => exact ordered_l0 (e :: t) hl t.length 1 k (by simp; omega) (by omega) (by simp at hk; omega)
/-- Ahead: -1, 0, 1. -/
def ahI (e f : S35) : Int := if ahd e f = true then -1 else if ahd f e = true then 1 else 0
theorem ahead_eval (e f : S35) : halyardref9_Ahead.f e.f0 e.f1 e.f2 e.f3 e.f4 f.f0 f.f1 f.f2 f.f3 f.f4 = some (ahI e f) := by
  unfold halyardref9_Ahead.f ahI ahd
  rw [cmp_eval']
  simp only [Option.bind_some]
  unfold cmpk
  by_cases c1 : ltk e.f0 f.f0 = true
  · simp [c1]
  · by_cases c2 : ltk f.f0 e.f0 = true
    · have c3 : sk e.f0 f.f0 = false := by rw [sk_comm]; exact ltk_not c2
      simp [c1, c2, c3]
    · have c3 : sk e.f0 f.f0 = true := tri (by simpa using c1) (by simpa using c2)
      have c4 : sk f.f0 e.f0 = true := sk_symm c3
      simp only [c1, c2, c3, c4]
      by_cases d1 : f.f1 < e.f1
      · simp [d1]
      · by_cases d2 : e.f1 < f.f1
        · simp [d1, d2]
        · simp [d1, d2]
theorem ahI_neg {e f : S35} : ahI e f < 0 ↔ ahd e f = true := by
  unfold ahI
  by_cases h : ahd e f = true
  · simp [h]
  · by_cases k : ahd f e = true <;> simp [h, k]
theorem ahI_zero {e f : S35} (h : ahd e f = false) : ahI e f = 0 ↔ ahd f e = false := by
  unfold ahI
  by_cases k : ahd f e = true <;> simp [h, k]
theorem refOrd_l0 (l : List S35) (hl : l.length < 4611686018427387904) : ∀ (d i k : Nat), i + d = l.length → 1 ≤ i → d < k → halyardref9_Ordered.l0 k l (i : Int) = some (ordB (l.drop (i - 1)))
  | 0, i, k, hi, h1, hk => by
    obtain ⟨k, rfl⟩ : ∃ m, k = m + 1 := ⟨k - 1, by omega⟩
    simp only [halyardref9_Ordered.l0]
    rw [if_neg (by omega), drop_at (by omega : i - 1 < l.length), List.drop_of_length_le (by omega)]
    rfl
  | d + 1, i, k, hi, h1, hk => by
    obtain ⟨k, rfl⟩ : ∃ m, k = m + 1 := ⟨k - 1, by omega⟩
    simp only [halyardref9_Ordered.l0]
    rw [if_pos (by omega), wrap_dn i h1 (by omega), if_pos (by omega), if_pos (by omega), if_pos (by omega), ahead_eval, wrap_up i (by omega), refOrd_l0 l hl d (i + 1) k (by omega) (by omega) (by omega)]
    simp only [Option.bind_some]
    rw [drop_at (by omega : i - 1 < l.length), show i - 1 + 1 = i by omega, show i + 1 - 1 = i by omega, drop_at (by omega : i < l.length)]
    generalize rd_T35 l ((i - 1 : Nat) : Int) = e
    generalize rd_T35 l (i : Int) = f
    generalize l.drop (i + 1) = r
    simp only [ordB]
    have h := ahI_neg (e := e) (f := f)
    by_cases c1 : ahd e f = true
    · rw [if_neg (by have := h.2 c1; omega)]; simp [c1]
    · rw [if_pos (by have := mt h.1 c1; omega)]; simp [c1]
theorem refOrd_ev (l : List S35) (hl : l.length < 4611686018427387904) : Ev (fun k => halyardref9_Ordered.f k l) (ordB l) := by
  refine ⟨l.length + 1, fun k hk => ?_⟩
  unfold halyardref9_Ordered.f
  cases l with
  | nil =>
    obtain ⟨k, rfl⟩ : ∃ m, k = m + 1 := ⟨k - 1, by omega⟩
    simp [halyardref9_Ordered.l0, ordB]
  | cons e t => exact refOrd_l0 (e :: t) hl t.length 1 k (by simp; omega) (by omega) (by simp at hk; omega)
end Go.Proofs.Ytnepbpcpfeejkaa.E
