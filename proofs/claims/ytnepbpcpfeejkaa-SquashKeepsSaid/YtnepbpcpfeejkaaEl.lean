/-
  Plain facts on rows of entries: Live as a plain function; rows that are the same; a row that has been sorted.
-/
import Derived.Test.YtnepbpcpfeejkaaEk
import Derived.Test.YtnepbpcpfeejkaaKf10
import Derived.Test.YtnepbpcpfeejkaaKf9
set_option linter.unusedSimpArgs false
set_option linter.unusedVariables false
namespace Go.Proofs.Ytnepbpcpfeejkaa.E
open Go.RowKit Go.Proofs.Ytnepbpcpfeejkaa.K Go.Proofs.YtnepbpcpfeejkaaW.PrintWords Go.Proofs.YtnepbpcpfeejkaaW.PrintLast

def outP (now : Int) (e : S35) : List S35 := if (ownP now e).f2 = true then [] else [ownP now e]
/-- What of one key lives at a number. -/
def pick (seq now : Int) (g : List S35) : List S35 := match g.find? (fun e => decide (e.f1 ≤ seq)) with
  | none => []
  | some e => outP now e
def liveP (seq now : Int) : List S35 → List S35
  | [] => []
  | e :: t => pick seq now (e :: t.takeWhile (sameK e)) ++ liveP seq now (t.dropWhile (sameK e))
termination_by l => l.length
decreasing_by exact dw_lt e t _
theorem liveP_cons (seq now : Int) (e : S35) (t : List S35) : liveP seq now (e :: t) = pick seq now (e :: t.takeWhile (sameK e)) ++ liveP seq now (t.dropWhile (sameK e)) := by rw [liveP]
theorem liveP_nil (seq now : Int) : liveP seq now [] = [] := by rw [liveP]
theorem outP_len (now : Int) (e : S35) : (outP now e).length ≤ 1 := by unfold outP; split <;> simp
theorem pick_len (seq now : Int) (g : List S35) : (pick seq now g).length ≤ 1 := by
  unfold pick
  split
  · simp
  · exact outP_len now _
theorem live_l1 (x0 : List S35) (seq now : Int) (x9 : Int) (h9 : 0 ≤ x9) (h9' : x9 ≤ (x0.length : Int)) (acc R y : List S35) (hs : Sm 1000 y) (ha : acc.length ≤ 1000)
    (cont : ∀ o : List S35, o.length ≤ 1 → Ev (fun k => squash_Live.l0 k (x0.drop x9.toNat) seq now (acc ++ o)) (acc ++ o ++ R, 0)) : ∀ (d j : Nat), j + d = y.length →
    Ev (fun k => squash_Live.l1 k x0 seq now acc x9 y (y.length : Int) (j : Int)) (acc ++ pick seq now (y.drop j) ++ R, 0)
  | 0, j, hj => by
    refine Ev.step (f := fun k => squash_Live.l0 k (x0.drop x9.toNat) seq now acc) (fun k => by simp only [squash_Live.l1]; rw [if_neg (by omega), if_pos h9, if_pos h9']) ?_
    have hd : y.drop j = [] := List.drop_of_length_le (by omega)
    rw [hd]
    have := cont [] (by simp)
    simpa [pick] using this
  | d + 1, j, hj => by
    have hl := hs.1
    have ih := live_l1 x0 seq now x9 h9 h9' acc R y hs ha cont d (j + 1) (by omega)
    rw [drop_at (by omega : j < y.length)]
    have hm := hs.2 _ (rd_mem (show j < y.length by omega))
    by_cases c1 : (rd_T35 y (j : Int)).f1 ≤ seq
    · have hp : pick seq now (rd_T35 y (j : Int) :: y.drop (j + 1)) = outP now (rd_T35 y (j : Int)) := by simp [pick, c1]
      rw [hp]
      refine Ev.step (f := fun k => squash_Live.l0 k (x0.drop x9.toNat) seq now (acc ++ outP now (rd_T35 y (j : Int)))) (fun k => by
        simp only [squash_Live.l1]
        rw [if_pos (by omega), if_pos (by omega), if_pos (by omega), if_pos c1, own_eval _ _ hm]
        simp only [Option.bind_some]
        unfold outP
        by_cases c2 : (ownP now (rd_T35 y (j : Int))).f2 = true
        · rw [if_pos c2, if_pos h9, if_pos h9', if_pos c2, List.append_nil]
        · rw [if_neg c2, if_pos (by omega), if_pos h9, if_pos h9', if_neg c2, eta]) ?_
      exact cont _ (outP_len now _)
    · have hp : pick seq now (rd_T35 y (j : Int) :: y.drop (j + 1)) = pick seq now (y.drop (j + 1)) := by simp [pick, c1]
      rw [hp]
      refine Ev.step (f := fun k => squash_Live.l1 k x0 seq now acc x9 y (y.length : Int) ((j + 1 : Nat) : Int)) (fun k => by
        simp only [squash_Live.l1]
        rw [if_pos (by omega), if_pos (by omega), if_pos (by omega), if_neg c1, wrap_up j (by omega)]) ?_
      exact ih
theorem live_l0 (seq now : Int) : ∀ (n : Nat) (l acc : List S35), l.length = n → Sm 1000 l → acc.length + l.length ≤ 1000 → Ev (fun k => squash_Live.l0 k l seq now acc) (acc ++ liveP seq now l, 0) := by
  intro n
  induction n using Nat.strongRecOn with
  | _ n ih =>
    intro l acc hn hs ha
    cases l with
    | nil =>
      refine Ev.step (f := fun _ => some (acc, 0)) (fun k => by simp [squash_Live.l0]) ?_
      rw [liveP_nil, List.append_nil]
      exact Ev.now _
    | cons e t =>
      have hl := hs.1
      have h1 := tw_len (sameK e) t
      have h3 := dw_lt e t (sameK e)
      refine Ev.step (f := fun k => (squash_one.f k (e :: t)).bind fun t324 => (if 0 ≤ t324 then (if t324 ≤ ((e :: t).length : Int) then ((some ((e :: t).take (t324 : Int).toNat : List (S35))).bind fun y325 => (squash_Live.l1 k (e :: t) seq now acc t324 y325 (y325.length : Int) 0)) else (none)) else (none))) (fun k => by rw [squash_Live.l0, if_pos (by simp)]) ?_
      refine Ev.bind (one_ev e t (by omega)) ?_
      have e1 : (((1 + (t.takeWhile (sameK e)).length : Nat) : Int)).toNat = (t.takeWhile (sameK e)).length + 1 := by omega
      have hle : (((1 + (t.takeWhile (sameK e)).length : Nat) : Int)) ≤ ((e :: t).length : Int) := by simp; omega
      refine Ev.congr (f := fun k => squash_Live.l1 k (e :: t) seq now acc ((1 + (t.takeWhile (sameK e)).length : Nat) : Int) (e :: t.takeWhile (sameK e)) ((e :: t.takeWhile (sameK e)).length : Int) ((0 : Nat) : Int)) (fun k => by
        rw [if_pos (by omega), if_pos hle, e1, List.take_succ_cons, take_tw]
        rfl) ?_
      rw [liveP_cons, ← List.append_assoc]
      simp only [List.length_cons] at h3 ha hl
      refine live_l1 (e :: t) seq now _ (by omega) hle acc (liveP seq now (t.dropWhile (sameK e))) _ (hs.sub (tw_sub e t _)) (by omega) (fun o ho => ?_) _ 0 (Nat.zero_add _)
      rw [e1, List.drop_succ_cons, drop_tw]
      exact ih _ (by rw [← hn]; simp; omega) _ _ rfl (hs.sub (dw_sub e t _)) (by rw [List.length_append]; omega)
theorem live_ev (l : List S35) (hs : Sm 1000 l) (seq now : Int) : Ev (fun k => squash_Live.f k l seq now) (if ordB l = true then (liveP seq now l, 0) else ([], 11)) := by
  have hl := hs.1
  unfold squash_Live.f
  refine Ev.bind (ordered_ev l (by omega)) ?_
  by_cases h : ordB l = true
  · rw [if_pos h]
    refine Ev.congr (f := fun k => squash_Live.l0 k l seq now []) (fun k => by rw [if_pos h]) ?_
    exact live_l0 seq now _ l [] rfl hs (by simpa using hl)
  · rw [if_neg h]
    exact Ev.congr (f := fun k => some ([], 11)) (fun k => by rw [if_neg h]) (Ev.now _)
/-- Two entries the same. -/
def sameE (e f : S35) : Bool := sk e.f0 f.f0 && decide (e.f1 = f.f1) && (e.f2 == f.f2) && decide (e.f3 = f.f3) && sk e.f4 f.f4
theorem sameE_refl (e : S35) : sameE e e = true := by simp [sameE, sk_refl]
theorem sameEntry_eval (e f : S35) : halyardref2_SameEntry.f e.f0 e.f1 e.f2 e.f3 e.f4 f.f0 f.f1 f.f2 f.f3 f.f4 = some (sameE e f) := by
  unfold halyardref2_SameEntry.f sameE
  by_cases c1 : (strOfNums e.f0).toList = (strOfNums f.f0).toList
  · have c1' : sk e.f0 f.f0 = true := sk_iff.2 c1
    rw [if_pos c1, c1']
    by_cases c2 : e.f1 = f.f1
    · rw [if_pos c2]
      by_cases c3 : (e.f2 == f.f2) = true
      · rw [if_pos c3]
        by_cases c4 : e.f3 = f.f3
        · rw [if_pos c4]
          simp [c2, c3, c4, sk]
        · rw [if_neg c4]; simp [c4]
      · rw [if_neg c3]; simp [c3]
    · rw [if_neg c2]; simp [c2]
  · have c1' : sk e.f0 f.f0 = false := by
      cases h : sk e.f0 f.f0 with
      | false => rfl
      | true => exact absurd (sk_iff.1 h) c1
    rw [if_neg c1, c1']
    simp
theorem same_l0 (x : List S35) (hl : x.length < 4611686018427387904) : ∀ (d i k : Nat), i + d = x.length → d < k → halyardref2_SameEntries.l0 k x x (x.length : Int) (i : Int) = some true
  | 0, i, k, hi, hk => by
    obtain ⟨k, rfl⟩ : ∃ m, k = m + 1 := ⟨k - 1, by omega⟩
    simp only [halyardref2_SameEntries.l0]
    rw [if_neg (by omega)]
  | d + 1, i, k, hi, hk => by
    obtain ⟨k, rfl⟩ : ∃ m, k = m + 1 := ⟨k - 1, by omega⟩
    simp only [halyardref2_SameEntries.l0]
    rw [if_pos (by omega), if_pos (by omega), if_pos (by omega), if_pos (by omega), sameEntry_eval, sameE_refl, wrap_up i (by omega), same_l0 x hl d (i + 1) k (by omega) (by omega)]
    rfl
theorem same_ev (x : List S35) (hl : x.length < 4611686018427387904) : Ev (fun k => halyardref2_SameEntries.f k x x) true := by
  refine ⟨x.length + 1, fun k hk => ?_⟩
  show halyardref2_SameEntries.f k x x = some true
  unfold halyardref2_SameEntries.f
  rw [if_pos rfl]
  exact same_l0 x hl x.length 0 k (by omega) (by omega)
/-- What an entry must be. -/
def MayP (e : S35) : Prop := e.f0.length ≤ 512 ∧ e.f1 ≤ 4611686018427387904 ∧ e.f4.length ≤ 2048 ∧ (e.f2 = true → e.f3 = 0 ∧ e.f4 = [])
theorem may_eval (e : S35) : ∃ b, halyardref9_May.f e.f0 e.f1 e.f2 e.f3 e.f4 = some b ∧ (b = true → MayP e) := by
  unfold halyardref9_May.f
  by_cases c1 : (e.f0.length : Int) < 1
  · rw [if_pos c1]; exact ⟨_, rfl, fun h => by cases h⟩
  rw [if_neg c1]
  by_cases c2 : (e.f0.length : Int) > 512
  · rw [if_pos c2]; exact ⟨_, rfl, fun h => by cases h⟩
  rw [if_neg c2]
  by_cases c3 : e.f1 < 1
  · rw [if_pos c3]; exact ⟨_, rfl, fun h => by cases h⟩
  rw [if_neg c3]
  by_cases c4 : e.f1 > 4611686018427387904
  · rw [if_pos c4]; exact ⟨_, rfl, fun h => by cases h⟩
  rw [if_neg c4]
  by_cases c5 : e.f3 < 0
  · rw [if_pos c5]; exact ⟨_, rfl, fun h => by cases h⟩
  rw [if_neg c5]
  by_cases c6 : e.f3 > 4611686018427387904
  · rw [if_pos c6]; exact ⟨_, rfl, fun h => by cases h⟩
  rw [if_neg c6]
  by_cases c7 : (e.f4.length : Int) > 2048
  · rw [if_pos c7]; exact ⟨_, rfl, fun h => by cases h⟩
  rw [if_neg c7]
  by_cases c8 : e.f2 = true
  · rw [if_pos c8]
    by_cases c9 : e.f3 = 0
    · rw [if_pos c9]
      refine ⟨_, rfl, fun h => ⟨by omega, by omega, by omega, fun _ => ⟨c9, ?_⟩⟩⟩
      have : (e.f4.length : Int) = 0 := beq_iff_eq.1 h
      exact List.eq_nil_of_length_eq_zero (by omega)
    · rw [if_neg c9]; exact ⟨_, rfl, fun h => by cases h⟩
  · rw [if_neg c8]
    exact ⟨_, rfl, fun _ => ⟨by omega, by omega, by omega, fun h => absurd h c8⟩⟩
/-- An entry put into a row. -/
def insP (e : S35) : List S35 → List S35
  | [] => [e]
  | x :: t => if ahd x e = true then x :: insP e t else if ahI x e = 0 then x :: t else e :: x :: t
theorem insP_mem (e : S35) : ∀ (l : List S35) (x : S35), x ∈ insP e l → x = e ∨ x ∈ l
  | [], x, h => by simp [insP] at h; exact .inl h
  | y :: t, x, h => by
    simp only [insP] at h
    split at h
    · rcases List.mem_cons.1 h with rfl | h
      · exact .inr (by simp)
      · rcases insP_mem e t x h with h | h
        · exact .inl h
        · exact .inr (by simp [h])
    · split at h
      · exact .inr h
      · rcases List.mem_cons.1 h with h | h
        · exact .inl h
        · exact .inr h
theorem insP_len (e : S35) : ∀ l : List S35, (insP e l).length ≤ l.length + 1
  | [] => by simp [insP]
  | y :: t => by
    have := insP_len e t
    simp only [insP]
    split
    · simp; omega
    · split <;> simp
theorem insP_ord (e : S35) : ∀ {l : List S35}, (l.Pairwise fun e f => ahd e f = true) → (insP e l).Pairwise fun e f => ahd e f = true
  | [], _ => .cons (fun _ h => by cases h) .nil
  | y :: t, h => by
    obtain ⟨h1, h2⟩ := List.pairwise_cons.1 h
    simp only [insP]
    by_cases c1 : ahd y e = true
    · rw [if_pos c1]
      refine .cons (fun x hx => ?_) (insP_ord e h2)
      rcases insP_mem e t x hx with rfl | hx
      · exact c1
      · exact h1 x hx
    · rw [if_neg c1]
      by_cases c2 : ahI y e = 0
      · rw [if_pos c2]; exact h
      · rw [if_neg c2]
        have c3 : ahd e y = true := by
          have := mt (ahI_zero (by simpa using c1)).2 c2
          simpa using this
        refine .cons (fun x hx => ?_) h
        rcases List.mem_cons.1 hx with rfl | hx
        · exact c3
        · exact ahd_trans c3 (h1 x hx)
theorem put_l0 (l : List S35) (e : S35) (hl : l.length ≤ 1000) : ∀ (d i k : Nat), i + d = l.length → d < k → ∃ b, halyardref9_Put.l0 k l (i : Int) e.f0 e.f1 e.f2 e.f3 e.f4 = some (l.take i ++ insP e (l.drop i), b)
  | 0, i, k, hi, hk => by
    obtain ⟨k, rfl⟩ : ∃ m, k = m + 1 := ⟨k - 1, by omega⟩
    refine ⟨true, ?_⟩
    simp only [halyardref9_Put.l0]
    rw [if_neg (by omega), if_pos (by omega), if_pos (by omega), Int.toNat_natCast]
    simp only [Option.bind_some, List.nil_append, List.length_nil]
    have h1 : (l.take i).length ≤ 1000 := by rw [List.length_take]; omega
    have h2 : (l.drop i).length ≤ 1000 := by rw [List.length_drop]; omega
    rw [if_pos (by omega), if_pos (by simp; omega), if_pos (by simp; omega), List.drop_of_length_le (by omega)]
    simp [insP]
  | d + 1, i, k, hi, hk => by
    obtain ⟨k, rfl⟩ : ∃ m, k = m + 1 := ⟨k - 1, by omega⟩
    have h1 : (l.take i).length ≤ 1000 := by rw [List.length_take]; omega
    have h2 : (l.drop i).length ≤ 1000 := by rw [List.length_drop]; omega
    simp only [halyardref9_Put.l0]
    rw [if_pos (by omega), if_pos (by omega), ahead_eval _ e]
    simp only [Option.bind_some]
    by_cases c1 : ahd (rd_T35 l (i : Int)) e = true
    · obtain ⟨b, ih⟩ := put_l0 l e hl d (i + 1) k (by omega) (by omega)
      refine ⟨b, ?_⟩
      rw [if_pos (ahI_neg.2 c1), wrap_up i (by omega), ih, drop_at (by omega : i < l.length)]
      simp only [insP]
      rw [if_pos c1, List.take_succ_eq_append_getElem (by omega), rd_at (by omega : i < l.length)]
      simp only [List.append_assoc, List.singleton_append]
    · rw [if_neg (mt ahI_neg.1 c1)]
      by_cases c2 : ahI (rd_T35 l (i : Int)) e = 0
      · refine ⟨false, ?_⟩
        rw [if_pos c2]
        conv => rhs; rw [drop_at (by omega : i < l.length)]
        simp only [insP]
        rw [if_neg c1, if_pos c2, ← drop_at (by omega : i < l.length), List.take_append_drop]
      · refine ⟨true, ?_⟩
        rw [if_neg c2, if_pos (by omega), Int.toNat_natCast]
        simp only [Option.bind_some, List.nil_append, List.length_nil]
        rw [if_pos (by omega), if_pos (by simp; omega), if_pos (by simp; omega), drop_at (by omega : i < l.length)]
        simp only [insP]
        rw [if_neg c1, if_neg c2]
        simp
theorem put_ev (l : List S35) (e : S35) (hl : l.length ≤ 1000) : ∃ b, Ev (fun k => halyardref9_Put.f k l e.f0 e.f1 e.f2 e.f3 e.f4) (insP e l, b) := by
  obtain ⟨b, h⟩ := put_l0 l e hl l.length 0 (l.length + 1) (by omega) (by omega)
  refine ⟨b, Ev.of (fun k => halyardref9_Put.mono l e.f0 e.f1 e.f2 e.f3 e.f4 k) (k := l.length + 1) ?_⟩
  unfold halyardref9_Put.f
  simpa using h
/-- A row in order, of entries that may be, not too long. -/
structure Gd (n : Nat) (s : List S35) : Prop where
  ord : s.Pairwise fun e f => ahd e f = true
  may : ∀ e ∈ s, MayP e
  len : s.length ≤ n
theorem Gd.sm {n : Nat} {s : List S35} (h : Gd n s) : Sm n s := ⟨h.len, fun e he => by have := h.may e he; unfold MayP at this; omega⟩
theorem Gd.ins {n : Nat} {s : List S35} (h : Gd n s) {e : S35} (he : MayP e) : Gd (n + 1) (insP e s) := ⟨insP_ord e h.ord, fun x hx => by
  rcases insP_mem e s x hx with rfl | hx
  · exact he
  · exact h.may x hx, Nat.le_trans (insP_len e s) (by have := h.len; omega)⟩
theorem Gd.more {n m : Nat} {s : List S35} (h : Gd n s) (hm : n ≤ m) : Gd m s := ⟨h.ord, h.may, Nat.le_trans h.len hm⟩
theorem sorted_l0 (l : List S35) (hl : l.length ≤ 1000) : ∀ (d i : Nat) (acc : List S35), i + d = l.length → Gd (min i 60) acc → ∃ s, Gd 60 s ∧ Ev (fun k => halyardlaw18_sorted.l0 k acc l (l.length : Int) (i : Int)) s
  | 0, i, acc, hi, hg => ⟨acc, hg.more (Nat.min_le_right _ _), Ev.step (f := fun _ => some acc) (fun k => by simp only [halyardlaw18_sorted.l0]; rw [if_neg (by omega)]) (Ev.now _)⟩
  | d + 1, i, acc, hi, hg => by
    by_cases c1 : (i : Int) < 60
    · obtain ⟨b, hb, hm⟩ := may_eval (rd_T35 l (i : Int))
      by_cases c2 : b = true
      · obtain ⟨b2, hput⟩ := put_ev acc (rd_T35 l (i : Int)) (by have := hg.len; omega)
        obtain ⟨s, hs, he⟩ := sorted_l0 l hl d (i + 1) (insP (rd_T35 l (i : Int)) acc) (by omega) ((hg.ins (hm c2)).more (by omega))
        refine ⟨s, hs, ?_⟩
        refine Ev.step (f := fun k => (halyardref9_Put.f k acc ((rd_T35 l (i : Int)).f0) ((rd_T35 l (i : Int)).f1) ((rd_T35 l (i : Int)).f2) ((rd_T35 l (i : Int)).f3) ((rd_T35 l (i : Int)).f4)).bind fun bt253 => (halyardlaw18_sorted.l0 k bt253.1 l (l.length : Int) (wrap64 ((i : Int) + 1)))) (fun k => by
          simp only [halyardlaw18_sorted.l0]
          rw [if_pos (by omega), if_pos (by omega), if_pos (by omega), if_pos c1, hb]
          simp only [Option.bind_some]
          rw [if_pos c2]) ?_
        refine Ev.bind hput ?_
        rw [wrap_up i (by omega)]
        exact he
      · obtain ⟨s, hs, he⟩ := sorted_l0 l hl d (i + 1) acc (by omega) (hg.more (by omega))
        refine ⟨s, hs, Ev.step (f := fun k => halyardlaw18_sorted.l0 k acc l (l.length : Int) ((i + 1 : Nat) : Int)) (fun k => by
          simp only [halyardlaw18_sorted.l0]
          rw [if_pos (by omega), if_pos (by omega), if_pos (by omega), if_pos c1, hb]
          simp only [Option.bind_some]
          rw [if_neg c2, wrap_up i (by omega)]) he⟩
    · obtain ⟨s, hs, he⟩ := sorted_l0 l hl d (i + 1) acc (by omega) (hg.more (by omega))
      exact ⟨s, hs, Ev.step (f := fun k => halyardlaw18_sorted.l0 k acc l (l.length : Int) ((i + 1 : Nat) : Int)) (fun k => by
          simp only [halyardlaw18_sorted.l0]
          rw [if_pos (by omega), if_pos (by omega), if_pos (by omega), if_neg c1, wrap_up i (by omega)]) he⟩
theorem sorted_ev (l : List S35) (hl : l.length ≤ 1000) : ∃ s, Gd 60 s ∧ Ev (fun k => halyardlaw18_sorted.f k l) s :=
  sorted_l0 l hl l.length 0 [] (by omega) ⟨.nil, (fun _ h => by cases h), by simp⟩
/-- What 'light' says. -/
theorem light_l0 (l : List S35) : ∀ (d i k : Nat), i + d = l.length → d < k → (∀ j, j < i → j < 200 ∧ ∀ h : j < l.length, (l[j]).f0.length ≤ 600 ∧ (l[j]).f4.length ≤ 2100) → ∃ b, halyardlaw18_light.l0 k l (l.length : Int) (i : Int) = some b ∧ (b = true → Sm 200 l)
  | 0, i, k, hi, hk, hj => by
    obtain ⟨k, rfl⟩ : ∃ m, k = m + 1 := ⟨k - 1, by omega⟩
    refine ⟨true, by simp only [halyardlaw18_light.l0]; rw [if_neg (by omega)], fun _ => ⟨?_, fun e he => ?_⟩⟩
    · by_cases h : 200 < l.length
      · have := (hj 200 (by omega)).1; omega
      · omega
    · obtain ⟨j, hjl, rfl⟩ := List.mem_iff_getElem.1 he
      exact (hj j (by omega)).2 hjl
  | d + 1, i, k, hi, hk, hj => by
    obtain ⟨k, rfl⟩ : ∃ m, k = m + 1 := ⟨k - 1, by omega⟩
    simp only [halyardlaw18_light.l0]
    rw [if_pos (by omega), if_pos (by omega), if_pos (by omega), rd_at (by omega : i < l.length)]
    by_cases c1 : (i : Int) ≥ 200
    · rw [if_pos c1]; exact ⟨_, rfl, fun h => by cases h⟩
    rw [if_neg c1]
    by_cases c2 : ((l[i].f0).length : Int) > 600
    · rw [if_pos c2]; exact ⟨_, rfl, fun h => by cases h⟩
    rw [if_neg c2]
    by_cases c3 : ((l[i].f4).length : Int) > 2100
    · rw [if_pos c3]; exact ⟨_, rfl, fun h => by cases h⟩
    rw [if_neg c3, wrap_up i (by omega)]
    refine light_l0 l d (i + 1) k (by omega) (by omega) (fun j hji => ?_)
    by_cases h : j = i
    · subst h; exact ⟨by omega, fun _ => ⟨by omega, by omega⟩⟩
    · exact hj j (by omega)
theorem light_ev (l : List S35) : ∃ b, Ev (fun k => halyardlaw18_light.f k l) b ∧ (b = true → Sm 200 l) := by
  obtain ⟨b, h, hb⟩ := light_l0 l l.length 0 (l.length + 1) (by omega) (by omega) (fun j hj => absurd hj (by omega))
  exact ⟨b, Ev.of (fun k => halyardlaw18_light.mono l k) (k := l.length + 1) h, hb⟩
/-- The row that every program must know. -/
theorem awake_ev : Ev (fun k => halyardlaw18_awake.f k) true := by
  unfold halyardlaw18_awake.f
  have h := keep_ev [(⟨[97], 9, false, 5, [120]⟩ : S35)] ⟨by simp, fun e he => by simp at he; subst he; simp⟩ [] (by simp) 5 false
  have hk : keepP [] 5 false [(⟨[97], 9, false, 5, [120]⟩ : S35)] = [(⟨[97], 9, true, 0, []⟩ : S35)] := by
    rw [keepP_cons]
    simp [keepP_nil, keyP, trimB, kp, behind, ownP, endedP]
  have ho : ordB [(⟨[97], 9, false, 5, [120]⟩ : S35)] = true := rfl
  rw [if_pos ho, hk] at h
  exact Ev.bind h (Ev.congr (f := fun _ => some true) (fun k => by simp [rd_T35]) (Ev.now _))
end Go.Proofs.Ytnepbpcpfeejkaa.E
