/-
  Keys are squashed each by itself: cut between two keys, both parts' rows side by side are the whole's: for rows that are light, and at most 20 pins (of others the statement says no more than the package's own example).
-/
import Derived.Test.YtnepbpcpfeejkaaEm
import Derived.Test.YtnepbpcpfeejkaaKf5
set_option linter.unusedSimpArgs false
set_option linter.unusedVariables false
namespace Go.Proofs.Ytnepbpcpfeejkaa.PureParts
open Go.RowKit Go.Proofs.Ytnepbpcpfeejkaa.K Go.Proofs.Ytnepbpcpfeejkaa.E Go.Proofs.YtnepbpcpfeejkaaW.PrintWords Go.Proofs.YtnepbpcpfeejkaaW.PrintLast

theorem cmpk_neg {a b : List Int} : cmpk a b < 0 ↔ ltk a b = true := by
  unfold cmpk
  by_cases c1 : ltk a b = true
  · simp [c1]
  · by_cases c2 : ltk b a = true <;> simp [c1, c2]
def lo (key : List Int) (e : S35) : Bool := ltk e.f0 key
def hi (key : List Int) (e : S35) : Bool := !ltk e.f0 key
theorem lo_down {key : List Int} {e f : S35} (h : ahd e f = true) (hf : lo key f = true) : lo key e = true := by
  unfold lo at *
  rcases ahd_iff.1 h with h | ⟨h, _⟩
  · exact ltk_trans h hf
  · exact sk_ltk h hf
theorem parts_whole (key : List Int) : ∀ l : List S35, (l.Pairwise fun e f => ahd e f = true) → l.filter (lo key) ++ l.filter (hi key) = l
  | [], _ => rfl
  | e :: t, h => by
    obtain ⟨h1, h2⟩ := List.pairwise_cons.1 h
    have ih := parts_whole key t h2
    by_cases c : lo key e = true
    · have c2 : hi key e = false := by simp [hi, lo] at *; exact c
      rw [List.filter_cons_of_pos c, List.filter_cons_of_neg (by simp [c2]), List.cons_append, ih]
    · have c2 : hi key e = true := by simp [hi, lo] at *; exact c
      have hno : t.filter (lo key) = [] := List.filter_eq_nil_iff.2 fun f hf hlo => c (lo_down (h1 f hf) hlo)
      rw [List.filter_cons_of_neg c, List.filter_cons_of_pos c2, hno, List.nil_append]
      rw [hno, List.nil_append] at ih
      rw [ih]
theorem parts_apart {key : List Int} {l : List S35} : ∀ e ∈ l.filter (lo key), ∀ f ∈ l.filter (hi key), sk e.f0 f.f0 = false := by
  intro e he f hf
  have h1 := (List.mem_filter.1 he).2
  have h2 := (List.mem_filter.1 hf).2
  cases h : sk e.f0 f.f0 with
  | false => rfl
  | true =>
    have h3 : ltk f.f0 key = true := sk_ltk (sk_symm h) h1
    simp [hi, h3] at h2
theorem parts_l0 (s : List S35) (hsm : Sm 200 s) (ho : s.Pairwise fun e f => ahd e f = true) (pins : List Int) (hp : pins.length ≤ 20) (now : Int) (b : Bool) (key : List Int) : ∀ (d i : Nat) (x y : List S35), i + d = s.length → x.length ≤ i → y.length ≤ i →
    x ++ (s.drop i).filter (lo key) = s.filter (lo key) → y ++ (s.drop i).filter (hi key) = s.filter (hi key) →
    Ev (fun k => halyardlaw18_SquashParts.l0 k pins now b key s x y s (s.length : Int) (i : Int)) true
  | 0, i, x, y, hii, hx, hy, ex, ey => by
    have hl := hsm.1
    have hd : s.drop i = [] := List.drop_of_length_le (by omega)
    rw [hd] at ex ey
    simp only [List.filter_nil, List.append_nil] at ex ey
    subst ex
    subst ey
    have hx2 : (s.filter (lo key)).Sublist s := List.filter_sublist
    have hy2 : (s.filter (hi key)).Sublist s := List.filter_sublist
    have hsm' : Sm 1000 s := ⟨by omega, hsm.2⟩
    have k1 := keep_ev _ (hsm'.sub hx2) pins (by omega) now b
    have k2 := keep_ev _ (hsm'.sub hy2) pins (by omega) now b
    have k3 := keep_ev _ hsm' pins (by omega) now b
    rw [if_pos (pair_ordB (ho.sublist hx2))] at k1
    rw [if_pos (pair_ordB (ho.sublist hy2))] at k2
    rw [if_pos (pair_ordB ho)] at k3
    have e3 : keepP pins now b s = keepP pins now b (s.filter (lo key)) ++ keepP pins now b (s.filter (hi key)) := by
      rw [← keepP_append pins now b _ _ _ rfl parts_apart, parts_whole key s ho]
    have l3 := keep_len (pins := pins) (now := now) (b := b) (l := s)
    have hko := keep_ord (pins := pins) (now := now) (b := b) ho
    refine Ev.step (f := fun k => (squash_Keep.f k (s.filter (lo key)) pins now b).bind fun bt305 => ((squash_Keep.f k (s.filter (hi key)) pins now b).bind fun bt309 => ((squash_Keep.f k s pins now b).bind fun bt313 => (if bt305.2 = 0 then (if bt309.2 = 0 then (if bt313.2 = 0 then (if bt305.1.length + bt309.1.length < 1954687338268 then ((halyardref2_SameEntries.f k (bt305.1 ++ bt309.1) bt313.1).bind fun t320 => (if t320 = true then ((halyardref9_Ordered.f k bt313.1).bind fun t321 => (if t321 = true then ((halyardlaw18_awake.f k).bind fun t322 => (some t322)) else (some false))) else (some false))) else (none)) else (some false)) else (some false)) else (some false))))) (fun k => by
      simp only [halyardlaw18_SquashParts.l0]
      rw [if_neg (by omega)]) ?_
    refine Ev.bind k1 ?_
    refine Ev.bind k2 ?_
    refine Ev.bind k3 ?_
    have l4 := congrArg List.length e3
    rw [List.length_append] at l4
    refine Ev.congr (f := fun k => (halyardref2_SameEntries.f k (keepP pins now b s) (keepP pins now b s)).bind fun t320 => (if t320 = true then ((halyardref9_Ordered.f k (keepP pins now b s)).bind fun t321 => (if t321 = true then ((halyardlaw18_awake.f k).bind fun t322 => (some t322)) else (some false))) else (some false))) (fun k => by
      simp only [if_true]
      rw [if_pos (by omega), ← e3]) ?_
    refine Ev.bind (same_ev _ (by omega)) ?_
    refine Ev.congr (f := fun k => (halyardref9_Ordered.f k (keepP pins now b s)).bind fun t321 => (if t321 = true then ((halyardlaw18_awake.f k).bind fun t322 => (some t322)) else (some false))) (fun k => by rw [if_pos rfl]) ?_
    refine Ev.bind (refOrd_ev _ (by omega)) ?_
    rw [pair_ordB hko]
    refine Ev.congr (f := fun k => (halyardlaw18_awake.f k).bind fun t400 => (some t400)) (fun k => by rw [if_pos rfl]) ?_
    exact Ev.bind awake_ev (Ev.now _)
  | d + 1, i, x, y, hii, hx, hy, ex, ey => by
    have hl := hsm.1
    rw [drop_at (by omega : i < s.length)] at ex ey
    by_cases c : lo key (rd_T35 s (i : Int)) = true
    · have c2 : hi key (rd_T35 s (i : Int)) = false := by simp [hi, lo] at *; exact c
      rw [List.filter_cons_of_pos c] at ex
      rw [List.filter_cons_of_neg (by simp [c2])] at ey
      have ih := parts_l0 s hsm ho pins hp now b key d (i + 1) (x ++ [rd_T35 s (i : Int)]) y (by omega) (by simp; omega) (by omega) (by rw [List.append_assoc]; exact ex) ey
      refine Ev.step (f := fun k => halyardlaw18_SquashParts.l0 k pins now b key s (x ++ [rd_T35 s (i : Int)]) y s (s.length : Int) ((i + 1 : Nat) : Int)) (fun k => by
        simp only [halyardlaw18_SquashParts.l0]
        rw [if_pos (by omega), if_pos (by omega), if_pos (by omega), cmp_eval']
        simp only [Option.bind_some]
        rw [if_pos (cmpk_neg.2 c), if_pos (by omega), wrap_up i (by omega), eta]) ?_
      exact ih
    · have c2 : hi key (rd_T35 s (i : Int)) = true := by simp [hi, lo] at *; exact c
      rw [List.filter_cons_of_neg c] at ex
      rw [List.filter_cons_of_pos c2] at ey
      have ih := parts_l0 s hsm ho pins hp now b key d (i + 1) x (y ++ [rd_T35 s (i : Int)]) (by omega) (by omega) (by simp; omega) ex (by rw [List.append_assoc]; exact ey)
      refine Ev.step (f := fun k => halyardlaw18_SquashParts.l0 k pins now b key s x (y ++ [rd_T35 s (i : Int)]) s (s.length : Int) ((i + 1 : Nat) : Int)) (fun k => by
        simp only [halyardlaw18_SquashParts.l0]
        rw [if_pos (by omega), if_pos (by omega), if_pos (by omega), cmp_eval']
        simp only [Option.bind_some]
        rw [if_neg (mt cmpk_neg.1 c), if_pos (by omega), wrap_up i (by omega), eta]) ?_
      exact ih
theorem SquashParts (l : List S35) (pins : List Int) (now : Int) (b : Bool) (key : List Int) : ∃ k, halyardlaw18_SquashParts.f k l pins now b key = some true := by
  refine Ev.rounds ?_
  have haw : ∀ (x : List S35), Ev (fun k => halyardlaw18_SquashParts.j0 k x pins now b key true) true := fun x => by
    refine Ev.step (f := fun k => (halyardlaw18_awake.f k).bind fun t265 => (some t265)) (fun k => by rw [halyardlaw18_SquashParts.j0, if_pos rfl]) ?_
    exact Ev.bind awake_ev (Ev.now _)
  obtain ⟨q, hq, hsm⟩ := light_ev l
  unfold halyardlaw18_SquashParts.f
  refine Ev.bind hq ?_
  cases q with
  | false => exact Ev.congr (f := fun k => halyardlaw18_SquashParts.j0 k l pins now b key true) (fun k => by rw [if_neg (by simp)]) (haw l)
  | true =>
    have hl := (hsm rfl).1
    refine Ev.congr (f := fun k => halyardlaw18_SquashParts.j0 k l pins now b key (decide ((pins.length : Int) > 20))) (fun k => by rw [if_pos rfl]) ?_
    cases hc : decide ((pins.length : Int) > 20) with
    | true => exact haw l
    | false =>
      have hp := of_decide_eq_false hc
      obtain ⟨s, hs, hse⟩ := sorted_ev l (by omega)
      have hlen := hs.len
      refine Ev.step (f := fun k => (halyardlaw18_sorted.f k l).bind fun t293 => (halyardlaw18_SquashParts.l0 k pins now b key t293 ([] : List (S35)) ([] : List (S35)) t293 (t293.length : Int) 0)) (fun k => by rw [halyardlaw18_SquashParts.j0, if_neg (by simp)]) ?_
      refine Ev.bind hse ?_
      exact parts_l0 s ⟨by omega, hs.sm.2⟩ hs.ord pins (by omega) now b key s.length 0 [] [] (by omega) (by simp) (by simp) (by simp) (by simp)
end Go.Proofs.Ytnepbpcpfeejkaa.PureParts
