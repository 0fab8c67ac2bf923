/-
  The region of the four fours: its loads, calls, new blocks and stores, in whatever order.
-/
import Derived.Test.YtehjjjdelpbkpaaPS
namespace Go.Proofs.Ytehjjjdelpbkpaa
open Go.RowKit Go Go.Proofs.YtehjjjdelpbkpaaW.PrintWords
open F

/-- What a slot holds in the region. -/
def slotA (V C S : Nat → Value) (j : Nat) (v : Value) : Value :=
  if 50 ≤ j ∧ j < 58 then (if j % 2 = 0 then V ((j - 50) / 2) else C ((j - 51) / 2)) else if 14 ≤ j ∧ j < 18 then S (j - 14) else v
def setA (a : Act) (V C S : Nat → Value) : Act := { a with tmps := a.tmps.mapIdx fun j v => slotA V C S j v }
theorem setA_eval {a : Act} {V C S : Nat → Value} (h : a.tmps.size = 86) (t : Nat) (ht : t < 86) : (setA a V C S).eval (.tmp t) = slotA V C S t (a.eval (.tmp t)) := by
  have ht' : t < a.tmps.size := by omega
  simp [setA, Act.eval, ht']
theorem setA_put {a : Act} {V C S V' C' S' : Nat → Value} (h : a.tmps.size = 86) (t : Nat) (ht : t < 86) (v : Value) (he : ∀ j x, slotA V' C' S' j x = if j = t then v else slotA V C S j x) : (setA a V C S).put (some t) v = setA a V' C' S' := by
  unfold setA Act.put
  simp only [Act.mk.injEq, and_true]
  refine Array.ext (by simp) fun j h1 h2 => ?_
  rw [Array.getElem_setIfInBounds (by simpa using h1)]
  simp only [Array.getElem_mapIdx, he]
  by_cases hj : j = t
  · subst hj; simp
  · rw [if_neg (Ne.symm hj), if_neg hj]
theorem slot_V (V C S : Nat → Value) (k : Nat) (hk : k < 4) (v : Value) (j : Nat) (x : Value) : slotA (updV V k v) C S j x = if j = 50 + 2 * k then v else slotA V C S j x := by
  unfold slotA
  by_cases hj : j = 50 + 2 * k
  · subst hj
    rw [if_pos rfl, if_pos (by omega), if_pos (by omega), show (50 + 2 * k - 50) / 2 = k by omega, updV_same]
  · rw [if_neg hj]
    by_cases h1 : 50 ≤ j ∧ j < 58
    · rw [if_pos h1, if_pos h1]
      by_cases h2 : j % 2 = 0
      · rw [if_pos h2, if_pos h2, updV_other _ _ (by omega)]
      · rw [if_neg h2, if_neg h2]
    · rw [if_neg h1, if_neg h1]
theorem slot_C (V C S : Nat → Value) (k : Nat) (hk : k < 4) (v : Value) (j : Nat) (x : Value) : slotA V (updV C k v) S j x = if j = 51 + 2 * k then v else slotA V C S j x := by
  unfold slotA
  by_cases hj : j = 51 + 2 * k
  · subst hj
    rw [if_pos rfl, if_pos (by omega), if_neg (by omega), show (51 + 2 * k - 51) / 2 = k by omega, updV_same]
  · rw [if_neg hj]
    by_cases h1 : 50 ≤ j ∧ j < 58
    · rw [if_pos h1, if_pos h1]
      by_cases h2 : j % 2 = 0
      · rw [if_pos h2, if_pos h2]
      · rw [if_neg h2, if_neg h2, updV_other _ _ (by omega)]
    · rw [if_neg h1, if_neg h1]
theorem slot_S (V C S : Nat → Value) (k : Nat) (hk : k < 4) (v : Value) (j : Nat) (x : Value) : slotA V C (updV S k v) j x = if j = 14 + k then v else slotA V C S j x := by
  unfold slotA
  by_cases hj : j = 14 + k
  · subst hj
    rw [if_pos rfl, if_neg (by omega), if_pos (by omega), show 14 + k - 14 = k by omega, updV_same]
  · rw [if_neg hj]
    by_cases h1 : 50 ≤ j ∧ j < 58
    · rw [if_pos h1, if_pos h1]
    · rw [if_neg h1, if_neg h1]
      by_cases h2 : 14 ≤ j ∧ j < 18
      · rw [if_pos h2, if_pos h2, updV_other _ _ (by omega)]
      · rw [if_neg h2, if_neg h2]
theorem eval_V {a : Act} {V C S : Nat → Value} (h : a.tmps.size = 86) (k : Nat) (hk : k < 4) : (setA a V C S).eval (.tmp (50 + 2 * k)) = V k := by
  rw [setA_eval h _ (by omega)]
  unfold slotA
  rw [if_pos (by omega), if_pos (by omega), show (50 + 2 * k - 50) / 2 = k by omega]
theorem eval_C {a : Act} {V C S : Nat → Value} (h : a.tmps.size = 86) (k : Nat) (hk : k < 4) : (setA a V C S).eval (.tmp (51 + 2 * k)) = C k := by
  rw [setA_eval h _ (by omega)]
  unfold slotA
  rw [if_pos (by omega), if_neg (by omega), show (51 + 2 * k - 51) / 2 = k by omega]
theorem eval_S {a : Act} {V C S : Nat → Value} (h : a.tmps.size = 86) (k : Nat) (hk : k < 4) : (setA a V C S).eval (.tmp (14 + k)) = S k := by
  rw [setA_eval h _ (by omega)]
  unfold slotA
  rw [if_neg (by omega), if_pos (by omega), show 14 + k - 14 = k by omega]
theorem eval_old {a : Act} {V C S : Nat → Value} (h : a.tmps.size = 86) (t : Nat) (ht : t < 14) : (setA a V C S).eval (.tmp t) = a.eval (.tmp t) := by
  rw [setA_eval h _ (by omega)]
  unfold slotA
  rw [if_neg (by omega), if_neg (by omega)]
theorem setA_congr (a : Act) {V C S V' C' S' : Nat → Value} (hV : ∀ k, k < 4 → V k = V' k) (hC : ∀ k, k < 4 → C k = C' k) (hS : ∀ k, k < 4 → S k = S' k) : setA a V C S = setA a V' C' S' := by
  have e : (fun (j : Nat) (v : Value) => slotA V C S j v) = fun j v => slotA V' C' S' j v := by
    funext j v
    unfold slotA
    by_cases h1 : 50 ≤ j ∧ j < 58
    · rw [if_pos h1, if_pos h1, hV _ (by omega), hC _ (by omega)]
    · rw [if_neg h1, if_neg h1]
      by_cases h2 : 14 ≤ j ∧ j < 18
      · rw [if_pos h2, if_pos h2, hS _ (by omega)]
      · rw [if_neg h2, if_neg h2]
  unfold setA
  rw [e]
theorem upd4 (f u : Nat → Value) : ∀ k, k < 4 → updV (updV (updV (updV u 0 (f 0)) 1 (f 1)) 2 (f 2)) 3 (f 3) k = f k := by
  intro k hk
  match k, hk with
  | 0, _ => rfl
  | 1, _ => rfl
  | 2, _ => rfl
  | 3, _ => rfl
theorem setA_puts {a : Act} {V C S u : Nat → Value} (h : a.tmps.size = 86) (hs : setA a u u u = a) : ((((((((((((a.put (some 50) (V 0)).put (some 51) (C 0)).put (some 52) (V 1)).put (some 53) (C 1)).put (some 54) (V 2)).put (some 55) (C 2)).put (some 56) (V 3)).put (some 57) (C 3)).put (some 14) (S 0)).put (some 15) (S 1)).put (some 16) (S 2)).put (some 17) (S 3)) = setA a V C S := by
  have s0 : a = setA a u u u := hs.symm
  have s1 : (a.put (some 50) (V 0)) = setA a (updV u 0 (V 0)) u u := (congrArg (fun b : Act => b.put (some 50) (V 0)) s0).trans (setA_put h 50 (by omega) _ (slot_V _ _ _ 0 (by omega) _))
  have s2 : ((a.put (some 50) (V 0)).put (some 51) (C 0)) = setA a (updV u 0 (V 0)) (updV u 0 (C 0)) u := (congrArg (fun b : Act => b.put (some 51) (C 0)) s1).trans (setA_put h 51 (by omega) _ (slot_C _ _ _ 0 (by omega) _))
  have s3 : (((a.put (some 50) (V 0)).put (some 51) (C 0)).put (some 52) (V 1)) = setA a (updV (updV u 0 (V 0)) 1 (V 1)) (updV u 0 (C 0)) u := (congrArg (fun b : Act => b.put (some 52) (V 1)) s2).trans (setA_put h 52 (by omega) _ (slot_V _ _ _ 1 (by omega) _))
  have s4 : ((((a.put (some 50) (V 0)).put (some 51) (C 0)).put (some 52) (V 1)).put (some 53) (C 1)) = setA a (updV (updV u 0 (V 0)) 1 (V 1)) (updV (updV u 0 (C 0)) 1 (C 1)) u := (congrArg (fun b : Act => b.put (some 53) (C 1)) s3).trans (setA_put h 53 (by omega) _ (slot_C _ _ _ 1 (by omega) _))
  have s5 : (((((a.put (some 50) (V 0)).put (some 51) (C 0)).put (some 52) (V 1)).put (some 53) (C 1)).put (some 54) (V 2)) = setA a (updV (updV (updV u 0 (V 0)) 1 (V 1)) 2 (V 2)) (updV (updV u 0 (C 0)) 1 (C 1)) u := (congrArg (fun b : Act => b.put (some 54) (V 2)) s4).trans (setA_put h 54 (by omega) _ (slot_V _ _ _ 2 (by omega) _))
  have s6 : ((((((a.put (some 50) (V 0)).put (some 51) (C 0)).put (some 52) (V 1)).put (some 53) (C 1)).put (some 54) (V 2)).put (some 55) (C 2)) = setA a (updV (updV (updV u 0 (V 0)) 1 (V 1)) 2 (V 2)) (updV (updV (updV u 0 (C 0)) 1 (C 1)) 2 (C 2)) u := (congrArg (fun b : Act => b.put (some 55) (C 2)) s5).trans (setA_put h 55 (by omega) _ (slot_C _ _ _ 2 (by omega) _))
  have s7 : (((((((a.put (some 50) (V 0)).put (some 51) (C 0)).put (some 52) (V 1)).put (some 53) (C 1)).put (some 54) (V 2)).put (some 55) (C 2)).put (some 56) (V 3)) = setA a (updV (updV (updV (updV u 0 (V 0)) 1 (V 1)) 2 (V 2)) 3 (V 3)) (updV (updV (updV u 0 (C 0)) 1 (C 1)) 2 (C 2)) u := (congrArg (fun b : Act => b.put (some 56) (V 3)) s6).trans (setA_put h 56 (by omega) _ (slot_V _ _ _ 3 (by omega) _))
  have s8 : ((((((((a.put (some 50) (V 0)).put (some 51) (C 0)).put (some 52) (V 1)).put (some 53) (C 1)).put (some 54) (V 2)).put (some 55) (C 2)).put (some 56) (V 3)).put (some 57) (C 3)) = setA a (updV (updV (updV (updV u 0 (V 0)) 1 (V 1)) 2 (V 2)) 3 (V 3)) (updV (updV (updV (updV u 0 (C 0)) 1 (C 1)) 2 (C 2)) 3 (C 3)) u := (congrArg (fun b : Act => b.put (some 57) (C 3)) s7).trans (setA_put h 57 (by omega) _ (slot_C _ _ _ 3 (by omega) _))
  have s9 : (((((((((a.put (some 50) (V 0)).put (some 51) (C 0)).put (some 52) (V 1)).put (some 53) (C 1)).put (some 54) (V 2)).put (some 55) (C 2)).put (some 56) (V 3)).put (some 57) (C 3)).put (some 14) (S 0)) = setA a (updV (updV (updV (updV u 0 (V 0)) 1 (V 1)) 2 (V 2)) 3 (V 3)) (updV (updV (updV (updV u 0 (C 0)) 1 (C 1)) 2 (C 2)) 3 (C 3)) (updV u 0 (S 0)) := (congrArg (fun b : Act => b.put (some 14) (S 0)) s8).trans (setA_put h 14 (by omega) _ (slot_S _ _ _ 0 (by omega) _))
  have s10 : ((((((((((a.put (some 50) (V 0)).put (some 51) (C 0)).put (some 52) (V 1)).put (some 53) (C 1)).put (some 54) (V 2)).put (some 55) (C 2)).put (some 56) (V 3)).put (some 57) (C 3)).put (some 14) (S 0)).put (some 15) (S 1)) = setA a (updV (updV (updV (updV u 0 (V 0)) 1 (V 1)) 2 (V 2)) 3 (V 3)) (updV (updV (updV (updV u 0 (C 0)) 1 (C 1)) 2 (C 2)) 3 (C 3)) (updV (updV u 0 (S 0)) 1 (S 1)) := (congrArg (fun b : Act => b.put (some 15) (S 1)) s9).trans (setA_put h 15 (by omega) _ (slot_S _ _ _ 1 (by omega) _))
  have s11 : (((((((((((a.put (some 50) (V 0)).put (some 51) (C 0)).put (some 52) (V 1)).put (some 53) (C 1)).put (some 54) (V 2)).put (some 55) (C 2)).put (some 56) (V 3)).put (some 57) (C 3)).put (some 14) (S 0)).put (some 15) (S 1)).put (some 16) (S 2)) = setA a (updV (updV (updV (updV u 0 (V 0)) 1 (V 1)) 2 (V 2)) 3 (V 3)) (updV (updV (updV (updV u 0 (C 0)) 1 (C 1)) 2 (C 2)) 3 (C 3)) (updV (updV (updV u 0 (S 0)) 1 (S 1)) 2 (S 2)) := (congrArg (fun b : Act => b.put (some 16) (S 2)) s10).trans (setA_put h 16 (by omega) _ (slot_S _ _ _ 2 (by omega) _))
  have s12 : ((((((((((((a.put (some 50) (V 0)).put (some 51) (C 0)).put (some 52) (V 1)).put (some 53) (C 1)).put (some 54) (V 2)).put (some 55) (C 2)).put (some 56) (V 3)).put (some 57) (C 3)).put (some 14) (S 0)).put (some 15) (S 1)).put (some 16) (S 2)).put (some 17) (S 3)) = setA a (updV (updV (updV (updV u 0 (V 0)) 1 (V 1)) 2 (V 2)) 3 (V 3)) (updV (updV (updV (updV u 0 (C 0)) 1 (C 1)) 2 (C 2)) 3 (C 3)) (updV (updV (updV (updV u 0 (S 0)) 1 (S 1)) 2 (S 2)) 3 (S 3)) := (congrArg (fun b : Act => b.put (some 17) (S 3)) s11).trans (setA_put h 17 (by omega) _ (slot_S _ _ _ 3 (by omega) _))
  exact s12.trans (setA_congr a (upd4 V u) (upd4 C u) (upd4 S u))
theorem wp_call17 {o : Oper} {a : Act} {w : World} {K : Act → World → Prop} {Q : Exit → Act → World → Prop} (s : Nat) (ho : o.op = .call { callee := .value (.func 17), args := #[.tmp s], argTypes := #[31] }) (v : Value) (hv : a.eval (.tmp s) = v)
    (hc : Calls Try.prog 17 #[v] w fun e w' => ∃ u, e = .returned u ∧ K (a.put o.dst u) w') : o.wp Try.prog a w K Q := by
  have e : (execOp a.eval o).run Try.prog w = .ok (.enter 17 #[v]) w := by
    rw [← hv]
    unfold execOp
    rw [ho]
    kernel_rfl
  unfold Oper.wp
  rw [e, Oper.upon_enter]
  refine hc.mono fun e w'' hh => ?_
  obtain ⟨u, rfl, hk⟩ := hh
  exact hk
/-- The region's operations: what the law leans on. -/
structure Ops4 (ops : Array Oper) (src : Nat → Nat) : Prop where
  size : ops.size = 16
  low : lowB ops = true
  ld : ∀ k, k < 4 → ∃ o, ops[2 * k]? = some o ∧ o.guard = none ∧ o.op = .load 31 (.tmp (src k)) ∧ o.dst = some (50 + 2 * k)
  cl : ∀ k, k < 4 → ∃ o, ops[2 * k + 1]? = some o ∧ o.guard = none ∧ o.op = .call { callee := .value (.func 17), args := #[.tmp (50 + 2 * k)], argTypes := #[31] } ∧ o.dst = some (51 + 2 * k)
  al : ∀ k, k < 4 → ∃ o, ops[8 + k]? = some o ∧ o.guard = none ∧ o.op = .alloc 31 ∧ o.dst = some (14 + k)
  st : ∀ k, k < 4 → ∃ o, ops[12 + k]? = some o ∧ o.guard = none ∧ o.op = .store 31 (.tmp (14 + k)) (.tmp (51 + 2 * k)) ∧ o.dst = none
  dc : ∀ k, k < 4 → (deps .any ops (2 * k + 1)).contains (2 * k) = true
  ds : ∀ k, k < 4 → (deps .any ops (12 + k)).contains (2 * k + 1) = true ∧ (deps .any ops (12 + k)).contains (8 + k) = true
theorem wanted_none {o : Oper} (h : o.guard = none) (y : Nat → Option Bool) : Region.wanted o y = true := by
  unfold Region.wanted
  rw [h]
theorem sums_region {ops : Array Oper} {src : Nat → Nat} (HO : Ops4 ops src) (hsrc : ∀ k, k < 4 → src k < 14) {Q : Exit → Act → World → Prop} {a0 : Act} (h86 : a0.tmps.size = 86) {w0 : World} (G : Nat → Nat) (R : Nat → Array Value) (Res : Nat → (Nat → Nat) → (Nat → Nat) → Prop)
    (hsl : ∀ k, k < 4 → a0.eval (.tmp (src k)) = .pointer (some ⟨G k, 0, none⟩)) (hR : ∀ k, k < 4 → w0.heap[G k]? = some (.cells (R k) 31 (0, 0))) (hRs : ∀ k, k < 4 → (R k).size = 4)
    (hF : ∀ k, k < 4 → ∀ w, Calls Try.prog 17 #[.agg (R k)] w fun e w' => ∃ r i : Nat → Nat, e = .returned (arr4 r i) ∧ Res k r i ∧ Below w.heap.size w w')
    (hstart : setA a0 (fun _ => undef) (fun _ => undef) (fun _ => undef) = a0)
    (hdone : ∀ (V C S : Nat → Value) (W : World), Below w0.heap.size w0 W → (∀ k, k < 4 → ∃ (r i : Nat → Nat) (n : Nat), Res k r i ∧ S k = .pointer (some ⟨n, 0, none⟩) ∧ w0.heap.size ≤ n ∧ W.heap[n]? = some (.cells #[.complex .f64 (r 0) (i 0), .complex .f64 (r 1) (i 1), .complex .f64 (r 2) (i 2), .complex .f64 (r 3) (i 3)] 31 (0, 0))) → Q .normal ((((((((((((a0.put (some 50) (V 0)).put (some 51) (C 0)).put (some 52) (V 1)).put (some 53) (C 1)).put (some 54) (V 2)).put (some 55) (C 2)).put (some 56) (V 3)).put (some 57) (C 3)).put (some 14) (S 0)).put (some 15) (S 1)).put (some 16) (S 2)).put (some 17) (S 3)) W) :
    (Code.region 10 ops true).wp Try.prog Q a0 w0 := by
  refine wp_region_any (by kernel_rfl) ?_
  refine wpAny_inv (fun L a W => ∃ V C S n, a = setA a0 V C S ∧ Below w0.heap.size w0 W ∧ CI w0.heap.size (fun k => .agg (R k)) Res L V C S n W) HO.low ?_ ?_ _ _ _ _ (by simp) (by simp [List.count_replicate_self]) ⟨_, _, _, fun _ => 0, hstart.symm, (Below.refl _ _).drew, CI.start _ _ _ _ _ _ _ _ (fun j => by simp only [Array.getD_eq_getD_getElem?, Array.getElem?_replicate]; split <;> rfl)⟩
  · intro Q' L i a W hi hI hfree hdeps
    obtain ⟨V, C, S, n, rfl, hB, hC⟩ := hI
    rw [HO.size] at hi
    have hcase : (∃ k, k < 4 ∧ i = 2 * k) ∨ (∃ k, k < 4 ∧ i = 2 * k + 1) ∨ (∃ k, k < 4 ∧ i = 8 + k) ∨ (∃ k, k < 4 ∧ i = 12 + k) := by
      by_cases h8 : i < 8
      · by_cases h2 : i % 2 = 0
        · exact .inl ⟨i / 2, by omega, by omega⟩
        · exact .inr (.inl ⟨i / 2, by omega, by omega⟩)
      · by_cases h12 : i < 12
        · exact .inr (.inr (.inl ⟨i - 8, by omega, by omega⟩))
        · exact .inr (.inr (.inr ⟨i - 12, by omega, by omega⟩))
    have info : ∀ cs : Array Value, cs.size = 4 → (Try.prog.info? 31).map (·.size) = some cs.size := fun cs h => by rw [h]; kernel_rfl
    rcases hcase with ⟨k, hk, rfl⟩ | ⟨k, hk, rfl⟩ | ⟨k, hk, rfl⟩ | ⟨k, hk, rfl⟩
    · obtain ⟨o, ho, hg, hop, hd⟩ := HO.ld k hk
      refine wpOp_of ho (wanted_none hg _) (wp_load_row 31 (.tmp (src k)) hop (G k) ((eval_old h86 _ (hsrc k hk)).trans (hsl k hk)) 31 (R k) (0, 0) (.array 4 23) (blk_below (hR k hk) hB) Try.underlying31 rfl (info _ (hRs k hk)) ?_)
      rw [hd]
      exact ⟨_, C, S, n, setA_put h86 _ (by omega) _ (slot_V V C S k hk _), hB, hC.load k hk⟩
    · obtain ⟨o, ho, hg, hop, hd⟩ := HO.cl k hk
      have hv := hC.ld k hk (hdeps (2 * k) (by simpa using HO.dc k hk))
      refine wpOp_of ho (wanted_none hg _) (wp_call17 (50 + 2 * k) hop (.agg (R k)) ((eval_V h86 k hk).trans hv) ((hF k hk W).mono fun e w' ⟨r, i, he, hr, hb⟩ => ⟨_, he, ?_⟩))
      rw [hd]
      exact ⟨V, _, S, n, setA_put h86 _ (by omega) _ (slot_C V C S k hk _), below_two hB hb, hC.call k hk hfree hr hb⟩
    · obtain ⟨o, ho, hg, hop, hd⟩ := HO.al k hk
      refine wpOp_of ho (wanted_none hg _) (wp_alloc31 hop ?_)
      rw [hd]
      exact ⟨V, C, _, _, setA_put h86 _ (by omega) _ (slot_S V C S k hk _), below_more hB _, hC.alloc k hk hfree hB.size _ rfl⟩
    · obtain ⟨o, ho, hg, hop, hd⟩ := HO.st k hk
      have hd1 := hdeps (2 * k + 1) (by simpa using (HO.ds k hk).1)
      have hd2 := hdeps (8 + k) (by simpa using (HO.ds k hk).2)
      obtain ⟨r, i, hc, hr⟩ := hC.cl k hk hd1
      obtain ⟨hs, hn, cs, hb, hsz, _⟩ := hC.al k hk hd2
      refine wpOp_of ho (wanted_none hg _) (wp_store_row 31 (.tmp (14 + k)) (.tmp (51 + 2 * k)) hop (n k) _ ((eval_S h86 k hk).trans hs) ((eval_C h86 k hk).trans hc) 31 cs hb (info _ rfl) (by rw [hsz]; rfl) (by simp [Value.oneCell']) ?_)
      rw [hd]
      exact ⟨V, C, S, n, rfl, below_setRow hB hn _, hC.store k hk hd1 hd2 _ hc rfl⟩
  · intro L a W hI hL
    obtain ⟨V, C, S, n, rfl, hB, hC⟩ := hI
    rw [HO.size] at hL
    have h := hdone V C S W hB fun k hk => by
      obtain ⟨r, i, h1, h2, h3, h4⟩ := hC.fin hL k hk
      exact ⟨r, i, n k, h1, h2, h3, h4⟩
    rwa [setA_puts h86 hstart] at h
end Go.Proofs.Ytehjjjdelpbkpaa
