/-
  A region whose order is drawn, by an invariant; and the sums, in whole numbers.
-/
import Derived.Test.YtehjjjdelpbkpaaP8
import Derived.Test.YtehjjjdelpbkpaaPB
namespace Go.Proofs.Ytehjjjdelpbkpaa
open Go.RowKit Go Go.Proofs.YtehjjjdelpbkpaaW.PrintWords
open F

def updV {α : Type} (f : Nat → α) (k : Nat) (v : α) : Nat → α := fun j => if j = k then v else f j
theorem updV_same {α : Type} (f : Nat → α) (k : Nat) (v : α) : updV f k v k = v := if_pos rfl
theorem updV_other {α : Type} (f : Nat → α) {k j : Nat} (v : α) (h : j ≠ k) : updV f k v j = f j := if_neg h
/-- The operations that must come ahead of the i-th. -/
def deps (md : Region.Mode) (ops : Array Oper) (i : Nat) : List Nat :=
  match ops[i]? with
  | none => []
  | some o => (o.after.toList.filter fun e => Region.binds md e).map (·.on)
def lowB (ops : Array Oper) : Bool :=
  (List.range ops.size).all fun i => match ops[i]? with | none => true | some o => o.after.all fun e => decide (e.on < i)
theorem count_set : ∀ (l : List Bool) (i : Nat), l[i]? = some false → (l.set i true).count false + 1 = l.count false
  | [], _, h => by simp at h
  | b :: l, 0, h => by
    have : b = false := by simpa using h
    subst this
    simp
  | b :: l, i + 1, h => by
    have h1 := count_set l i (by simpa using h)
    simp only [List.set_cons_succ, List.count_cons]
    omega
theorem wpAny_inv {P : Program} {ops : Array Oper} {Q : Exit → Act → World → Prop} {md : Region.Mode} (Inv : (Nat → Bool) → Act → World → Prop) (hlow : lowB ops = true)
    (hstep : ∀ (Q' : Exit → Act → World → Prop) (L : Nat → Bool) (i : Nat) (a : Act) (w : World), i < ops.size → Inv L a w → L i = false → (∀ j, j ∈ deps md ops i → L j = true) → wpOp P ops Q' i (Inv (updV L i true)) a w)
    (hdone : ∀ L a w, Inv L a w → (∀ j, j < ops.size → L j = true) → Q .normal a w) :
    ∀ (fuel : Nat) (listed : Array Bool) (a : Act) (w : World), listed.size = ops.size → listed.toList.count false ≤ fuel → Inv (fun j => listed.getD j false) a w → wpAny P md ops Q fuel listed a w := by
  have key : ∀ listed : Array Bool, listed.size = ops.size → Region.ready md ops listed = [] → ∀ j, j < ops.size → listed.getD j false = true := by
    intro listed hs hr j
    induction j using Nat.strongRecOn with
    | _ j ih =>
      intro hj
      cases hb : listed.getD j false with
      | true => rfl
      | false =>
        exfalso
        have hjl : j < listed.size := by omega
        have hm : j ∈ Region.ready md ops listed := by
          refine mem_ready.2 ⟨by simpa [hjl] using hb, ops[j], by simp [hj], fun e he _ => ih e.on ?_ ?_⟩
          · have h := List.all_eq_true.1 hlow j (List.mem_range.2 hj)
            simp only [hj, getElem?_pos] at h
            have := Array.all_eq_true_iff_forall_mem.1 h e he
            simpa using this
          · have h := List.all_eq_true.1 hlow j (List.mem_range.2 hj)
            simp only [hj, getElem?_pos] at h
            have := Array.all_eq_true_iff_forall_mem.1 h e he
            have h2 : e.on < j := by simpa using this
            omega
        rw [hr] at hm
        cases hm
  have fresh : ∀ (listed : Array Bool) (i : Nat), i ∈ Region.ready md ops listed → listed.toList[i]? = some false := by
    intro listed i hi
    have h := (mem_ready.1 hi).1
    rcases Nat.lt_or_ge i listed.size with h' | h'
    · simpa [h'] using h
    · simp [Array.getElem?_eq_none h'] at h
  intro fuel
  induction fuel with
  | zero =>
    intro listed a w hs hc hI
    have hr : Region.ready md ops listed = [] := by
      cases hr : Region.ready md ops listed with
      | nil => rfl
      | cons i l =>
        have h := fresh listed i (by rw [hr]; exact List.mem_cons_self ..)
        have := count_set _ _ h
        omega
    exact ⟨hr, hdone _ _ _ hI (key listed hs hr)⟩
  | succ fuel ih =>
    intro listed a w hs hc hI
    refine ⟨fun hr => hdone _ _ _ hI (key listed hs hr), fun i hi => ?_⟩
    have hf := fresh listed i hi
    have hil : i < listed.size := by
      have := (List.getElem?_eq_some_iff.1 hf).1
      simpa using this
    refine wpOp_mono (fun a' w' h => ih _ _ _ (by simp [hs]) ?_ ?_) (hstep Q (fun j => listed.getD j false) i a w (by omega) hI ?_ ?_)
    · have := count_set _ _ hf
      rw [Array.toList_setIfInBounds]
      omega
    · have e : (fun j => (listed.setIfInBounds i true).getD j false) = updV (fun j => listed.getD j false) i true := by
        funext j
        by_cases hj : j = i
        · subst hj
          simp [updV, hil]
        · rw [getD_set_ne false (Ne.symm hj), updV_other _ _ hj]
      rw [e]
      exact h
    · simpa [hil] using hf
    · intro j hj
      obtain ⟨_, o, ho, hall⟩ := mem_ready.1 hi
      simp only [deps, ho, List.mem_map, List.mem_filter] at hj
      obtain ⟨e, ⟨he, hb⟩, rfl⟩ := hj
      exact hall e (by simpa using he) hb
/-- Four chains: a load, a call, a new block, a store. -/
structure CI (N0 : Nat) (RW : Nat → Value) (Res : Nat → (Nat → Nat) → (Nat → Nat) → Prop) (L : Nat → Bool) (V C S : Nat → Value) (n : Nat → Nat) (w : World) : Prop where
  ld : ∀ k, k < 4 → L (2 * k) = true → V k = RW k
  cl : ∀ k, k < 4 → L (2 * k + 1) = true → ∃ r i, C k = arr4 r i ∧ Res k r i
  al : ∀ k, k < 4 → L (8 + k) = true → S k = .pointer (some ⟨n k, 0, none⟩) ∧ N0 ≤ n k ∧ ∃ cs : Array Value, w.heap[n k]? = some (.cells cs 31 (0, 0)) ∧ cs.size = 4 ∧ (L (12 + k) = true → C k = .agg cs)
  st : ∀ k, k < 4 → L (12 + k) = true → L (2 * k + 1) = true ∧ L (8 + k) = true
  ap : ∀ k l, k < 4 → l < 4 → k ≠ l → L (8 + k) = true → L (8 + l) = true → n k ≠ n l
section
variable {N0 : Nat} {RW : Nat → Value} {Res : Nat → (Nat → Nat) → (Nat → Nat) → Prop} {L : Nat → Bool} {V C S : Nat → Value} {n : Nat → Nat} {w : World}
theorem CI.start (N0 : Nat) (RW : Nat → Value) (Res : Nat → (Nat → Nat) → (Nat → Nat) → Prop) (V C S : Nat → Value) (n : Nat → Nat) (w : World) (h : ∀ j, L j = false) : CI N0 RW Res L V C S n w :=
  ⟨fun k _ e => by simp [h] at e, fun k _ e => by simp [h] at e, fun k _ e => by simp [h] at e, fun k _ e => by simp [h] at e, fun k l _ _ _ e => by simp [h] at e⟩
theorem CI.load (h : CI N0 RW Res L V C S n w) (k : Nat) (hk : k < 4) : CI N0 RW Res (updV L (2 * k) true) (updV V k (RW k)) C S n w where
  ld j hj e := by
    by_cases hjk : j = k
    · subst hjk; exact updV_same _ _ _
    · rw [updV_other _ _ (by omega)] at e ⊢
      exact h.ld j hj e
  cl j hj e := h.cl j hj (by rwa [updV_other _ _ (by omega)] at e)
  al j hj e := by
    obtain ⟨h1, h2, cs, h3, h4, h5⟩ := h.al j hj (by rwa [updV_other _ _ (by omega)] at e)
    exact ⟨h1, h2, cs, h3, h4, fun e' => h5 (by rwa [updV_other _ _ (by omega)] at e')⟩
  st j hj e := by
    rw [updV_other _ _ (by omega)] at e
    rw [updV_other _ _ (by omega), updV_other _ _ (by omega)]
    exact h.st j hj e
  ap j l hj hl hne e e' := h.ap j l hj hl hne (by rwa [updV_other _ _ (by omega)] at e) (by rwa [updV_other _ _ (by omega)] at e')
theorem CI.call (h : CI N0 RW Res L V C S n w) (k : Nat) (hk : k < 4) (hf : L (2 * k + 1) = false) {r i : Nat → Nat} (hr : Res k r i) {w' : World} (hb : Below w.heap.size w w') : CI N0 RW Res (updV L (2 * k + 1) true) V (updV C k (arr4 r i)) S n w' where
  ld j hj e := h.ld j hj (by rwa [updV_other _ _ (by omega)] at e)
  cl j hj e := by
    by_cases hjk : j = k
    · subst hjk; exact ⟨r, i, updV_same _ _ _, hr⟩
    · rw [updV_other _ _ (by omega)] at e ⊢
      exact h.cl j hj e
  al j hj e := by
    obtain ⟨h1, h2, cs, h3, h4, h5⟩ := h.al j hj (by rwa [updV_other _ _ (by omega)] at e)
    refine ⟨h1, h2, cs, blk_below h3 hb, h4, fun e' => ?_⟩
    rw [updV_other _ _ (by omega)] at e'
    have hjk : j ≠ k := by
      intro hjk
      subst hjk
      have := (h.st j hj e').1
      rw [hf] at this
      cases this
    rw [updV_other _ _ hjk]
    exact h5 e'
  st j hj e := by
    rw [updV_other _ _ (by omega)] at e
    obtain ⟨h1, h2⟩ := h.st j hj e
    refine ⟨?_, by rwa [updV_other _ _ (by omega)]⟩
    unfold updV
    split
    · rfl
    · exact h1
  ap j l hj hl hne e e' := h.ap j l hj hl hne (by rwa [updV_other _ _ (by omega)] at e) (by rwa [updV_other _ _ (by omega)] at e')
theorem CI.alloc (h : CI N0 RW Res L V C S n w) (k : Nat) (hk : k < 4) (hf : L (8 + k) = false) (hN : N0 ≤ w.heap.size) (z : Array Value) (hz : z.size = 4) : CI N0 RW Res (updV L (8 + k) true) V C (updV S k (.pointer (some ⟨w.heap.size, 0, none⟩))) (updV n k w.heap.size) (w.alloc (.cells z 31 (0, 0))) where
  ld j hj e := h.ld j hj (by rwa [updV_other _ _ (by omega)] at e)
  cl j hj e := h.cl j hj (by rwa [updV_other _ _ (by omega)] at e)
  al j hj e := by
    by_cases hjk : j = k
    · subst hjk
      rw [updV_same, updV_same]
      refine ⟨rfl, hN, z, blk_new _ _, hz, fun e' => ?_⟩
      rw [updV_other _ _ (by omega)] at e'
      have := (h.st j hj e').2
      rw [hf] at this
      cases this
    · rw [updV_other _ _ (by omega)] at e
      obtain ⟨h1, h2, cs, h3, h4, h5⟩ := h.al j hj e
      rw [updV_other _ _ hjk, updV_other _ _ hjk]
      exact ⟨h1, h2, cs, blk_keep h3 _, h4, fun e' => h5 (by rwa [updV_other _ _ (by omega)] at e')⟩
  st j hj e := by
    rw [updV_other _ _ (by omega)] at e
    obtain ⟨h1, h2⟩ := h.st j hj e
    refine ⟨by rwa [updV_other _ _ (by omega)], ?_⟩
    unfold updV
    split
    · rfl
    · exact h2
  ap j l hj hl hne e e' := by
    have lt : ∀ j, j < 4 → L (8 + j) = true → n j ≠ w.heap.size := fun j hj e => by
      obtain ⟨_, _, cs, h3, _⟩ := h.al j hj e
      have := blk_lt h3
      omega
    by_cases hjk : j = k
    · subst hjk
      rw [updV_same, updV_other _ _ (Ne.symm hne)]
      rw [updV_other _ _ (by omega)] at e'
      exact Ne.symm (lt l hl e')
    · rw [updV_other _ _ (by omega)] at e
      rw [updV_other _ _ hjk]
      by_cases hlk : l = k
      · subst hlk
        rw [updV_same]
        exact lt j hj e
      · rw [updV_other _ _ hlk]
        exact h.ap j l hj hl hne e (by rwa [updV_other _ _ (by omega)] at e')
theorem CI.store (h : CI N0 RW Res L V C S n w) (k : Nat) (hk : k < 4) (hc : L (2 * k + 1) = true) (ha : L (8 + k) = true) (cells : Array Value) (he : C k = .agg cells) (hz : cells.size = 4) : CI N0 RW Res (updV L (12 + k) true) V C S n (w.setRow (n k) cells) where
  ld j hj e := h.ld j hj (by rwa [updV_other _ _ (by omega)] at e)
  cl j hj e := h.cl j hj (by rwa [updV_other _ _ (by omega)] at e)
  al j hj e := by
    rw [updV_other _ _ (by omega)] at e
    obtain ⟨h1, h2, cs, h3, h4, h5⟩ := h.al j hj e
    by_cases hjk : j = k
    · subst hjk
      exact ⟨h1, h2, cells, setRow_heap _ _ _ _ _ _ h3, hz, fun _ => he⟩
    · exact ⟨h1, h2, cs, row_far h3 (h.ap j k hj hk hjk e ha) _, h4, fun e' => h5 (by rwa [updV_other _ _ (by omega)] at e')⟩
  st j hj e := by
    rw [updV_other _ _ (by omega), updV_other _ _ (by omega)]
    by_cases hjk : j = k
    · subst hjk; exact ⟨hc, ha⟩
    · exact h.st j hj (by rwa [updV_other _ _ (by omega)] at e)
  ap j l hj hl hne e e' := h.ap j l hj hl hne (by rwa [updV_other _ _ (by omega)] at e) (by rwa [updV_other _ _ (by omega)] at e')
theorem CI.fin (h : CI N0 RW Res L V C S n w) (hL : ∀ j, j < 16 → L j = true) (k : Nat) (hk : k < 4) : ∃ r i : Nat → Nat, Res k r i ∧ S k = .pointer (some ⟨n k, 0, none⟩) ∧ N0 ≤ n k ∧ w.heap[n k]? = some (.cells #[.complex .f64 (r 0) (i 0), .complex .f64 (r 1) (i 1), .complex .f64 (r 2) (i 2), .complex .f64 (r 3) (i 3)] 31 (0, 0)) := by
  obtain ⟨r, i, h1, h2⟩ := h.cl k hk (hL _ (by omega))
  obtain ⟨h3, h4, cs, h5, _, h6⟩ := h.al k hk (hL _ (by omega))
  have h7 := h6 (hL _ (by omega))
  rw [h1] at h7
  obtain rfl := Value.agg.inj h7
  exact ⟨r, i, h2, h3, h4, h5⟩
end
theorem wp_alloc31 {o : Oper} {a : Act} {w : World} {K : Act → World → Prop} {Q : Exit → Act → World → Prop} (ho : o.op = .alloc 31)
    (h : K (a.put o.dst (.pointer (some ⟨w.heap.size, 0, none⟩))) (w.alloc (.cells #[.complex .f64 0 0, .complex .f64 0 0, .complex .f64 0 0, .complex .f64 0 0] 31 (0, 0)))) : o.wp Try.prog a w K Q := by
  have e : (execOp a.eval o).run Try.prog w = .ok (.value (.pointer (some ⟨w.heap.size, 0, none⟩))) (w.alloc (.cells #[.complex .f64 0 0, .complex .f64 0 0, .complex .f64 0 0, .complex .f64 0 0] 31 (0, 0))) := by
    unfold execOp
    rw [ho]
    kernel_rfl
  unfold Oper.wp
  rw [e, Oper.upon_value]
  exact h
theorem rotr_add (m : Nat) (a b c d : Int) : rotr m (a + c) (b + d) = rotr m a b + rotr m c d := by
  match m with
  | 0 => rfl
  | 1 => simp only [rotr]; omega
  | 2 => simp only [rotr]; omega
  | _ + 3 => rfl
theorem roti_add (m : Nat) (a b c d : Int) : roti m (a + c) (b + d) = roti m a b + roti m c d := by
  match m with
  | 0 => rfl
  | 1 => rfl
  | 2 => simp only [roti]; omega
  | _ + 3 => simp only [roti]; omega
theorem Sr_add (x y x' y' : Nat → Int) (k : Int) : ∀ j, Sr (fun j => x j + x' j) (fun j => y j + y' j) k j = Sr x y k j + Sr x' y' k j
  | 0 => rfl
  | j + 1 => by
    simp only [Sr, Sr_add x y x' y' k j, rotr_add]
    omega
theorem Si_add (x y x' y' : Nat → Int) (k : Int) : ∀ j, Si (fun j => x j + x' j) (fun j => y j + y' j) k j = Si x y k j + Si x' y' k j
  | 0 => rfl
  | j + 1 => by
    simp only [Si, Si_add x y x' y' k j, roti_add]
    omega
theorem rot_mul2 (m t : Nat) (a b : Int) : rotr m (a * ire t - b * iim t) (a * iim t + b * ire t) = rotr m a b * ire t - roti m a b * iim t ∧ roti m (a * ire t - b * iim t) (a * iim t + b * ire t) = rotr m a b * iim t + roti m a b * ire t := by
  match t with
  | 0 => match m with
    | 0 => simp [rotr, roti, ire, iim]
    | 1 => simp [rotr, roti, ire, iim]
    | 2 => simp [rotr, roti, ire, iim]
    | _ + 3 => simp [rotr, roti, ire, iim]
  | 1 => match m with
    | 0 => simp [rotr, roti, ire, iim]
    | 1 => simp [rotr, roti, ire, iim]
    | 2 => simp [rotr, roti, ire, iim]
    | _ + 3 => simp [rotr, roti, ire, iim]
  | 2 => match m with
    | 0 => simp [rotr, roti, ire, iim]
    | 1 => simp [rotr, roti, ire, iim]
    | 2 => simp [rotr, roti, ire, iim]
    | _ + 3 => simp [rotr, roti, ire, iim]
  | _ + 3 => match m with
    | 0 => simp [rotr, roti, ire, iim]
    | 1 => simp [rotr, roti, ire, iim]
    | 2 => simp [rotr, roti, ire, iim]
    | _ + 3 => simp [rotr, roti, ire, iim]
theorem S_mul (x y : Nat → Int) (t : Nat) (k : Int) : ∀ j, Sr (fun j => x j * ire t - y j * iim t) (fun j => x j * iim t + y j * ire t) k j = Sr x y k j * ire t - Si x y k j * iim t ∧ Si (fun j => x j * ire t - y j * iim t) (fun j => x j * iim t + y j * ire t) k j = Sr x y k j * iim t + Si x y k j * ire t
  | 0 => by simp [Sr, Si]
  | j + 1 => by
    obtain ⟨h1, h2⟩ := S_mul x y t k j
    obtain ⟨h3, h4⟩ := rot_mul2 (((j : Int) * k) % 4).toNat t (x j) (y j)
    simp only [Sr, Si, h1, h2, h3, h4, Int.add_mul]
    omega
/-- A number times a power of the unit, in the bounds. -/
theorem unit_mul (t : Nat) {a b : Int} {B : Nat} (ha : a.natAbs ≤ B) (hb : b.natAbs ≤ B) :
    (a * ire t).natAbs ≤ B ∧ (b * iim t).natAbs ≤ B ∧ (a * iim t).natAbs ≤ B ∧ (b * ire t).natAbs ≤ B ∧ (a * ire t - b * iim t).natAbs ≤ B ∧ (a * iim t + b * ire t).natAbs ≤ B := by
  match t with
  | 0 => simp only [ire, iim]; omega
  | 1 => simp only [ire, iim]; omega
  | 2 => simp only [ire, iim]; omega
  | _ + 3 => simp only [ire, iim]; omega
end Go.Proofs.Ytehjjjdelpbkpaa
