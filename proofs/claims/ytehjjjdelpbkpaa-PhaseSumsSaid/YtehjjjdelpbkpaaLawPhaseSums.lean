/-
  PhaseSums: the law's walk, and its row.
-/
import Derived.Test.YtehjjjdelpbkpaaP9
import Derived.Test.YtehjjjdelpbkpaaPT
import Derived.Test.YtehjjjdelpbkpaaP4b
namespace Go.Proofs.Ytehjjjdelpbkpaa
open Go.RowKit Go Go.Proofs.YtehjjjdelpbkpaaW.PrintWords
open F
attribute [local go_sem] run_store_complex
def cutS (x : Nat → Int) (j : Nat) : Int := (x j).tmod 17179869184
def ri4 (r i : Nat → Nat) : Array Value := #[.complex .f64 (r 0) (i 0), .complex .f64 (r 1) (i 1), .complex .f64 (r 2) (i 2), .complex .f64 (r 3) (i 3)]
theorem ri4_at (r i : Nat → Nat) (k : Nat) (hk : k < 4) : (ri4 r i)[k]? = some (.complex .f64 (r k) (i k)) := by
  have h4 : k = 0 ∨ k = 1 ∨ k = 2 ∨ k = 3 := by omega
  rcases h4 with rfl | rfl | rfl | rfl <;> rfl
theorem ri4_size (r i : Nat → Nat) : (ri4 r i).size = 4 := rfl
theorem ri4_one (r i : Nat → Nat) : (ri4 r i).all (·.oneCell') = true := by simp [ri4, Value.oneCell']
theorem ri4_set (r i : Nat → Nat) (k : Nat) (hk : k < 4) (a b : Nat) : (ri4 r i).setIfInBounds k (.complex .f64 a b) = ri4 (updV r k a) (updV i k b) := by
  have h4 : k = 0 ∨ k = 1 ∨ k = 2 ∨ k = 3 := by omega
  rcases h4 with rfl | rfl | rfl | rfl <;> rfl
/-- What 'four' gives, at the sums' width. -/
theorem four_sums (x y : Nat → Int) (w : World) : Calls Try.prog 16 #[.agg (row8 x y), .int .u64 34] w fun e w' => ∃ a b : Nat → Nat, e = .returned (.tuple #[.agg (row8 (cutS x) (cutS y)), .agg (ri4 a b)]) ∧ (∀ k, k < 4 → Fl (a k) (cutS x k) ∧ Fl (b k) (cutS y k)) ∧ Below w.heap.size w w' := four34_any x y w
theorem wpList_store_rowW {P : Program} {ops : Array Oper} {rest : List Oper} {o : Oper} {a : Act} {w : World} {Q : Exit → Act → World → Prop} (hgd : o.guard = none) (ty : TypeId) (x y : Operand) (ho : o.op = .store ty x y)
    (g : Nat) (cells : Array Value) (hx : a.eval x = .pointer (some ⟨g, 0, none⟩)) (hy : a.eval y = .agg cells)
    (t : TypeId) (old : Array Value) (hg : w.heap[g]? = some (.cells old t (0, 0))) (hi : (P.info? ty).map (·.size) = some cells.size)
    (hold : old.size = cells.size) (h1 : cells.all (·.oneCell') = true)
    (h : ∀ W, W = w.setRow g cells → wpList P ops Q rest (a.put o.dst undef) W) : wpList P ops Q (o :: rest) a w :=
  wpList_store_row hgd ty x y ho g cells hx hy t old hg hi hold h1 (h _ rfl)
theorem blk_second (w : World) (o o' : Obj) : ((w.alloc o).alloc o').heap[w.heap.size + 1]? = some o' := by
  have h := blk_new (w.alloc o) o'
  have e : (w.alloc o).heap.size = w.heap.size + 1 := by simp
  rw [e] at h
  exact h
structure KZ (w : World) (g8 g10 : Nat) (RA RB : Array Value) (W : World) : Prop where
  a : W.heap[g8]? = some (.cells RA 31 (0, 0))
  b : W.heap[g10]? = some (.cells RB 31 (0, 0))
  below : Below w.heap.size w W
structure KL (w : World) (g8 g10 g11 g12 : Nat) (RA RB RC RD : Array Value) (W : World) : Prop where
  z : KZ w g8 g10 RA RB W
  c : W.heap[g11]? = some (.cells RC 31 (0, 0))
  d : W.heap[g12]? = some (.cells RD 31 (0, 0))
  l8 : w.heap.size ≤ g8 ∧ g8 < g11
  l10 : w.heap.size ≤ g10 ∧ g10 < g11
  l12 : g12 = g11 + 1
theorem KL.setc {w : World} {g8 g10 g11 g12 : Nat} {RA RB RD : Array Value} {r i : Nat → Nat} {W : World} (h : KL w g8 g10 g11 g12 RA RB (ri4 r i) RD W) (k : Nat) (hk : k < 4) (a b : Nat) : KL w g8 g10 g11 g12 RA RB (ri4 (updV r k a) (updV i k b)) RD (W.setCell ⟨g11, k, none⟩ (.complex .f64 a b)) := by
  have h8 := h.l8
  have h10 := h.l10
  have h12 := h.l12
  exact ⟨⟨blk_far h.z.a (by simp only [ne_eq]; omega) _, blk_far h.z.b (by simp only [ne_eq]; omega) _, h.z.below.setCell (p := ⟨g11, k, none⟩) (by simp; omega) _⟩, blk_put h.c k _ (ri4_set r i k hk a b), blk_far h.d (by simp only [ne_eq]; omega) _, h8, h10, h12⟩
theorem KL.setd {w : World} {g8 g10 g11 g12 : Nat} {RA RB RC : Array Value} {r i : Nat → Nat} {W : World} (h : KL w g8 g10 g11 g12 RA RB RC (ri4 r i) W) (k : Nat) (hk : k < 4) (a b : Nat) : KL w g8 g10 g11 g12 RA RB RC (ri4 (updV r k a) (updV i k b)) (W.setCell ⟨g12, k, none⟩ (.complex .f64 a b)) := by
  have h8 := h.l8
  have h10 := h.l10
  have h12 := h.l12
  exact ⟨⟨blk_far h.z.a (by simp only [ne_eq]; omega) _, blk_far h.z.b (by simp only [ne_eq]; omega) _, h.z.below.setCell (p := ⟨g12, k, none⟩) (by simp; omega) _⟩, blk_far h.c (by simp only [ne_eq]; omega) _, blk_put h.d k _ (ri4_set r i k hk a b), h8, h10, h12⟩
theorem KL.drew {w : World} {g8 g10 g11 g12 : Nat} {RA RB RC RD : Array Value} {W : World} (h : KL w g8 g10 g11 g12 RA RB RC RD W) : KL w g8 g10 g11 g12 RA RB RC RD W.drew := ⟨⟨h.z.a, h.z.b, h.z.below.drew⟩, h.c, h.d, h.l8, h.l10, h.l12⟩
theorem KL.new {w : World} {g8 g10 : Nat} {RA RB : Array Value} {W : World} (h : KZ w g8 g10 RA RB W) (h8 : w.heap.size ≤ g8) (h10 : w.heap.size ≤ g10) (z : Array Value) : KL w g8 g10 W.heap.size (W.heap.size + 1) RA RB z z ((W.alloc (.cells z 31)).alloc (.cells z 31)) :=
  ⟨⟨blk_keep (blk_keep h.a _) _, blk_keep (blk_keep h.b _) _, below_more (below_more h.below _) _⟩, blk_keep (blk_new W _) _, blk_second W _ _, ⟨h8, blk_lt h.a⟩, ⟨h10, blk_lt h.b⟩, rfl⟩
/-- The sums and the turned, as far as they have been laid. -/
def Sums (x y x' y' : Nat → Int) (t : Nat) (rc ic rd id : Nat → Nat) (k : Nat) : Prop :=
  ∀ j, j < k → (Fl (rc j) (x j + x' j) ∧ Fl (ic j) (y j + y' j)) ∧ Fl (rd j) (x j * ire t - y j * iim t) ∧ Fl (id j) (x j * iim t + y j * ire t)
theorem Sums.step {x y x' y' : Nat → Int} {t : Nat} {rc ic rd id : Nat → Nat} {k : Nat} (h : Sums x y x' y' t rc ic rd id k) {a b c d : Nat} (ha : Fl a (x k + x' k)) (hb : Fl b (y k + y' k)) (hc : Fl c (x k * ire t - y k * iim t)) (hd : Fl d (x k * iim t + y k * ire t)) : Sums x y x' y' t (updV rc k a) (updV ic k b) (updV rd k c) (updV id k d) (k + 1) := by
  intro j hj
  by_cases hjk : j = k
  · subst hjk
    simp only [updV_same]
    exact ⟨⟨ha, hb⟩, hc, hd⟩
  · simp only [updV_other _ _ hjk]
    exact h j (by omega)
def pick4 {α : Type} (a b c d : α) : Nat → α
  | 0 => a
  | 1 => b
  | 2 => c
  | _ => d
/-- The four of a row of whole numbers. -/
def FW (x y : Nat → Int) (r i : Nat → Nat) : Prop := ∀ k, k < 4 → Fl (r k) (Sr x y (-(k : Int)) 4) ∧ Fl (i k) (Si x y (-(k : Int)) 4)
theorem four_of (R : Array Value) (a b : Nat → Nat) (x y : Nat → Int) (h : arr4 a b = .agg R) (ha : ∀ j, j < 4 → Fl (a j) (x j)) (hb : ∀ j, j < 4 → Fl (b j) (y j)) (hx : ∀ j, j < 4 → (x j).natAbs ≤ 34359738368) (hy : ∀ j, j < 4 → (y j).natAbs ≤ 34359738368) (w : World) :
    Calls Try.prog 17 #[.agg R] w fun e w' => ∃ r i : Nat → Nat, e = .returned (arr4 r i) ∧ FW x y r i ∧ Below w.heap.size w w' := by
  rw [← h]
  exact Forth_any a b x y 34359738368 (by omega) ha hb hx hy w
/-- What is asked of the fours at one place. -/
theorem sums_at {X Y X' Y' : Nat → Int} {t : Nat} (B : ∀ j, (X j).natAbs < 17179869184 ∧ (Y j).natAbs < 17179869184 ∧ (X' j).natAbs < 17179869184 ∧ (Y' j).natAbs < 17179869184) {rp ip rq iq rs is rt it : Nat → Nat}
    (hp : FW X Y rp ip) (hq : FW X' Y' rq iq) (hs : FW (fun j => X j + X' j) (fun j => Y j + Y' j) rs is) (ht : FW (fun j => X j * ire t - Y j * iim t) (fun j => X j * iim t + Y j * ire t) rt it) (n : Nat) (hn : n < 4) :
    (∃ re im, (FloatKind.f64.format.order (rs n) re == some .eq) = true ∧ (FloatKind.f64.format.order (is n) im == some .eq) = true ∧ ∀ (t' : TypeId) (W : World), (binOp .add t' (.complex .f64 (rp n) (ip n)) (.complex .f64 (rq n) (iq n))).run Try.prog W = .ok (.complex .f64 re im) W) ∧
    (∃ re im, (FloatKind.f64.format.order (rt n) re == some .eq) = true ∧ (FloatKind.f64.format.order (it n) im == some .eq) = true ∧ ∀ (t' : TypeId) (W : World), (binOp .mul t' (.complex .f64 (rp n) (ip n)) (.complex .f64 (tre t) (tim t))).run Try.prog W = .ok (.complex .f64 re im) W) := by
  have b1 := Sr_abs X Y (-(n : Int)) 17179869184 (fun j _ => Nat.le_of_lt (B j).1) (fun j _ => Nat.le_of_lt (B j).2.1) 4 (by omega)
  have b2 := Si_abs X Y (-(n : Int)) 17179869184 (fun j _ => Nat.le_of_lt (B j).1) (fun j _ => Nat.le_of_lt (B j).2.1) 4 (by omega)
  have b3 := Sr_abs X' Y' (-(n : Int)) 17179869184 (fun j _ => Nat.le_of_lt (B j).2.2.1) (fun j _ => Nat.le_of_lt (B j).2.2.2) 4 (by omega)
  have b4 := Si_abs X' Y' (-(n : Int)) 17179869184 (fun j _ => Nat.le_of_lt (B j).2.2.1) (fun j _ => Nat.le_of_lt (B j).2.2.2) 4 (by omega)
  constructor
  · obtain ⟨re, im, h1, h2, h3⟩ := cadd (hp n hn).1 (hp n hn).2 (hq n hn).1 (hq n hn).2 (by omega) (by omega)
    exact ⟨re, im, (fl_eq' (hs n hn).1 h1).trans (decide_eq_true (Sr_add X Y X' Y' _ 4)), (fl_eq' (hs n hn).2 h2).trans (decide_eq_true (Si_add X Y X' Y' _ 4)), h3⟩
  · have u := unit_mul t b1 b2
    obtain ⟨re, im, h1, h2, h3⟩ := cmul (hp n hn).1 (hp n hn).2 (fl_tre t) (fl_tim t) (by omega) (by omega) (by omega) (by omega) (by omega) (by omega)
    exact ⟨re, im, (fl_eq' (ht n hn).1 h1).trans (decide_eq_true (S_mul X Y t _ 4).1), (fl_eq' (ht n hn).2 h2).trans (decide_eq_true (S_mul X Y t _ 4).2), h3⟩
theorem all4 {p : Nat → Prop} (h0 : p 0) (h1 : p 1) (h2 : p 2) (h3 : p 3) : ∀ k, k < 4 → p k := fun k hk => match k, hk with
  | 0, _ => h0
  | 1, _ => h1
  | 2, _ => h2
  | 3, _ => h3
structure KP (w : World) (g14 g15 g16 g17 : Nat) (RP RQ RS RT : Array Value) (W : World) : Prop where
  p : W.heap[g14]? = some (.cells RP 31 (0, 0))
  q : W.heap[g15]? = some (.cells RQ 31 (0, 0))
  s : W.heap[g16]? = some (.cells RS 31 (0, 0))
  t : W.heap[g17]? = some (.cells RT 31 (0, 0))
  below : Below w.heap.size w W
theorem KP.drew {w : World} {g14 g15 g16 g17 : Nat} {RP RQ RS RT : Array Value} {W : World} (h : KP w g14 g15 g16 g17 RP RQ RS RT W) : KP w g14 g15 g16 g17 RP RQ RS RT W.drew := ⟨h.p, h.q, h.s, h.t, h.below.drew⟩
set_option maxHeartbeats 4000000 in
set_option maxRecDepth 100000 in
theorem PhaseSums_any (x y x' y' : Nat → Int) (k : Int) (w : World) : Calls Try.prog 6 #[arr8 x y, arr8 x' y', .int .i64 k] w fun e w' => e = .returned (.bool true) ∧ Below w.heap.size w w' := by
  have HFA := Lib.hid (four_sums x y)
  have HFB := Lib.hid (four_sums x' y')
  have a1 := r8_size x y
  have a2 := r8_size x' y'
  have b1 := r8_size (cutS x) (cutS y)
  have b2 := Lib.hid (r8_one (cutS x) (cutS y))
  have b3 := r8_size (cutS x') (cutS y')
  have b4 := Lib.hid (r8_one (cutS x') (cutS y'))
  unfold arr8
  generalize row8 x y = A8 at HFA a1
  generalize row8 x' y' = B8 at HFB a2
  generalize row8 (cutS x) (cutS y) = C8 at HFA b1 b2
  generalize row8 (cutS x') (cutS y') = D8 at HFB b3 b4
  have tok1 : True := trivial
  have tok2 : True := trivial
  have tok3 : True := trivial
  have tok4 : True := trivial
  have tok5 : True := trivial
  have tok6 : True := trivial
  have tok7 : True := trivial
  have tok8 : True := trivial
  go_enter Try.func6, Try.ntmps6
  go_wp2_with (first
    | (have _t := tok1; refine wpList_load_row rfl 30 (.tmp 3) rfl w.heap.size rfl 30 A8 (0, 0) (.array 4 26) (blk_keep (blk_new w _) _) Try.underlying30 rfl (by rw [a1]; kernel_rfl) ?_; clear _t tok1)
    | (have _t := tok2; go_at_call 16; (refine (HFA.out _).mono ?_); rintro e w1 ⟨ra, ia, rfl, hf, hb1⟩; have FA := Lib.hid hf; have HB1 := Lib.hid (below_two (below_more (below_one w _) _) hb1); have H4 := Lib.hid (blk_below (blk_second w _ _) hb1); have c1 := ri4_size ra ia; have c2 := Lib.hid (ri4_one ra ia); have RA4 := Lib.hid (ri4_at ra ia); have hRA := Lib.hid (show arr4 ra ia = .agg (ri4 ra ia) from rfl); generalize ri4 ra ia = RA at c1 c2 RA4 hRA; clear hf hb1 _t tok2)
    | (have _t := tok3; refine wpList_store_row rfl 30 (.tmp 7) (.tmp 22) rfl w1.heap.size C8 rfl rfl 30 _ (blk_keep (blk_new w1 _) _) (by rw [b1]; kernel_rfl) (by rw [b1]; rfl) b2.out ?_; clear _t tok3)
    | (have _t := tok4; refine wpList_store_rowW rfl 31 (.tmp 8) (.tmp 23) rfl (w1.heap.size + 1) RA rfl rfl 31 _ (row_far (blk_second w1 _ _) (by omega) _) (by rw [c1]; kernel_rfl) (by rw [c1]; rfl) c2.out ?_; intro w2 hw2; have H42 : Hid (w2.heap[w.heap.size + 1]? = some (.cells B8 30 (0, 0))) := (by rw [hw2]; have h0 := H4.out; exact row_far (row_far (blk_keep (blk_keep h0 _) _) (Nat.ne_of_lt (blk_lt h0)) _) (Nat.ne_of_lt (Nat.lt_succ_of_lt (blk_lt h0))) _); have H82 : Hid (w2.heap[w1.heap.size + 1]? = some (.cells RA 31 (0, 0))) := (by rw [hw2]; exact setRow_heap _ _ _ _ _ _ (row_far (blk_second w1 _ _) (by omega) _)); have HB2 : Hid (Below w.heap.size w w2) := (by rw [hw2]; exact below_setRow (below_setRow (below_more (below_more HB1.out _) _) HB1.out.size _) (Nat.le_succ_of_le HB1.out.size) _); have hg8 : w.heap.size ≤ w1.heap.size + 1 := Nat.le_succ_of_le HB1.out.size; clear hw2 H4 HB1 _t tok4)
    | (have _t := tok5; refine wpList_load_row rfl 30 (.tmp 4) rfl (w.heap.size + 1) rfl 30 B8 (0, 0) (.array 4 26) H42.out Try.underlying30 rfl (by rw [a2]; kernel_rfl) ?_; clear _t tok5)
    | (have _t := tok6; go_at_call 16; (refine (HFB.out _).mono ?_); rintro e w3 ⟨rb, ib, rfl, hf, hb3⟩; have FB := Lib.hid hf; have HB3 := Lib.hid (below_two HB2.out hb3); have H83 := Lib.hid (blk_below H82.out hb3); have d1 := ri4_size rb ib; have d2 := Lib.hid (ri4_one rb ib); have RB4 := Lib.hid (ri4_at rb ib); have hRB := Lib.hid (show arr4 rb ib = .agg (ri4 rb ib) from rfl); generalize ri4 rb ib = RB at d1 d2 RB4 hRB; clear hf hb3 H42 H82 HB2 _t tok6)
    | (have _t := tok7; refine wpList_store_row rfl 30 (.tmp 9) (.tmp 27) rfl w3.heap.size D8 rfl rfl 30 _ (blk_keep (blk_new w3 _) _) (by rw [b3]; kernel_rfl) (by rw [b3]; rfl) b4.out ?_; clear _t tok7)
    | (have _t := tok8; refine wpList_store_rowW rfl 31 (.tmp 10) (.tmp 28) rfl (w3.heap.size + 1) RB rfl rfl 31 _ (row_far (blk_second w3 _ _) (by omega) _) (by rw [d1]; kernel_rfl) (by rw [d1]; rfl) d2.out ?_; intro w4 hw4; have HZ : KZ w (w1.heap.size + 1) (w3.heap.size + 1) RA RB w4 := (by rw [hw4]; have h0 := H83.out; exact ⟨row_far (row_far (blk_keep (blk_keep h0 _) _) (Nat.ne_of_lt (blk_lt h0)) _) (Nat.ne_of_lt (Nat.lt_succ_of_lt (blk_lt h0))) _, setRow_heap _ _ _ _ _ _ (row_far (blk_second w3 _ _) (by omega) _), below_setRow (below_setRow (below_more (below_more HB3.out _) _) HB3.out.size _) (Nat.le_succ_of_le HB3.out.size) _⟩); have hg10 : w.heap.size ≤ w3.heap.size + 1 := Nat.le_succ_of_le HB3.out.size; generalize w1.heap.size + 1 = g8 at HZ hg8 ⊢; generalize w3.heap.size + 1 = g10 at HZ hg10 ⊢; clear hw4 H83 HB3 _t tok8))
  have HL0 := Lib.hid (KL.new HZ hg8 hg10 #[.complex .f64 0 0, .complex .f64 0 0, .complex .f64 0 0, .complex .f64 0 0])
  generalize World.alloc (World.alloc w4 (.cells #[.complex .f64 0 0, .complex .f64 0 0, .complex .f64 0 0, .complex .f64 0 0] 31)) (.cells #[.complex .f64 0 0, .complex .f64 0 0, .complex .f64 0 0, .complex .f64 0 0] 31) = w5 at HL0 ⊢
  generalize w4.heap.size + 1 = g12 at HL0 ⊢
  generalize w4.heap.size = g11 at HL0 ⊢
  clear HZ hg8 hg10 HFA HFB a1 a2 b1 b2 b3 b4
  obtain ⟨t, ht⟩ : ∃ t, t = (k % 4).toNat := ⟨_, rfl⟩
  have HT : Hid (∀ w : World, Calls Try.prog 13 #[.int .i64 k] w fun e w' => e = .returned (.complex .f64 (tre t) (tim t)) ∧ w = w') := by rw [ht]; exact fun w => Turn_any k w
  clear ht
  have BX : Hid (∀ j, (cutS x j).natAbs < 17179869184 ∧ (cutS y j).natAbs < 17179869184 ∧ (cutS x' j).natAbs < 17179869184 ∧ (cutS y' j).natAbs < 17179869184) := fun j => ⟨tmod_lt _ 17179869184 (by omega), tmod_lt _ 17179869184 (by omega), tmod_lt _ 17179869184 (by omega), tmod_lt _ 17179869184 (by omega)⟩
  generalize cutS x = X at FA BX
  generalize cutS y = Y at FA BX
  generalize cutS x' = X' at FB BX
  generalize cutS y' = Y' at FB BX
  go_loopw [13, 29] (fun v13 v29 wr => ∃ (n : Nat) (rc ic rd id : Nat → Nat), n ≤ 4 ∧ v29 = .int .i64 (n : Int) ∧ Hid (Sums X Y X' Y' t rc ic rd id n) ∧ Hid (KL w g8 g10 g11 g12 RA RB (ri4 rc ic) (ri4 rd id) wr)) (fun _ v29 _ => 4 - (intOf v29).toNat)
  case atStart => exact ⟨0, fun _ => 0, fun _ => 0, fun _ => 0, fun _ => 0, by omega, rfl, fun j hj => absurd hj (by omega), HL0⟩
  case round =>
    obtain ⟨n, rc, ic, rd, id, hn, rfl, hs, hl⟩ := hrel
    by_cases hlt : n < 4
    · have hI1 : (0 : Int) ≤ (n : Int) := by omega
      have hI2 : (n : Int) < 4 := by omega
      obtain ⟨re, im, F1, F2, hadd⟩ := cadd (FA.out n hlt).1 (FA.out n hlt).2 (FB.out n hlt).1 (FB.out n hlt).2 (by have := BX.out n; omega) (by have := BX.out n; omega)
      obtain ⟨re2, im2, F3, F4, hmul⟩ : ∃ re im, Fl re (X n * ire t - Y n * iim t) ∧ Fl im (X n * iim t + Y n * ire t) ∧ ∀ (t' : TypeId) (W : World), (binOp .mul t' (.complex .f64 (ra n) (ia n)) (.complex .f64 (tre t) (tim t))).run Try.prog W = .ok (.complex .f64 re im) W := by
        have hb := BX.out n
        have hu := unit_mul t (Nat.le_of_lt hb.1) (Nat.le_of_lt hb.2.1)
        exact cmul (FA.out n hlt).1 (FA.out n hlt).2 (fl_tre t) (fl_tim t) (by omega) (by omega) (by omega) (by omega) (by omega) (by omega)
      have HS2 := Lib.hid (hs.out.step F1 F2 F3 F4)
      have HL1 := Lib.hid (hl.out.setc n hlt re im).drew
      have q1 : wr.cell? ⟨g8, n, none⟩ = some (.complex .f64 (ra n) (ia n)) := (blk_cell hl.out.z.a n).trans (RA4.out n hlt)
      have q2 : wr.cell? ⟨g10, n, none⟩ = some (.complex .f64 (rb n) (ib n)) := (blk_cell hl.out.z.b n).trans (RB4.out n hlt)
      have q3 : wr.cell? ⟨g11, n, none⟩ = some (.complex .f64 (rc n) (ic n)) := (blk_cell hl.out.c n).trans (ri4_at rc ic n hlt)
      have q4 : wr.frozen? ⟨g11, n, none⟩ = false := blk_frozen hl.out.c n
      clear F1 F2 F3 F4 hs
      go_upto_region 7 with fail
      go_still_tail 9, (by kernel_rfl)
      change wpList _ _ _ _ _ wr.drew
      go_upto_region 8 with fail
      clear q1 q2 q3 q4 hl
      generalize World.drew (World.setCell wr ⟨g11, n, none⟩ (.complex .f64 re im)) = W2 at HL1 ⊢
      have q1 : W2.cell? ⟨g8, n, none⟩ = some (.complex .f64 (ra n) (ia n)) := (blk_cell HL1.out.z.a n).trans (RA4.out n hlt)
      have q3 : W2.cell? ⟨g12, n, none⟩ = some (.complex .f64 (rd n) (id n)) := (blk_cell HL1.out.d n).trans (ri4_at rd id n hlt)
      have q4 : W2.frozen? ⟨g12, n, none⟩ = false := blk_frozen HL1.out.d n
      have HL2 := Lib.hid (HL1.out.drew.setd n hlt re2 im2)
      go_still_tail 8, (by kernel_rfl)
      still_call ((HT.out _).mono fun _ _ h => ⟨h.1, h.2.symm⟩)
      repeat still_step
      refine wpStill_nil ?_
      change wpList _ _ _ _ _ W2.drew
      go_wp2
      go_roundw
      case rel => exact ⟨n + 1, _, _, _, _, by omega, by go_num, HS2, HL2⟩
      case measure => simp [intOf]; omega
    · obtain rfl : n = 4 := by omega
      have HW : Hid (∀ j, j < 4 → ∀ w, Calls Try.prog 17 #[.agg (pick4 RA RB (ri4 rc ic) (ri4 rd id) j)] w fun e w' => ∃ r i : Nat → Nat, e = .returned (arr4 r i) ∧ FW (pick4 X X' (fun j => X j + X' j) (fun j => X j * ire t - Y j * iim t) j) (pick4 Y Y' (fun j => Y j + Y' j) (fun j => X j * iim t + Y j * ire t) j) r i ∧ Below w.heap.size w w') := by
        have hB := BX.out
        have hu := fun j => unit_mul t (Nat.le_of_lt (hB j).1) (Nat.le_of_lt (hB j).2.1)
        refine all4 ?_ ?_ ?_ ?_
        · exact four_of RA ra ia X Y hRA.out (fun j hj => (FA.out j hj).1) (fun j hj => (FA.out j hj).2) (fun j _ => by have := hB j; omega) (fun j _ => by have := hB j; omega)
        · exact four_of RB rb ib X' Y' hRB.out (fun j hj => (FB.out j hj).1) (fun j hj => (FB.out j hj).2) (fun j _ => by have := hB j; omega) (fun j _ => by have := hB j; omega)
        · exact four_of (ri4 rc ic) rc ic (fun j => X j + X' j) (fun j => Y j + Y' j) rfl (fun j hj => (hs.out j hj).1.1) (fun j hj => (hs.out j hj).1.2) (fun j _ => by have := hB j; show (X j + X' j).natAbs ≤ _; omega) (fun j _ => by have := hB j; show (Y j + Y' j).natAbs ≤ _; omega)
        · exact four_of (ri4 rd id) rd id (fun j => X j * ire t - Y j * iim t) (fun j => X j * iim t + Y j * ire t) rfl (fun j hj => (hs.out j hj).2.1) (fun j hj => (hs.out j hj).2.2) (fun j _ => Nat.le_trans (hu j).2.2.2.2.1 (by omega)) (fun j _ => Nat.le_trans (hu j).2.2.2.2.2 (by omega))
      have HR : Hid (∀ j, j < 4 → wr.heap[pick4 g8 g10 g11 g12 j]? = some (.cells (pick4 RA RB (ri4 rc ic) (ri4 rd id) j) 31 (0, 0))) := all4 hl.out.z.a hl.out.z.b hl.out.c hl.out.d
      have HRs : Hid (∀ j, j < 4 → (pick4 RA RB (ri4 rc ic) (ri4 rd id) j).size = 4) := all4 c1 d1 rfl rfl
      have HBW := Lib.hid hl.out.z.below
      clear hl hs HL0 FA FB c1 c2 d1 d2 hRA hRB RA4 RB4
      generalize ri4 rc ic = RC at HW HR HRs
      generalize ri4 rd id = RD at HW HR HRs
      go_wp2
      refine sums_region (src := pick4 8 10 11 12) ⟨rfl, by kernel_rfl, all4 ⟨_, rfl, rfl, rfl, rfl⟩ ⟨_, rfl, rfl, rfl, rfl⟩ ⟨_, rfl, rfl, rfl, rfl⟩ ⟨_, rfl, rfl, rfl, rfl⟩, all4 ⟨_, rfl, rfl, rfl, rfl⟩ ⟨_, rfl, rfl, rfl, rfl⟩ ⟨_, rfl, rfl, rfl, rfl⟩ ⟨_, rfl, rfl, rfl, rfl⟩, all4 ⟨_, rfl, rfl, rfl, rfl⟩ ⟨_, rfl, rfl, rfl, rfl⟩ ⟨_, rfl, rfl, rfl, rfl⟩ ⟨_, rfl, rfl, rfl, rfl⟩, all4 ⟨_, rfl, rfl, rfl, rfl⟩ ⟨_, rfl, rfl, rfl, rfl⟩ ⟨_, rfl, rfl, rfl, rfl⟩ ⟨_, rfl, rfl, rfl, rfl⟩, all4 (by kernel_rfl) (by kernel_rfl) (by kernel_rfl) (by kernel_rfl), all4 ⟨by kernel_rfl, by kernel_rfl⟩ ⟨by kernel_rfl, by kernel_rfl⟩ ⟨by kernel_rfl, by kernel_rfl⟩ ⟨by kernel_rfl, by kernel_rfl⟩⟩
        (all4 (by decide) (by decide) (by decide) (by decide)) (by kernel_rfl) (pick4 g8 g10 g11 g12) (pick4 RA RB RC RD) (fun j => FW (pick4 X X' (fun j => X j + X' j) (fun j => X j * ire t - Y j * iim t) j) (pick4 Y Y' (fun j => Y j + Y' j) (fun j => X j * iim t + Y j * ire t) j)) (all4 rfl rfl rfl rfl) HR.out HRs.out HW.out (by kernel_rfl) ?_
      intro V C S W hBW hk
      obtain ⟨rp, ip, g14, hp, sp, lp, bp⟩ := hk 0 (by omega)
      obtain ⟨rq, iq, g15, hq, sq, lq, bq⟩ := hk 1 (by omega)
      obtain ⟨rs, is, g16, hs, ss, ls, bs⟩ := hk 2 (by omega)
      obtain ⟨rt, it, g17, ht, st, lt, bt⟩ := hk 3 (by omega)
      have HS : Hid (∀ n, n < 4 → _) := fun n hn => sums_at BX.out hp hq hs ht n hn
      have HP : Hid (KP w g14 g15 g16 g17 (ri4 rp ip) (ri4 rq iq) (ri4 rs is) (ri4 rt it) W) := ⟨bp, bq, bs, bt, below_two HBW.out hBW⟩
      rw [sp, sq, ss, st]
      generalize V 0 = V0
      generalize V 1 = V1
      generalize V 2 = V2
      generalize V 3 = V3
      generalize C 0 = C0
      generalize C 1 = C1
      generalize C 2 = C2
      generalize C 3 = C3
      clear hk hp hq hs ht sp sq ss st bp bq bs bt lp lq ls lt hBW HBW HR HRs HW BX
      simp only [Act.put, List.setIfInBounds_toArray, List.set_cons_zero, List.set_cons_succ]
      go_wp2
      go_loopw [18, 58] (fun v18 v58 wr => ∃ (n : Nat), n ≤ 4 ∧ v58 = .int .i64 (n : Int) ∧ Hid (KP w g14 g15 g16 g17 (ri4 rp ip) (ri4 rq iq) (ri4 rs is) (ri4 rt it) wr)) (fun _ v58 _ => 4 - (intOf v58).toNat)
      case atStart => exact ⟨0, by omega, rfl, HP⟩
      case round =>
        obtain ⟨n, hn, rfl, hp⟩ := hrel
        by_cases hlt : n < 4
        · have hI1 : (0 : Int) ≤ (n : Int) := by omega
          have hI2 : (n : Int) < 4 := by omega
          obtain ⟨⟨re, im, e1, e2, hadd⟩, re2, im2, e3, e4, hmul⟩ := HS.out n hlt
          have q1 : wr.cell? ⟨g14, n, none⟩ = some (.complex .f64 (rp n) (ip n)) := (blk_cell hp.out.p n).trans (ri4_at rp ip n hlt)
          have q2 : wr.cell? ⟨g15, n, none⟩ = some (.complex .f64 (rq n) (iq n)) := (blk_cell hp.out.q n).trans (ri4_at rq iq n hlt)
          have q3 : wr.cell? ⟨g16, n, none⟩ = some (.complex .f64 (rs n) (is n)) := (blk_cell hp.out.s n).trans (ri4_at rs is n hlt)
          have q4 : wr.cell? ⟨g17, n, none⟩ = some (.complex .f64 (rt n) (it n)) := (blk_cell hp.out.t n).trans (ri4_at rt it n hlt)
          go_wp2
          go_quiet (first | (go_at_call 13; exact Calls.quiet_of_same ((HT.out _).mono fun _ _ h => ⟨h.1, h.2.symm⟩)))
          go_wp2
          go_roundw
          case rel => exact ⟨n + 1, by omega, by go_num, ⟨hp.out.p, hp.out.q, hp.out.s, hp.out.t, ⟨hp.out.below.os, hp.out.below.tape, hp.out.below.output, hp.out.below.size, hp.out.below.block⟩⟩⟩
          case measure => simp [intOf]; omega
        · obtain rfl : n = 4 := by omega
          go_wp2_with (go_at_call 15; (with_reducible refine (awake_any _).mono ?_); rintro e w6 ⟨rfl, rfl⟩)
          go_ret
          exact ⟨rfl, hp.out.below⟩
end Go.Proofs.Ytehjjjdelpbkpaa
namespace Go.Proofs.Ytehjjjdelpbkpaa.phaseSums
open Go.ChangeShapes Go.WideShapes Go.ChangeAt Go.RowKit
theorem own : ownKnob Try.prog.godebug = none := by kernel_rfl
theorem laidOut : laidOutB Try.prog = true := by kernel_rfl
set_option maxRecDepth 100000 in
theorem lifted (os : Os) (started : os.Started) (H : Type) (enc : TypeId × Value → H) :
    ReturnsInHanded {} Try.checked os 6 .any (Rows.phaseSumsSpec.pre6 enc Try.prog Try.f6 Rows.phaseSumsRow.domain false) (Rows.phaseSumsSpec.post enc Try.prog Try.f6 false true false false) := by
  refine returnsInHanded_of_change (C := Try.checked) own started (by kernel_rfl) Try.func6
    (ChangeSpec.witness6 (enc := enc) (C := Try.checked) false ⟨#[], #[.agg #[.int .i64 0, .int .i64 0, .int .i64 0, .int .i64 0, .int .i64 0, .int .i64 0, .int .i64 0, .int .i64 0], .agg #[.int .i64 0, .int .i64 0, .int .i64 0, .int .i64 0, .int .i64 0, .int .i64 0, .int .i64 0, .int .i64 0], .int .i64 0], []⟩ 8 (by kernel_rfl) (by kernel_rfl) (by kernel_rfl) (by kernel_rfl)) ?_
  intro W base args ds gs before hval0 hW hcnd _
  have hval : ∀ (j : Nat) t v, Try.f6.params[j]? = some t → args[j]? = some v → Value.okWide Try.prog W .any base t v := hval0
  have hW' := hW
  have hlt := hW'.lt
  obtain ⟨p, q, hA0, hV, rfl, hfz, hnd⟩ := hW
  have hA : DataW.TrodAll enc Try.prog W 0 (fun _ => true) true Try.f6.params.toList args.toList ds p := hA0
  rw [Try.params6] at hA hval
  obtain ⟨v0, vs0, d0, ds0, p0, q0, hargs, rfl, rfl, h0, r0⟩ := trodAll_cons hA
  obtain ⟨v1, vs1, d1, ds1, p1, q1, rfl, rfl, rfl, h1, r1⟩ := trodAll_cons r0
  obtain ⟨v2, vs2, d2, ds2, p2, q2, rfl, rfl, rfl, h2, r2⟩ := trodAll_cons r1
  obtain ⟨rfl, rfl, rfl⟩ := trodAll_nil r2
  obtain rfl : args = #[v0, v1, v2] := by cases args; simp_all
  obtain ⟨rfl, rfl⟩ := trodVars_none hV
  have k0 := h0
  have l0 : ∀ x ∈ p0, x.block < W.heap.size := fun x hx => hlt x (by simp [hx])
  obtain ⟨x0, y0, rfl⟩ := open_arr8 h0
  have k1 := h1
  have l1 : ∀ x ∈ p1, x.block < W.heap.size := fun x hx => hlt x (by simp [hx])
  obtain ⟨x1, y1, rfl⟩ := open_arr8 h1
  obtain ⟨a2, rfl, rfl, rfl, w2⟩ := open_int Try.underlying2 (hval 2 2 v2 rfl rfl) h2
  clear hA0 hval0
  refine (PhaseSums_any x0 y0 x1 y1 a2 W).mono fun e W' ⟨he, bel⟩ => ?_
  subst he
  exact ⟨_, rfl, _, _, _, [], _, [], hW', trodAll_mk1 (shut_bool Try.underlying4 _), trodAll_mk3 (Below.trod laidOut (by kernel_rfl) (of_decide_eq_true (by kernel_rfl)) k0 bel l0) (Below.trod laidOut (by kernel_rfl) (of_decide_eq_true (by kernel_rfl)) k1 bel l1) (shut_int Try.underlying2 w2), rfl, bel.frame _, fun h => by cases h⟩
theorem over : Rows.phaseSumsRow.holds Try.pinned (OpenSpec.ofChange Rows.phaseSumsSpec) :=
  OpenClaim.holds_of_wide 6 Try.f6 rfl rfl rfl rfl rfl rfl rfl ⟨rfl, rfl, rfl, rfl, rfl⟩ rfl rfl rfl rfl rfl (by kernel_rfl) Try.func6 (by kernel_rfl)
    (of_decide_eq_true (by kernel_rfl)) (by unfold Func.isWrapper; first | (rw [if_pos (by decide +kernel)]; kernel_rfl) | (rw [if_neg (by decide +kernel)]; exact ⟨rfl, rfl⟩))
    (fun os started H enc _ => lifted os started H enc)
theorem proved : Rows.PhaseSumsSaid := over
end Go.Proofs.Ytehjjjdelpbkpaa.phaseSums
namespace Go.Proofs.Ytehjjjdelpbkpaa
theorem phaseSums_holds : Rows.PhaseSumsSaid := phaseSums.proved
end Go.Proofs.Ytehjjjdelpbkpaa
