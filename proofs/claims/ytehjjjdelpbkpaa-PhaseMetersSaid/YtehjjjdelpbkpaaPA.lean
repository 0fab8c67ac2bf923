/-
  A row of additions as an argument: opened. The phase with the most.
-/
import Derived.Test.YtehjjjdelpbkpaaP9
namespace Go.Proofs.Ytehjjjdelpbkpaa
open Go.ChangeShapes Go.WideShapes Go.ChangeAt Go.RowKit Go.Deep Go.Proofs.YtehjjjdelpbkpaaW.PrintWords
open F
/-- The additions lie there. -/
structure Adds (w : World) (A : Option Addr) (len b off : Nat) (T N : Nat → Int) : Prop where
  place : 0 < len → A = some ⟨b, off, none⟩
  low : 0 < len → b < w.heap.size
  cells : ∀ i, i < len → w.cell? ⟨b, off + i * 2, none⟩ = some (.int .i64 (T i)) ∧ w.cell? ⟨b, off + i * 2 + 1, none⟩ = some (.int .i64 (N i))
theorem cells45 : Try.prog.cellsOf 45 = 2 := by kernel_rfl
theorem cells3 : Try.prog.cellsOf 3 = 1 := by kernel_rfl
theorem open_adds {H : Type} {enc : TypeId × Value → H} {W : World} {v : Value} {d : DataW H} {ps : List MemPlace} (h : DataW.Trod enc Try.prog W 0 (fun _ => true) true 41 v d ps) (hs : ∃ A len cap, v = .slice A len cap) :
    ∃ A len cap b off T N, v = .slice A len cap ∧ Adds W A len b off T N := by
  obtain ⟨A, len, cap, rfl⟩ := hs
  obtain ⟨fuel, hf⟩ := h
  rcases open_slice_pairs Try.underlying41 Try.underlying45 cells45 rfl rfl cells2 cells3 hf with ⟨h1, _⟩ | ⟨a, l', c', m, n, V0, V1, D0, D1, P0, P1, h1, _, hl, _, hm, _, hx⟩
  · simp [Value.cells] at h1
    obtain ⟨rfl, rfl, rfl⟩ := h1
    exact ⟨_, _, _, 0, 0, fun _ => 0, fun _ => 0, rfl, fun h => absurd h (by omega), fun h => absurd h (by omega), fun i hi => absurd hi (by omega)⟩
  · simp [Value.cells] at h1
    obtain ⟨rfl, rfl, rfl⟩ := h1
    have hmm : len ≤ m := by rw [hm]; simp; exact hl
    obtain ⟨b, off, sp⟩ := a
    by_cases h0 : 0 < len
    · have g0 := (hx 0 (by omega)).1
      have hsp : sp = none := by simpa [Addr.add] using World.cell?_spot g0
      subst hsp
      have each : ∀ i, i < len → ∃ q : Int × Int, W.cell? ⟨b, off + i * 2, none⟩ = some (.int .i64 q.1) ∧ W.cell? ⟨b, off + i * 2 + 1, none⟩ = some (.int .i64 q.2) := by
        intro i hi
        obtain ⟨e0, e1, u0, u1⟩ := hx i (by omega)
        obtain ⟨p, hp, _⟩ := DataW.trod_int Try.underlying2 u0
        obtain ⟨q, hq, _⟩ := DataW.trod_int Try.underlying3 u1
        simp only [List.cons.injEq, and_true] at hp hq
        rw [Addr.add_mid, hp] at e0
        rw [Addr.add_mid, hq] at e1
        exact ⟨(p, q), e0, e1⟩
      obtain ⟨q, hq⟩ := choose_lt each
      exact ⟨_, _, _, b, off, fun i => (q i).1, fun i => (q i).2, rfl, fun _ => rfl, fun _ => World.block_lt_of_cell? W _ (hq 0 h0).1, fun i hi => hq i hi⟩
    · exact ⟨_, _, _, 0, 0, fun _ => 0, fun _ => 0, rfl, fun h => absurd h h0, fun h => absurd h h0, fun i hi => absurd hi (by omega)⟩
theorem pk_max (n : Nat → Int) : ∀ j, j ≤ 4 → (∀ i, i < j → n i ≤ n (pk n j)) ∧ (pk n j = 0 ∨ pk n j < j)
  | 0, _ => ⟨fun i hi => absurd hi (by omega), .inl rfl⟩
  | j + 1, h => by
    have ih := pk_max n j (by omega)
    simp only [pk]
    split
    · rename_i hlt
      refine ⟨fun i hi => ?_, .inr (by omega)⟩
      by_cases hij : i = j
      · subst hij; omega
      · have := ih.1 i (by omega); omega
    · rename_i hlt
      refine ⟨fun i hi => ?_, by omega⟩
      by_cases hij : i = j
      · subst hij; omega
      · exact ih.1 i (by omega)
theorem addTo_ok (n : Nat → Int) (t N : Int) (hn : ∀ j, j < 4 → 0 ≤ n j ∧ n j ≤ 274877906944) : ∀ j, j < 4 → 0 ≤ addTo n t N j ∧ addTo n t N j ≤ 274877906944 := by
  intro j hj
  unfold addTo
  split
  · rename_i hk
    simp only [addOk, decide_eq_true_eq] at hk
    have := hn j hj
    dsimp only
    split
    · subst_vars; omega
    · exact this
  · exact hn j hj
def fn4 {α : Type} (a b c d : α) : Nat → α
  | 0 => a
  | 1 => b
  | 2 => c
  | _ => d
/-- Four waves come back as the counts. -/
theorem Back_four (n : Nat → Int) (hn : ∀ j, j < 4 → (n j).natAbs ≤ 274877906944) (re0 re1 re2 re3 im0 im1 im2 im3 : Nat)
    (f0 : Fl re0 (Sr n (fun _ => 0) (-((0 : Int) % 4)) 4)) (f1 : Fl re1 (Sr n (fun _ => 0) (-((1 : Int) % 4)) 4)) (f2 : Fl re2 (Sr n (fun _ => 0) (-((2 : Int) % 4)) 4)) (f3 : Fl re3 (Sr n (fun _ => 0) (-((3 : Int) % 4)) 4))
    (g0 : Fl im0 (Si n (fun _ => 0) (-((0 : Int) % 4)) 4)) (g1 : Fl im1 (Si n (fun _ => 0) (-((1 : Int) % 4)) 4)) (g2 : Fl im2 (Si n (fun _ => 0) (-((2 : Int) % 4)) 4)) (g3 : Fl im3 (Si n (fun _ => 0) (-((3 : Int) % 4)) 4)) (w : World) :
    Calls Try.prog 19 #[.agg #[.complex .f64 re0 im0, .complex .f64 re1 im1, .complex .f64 re2 im2, .complex .f64 re3 im3]] w fun e w' => ∃ r i : Nat → Nat, e = .returned (.agg #[.complex .f64 (r 0) (i 0), .complex .f64 (r 1) (i 1), .complex .f64 (r 2) (i 2), .complex .f64 (r 3) (i 3)]) ∧ (∀ k, k < 4 → Fl (r k) (n k) ∧ Fl (i k) 0) ∧ Below w.heap.size w w' := by
  have hA : ∀ j, j < 4 → Fl (fn4 re0 re1 re2 re3 j) (Sr n (fun _ => 0) (-(j : Int)) 4) := by
    intro j hj
    have hj4 : j = 0 ∨ j = 1 ∨ j = 2 ∨ j = 3 := by omega
    rcases hj4 with rfl | rfl | rfl | rfl
    · exact f0
    · exact f1
    · exact f2
    · exact f3
  have hB : ∀ j, j < 4 → Fl (fn4 im0 im1 im2 im3 j) (Si n (fun _ => 0) (-(j : Int)) 4) := by
    intro j hj
    have hj4 : j = 0 ∨ j = 1 ∨ j = 2 ∨ j = 3 := by omega
    rcases hj4 with rfl | rfl | rfl | rfl
    · exact g0
    · exact g1
    · exact g2
    · exact g3
  exact Back_any (fn4 re0 re1 re2 re3) (fn4 im0 im1 im2 im3) (fun k => Sr n (fun _ => 0) (-(k : Int)) 4) (fun k => Si n (fun _ => 0) (-(k : Int)) 4) n (fun _ => 0) 1099511627776 (by omega) hA hB
    (fun j _ => Sr_abs n _ _ 274877906944 hn (fun _ _ => Nat.zero_le _) 4 (by omega)) (fun j _ => Si_abs n _ _ 274877906944 hn (fun _ _ => Nat.zero_le _) 4 (by omega)) (fun j hj => back_re n _ j hj) (fun j hj => back_im n _ j hj) w
/-- The meter's row, a row of four complex numbers, a row of counts; what was there before. -/
structure KR (w : World) (n : Nat → Int) (r i : Nat → Nat) (g5 g6 : Nat) (W : World) : Prop where
  m : W.heap[w.heap.size]? = some (.cells (mt n) 58 (0, 0))
  x : W.heap[g5]? = some (.cells #[.complex .f64 (r 0) (i 0), .complex .f64 (r 1) (i 1), .complex .f64 (r 2) (i 2), .complex .f64 (r 3) (i 3)] 31 (0, 0))
  c : W.heap[g6]? = some (.cells (mt n) 49 (0, 0))
  below : Below w.heap.size w W
theorem KR.step {w W W' : World} {n : Nat → Int} {r i : Nat → Nat} {g5 g6 : Nat} (h : KR w n r i g5 g6 W) (hb : Below W.heap.size W W') : KR w n r i g5 g6 W' := ⟨blk_below h.m hb, blk_below h.x hb, blk_below h.c hb, below_two h.below hb⟩
theorem KR.drew {w W : World} {n : Nat → Int} {r i : Nat → Nat} {g5 g6 : Nat} (h : KR w n r i g5 g6 W) : KR w n r i g5 g6 W.drew := ⟨h.m, h.x, h.c, h.below.drew⟩
theorem KR.cells {w W : World} {n : Nat → Int} {r i : Nat → Nat} {g5 g6 k p : Nat} (h : KR w n r i g5 g6 W) (hk : k < 4) (hp : p < 4) : KR w n r i g5 g6 W ∧ W.cell? ⟨g5, k, none⟩ = some (.complex .f64 (r k) (i k)) ∧ W.cell? ⟨g6, k, none⟩ = some (.int .i64 (n k)) ∧ W.cell? ⟨g6, p, none⟩ = some (.int .i64 (n p)) := by
  refine ⟨h, ?_, (blk_cell h.c k).trans (mt_get n k hk), (blk_cell h.c p).trans (mt_get n p hp)⟩
  rw [blk_cell h.x k]
  have h1 : k = 0 ∨ k = 1 ∨ k = 2 ∨ k = 3 := by omega
  rcases h1 with rfl | rfl | rfl | rfl <;> rfl
theorem and_three (p : Nat) (h : p < 4) : Go.bits .and .i64 (p : Int) 3 = (p : Int) := by rw [and3]; omega
end Go.Proofs.Ytehjjjdelpbkpaa
