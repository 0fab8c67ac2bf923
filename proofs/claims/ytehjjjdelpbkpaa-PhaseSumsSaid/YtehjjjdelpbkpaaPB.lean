/-
  The reference's product and its four sums.
-/
import Derived.Test.YtehjjjdelpbkpaaP8
import Derived.Deep.DeepCutAuto
import Derived.Deep.CutBlock
import Derived.StillTailTactics
namespace Go.Proofs.Ytehjjjdelpbkpaa
open Go.RowKit Go Go.Proofs.YtehjjjdelpbkpaaW.PrintWords
open F
theorem r8_size (x y : Nat → Int) : (row8 x y).size = 8 := rfl
theorem r8_one (x y : Nat → Int) : (row8 x y).all (·.oneCell') = true := by simp [row8, Value.oneCell']
theorem rot_mul (m : Nat) (hm : m < 4) (a b : Int) : a * ire m - b * iim m = rotr m a b ∧ a * iim m + b * ire m = roti m a b := by
  have h : m = 0 ∨ m = 1 ∨ m = 2 ∨ m = 3 := by omega
  rcases h with rfl | rfl | rfl | rfl <;> simp [ire, iim, rotr, roti]
theorem rot_small (m : Nat) (hm : m < 4) (a b : Int) (ha : a.natAbs ≤ 1099511627776) (hb : b.natAbs ≤ 1099511627776) :
    wrap64 (wrap64 (a * ire m) - wrap64 (b * iim m)) = rotr m a b ∧ wrap64 (wrap64 (a * iim m) + wrap64 (b * ire m)) = roti m a b := by
  have h : m = 0 ∨ m = 1 ∨ m = 2 ∨ m = 3 := by omega
  rcases h with rfl | rfl | rfl | rfl <;> simp only [ire, iim, rotr, roti, wrap64] <;> omega
set_option maxHeartbeats 1000000 in
theorem Times_any (m : Nat) (hm : m < 4) (a b : Int) (ha : a.natAbs ≤ 1099511627776) (hb : b.natAbs ≤ 1099511627776) (w : World) :
    Calls Try.prog 29 #[.agg #[.int .i64 a, .int .i64 b], .agg #[.int .i64 (ire m), .int .i64 (iim m)]] w fun e w' => e = .returned (.agg #[.int .i64 (rotr m a b), .int .i64 (roti m a b)]) ∧ Below w.heap.size w w' := by
  have HR := Lib.hid (rot_small m hm a b ha hb)
  clear ha hb
  generalize ire m = c at HR
  generalize iim m = d at HR
  go_enter Try.func29, Try.ntmps29
  go_wp2
  exact bodyPost_ret (v := .agg #[.int .i64 _, .int .i64 _]) (by simp [results, Try.results29, go_sem]; exact ⟨rfl, rfl⟩) rfl ⟨by rw [← HR.out.1, ← HR.out.2], below_more (below_more (below_one _ _) _) _⟩
/-- What has been summed when round k stands at its j-th number. -/
def po (x y : Nat → Int) (k j i : Nat) : Int := if i < k then Sr x y (-(i : Int)) 4 else if i = k then Sr x y (-(k : Int)) j else 0
def qo (x y : Nat → Int) (k j i : Nat) : Int := if i < k then Si x y (-(i : Int)) 4 else if i = k then Si x y (-(k : Int)) j else 0
def zero8 : Array Value := #[.int .i64 0, .int .i64 0, .int .i64 0, .int .i64 0, .int .i64 0, .int .i64 0, .int .i64 0, .int .i64 0]
structure RF (w : World) (x y p q : Nat → Int) (W : World) : Prop where
  x : W.heap[w.heap.size]? = some (.cells (row8 x y) 30 (0, 0))
  r : W.heap[w.heap.size + 1]? = some (.cells zero8 30 (0, 0))
  o : W.heap[w.heap.size + 1 + 1]? = some (.cells (row8 p q) 30 (0, 0))
  below : Below w.heap.size w W
theorem RF.step {w W W' : World} {x y p q : Nat → Int} (h : RF w x y p q W) (hb : Below W.heap.size W W') : RF w x y p q W' := ⟨blk_below h.x hb, blk_below h.r hb, blk_below h.o hb, below_two h.below hb⟩
theorem RF.drew {w W : World} {x y p q : Nat → Int} (h : RF w x y p q W) : RF w x y p q W.drew := ⟨h.x, h.r, h.o, h.below.drew⟩
theorem RF.alloc {w W : World} {x y p q : Nat → Int} (h : RF w x y p q W) (o : Obj) : RF w x y p q (W.alloc o) := h.step ((Below.refl _ _).alloc (Nat.le_refl _) _)
theorem row8_at (x y : Nat → Int) (j : Nat) (h : j < 4) : (row8 x y)[j * 2]? = some (.int .i64 (x j)) ∧ (row8 x y)[j * 2 + 1]? = some (.int .i64 (y j)) := by
  have h4 : j = 0 ∨ j = 1 ∨ j = 2 ∨ j = 3 := by omega
  rcases h4 with rfl | rfl | rfl | rfl <;> exact ⟨rfl, rfl⟩
theorem RF.cells {w W : World} {x y p q : Nat → Int} (h : RF w x y p q W) {j : Nat} (hj : j < 4) : RF w x y p q W ∧ W.cell? ⟨w.heap.size, j * 2, none⟩ = some (.int .i64 (x j)) ∧ W.cell? ⟨w.heap.size, j * 2 + 1, none⟩ = some (.int .i64 (y j)) :=
  ⟨h, (blk_cell h.x _).trans (row8_at x y j hj).1, (blk_cell h.x _).trans (row8_at x y j hj).2⟩
theorem RF.set2 {w W : World} {x y p q : Nat → Int} (h : RF w x y p q W) {g : Nat} (hg : w.heap.size + 1 + 1 < g) (v v' : Value) : RF w x y p q ((W.setCell ⟨g, 0, none⟩ v).setCell ⟨g, 1, none⟩ v') :=
  ⟨blk_far (blk_far h.x (by simp only [ne_eq]; omega) _) (by simp only [ne_eq]; omega) _, blk_far (blk_far h.r (by simp only [ne_eq]; omega) _) (by simp only [ne_eq]; omega) _, blk_far (blk_far h.o (by simp only [ne_eq]; omega) _) (by simp only [ne_eq]; omega) _, (h.below.setCell (p := ⟨g, 0, none⟩) (by simp; omega) _).setCell (p := ⟨g, 1, none⟩) (by simp; omega) _⟩
theorem wk_mod (x : Int) : IntKind.i64.wrap x % 4 = x % 4 := by
  rw [IntKind.wrap_i64]
  omega
theorem turn_arg (j k : Nat) (hj : j < 4) (hk : k < 4) : ((j : Int) * -(k : Int)) % 4 = ((IntKind.i64.wrap (IntKind.i64.wrap (-(j : Int)) * (k : Int)) % 4).toNat : Int) := by
  rw [wk_mod]
  have h1 : IntKind.i64.wrap (-(j : Int)) = -(j : Int) := by rw [IntKind.wrap_i64]; omega
  rw [h1, show (j : Int) * -(k : Int) = -(j : Int) * (k : Int) by rw [Int.mul_neg, Int.neg_mul]]
  omega
theorem po_at (x y : Nat → Int) (k j : Nat) : po x y k j k = Sr x y (-(k : Int)) j := by simp [po]
theorem qo_at (x y : Nat → Int) (k j : Nat) : qo x y k j k = Si x y (-(k : Int)) j := by simp [qo]
theorem po_abs {x y : Nat → Int} (hx : ∀ j, j < 4 → (x j).natAbs ≤ 1099511627776) (hy : ∀ j, j < 4 → (y j).natAbs ≤ 1099511627776) (k j : Nat) (hj : j ≤ 4) : (Sr x y (-(k : Int)) j).natAbs ≤ 4398046511104 ∧ (Si x y (-(k : Int)) j).natAbs ≤ 4398046511104 := by
  have h1 := Sr_abs x y (-(k : Int)) 1099511627776 hx hy j hj
  have h2 := Si_abs x y (-(k : Int)) 1099511627776 hx hy j hj
  constructor <;> omega
theorem sr_step (x y : Nat → Int) (k j m : Nat) (h : (Sr x y (-(k : Int)) (j + 1)).natAbs ≤ 4398046511104) (hm : ((j : Int) * -(k : Int)) % 4 = m) : wrap64 (Sr x y (-(k : Int)) j + rotr m (x j) (y j)) = Sr x y (-(k : Int)) (j + 1) := by
  have e : Sr x y (-(k : Int)) (j + 1) = Sr x y (-(k : Int)) j + rotr m (x j) (y j) := by simp only [Sr, hm, Int.toNat_natCast]
  rw [e] at h ⊢
  unfold wrap64
  omega
theorem si_step (x y : Nat → Int) (k j m : Nat) (h : (Si x y (-(k : Int)) (j + 1)).natAbs ≤ 4398046511104) (hm : ((j : Int) * -(k : Int)) % 4 = m) : wrap64 (Si x y (-(k : Int)) j + roti m (x j) (y j)) = Si x y (-(k : Int)) (j + 1) := by
  have e : Si x y (-(k : Int)) (j + 1) = Si x y (-(k : Int)) j + roti m (x j) (y j) := by simp only [Si, hm, Int.toNat_natCast]
  rw [e] at h ⊢
  unfold wrap64
  omega
theorem row8_setR (p q : Nat → Int) (k : Nat) (hk : k < 4) (v : Int) : (row8 p q).setIfInBounds (k * 2) (.int .i64 v) = row8 (fun i => if i = k then v else p i) q := by
  have h4 : k = 0 ∨ k = 1 ∨ k = 2 ∨ k = 3 := by omega
  rcases h4 with rfl | rfl | rfl | rfl <;> rfl
theorem row8_setI (p q : Nat → Int) (k : Nat) (hk : k < 4) (v : Int) : (row8 p q).setIfInBounds (k * 2 + 1) (.int .i64 v) = row8 p (fun i => if i = k then v else q i) := by
  have h4 : k = 0 ∨ k = 1 ∨ k = 2 ∨ k = 3 := by omega
  rcases h4 with rfl | rfl | rfl | rfl <;> rfl
theorem RF.putR {w W : World} {x y p q : Nat → Int} (h : RF w x y p q W) {k : Nat} (hk : k < 4) (v : Int) : RF w x y (fun i => if i = k then v else p i) q (W.setCell ⟨w.heap.size + 1 + 1, k * 2, none⟩ (.int .i64 v)) :=
  ⟨blk_far h.x (by simp only [ne_eq]; omega) _, blk_far h.r (by simp only [ne_eq]; omega) _, blk_put h.o (k * 2) _ (row8_setR p q k hk v), h.below.setCell (p := ⟨w.heap.size + 1 + 1, k * 2, none⟩) (by simp; omega) _⟩
theorem RF.putI {w W : World} {x y p q : Nat → Int} (h : RF w x y p q W) {k : Nat} (hk : k < 4) (v : Int) : RF w x y p (fun i => if i = k then v else q i) (W.setCell ⟨w.heap.size + 1 + 1, k * 2 + 1, none⟩ (.int .i64 v)) :=
  ⟨blk_far h.x (by simp only [ne_eq]; omega) _, blk_far h.r (by simp only [ne_eq]; omega) _, blk_put h.o (k * 2 + 1) _ (row8_setI p q k hk v), h.below.setCell (p := ⟨w.heap.size + 1 + 1, k * 2 + 1, none⟩) (by simp; omega) _⟩
theorem po_put (x y : Nat → Int) (k j : Nat) : (fun i => if i = k then Sr x y (-(k : Int)) (j + 1) else po x y k j i) = po x y k (j + 1) := by
  funext i
  by_cases h : i = k
  · subst h; simp [po]
  · simp [po, h]
theorem qo_put (x y : Nat → Int) (k j : Nat) : (fun i => if i = k then Si x y (-(k : Int)) (j + 1) else qo x y k j i) = qo x y k (j + 1) := by
  funext i
  by_cases h : i = k
  · subst h; simp [qo]
  · simp [qo, h]
theorem po_next (x y : Nat → Int) (k : Nat) : po x y k 4 = po x y (k + 1) 0 := by
  funext i
  simp only [po]
  by_cases h1 : i < k
  · rw [if_pos h1, if_pos (by omega)]
  · by_cases h2 : i = k
    · subst h2; simp
    · rw [if_neg h1, if_neg h2, if_neg (by omega)]; split <;> rfl
theorem qo_next (x y : Nat → Int) (k : Nat) : qo x y k 4 = qo x y (k + 1) 0 := by
  funext i
  simp only [qo]
  by_cases h1 : i < k
  · rw [if_pos h1, if_pos (by omega)]
  · by_cases h2 : i = k
    · subst h2; simp
    · rw [if_neg h1, if_neg h2, if_neg (by omega)]; split <;> rfl
theorem row_end (x y : Nat → Int) : row8 (po x y 4 0) (qo x y 4 0) = row8 (fun k => Sr x y (-(k : Int)) 4) (fun k => Si x y (-(k : Int)) 4) := by simp [row8, po, qo]
theorem mod_lt4 (z : Int) : (z % 4).toNat < 4 := by omega
theorem bcell {W w1 : World} (hb : Below W.heap.size W w1) : (∀ b o, b < W.heap.size → w1.cell? ⟨b, o, none⟩ = W.cell? ⟨b, o, none⟩) ∧ (∀ b o, b < W.heap.size → w1.frozen? ⟨b, o, none⟩ = W.frozen? ⟨b, o, none⟩) :=
  ⟨fun b o h => hb.cell (p := ⟨b, o, none⟩) h, fun b o h => hb.frozen (p := ⟨b, o, none⟩) h⟩
set_option maxHeartbeats 2000000 in
theorem rForth_any (x y : Nat → Int) (hx : ∀ j, j < 4 → (x j).natAbs ≤ 1099511627776) (hy : ∀ j, j < 4 → (y j).natAbs ≤ 1099511627776) (w : World) :
    Calls Try.prog 18 #[arr8 x y] w fun e w' => e = .returned (arr8 (fun k => Sr x y (-(k : Int)) 4) (fun k => Si x y (-(k : Int)) 4)) ∧ Below w.heap.size w w' := by
  have HX := Lib.hid hx
  have HY := Lib.hid hy
  have hR0 : ∀ w1 : World, RF w x y (po x y 0 0) (qo x y 0 0) (((w.alloc (.cells (row8 x y) 30 (0, 0))).alloc (.cells zero8 30 (0, 0))).alloc (.cells zero8 30 (0, 0))) := fun _ =>
    ⟨blk_keep (blk_keep (blk_new _ _) _) _, blk_keep (blk_at (by simp)) _, blk_at (by simp), below_more (below_more (below_one _ _) _) _⟩
  have HR0 := Lib.hid (hR0 w)
  clear hx hy hR0
  have hA : arr8 x y = .agg (row8 x y) := rfl
  rw [hA]
  clear hA
  have a1 := r8_size x y
  generalize hRW : row8 x y = A8 at HR0 a1
  go_enter Try.func18, Try.ntmps18
  go_wp2
  go_loopw [4, 5, 6, 7, 10] (fun v4 v5 v6 v7 v10 wr => ∃ (k : Nat), k ≤ 4 ∧ v7 = .int .i64 (k : Int) ∧ Hid (RF w x y (po x y k 0) (qo x y k 0) wr)) (fun _ _ _ v7 _ _ => 4 - (intOf v7).toNat)
  case atStart => exact ⟨0, by omega, rfl, HR0⟩
  case round =>
    obtain ⟨k, hk, rfl, hrf⟩ := hrel
    by_cases hlt : k < 4
    · have hkb : decide ((k : Int) < 4) = true := decide_eq_true (by omega)
      go_wp2
      go_loopw [5, 6, 10] (fun v5 v6 v10 wr2 => ∃ (j : Nat), j ≤ 4 ∧ v10 = .int .i64 (j : Int) ∧ Hid (RF w x y (po x y k j) (qo x y k j) wr2)) (fun _ _ v10 _ => 4 - (intOf v10).toNat)
      case atStart => exact ⟨0, by omega, rfl, hrf⟩
      case round =>
        clear hrf
        obtain ⟨j, hj, rfl, hrf⟩ := hrel
        by_cases hjl : j < 4
        · have hjb : decide ((j : Int) < 4) = true := decide_eq_true (by omega)
          have hI1 : (0 : Int) ≤ (j : Int) := by omega
          have hI2 : (j : Int) < 4 := by omega
          go_upto_region 8 with fail
          go_cut [6] (fun v6 wx => ∃ g : Nat, v6 = .pointer (some ⟨g, 0, none⟩) ∧ Hid (w.heap.size + 1 + 1 < g) ∧ Hid (RF w x y (po x y k j) (qo x y k j) wx) ∧ Hid (∃ m : Nat, m < 4 ∧ ((j : Int) * -(k : Int)) % 4 = m ∧ wx.heap[g]? = some (.cells #[.int .i64 (rotr m (x j) (y j)), .int .i64 (roti m (x j) (y j))] 26 (0, 0))))
          case first =>
            have hS0 := RF.cells hrf.out.drew hjl
            go_region_held3 (fun W => RF w x y (po x y k j) (qo x y k j) W ∧ W.cell? ⟨w.heap.size, j * 2, none⟩ = some (.int .i64 (x j)) ∧ W.cell? ⟨w.heap.size, j * 2 + 1, none⟩ = some (.int .i64 (y j))) (first | assumption | exact RF.cells (RF.alloc (And.left ‹RF w x y _ _ _ ∧ _›) _) hjl | exact RF.cells (RF.set2 (And.left ‹RF w x y _ _ _ ∧ _›) (blk_lt hrf.out.o) _ _) hjl | exact RF.cells (RF.set2 (And.left ‹RF w x y _ _ _ ∧ _›) (blk_lt hS1.1.o) _ _) hjl | exact RF.cells (RF.set2 (And.left ‹RF w x y _ _ _ ∧ _›) (blk_lt hS2.1.o) _ _) hjl)
              (first
                | (go_at_call 14; (refine (rTurn_any _ _).mono ?_); rintro e w5 ⟨rfl, hb5⟩; have hS1 := RF.cells (RF.step (And.left ‹RF w x y _ _ _ ∧ _›) hb5) hjl; obtain ⟨hcA, hfA⟩ := bcell hb5; (first | (have hzA : wr.heap.size < w5.heap.size := by (have h9 := hb5.size; simp at h9; omega)) | skip))
                | (go_at_call 29; (refine (Times_any _ (mod_lt4 _) _ _ (HX.out j hjl) (HY.out j hjl) _).mono ?_); rintro e w6 ⟨rfl, hb6⟩; have hS2 := RF.cells (RF.step (And.left ‹RF w x y _ _ _ ∧ _›) hb6) hjl; obtain ⟨hcB, hfB⟩ := bcell hb6))
            · go_wp2_with fail
              go_meet
              exact ⟨_, rfl, blk_lt hS2.1.o, And.left ‹RF w x y _ _ _ ∧ _›, _, mod_lt4 _, turn_arg j k hjl hlt, blk_new _ _⟩
            · go_wp2_with fail
              go_meet
              exact ⟨_, rfl, blk_lt hS1.1.o, And.left ‹RF w x y _ _ _ ∧ _›, _, mod_lt4 _, turn_arg j k hjl hlt, blk_put (blk_put (blk_below (blk_new _ _) hb6) 0 _ rfl) 1 _ rfl⟩
            · go_wp2_with fail
              go_meet
              exact ⟨_, rfl, blk_lt hrf.out.o, And.left ‹RF w x y _ _ _ ∧ _›, _, mod_lt4 _, turn_arg j k hjl hlt, blk_put (blk_put (blk_below (blk_below (w := (wr.alloc (.cells #[.int .i64 0, .int .i64 0] 26 (0, 0))).drew) (blk_new wr _) hb5) hb6) 0 _ rfl) 1 _ rfl⟩
          case rest =>
            clear hrf
            obtain ⟨g, rfl, hg, hrf, hm⟩ := hcut
            obtain ⟨m, hm4, hmk, hrow⟩ := hm.out
            have HS1 := Lib.hid (sr_step x y k j m (po_abs HX.out HY.out k (j + 1) (by omega)).1 hmk)
            have HS2 := Lib.hid (si_step x y k j m (po_abs HX.out HY.out k (j + 1) (by omega)).2 hmk)
            have hI3 : (0 : Int) ≤ (k : Int) := by omega
            have hI4 : (k : Int) < 4 := by omega
            have hc1 : wc.cell? ⟨w.heap.size + 1 + 1, k * 2, none⟩ = some (.int .i64 (Sr x y (-(k : Int)) j)) := (blk_cell hrf.out.o _).trans (by rw [(row8_at _ _ k hlt).1, po_at])
            have hc2 : wc.cell? ⟨w.heap.size + 1 + 1, k * 2 + 1, none⟩ = some (.int .i64 (Si x y (-(k : Int)) j)) := (blk_cell hrf.out.o _).trans (by rw [(row8_at _ _ k hlt).2, qo_at])
            have hc3 : wc.cell? ⟨g, 0, none⟩ = some (.int .i64 (rotr m (x j) (y j))) := blk_cell hrow 0
            have hc4 : wc.cell? ⟨g, 1, none⟩ = some (.int .i64 (roti m (x j) (y j))) := blk_cell hrow 1
            have hf1 : wc.frozen? ⟨w.heap.size + 1 + 1, k * 2, none⟩ = false := blk_frozen hrf.out.o _
            have hf2 : wc.frozen? ⟨w.heap.size + 1 + 1, k * 2 + 1, none⟩ = false := blk_frozen hrf.out.o _
            have HG := hg
            have HROW := Lib.hid hrow
            clear hg hm hmk hrow HX HY
            generalize hra : rotr m (x j) (y j) = ra at HS1 hc3 HROW
            generalize hrb : roti m (x j) (y j) = rb at HS2 hc4 HROW
            clear hra hrb hm4
            generalize hsa : Sr x y (-(k : Int)) j = sa at HS1 hc1
            generalize hsb : Si x y (-(k : Int)) j = sb at HS2 hc2
            have HSB := Lib.hid hsb
            clear hsa hsb
            have hne1 : ¬ g = w.heap.size + 1 + 1 := by have := HG.out; omega
            have hne2 : ¬ w.heap.size + 1 + 1 = g := by have := HG.out; omega
            go_upto_region 9 with fail
            go_still_tail 9, (by kernel_rfl)
            change wpList _ _ _ _ _ wc.drew
            go_wp2
            have HRF2 := Lib.hid (RF.putR (W := wc) hrf.out hlt (wrap64 (sa + ra))).drew
            have hd3 : (World.drew (wc.setCell ⟨w.heap.size + 1 + 1, k * 2, none⟩ (.int .i64 (wrap64 (sa + ra))))).cell? ⟨g, 1, none⟩ = some (.int .i64 rb) := blk_cell (blk_far (w := wc) (p := ⟨w.heap.size + 1 + 1, k * 2, none⟩) HROW.out (by simp only [ne_eq]; omega) _) 1
            have hd2 : (World.drew (wc.setCell ⟨w.heap.size + 1 + 1, k * 2, none⟩ (.int .i64 (wrap64 (sa + ra))))).cell? ⟨w.heap.size + 1 + 1, k * 2 + 1, none⟩ = some (.int .i64 sb) := (blk_cell HRF2.out.o _).trans (by rw [(row8_at _ _ k hlt).2, qo_at, HSB.out])
            have hf3 : (World.drew (wc.setCell ⟨w.heap.size + 1 + 1, k * 2, none⟩ (.int .i64 (wrap64 (sa + ra))))).frozen? ⟨w.heap.size + 1 + 1, k * 2 + 1, none⟩ = false := blk_frozen HRF2.out.o _
            clear hc1 hc2 hc3 hc4 hf1 hf2 hne1 hne2
            generalize World.drew (World.setCell wc ⟨w.heap.size + 1 + 1, k * 2, none⟩ (.int .i64 (wrap64 (sa + ra)))) = W2 at HRF2 hd2 hd3 hf3 ⊢
            go_still_tail 9, (by kernel_rfl)
            change wpList _ _ _ _ _ W2.drew
            go_wp2
            have HRF3 := Lib.hid (RF.putI (W := W2) HRF2.out hlt (wrap64 (sb + rb)))
            go_roundw
            case rel => exact ⟨j + 1, by omega, by go_num, (by
              have h := HRF3.out.drew
              have e1 : (fun i => if i = k then wrap64 (sa + ra) else po x y k j i) = po x y k (j + 1) := by rw [HS1.out]; exact po_put x y k j
              have e2 : (fun i => if i = k then wrap64 (sb + rb) else qo x y k j i) = qo x y k (j + 1) := by rw [HS2.out]; exact qo_put x y k j
              rw [e1, e2] at h
              exact Lib.hid h)⟩
            case measure => simp [intOf]; omega
        · obtain rfl : j = 4 := by omega
          go_wp2
          go_roundw
          case rel => exact ⟨k + 1, by omega, by go_num, by have h := hrf; rw [po_next, qo_next] at h; exact h⟩
          case measure => simp [intOf]; omega
    · obtain rfl : k = 4 := by omega
      have HO : Hid (wr.heap[w.heap.size + 1 + 1]? = some (.cells (row8 (fun k => Sr x y (-(k : Int)) 4) (fun k => Si x y (-(k : Int)) 4)) 30 (0, 0))) := by
        have h := hrf.out.o
        rw [row_end] at h
        exact h
      have HRr := Lib.hid hrf.out.r
      have HBl := Lib.hid hrf.out.below
      have b1 := r8_size (fun k => Sr x y (-(k : Int)) 4) (fun k => Si x y (-(k : Int)) 4)
      have b2 := Lib.hid (r8_one (fun k => Sr x y (-(k : Int)) 4) (fun k => Si x y (-(k : Int)) 4))
      have HE : Hid (arr8 (fun k => Sr x y (-(k : Int)) 4) (fun k => Si x y (-(k : Int)) 4) = .agg (row8 (fun k => Sr x y (-(k : Int)) 4) (fun k => Si x y (-(k : Int)) 4))) := rfl
      generalize row8 (fun k => Sr x y (-(k : Int)) 4) (fun k => Si x y (-(k : Int)) 4) = B8 at HO b1 b2 HE
      clear hrf HX HY HR0
      go_wp2_with (first | (refine wpList_load_row rfl 30 (.tmp 3) rfl (w.heap.size + 1 + 1) rfl 30 B8 (0, 0) (.array 4 26) HO.out Try.underlying30 rfl (by rw [b1]; kernel_rfl) ?_) | (refine wpList_store_row rfl 30 (.tmp 2) (.tmp 42) rfl (w.heap.size + 1) B8 rfl rfl 30 _ HRr.out (by rw [b1]; kernel_rfl) (by rw [b1]; rfl) b2.out ?_))
      exact bodyPost_ret (results_cell_row (by rfl) _ _ (w.heap.size + 1) 30 _ (0, 0) (.array 4 26) rfl (setRow_heap _ _ _ _ _ _ HRr.out) Try.underlying30 rfl (by rw [b1]; kernel_rfl)) rfl ⟨by rw [HE.out], below_setRow HBl.out (by omega) _⟩
end Go.Proofs.Ytehjjjdelpbkpaa
