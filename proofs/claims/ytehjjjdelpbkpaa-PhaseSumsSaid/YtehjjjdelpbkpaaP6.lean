/-
  Package phase: a new meter; what is added to one.
-/
import Derived.Test.YtehjjjdelpbkpaaP5
namespace Go.Proofs.Ytehjjjdelpbkpaa
open Go.RowKit Go.Proofs.YtehjjjdelpbkpaaW.PrintWords
open F
set_option maxHeartbeats 1000000 in
theorem New_any (w : World) : Calls Try.prog 20 #[] w fun e w' => e = .returned (.pointer (some ⟨w.heap.size, 0, none⟩)) ∧ w' = w.alloc (.cells (mt fun _ => 0) 58 (0, 0)) := by
  go_enter Try.func20, Try.ntmps20
  go_wp2
  go_ret
  exact ⟨rfl, rfl⟩
set_option maxHeartbeats 1000000 in
theorem Add_nil (t N : Int) (w : World) : Calls Try.prog 21 #[.pointer none, .int .i64 t, .int .i64 N] w fun e w' => e = .returned (.bool false) ∧ w = w' := by
  go_enter Try.func21, Try.ntmps21
  go_wp2
  go_ret
  exact ⟨rfl, rfl⟩
/-- Is that much taken? -/
def addOk (n : Nat → Int) (t N : Int) : Bool := decide (0 ≤ N ∧ N ≤ 1048576 ∧ n (t % 4).toNat ≤ 274877906944 - N)
/-- The counts behind it. -/
def addTo (n : Nat → Int) (t N : Int) : Nat → Int := if addOk n t N = true then fun j => if j = (t % 4).toNat then n j + N else n j else n
/-- What an addition leaves: the meter's block turned, all else as it was. -/
structure Added (w w' : World) (g : Nat) (n : Nat → Int) : Prop where
  row : w'.heap[g]? = some (.cells (mt n) 58 (0, 0))
  below : ∀ B w0, B ≤ g → Below B w0 w → Below B w0 w'
  far : ∀ i, i ≠ g → w'.heap[i]? = w.heap[i]?
theorem Added.stay {w : World} {g : Nat} {n : Nat → Int} (h : w.heap[g]? = some (.cells (mt n) 58 (0, 0))) (q : Nat) : Added w (w.drewN q) g n := ⟨h, fun _ _ _ hb => ⟨hb.os, hb.tape, hb.output, hb.size, hb.block⟩, fun _ _ => rfl⟩
theorem Added.set {w : World} {g : Nat} {n n' : Nat → Int} {m : Nat} {v : Int} (h : w.heap[g]? = some (.cells (mt n) 58 (0, 0))) (q : Nat) (e : (mt n).setIfInBounds m (.int .i64 v) = mt n') : Added w ((w.drewN q).setCell ⟨g, m, none⟩ (.int .i64 v)) g n' :=
  ⟨blk_put (w := w.drewN q) h m _ e, fun B w0 hB hb => Below.setCell (w := w.drewN q) ⟨hb.os, hb.tape, hb.output, hb.size, hb.block⟩ hB _, fun i hi => Below.heap_setCell (w.drewN q) ⟨g, m, none⟩ _ i hi⟩
theorem addOk_at {n : Nat → Int} {t N : Int} {m : Nat} (h : t % 4 = m) : addOk n t N = decide (0 ≤ N ∧ N ≤ 1048576 ∧ n m ≤ 274877906944 - N) := by simp only [addOk, h, Int.toNat_natCast]
theorem addTo_no {n : Nat → Int} {t N : Int} (h : addOk n t N = false) : addTo n t N = n := by simp [addTo, h]
theorem addTo_yes {n : Nat → Int} {t N : Int} {m : Nat} (h : t % 4 = m) (hk : addOk n t N = true) : addTo n t N = fun j => if j = m then n j + N else n j := by simp [addTo, hk, h]
set_option maxHeartbeats 2000000 in
theorem Add_any (g : Nat) (n : Nat → Int) (t N : Int) (hn : ∀ j, j < 4 → 0 ≤ n j ∧ n j ≤ 274877906944) (w : World) (h : w.heap[g]? = some (.cells (mt n) 58 (0, 0))) :
    Calls Try.prog 21 #[.pointer (some ⟨g, 0, none⟩), .int .i64 t, .int .i64 N] w fun e w' => e = .returned (.bool (addOk n t N)) ∧ Added w w' g (addTo n t N) := by
  obtain ⟨m, hm4, hm⟩ := negmod t
  have HM : Hid (∀ w, Calls Try.prog 26 #[.int .i64 t] w fun e w' => e = .returned (.int .i64 (m : Int)) ∧ w' = w) := fun w => (mod_as t m hm w).mono fun e w' h => ⟨h.1, h.2.symm⟩
  have H := Lib.hid h
  have hok := Lib.hid (addOk_at (n := n) (N := N) hm)
  have hyes : Hid (addOk n t N = true → addTo n t N = fun j => if j = m then n j + N else n j) := addTo_yes hm
  have hno : Hid (addOk n t N = false → addTo n t N = n) := addTo_no
  clear hm h
  by_cases h0 : N < 0
  · have e : addOk n t N = false := by rw [hok.out]; exact decide_eq_false (by omega)
    rw [e, hno.out e]
    clear e hok hyes hno
    go_enter Try.func21, Try.ntmps21
    go_wp2
    go_ret
    exact ⟨rfl, Added.stay H.out 0⟩
  by_cases h1 : 1048576 < N
  · have e : addOk n t N = false := by rw [hok.out]; exact decide_eq_false (by omega)
    rw [e, hno.out e]
    clear e hok hyes hno
    go_enter Try.func21, Try.ntmps21
    go_wp2
    go_ret
    exact ⟨rfl, Added.stay H.out 0⟩
  have hw : wrap64 (274877906944 - N) = 274877906944 - N := by unfold wrap64; omega
  have hnm := hn m hm4
  have hw2 : Hid (wrap64 (n m + N) = n m + N) := by have := hnm; show wrap64 _ = _; unfold wrap64; omega
  have hcell : w.cell? ⟨g, m, none⟩ = some (.int .i64 (n m)) := (blk_cell H.out m).trans (mt_get n m hm4)
  have hfree : w.frozen? ⟨g, m, none⟩ = false := blk_frozen H.out m
  have hput : Hid (∀ v, (mt n).setIfInBounds m (.int .i64 v) = mt (fun j => if j = m then v else n j)) := by
    intro v
    have hm' : m = 0 ∨ m = 1 ∨ m = 2 ∨ m = 3 := by omega
    rcases hm' with rfl | rfl | rfl | rfl <;> rfl
  by_cases h2 : 274877906944 - N < n m
  · have e : addOk n t N = false := by rw [hok.out]; exact decide_eq_false (by omega)
    rw [e, hno.out e]
    clear e hok hyes hno hn
    have hI1 : (0 : Int) ≤ (m : Int) := by omega
    have hI2 : (m : Int) < 4 := by omega
    go_enter Try.func21, Try.ntmps21
    go_wp2
    go_quiet (first | (go_at_call 26; exact Calls.quiet_of_same (HM.out _)))
    go_wp2
    go_ret
    exact ⟨rfl, Added.stay H.out _⟩
  · have e : addOk n t N = true := by rw [hok.out]; exact decide_eq_true (by omega)
    have hy := Lib.hid ((hyes.out e).trans (by funext j; split <;> simp_all : (fun j => if j = m then n j + N else n j) = fun j => if j = m then n m + N else n j))
    rw [e, hy.out]
    clear e hok hyes hno hn
    have hI1 : (0 : Int) ≤ (m : Int) := by omega
    have hI2 : (m : Int) < 4 := by omega
    go_enter Try.func21, Try.ntmps21
    go_wp2
    go_quiet (first | (go_at_call 26; exact Calls.quiet_of_same (HM.out _)))
    go_wp2
    go_ret
    refine ⟨rfl, ?_⟩
    exact Added.set H.out _ (hput.out _)
end Go.Proofs.Ytehjjjdelpbkpaa
