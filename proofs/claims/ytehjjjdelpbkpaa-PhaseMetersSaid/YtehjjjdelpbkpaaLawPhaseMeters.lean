/-
  Meters: the law's walk, and its row.
-/
import Derived.Test.YtehjjjdelpbkpaaPA
import Derived.Test.YtehjjjdelpbkpaaPB
import Derived.StillTailTactics
namespace Go.Proofs.Ytehjjjdelpbkpaa
open Go.RowKit Go Go.Proofs.YtehjjjdelpbkpaaW.PrintWords
open F
/-- The meter's row, the law's own counts; what was there before. -/
structure KM (w : World) (n : Nat → Int) (W : World) : Prop where
  m : W.heap[w.heap.size]? = some (.cells (mt n) 58 (0, 0))
  c : W.heap[w.heap.size + 1]? = some (.cells (mt n) 49 (0, 0))
  below : Below w.heap.size w W
theorem KM.drewN {w : World} {n : Nat → Int} {W : World} (h : KM w n W) (q : Nat) : KM w n (W.drewN q) := ⟨h.m, h.c, ⟨h.below.os, h.below.tape, h.below.output, h.below.size, h.below.block⟩⟩
theorem mt_put (n : Nat → Int) (m : Nat) (N : Int) (hm : m < 4) : (mt n).setIfInBounds m (.int .i64 (n m + N)) = mt (fun j => if j = m then n j + N else n j) := by
  have h4 : m = 0 ∨ m = 1 ∨ m = 2 ∨ m = 3 := by omega
  rcases h4 with rfl | rfl | rfl | rfl <;> rfl
theorem KM.set {w W : World} {n n' : Nat → Int} {m : Nat} {v : Value} (h1 : W.heap[w.heap.size]? = some (.cells (mt n') 58 (0, 0))) (h2 : W.heap[w.heap.size + 1]? = some (.cells (mt n) 49 (0, 0))) (hb : Below w.heap.size w W) (hm : m < 4) (e : (mt n).setIfInBounds m v = mt n') :
    KM w n' (W.setCell ⟨w.heap.size + 1, m, none⟩ v).drew := ⟨blk_far (w := W) h1 (by simp only [ne_eq]; omega) _, blk_put (w := W) h2 m _ e, (hb.setCell (p := ⟨w.heap.size + 1, m, none⟩) (by simp) _).drew⟩
/-- The counts as pairs, as far as they have been laid. -/
def lay4 (n : Nat → Int) (j i : Nat) : Int := if i < j then n i else 0
structure KX (w : World) (n : Nat → Int) (g : Nat) (p : Nat → Int) (W : World) : Prop where
  km : KM w n W
  x : W.heap[g]? = some (.cells (row8 p fun _ => 0) 30 (0, 0))
theorem KM.step {w W W' : World} {n : Nat → Int} (h : KM w n W) (hb : Below W.heap.size W W') : KM w n W' := ⟨blk_below h.m hb, blk_below h.c hb, below_two h.below hb⟩
theorem KX.new {w W : World} {n : Nat → Int} (h : KM w n W) : KX w n W.heap.size (lay4 n 0) (W.alloc (.cells #[.int .i64 0, .int .i64 0, .int .i64 0, .int .i64 0, .int .i64 0, .int .i64 0, .int .i64 0, .int .i64 0] 30 (0, 0))) := ⟨h.step ((Below.refl _ _).alloc (Nat.le_refl _) _), blk_new _ _⟩
theorem lay_put (n : Nat → Int) (j : Nat) : (fun i => if i = j then n j else lay4 n j i) = lay4 n (j + 1) := by
  funext i
  unfold lay4
  by_cases h : i = j
  · subst h; simp
  · by_cases h2 : i < j
    · simp [h, h2, show i < j + 1 by omega]
    · simp [h, h2, show ¬ i < j + 1 by omega]
theorem KX.put {w W : World} {n : Nat → Int} {g j : Nat} (h : KX w n g (lay4 n j) W) (hg : w.heap.size + 1 < g) (hj : j < 4) : KX w n g (lay4 n (j + 1)) (W.setCell ⟨g, j * 2, none⟩ (.int .i64 (n j))) :=
  ⟨⟨blk_far h.km.m (by simp only [ne_eq]; omega) _, blk_far h.km.c (by simp only [ne_eq]; omega) _, h.km.below.setCell (p := ⟨g, j * 2, none⟩) (by simp; omega) _⟩, blk_put h.x (j * 2) _ (by rw [row8_setR _ _ j hj, lay_put])⟩
theorem KX.drewN {w W : World} {n : Nat → Int} {g : Nat} {p : Nat → Int} (h : KX w n g p W) (q : Nat) : KX w n g p (W.drewN q) := ⟨h.km.drewN q, h.x⟩
theorem lay_row (n : Nat → Int) : row8 (lay4 n 4) (fun _ => 0) = row8 n (fun _ => 0) := by simp [row8, lay4]
structure KW (w : World) (n : Nat → Int) (g : Nat) (P Q : Nat → Int) (W : World) : Prop where
  km : KM w n W
  z : W.heap[g]? = some (.cells (row8 P Q) 30 (0, 0))
theorem KW.step {w W W' : World} {n : Nat → Int} {g : Nat} {P Q : Nat → Int} (h : KW w n g P Q W) (hb : Below W.heap.size W W') : KW w n g P Q W' := ⟨h.km.step hb, blk_below h.z hb⟩
theorem KW.all {w W : World} {n : Nat → Int} {g : Nat} {P Q : Nat → Int} (h : KW w n g P Q W) {m : Nat} (hm : m < 4) : KW w n g P Q W ∧ W.cell? ⟨w.heap.size + 1, 0, none⟩ = some (.int .i64 (n 0)) ∧ W.cell? ⟨w.heap.size + 1, 1, none⟩ = some (.int .i64 (n 1)) ∧ W.cell? ⟨w.heap.size + 1, 2, none⟩ = some (.int .i64 (n 2)) ∧ W.cell? ⟨w.heap.size + 1, 3, none⟩ = some (.int .i64 (n 3)) ∧
    W.cell? ⟨g, m * 2, none⟩ = some (.int .i64 (P m)) ∧ W.cell? ⟨g, m * 2 + 1, none⟩ = some (.int .i64 (Q m)) :=
  ⟨h, blk_cell h.km.c 0, blk_cell h.km.c 1, blk_cell h.km.c 2, blk_cell h.km.c 3, (blk_cell h.z _).trans (row8_at P Q m hm).1, (blk_cell h.z _).trans (row8_at P Q m hm).2⟩
theorem turn_mod' (k : Int) : (IntKind.i64.wrap (k.tmod 4 + 4)).tmod 4 = k % 4 := by
  have h := tmod4 k
  have h2 : IntKind.i64.wrap (k.tmod 4 + 4) = k.tmod 4 + 4 := by rw [IntKind.wrap_i64]; omega
  rw [h2, Int.tmod_eq_emod_of_nonneg (by omega)]
  exact h.2.2
set_option maxHeartbeats 4000000 in
set_option maxRecDepth 100000 in
theorem PhaseMeters_any (A : Option Addr) (len cap b off : Nat) (T N : Nat → Int) (q : Int) (w : World) (hL : Adds w A len b off T N) : Calls Try.prog 10 #[.slice A len cap, .int .i64 q] w fun e w' => e = .returned (.bool true) ∧ Below w.heap.size w w' := by
  have HL := Lib.hid hL
  clear hL
  go_enter Try.func10, Try.ntmps10
  go_wp2_with (go_at_call 20; (refine (New_any _).mono ?_); rintro e w1 ⟨rfl, rfl⟩)
  have es : (w.alloc (.cells (mt fun _ => 0) 58 (0, 0))).heap.size = w.heap.size + 1 := by simp
  have H0 := Lib.hid (KM.mk (w := w) (n := fun _ => 0) (blk_keep (blk_new w (.cells (mt fun _ => 0) 58 (0, 0))) (.cells (mt fun _ => 0) 49 (0, 0))) (blk_at es) (below_more (below_one w (.cells (mt fun _ => 0) 58 (0, 0))) _))
  go_loopw [7, 8, 9] (fun v7 v8 v9 wr => ∃ (k : Nat) (n : Nat → Int), k ≤ 200 ∧ v7 = .int .i64 (k : Int) ∧ Hid (∀ j, j < 4 → 0 ≤ n j ∧ n j ≤ 274877906944) ∧ Hid (KM w n wr)) (fun v7 _ _ _ => 200 - (intOf v7).toNat)
  case atStart => exact ⟨0, fun _ => 0, by omega, rfl, fun j _ => ⟨Int.le_refl 0, show (0 : Int) ≤ 274877906944 by decide⟩, H0⟩
  case round =>
    obtain ⟨k, n, hk, rfl, hn, hkm⟩ := hrel
    by_cases hlen : k < len
    · by_cases h200 : k < 200
      · have hb := HL.out.low (by omega)
        obtain ⟨hc1, hc2⟩ := HL.out.cells k hlen
        obtain rfl : A = some ⟨b, off, none⟩ := HL.out.place (by omega)
        obtain ⟨m, hm4, hm⟩ := negmod (T k)
        have hd1 : wr.cell? ⟨b, off + k * 2, none⟩ = some (.int .i64 (T k)) := (hkm.out.below.cell (p := ⟨b, off + k * 2, none⟩) hb).trans hc1
        have hd2 : wr.cell? ⟨b, off + k * 2 + 1, none⟩ = some (.int .i64 (N k)) := (hkm.out.below.cell (p := ⟨b, off + k * 2 + 1, none⟩) hb).trans hc2
        have hd3 : wr.cell? ⟨w.heap.size + 1, m, none⟩ = some (.int .i64 (n m)) := (blk_cell hkm.out.c m).trans (mt_get n m hm4)
        have HP : Hid (∀ W, Calls Try.prog 25 #[.int .i64 (T k)] W fun e w' => e = .returned (.int .i64 (m : Int)) ∧ W = w') := fun W => by have h := Phase_any (T k) W; rw [hm] at h; exact h
        have HC1 := Lib.hid hc1
        have HC2 := Lib.hid hc2
        have hI1 : (0 : Int) ≤ (m : Int) := by omega
        have hI2 : (m : Int) < 4 := by omega
        have HM := Lib.hid hm
        have HM4 := Lib.hid hm4
        clear hc1 hc2 hm hm4
        have hok := Lib.hid (addOk_at (n := n) (N := N k) HM.out)
        have hnm := hn.out m HM4.out
        go_upto_region 9 with (go_at_call 25; (with_reducible refine (HP.out _).mono ?_); rintro e w' ⟨rfl, rfl⟩)
        go_cut [9] (fun v9 wx => v9 = .bool (addOk n (T k) (N k)) ∧ Hid (KM w n wx))
        case first =>
          by_cases g0 : 0 ≤ N k
          · by_cases g1 : N k ≤ 1048576
            · have hw : IntKind.i64.wrap (274877906944 - N k) = 274877906944 - N k := by rw [IntKind.wrap_i64]; omega
              have e : addOk n (T k) (N k) = decide (n m ≤ 274877906944 - N k) := by rw [hok.out]; simp [g0, g1]
              have E := Lib.hid e
              clear e hok
              have b0 : decide (0 ≤ N k) = true := decide_eq_true g0
              have b1 : decide (N k ≤ 1048576) = true := decide_eq_true g1
              go_quiet (fail)
              go_wp2_with fail
              go_meet
              exact ⟨congrArg Value.bool E.out.symm, hkm.out.drewN _⟩
            · have e : addOk n (T k) (N k) = false := by rw [hok.out]; exact decide_eq_false (by omega)
              have E := Lib.hid e
              clear e hok
              have b0 : decide (0 ≤ N k) = true := decide_eq_true g0
              have b1 : decide (N k ≤ 1048576) = false := decide_eq_false g1
              go_quiet (fail)
              go_wp2_with fail
              go_meet
              exact ⟨congrArg Value.bool E.out.symm, hkm.out.drewN _⟩
          · have e : addOk n (T k) (N k) = false := by rw [hok.out]; exact decide_eq_false (by omega)
            have E := Lib.hid e
            clear e hok
            have b0 : decide (0 ≤ N k) = false := decide_eq_false g0
            go_quiet (fail)
            go_wp2_with fail
            go_meet
            exact ⟨congrArg Value.bool E.out.symm, hkm.out.drewN _⟩
        case rest =>
          obtain ⟨rfl, hkc⟩ := hcut
          clear hd1 hd2 hd3 hkm
          have hS0 := And.intro (Lib.hid hkc.out.below.drew) (And.intro ((hkc.out.below.cell (p := ⟨b, off + k * 2, none⟩) hb).trans HC1.out : wc.drew.cell? ⟨b, off + k * 2, none⟩ = some (.int .i64 (T k))) ((hkc.out.below.cell (p := ⟨b, off + k * 2 + 1, none⟩) hb).trans HC2.out : wc.drew.cell? ⟨b, off + k * 2 + 1, none⟩ = some (.int .i64 (N k))))
          cases hokb : addOk n (T k) (N k) with
          | true =>
            have HA1 : Hid (Calls Try.prog 21 #[.pointer (some ⟨w.heap.size, 0, none⟩), .int .i64 (T k), .int .i64 (N k)] wc.drew fun e w' => e = .returned (.bool true) ∧ Added wc.drew w' w.heap.size (addTo n (T k) (N k))) := by
              have h := Add_any w.heap.size n (T k) (N k) hn.out wc.drew hkc.out.m
              rw [hokb] at h
              exact h
            have HOK := Lib.hid hokb
            have HY := Lib.hid (addTo_yes HM.out hokb)
            have hwt : wrap64 (n m + N k) = n m + N k := by
              have h2 := hok.out.symm.trans hokb
              simp only [decide_eq_true_eq] at h2
              unfold wrap64
              omega
            clear hokb hok
            go_upto_region 10 with fail
            go_region_held3 (fun W => Hid (Below w.heap.size w W) ∧ W.cell? ⟨b, off + k * 2, none⟩ = some (.int .i64 (T k)) ∧ W.cell? ⟨b, off + k * 2 + 1, none⟩ = some (.int .i64 (N k))) (assumption)
              (first | (go_at_call 21; (with_reducible refine HA1.out.mono ?_); rintro e w3 ⟨rfl, hadd⟩; have HAd := Lib.hid hadd; have hS1 := And.intro (Lib.hid (hadd.below _ _ (Nat.le_refl _) hkc.out.below.drew)) (And.intro (((hadd.below _ _ (Nat.le_refl _) hkc.out.below.drew).cell (p := ⟨b, off + k * 2, none⟩) hb).trans HC1.out) (((hadd.below _ _ (Nat.le_refl _) hkc.out.below.drew).cell (p := ⟨b, off + k * 2 + 1, none⟩) hb).trans HC2.out)); clear hadd) | (go_at_call 21; exact (0 : Nat)))
            have hc3 : Hid (w3.heap[w.heap.size + 1]? = some (.cells (mt n) 49 (0, 0))) := (HAd.out.far (w.heap.size + 1) (by omega)).trans hkc.out.c
            have hcA : w3.cell? ⟨w.heap.size + 1, m, none⟩ = some (.int .i64 (n m)) := (blk_cell hc3.out m).trans (mt_get n m HM4.out)
            have hfA : w3.frozen? ⟨w.heap.size + 1, m, none⟩ = false := blk_frozen hc3.out m
            have hq1 := hS1.2.1
            have hq2 := hS1.2.2
            have HS1 := Lib.hid hS1.1.out
            clear hS0 hS1
            go_upto_region 13 with fail
            go_still_tail 10, (by kernel_rfl)
            change wpList _ _ _ _ _ w3.drew
            go_wp2
            go_roundw
            case rel => exact ⟨k + 1, addTo n (T k) (N k), by omega, by go_num, addTo_ok n (T k) (N k) hn.out, KM.set HAd.out.row hc3.out HS1.out HM4.out (by rw [HY.out]; exact mt_put n m (N k) HM4.out)⟩
            case measure => simp [intOf]; omega
          | false =>
            have HA1 : Hid (Calls Try.prog 21 #[.pointer (some ⟨w.heap.size, 0, none⟩), .int .i64 (T k), .int .i64 (N k)] wc.drew fun e w' => e = .returned (.bool false) ∧ Added wc.drew w' w.heap.size n) := by
              have h := Add_any w.heap.size n (T k) (N k) hn.out wc.drew hkc.out.m
              rw [hokb, addTo_no hokb] at h
              exact h
            clear hokb hok
            go_upto_region 10 with fail
            go_region_held3 (fun W => Hid (Below w.heap.size w W) ∧ W.cell? ⟨b, off + k * 2, none⟩ = some (.int .i64 (T k)) ∧ W.cell? ⟨b, off + k * 2 + 1, none⟩ = some (.int .i64 (N k))) (assumption)
              (first | (go_at_call 21; (with_reducible refine HA1.out.mono ?_); rintro e w3 ⟨rfl, hadd⟩; have HAd := Lib.hid hadd; have hS1 := And.intro (Lib.hid (hadd.below _ _ (Nat.le_refl _) hkc.out.below.drew)) (And.intro (((hadd.below _ _ (Nat.le_refl _) hkc.out.below.drew).cell (p := ⟨b, off + k * 2, none⟩) hb).trans HC1.out) (((hadd.below _ _ (Nat.le_refl _) hkc.out.below.drew).cell (p := ⟨b, off + k * 2 + 1, none⟩) hb).trans HC2.out)); clear hadd) | (go_at_call 21; exact (0 : Nat)))
            have hc3 : Hid (w3.heap[w.heap.size + 1]? = some (.cells (mt n) 49 (0, 0))) := (HAd.out.far (w.heap.size + 1) (by omega)).trans hkc.out.c
            go_wp2
            go_roundw
            case rel => exact ⟨k + 1, n, by omega, by go_num, hn, Lib.hid ⟨HAd.out.row, hc3.out, hS1.1.out⟩⟩
            case measure => simp [intOf]; omega
      · have HA : Hid (∀ j, j < 4 → (n j).natAbs ≤ 274877906944) := fun j hj => by have := hn.out j hj; omega
        go_wp2
        have HX := Lib.hid (KX.new hkm.out)
        have HG : Hid (w.heap.size + 1 < wr.heap.size) := blk_lt hkm.out.c
        generalize wr.heap.size = g at HX HG
        clear hkm hn
        go_loopw [11, 12, 84] (fun v11 v12 v84 wr2 => ∃ (j : Nat), j ≤ 4 ∧ v84 = .int .i64 (j : Int) ∧ v11 = .int .i64 (pk n j : Int) ∧ Hid (KX w n g (lay4 n j) wr2)) (fun _ _ v84 _ => 4 - (intOf v84).toNat)
        case atStart => exact ⟨0, by omega, rfl, rfl, HX⟩
        case round =>
          obtain ⟨j, hj, rfl, rfl, hkx⟩ := hrel
          by_cases hjl : j < 4
          · have hb4 := pk_lt n j hj
            have hc1 : wr.cell? ⟨w.heap.size + 1, j, none⟩ = some (.int .i64 (n j)) := (blk_cell hkx.out.km.c j).trans (mt_get n j hjl)
            have hcx : wr.cell? ⟨g, j * 2, none⟩ = some (.int .i64 (lay4 n j j)) := (blk_cell hkx.out.x _).trans (row8_at _ _ j hjl).1
            have hfx : wr.frozen? ⟨g, j * 2, none⟩ = false := blk_frozen hkx.out.x _
            have hpk : pk n (j + 1) = if n (pk n j) < n j then j else pk n j := rfl
            have hI1 : (0 : Int) ≤ (j : Int) := by omega
            have hI2 : (j : Int) < 4 := by omega
            have hI3 : (0 : Int) ≤ (pk n j : Int) := by omega
            have hI4 : (pk n j : Int) < 4 := by omega
            generalize pk n j = p at hb4 hpk hI3 hI4
            have HPK := Lib.hid hpk
            clear hpk
            go_upto_region 20 with fail
            have HX2 := Lib.hid (KX.put hkx.out HG.out hjl)
            have hd1 : (wr.setCell ⟨g, j * 2, none⟩ (.int .i64 (n j))).cell? ⟨w.heap.size + 1, j, none⟩ = some (.int .i64 (n j)) := (blk_cell HX2.out.km.c j).trans (mt_get n j hjl)
            have hd2 : (wr.setCell ⟨g, j * 2, none⟩ (.int .i64 (n j))).cell? ⟨w.heap.size + 1, p, none⟩ = some (.int .i64 (n p)) := (blk_cell HX2.out.km.c p).trans (mt_get n p hb4)
            clear hc1 hcx hfx
            generalize World.setCell wr ⟨g, j * 2, none⟩ (.int .i64 (n j)) = W2 at HX2 hd1 hd2 ⊢
            by_cases hgt : n p < n j
            · have HP := Lib.hid (HPK.out.trans (if_pos hgt))
              clear HPK
              go_quiet (fail)
              go_wp2
              go_roundw
              case rel => exact ⟨j + 1, by omega, by go_num, by rw [HP.out], HX2.out.drewN _⟩
              case measure => simp [intOf]; omega
            · have HP := Lib.hid (HPK.out.trans (if_neg hgt))
              clear HPK
              go_quiet (fail)
              go_wp2
              go_roundw
              case rel => exact ⟨j + 1, by omega, by go_num, by rw [HP.out], HX2.out.drewN _⟩
              case measure => simp [intOf]; omega
          · obtain rfl : j = 4 := by omega
            have HX4 : Hid (wr.heap[g]? = some (.cells (row8 n fun _ => 0) 30 (0, 0))) := by have h := hkx.out.x; rw [lay_row] at h; exact h
            have HKM := Lib.hid hkx.out.km
            have HRF := Lib.hid (rForth_any n (fun _ => 0) (fun j hj => by have := HA.out j hj; omega) (fun _ _ => Nat.zero_le _))
            clear hkx HX
            have a1 := r8_size n (fun _ => 0)
            unfold arr8 at HRF
            generalize row8 n (fun _ => 0) = A8 at HX4 HRF a1
            generalize hP : (fun k : Nat => Sr n (fun _ => 0) (-(k : Int)) 4) = P at HRF
            generalize hQ : (fun k : Nat => Si n (fun _ => 0) (-(k : Int)) 4) = Q at HRF
            have HPQ : Hid (∀ k, P k = Sr n (fun _ => 0) (-(k : Int)) 4 ∧ Q k = Si n (fun _ => 0) (-(k : Int)) 4) := fun k => by rw [← hP, ← hQ]; exact ⟨rfl, rfl⟩
            clear hP hQ
            have c1 := r8_size P Q
            have c2 := Lib.hid (r8_one P Q)
            generalize hC8 : row8 P Q = C8 at HRF c1 c2
            have HCC : Hid (row8 P Q = C8) := hC8
            clear hC8
            have tok1 : True := trivial
            have tok2 : True := trivial
            go_upto_region 24 with (first | (have _t := tok1; refine wpList_load_row rfl 30 (.tmp 10) rfl g rfl 30 A8 (0, 0) (.array 4 26) HX4.out Try.underlying30 rfl (by rw [a1]; kernel_rfl) ?_; clear _t tok1) | (go_at_call 18; (refine (HRF.out _).mono ?_); rintro e w3 ⟨rfl, hb3⟩; have HK3 := Lib.hid (KM.step HKM.out hb3); clear hb3) | (have _t := tok2; refine wpList_store_row rfl 30 (.tmp 13) (.tmp 103) rfl w3.heap.size C8 rfl rfl 30 _ (blk_new w3 _) (by rw [c1]; kernel_rfl) (by rw [c1]; rfl) c2.out ?_; clear _t tok2))
            dsimp only [Act.put]
            obtain ⟨mq, hmq4, hmq⟩ := negmod q
            have hix1 : (wrap64 (q.tmod 4 + 4)).tmod 4 = (mq : Int) := (turn_mod q).trans hmq
            have hix2 : (IntKind.i64.wrap (q.tmod 4 + 4)).tmod 4 = (mq : Int) := (turn_mod' q).trans hmq
            have hJ1 : (0 : Int) ≤ (mq : Int) := by omega
            have hJ2 : (mq : Int) < 4 := by omega
            have HM4 := Lib.hid hmq4
            have HCo : Hid (∀ W, KM w n W → Calls Try.prog 23 #[.pointer (some ⟨w.heap.size, 0, none⟩)] W fun e w' => e = .returned (.agg #[.int .i64 (n 0), .int .i64 (n 1), .int .i64 (n 2), .int .i64 (n 3)]) ∧ Below W.heap.size W w') := fun W h => Counts_any w.heap.size n W h.m
            have HWv : Hid (∀ W, KM w n W → Calls Try.prog 22 #[.pointer (some ⟨w.heap.size, 0, none⟩), .int .i64 q] W fun e w' => ∃ re im, e = .returned (.complex .f64 re im) ∧ (Fl re (P mq) ∧ Fl im (Q mq)) ∧ Below W.heap.size W w') := fun W h =>
              (Wave_any (.pointer (some ⟨w.heap.size, 0, none⟩)) n q 274877906944 (by omega) HA.out W (fun W' hW => Counts_any w.heap.size n W' (blk_below h.m hW))).mono fun e w' ⟨re, im, h1, h2, h3, h4⟩ => ⟨re, im, h1, ⟨by rw [(HPQ.out mq).1, ← hmq]; exact h2, by rw [(HPQ.out mq).2, ← hmq]; exact h3⟩, h4⟩
            have HPk : Hid (∀ W, KM w n W → Calls Try.prog 24 #[.pointer (some ⟨w.heap.size, 0, none⟩)] W fun e w' => e = .returned (.int .i64 (pk n 4 : Int)) ∧ Below W.heap.size W w') := fun W h => Peak_any _ n W (fun W' hW => Counts_any w.heap.size n W' (blk_below h.m hW))
            have hz1 := Sr_abs n (fun _ => 0) (-(mq : Int)) 274877906944 HA.out (fun _ _ => Nat.zero_le _) 4 (by omega)
            have hz2 := Si_abs n (fun _ => 0) (-(mq : Int)) 274877906944 HA.out (fun _ _ => Nat.zero_le _) 4 (by omega)
            have HIs : Hid (∀ re im W, Fl re (P mq) ∧ Fl im (Q mq) → Calls Try.prog 12 #[.complex .f64 re im, .agg #[.int .i64 (P mq), .int .i64 (Q mq)]] W fun e w' => e = .returned (.bool true) ∧ Below W.heap.size W w') := fun re im W hf => by
              have h := Is_any re im (P mq) (Q mq) (P mq) (Q mq) W hf.1 hf.2 (by rw [(HPQ.out mq).1]; omega) (by rw [(HPQ.out mq).2]; omega)
              simpa using h
            have hEQ : ∀ W, (Op.equalIn 10000 49 (.agg #[.int .i64 (n 0), .int .i64 (n 1), .int .i64 (n 2), .int .i64 (n 3)]) (.agg #[.int .i64 (n 0), .int .i64 (n 1), .int .i64 (n 2), .int .i64 (n 3)])).run Try.prog W = .ok true W := fun W => (eq49 n n W).trans (by simp)
            clear hz1 hz2 hmq hmq4
            generalize pk n 4 = pk4 at HPk
            have hS0 := KW.all (w := w) (n := n) (g := w3.heap.size) (P := P) (Q := Q) (W := World.drew ((w3.alloc (.cells #[.int .i64 0, .int .i64 0, .int .i64 0, .int .i64 0, .int .i64 0, .int .i64 0, .int .i64 0, .int .i64 0] 30 (0, 0))).setRow w3.heap.size C8))
              ⟨⟨row_far (blk_keep HK3.out.m _) (Nat.ne_of_lt (blk_lt HK3.out.m)) _, row_far (blk_keep HK3.out.c _) (Nat.ne_of_lt (blk_lt HK3.out.c)) _, (below_setRow (below_more HK3.out.below _) HK3.out.below.size _).drew⟩, by rw [HCC.out]; exact setRow_heap _ _ _ _ _ _ (blk_new w3 _)⟩ HM4.out
            generalize World.setRow (World.alloc w3 (.cells #[.int .i64 0, .int .i64 0, .int .i64 0, .int .i64 0, .int .i64 0, .int .i64 0, .int .i64 0, .int .i64 0] 30 (0, 0))) w3.heap.size C8 = W2 at hS0 ⊢
            generalize w3.heap.size = g2 at hS0 ⊢
            clear HX4 HKM HRF HK3 HCC HA HPQ a1 c1 c2 HG
            go_region_held3 (fun W => KW w n g2 P Q W ∧ W.cell? ⟨w.heap.size + 1, 0, none⟩ = some (.int .i64 (n 0)) ∧ W.cell? ⟨w.heap.size + 1, 1, none⟩ = some (.int .i64 (n 1)) ∧ W.cell? ⟨w.heap.size + 1, 2, none⟩ = some (.int .i64 (n 2)) ∧ W.cell? ⟨w.heap.size + 1, 3, none⟩ = some (.int .i64 (n 3)) ∧ W.cell? ⟨g2, mq * 2, none⟩ = some (.int .i64 (P mq)) ∧ W.cell? ⟨g2, mq * 2 + 1, none⟩ = some (.int .i64 (Q mq))) (assumption)
              (first
                | (go_at_call 23; (refine (HCo.out _ (And.left ‹KW w n g2 P Q _ ∧ _›).km).mono ?_); rintro e w4 ⟨rfl, hb4⟩; have hS1 := KW.all (KW.step (And.left ‹KW w n g2 P Q _ ∧ _›) hb4) HM4.out)
                | (go_at_call 22; (refine (HWv.out _ (And.left hS1).km).mono ?_); rintro e w5 ⟨re, im, rfl, hfl, hb5⟩; have HFL := Lib.hid hfl; have hS2 := KW.all (KW.step (And.left hS1) hb5) HM4.out; clear hfl)
                | (go_at_call 12; (refine (HIs.out re im _ HFL.out).mono ?_); rintro e w6 ⟨rfl, hb6⟩; have hS3 := KW.all (KW.step (And.left hS2) hb6) HM4.out)
                | (go_at_call 24; (refine (HPk.out _ (And.left hS3).km).mono ?_); rintro e w7 ⟨rfl, hb7⟩; have hS4 := KW.all (KW.step (And.left hS3) hb7) HM4.out)
                | (go_at_call 15; (with_reducible refine (awake_any _).mono ?_); rintro e w8 ⟨rfl, rfl⟩))
            go_wp2
            go_ret
            exact ⟨rfl, hS4.1.km.below⟩
    · have HA : Hid (∀ j, j < 4 → (n j).natAbs ≤ 274877906944) := fun j hj => by have := hn.out j hj; omega
      go_wp2
      have HX := Lib.hid (KX.new hkm.out)
      have HG : Hid (w.heap.size + 1 < wr.heap.size) := blk_lt hkm.out.c
      generalize wr.heap.size = g at HX HG
      clear hkm hn
      go_loopw [11, 12, 84] (fun v11 v12 v84 wr2 => ∃ (j : Nat), j ≤ 4 ∧ v84 = .int .i64 (j : Int) ∧ v11 = .int .i64 (pk n j : Int) ∧ Hid (KX w n g (lay4 n j) wr2)) (fun _ _ v84 _ => 4 - (intOf v84).toNat)
      case atStart => exact ⟨0, by omega, rfl, rfl, HX⟩
      case round =>
        obtain ⟨j, hj, rfl, rfl, hkx⟩ := hrel
        by_cases hjl : j < 4
        · have hb4 := pk_lt n j hj
          have hc1 : wr.cell? ⟨w.heap.size + 1, j, none⟩ = some (.int .i64 (n j)) := (blk_cell hkx.out.km.c j).trans (mt_get n j hjl)
          have hcx : wr.cell? ⟨g, j * 2, none⟩ = some (.int .i64 (lay4 n j j)) := (blk_cell hkx.out.x _).trans (row8_at _ _ j hjl).1
          have hfx : wr.frozen? ⟨g, j * 2, none⟩ = false := blk_frozen hkx.out.x _
          have hpk : pk n (j + 1) = if n (pk n j) < n j then j else pk n j := rfl
          have hI1 : (0 : Int) ≤ (j : Int) := by omega
          have hI2 : (j : Int) < 4 := by omega
          have hI3 : (0 : Int) ≤ (pk n j : Int) := by omega
          have hI4 : (pk n j : Int) < 4 := by omega
          generalize pk n j = p at hb4 hpk hI3 hI4
          have HPK := Lib.hid hpk
          clear hpk
          go_upto_region 20 with fail
          have HX2 := Lib.hid (KX.put hkx.out HG.out hjl)
          have hd1 : (wr.setCell ⟨g, j * 2, none⟩ (.int .i64 (n j))).cell? ⟨w.heap.size + 1, j, none⟩ = some (.int .i64 (n j)) := (blk_cell HX2.out.km.c j).trans (mt_get n j hjl)
          have hd2 : (wr.setCell ⟨g, j * 2, none⟩ (.int .i64 (n j))).cell? ⟨w.heap.size + 1, p, none⟩ = some (.int .i64 (n p)) := (blk_cell HX2.out.km.c p).trans (mt_get n p hb4)
          clear hc1 hcx hfx
          generalize World.setCell wr ⟨g, j * 2, none⟩ (.int .i64 (n j)) = W2 at HX2 hd1 hd2 ⊢
          by_cases hgt : n p < n j
          · have HP := Lib.hid (HPK.out.trans (if_pos hgt))
            clear HPK
            go_quiet (fail)
            go_wp2
            go_roundw
            case rel => exact ⟨j + 1, by omega, by go_num, by rw [HP.out], HX2.out.drewN _⟩
            case measure => simp [intOf]; omega
          · have HP := Lib.hid (HPK.out.trans (if_neg hgt))
            clear HPK
            go_quiet (fail)
            go_wp2
            go_roundw
            case rel => exact ⟨j + 1, by omega, by go_num, by rw [HP.out], HX2.out.drewN _⟩
            case measure => simp [intOf]; omega
        · obtain rfl : j = 4 := by omega
          have HX4 : Hid (wr.heap[g]? = some (.cells (row8 n fun _ => 0) 30 (0, 0))) := by have h := hkx.out.x; rw [lay_row] at h; exact h
          have HKM := Lib.hid hkx.out.km
          have HRF := Lib.hid (rForth_any n (fun _ => 0) (fun j hj => by have := HA.out j hj; omega) (fun _ _ => Nat.zero_le _))
          clear hkx HX
          have a1 := r8_size n (fun _ => 0)
          unfold arr8 at HRF
          generalize row8 n (fun _ => 0) = A8 at HX4 HRF a1
          generalize hP : (fun k : Nat => Sr n (fun _ => 0) (-(k : Int)) 4) = P at HRF
          generalize hQ : (fun k : Nat => Si n (fun _ => 0) (-(k : Int)) 4) = Q at HRF
          have HPQ : Hid (∀ k, P k = Sr n (fun _ => 0) (-(k : Int)) 4 ∧ Q k = Si n (fun _ => 0) (-(k : Int)) 4) := fun k => by rw [← hP, ← hQ]; exact ⟨rfl, rfl⟩
          clear hP hQ
          have c1 := r8_size P Q
          have c2 := Lib.hid (r8_one P Q)
          generalize hC8 : row8 P Q = C8 at HRF c1 c2
          have HCC : Hid (row8 P Q = C8) := hC8
          clear hC8
          have tok1 : True := trivial
          have tok2 : True := trivial
          go_upto_region 24 with (first | (have _t := tok1; refine wpList_load_row rfl 30 (.tmp 10) rfl g rfl 30 A8 (0, 0) (.array 4 26) HX4.out Try.underlying30 rfl (by rw [a1]; kernel_rfl) ?_; clear _t tok1) | (go_at_call 18; (refine (HRF.out _).mono ?_); rintro e w3 ⟨rfl, hb3⟩; have HK3 := Lib.hid (KM.step HKM.out hb3); clear hb3) | (have _t := tok2; refine wpList_store_row rfl 30 (.tmp 13) (.tmp 103) rfl w3.heap.size C8 rfl rfl 30 _ (blk_new w3 _) (by rw [c1]; kernel_rfl) (by rw [c1]; rfl) c2.out ?_; clear _t tok2))
          dsimp only [Act.put]
          obtain ⟨mq, hmq4, hmq⟩ := negmod q
          have hix1 : (wrap64 (q.tmod 4 + 4)).tmod 4 = (mq : Int) := (turn_mod q).trans hmq
          have hix2 : (IntKind.i64.wrap (q.tmod 4 + 4)).tmod 4 = (mq : Int) := (turn_mod' q).trans hmq
          have hJ1 : (0 : Int) ≤ (mq : Int) := by omega
          have hJ2 : (mq : Int) < 4 := by omega
          have HM4 := Lib.hid hmq4
          have HCo : Hid (∀ W, KM w n W → Calls Try.prog 23 #[.pointer (some ⟨w.heap.size, 0, none⟩)] W fun e w' => e = .returned (.agg #[.int .i64 (n 0), .int .i64 (n 1), .int .i64 (n 2), .int .i64 (n 3)]) ∧ Below W.heap.size W w') := fun W h => Counts_any w.heap.size n W h.m
          have HWv : Hid (∀ W, KM w n W → Calls Try.prog 22 #[.pointer (some ⟨w.heap.size, 0, none⟩), .int .i64 q] W fun e w' => ∃ re im, e = .returned (.complex .f64 re im) ∧ (Fl re (P mq) ∧ Fl im (Q mq)) ∧ Below W.heap.size W w') := fun W h =>
            (Wave_any (.pointer (some ⟨w.heap.size, 0, none⟩)) n q 274877906944 (by omega) HA.out W (fun W' hW => Counts_any w.heap.size n W' (blk_below h.m hW))).mono fun e w' ⟨re, im, h1, h2, h3, h4⟩ => ⟨re, im, h1, ⟨by rw [(HPQ.out mq).1, ← hmq]; exact h2, by rw [(HPQ.out mq).2, ← hmq]; exact h3⟩, h4⟩
          have HPk : Hid (∀ W, KM w n W → Calls Try.prog 24 #[.pointer (some ⟨w.heap.size, 0, none⟩)] W fun e w' => e = .returned (.int .i64 (pk n 4 : Int)) ∧ Below W.heap.size W w') := fun W h => Peak_any _ n W (fun W' hW => Counts_any w.heap.size n W' (blk_below h.m hW))
          have hz1 := Sr_abs n (fun _ => 0) (-(mq : Int)) 274877906944 HA.out (fun _ _ => Nat.zero_le _) 4 (by omega)
          have hz2 := Si_abs n (fun _ => 0) (-(mq : Int)) 274877906944 HA.out (fun _ _ => Nat.zero_le _) 4 (by omega)
          have HIs : Hid (∀ re im W, Fl re (P mq) ∧ Fl im (Q mq) → Calls Try.prog 12 #[.complex .f64 re im, .agg #[.int .i64 (P mq), .int .i64 (Q mq)]] W fun e w' => e = .returned (.bool true) ∧ Below W.heap.size W w') := fun re im W hf => by
            have h := Is_any re im (P mq) (Q mq) (P mq) (Q mq) W hf.1 hf.2 (by rw [(HPQ.out mq).1]; omega) (by rw [(HPQ.out mq).2]; omega)
            simpa using h
          have hEQ : ∀ W, (Op.equalIn 10000 49 (.agg #[.int .i64 (n 0), .int .i64 (n 1), .int .i64 (n 2), .int .i64 (n 3)]) (.agg #[.int .i64 (n 0), .int .i64 (n 1), .int .i64 (n 2), .int .i64 (n 3)])).run Try.prog W = .ok true W := fun W => (eq49 n n W).trans (by simp)
          clear hz1 hz2 hmq hmq4
          generalize pk n 4 = pk4 at HPk
          have hS0 := KW.all (w := w) (n := n) (g := w3.heap.size) (P := P) (Q := Q) (W := World.drew ((w3.alloc (.cells #[.int .i64 0, .int .i64 0, .int .i64 0, .int .i64 0, .int .i64 0, .int .i64 0, .int .i64 0, .int .i64 0] 30 (0, 0))).setRow w3.heap.size C8))
            ⟨⟨row_far (blk_keep HK3.out.m _) (Nat.ne_of_lt (blk_lt HK3.out.m)) _, row_far (blk_keep HK3.out.c _) (Nat.ne_of_lt (blk_lt HK3.out.c)) _, (below_setRow (below_more HK3.out.below _) HK3.out.below.size _).drew⟩, by rw [HCC.out]; exact setRow_heap _ _ _ _ _ _ (blk_new w3 _)⟩ HM4.out
          generalize World.setRow (World.alloc w3 (.cells #[.int .i64 0, .int .i64 0, .int .i64 0, .int .i64 0, .int .i64 0, .int .i64 0, .int .i64 0, .int .i64 0] 30 (0, 0))) w3.heap.size C8 = W2 at hS0 ⊢
          generalize w3.heap.size = g2 at hS0 ⊢
          clear HX4 HKM HRF HK3 HCC HA HPQ a1 c1 c2 HG
          go_region_held3 (fun W => KW w n g2 P Q W ∧ W.cell? ⟨w.heap.size + 1, 0, none⟩ = some (.int .i64 (n 0)) ∧ W.cell? ⟨w.heap.size + 1, 1, none⟩ = some (.int .i64 (n 1)) ∧ W.cell? ⟨w.heap.size + 1, 2, none⟩ = some (.int .i64 (n 2)) ∧ W.cell? ⟨w.heap.size + 1, 3, none⟩ = some (.int .i64 (n 3)) ∧ W.cell? ⟨g2, mq * 2, none⟩ = some (.int .i64 (P mq)) ∧ W.cell? ⟨g2, mq * 2 + 1, none⟩ = some (.int .i64 (Q mq))) (assumption)
            (first
              | (go_at_call 23; (refine (HCo.out _ (And.left ‹KW w n g2 P Q _ ∧ _›).km).mono ?_); rintro e w4 ⟨rfl, hb4⟩; have hS1 := KW.all (KW.step (And.left ‹KW w n g2 P Q _ ∧ _›) hb4) HM4.out)
              | (go_at_call 22; (refine (HWv.out _ (And.left hS1).km).mono ?_); rintro e w5 ⟨re, im, rfl, hfl, hb5⟩; have HFL := Lib.hid hfl; have hS2 := KW.all (KW.step (And.left hS1) hb5) HM4.out; clear hfl)
              | (go_at_call 12; (refine (HIs.out re im _ HFL.out).mono ?_); rintro e w6 ⟨rfl, hb6⟩; have hS3 := KW.all (KW.step (And.left hS2) hb6) HM4.out)
              | (go_at_call 24; (refine (HPk.out _ (And.left hS3).km).mono ?_); rintro e w7 ⟨rfl, hb7⟩; have hS4 := KW.all (KW.step (And.left hS3) hb7) HM4.out)
              | (go_at_call 15; (with_reducible refine (awake_any _).mono ?_); rintro e w8 ⟨rfl, rfl⟩))
          go_wp2
          go_ret
          exact ⟨rfl, hS4.1.km.below⟩
end Go.Proofs.Ytehjjjdelpbkpaa
namespace Go.Proofs.Ytehjjjdelpbkpaa.phaseMeters
open Go.ChangeShapes Go.WideShapes Go.ChangeAt Go.RowKit
theorem own : ownKnob Try.prog.godebug = none := by kernel_rfl
theorem laidOut : laidOutB Try.prog = true := by kernel_rfl
set_option maxRecDepth 100000 in
theorem lifted (os : Os) (started : os.Started) (H : Type) (enc : TypeId × Value → H) :
    ReturnsInHanded {} Try.checked os 10 .any (Rows.phaseMetersSpec.pre6 enc Try.prog Try.f10 Rows.phaseMetersRow.domain false) (Rows.phaseMetersSpec.post enc Try.prog Try.f10 false true false false) := by
  refine returnsInHanded_of_change (C := Try.checked) own started (by kernel_rfl) Try.func10
    (ChangeSpec.witness6 (enc := enc) (C := Try.checked) false ⟨#[], #[.slice none 0 0, .int .i64 0], []⟩ 8 (by kernel_rfl) (by kernel_rfl) (by kernel_rfl) (by kernel_rfl)) ?_
  intro W base args ds gs before hval0 hW hcnd _
  have hval : ∀ (j : Nat) t v, Try.f10.params[j]? = some t → args[j]? = some v → Value.okWide Try.prog W .any base t v := hval0
  have hW' := hW
  have hlt := hW'.lt
  obtain ⟨p, q, hA0, hV, rfl, hfz, hnd⟩ := hW
  have hA : DataW.TrodAll enc Try.prog W 0 (fun _ => true) true Try.f10.params.toList args.toList ds p := hA0
  rw [Try.params10] at hA hval
  obtain ⟨v0, vs0, d0, ds0, p0, q0, hargs, rfl, rfl, h0, r0⟩ := trodAll_cons hA
  obtain ⟨v1, vs1, d1, ds1, p1, q1, rfl, rfl, rfl, h1, r1⟩ := trodAll_cons r0
  obtain ⟨rfl, rfl, rfl⟩ := trodAll_nil r1
  obtain rfl : args = #[v0, v1] := by cases args; simp_all
  obtain ⟨rfl, rfl⟩ := trodVars_none hV
  have k0 := h0
  have l0 : ∀ x ∈ p0, x.block < W.heap.size := fun x hx => hlt x (by simp [hx])
  obtain ⟨A0, n0, c0, b0, f0, T0, N0, rfl, HA0⟩ := open_adds h0 (okWide_slice Try.underlying41 (hval 0 41 v0 rfl rfl))
  obtain ⟨a1, rfl, rfl, rfl, w1⟩ := open_int Try.underlying3 (hval 1 3 v1 rfl rfl) h1
  clear hA0 hval0
  refine (PhaseMeters_any A0 n0 c0 b0 f0 T0 N0 a1 W HA0).mono fun e W' ⟨he, bel⟩ => ?_
  subst he
  exact ⟨_, rfl, _, _, _, [], _, [], hW', trodAll_mk1 (shut_bool Try.underlying4 _), trodAll_mk2 (Below.trod laidOut (by kernel_rfl) (of_decide_eq_true (by kernel_rfl)) k0 bel l0) (shut_int Try.underlying3 w1), rfl, bel.frame _, fun h => by cases h⟩
theorem over : Rows.phaseMetersRow.holds Try.pinned (OpenSpec.ofChange Rows.phaseMetersSpec) :=
  OpenClaim.holds_of_wide 10 Try.f10 rfl rfl rfl rfl rfl rfl rfl ⟨rfl, rfl, rfl, rfl, rfl⟩ rfl rfl rfl rfl rfl (by kernel_rfl) Try.func10 (by kernel_rfl)
    (of_decide_eq_true (by kernel_rfl)) (by unfold Func.isWrapper; first | (rw [if_pos (by decide +kernel)]; kernel_rfl) | (rw [if_neg (by decide +kernel)]; exact ⟨rfl, rfl⟩))
    (fun os started H enc _ => lifted os started H enc)
theorem proved : Rows.PhaseMetersSaid := over
end Go.Proofs.Ytehjjjdelpbkpaa.phaseMeters
namespace Go.Proofs.Ytehjjjdelpbkpaa
theorem phaseMeters_holds : Rows.PhaseMetersSaid := phaseMeters.proved
end Go.Proofs.Ytehjjjdelpbkpaa
