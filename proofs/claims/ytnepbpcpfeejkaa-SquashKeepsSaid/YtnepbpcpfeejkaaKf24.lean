/-
  The reference's 'keep' (function 24), by hand.
-/
import Derived.Test.YtnepbpcpfeejkaaK0
import Derived.Test.YtnepbpcpfeejkaaKf29
namespace Go.Proofs.Ytnepbpcpfeejkaa.K
open Go.RowKit Go.Proofs.YtnepbpcpfeejkaaW.PrintWords Go.Proofs.YtnepbpcpfeejkaaW.PrintLast Go.Proofs.YtnepbpcpfeejkaaW.PrintMore
attribute [local go_sem] max2_int min2_int max_two min_two max_three min_three max_four min_four
set_option linter.unusedVariables false
set_option linter.unusedSimpArgs false
/-- Is the i-th seen by one of the first j pins? -/
def keepSeen (l : List S35) (pins : List Int) (i : Int) : Nat → Bool
  | 0 => i == 0
  | j + 1 => keepSeen l pins i j || (decide ((rd_T35 l i).f1 ≤ rd pins j) && decide (rd pins j < (rd_T35 l (i - 1)).f1))
def keepRow (e : S35) (now : Int) : S35 := if e.f3 ≠ 0 ∧ e.f3 ≤ now then ⟨e.f0, e.f1, true, 0, []⟩ else e
def keepTo (l : List S35) (pins : List Int) (now : Int) : Nat → List S35
  | 0 => []
  | i + 1 => if keepSeen l pins i pins.length = true then keepTo l pins now i ++ [keepRow (rd_T35 l i) now] else keepTo l pins now i
def keepCut (bottom : Bool) (o : List S35) : Nat → Nat
  | 0 => 0
  | n + 1 => if bottom = true ∧ (rd_T35 o n).f2 = true then keepCut bottom o n else n + 1
theorem keepTo_le (l : List S35) (pins : List Int) (now : Int) : ∀ i, (keepTo l pins now i).length ≤ i
  | 0 => Nat.le_refl _
  | i + 1 => by
    have h := keepTo_le l pins now i
    unfold keepTo
    split
    · rw [List.length_append]; simp; omega
    · omega
def halyardref9_keep.f (l0 : List S35) (l1 : List Int) (a2 : Int) (a3 : Bool) : Option (List S35) :=
  if l0.length ≤ 1954687338268 then some ((keepTo l0 l1 a2 l0.length).take (keepCut a3 (keepTo l0 l1 a2 l0.length) (keepTo l0 l1 a2 l0.length).length)) else none
theorem wpList_store_rowW {P : Program} {ops : Array Oper} {rest : List Oper} {o : Oper} {a : Act} {w : World} {Q : Exit → Act → World → Prop} (hgd : o.guard = none) (ty : TypeId) (x y : Operand) (ho : o.op = .store ty x y)
    (g : Nat) (cells : Array Value) (hx : a.eval x = .pointer (some ⟨g, 0, none⟩)) (hy : a.eval y = .agg cells)
    (t : TypeId) (old : Array Value) (hg : w.heap[g]? = some (.cells old t (0, 0))) (hi : (P.info? ty).map (·.size) = some cells.size)
    (hold : old.size = cells.size) (h1 : cells.all (·.oneCell') = true)
    (h : ∀ W, W = w.setRow g cells → wpList P ops Q rest (a.put o.dst undef) W) : wpList P ops Q (o :: rest) a w :=
  wpList_store_row hgd ty x y ho g cells hx hy t old hg hi hold h1 (h _ rfl)
theorem V_bound24 {α : Type} {d : Kd α} {e base : Nat} {ok : Nat → Prop} {W : World} {v : Value} {xs : List α} (h : Kd.V d e W base ok v xs) : Kd.V d e W base (fun k => ok k ∧ k < W.heap.size) v xs := Kd.V_map h (fun _ hf => Kd.F_bound hf)
def intOf24 : Value → Int
  | .int _ q => q
  | _ => 0
theorem ended_row (e : S35) (now : Int) : ∃ rE, halyardref9_Ended.f e.f3 now = some rE ∧ keepRow e now = if rE = true then ⟨e.f0, e.f1, true, 0, []⟩ else e := by
  unfold halyardref9_Ended.f keepRow
  by_cases h : e.f3 = 0
  · exact ⟨false, by rw [if_pos h], by rw [if_neg (fun hh => hh.1 h), if_neg (by decide)]⟩
  · by_cases h2 : e.f3 ≤ now
    · exact ⟨true, by rw [if_neg h, decide_eq_true h2], by rw [if_pos ⟨h, h2⟩, if_pos rfl]⟩
    · exact ⟨false, by rw [if_neg h, decide_eq_false h2], by rw [if_neg (fun hh => h2 hh.2), if_neg (by decide)]⟩
theorem row_else {w : World} {g k : Nat} (h : k ≠ g) (cs : Array Value) : (w.setRow g cs).heap[k]? = w.heap[k]? := by simp [World.setRow, Array.getElem?_modify, Ne.symm h]
def slen24 : Value → Nat
  | .slice _ n _ => n
  | _ => 0
open Kd in
theorem N_take24 {α : Type} {d : Kd α} {e base n : Nat} {ok : Nat → Prop} {w : World} {xs : List α} {A : Option Addr} {m c : Nat} (h : Kd.N d e w base ok (.slice A n c) xs) (hm : m ≤ xs.length) : Kd.N d e w base ok (.slice A m c) (xs.take m) := by
  obtain ⟨h0, rows, hl, hR, hf⟩ := h
  have hb : ∀ x y : Nat, (Value.slice A x c).ownBlock = (Value.slice A y c).ownBlock := by
    intro x y
    cases A <;> rfl
  refine ⟨fun k hk => h0 k (by rw [hb _ m]; exact hk), rows.take m, by rw [List.length_take, List.length_take, hl], raw_tight (R_take (raw_any hR) (by omega)), fun j x c' hx hc => ?_⟩
  rw [List.getElem?_take] at hx hc
  split at hx
  · rename_i hj
    rw [if_pos hj] at hc
    rw [hb m n]
    exact hf j x c' hx hc
  · cases hx
set_option maxHeartbeats 8000000 in
set_option maxRecDepth 100000 in
theorem halyardref9_keep.calls (P0_ : Nat → Prop) (A0 : Option Addr) (c0 : Nat) (l0 : List S35) (A1 : Option Addr) (c1 : Nat) (l1 : List Int) (a2 : Int) (a3 : Bool) (r : List S35) (w : World) (hs0 : Kd.V k35 35 w w.heap.size (fun k_ => P0_ k_) (.slice A0 l0.length c0) l0) (hr1 : Kd.C (Kd.int .i64) w A1 l1.length l1) (hc1 : l1.length ≤ c1) (h : halyardref9_keep.f l0 l1 a2 a3 = some r) :
    Calls Try.prog 24 #[.slice A0 l0.length c0, .slice A1 l1.length c1, .int .i64 a2, .bool a3] w fun e w' => ∃ v0_ : Value, e = .returned (v0_) ∧ Kd.N k35 35 w' w.heap.size (fun k_ => (P0_ k_ ∨ w.heap.size ≤ k_)) v0_ r ∧ Below w.heap.size w w' := by
  have hu35 := Try.underlying35
  have HV := Aside0.mk (V_bound24 hs0)
  have HP := Aside0.mk hr1
  have HC1 := Aside0.mk hc1
  have hbig : l0.length ≤ 1954687338268 := by
    unfold halyardref9_keep.f at h
    split at h
    · assumption
    · cases h
  unfold halyardref9_keep.f at h
  rw [if_pos hbig] at h
  have HR := Aside0.mk (Option.some.inj h)
  clear h hs0 hr1 hc1
  have HB0 := Aside0.mk (Below.refl w.heap.size w)
  go_enter Try.func24, Try.ntmps24
  go_wp2
  go_loopw [9, 17] (fun v9 v17 wr => ∃ (i : Nat) (z : Int), i ≤ l0.length ∧ Aside0 (z = (i : Int)) ∧ v17 = .int .i64 z ∧ Aside0 (Kd.N k35 35 wr w.heap.size (fun k_ => (P0_ k_ ∨ w.heap.size ≤ k_)) v9 (keepTo l0 l1 a2 i)) ∧ Aside0 (Below w.heap.size w wr)) (fun _ v17 _ => l0.length - (intOf24 v17).toNat)
  case atStart => exact ⟨0, 0, by omega, ⟨rfl⟩, rfl, ⟨Kd.N_nil _ _ _ _ _⟩, HB0⟩
  case round =>
    obtain ⟨i, z, hi, hz, rfl, HN, HB⟩ := hrel
    by_cases hlt : z < (l0.length : Int)
    · have c5b0 : decide (z < (l0.length : Int)) = true := decide_eq_true hlt
      have p1 : 0 ≤ z := by rw [hz.out]; omega
      obtain ⟨ad, A_0, c_0, A_4, c_4, e1, hx_0, hx_1, hx_2, hx_3, hx_4, hl_0, hi_0, hl_4, hi_4⟩ := at_T35 (Kd.V_reads' HV.out).2.2 z p1 hlt
      cases e1
      obtain ⟨ce, hce, hMe, hcc⟩ := Kd.V_get HV.out z35 z p1 hlt
      obtain ⟨ua_0, uc_0, ua_4, uc_4, rfl, ul_0, ge_0, ul_4, ge_4⟩ := k35_openF hMe
      have hv_0 := hcc 0 _ rfl
      rw [Nat.add_zero] at hv_0
      replace hv_0 := Option.some.inj (hv_0.symm.trans hx_0)
      injection hv_0 with hva_ hvn_ hvc_
      rw [hva_] at ge_0
      rw [hvc_] at ul_0
      clear hva_ hvn_ hvc_
      have hv_4 := hcc 4 _ rfl
      rw [add_field _ _ 4 (by omega)] at hv_4
      replace hv_4 := Option.some.inj (hv_4.symm.trans hx_4)
      injection hv_4 with hva_ hvn_ hvc_
      rw [hva_] at ge_4
      rw [hvc_] at ul_4
      clear hva_ hvn_ hvc_ hcc hce hMe hi_0 hl_0 hi_4 hl_4
      have GE0 := Aside0.mk ge_0
      have UL0 := Aside0.mk ul_0
      have GE4 := Aside0.mk ge_4
      have UL4 := Aside0.mk ul_4
      clear ge_0 ul_0 ge_4 ul_4
      replace hx_0 := (HB.out.cell (World.block_lt_of_cell? w _ hx_0)).trans hx_0
      replace hx_1 := (HB.out.cell (World.block_lt_of_cell? w _ hx_1)).trans hx_1
      replace hx_2 := (HB.out.cell (World.block_lt_of_cell? w _ hx_2)).trans hx_2
      replace hx_3 := (HB.out.cell (World.block_lt_of_cell? w _ hx_3)).trans hx_3
      replace hx_4 := (HB.out.cell (World.block_lt_of_cell? w _ hx_4)).trans hx_4
      have hlt0 := hlt
      replace p1 := eq_true p1
      replace hlt := eq_true hlt
      go_wp2
      have BK := Aside0.mk (blk_new wr (.cells #[.slice A_0 (rd_T35 l0 z).f0.length c_0, .int .i64 (rd_T35 l0 z).f1, .bool (rd_T35 l0 z).f2, .int .i64 (rd_T35 l0 z).f3, .slice A_4 (rd_T35 l0 z).f4.length c_4] 35 (0, 0)))
      have HB2 := Aside0.mk (below_alloc (Below.refl wr.heap.size wr) (.cells #[.slice A_0 (rd_T35 l0 z).f0.length c_0, .int .i64 (rd_T35 l0 z).f1, .bool (rd_T35 l0 z).f2, .int .i64 (rd_T35 l0 z).f3, .slice A_4 (rd_T35 l0 z).f4.length c_4] 35))
      have HB3 := Aside0.mk (below_step HB.out HB2.out)
      generalize World.alloc wr (.cells #[.slice A_0 (rd_T35 l0 z).f0.length c_0, .int .i64 (rd_T35 l0 z).f1, .bool (rd_T35 l0 z).f2, .int .i64 (rd_T35 l0 z).f3, .slice A_4 (rd_T35 l0 z).f4.length c_4] 35) = w2 at BK HB2 HB3 ⊢
      have HNE := Aside0.mk (Kd.N_below (Kd.N_elderB HN.out wr.heap.size (Nat.le_refl _)) HB2.out)
      have HN2 := Aside0.mk (Kd.N_below HN.out HB2.out)
      have HG0 := Aside0.mk HB.out.size
      clear hx_0 hx_1 hx_2 hx_3 hx_4 HN HB2 HB
      generalize wr.heap.size = g0 at BK HNE HG0 ⊢
      have hb_0 : w2.cell? ⟨g0, 0, none⟩ = some (.slice A_0 (rd_T35 l0 z).f0.length c_0) := blk_cell BK.out 0
      have hb_1 : w2.cell? ⟨g0, 1, none⟩ = some (.int .i64 (rd_T35 l0 z).f1) := blk_cell BK.out 1
      have hb_2 : w2.cell? ⟨g0, 2, none⟩ = some (.bool (rd_T35 l0 z).f2) := blk_cell BK.out 2
      have hb_3 : w2.cell? ⟨g0, 3, none⟩ = some (.int .i64 (rd_T35 l0 z).f3) := blk_cell BK.out 3
      have hb_4 : w2.cell? ⟨g0, 4, none⟩ = some (.slice A_4 (rd_T35 l0 z).f4.length c_4) := blk_cell BK.out 4
      clear c5b0
      have HZ1 : Aside0 (∀ {n : Nat}, keepSeen l0 l1 z n = false → 0 ≤ z - 1) := ⟨fun {n} hs => by
        have h0 : ∀ n, keepSeen l0 l1 z n = false → (z == 0) = false := by
          intro n
          induction n with
          | zero => exact fun h => h
          | succ n ih => exact fun h => ih (by simp only [keepSeen, Bool.or_eq_false_iff] at h; exact h.1)
        have h1 := h0 n hs
        have h2 := beq_eq_false_iff_ne.mp h1
        have := hz.out
        omega⟩
      have HZ2 : Aside0 (z - 1 < (l0.length : Int)) := ⟨by omega⟩
      have HLT := Aside0.mk hlt0
      clear p1 hlt hlt0
      go_loopw [12, 14, 26] (fun v12 v14 v26 w' => ∃ (j : Nat) (y : Int), j ≤ l1.length ∧ Aside0 (y = (j : Int)) ∧ v26 = .int .i64 y ∧ v12 = .bool (keepSeen l0 l1 z j) ∧ w' = w2) (fun _ _ v26 _ => l1.length - (intOf24 v26).toNat)
      case atStart => exact ⟨0, 0, by omega, ⟨rfl⟩, rfl, rfl, rfl⟩
      case round =>
        obtain ⟨j, y, hj, hy, rfl, rfl, rfl⟩ := hrel
        by_cases hlj : y < (l1.length : Int)
        · have p2 : 0 ≤ y := by rw [hy.out]; omega
          have hjl : j < l1.length := by have := hy.out; omega
          have c6b0 : decide (y < (l1.length : Int)) = true := decide_eq_true hlj
          have HJ : Aside0 (keepSeen l0 l1 z (j + 1) = (keepSeen l0 l1 z j || (decide ((rd_T35 l0 z).f1 ≤ rd l1 y) && decide (rd l1 y < (rd_T35 l0 (z - 1)).f1)))) := ⟨by rw [hy.out]; rfl⟩
          obtain ⟨ad1, e2, hp_0⟩ := Kd.at_int HP.out y p2 hlj
          cases e2
          replace hp_0 := (HB3.out.cell (World.block_lt_of_cell? w _ hp_0)).trans hp_0
          have hwj : wrap64 (y + 1) = y + 1 := by have := HP.out.2.1; unfold wrap64; omega
          replace p2 := eq_true p2
          replace hlj := eq_true hlj
          cases hse : keepSeen l0 l1 z j with
          | true =>
            go_wp2
            go_roundw
            case rel => exact ⟨j + 1, y + 1, by omega, ⟨by rw [hy.out]; rfl⟩, by go_num, by rw [HJ.out, hse]; rfl, by first | rfl | trivial⟩
            case measure => simp [intOf24]; have := hy.out; omega
          | false =>
            by_cases hle : (rd_T35 l0 z).f1 ≤ rd l1 y
            · have d1 : decide ((rd_T35 l0 z).f1 ≤ rd l1 y) = true := decide_eq_true hle
              clear hle
              have hz0 : 0 ≤ z - 1 := HZ1.out (by rw [hse])
              have hz1 : z - 1 < (l0.length : Int) := HZ2.out
              have HJ2 := Aside0.mk HJ.out
              obtain ⟨ji, hji⟩ : ∃ ji : Int, z - 1 = ji := ⟨_, rfl⟩
              rw [hji] at hz0 hz1 HJ2
              have hwz : wrap64 (z - 1) = ji := by rw [← hji]; unfold wrap64; omega
              have hwz2 : IntKind.i64.wrap (z - 1) = ji := (i64_w _).trans hwz
              obtain ⟨ad_, B_0, b_0, B_4, b_4, e3, hy_0, hy_1, hy_2, hy_3, hy_4, _⟩ := at_T35 (Kd.V_reads' HV.out).2.2 ji hz0 hz1
              cases e3
              replace hy_1 := (HB3.out.cell (World.block_lt_of_cell? w _ hy_1)).trans hy_1
              have dz0 : decide (0 ≤ ji) = true := decide_eq_true hz0
              have dz1 : decide (ji < (l0.length : Int)) = true := decide_eq_true hz1
              clear hy_0 hy_2 hy_3 hy_4 hji
              by_cases hgt : rd l1 y < (rd_T35 l0 ji).f1
              · have d2 : decide (rd l1 y < (rd_T35 l0 ji).f1) = true := decide_eq_true hgt
                clear hgt
                replace hz0 := eq_true hz0
                replace hz1 := eq_true hz1
                go_wp2
                go_roundw
                case rel => exact ⟨j + 1, y + 1, by omega, ⟨by rw [hy.out]; rfl⟩, by go_num, by rw [HJ2.out, hse, d1, d2]; rfl, by first | rfl | trivial⟩
                case measure => simp [intOf24]; have := hy.out; omega
              · have d2 : decide (rd l1 y < (rd_T35 l0 ji).f1) = false := decide_eq_false hgt
                clear hgt
                replace hz0 := eq_true hz0
                replace hz1 := eq_true hz1
                go_wp2
                go_roundw
                case rel => exact ⟨j + 1, y + 1, by omega, ⟨by rw [hy.out]; rfl⟩, by go_num, by rw [HJ2.out, hse, d1, d2]; rfl, by first | rfl | trivial⟩
                case measure => simp [intOf24]; have := hy.out; omega
            · have d1 : decide ((rd_T35 l0 z).f1 ≤ rd l1 y) = false := decide_eq_false hle
              clear hle
              go_wp2
              go_roundw
              case rel => exact ⟨j + 1, y + 1, by omega, ⟨by rw [hy.out]; rfl⟩, by go_num, by rw [HJ.out, hse, d1]; rfl, by first | rfl | trivial⟩
              case measure => simp [intOf24]; have := hy.out; omega
        · obtain rfl : j = l1.length := by have := hy.out; omega
          have c6b0 : decide (y < (l1.length : Int)) = false := decide_eq_false hlj
          clear hlj
          have hwi : wrap64 (z + 1) = z + 1 := by have := HLT.out; have := hz.out; unfold wrap64; omega
          have HKT : Aside0 (keepTo l0 l1 a2 (i + 1) = if keepSeen l0 l1 z l1.length = true then keepTo l0 l1 a2 i ++ [keepRow (rd_T35 l0 z) a2] else keepTo l0 l1 a2 i) := ⟨by rw [hz.out]; rfl⟩
          cases hse : keepSeen l0 l1 z l1.length with
          | false =>
            go_wp2
            go_roundw
            case rel => exact ⟨i + 1, z + 1, by have := HLT.out; have := hz.out; omega, ⟨by rw [hz.out]; rfl⟩, by go_num, ⟨by rw [HKT.out, hse, if_neg (by decide)]; exact HN2.out⟩, HB3⟩
            case measure => simp [intOf24]; have := HLT.out; have := hz.out; omega
          | true =>
            obtain ⟨rE, hE, hRow⟩ := ended_row (rd_T35 l0 z) a2
            have HE := Aside0.mk hE
            have HRow := Aside0.mk hRow
            clear hE hRow
            cases rE with
            | false =>
              go_upto_region 14 with (first | (go_at_call 29; (with_reducible refine (halyardref9_Ended.calls ((rd_T35 l0 z).f3) a2 false _ HE.out).mono ?_); rintro e w3 ⟨rfl, hb⟩; have BK3 := Aside0.mk ((hb.block _ (blk_lt BK.out)).trans BK.out); have HN3 := Aside0.mk (Kd.N_below HN2.out hb); have HB4 := Aside0.mk (below_step HB3.out hb); have hc_0 : w3.cell? ⟨g0, 0, none⟩ = some (.slice A_0 (rd_T35 l0 z).f0.length c_0) := blk_cell BK3.out 0; have hc_1 : w3.cell? ⟨g0, 1, none⟩ = some (.int .i64 (rd_T35 l0 z).f1) := blk_cell BK3.out 1; have hc_2 : w3.cell? ⟨g0, 2, none⟩ = some (.bool (rd_T35 l0 z).f2) := blk_cell BK3.out 2; have hc_3 : w3.cell? ⟨g0, 3, none⟩ = some (.int .i64 (rd_T35 l0 z).f3) := blk_cell BK3.out 3; have hc_4 : w3.cell? ⟨g0, 4, none⟩ = some (.slice A_4 (rd_T35 l0 z).f4.length c_4) := blk_cell BK3.out 4; clear hb) | fail)
              go_upto_region 15 with ((with_reducible refine gate_builtin (b := .append) (xs := #[.tmp 59, .tmp 61]) rfl ?_); at_builtin; refine Kd.N_append k35 (w0 := w) w.heap.size rfl (.tmp 59) (.tmp 61) 22 35 (.agg #[(.slice none 0 0), (.int .i64 0), (.bool false), (.int .i64 0), (.slice none 0 0)]) 72 rfl Try.underlying22 info35 rfl (by decide) (by omega) u9 (keepTo l0 l1 a2 i) (rd_T35 l0 z) [.slice A_0 (rd_T35 l0 z).f0.length c_0, .int .i64 (rd_T35 l0 z).f1, .bool (rd_T35 l0 z).f2, .int .i64 (rd_T35 l0 z).f3, .slice A_4 (rd_T35 l0 z).f4.length c_4] (fun k_ => (P0_ k_ ∨ w.heap.size ≤ k_)) (fun k_ => P0_ k_ ∧ k_ < w.heap.size) rfl rfl (k35_mkF w3 _ (rd_T35 l0 z) UL0.out (Kd.F_below GE0.out HB4.out) UL4.out (Kd.F_below GE4.out HB4.out)) (fun k hk => ⟨.inl hk.1, fun he => by have h1 := Kd.N_base HN3.out k he.symm; have h2 := hk.2; omega⟩) (fun k hk => .inr (Nat.le_trans HB4.out.size hk)) HN3.out HB4.out HB4.out.size (by have h1 := keepTo_le l0 l1 a2 i; have h2 := HLT.out; have h3 := hz.out; omega) ?_; intro v1 w5 hN5 hB5 _ _; have HN5 := Aside0.mk hN5; have HB5 := Aside0.mk hB5; clear hN5 hB5)
              go_wp2
              go_roundw
              case rel => exact ⟨i + 1, z + 1, by have := HLT.out; have := hz.out; omega, ⟨by rw [hz.out]; rfl⟩, by go_num, ⟨by rw [HKT.out, hse, if_pos rfl, HRow.out, if_neg (by decide)]; exact HN5.out⟩, HB5⟩
              case measure => simp [intOf24]; have := HLT.out; have := hz.out; omega
            | true =>
              go_upto_region 13 with (first | (go_at_call 29; (with_reducible refine (halyardref9_Ended.calls ((rd_T35 l0 z).f3) a2 true _ HE.out).mono ?_); rintro e w3 ⟨rfl, hb⟩; have BK3 := Aside0.mk ((hb.block _ (blk_lt BK.out)).trans BK.out); have HN3 := Aside0.mk (Kd.N_below HN2.out hb); have HNE3 := Aside0.mk (Kd.N_below HNE.out hb); have HB4 := Aside0.mk (below_step HB3.out hb); have hc_0 : w3.cell? ⟨g0, 0, none⟩ = some (.slice A_0 (rd_T35 l0 z).f0.length c_0) := blk_cell BK3.out 0; have hc_1 : w3.cell? ⟨g0, 1, none⟩ = some (.int .i64 (rd_T35 l0 z).f1) := blk_cell BK3.out 1; have hc_2 : w3.cell? ⟨g0, 2, none⟩ = some (.bool (rd_T35 l0 z).f2) := blk_cell BK3.out 2; have hc_3 : w3.cell? ⟨g0, 3, none⟩ = some (.int .i64 (rd_T35 l0 z).f3) := blk_cell BK3.out 3; have hc_4 : w3.cell? ⟨g0, 4, none⟩ = some (.slice A_4 (rd_T35 l0 z).f4.length c_4) := blk_cell BK3.out 4; have hf_0 := blk_frozen BK3.out 0; have hf_1 := blk_frozen BK3.out 1; have hf_2 := blk_frozen BK3.out 2; have hf_3 := blk_frozen BK3.out 3; have hf_4 := blk_frozen BK3.out 4; clear hb) | fail)
              go_upto_region 14 with fail
              have BK4 : Aside0 ((World.setCell (World.setCell (World.setCell (World.setCell (World.setCell w3 ⟨g0, 0, none⟩ (.slice A_0 (rd_T35 l0 z).f0.length c_0)) ⟨g0, 1, none⟩ (.int .i64 (rd_T35 l0 z).f1)) ⟨g0, 2, none⟩ (.bool true)) ⟨g0, 3, none⟩ (.int .i64 0)) ⟨g0, 4, none⟩ (.slice none 0 0)).heap[g0]? = some (.cells #[(.slice A_0 (rd_T35 l0 z).f0.length c_0), (.int .i64 (rd_T35 l0 z).f1), (.bool true), (.int .i64 0), (.slice none 0 0)] 35 (0, 0))) := ⟨(blk_put (cs := #[(.slice A_0 (rd_T35 l0 z).f0.length c_0), (.int .i64 (rd_T35 l0 z).f1), (.bool true), (.int .i64 0), (.slice A_4 (rd_T35 l0 z).f4.length c_4)]) (blk_put (cs := #[(.slice A_0 (rd_T35 l0 z).f0.length c_0), (.int .i64 (rd_T35 l0 z).f1), (.bool true), (.int .i64 (rd_T35 l0 z).f3), (.slice A_4 (rd_T35 l0 z).f4.length c_4)]) (blk_put (cs := #[(.slice A_0 (rd_T35 l0 z).f0.length c_0), (.int .i64 (rd_T35 l0 z).f1), (.bool (rd_T35 l0 z).f2), (.int .i64 (rd_T35 l0 z).f3), (.slice A_4 (rd_T35 l0 z).f4.length c_4)]) (blk_put (cs := #[(.slice A_0 (rd_T35 l0 z).f0.length c_0), (.int .i64 (rd_T35 l0 z).f1), (.bool (rd_T35 l0 z).f2), (.int .i64 (rd_T35 l0 z).f3), (.slice A_4 (rd_T35 l0 z).f4.length c_4)]) (blk_put (cs := #[(.slice A_0 (rd_T35 l0 z).f0.length c_0), (.int .i64 (rd_T35 l0 z).f1), (.bool (rd_T35 l0 z).f2), (.int .i64 (rd_T35 l0 z).f3), (.slice A_4 (rd_T35 l0 z).f4.length c_4)]) BK3.out 0 (.slice A_0 (rd_T35 l0 z).f0.length c_0) rfl) 1 (.int .i64 (rd_T35 l0 z).f1) rfl) 2 (.bool true) rfl) 3 (.int .i64 0) rfl) 4 (.slice none 0 0) rfl)⟩
              have HN4 : Aside0 (Kd.N k35 35 (World.setCell (World.setCell (World.setCell (World.setCell (World.setCell w3 ⟨g0, 0, none⟩ (.slice A_0 (rd_T35 l0 z).f0.length c_0)) ⟨g0, 1, none⟩ (.int .i64 (rd_T35 l0 z).f1)) ⟨g0, 2, none⟩ (.bool true)) ⟨g0, 3, none⟩ (.int .i64 0)) ⟨g0, 4, none⟩ (.slice none 0 0)) w.heap.size (fun k_ => (P0_ k_ ∨ w.heap.size ≤ k_)) u9 (keepTo l0 l1 a2 i)) := ⟨Kd.N_mono (Kd.N_far (p := ⟨g0, 4, none⟩) (Kd.N_far (p := ⟨g0, 3, none⟩) (Kd.N_far (p := ⟨g0, 2, none⟩) (Kd.N_far (p := ⟨g0, 1, none⟩) (Kd.N_far (p := ⟨g0, 0, none⟩) HNE3.out (fun _ hk => hk.2) (.slice A_0 (rd_T35 l0 z).f0.length c_0)) (fun _ hk => hk.2) (.int .i64 (rd_T35 l0 z).f1)) (fun _ hk => hk.2) (.bool true)) (fun _ hk => hk.2) (.int .i64 0)) (fun _ hk => hk.2) (.slice none 0 0)) (fun k hk => hk.1)⟩
              have HB6 : Aside0 (Below w.heap.size w (World.setCell (World.setCell (World.setCell (World.setCell (World.setCell w3 ⟨g0, 0, none⟩ (.slice A_0 (rd_T35 l0 z).f0.length c_0)) ⟨g0, 1, none⟩ (.int .i64 (rd_T35 l0 z).f1)) ⟨g0, 2, none⟩ (.bool true)) ⟨g0, 3, none⟩ (.int .i64 0)) ⟨g0, 4, none⟩ (.slice none 0 0))) := ⟨(below_set (below_set (below_set (below_set (below_set HB4.out HG0.out) HG0.out) HG0.out) HG0.out) HG0.out)⟩
              clear hc_0 hc_1 hc_2 hc_3 hc_4 hf_0 hf_1 hf_2 hf_3 hf_4 BK3 HN3 HNE3
              generalize (World.setCell (World.setCell (World.setCell (World.setCell (World.setCell w3 ⟨g0, 0, none⟩ (.slice A_0 (rd_T35 l0 z).f0.length c_0)) ⟨g0, 1, none⟩ (.int .i64 (rd_T35 l0 z).f1)) ⟨g0, 2, none⟩ (.bool true)) ⟨g0, 3, none⟩ (.int .i64 0)) ⟨g0, 4, none⟩ (.slice none 0 0)) = w4 at BK4 HN4 HB6 ⊢
              have hd_0 : w4.cell? ⟨g0, 0, none⟩ = some (.slice A_0 (rd_T35 l0 z).f0.length c_0) := blk_cell BK4.out 0
              have hd_1 : w4.cell? ⟨g0, 1, none⟩ = some (.int .i64 (rd_T35 l0 z).f1) := blk_cell BK4.out 1
              have hd_2 : w4.cell? ⟨g0, 2, none⟩ = some (.bool true) := blk_cell BK4.out 2
              have hd_3 : w4.cell? ⟨g0, 3, none⟩ = some (.int .i64 0) := blk_cell BK4.out 3
              have hd_4 : w4.cell? ⟨g0, 4, none⟩ = some (.slice none 0 0) := blk_cell BK4.out 4
              go_upto_region 15 with ((with_reducible refine gate_builtin (b := .append) (xs := #[.tmp 59, .tmp 61]) rfl ?_); at_builtin; refine Kd.N_append k35 (w0 := w) w.heap.size rfl (.tmp 59) (.tmp 61) 22 35 (.agg #[(.slice none 0 0), (.int .i64 0), (.bool false), (.int .i64 0), (.slice none 0 0)]) 72 rfl Try.underlying22 info35 rfl (by decide) (by omega) u9 (keepTo l0 l1 a2 i) (⟨(rd_T35 l0 z).f0, (rd_T35 l0 z).f1, true, 0, []⟩ : S35) [.slice A_0 (rd_T35 l0 z).f0.length c_0, .int .i64 (rd_T35 l0 z).f1, .bool true, .int .i64 0, .slice none 0 0] (fun k_ => (P0_ k_ ∨ w.heap.size ≤ k_)) (fun k_ => P0_ k_ ∧ k_ < w.heap.size) rfl rfl (k35_mkF w4 _ (⟨(rd_T35 l0 z).f0, (rd_T35 l0 z).f1, true, 0, []⟩ : S35) UL0.out (Kd.F_below GE0.out HB6.out) (c4 := 0) (Nat.le_refl _) (Kd.F_nil _ _ _)) (fun k hk => ⟨.inl hk.1, fun he => by have h1 := Kd.N_base HN4.out k he.symm; have h2 := hk.2; omega⟩) (fun k hk => .inr (Nat.le_trans HB6.out.size hk)) HN4.out HB6.out HB6.out.size (by have h1 := keepTo_le l0 l1 a2 i; have h2 := HLT.out; have h3 := hz.out; omega) ?_; intro v1 w5 hN5 hB5 _ _; have HN5 := Aside0.mk hN5; have HB5 := Aside0.mk hB5; clear hN5 hB5)
              go_wp2
              go_roundw
              case rel => exact ⟨i + 1, z + 1, by have := HLT.out; have := hz.out; omega, ⟨by rw [hz.out]; rfl⟩, by go_num, ⟨by rw [HKT.out, hse, if_pos rfl, HRow.out, if_pos trivial]; exact HN5.out⟩, HB5⟩
              case measure => simp [intOf24]; have := HLT.out; have := hz.out; omega
    · obtain rfl : i = l0.length := by have := hz.out; omega
      have c5b0 : decide (z < (l0.length : Int)) = false := decide_eq_false hlt
      obtain ⟨o, ho⟩ : ∃ o, keepTo l0 l1 a2 l0.length = o := ⟨_, rfl⟩
      rw [ho] at HN HR
      have HOL : o.length ≤ l0.length := by rw [← ho]; exact keepTo_le _ _ _ _
      clear ho hlt
      obtain ⟨Ao, co, hv9⟩ := Kd.N_slice HN.out
      subst hv9
      go_wp2
      go_loopw [9] (fun v9 wr => ∃ (n : Nat) (A : Option Addr) (c : Nat), n ≤ o.length ∧ v9 = .slice A n c ∧ Aside0 (keepCut a3 o n = keepCut a3 o o.length) ∧ Aside0 (Kd.N k35 35 wr w.heap.size (fun k_ => (P0_ k_ ∨ w.heap.size ≤ k_)) (.slice A n c) (o.take n)) ∧ Aside0 (Below w.heap.size w wr)) (fun v9 _ => slen24 v9)
      case atStart => exact ⟨o.length, _, _, Nat.le_refl _, rfl, ⟨rfl⟩, ⟨by rw [List.take_length]; exact HN.out⟩, HB⟩
      case round =>
        obtain ⟨n, A, c, hn, rfl, hk, HN, HB⟩ := hrel
        cases n with
        | zero =>
          have HF : Aside0 (o.take 0 = r) := ⟨by rw [← HR.out, ← hk.out]; rfl⟩
          cases a3 with
          | false =>
            go_wp2
            go_ret
            exact ⟨_, rfl, by rw [← HF.out]; exact HN.out, HB.out⟩
          | true =>
            go_wp2
            go_ret
            exact ⟨_, rfl, by rw [← HF.out]; exact HN.out, HB.out⟩
        | succ m =>
          cases a3 with
          | false =>
            have HF : Aside0 (o.take (m + 1) = r) := ⟨by rw [← HR.out, ← hk.out]; simp [keepCut]⟩
            go_wp2
            go_ret
            exact ⟨_, rfl, by rw [← HF.out]; exact HN.out, HB.out⟩
          | true =>
            have hlen : (o.take (m + 1)).length = m + 1 := by rw [List.length_take]; omega
            obtain ⟨ad_, B_0, b_0, B_4, b_4, e3, hy_0, hy_1, hy_2, hy_3, hy_4, _⟩ := at_T35 (Kd.N_reads' HN.out).2.2 (m : Int) (by omega) (by rw [hlen]; omega)
            cases e3
            have HG : Aside0 ((rd_T35 (o.take (m + 1)) (m : Int)).f2 = (rd_T35 o m).f2) := ⟨by simp only [rd_T35, Int.toNat_natCast, List.getD_eq_getElem?_getD, List.getElem?_take]; rw [if_pos (by omega)]⟩
            rw [HG.out, Int.toNat_natCast] at hy_2
            have HKC : Aside0 (keepCut true o (m + 1) = if (rd_T35 o m).f2 = true then keepCut true o m else m + 1) := ⟨by simp [keepCut]⟩
            have hwz : wrap64 ((m : Int) + 1 - 1) = (m : Int) := by unfold wrap64; omega
            have hmc : m ≤ c := by have := (Kd.N_reads' HN.out).2.1; omega
            have hmc1 : (m : Int) ≤ (c : Int) := by omega
            have hc0 : ¬ c = 0 := by have := (Kd.N_reads' HN.out).2.1; omega
            clear hy_0 hy_1 hy_3 hy_4
            cases hgone : (rd_T35 o m).f2 with
            | false =>
              rw [hgone] at hy_2
              have HF : Aside0 (o.take (m + 1) = r) := ⟨by rw [← HR.out, ← hk.out, HKC.out, hgone, if_neg (by decide)]⟩
              go_wp2
              go_ret
              exact ⟨_, rfl, by rw [← HF.out]; exact HN.out, HB.out⟩
            | true =>
              rw [hgone] at hy_2
              go_wp2
              go_roundw
              case rel => exact ⟨m, _, c, by omega, rfl, ⟨by rw [← hk.out, HKC.out, hgone, if_pos rfl]⟩, ⟨by have h1 := N_take24 HN.out (m := m) (by rw [hlen]; omega); rwa [List.take_take, Nat.min_eq_left (by omega)] at h1⟩, HB⟩
              case measure => simp [slen24]
end Go.Proofs.Ytnepbpcpfeejkaa.K
