/-
  Plain facts on the functions of package key: byte lists, their order, a part's bytes.
-/
import Derived.Test.YtldndnjajpjajaaKf10
import Derived.Test.YtldndnjajpjajaaKf11
import Derived.Test.YtldndnjajpjajaaKf13
import Derived.Test.YtldndnjajpjajaaKf23
namespace Go.Proofs.Ytldndnjajpjajaa.E
open Go.RowKit Go.Proofs.Ytldndnjajpjajaa.K Go.Proofs.YtldndnjajpjajaaW.PrintWords Go.Proofs.YtldndnjajpjajaaW.PrintLast

/-- A row of bytes. -/
def By (l : List Int) : Prop := ∀ x ∈ l, 0 ≤ x ∧ x < 256
theorem By.of {l : List Int} (h : ∀ x ∈ l, (Lit.int .u8 x).wf = true) : By l := fun x hx => by
  have := h x hx
  simp [Lit.wf, IntKind.min, IntKind.max, IntKind.signed, IntKind.bits] at this
  omega
theorem By.nil : By [] := fun _ h => by cases h
theorem By.cons {x : Int} {l : List Int} (h : By (x :: l)) : (0 ≤ x ∧ x < 256) ∧ By l := ⟨h x (by simp), fun y hy => h y (by simp [hy])⟩
theorem By.mk {x : Int} {l : List Int} (h0 : 0 ≤ x) (h1 : x < 256) (h : By l) : By (x :: l) := fun y hy => by
  rcases List.mem_cons.1 hy with rfl | hy
  · exact ⟨h0, h1⟩
  · exact h y hy
theorem By.append {a b : List Int} (ha : By a) (hb : By b) : By (a ++ b) := fun x hx => (List.mem_append.1 hx).elim (ha x) (hb x)
theorem By.take {l : List Int} (h : By l) (n : Nat) : By (l.take n) := fun x hx => h x (List.mem_of_mem_take hx)
theorem By.drop {l : List Int} (h : By l) (n : Nat) : By (l.drop n) := fun x hx => h x (List.mem_of_mem_drop hx)
theorem rd_nat (l : List Int) (i : Nat) : rd l (i : Int) = l.getD i 0 := rfl
theorem By.rd {l : List Int} (h : By l) (i : Nat) : 0 ≤ rd l (i : Int) ∧ rd l (i : Int) < 256 := by
  rw [rd_nat, List.getD_eq_getElem?_getD]
  cases hx : l[i]? with
  | none => simp
  | some x => exact h x (List.mem_of_getElem? hx)

theorem u8_inj {x y : Int} (hx : 0 ≤ x ∧ x < 256) (hy : 0 ≤ y ∧ y < 256) (h : UInt8.ofNat x.toNat = UInt8.ofNat y.toNat) : x = y := by
  have := congrArg UInt8.toNat h
  simp only [UInt8.toNat_ofNat'] at this
  omega
theorem u8_lt {x y : Int} (hx : 0 ≤ x ∧ x < 256) (hy : 0 ≤ y ∧ y < 256) : UInt8.ofNat x.toNat < UInt8.ofNat y.toNat ↔ x < y := by
  rw [UInt8.lt_iff_toNat_lt]
  simp only [UInt8.toNat_ofNat']
  omega
theorem str_list (l : List Int) : (strOfNums l).toList = l.map fun n => UInt8.ofNat n.toNat := by
  rw [ByteArray.toList_eq, strOfNums_data]
theorem map_inj : ∀ {a b : List Int}, By a → By b → (a.map fun n => UInt8.ofNat n.toNat) = (b.map fun n => UInt8.ofNat n.toNat) → a = b
  | [], [], _, _, _ => rfl
  | [], _ :: _, _, _, h => by simp at h
  | _ :: _, [], _, _, h => by simp at h
  | x :: a, y :: b, ha, hb, h => by
    simp only [List.map_cons, List.cons.injEq] at h
    rw [u8_inj ha.cons.1 hb.cons.1 h.1, map_inj ha.cons.2 hb.cons.2 h.2]
theorem str_eq {a b : List Int} (ha : By a) (hb : By b) : (strOfNums a).toList = (strOfNums b).toList ↔ a = b := by
  rw [str_list, str_list]
  exact ⟨map_inj ha hb, fun h => by rw [h]⟩
/-- Two rows of bytes compared. -/
def cmpI : List Int → List Int → Int
  | [], [] => 0
  | [], _ :: _ => -1
  | _ :: _, [] => 1
  | a :: x, b :: y => if a < b then -1 else if b < a then 1 else cmpI x y
theorem cmpI_map : ∀ {a b : List Int}, By a → By b → Lib.compareBytes (a.map fun n => UInt8.ofNat n.toNat) (b.map fun n => UInt8.ofNat n.toNat) = cmpI a b
  | [], [], _, _ => rfl
  | [], _ :: _, _, _ => rfl
  | _ :: _, [], _, _ => rfl
  | x :: a, y :: b, ha, hb => by
    simp only [List.map_cons, Lib.compareBytes, cmpI, u8_lt ha.cons.1 hb.cons.1, u8_lt hb.cons.1 ha.cons.1, cmpI_map ha.cons.2 hb.cons.2]
theorem bytes_Compare_eval {a b : List Int} (ha : By a) (hb : By b) : bytes_Compare.f a b = some (cmpI a b) := by
  rw [← cmpI_map ha hb, compareBytes_less, bytes_Compare.f, str_list, str_list]
  split
  · rfl
  · split <;> rfl
theorem key_Compare_eval {a b : List Int} (ha : By a) (hb : By b) : key_Compare.f a b = some (cmpI a b) := by
  rw [key_Compare.f, bytes_Compare_eval ha hb]; rfl
theorem ref_Compare_eval {a b : List Int} (ha : By a) (hb : By b) : halyardref2_Compare.f a b = some (cmpI a b) := bytes_Compare_eval ha hb
theorem wrap_in {x : Int} (h0 : -9223372036854775808 ≤ x) (h1 : x < 9223372036854775808) : wrap64 x = x := by unfold wrap64; omega

/-- A part's bytes, without its end. -/
def enc : List Int → List Int
  | [] => []
  | x :: r => if x = 0 then 0 :: 255 :: enc r else x :: enc r
theorem enc_len : ∀ l : List Int, (enc l).length ≤ 2 * l.length
  | [] => by simp [enc]
  | x :: r => by
    have := enc_len r
    unfold enc
    split <;> simp <;> omega
theorem By.enc : ∀ {l : List Int}, By l → By (enc l)
  | [], _ => By.nil
  | x :: r, h => by
    have ih := By.enc h.cons.2
    unfold E.enc
    split
    · exact By.mk (by omega) (by omega) (By.mk (by omega) (by omega) ih)
    · exact By.mk h.cons.1.1 h.cons.1.2 ih
theorem drop_rd {l : List Int} {i : Nat} (h : i < l.length) : l.drop i = rd l i :: l.drop (i + 1) := by
  rw [List.drop_eq_getElem_cons h]
  simp [Go.Proofs.YtldndnjajpjajaaW.PrintWords.rd, List.getD_eq_getElem?_getD, List.getElem?_eq_getElem h]
theorem bytes_loop (p : List Int) (hp : p.length < 70368744177664) : ∀ (d k i : Nat) (acc : List Int), i + d = p.length → d < k → acc.length + 2 * d + 2 < 140737488355328 →
    key_Bytes.l0 k acc p (p.length : Int) (i : Int) = some (acc ++ enc (p.drop i) ++ [0, 1])
  | 0, k, i, acc, hi, hk, hl => by
    obtain ⟨k, rfl⟩ : ∃ m, k = m + 1 := ⟨k - 1, by omega⟩
    simp only [key_Bytes.l0]
    rw [if_neg (by omega)]
    simp only [Option.bind_some]
    rw [if_pos (by simp; omega), List.drop_of_length_le (by omega)]
    simp [enc]
  | d + 1, k, i, acc, hi, hk, hl => by
    obtain ⟨k, rfl⟩ : ∃ m, k = m + 1 := ⟨k - 1, by omega⟩
    simp only [key_Bytes.l0]
    have hw : wrap64 ((i : Int) + 1) = ((i + 1 : Nat) : Int) := by rw [wrap_in (by omega) (by omega)]; omega
    rw [if_pos (by omega), if_pos (by omega), if_pos (by omega), if_pos (by omega), hw]
    simp only [Option.bind_some]
    rw [drop_rd (by omega : i < p.length)]
    by_cases h0 : rd p (i : Int) = 0
    · rw [if_pos h0, if_pos (by simp; omega), bytes_loop p hp d k (i + 1) _ (by omega) (by omega) (by simp; omega), h0]
      simp [enc]
    · rw [if_neg h0, bytes_loop p hp d k (i + 1) _ (by omega) (by omega) (by simp; omega)]
      simp [enc, h0]
theorem bytes_eval (b p : List Int) (hl : b.length + 2 * p.length + 2 < 140737488355328) (k : Nat) (hk : p.length < k) : key_Bytes.f k b p = some (b ++ enc p ++ [0, 1]) := by
  unfold key_Bytes.f
  rw [if_pos (by simp; omega)]
  have := bytes_loop p (by omega) p.length k 0 ([] ++ b) (by omega) hk (by simp; omega)
  simpa using this
theorem awake_eval (k : Nat) (hk : 2 < k) : halyardlaw7_awake.f k = some true := by
  unfold halyardlaw7_awake.f
  rw [bytes_eval [] [97, 0] (by simp) k (by simpa using hk)]
  simp only [Option.bind_some, str_list]
  simp [enc]
end Go.Proofs.Ytldndnjajpjajaa.E
