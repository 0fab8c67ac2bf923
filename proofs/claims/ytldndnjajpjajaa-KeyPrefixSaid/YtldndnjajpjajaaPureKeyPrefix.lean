/-
  What begins with a prefix, and nothing else, is from it on and ahead of what package key's After gives, by package key's Compare: for any two rows of bytes.
-/
import Derived.Test.YtldndnjajpjajaaKf5
import Derived.Test.YtldndnjajpjajaaEa
namespace Go.Proofs.Ytldndnjajpjajaa.Pure
open Go.RowKit Go.Proofs.Ytldndnjajpjajaa.K Go.Proofs.Ytldndnjajpjajaa.E Go.Proofs.YtldndnjajpjajaaW.PrintWords Go.Proofs.YtldndnjajpjajaaW.PrintLast

theorem prefix_j0 {p b : List Int} (hl : p.length ≤ 140737488351232) (hp : By p) (hb : By b) (x : Bool) (hx : x = decide (b.take p.length = p)) : halyardlaw7_KeyPrefix.j0 (p.length + 4) p b x = some true := by
  have hi := prefix_iff hp hb
  have hr := res_after hp
  have hbr := By.res hp
  simp only [halyardlaw7_KeyPrefix.j0]
  rw [key_After_eval (by omega) _ (by omega)]
  simp only [Option.bind_some]
  rw [key_Compare_eval hb hp]
  simp only [Option.bind_some]
  rw [key_Compare_eval hb hbr, awake_eval _ (by omega)]
  simp only [Option.bind_some]
  by_cases h0 : 0 ≤ cmpI b p
  · rw [if_pos h0]
    cases ha : after p with
    | none =>
      rw [ha] at hr hi
      rw [hr]
      have : x = true := by rw [hx, decide_eq_true_iff, hi]; exact ⟨h0, fun _ h => by cases h⟩
      subst this
      simp
    | some e =>
      rw [ha] at hr hi
      rw [hr]
      have : x = decide (cmpI b e < 0) := by
        rw [hx]
        apply decide_eq_decide.2
        rw [hi]
        exact ⟨fun h => h.2 e rfl, fun h => ⟨h0, fun e' he' => by obtain rfl := Option.some.inj he'; exact h⟩⟩
      subst this
      simp
  · rw [if_neg h0]
    have : x = false := by rw [hx, decide_eq_false_iff_not, hi]; exact fun h => h0 h.1
    subst this
    simp
theorem KeyPrefix : halyardlaw7_KeyPrefix.Pure := by
  intro p b _ hl hp _ hk hb
  have hp := By.of hp
  have hb := By.of hb
  refine ⟨p.length + 4, ?_⟩
  unfold halyardlaw7_KeyPrefix.f
  by_cases h : p.length ≤ b.length
  · rw [if_pos (by omega), if_pos (by omega), if_pos (by omega)]
    refine prefix_j0 (by omega) hp hb _ ?_
    rw [Int.toNat_natCast, Bool.eq_iff_iff, beq_iff_eq, decide_eq_true_iff]
    exact str_eq (hb.take _) hp
  · rw [if_neg (by omega)]
    refine prefix_j0 (by omega) hp hb _ ?_
    symm
    rw [decide_eq_false_iff_not]
    intro e
    have := congrArg List.length e
    rw [List.length_take] at this
    omega
end Go.Proofs.Ytldndnjajpjajaa.Pure
