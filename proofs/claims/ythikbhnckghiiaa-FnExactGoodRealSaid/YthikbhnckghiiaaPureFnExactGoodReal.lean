/- The pure statement of the law FnExactGoodReal: for every real the printed function answers true. No condition but that the numbers are ints. -/
import Derived.Test.YthikbhnckghiiaaMFnExactGoodRealx2
namespace Go.Proofs.Ythikbhnckghiiaa.Pure
open Go.RowKit Go.Proofs.Ythikbhnckghiiaa.MFnExactGoodReal Go.Proofs.YthikbhnckghiiaaW.PrintWords Go.Proofs.YthikbhnckghiiaaW.PrintLast

theorem l1In_eq (a b c : Int) : spec_l1In.f a b c = some (decide (b ≤ a ∧ a ≤ c)) := by
  unfold spec_l1In.f
  by_cases h : a ≥ b
  · rw [if_pos h]; congr 1; simp; omega
  · rw [if_neg h]; congr 1; simp; omega

/-- Is a real a finite one. -/
def Fin (m e : Int) : Prop := (e = -150 ∧ 0 ≤ m ∧ m ≤ 4503599627370495) ∨ (-150 ≤ e ∧ e ≤ 150 ∧ 4503599627370496 ≤ m ∧ m ≤ 9007199254740991)
instance (m e : Int) : Decidable (Fin m e) := by unfold Fin; infer_instance

theorem yes_of {p : Prop} [Decidable p] (h : p) : some true = some (decide p) := by rw [decide_eq_true h]
theorem no_of {p : Prop} [Decidable p] (h : ¬ p) : some false = some (decide p) := by rw [decide_eq_false h]
theorem dec_of {p q : Prop} [Decidable p] [Decidable q] (h : p ↔ q) : some (decide p) = some (decide q) := by rw [decide_eq_decide.mpr h]

theorem specFin (n : Bool) (m e : Int) (k : Nat) : spec_lbFinite.f (k + 1) n m e = some (decide (Fin m e)) := by
  unfold spec_lbFinite.f Fin
  simp only [spec_lbFinite.j0, l1In_eq, Option.bind_some]
  by_cases h1 : e = -150
  · rw [if_pos h1]
    by_cases h2 : 0 ≤ m ∧ m ≤ 4503599627370495
    · rw [if_pos (decide_eq_true h2)]; exact yes_of (by omega)
    · rw [if_neg (by rw [decide_eq_false h2]; decide), if_pos (decide_eq_true (by omega))]; exact dec_of (by omega)
  · rw [if_neg h1]
    simp only [Bool.false_eq_true, if_false]
    by_cases h3 : -150 ≤ e ∧ e ≤ 150
    · rw [if_pos (decide_eq_true h3)]; exact dec_of (by omega)
    · rw [if_neg (by rw [decide_eq_false h3]; decide)]; exact no_of (by omega)

theorem implFin (n : Bool) (m e : Int) (k : Nat) : impl_isFinite.f (k + 1) n m e = some (decide (Fin m e)) := by
  unfold impl_isFinite.f Fin
  simp only [impl_isFinite.j0, if_true]
  by_cases h1 : m < 0
  · rw [if_pos h1]; exact no_of (by omega)
  rw [if_neg h1]
  by_cases h2 : m ≥ 9007199254740992
  · rw [if_pos h2]; exact no_of (by omega)
  rw [if_neg h2]
  by_cases h3 : e < -150
  · rw [if_pos h3]; exact no_of (by omega)
  rw [if_neg h3]
  by_cases h4 : e > 150
  · rw [if_pos (decide_eq_true h4)]; exact no_of (by omega)
  rw [if_neg (by rw [decide_eq_false h4]; decide)]
  by_cases h5 : m < 4503599627370496
  · rw [if_pos h5]
    by_cases h6 : e = -150
    · rw [beq_iff_eq.mpr h6]; exact yes_of (by omega)
    · rw [beq_eq_false_iff_ne.mpr h6]; exact no_of (by omega)
  · rw [if_neg h5]; exact yes_of (by omega)

theorem FnExactGoodReal : laws_FnExactGoodReal.Pure := by
  intro n m e _ _
  refine ⟨1, ?_⟩
  unfold laws_FnExactGoodReal.f laws_toReal.f
  simp only [Option.bind_some]
  unfold spec_GoodReal.f impl_GoodReal.f impl_isInfinite.f impl_infinite.f
  rw [specFin, implFin]
  simp only [Option.bind_some]
  by_cases h : Fin m e
  · simp [h]
  · simp only [h, decide_false, Bool.false_eq_true, if_false]
    by_cases h0 : m = 0
    · simp [h0]
    · simp [h0]

end Go.Proofs.Ythikbhnckghiiaa.Pure
