/- The pure statement of the law FnExactNextReal: for every real the printed function answers true. No condition but that the numbers are ints. -/
import Derived.Test.YthikbhnckghiiaaMFnExactNextRealx4
namespace Go.Proofs.Ythikbhnckghiiaa.Pure
open Go.RowKit Go.Proofs.Ythikbhnckghiiaa.MFnExactNextReal Go.Proofs.YthikbhnckghiiaaW.PrintWords Go.Proofs.YthikbhnckghiiaaW.PrintLast

theorem l1In_eq (a b c : Int) : spec_l1In.f a b c = some (decide (b ≤ a ∧ a ≤ c)) := by
  unfold spec_l1In.f
  by_cases h : a ≥ b
  · rw [if_pos h]; congr 1; simp; omega
  · rw [if_neg h]; congr 1; simp; omega

/-- Is a real a finite one. -/
def Fin (m e : Int) : Prop := (e = -150 ∧ 0 ≤ m ∧ m ≤ 4503599627370495) ∨ (-150 ≤ e ∧ e ≤ 150 ∧ 4503599627370496 ≤ m ∧ m ≤ 9007199254740991)
instance (m e : Int) : Decidable (Fin m e) := by unfold Fin; infer_instance

theorem yes_of {p : Prop} [Decidable p] (h : p) : some true = some (decide p) := by rw [decide_eq_true h]
theorem no_of {p : Prop} [Decidable p] (h : ¬ p) : some false = some (decide p) := by rw [decide_eq_false h]
theorem dec_of {p q : Prop} [Decidable p] [Decidable q] (h : p ↔ q) : some (decide p) = some (decide q) := by rw [decide_eq_decide.mpr h]

theorem specFin (n : Bool) (m e : Int) (k : Nat) : spec_lbFinite.f (k + 1) n m e = some (decide (Fin m e)) := by
  unfold spec_lbFinite.f Fin
  simp only [spec_lbFinite.j0, l1In_eq, Option.bind_some]
  by_cases h1 : e = -150
  · rw [if_pos h1]
    by_cases h2 : 0 ≤ m ∧ m ≤ 4503599627370495
    · rw [if_pos (decide_eq_true h2)]; exact yes_of (by omega)
    · rw [if_neg (by rw [decide_eq_false h2]; decide), if_pos (decide_eq_true (by omega))]; exact dec_of (by omega)
  · rw [if_neg h1]
    simp only [Bool.false_eq_true, if_false]
    by_cases h3 : -150 ≤ e ∧ e ≤ 150
    · rw [if_pos (decide_eq_true h3)]; exact dec_of (by omega)
    · rw [if_neg (by rw [decide_eq_false h3]; decide)]; exact no_of (by omega)

theorem implFin (n : Bool) (m e : Int) (k : Nat) : impl_isFinite.f (k + 1) n m e = some (decide (Fin m e)) := by
  unfold impl_isFinite.f Fin
  simp only [impl_isFinite.j0, if_true]
  by_cases h1 : m < 0
  · rw [if_pos h1]; exact no_of (by omega)
  rw [if_neg h1]
  by_cases h2 : m ≥ 9007199254740992
  · rw [if_pos h2]; exact no_of (by omega)
  rw [if_neg h2]
  by_cases h3 : e < -150
  · rw [if_pos h3]; exact no_of (by omega)
  rw [if_neg h3]
  by_cases h4 : e > 150
  · rw [if_pos (decide_eq_true h4)]; exact no_of (by omega)
  rw [if_neg (by rw [decide_eq_false h4]; decide)]
  by_cases h5 : m < 4503599627370496
  · rw [if_pos h5]
    by_cases h6 : e = -150
    · rw [beq_iff_eq.mpr h6]; exact yes_of (by omega)
    · rw [beq_eq_false_iff_ne.mpr h6]; exact no_of (by omega)
  · rw [if_neg h5]; exact yes_of (by omega)

theorem w64 {x : Int} (h1 : -9223372036854775808 ≤ x) (h2 : x ≤ 9223372036854775807) : wrap64 x = x := by unfold wrap64; omega

/-- What both tell: the next real. -/
def Next (n : Bool) (m e : Int) : Bool × Int × Int × Bool :=
  if ¬ Fin m e then (false, 0, 0, false)
  else if n = false ∧ m = 9007199254740991 ∧ e = 150 then (false, 0, 0, false)
  else if m = 0 then (false, 1, e, true)
  else if n = false then (if m = 9007199254740991 then (false, 4503599627370496, e + 1, true) else (false, m + 1, e, true))
  else if m = 4503599627370496 ∧ -150 < e then (true, 9007199254740991, e - 1, true)
  else (decide (1 < m), m - 1, e, true)

theorem specNext (n : Bool) (m e : Int) (k : Nat) : spec_NextReal.f (k + 5) n m e = some (Next n m e) := by
  unfold spec_NextReal.f Next
  rw [specFin]
  simp only [Option.bind_some]
  by_cases hf : Fin m e
  · have hb : -150 ≤ e ∧ e ≤ 150 ∧ 0 ≤ m ∧ m ≤ 9007199254740991 := by unfold Fin at hf; omega
    have hz : m = 0 → e = -150 := by unfold Fin at hf; omega
    simp only [hf, decide_true, not_true_eq_false, if_true, if_false]
    cases n with
    | true =>
      simp only [if_true, spec_NextReal.j0, spec_NextReal.j1, Bool.false_eq_true, if_false, false_and, Bool.true_eq_false]
      by_cases h0 : m = 0
      · rw [if_pos (beq_iff_eq.mpr h0), if_pos h0]
        unfold spec_lbUp.f
        rw [w64 (by omega) (by omega), if_neg (by omega)]
        simp only [Option.bind_some]
        rw [h0]; rfl
      · rw [if_neg (by rw [beq_eq_false_iff_ne.mpr h0]; decide), if_neg h0, w64 (x := m - 1) (by omega) (by omega)]
        by_cases h1 : m - 1 = 4503599627370495
        · rw [if_pos h1]
          by_cases h2 : e > -150
          · simp only [spec_NextReal.j2]
            rw [if_pos (decide_eq_true h2), if_pos (by omega), w64 (by omega) (by omega)]
          · simp only [spec_NextReal.j2]
            rw [if_neg (by rw [decide_eq_false h2]; decide), if_neg (by omega), if_neg (by omega), decide_eq_true (by omega)]
        · rw [if_neg h1, if_neg (by omega)]
          simp only [spec_NextReal.j2, Bool.false_eq_true, if_false]
          by_cases h3 : m - 1 = 0
          · rw [if_pos h3, decide_eq_false (by omega)]
          · rw [if_neg h3, decide_eq_true (by omega)]
    | false =>
      simp only [Bool.false_eq_true, if_false, true_and, if_true]
      by_cases h1 : m = 9007199254740991
      · rw [if_pos h1]
        by_cases h2 : e = 150
        · simp only [spec_NextReal.j0]
          rw [if_pos (beq_iff_eq.mpr h2), if_pos ⟨h1, h2⟩]
        · simp only [spec_NextReal.j0, spec_NextReal.j1, Bool.false_eq_true, if_false, if_true]
          rw [if_neg (by rw [beq_eq_false_iff_ne.mpr h2]; decide), if_neg (by omega), if_neg (by omega), if_pos h1]
          unfold spec_lbUp.f
          rw [w64 (x := m + 1) (by omega) (by omega), if_pos (by omega), w64 (by omega) (by omega)]
          rfl
      · rw [if_neg h1, if_neg (by omega)]
        simp only [spec_NextReal.j0, spec_NextReal.j1, Bool.false_eq_true, if_false, if_true]
        unfold spec_lbUp.f
        rw [w64 (x := m + 1) (by omega) (by omega), if_neg (by omega)]
        simp only [Option.bind_some]
        by_cases h0 : m = 0
        · rw [if_pos h0, h0]; rfl
        · rw [if_neg h0, if_neg h1]
  · simp only [hf, decide_false, not_false_eq_true, if_true, if_false, Bool.false_eq_true, spec_NextReal.j0]

theorem implNext (n : Bool) (m e : Int) (k : Nat) : impl_NextReal.f (k + 5) n m e = some (Next n m e) := by
  unfold impl_NextReal.f Next
  rw [implFin]
  simp only [Option.bind_some]
  by_cases hf : Fin m e
  · have hb : -150 ≤ e ∧ e ≤ 150 ∧ 0 ≤ m ∧ m ≤ 9007199254740991 := by unfold Fin at hf; omega
    have hz : m = 0 → e = -150 := by unfold Fin at hf; omega
    simp only [hf, decide_true, not_true_eq_false, if_true, if_false]
    simp only [impl_NextReal.j0, impl_NextReal.j1]
    by_cases h0 : n = false ∧ m = 9007199254740991 ∧ e = 150
    · rw [if_pos h0, if_pos (by simp [h0])]
    · rw [if_neg h0, if_neg (by simpa using h0)]
      by_cases h1 : m = 0
      · rw [if_pos h1, if_pos h1, hz h1]
      · rw [if_neg h1, if_neg h1]
        cases n with
        | true =>
          simp only [if_true, Bool.false_eq_true, if_false, Bool.true_eq_false]
          by_cases h2 : m = 4503599627370496
          · rw [if_pos h2]
            by_cases h3 : e > -150
            · rw [if_pos h3, if_pos ⟨h2, h3⟩, w64 (by omega) (by omega)]
            · rw [if_neg h3, if_neg (by omega), w64 (by omega) (by omega)]
          · rw [if_neg h2, if_neg (by omega), w64 (by omega) (by omega)]
        | false =>
          simp only [if_true, Bool.false_eq_true, if_false]
          by_cases h2 : m = 9007199254740991
          · rw [if_pos (beq_iff_eq.mpr h2), if_pos h2, w64 (by omega) (by omega)]
          · rw [if_neg (by rw [beq_eq_false_iff_ne.mpr h2]; decide), if_neg h2, w64 (by omega) (by omega)]
  · simp only [hf, decide_false, not_false_eq_true, if_true, if_false, Bool.false_eq_true, impl_NextReal.j0]

theorem FnExactNextReal : laws_FnExactNextReal.Pure := by
  intro n m e _ _
  refine ⟨5, ?_⟩
  unfold laws_FnExactNextReal.f laws_toReal.f
  simp only [Option.bind_some]
  rw [show (5 : Nat) = 0 + 5 from rfl, specNext, implNext]
  simp only [Option.bind_some]
  unfold laws_eqReal.f
  simp

end Go.Proofs.Ythikbhnckghiiaa.Pure
