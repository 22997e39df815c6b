/- Printed by a program: what the Go functions that a law reaches come to, as Lean functions, each with the proof that the machine's call answers so; no condition but those each theorem names. -/
import Derived.Test.YtlifjokboadjkaaDoorK
import Derived.Test.YtlifjokboadjkaaDoorF6
namespace Go.Proofs.YtlifjokboadjkaaDoor.G
open Go.RowKit Go.Proofs.YtlifjokboadjkaaDoorW.PrintWords Go.Proofs.YtlifjokboadjkaaDoorW.PrintLast Go.Proofs.YtlifjokboadjkaaDoorW.PrintMore
attribute [local go_sem] max2_int min2_int max_two min_two max_three min_three max_four min_four   -- for this text's walks alone
set_option linter.unusedVariables false
set_option linter.unusedSimpArgs false

/-! ### spec_GoodNat: function 4 -/
def spec_GoodNat.f (k : Nat) (a0 : ByteArray) : Option (Bool) := if (a0.size : Int) ≤ 600 then ((spec_l1Digits.f k a0).bind fun t101 => (some t101)) else (some false)
theorem spec_GoodNat.mono : ∀ a0 k, LeO (spec_GoodNat.f k a0) (spec_GoodNat.f (k + 1) a0) := by
  intro a0 k
  unfold spec_GoodNat.f
  repeat' first
      | (with_reducible exact spec_l1Digits.mono _ _)
      | (with_reducible exact LeO.refl _)
      | (with_reducible exact LeO.none _)
      | (with_reducible refine LeO.ite ?_ ?_)
      | (with_reducible refine LeO.bind ?_ (fun _ => ?_))
      | exact spec_l1Digits.mono _ _
      | exact LeO.none _
      | refine LeO.ite ?_ ?_
      | refine LeO.bind ?_ (fun _ => ?_)
set_option maxHeartbeats 8000000 in
set_option maxRecDepth 100000 in
theorem spec_GoodNat.calls (k : Nat) (a0 : ByteArray) (r : Bool) (w : World) (h : spec_GoodNat.f k a0 = some r) :
    Calls Tryd.prog 4 #[.string a0] w fun e w' => e = .returned (.bool r) ∧ Drawn0 w w' := by
  have H : (if (a0.size : Int) ≤ 600 then ((spec_l1Digits.f k a0).bind fun t101 => (some t101)) else (some false)) = some r := h
  clear h
  by_cases c2 : (a0.size : Int) ≤ 600
  · rw [if_pos c2] at H
    have c2b0 : decide ((a0.size : Int) ≤ 600) = true := decide_eq_true c2
    have c2b1 : decide (a0.size ≤ 600) = true := decide_eq_true (by omega)
    clear c2
    replace H := Option.bind_eq_some_iff.mp H
    obtain ⟨t101, A30, H⟩ := H
    replace H : (some t101) = some r := H
    have A3 := Aside0.mk A30
    clear A30
    obtain rfl := Option.some.inj H
    go_enter Tryd.func4, Tryd.ntmps4
    go_wp2_with (first | (go_at_call 6; (with_reducible refine (spec_l1Digits.calls k a0 t101 _ A3.out).mono ?_); rintro e w' ⟨rfl, ⟨nd, rfl⟩⟩))
    go_ret
    exact ⟨by first | rfl | (simp; done) | (simp [*]; done), by repeat (first | exact Drawn0.refl _ | apply Drawn0.step)⟩
  · rw [if_neg c2] at H
    have c2b0 : decide ((a0.size : Int) ≤ 600) = false := decide_eq_false c2
    have c2b1 : decide (a0.size ≤ 600) = false := decide_eq_false (by omega)
    clear c2
    obtain rfl := Option.some.inj H
    go_enter Tryd.func4, Tryd.ntmps4
    go_wp2
    go_ret
    exact ⟨by first | rfl | (simp; done) | (simp [*]; done), by repeat (first | exact Drawn0.refl _ | apply Drawn0.step)⟩

end Go.Proofs.YtlifjokboadjkaaDoor.G
