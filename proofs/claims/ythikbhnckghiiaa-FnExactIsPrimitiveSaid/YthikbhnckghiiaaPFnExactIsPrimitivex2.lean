-- PRINTED BY print.sh 35421559b90ae4d0a3588c463048766b98c2df88dd9212a6774a882060cdf62d: not written by this session
import Derived.Test.YthikbhnckghiiaaPFnExactIsPrimitivex0
import Derived.Test.YthikbhnckghiiaaPFnExactIsPrimitivex1
namespace Go.Proofs.Ythikbhnckghiiaa.PFnExactIsPrimitive
open Go.RowKit Go.Proofs.YthikbhnckghiiaaW.PrintWords Go.Proofs.YthikbhnckghiiaaW.PrintLast Go.Proofs.YthikbhnckghiiaaW.PrintMore
attribute [local go_sem] max2_int min2_int max_two min_two max_three min_three max_four min_four   -- for this text's walks alone
set_option linter.unusedVariables false
set_option linter.unusedSimpArgs false

/-! ### impl_IsPrimitive: function 11 -/
def impl_IsPrimitive.f (a0 : ByteArray) : Option (Bool) := if a0.toList = ([43] : List UInt8) then (some true) else (if a0.toList = ([42] : List UInt8) then (some true) else (if a0.toList = ([45] : List UInt8) then (some true) else (if a0.toList = ([47] : List UInt8) then (some true) else (if a0.toList = ([61] : List UInt8) then (some true) else (if a0.toList = ([60] : List UInt8) then (some true) else (if a0.toList = ([62] : List UInt8) then (some true) else (if a0.toList = ([60, 61] : List UInt8) then (some true) else (if a0.toList = ([62, 61] : List UInt8) then (some true) else (if a0.toList = ([113, 117, 111, 116, 105, 101, 110, 116] : List UInt8) then (some true) else (if a0.toList = ([114, 101, 109, 97, 105, 110, 100, 101, 114] : List UInt8) then (some true) else (if a0.toList = ([102, 108, 111, 111, 114] : List UInt8) then (some true) else (if a0.toList = ([99, 111, 110, 115] : List UInt8) then (some true) else (if a0.toList = ([99, 97, 114] : List UInt8) then (some true) else (if a0.toList = ([99, 100, 114] : List UInt8) then (some true) else (if a0.toList = ([108, 105, 115, 116] : List UInt8) then (some true) else (if a0.toList = ([110, 117, 108, 108, 63] : List UInt8) then (some true) else (if a0.toList = ([112, 97, 105, 114, 63] : List UInt8) then (some true) else (if a0.toList = ([110, 117, 109, 98, 101, 114, 63] : List UInt8) then (some true) else (if a0.toList = ([115, 121, 109, 98, 111, 108, 63] : List UInt8) then (some true) else (if a0.toList = ([115, 116, 114, 105, 110, 103, 63] : List UInt8) then (some true) else (if a0.toList = ([98, 111, 111, 108, 101, 97, 110, 63] : List UInt8) then (some true) else (if a0.toList = ([112, 114, 111, 99, 101, 100, 117, 114, 101, 63] : List UInt8) then (some true) else (if a0.toList = ([110, 111, 116] : List UInt8) then (some true) else (if a0.toList = ([101, 113, 63] : List UInt8) then (some true) else (if a0.toList = ([101, 113, 117, 97, 108, 63] : List UInt8) then (some true) else (if a0.toList = ([108, 101, 110, 103, 116, 104] : List UInt8) then (some true) else (if a0.toList = ([97, 112, 112, 101, 110, 100] : List UInt8) then (some true) else (if a0.toList = ([114, 101, 118, 101, 114, 115, 101] : List UInt8) then (some true) else (if a0.toList = ([100, 105, 115, 112, 108, 97, 121] : List UInt8) then (some true) else (if a0.toList = ([119, 114, 105, 116, 101] : List UInt8) then (some true) else (if a0.toList = ([110, 101, 119, 108, 105, 110, 101] : List UInt8) then (some true) else (if a0.toList = ([97, 112, 112, 108, 121] : List UInt8) then (some true) else (if a0.toList = ([99, 97, 108, 108, 47, 99, 99] : List UInt8) then (some true) else (some false))))))))))))))))))))))))))))))))))
set_option maxHeartbeats 8000000 in
set_option maxRecDepth 100000 in
theorem impl_IsPrimitive.calls (a0 : ByteArray) (r : Bool) (w : World) (h : impl_IsPrimitive.f a0 = some r) :
    Calls Try.prog 11 #[.string a0] w fun e w' => e = .returned (.bool r) ∧ Drawn0 w w' := by
  have H : (if a0.toList = ([43] : List UInt8) then (some true) else (if a0.toList = ([42] : List UInt8) then (some true) else (if a0.toList = ([45] : List UInt8) then (some true) else (if a0.toList = ([47] : List UInt8) then (some true) else (if a0.toList = ([61] : List UInt8) then (some true) else (if a0.toList = ([60] : List UInt8) then (some true) else (if a0.toList = ([62] : List UInt8) then (some true) else (if a0.toList = ([60, 61] : List UInt8) then (some true) else (if a0.toList = ([62, 61] : List UInt8) then (some true) else (if a0.toList = ([113, 117, 111, 116, 105, 101, 110, 116] : List UInt8) then (some true) else (if a0.toList = ([114, 101, 109, 97, 105, 110, 100, 101, 114] : List UInt8) then (some true) else (if a0.toList = ([102, 108, 111, 111, 114] : List UInt8) then (some true) else (if a0.toList = ([99, 111, 110, 115] : List UInt8) then (some true) else (if a0.toList = ([99, 97, 114] : List UInt8) then (some true) else (if a0.toList = ([99, 100, 114] : List UInt8) then (some true) else (if a0.toList = ([108, 105, 115, 116] : List UInt8) then (some true) else (if a0.toList = ([110, 117, 108, 108, 63] : List UInt8) then (some true) else (if a0.toList = ([112, 97, 105, 114, 63] : List UInt8) then (some true) else (if a0.toList = ([110, 117, 109, 98, 101, 114, 63] : List UInt8) then (some true) else (if a0.toList = ([115, 121, 109, 98, 111, 108, 63] : List UInt8) then (some true) else (if a0.toList = ([115, 116, 114, 105, 110, 103, 63] : List UInt8) then (some true) else (if a0.toList = ([98, 111, 111, 108, 101, 97, 110, 63] : List UInt8) then (some true) else (if a0.toList = ([112, 114, 111, 99, 101, 100, 117, 114, 101, 63] : List UInt8) then (some true) else (if a0.toList = ([110, 111, 116] : List UInt8) then (some true) else (if a0.toList = ([101, 113, 63] : List UInt8) then (some true) else (if a0.toList = ([101, 113, 117, 97, 108, 63] : List UInt8) then (some true) else (if a0.toList = ([108, 101, 110, 103, 116, 104] : List UInt8) then (some true) else (if a0.toList = ([97, 112, 112, 101, 110, 100] : List UInt8) then (some true) else (if a0.toList = ([114, 101, 118, 101, 114, 115, 101] : List UInt8) then (some true) else (if a0.toList = ([100, 105, 115, 112, 108, 97, 121] : List UInt8) then (some true) else (if a0.toList = ([119, 114, 105, 116, 101] : List UInt8) then (some true) else (if a0.toList = ([110, 101, 119, 108, 105, 110, 101] : List UInt8) then (some true) else (if a0.toList = ([97, 112, 112, 108, 121] : List UInt8) then (some true) else (if a0.toList = ([99, 97, 108, 108, 47, 99, 99] : List UInt8) then (some true) else (some false))))))))))))))))))))))))))))))))))) = some r := h
  clear h
  by_cases c2 : a0.toList = ([43] : List UInt8)
  · rw [if_pos c2] at H
    have c2b0 : (a0.toList == ([43] : List UInt8)) = true := beq_iff_eq.mpr c2
    have c2b1 : (a0.toList != ([43] : List UInt8)) = false := bne_eq_false_iff_eq.mpr c2
    clear c2
    obtain rfl := Option.some.inj H
    go_enter Try.func11, Try.ntmps11
    go_wp2
    go_ret
    exact ⟨by first | rfl | (simp; done) | (simp [*]; done), by repeat (first | exact Drawn0.refl _ | apply Drawn0.step)⟩
  · rw [if_neg c2] at H
    have c2b0 : (a0.toList == ([43] : List UInt8)) = false := beq_eq_false_iff_ne.mpr c2
    have c2b1 : (a0.toList != ([43] : List UInt8)) = true := bne_iff_ne.mpr c2
    by_cases c3 : a0.toList = ([42] : List UInt8)
    · rw [if_pos c3] at H
      have c3b0 : (a0.toList == ([42] : List UInt8)) = true := beq_iff_eq.mpr c3
      have c3b1 : (a0.toList != ([42] : List UInt8)) = false := bne_eq_false_iff_eq.mpr c3
      clear c3
      obtain rfl := Option.some.inj H
      go_enter Try.func11, Try.ntmps11
      go_wp2
      go_ret
      exact ⟨by first | rfl | (simp; done) | (simp [*]; done), by repeat (first | exact Drawn0.refl _ | apply Drawn0.step)⟩
    · rw [if_neg c3] at H
      have c3b0 : (a0.toList == ([42] : List UInt8)) = false := beq_eq_false_iff_ne.mpr c3
      have c3b1 : (a0.toList != ([42] : List UInt8)) = true := bne_iff_ne.mpr c3
      by_cases c4 : a0.toList = ([45] : List UInt8)
      · rw [if_pos c4] at H
        have c4b0 : (a0.toList == ([45] : List UInt8)) = true := beq_iff_eq.mpr c4
        have c4b1 : (a0.toList != ([45] : List UInt8)) = false := bne_eq_false_iff_eq.mpr c4
        clear c4
        obtain rfl := Option.some.inj H
        go_enter Try.func11, Try.ntmps11
        go_wp2
        go_ret
        exact ⟨by first | rfl | (simp; done) | (simp [*]; done), by repeat (first | exact Drawn0.refl _ | apply Drawn0.step)⟩
      · rw [if_neg c4] at H
        have c4b0 : (a0.toList == ([45] : List UInt8)) = false := beq_eq_false_iff_ne.mpr c4
        have c4b1 : (a0.toList != ([45] : List UInt8)) = true := bne_iff_ne.mpr c4
        by_cases c5 : a0.toList = ([47] : List UInt8)
        · rw [if_pos c5] at H
          have c5b0 : (a0.toList == ([47] : List UInt8)) = true := beq_iff_eq.mpr c5
          have c5b1 : (a0.toList != ([47] : List UInt8)) = false := bne_eq_false_iff_eq.mpr c5
          clear c5
          obtain rfl := Option.some.inj H
          go_enter Try.func11, Try.ntmps11
          go_wp2
          go_ret
          exact ⟨by first | rfl | (simp; done) | (simp [*]; done), by repeat (first | exact Drawn0.refl _ | apply Drawn0.step)⟩
        · rw [if_neg c5] at H
          have c5b0 : (a0.toList == ([47] : List UInt8)) = false := beq_eq_false_iff_ne.mpr c5
          have c5b1 : (a0.toList != ([47] : List UInt8)) = true := bne_iff_ne.mpr c5
          by_cases c6 : a0.toList = ([61] : List UInt8)
          · rw [if_pos c6] at H
            have c6b0 : (a0.toList == ([61] : List UInt8)) = true := beq_iff_eq.mpr c6
            have c6b1 : (a0.toList != ([61] : List UInt8)) = false := bne_eq_false_iff_eq.mpr c6
            clear c6
            obtain rfl := Option.some.inj H
            go_enter Try.func11, Try.ntmps11
            go_wp2
            go_ret
            exact ⟨by first | rfl | (simp; done) | (simp [*]; done), by repeat (first | exact Drawn0.refl _ | apply Drawn0.step)⟩
          · rw [if_neg c6] at H
            have c6b0 : (a0.toList == ([61] : List UInt8)) = false := beq_eq_false_iff_ne.mpr c6
            have c6b1 : (a0.toList != ([61] : List UInt8)) = true := bne_iff_ne.mpr c6
            by_cases c7 : a0.toList = ([60] : List UInt8)
            · rw [if_pos c7] at H
              have c7b0 : (a0.toList == ([60] : List UInt8)) = true := beq_iff_eq.mpr c7
              have c7b1 : (a0.toList != ([60] : List UInt8)) = false := bne_eq_false_iff_eq.mpr c7
              clear c7
              obtain rfl := Option.some.inj H
              go_enter Try.func11, Try.ntmps11
              go_wp2
              go_ret
              exact ⟨by first | rfl | (simp; done) | (simp [*]; done), by repeat (first | exact Drawn0.refl _ | apply Drawn0.step)⟩
            · rw [if_neg c7] at H
              have c7b0 : (a0.toList == ([60] : List UInt8)) = false := beq_eq_false_iff_ne.mpr c7
              have c7b1 : (a0.toList != ([60] : List UInt8)) = true := bne_iff_ne.mpr c7
              by_cases c8 : a0.toList = ([62] : List UInt8)
              · rw [if_pos c8] at H
                have c8b0 : (a0.toList == ([62] : List UInt8)) = true := beq_iff_eq.mpr c8
                have c8b1 : (a0.toList != ([62] : List UInt8)) = false := bne_eq_false_iff_eq.mpr c8
                clear c8
                obtain rfl := Option.some.inj H
                go_enter Try.func11, Try.ntmps11
                go_wp2
                go_ret
                exact ⟨by first | rfl | (simp; done) | (simp [*]; done), by repeat (first | exact Drawn0.refl _ | apply Drawn0.step)⟩
              · rw [if_neg c8] at H
                have c8b0 : (a0.toList == ([62] : List UInt8)) = false := beq_eq_false_iff_ne.mpr c8
                have c8b1 : (a0.toList != ([62] : List UInt8)) = true := bne_iff_ne.mpr c8
                by_cases c9 : a0.toList = ([60, 61] : List UInt8)
                · rw [if_pos c9] at H
                  have c9b0 : (a0.toList == ([60, 61] : List UInt8)) = true := beq_iff_eq.mpr c9
                  have c9b1 : (a0.toList != ([60, 61] : List UInt8)) = false := bne_eq_false_iff_eq.mpr c9
                  clear c9
                  obtain rfl := Option.some.inj H
                  go_enter Try.func11, Try.ntmps11
                  go_wp2
                  go_ret
                  exact ⟨by first | rfl | (simp; done) | (simp [*]; done), by repeat (first | exact Drawn0.refl _ | apply Drawn0.step)⟩
                · rw [if_neg c9] at H
                  have c9b0 : (a0.toList == ([60, 61] : List UInt8)) = false := beq_eq_false_iff_ne.mpr c9
                  have c9b1 : (a0.toList != ([60, 61] : List UInt8)) = true := bne_iff_ne.mpr c9
                  by_cases c10 : a0.toList = ([62, 61] : List UInt8)
                  · rw [if_pos c10] at H
                    have c10b0 : (a0.toList == ([62, 61] : List UInt8)) = true := beq_iff_eq.mpr c10
                    have c10b1 : (a0.toList != ([62, 61] : List UInt8)) = false := bne_eq_false_iff_eq.mpr c10
                    clear c10
                    obtain rfl := Option.some.inj H
                    go_enter Try.func11, Try.ntmps11
                    go_wp2
                    go_ret
                    exact ⟨by first | rfl | (simp; done) | (simp [*]; done), by repeat (first | exact Drawn0.refl _ | apply Drawn0.step)⟩
                  · rw [if_neg c10] at H
                    have c10b0 : (a0.toList == ([62, 61] : List UInt8)) = false := beq_eq_false_iff_ne.mpr c10
                    have c10b1 : (a0.toList != ([62, 61] : List UInt8)) = true := bne_iff_ne.mpr c10
                    by_cases c11 : a0.toList = ([113, 117, 111, 116, 105, 101, 110, 116] : List UInt8)
                    · rw [if_pos c11] at H
                      have c11b0 : (a0.toList == ([113, 117, 111, 116, 105, 101, 110, 116] : List UInt8)) = true := beq_iff_eq.mpr c11
                      have c11b1 : (a0.toList != ([113, 117, 111, 116, 105, 101, 110, 116] : List UInt8)) = false := bne_eq_false_iff_eq.mpr c11
                      clear c11
                      obtain rfl := Option.some.inj H
                      go_enter Try.func11, Try.ntmps11
                      go_wp2
                      go_ret
                      exact ⟨by first | rfl | (simp; done) | (simp [*]; done), by repeat (first | exact Drawn0.refl _ | apply Drawn0.step)⟩
                    · rw [if_neg c11] at H
                      have c11b0 : (a0.toList == ([113, 117, 111, 116, 105, 101, 110, 116] : List UInt8)) = false := beq_eq_false_iff_ne.mpr c11
                      have c11b1 : (a0.toList != ([113, 117, 111, 116, 105, 101, 110, 116] : List UInt8)) = true := bne_iff_ne.mpr c11
                      by_cases c12 : a0.toList = ([114, 101, 109, 97, 105, 110, 100, 101, 114] : List UInt8)
                      · rw [if_pos c12] at H
                        have c12b0 : (a0.toList == ([114, 101, 109, 97, 105, 110, 100, 101, 114] : List UInt8)) = true := beq_iff_eq.mpr c12
                        have c12b1 : (a0.toList != ([114, 101, 109, 97, 105, 110, 100, 101, 114] : List UInt8)) = false := bne_eq_false_iff_eq.mpr c12
                        clear c12
                        obtain rfl := Option.some.inj H
                        go_enter Try.func11, Try.ntmps11
                        go_wp2
                        go_ret
                        exact ⟨by first | rfl | (simp; done) | (simp [*]; done), by repeat (first | exact Drawn0.refl _ | apply Drawn0.step)⟩
                      · rw [if_neg c12] at H
                        have c12b0 : (a0.toList == ([114, 101, 109, 97, 105, 110, 100, 101, 114] : List UInt8)) = false := beq_eq_false_iff_ne.mpr c12
                        have c12b1 : (a0.toList != ([114, 101, 109, 97, 105, 110, 100, 101, 114] : List UInt8)) = true := bne_iff_ne.mpr c12
                        by_cases c13 : a0.toList = ([102, 108, 111, 111, 114] : List UInt8)
                        · rw [if_pos c13] at H
                          have c13b0 : (a0.toList == ([102, 108, 111, 111, 114] : List UInt8)) = true := beq_iff_eq.mpr c13
                          have c13b1 : (a0.toList != ([102, 108, 111, 111, 114] : List UInt8)) = false := bne_eq_false_iff_eq.mpr c13
                          clear c13
                          obtain rfl := Option.some.inj H
                          go_enter Try.func11, Try.ntmps11
                          go_wp2
                          go_ret
                          exact ⟨by first | rfl | (simp; done) | (simp [*]; done), by repeat (first | exact Drawn0.refl _ | apply Drawn0.step)⟩
                        · rw [if_neg c13] at H
                          have c13b0 : (a0.toList == ([102, 108, 111, 111, 114] : List UInt8)) = false := beq_eq_false_iff_ne.mpr c13
                          have c13b1 : (a0.toList != ([102, 108, 111, 111, 114] : List UInt8)) = true := bne_iff_ne.mpr c13
                          by_cases c14 : a0.toList = ([99, 111, 110, 115] : List UInt8)
                          · rw [if_pos c14] at H
                            have c14b0 : (a0.toList == ([99, 111, 110, 115] : List UInt8)) = true := beq_iff_eq.mpr c14
                            have c14b1 : (a0.toList != ([99, 111, 110, 115] : List UInt8)) = false := bne_eq_false_iff_eq.mpr c14
                            clear c14
                            obtain rfl := Option.some.inj H
                            go_enter Try.func11, Try.ntmps11
                            go_wp2
                            go_ret
                            exact ⟨by first | rfl | (simp; done) | (simp [*]; done), by repeat (first | exact Drawn0.refl _ | apply Drawn0.step)⟩
                          · rw [if_neg c14] at H
                            have c14b0 : (a0.toList == ([99, 111, 110, 115] : List UInt8)) = false := beq_eq_false_iff_ne.mpr c14
                            have c14b1 : (a0.toList != ([99, 111, 110, 115] : List UInt8)) = true := bne_iff_ne.mpr c14
                            by_cases c15 : a0.toList = ([99, 97, 114] : List UInt8)
                            · rw [if_pos c15] at H
                              have c15b0 : (a0.toList == ([99, 97, 114] : List UInt8)) = true := beq_iff_eq.mpr c15
                              have c15b1 : (a0.toList != ([99, 97, 114] : List UInt8)) = false := bne_eq_false_iff_eq.mpr c15
                              clear c15
                              obtain rfl := Option.some.inj H
                              go_enter Try.func11, Try.ntmps11
                              go_wp2
                              go_ret
                              exact ⟨by first | rfl | (simp; done) | (simp [*]; done), by repeat (first | exact Drawn0.refl _ | apply Drawn0.step)⟩
                            · rw [if_neg c15] at H
                              have c15b0 : (a0.toList == ([99, 97, 114] : List UInt8)) = false := beq_eq_false_iff_ne.mpr c15
                              have c15b1 : (a0.toList != ([99, 97, 114] : List UInt8)) = true := bne_iff_ne.mpr c15
                              by_cases c16 : a0.toList = ([99, 100, 114] : List UInt8)
                              · rw [if_pos c16] at H
                                have c16b0 : (a0.toList == ([99, 100, 114] : List UInt8)) = true := beq_iff_eq.mpr c16
                                have c16b1 : (a0.toList != ([99, 100, 114] : List UInt8)) = false := bne_eq_false_iff_eq.mpr c16
                                clear c16
                                obtain rfl := Option.some.inj H
                                go_enter Try.func11, Try.ntmps11
                                go_wp2
                                go_ret
                                exact ⟨by first | rfl | (simp; done) | (simp [*]; done), by repeat (first | exact Drawn0.refl _ | apply Drawn0.step)⟩
                              · rw [if_neg c16] at H
                                have c16b0 : (a0.toList == ([99, 100, 114] : List UInt8)) = false := beq_eq_false_iff_ne.mpr c16
                                have c16b1 : (a0.toList != ([99, 100, 114] : List UInt8)) = true := bne_iff_ne.mpr c16
                                by_cases c17 : a0.toList = ([108, 105, 115, 116] : List UInt8)
                                · rw [if_pos c17] at H
                                  have c17b0 : (a0.toList == ([108, 105, 115, 116] : List UInt8)) = true := beq_iff_eq.mpr c17
                                  have c17b1 : (a0.toList != ([108, 105, 115, 116] : List UInt8)) = false := bne_eq_false_iff_eq.mpr c17
                                  clear c17
                                  obtain rfl := Option.some.inj H
                                  go_enter Try.func11, Try.ntmps11
                                  go_wp2
                                  go_ret
                                  exact ⟨by first | rfl | (simp; done) | (simp [*]; done), by repeat (first | exact Drawn0.refl _ | apply Drawn0.step)⟩
                                · rw [if_neg c17] at H
                                  have c17b0 : (a0.toList == ([108, 105, 115, 116] : List UInt8)) = false := beq_eq_false_iff_ne.mpr c17
                                  have c17b1 : (a0.toList != ([108, 105, 115, 116] : List UInt8)) = true := bne_iff_ne.mpr c17
                                  by_cases c18 : a0.toList = ([110, 117, 108, 108, 63] : List UInt8)
                                  · rw [if_pos c18] at H
                                    have c18b0 : (a0.toList == ([110, 117, 108, 108, 63] : List UInt8)) = true := beq_iff_eq.mpr c18
                                    have c18b1 : (a0.toList != ([110, 117, 108, 108, 63] : List UInt8)) = false := bne_eq_false_iff_eq.mpr c18
                                    clear c18
                                    obtain rfl := Option.some.inj H
                                    go_enter Try.func11, Try.ntmps11
                                    go_wp2
                                    go_ret
                                    exact ⟨by first | rfl | (simp; done) | (simp [*]; done), by repeat (first | exact Drawn0.refl _ | apply Drawn0.step)⟩
                                  · rw [if_neg c18] at H
                                    have c18b0 : (a0.toList == ([110, 117, 108, 108, 63] : List UInt8)) = false := beq_eq_false_iff_ne.mpr c18
                                    have c18b1 : (a0.toList != ([110, 117, 108, 108, 63] : List UInt8)) = true := bne_iff_ne.mpr c18
                                    by_cases c19 : a0.toList = ([112, 97, 105, 114, 63] : List UInt8)
                                    · rw [if_pos c19] at H
                                      have c19b0 : (a0.toList == ([112, 97, 105, 114, 63] : List UInt8)) = true := beq_iff_eq.mpr c19
                                      have c19b1 : (a0.toList != ([112, 97, 105, 114, 63] : List UInt8)) = false := bne_eq_false_iff_eq.mpr c19
                                      clear c19
                                      obtain rfl := Option.some.inj H
                                      go_enter Try.func11, Try.ntmps11
                                      go_wp2
                                      go_ret
                                      exact ⟨by first | rfl | (simp; done) | (simp [*]; done), by repeat (first | exact Drawn0.refl _ | apply Drawn0.step)⟩
                                    · rw [if_neg c19] at H
                                      have c19b0 : (a0.toList == ([112, 97, 105, 114, 63] : List UInt8)) = false := beq_eq_false_iff_ne.mpr c19
                                      have c19b1 : (a0.toList != ([112, 97, 105, 114, 63] : List UInt8)) = true := bne_iff_ne.mpr c19
                                      by_cases c20 : a0.toList = ([110, 117, 109, 98, 101, 114, 63] : List UInt8)
                                      · rw [if_pos c20] at H
                                        have c20b0 : (a0.toList == ([110, 117, 109, 98, 101, 114, 63] : List UInt8)) = true := beq_iff_eq.mpr c20
                                        have c20b1 : (a0.toList != ([110, 117, 109, 98, 101, 114, 63] : List UInt8)) = false := bne_eq_false_iff_eq.mpr c20
                                        clear c20
                                        obtain rfl := Option.some.inj H
                                        go_enter Try.func11, Try.ntmps11
                                        go_wp2
                                        go_ret
                                        exact ⟨by first | rfl | (simp; done) | (simp [*]; done), by repeat (first | exact Drawn0.refl _ | apply Drawn0.step)⟩
                                      · rw [if_neg c20] at H
                                        have c20b0 : (a0.toList == ([110, 117, 109, 98, 101, 114, 63] : List UInt8)) = false := beq_eq_false_iff_ne.mpr c20
                                        have c20b1 : (a0.toList != ([110, 117, 109, 98, 101, 114, 63] : List UInt8)) = true := bne_iff_ne.mpr c20
                                        by_cases c21 : a0.toList = ([115, 121, 109, 98, 111, 108, 63] : List UInt8)
                                        · rw [if_pos c21] at H
                                          have c21b0 : (a0.toList == ([115, 121, 109, 98, 111, 108, 63] : List UInt8)) = true := beq_iff_eq.mpr c21
                                          have c21b1 : (a0.toList != ([115, 121, 109, 98, 111, 108, 63] : List UInt8)) = false := bne_eq_false_iff_eq.mpr c21
                                          clear c21
                                          obtain rfl := Option.some.inj H
                                          go_enter Try.func11, Try.ntmps11
                                          go_wp2
                                          go_ret
                                          exact ⟨by first | rfl | (simp; done) | (simp [*]; done), by repeat (first | exact Drawn0.refl _ | apply Drawn0.step)⟩
                                        · rw [if_neg c21] at H
                                          have c21b0 : (a0.toList == ([115, 121, 109, 98, 111, 108, 63] : List UInt8)) = false := beq_eq_false_iff_ne.mpr c21
                                          have c21b1 : (a0.toList != ([115, 121, 109, 98, 111, 108, 63] : List UInt8)) = true := bne_iff_ne.mpr c21
                                          by_cases c22 : a0.toList = ([115, 116, 114, 105, 110, 103, 63] : List UInt8)
                                          · rw [if_pos c22] at H
                                            have c22b0 : (a0.toList == ([115, 116, 114, 105, 110, 103, 63] : List UInt8)) = true := beq_iff_eq.mpr c22
                                            have c22b1 : (a0.toList != ([115, 116, 114, 105, 110, 103, 63] : List UInt8)) = false := bne_eq_false_iff_eq.mpr c22
                                            clear c22
                                            obtain rfl := Option.some.inj H
                                            go_enter Try.func11, Try.ntmps11
                                            go_wp2
                                            go_ret
                                            exact ⟨by first | rfl | (simp; done) | (simp [*]; done), by repeat (first | exact Drawn0.refl _ | apply Drawn0.step)⟩
                                          · rw [if_neg c22] at H
                                            have c22b0 : (a0.toList == ([115, 116, 114, 105, 110, 103, 63] : List UInt8)) = false := beq_eq_false_iff_ne.mpr c22
                                            have c22b1 : (a0.toList != ([115, 116, 114, 105, 110, 103, 63] : List UInt8)) = true := bne_iff_ne.mpr c22
                                            by_cases c23 : a0.toList = ([98, 111, 111, 108, 101, 97, 110, 63] : List UInt8)
                                            · rw [if_pos c23] at H
                                              have c23b0 : (a0.toList == ([98, 111, 111, 108, 101, 97, 110, 63] : List UInt8)) = true := beq_iff_eq.mpr c23
                                              have c23b1 : (a0.toList != ([98, 111, 111, 108, 101, 97, 110, 63] : List UInt8)) = false := bne_eq_false_iff_eq.mpr c23
                                              clear c23
                                              obtain rfl := Option.some.inj H
                                              go_enter Try.func11, Try.ntmps11
                                              go_wp2
                                              go_ret
                                              exact ⟨by first | rfl | (simp; done) | (simp [*]; done), by repeat (first | exact Drawn0.refl _ | apply Drawn0.step)⟩
                                            · rw [if_neg c23] at H
                                              have c23b0 : (a0.toList == ([98, 111, 111, 108, 101, 97, 110, 63] : List UInt8)) = false := beq_eq_false_iff_ne.mpr c23
                                              have c23b1 : (a0.toList != ([98, 111, 111, 108, 101, 97, 110, 63] : List UInt8)) = true := bne_iff_ne.mpr c23
                                              by_cases c24 : a0.toList = ([112, 114, 111, 99, 101, 100, 117, 114, 101, 63] : List UInt8)
                                              · rw [if_pos c24] at H
                                                have c24b0 : (a0.toList == ([112, 114, 111, 99, 101, 100, 117, 114, 101, 63] : List UInt8)) = true := beq_iff_eq.mpr c24
                                                have c24b1 : (a0.toList != ([112, 114, 111, 99, 101, 100, 117, 114, 101, 63] : List UInt8)) = false := bne_eq_false_iff_eq.mpr c24
                                                clear c24
                                                obtain rfl := Option.some.inj H
                                                go_enter Try.func11, Try.ntmps11
                                                go_wp2
                                                go_ret
                                                exact ⟨by first | rfl | (simp; done) | (simp [*]; done), by repeat (first | exact Drawn0.refl _ | apply Drawn0.step)⟩
                                              · rw [if_neg c24] at H
                                                have c24b0 : (a0.toList == ([112, 114, 111, 99, 101, 100, 117, 114, 101, 63] : List UInt8)) = false := beq_eq_false_iff_ne.mpr c24
                                                have c24b1 : (a0.toList != ([112, 114, 111, 99, 101, 100, 117, 114, 101, 63] : List UInt8)) = true := bne_iff_ne.mpr c24
                                                by_cases c25 : a0.toList = ([110, 111, 116] : List UInt8)
                                                · rw [if_pos c25] at H
                                                  have c25b0 : (a0.toList == ([110, 111, 116] : List UInt8)) = true := beq_iff_eq.mpr c25
                                                  have c25b1 : (a0.toList != ([110, 111, 116] : List UInt8)) = false := bne_eq_false_iff_eq.mpr c25
                                                  clear c25
                                                  obtain rfl := Option.some.inj H
                                                  go_enter Try.func11, Try.ntmps11
                                                  go_wp2
                                                  go_ret
                                                  exact ⟨by first | rfl | (simp; done) | (simp [*]; done), by repeat (first | exact Drawn0.refl _ | apply Drawn0.step)⟩
                                                · rw [if_neg c25] at H
                                                  have c25b0 : (a0.toList == ([110, 111, 116] : List UInt8)) = false := beq_eq_false_iff_ne.mpr c25
                                                  have c25b1 : (a0.toList != ([110, 111, 116] : List UInt8)) = true := bne_iff_ne.mpr c25
                                                  by_cases c26 : a0.toList = ([101, 113, 63] : List UInt8)
                                                  · rw [if_pos c26] at H
                                                    have c26b0 : (a0.toList == ([101, 113, 63] : List UInt8)) = true := beq_iff_eq.mpr c26
                                                    have c26b1 : (a0.toList != ([101, 113, 63] : List UInt8)) = false := bne_eq_false_iff_eq.mpr c26
                                                    clear c26
                                                    obtain rfl := Option.some.inj H
                                                    go_enter Try.func11, Try.ntmps11
                                                    go_wp2
                                                    go_ret
                                                    exact ⟨by first | rfl | (simp; done) | (simp [*]; done), by repeat (first | exact Drawn0.refl _ | apply Drawn0.step)⟩
                                                  · rw [if_neg c26] at H
                                                    have c26b0 : (a0.toList == ([101, 113, 63] : List UInt8)) = false := beq_eq_false_iff_ne.mpr c26
                                                    have c26b1 : (a0.toList != ([101, 113, 63] : List UInt8)) = true := bne_iff_ne.mpr c26
                                                    by_cases c27 : a0.toList = ([101, 113, 117, 97, 108, 63] : List UInt8)
                                                    · rw [if_pos c27] at H
                                                      have c27b0 : (a0.toList == ([101, 113, 117, 97, 108, 63] : List UInt8)) = true := beq_iff_eq.mpr c27
                                                      have c27b1 : (a0.toList != ([101, 113, 117, 97, 108, 63] : List UInt8)) = false := bne_eq_false_iff_eq.mpr c27
                                                      clear c27
                                                      obtain rfl := Option.some.inj H
                                                      go_enter Try.func11, Try.ntmps11
                                                      go_wp2
                                                      go_ret
                                                      exact ⟨by first | rfl | (simp; done) | (simp [*]; done), by repeat (first | exact Drawn0.refl _ | apply Drawn0.step)⟩
                                                    · rw [if_neg c27] at H
                                                      have c27b0 : (a0.toList == ([101, 113, 117, 97, 108, 63] : List UInt8)) = false := beq_eq_false_iff_ne.mpr c27
                                                      have c27b1 : (a0.toList != ([101, 113, 117, 97, 108, 63] : List UInt8)) = true := bne_iff_ne.mpr c27
                                                      by_cases c28 : a0.toList = ([108, 101, 110, 103, 116, 104] : List UInt8)
                                                      · rw [if_pos c28] at H
                                                        have c28b0 : (a0.toList == ([108, 101, 110, 103, 116, 104] : List UInt8)) = true := beq_iff_eq.mpr c28
                                                        have c28b1 : (a0.toList != ([108, 101, 110, 103, 116, 104] : List UInt8)) = false := bne_eq_false_iff_eq.mpr c28
                                                        clear c28
                                                        obtain rfl := Option.some.inj H
                                                        go_enter Try.func11, Try.ntmps11
                                                        go_wp2
                                                        go_ret
                                                        exact ⟨by first | rfl | (simp; done) | (simp [*]; done), by repeat (first | exact Drawn0.refl _ | apply Drawn0.step)⟩
                                                      · rw [if_neg c28] at H
                                                        have c28b0 : (a0.toList == ([108, 101, 110, 103, 116, 104] : List UInt8)) = false := beq_eq_false_iff_ne.mpr c28
                                                        have c28b1 : (a0.toList != ([108, 101, 110, 103, 116, 104] : List UInt8)) = true := bne_iff_ne.mpr c28
                                                        by_cases c29 : a0.toList = ([97, 112, 112, 101, 110, 100] : List UInt8)
                                                        · rw [if_pos c29] at H
                                                          have c29b0 : (a0.toList == ([97, 112, 112, 101, 110, 100] : List UInt8)) = true := beq_iff_eq.mpr c29
                                                          have c29b1 : (a0.toList != ([97, 112, 112, 101, 110, 100] : List UInt8)) = false := bne_eq_false_iff_eq.mpr c29
                                                          clear c29
                                                          obtain rfl := Option.some.inj H
                                                          go_enter Try.func11, Try.ntmps11
                                                          go_wp2
                                                          go_ret
                                                          exact ⟨by first | rfl | (simp; done) | (simp [*]; done), by repeat (first | exact Drawn0.refl _ | apply Drawn0.step)⟩
                                                        · rw [if_neg c29] at H
                                                          have c29b0 : (a0.toList == ([97, 112, 112, 101, 110, 100] : List UInt8)) = false := beq_eq_false_iff_ne.mpr c29
                                                          have c29b1 : (a0.toList != ([97, 112, 112, 101, 110, 100] : List UInt8)) = true := bne_iff_ne.mpr c29
                                                          by_cases c30 : a0.toList = ([114, 101, 118, 101, 114, 115, 101] : List UInt8)
                                                          · rw [if_pos c30] at H
                                                            have c30b0 : (a0.toList == ([114, 101, 118, 101, 114, 115, 101] : List UInt8)) = true := beq_iff_eq.mpr c30
                                                            have c30b1 : (a0.toList != ([114, 101, 118, 101, 114, 115, 101] : List UInt8)) = false := bne_eq_false_iff_eq.mpr c30
                                                            clear c30
                                                            obtain rfl := Option.some.inj H
                                                            go_enter Try.func11, Try.ntmps11
                                                            go_wp2
                                                            go_ret
                                                            exact ⟨by first | rfl | (simp; done) | (simp [*]; done), by repeat (first | exact Drawn0.refl _ | apply Drawn0.step)⟩
                                                          · rw [if_neg c30] at H
                                                            have c30b0 : (a0.toList == ([114, 101, 118, 101, 114, 115, 101] : List UInt8)) = false := beq_eq_false_iff_ne.mpr c30
                                                            have c30b1 : (a0.toList != ([114, 101, 118, 101, 114, 115, 101] : List UInt8)) = true := bne_iff_ne.mpr c30
                                                            by_cases c31 : a0.toList = ([100, 105, 115, 112, 108, 97, 121] : List UInt8)
                                                            · rw [if_pos c31] at H
                                                              have c31b0 : (a0.toList == ([100, 105, 115, 112, 108, 97, 121] : List UInt8)) = true := beq_iff_eq.mpr c31
                                                              have c31b1 : (a0.toList != ([100, 105, 115, 112, 108, 97, 121] : List UInt8)) = false := bne_eq_false_iff_eq.mpr c31
                                                              clear c31
                                                              obtain rfl := Option.some.inj H
                                                              go_enter Try.func11, Try.ntmps11
                                                              go_wp2
                                                              go_ret
                                                              exact ⟨by first | rfl | (simp; done) | (simp [*]; done), by repeat (first | exact Drawn0.refl _ | apply Drawn0.step)⟩
                                                            · rw [if_neg c31] at H
                                                              have c31b0 : (a0.toList == ([100, 105, 115, 112, 108, 97, 121] : List UInt8)) = false := beq_eq_false_iff_ne.mpr c31
                                                              have c31b1 : (a0.toList != ([100, 105, 115, 112, 108, 97, 121] : List UInt8)) = true := bne_iff_ne.mpr c31
                                                              by_cases c32 : a0.toList = ([119, 114, 105, 116, 101] : List UInt8)
                                                              · rw [if_pos c32] at H
                                                                have c32b0 : (a0.toList == ([119, 114, 105, 116, 101] : List UInt8)) = true := beq_iff_eq.mpr c32
                                                                have c32b1 : (a0.toList != ([119, 114, 105, 116, 101] : List UInt8)) = false := bne_eq_false_iff_eq.mpr c32
                                                                clear c32
                                                                obtain rfl := Option.some.inj H
                                                                go_enter Try.func11, Try.ntmps11
                                                                go_wp2
                                                                go_ret
                                                                exact ⟨by first | rfl | (simp; done) | (simp [*]; done), by repeat (first | exact Drawn0.refl _ | apply Drawn0.step)⟩
                                                              · rw [if_neg c32] at H
                                                                have c32b0 : (a0.toList == ([119, 114, 105, 116, 101] : List UInt8)) = false := beq_eq_false_iff_ne.mpr c32
                                                                have c32b1 : (a0.toList != ([119, 114, 105, 116, 101] : List UInt8)) = true := bne_iff_ne.mpr c32
                                                                by_cases c33 : a0.toList = ([110, 101, 119, 108, 105, 110, 101] : List UInt8)
                                                                · rw [if_pos c33] at H
                                                                  have c33b0 : (a0.toList == ([110, 101, 119, 108, 105, 110, 101] : List UInt8)) = true := beq_iff_eq.mpr c33
                                                                  have c33b1 : (a0.toList != ([110, 101, 119, 108, 105, 110, 101] : List UInt8)) = false := bne_eq_false_iff_eq.mpr c33
                                                                  clear c33
                                                                  obtain rfl := Option.some.inj H
                                                                  go_enter Try.func11, Try.ntmps11
                                                                  go_wp2
                                                                  go_ret
                                                                  exact ⟨by first | rfl | (simp; done) | (simp [*]; done), by repeat (first | exact Drawn0.refl _ | apply Drawn0.step)⟩
                                                                · rw [if_neg c33] at H
                                                                  have c33b0 : (a0.toList == ([110, 101, 119, 108, 105, 110, 101] : List UInt8)) = false := beq_eq_false_iff_ne.mpr c33
                                                                  have c33b1 : (a0.toList != ([110, 101, 119, 108, 105, 110, 101] : List UInt8)) = true := bne_iff_ne.mpr c33
                                                                  by_cases c34 : a0.toList = ([97, 112, 112, 108, 121] : List UInt8)
                                                                  · rw [if_pos c34] at H
                                                                    have c34b0 : (a0.toList == ([97, 112, 112, 108, 121] : List UInt8)) = true := beq_iff_eq.mpr c34
                                                                    have c34b1 : (a0.toList != ([97, 112, 112, 108, 121] : List UInt8)) = false := bne_eq_false_iff_eq.mpr c34
                                                                    clear c34
                                                                    obtain rfl := Option.some.inj H
                                                                    go_enter Try.func11, Try.ntmps11
                                                                    go_wp2
                                                                    go_ret
                                                                    exact ⟨by first | rfl | (simp; done) | (simp [*]; done), by repeat (first | exact Drawn0.refl _ | apply Drawn0.step)⟩
                                                                  · rw [if_neg c34] at H
                                                                    have c34b0 : (a0.toList == ([97, 112, 112, 108, 121] : List UInt8)) = false := beq_eq_false_iff_ne.mpr c34
                                                                    have c34b1 : (a0.toList != ([97, 112, 112, 108, 121] : List UInt8)) = true := bne_iff_ne.mpr c34
                                                                    by_cases c35 : a0.toList = ([99, 97, 108, 108, 47, 99, 99] : List UInt8)
                                                                    · rw [if_pos c35] at H
                                                                      have c35b0 : (a0.toList == ([99, 97, 108, 108, 47, 99, 99] : List UInt8)) = true := beq_iff_eq.mpr c35
                                                                      have c35b1 : (a0.toList != ([99, 97, 108, 108, 47, 99, 99] : List UInt8)) = false := bne_eq_false_iff_eq.mpr c35
                                                                      clear c35
                                                                      obtain rfl := Option.some.inj H
                                                                      go_enter Try.func11, Try.ntmps11
                                                                      go_wp2
                                                                      go_ret
                                                                      exact ⟨by first | rfl | (simp; done) | (simp [*]; done), by repeat (first | exact Drawn0.refl _ | apply Drawn0.step)⟩
                                                                    · rw [if_neg c35] at H
                                                                      have c35b0 : (a0.toList == ([99, 97, 108, 108, 47, 99, 99] : List UInt8)) = false := beq_eq_false_iff_ne.mpr c35
                                                                      have c35b1 : (a0.toList != ([99, 97, 108, 108, 47, 99, 99] : List UInt8)) = true := bne_iff_ne.mpr c35
                                                                      obtain rfl := Option.some.inj H
                                                                      go_enter Try.func11, Try.ntmps11
                                                                      go_wp2
                                                                      go_ret
                                                                      exact ⟨by first | rfl | (simp; done) | (simp [*]; done), by repeat (first | exact Drawn0.refl _ | apply Drawn0.step)⟩

/-! ### laws_FnExactIsPrimitive: function 5 -/
def laws_FnExactIsPrimitive.f (k : Nat) (a0 : ByteArray) : Option (Bool) := if (a0.size : Int) > 1048576 then (some true) else ((spec_IsPrimitive.f k a0).bind fun t102 => ((impl_IsPrimitive.f a0).bind fun t103 => (if (t103 != t102) = true then (some false) else (some true))))
theorem laws_FnExactIsPrimitive.mono : ∀ a0 k, LeO (laws_FnExactIsPrimitive.f k a0) (laws_FnExactIsPrimitive.f (k + 1) a0) := by
  intro a0 k
  unfold laws_FnExactIsPrimitive.f
  repeat' first
      | (with_reducible exact spec_IsPrimitive.mono _ _)
      | (with_reducible exact LeO.refl _)
      | (with_reducible exact LeO.none _)
      | (with_reducible refine LeO.ite ?_ ?_)
      | (with_reducible refine LeO.bind ?_ (fun _ => ?_))
      | exact spec_IsPrimitive.mono _ _
      | exact LeO.none _
      | refine LeO.ite ?_ ?_
      | refine LeO.bind ?_ (fun _ => ?_)
set_option maxHeartbeats 8000000 in
set_option maxRecDepth 100000 in
theorem laws_FnExactIsPrimitive.calls (k : Nat) (a0 : ByteArray) (r : Bool) (w : World) (h : laws_FnExactIsPrimitive.f k a0 = some r) :
    Calls Try.prog 5 #[.string a0] w fun e w' => e = .returned (.bool r) ∧ Drawn0 w w' := by
  have H : (if (a0.size : Int) > 1048576 then (some true) else ((spec_IsPrimitive.f k a0).bind fun t102 => ((impl_IsPrimitive.f a0).bind fun t103 => (if (t103 != t102) = true then (some false) else (some true))))) = some r := h
  clear h
  by_cases c2 : (a0.size : Int) > 1048576
  · rw [if_pos c2] at H
    have c2b0 : decide (1048576 < (a0.size : Int)) = true := decide_eq_true c2
    have c2b1 : decide (1048576 < a0.size) = true := decide_eq_true (by omega)
    clear c2
    obtain rfl := Option.some.inj H
    go_enter Try.func5, Try.ntmps5
    go_wp2
    go_ret
    exact ⟨by first | rfl | (simp; done) | (simp [*]; done), by repeat (first | exact Drawn0.refl _ | apply Drawn0.step)⟩
  · rw [if_neg c2] at H
    have c2b0 : decide (1048576 < (a0.size : Int)) = false := decide_eq_false c2
    have c2b1 : decide (1048576 < a0.size) = false := decide_eq_false (by omega)
    clear c2
    replace H := Option.bind_eq_some_iff.mp H
    obtain ⟨t102, A30, H⟩ := H
    replace H : ((impl_IsPrimitive.f a0).bind fun t103 => (if (t103 != t102) = true then (some false) else (some true))) = some r := H
    have A3 := Aside0.mk A30
    clear A30
    replace H := Option.bind_eq_some_iff.mp H
    obtain ⟨t103, A40, H⟩ := H
    replace H : (if (t103 != t102) = true then (some false) else (some true)) = some r := H
    have A4 := Aside0.mk A40
    clear A40
    by_cases c5 : (t103 != t102) = true
    · rw [if_pos c5] at H
      have c5b0 : (t103 != t102) = true := c5
      (try (have c5b1 : decide (t103 = t102) = false := by simpa using c5))
      (try (have c5b2 : (t103 == t102) = false := by simpa using c5))
      (try (have c5b3 : ¬ (t103 = t102) := by simpa using c5))
      clear c5
      obtain rfl := Option.some.inj H
      go_enter Try.func5, Try.ntmps5
      go_wp2_with (first | ((with_reducible refine gate_callee (f := 10) rfl ?_); refine goesL_ (some 9) rfl rfl Try.func10 (by kernel_rfl) rfl #[.string a0] rfl (by (try simp only [List.map_toArray, List.map_cons, List.map_nil]); first | done | rfl | (simp only [List.length_drop, List.length_take]; rfl)) ?_; (with_reducible refine (spec_IsPrimitive.calls k a0 t102 _ A3.out).mono ?_); rintro e w' ⟨rfl, ⟨nd, rfl⟩⟩; refine ⟨_, rfl, ?_⟩) | ((with_reducible refine gate_callee (f := 11) rfl ?_); refine goesL_ (some 11) rfl rfl Try.func11 (by kernel_rfl) rfl #[.string a0] rfl (by (try simp only [List.map_toArray, List.map_cons, List.map_nil]); first | done | rfl | (simp only [List.length_drop, List.length_take]; rfl)) ?_; (with_reducible refine (impl_IsPrimitive.calls a0 t103 _ A4.out).mono ?_); rintro e w' ⟨rfl, ⟨nd, rfl⟩⟩; refine ⟨_, rfl, ?_⟩))
      go_ret
      exact ⟨by first | rfl | (simp; done) | (simp [*]; done), by repeat (first | exact Drawn0.refl _ | apply Drawn0.step)⟩
    · rw [if_neg c5] at H
      have c5b0 : (t103 != t102) = false := by simpa using c5
      (try (have c5b1 : decide (t103 = t102) = true := by simpa using c5))
      (try (have c5b2 : (t103 == t102) = true := by simpa using c5))
      clear c5
      obtain rfl := Option.some.inj H
      go_enter Try.func5, Try.ntmps5
      go_wp2_with (first | ((with_reducible refine gate_callee (f := 10) rfl ?_); refine goesL_ (some 9) rfl rfl Try.func10 (by kernel_rfl) rfl #[.string a0] rfl (by (try simp only [List.map_toArray, List.map_cons, List.map_nil]); first | done | rfl | (simp only [List.length_drop, List.length_take]; rfl)) ?_; (with_reducible refine (spec_IsPrimitive.calls k a0 t102 _ A3.out).mono ?_); rintro e w' ⟨rfl, ⟨nd, rfl⟩⟩; refine ⟨_, rfl, ?_⟩) | ((with_reducible refine gate_callee (f := 11) rfl ?_); refine goesL_ (some 11) rfl rfl Try.func11 (by kernel_rfl) rfl #[.string a0] rfl (by (try simp only [List.map_toArray, List.map_cons, List.map_nil]); first | done | rfl | (simp only [List.length_drop, List.length_take]; rfl)) ?_; (with_reducible refine (impl_IsPrimitive.calls a0 t103 _ A4.out).mono ?_); rintro e w' ⟨rfl, ⟨nd, rfl⟩⟩; refine ⟨_, rfl, ?_⟩))
      go_ret
      exact ⟨by first | rfl | (simp; done) | (simp [*]; done), by repeat (first | exact Drawn0.refl _ | apply Drawn0.step)⟩

/-- THE ONE PURE STATEMENT of laws_FnExactIsPrimitive: yours. -/
def laws_FnExactIsPrimitive.Pure : Prop := ∀ (a0 : ByteArray), a0.size ≤ 140737488351232 → ∃ k, laws_FnExactIsPrimitive.f k a0 = some true
theorem laws_FnExactIsPrimitive.walk (P : laws_FnExactIsPrimitive.Pure) (a0 : ByteArray) (w : World) (w0 : a0.size ≤ 140737488351232) :
    Calls Try.prog 5 #[.string a0] w fun e w' => e = .returned (.bool true) ∧ Below w.heap.size w w' := by
  obtain ⟨k, h⟩ := P a0 w0
  refine (laws_FnExactIsPrimitive.calls k a0 true w h).mono ?_
  rintro e w' ⟨rfl, hd⟩
  exact ⟨rfl, hd.below⟩

end Go.Proofs.Ythikbhnckghiiaa.PFnExactIsPrimitive
