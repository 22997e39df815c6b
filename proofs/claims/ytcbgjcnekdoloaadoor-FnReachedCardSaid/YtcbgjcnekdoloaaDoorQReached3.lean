/- Part 3 of 5 of the proof that the law FnReachedCardSaid holds: for every input that can be read the call returns true and leaves its arguments as they were; no condition but those each theorem names. -/
import Derived.Shelf.Strconv.AppendIntPublic10
import Derived.Lib.AppendIntMem
import Derived.Lib.AppendStr
import Derived.Lib.ItoaLen
import Derived.Lib.BufferRead
import Derived.Lib.Slices
import Derived.Lib.Hide
import Derived.Laws.IdiomStrings
import Derived.Laws.OwnMore
import Derived.OwnWalk
import Derived.WalkSmall
import Derived.Deep.LoopGhost
import Derived.Laws.Bits64b
import Derived.StillTailTactics
import Derived.Test.YtcbgjcnekdoloaaDoorQReachedW1
import Derived.Test.YtcbgjcnekdoloaaDoorQReached1
import Derived.Test.YtcbgjcnekdoloaaDoorQReached2
namespace Go.Proofs.YtcbgjcnekdoloaaDoor.G
open Go.RowKit Go.Proofs.YtcbgjcnekdoloaaDoorW.PrintWords Go.Proofs.YtcbgjcnekdoloaaDoorW.PrintLast Go.Proofs.YtcbgjcnekdoloaaDoorW.PrintMore Go.Proofs.YtcbgjcnekdoloaaDoor.Short
attribute [local go_sem] max2_int min2_int max_two min_two max_three min_three max_four min_four   -- for this text's walks alone
set_option linter.unusedVariables false
set_option linter.unusedSimpArgs false

def spec_l7Show.f : Nat → List (S61) → Int → Option (ByteArray)
 | 0, _, _ => none
 | k + 1, l0, a1 => if 0 ≤ a1 then (if a1 < (l0.length : Int) then (if (rd_T61 l0 a1).f0 = true then ((spec_l1Num.f k ((rd_T61 l0 a1).f1)).bind fun t103 => (some t103)) else ((spec_l7Show.f k l0 ((rd_T61 l0 a1).f2)).bind fun t104 => (if 1 + t104.size ≤ 9223372036854775807 then (if (((⟨#[40]⟩ : ByteArray) ++ t104).size : Int) > 500 then (some ((⟨#[40]⟩ : ByteArray) ++ t104)) else (if ((⟨#[40]⟩ : ByteArray) ++ t104).size + 1 ≤ 9223372036854775807 then ((spec_l7Show.f k l0 ((rd_T61 l0 a1).f3)).bind fun t105 => (if (((⟨#[40]⟩ : ByteArray) ++ t104) ++ (⟨#[32]⟩ : ByteArray)).size + t105.size ≤ 9223372036854775807 then (if ((((⟨#[40]⟩ : ByteArray) ++ t104) ++ (⟨#[32]⟩ : ByteArray)) ++ t105).size + 1 ≤ 9223372036854775807 then (some (((((⟨#[40]⟩ : ByteArray) ++ t104) ++ (⟨#[32]⟩ : ByteArray)) ++ t105) ++ (⟨#[41]⟩ : ByteArray))) else (none)) else (none))) else (none))) else (none)))) else (none)) else (none)
theorem spec_l7Show.mono_l : ∀ k, (∀ y0 y1, LeO (spec_l7Show.f k y0 y1) (spec_l7Show.f (k + 1) y0 y1))
 | 0 => fun _ _ r h => by simp [spec_l7Show.f] at h
 | k + 1 => by
  have ih0 := spec_l7Show.mono_l k
  ·intro y0 y1
   unfold spec_l7Show.f
   repeat' first
   | (with_reducible exact ih0 _ _)
   | (with_reducible exact spec_l1Num.mono _ _)
   | (with_reducible exact LeO.refl _)
   | (with_reducible exact LeO.none _)
   | (with_reducible refine LeO.ite ?_ ?_)
   | (with_reducible refine LeO.bind ?_ (fun _ => ?_))
   | exact ih0 _ _
   | exact spec_l1Num.mono _ _
   | exact LeO.none _
   | refine LeO.ite ?_ ?_
   | refine LeO.bind ?_ (fun _ => ?_)
theorem spec_l7Show.mono : ∀ a0 a1 k, LeO (spec_l7Show.f k a0 a1) (spec_l7Show.f (k + 1) a0 a1) := by
 intro a0 a1 k
 have ih0 := spec_l7Show.mono_l k
 exact ih0 a0 a1
set_option maxHeartbeats 8000000 in
set_option maxRecDepth 100000 in
theorem spec_l7Show.calls (k : Nat) : ∀ (A0 : Option Addr) (c0 : Nat) (l0 : List (S61)) (a1 : Int) (r : ByteArray) (w : World) (hr0 : Kd.C k61 w A0 l0.length l0) (hc0 : l0.length ≤ c0) (h : spec_l7Show.f k l0 a1 = some r),
  Calls Tryd.prog 21 #[.slice A0 l0.length c0, .int .i64 a1] w fun e w' => e = .returned (.string r) ∧ Below w.heap.size w w' := by
 induction k using Nat.strongRecOn with
 | _ k ih =>
 intro A0 c0 l0 a1 r w hr0 hc0 h
 cases k with
 | zero => exact absurd h (by simp [spec_l7Show.f])
 | succ k =>
 simp only [spec_l7Show.f] at h
 have hu61 := Tryd.underlying61
 have HR0 := aK hr0
 have HC0 := aK hc0
 clear hr0 hc0
 have HB := aK (Below.refl w.heap.size w)
 have H : (if 0 ≤ a1 then (if a1 < (l0.length : Int) then (if (rd_T61 l0 a1).f0 = true then ((spec_l1Num.f k ((rd_T61 l0 a1).f1)).bind fun t103 => (some t103)) else ((spec_l7Show.f k l0 ((rd_T61 l0 a1).f2)).bind fun t104 => (if 1 + t104.size ≤ 9223372036854775807 then (if (((⟨#[40]⟩ : ByteArray) ++ t104).size : Int) > 500 then (some ((⟨#[40]⟩ : ByteArray) ++ t104)) else (if ((⟨#[40]⟩ : ByteArray) ++ t104).size + 1 ≤ 9223372036854775807 then ((spec_l7Show.f k l0 ((rd_T61 l0 a1).f3)).bind fun t105 => (if (((⟨#[40]⟩ : ByteArray) ++ t104) ++ (⟨#[32]⟩ : ByteArray)).size + t105.size ≤ 9223372036854775807 then (if ((((⟨#[40]⟩ : ByteArray) ++ t104) ++ (⟨#[32]⟩ : ByteArray)) ++ t105).size + 1 ≤ 9223372036854775807 then (some (((((⟨#[40]⟩ : ByteArray) ++ t104) ++ (⟨#[32]⟩ : ByteArray)) ++ t105) ++ (⟨#[41]⟩ : ByteArray))) else (none)) else (none))) else (none))) else (none)))) else (none)) else (none)) = some r := h
 clear h
 by_cases c3 : 0 ≤ a1
 ·rw [if_pos c3] at H
  have c3b0 : decide (0 ≤ a1) = true := decide_eq_true c3
  clear c3
  by_cases c4 : a1 < (l0.length : Int)
  ·rw [if_pos c4] at H
   have c4b0 : decide (a1 < (l0.length : Int)) = true := decide_eq_true c4
   clear c4
   obtain ⟨bq5, hbq5⟩ : ∃ b_ : Bool, b_ = ((rd_T61 l0 a1).f0) := ⟨_, rfl⟩
   replace H : (if bq5 = true then ((spec_l1Num.f k ((rd_T61 l0 a1).f1)).bind fun t103 => (some t103)) else ((spec_l7Show.f k l0 ((rd_T61 l0 a1).f2)).bind fun t104 => (if 1 + t104.size ≤ 9223372036854775807 then (if (((⟨#[40]⟩ : ByteArray) ++ t104).size : Int) > 500 then (some ((⟨#[40]⟩ : ByteArray) ++ t104)) else (if ((⟨#[40]⟩ : ByteArray) ++ t104).size + 1 ≤ 9223372036854775807 then ((spec_l7Show.f k l0 ((rd_T61 l0 a1).f3)).bind fun t105 => (if (((⟨#[40]⟩ : ByteArray) ++ t104) ++ (⟨#[32]⟩ : ByteArray)).size + t105.size ≤ 9223372036854775807 then (if ((((⟨#[40]⟩ : ByteArray) ++ t104) ++ (⟨#[32]⟩ : ByteArray)) ++ t105).size + 1 ≤ 9223372036854775807 then (some (((((⟨#[40]⟩ : ByteArray) ++ t104) ++ (⟨#[32]⟩ : ByteArray)) ++ t105) ++ (⟨#[41]⟩ : ByteArray))) else (none)) else (none))) else (none))) else (none)))) = some r := by rw [← hbq5] at H; exact H
   have Nbq5 := aK hbq5
   clear hbq5
   by_cases c6 : bq5 = true
   ·subst c6
    rw [if_pos rfl] at H
    obtain ⟨t103, A7, H⟩ := oB H
    try dsimp only at H
    obtain rfl := Option.some.inj H
    have p101 : 0 ≤ (a1 : Int) := dA
    have q101 : a1 < (l0.length : Int) := dA
    obtain ⟨ad101, e101, hx101_0, hx101_1, hx101_2, hx101_3⟩ := at_T61 HR0.out a1 p101 q101
    (try rw [← Nbq5.out] at hx101_0)
    cases e101
    replace p101 := eq_true p101
    replace q101 := eq_true q101
    go_enter Tryd.func21, Tryd.ntmps21
    go_wp2_with (first | ((with_reducible refine gate_dst (N := 5) rfl ?_); refine bE (N := 5) (cs := #[.bool false, .int .i64 0, .int .i64 0, .int .i64 0]) (t := 61) ?_; intro gb102 hg w8 hbox hb; have GW102 := qw HB hg; have GE102 := qw HB hg; have BK102 := aK hbox; replace HB := qs HB hb; clear hb hbox hg; have hcz9_0 := kq40 BK102; have hcz9_1 := kq41 BK102; have hcz9_2 := kq42 BK102; have hcz9_3 := kq43 BK102; have hfz9_0 := fz BK102 0; have hfz9_1 := fz BK102 1; have hfz9_2 := fz BK102 2; have hfz9_3 := fz BK102 3) | ((with_reducible refine gate_callee (f := 37) rfl ?_); refine goesL_ (some 15) rfl rfl Tryd.func37 (by kernel_rfl) rfl #[.int .i64 ((rd_T61 l0 a1).f1)] rfl tA ?_; (with_reducible refine (spec_l1Num.calls k ((rd_T61 l0 a1).f1) t103 _ A7.out).mono ?_); rintro e w10 ⟨rfl, hb⟩; refine ⟨_, rfl, ?_⟩; have n_ := aJ (aK (blk_below (g := gb102) (o := .cells #[.bool true, .int .i64 ((rd_T61 l0 a1).f1), .int .i64 ((rd_T61 l0 a1).f2), .int .i64 ((rd_T61 l0 a1).f3)] 61 (0, 0)) (by (with_reducible repeat first | apply zN | apply zD | apply zA); refine blk_put (cs := #[.bool true, .int .i64 ((rd_T61 l0 a1).f1), .int .i64 ((rd_T61 l0 a1).f2), .int .i64 0]) ?_ 3 _ rfl; (with_reducible repeat first | apply zN | apply zD | apply zA); refine blk_put (cs := #[.bool true, .int .i64 ((rd_T61 l0 a1).f1), .int .i64 0, .int .i64 0]) ?_ 2 _ rfl; (with_reducible repeat first | apply zN | apply zD | apply zA); refine blk_put (cs := #[.bool true, .int .i64 0, .int .i64 0, .int .i64 0]) ?_ 1 _ rfl; (with_reducible repeat first | apply zN | apply zD | apply zA); refine blk_put (cs := #[.bool false, .int .i64 0, .int .i64 0, .int .i64 0]) ?_ 0 _ rfl; (with_reducible repeat first | apply zN | apply zD | apply zA); exact BK102.out) hb)) (aK (below_step (pH HB) hb)); clear BK102 HB; obtain ⟨BK102, HB⟩ := n_; (try clear hb)))
    go_ret
    exact ⟨eW, pH HB⟩
   ·replace c6 := Bool.eq_false_iff.mpr c6
    subst c6
    rw [if_neg (show ¬ (false = true) by decide)] at H
    obtain ⟨t104, A11, H⟩ := oB H
    try dsimp only at H
    by_cases c12 : 1 + t104.size ≤ 9223372036854775807
    ·rw [if_pos c12] at H
     have c12b0 := eq_true c12
     have c12b1 : decide (1 + t104.size ≤ 9223372036854775807) = true := decide_eq_true c12
     try have c12b2 : (9223372036854775807 < 1 + t104.size) = False := eq_false (Nat.not_lt.2 c12)
     by_cases c13 : (((⟨#[40]⟩ : ByteArray) ++ t104).size : Int) > 500
     ·rw [if_pos c13] at H
      have c13b0 : decide (500 < (((⟨#[40]⟩ : ByteArray) ++ t104).size : Int)) = true := decide_eq_true c13
      have c13y : ((⟨#[40]⟩ : ByteArray) ++ t104).size = 1 + t104.size := by rw [ByteArray.size_append]; rfl
      have c13z : decide (500 < 1 + (t104.size : Int)) = true := decide_eq_true (by omega)
      clear c13y
      have c13b1 : decide (500 < ((⟨#[40]⟩ : ByteArray) ++ t104).size) = true := decide_eq_true (by omega)
      clear c13
      obtain rfl := Option.some.inj H
      have p101 : 0 ≤ (a1 : Int) := dA
      have q101 : a1 < (l0.length : Int) := dA
      obtain ⟨ad101, e101, hx101_0, hx101_1, hx101_2, hx101_3⟩ := at_T61 HR0.out a1 p101 q101
      (try rw [← Nbq5.out] at hx101_0)
      cases e101
      replace p101 := eq_true p101
      replace q101 := eq_true q101
      go_enter Tryd.func21, Tryd.ntmps21
      go_wp2_with (first | ((with_reducible refine gate_dst (N := 5) rfl ?_); refine bE (N := 5) (cs := #[.bool false, .int .i64 0, .int .i64 0, .int .i64 0]) (t := 61) ?_; intro gb102 hg w14 hbox hb; have GW102 := qw HB hg; have GE102 := qw HB hg; have BK102 := aK hbox; replace HB := qs HB hb; clear hb hbox hg; have hcz15_0 := kq40 BK102; have hcz15_1 := kq41 BK102; have hcz15_2 := kq42 BK102; have hcz15_3 := kq43 BK102; have hfz15_0 := fz BK102 0; have hfz15_1 := fz BK102 1; have hfz15_2 := fz BK102 2; have hfz15_3 := fz BK102 3) | ((with_reducible refine gate_callee (f := 21) rfl ?_); refine goesL_ (some 19) rfl rfl Tryd.func21 (by kernel_rfl) rfl #[.slice (some ad101) l0.length c0, .int .i64 ((rd_T61 l0 a1).f2)] rfl tA ?_; (with_reducible refine (ih k (by omega) _ _ l0 ((rd_T61 l0 a1).f2) t104 _ ?side1 ?side2 A11.out).mono ?_); (case side1 => exact Kd.C_below HR0.out (pH HB)); (case side2 => exact HC0.out); rintro e w16 ⟨rfl, hb⟩; refine ⟨_, rfl, ?_⟩; have n_ := aJ (aK (blk_below (g := gb102) (o := .cells #[.bool false, .int .i64 ((rd_T61 l0 a1).f1), .int .i64 ((rd_T61 l0 a1).f2), .int .i64 ((rd_T61 l0 a1).f3)] 61 (0, 0)) (by (with_reducible repeat first | apply zN | apply zD | apply zA); refine blk_put (cs := #[.bool false, .int .i64 ((rd_T61 l0 a1).f1), .int .i64 ((rd_T61 l0 a1).f2), .int .i64 0]) ?_ 3 _ rfl; (with_reducible repeat first | apply zN | apply zD | apply zA); refine blk_put (cs := #[.bool false, .int .i64 ((rd_T61 l0 a1).f1), .int .i64 0, .int .i64 0]) ?_ 2 _ rfl; (with_reducible repeat first | apply zN | apply zD | apply zA); refine blk_put (cs := #[.bool false, .int .i64 0, .int .i64 0, .int .i64 0]) ?_ 1 _ rfl; (with_reducible repeat first | apply zN | apply zD | apply zA); refine blk_put (cs := #[.bool false, .int .i64 0, .int .i64 0, .int .i64 0]) ?_ 0 _ rfl; (with_reducible repeat first | apply zN | apply zD | apply zA); exact BK102.out) hb)) (aK (below_step (pH HB) hb)); clear BK102 HB; obtain ⟨BK102, HB⟩ := n_; (try clear hb)))
      go_ret
      exact ⟨eW, pH HB⟩
     ·rw [if_neg c13] at H
      have c13b0 : decide (500 < (((⟨#[40]⟩ : ByteArray) ++ t104).size : Int)) = false := decide_eq_false c13
      have c13y : ((⟨#[40]⟩ : ByteArray) ++ t104).size = 1 + t104.size := by rw [ByteArray.size_append]; rfl
      have c13z : decide (500 < 1 + (t104.size : Int)) = false := decide_eq_false (by omega)
      clear c13y
      have c13b1 : decide (500 < ((⟨#[40]⟩ : ByteArray) ++ t104).size) = false := decide_eq_false (by omega)
      clear c13
      by_cases c17 : ((⟨#[40]⟩ : ByteArray) ++ t104).size + 1 ≤ 9223372036854775807
      ·rw [if_pos c17] at H
       have c17b0 := eq_true c17
       have c17b1 : decide (((⟨#[40]⟩ : ByteArray) ++ t104).size + 1 ≤ 9223372036854775807) = true := decide_eq_true c17
       try have c17b2 : (9223372036854775807 < ((⟨#[40]⟩ : ByteArray) ++ t104).size + 1) = False := eq_false (Nat.not_lt.2 c17)
       have c17b3 : (9223372036854775807 < 1 + t104.size + 1) = False := by have e := c17b2; simp only [ByteArray.size_append] at e; exact e
       obtain ⟨t105, A18, H⟩ := oB H
       try dsimp only at H
       by_cases c19 : (((⟨#[40]⟩ : ByteArray) ++ t104) ++ (⟨#[32]⟩ : ByteArray)).size + t105.size ≤ 9223372036854775807
       ·rw [if_pos c19] at H
        have c19b0 := eq_true c19
        have c19b1 : decide ((((⟨#[40]⟩ : ByteArray) ++ t104) ++ (⟨#[32]⟩ : ByteArray)).size + t105.size ≤ 9223372036854775807) = true := decide_eq_true c19
        try have c19b2 : (9223372036854775807 < (((⟨#[40]⟩ : ByteArray) ++ t104) ++ (⟨#[32]⟩ : ByteArray)).size + t105.size) = False := eq_false (Nat.not_lt.2 c19)
        have c19b3 : (9223372036854775807 < 1 + t104.size + 1 + t105.size) = False := by have e := c19b2; simp only [ByteArray.size_append] at e; exact e
        by_cases c20 : ((((⟨#[40]⟩ : ByteArray) ++ t104) ++ (⟨#[32]⟩ : ByteArray)) ++ t105).size + 1 ≤ 9223372036854775807
        ·rw [if_pos c20] at H
         have c20b0 := eq_true c20
         have c20b1 : decide (((((⟨#[40]⟩ : ByteArray) ++ t104) ++ (⟨#[32]⟩ : ByteArray)) ++ t105).size + 1 ≤ 9223372036854775807) = true := decide_eq_true c20
         try have c20b2 : (9223372036854775807 < ((((⟨#[40]⟩ : ByteArray) ++ t104) ++ (⟨#[32]⟩ : ByteArray)) ++ t105).size + 1) = False := eq_false (Nat.not_lt.2 c20)
         have c20b3 : (9223372036854775807 < 1 + t104.size + 1 + t105.size + 1) = False := by have e := c20b2; simp only [ByteArray.size_append] at e; exact e
         obtain rfl := Option.some.inj H
         have p101 : 0 ≤ (a1 : Int) := dA
         have q101 : a1 < (l0.length : Int) := dA
         obtain ⟨ad101, e101, hx101_0, hx101_1, hx101_2, hx101_3⟩ := at_T61 HR0.out a1 p101 q101
         (try rw [← Nbq5.out] at hx101_0)
         cases e101
         replace p101 := eq_true p101
         replace q101 := eq_true q101
         go_enter Tryd.func21, Tryd.ntmps21
         go_wp2_with (first | ((with_reducible refine gate_dst (N := 5) rfl ?_); refine bE (N := 5) (cs := #[.bool false, .int .i64 0, .int .i64 0, .int .i64 0]) (t := 61) ?_; intro gb102 hg w21 hbox hb; have GW102 := qw HB hg; have GE102 := qw HB hg; have BK102 := aK hbox; replace HB := qs HB hb; clear hb hbox hg; have hcz22_0 := kq40 BK102; have hcz22_1 := kq41 BK102; have hcz22_2 := kq42 BK102; have hcz22_3 := kq43 BK102; have hfz22_0 := fz BK102 0; have hfz22_1 := fz BK102 1; have hfz22_2 := fz BK102 2; have hfz22_3 := fz BK102 3) | ((with_reducible refine gate_callee (f := 21) rfl ?_); refine goesL_ (some 19) rfl rfl Tryd.func21 (by kernel_rfl) rfl #[.slice (some ad101) l0.length c0, .int .i64 ((rd_T61 l0 a1).f2)] rfl tA ?_; (with_reducible refine (ih k (by omega) _ _ l0 ((rd_T61 l0 a1).f2) t104 _ ?side1 ?side2 A11.out).mono ?_); (case side1 => exact Kd.C_below HR0.out (pH HB)); (case side2 => exact HC0.out); rintro e w23 ⟨rfl, hb⟩; refine ⟨_, rfl, ?_⟩; have n_ := aJ (aK (blk_below (g := gb102) (o := .cells #[.bool false, .int .i64 ((rd_T61 l0 a1).f1), .int .i64 ((rd_T61 l0 a1).f2), .int .i64 ((rd_T61 l0 a1).f3)] 61 (0, 0)) (by (with_reducible repeat first | apply zN | apply zD | apply zA); refine blk_put (cs := #[.bool false, .int .i64 ((rd_T61 l0 a1).f1), .int .i64 ((rd_T61 l0 a1).f2), .int .i64 0]) ?_ 3 _ rfl; (with_reducible repeat first | apply zN | apply zD | apply zA); refine blk_put (cs := #[.bool false, .int .i64 ((rd_T61 l0 a1).f1), .int .i64 0, .int .i64 0]) ?_ 2 _ rfl; (with_reducible repeat first | apply zN | apply zD | apply zA); refine blk_put (cs := #[.bool false, .int .i64 0, .int .i64 0, .int .i64 0]) ?_ 1 _ rfl; (with_reducible repeat first | apply zN | apply zD | apply zA); refine blk_put (cs := #[.bool false, .int .i64 0, .int .i64 0, .int .i64 0]) ?_ 0 _ rfl; (with_reducible repeat first | apply zN | apply zD | apply zA); exact BK102.out) hb)) (aK (below_step (pH HB) hb)); clear BK102 HB; obtain ⟨BK102, HB⟩ := n_; (try clear hb); have hcz24_0 := kq40 BK102; have hcz24_1 := kq41 BK102; have hcz24_2 := kq42 BK102; have hcz24_3 := kq43 BK102; have hfz24_0 := fz BK102 0; have hfz24_1 := fz BK102 1; have hfz24_2 := fz BK102 2; have hfz24_3 := fz BK102 3) | ((with_reducible refine gate_callee (f := 21) rfl ?_); refine goesL_ (some 30) rfl rfl Tryd.func21 (by kernel_rfl) rfl #[.slice (some ad101) l0.length c0, .int .i64 ((rd_T61 l0 a1).f3)] rfl tA ?_; (with_reducible refine (ih k (by omega) _ _ l0 ((rd_T61 l0 a1).f3) t105 _ ?side1 ?side2 A18.out).mono ?_); (case side1 => exact sC (Kd.C_below HR0.out HB.out)); (case side2 => exact HC0.out); rintro e w25 ⟨rfl, hb⟩; refine ⟨_, rfl, ?_⟩; replace BK102 := qb BK102 hb; replace HB := qs HB hb; (try clear hb)))
         go_ret
         exact ⟨eW, pH HB⟩
        ·rw [if_neg c20] at H
         exact absurd H (by simp)
       ·rw [if_neg c19] at H
        exact absurd H (by simp)
      ·rw [if_neg c17] at H
       exact absurd H (by simp)
    ·rw [if_neg c12] at H
     exact absurd H (by simp)
  ·rw [if_neg c4] at H
   exact absurd H (by simp)
 ·rw [if_neg c3] at H
  exact absurd H (by simp)

end Go.Proofs.YtcbgjcnekdoloaaDoor.G

namespace Go.Proofs.YtcbgjcnekdoloaaDoor.G
open Go.RowKit Go.Shelf Go.Proofs.YtcbgjcnekdoloaaDoorW.PrintWords
set_option linter.unusedVariables false

def atoiNum (s : ByteArray) : Int := match Lib.atoiAll s.data.toList with
  | .ok v => v
  | .range => Lib.atoiSat s.data.toList
  | _ => 0
def atoiErr (s : ByteArray) : Option Int := match Lib.atoiAll s.data.toList with
  | .ok _ => none
  | .range => some 1
  | _ => some 2
def ErrIs (r : Option Int) (ev : Value) : Prop := (r = none ∧ ev = .nilIface) ∨ (r ≠ none ∧ ∃ t p, ev = .iface t p)
def strconv_Atoi_40.f (a0 : ByteArray) : Option (Int × Option Int) := if a0.size ≤ 281474976710656 then some (atoiNum a0, atoiErr a0) else none
theorem strconv_Atoi_40.calls (a0 : ByteArray) (r1 : Int) (r2 : Option Int) (w : World) (h : strconv_Atoi_40.f a0 = some (r1, r2)) (hE : LibMet w) :
    Calls Tryd.prog 40 #[.string a0] w fun e w' => ∃ ev, e = .returned (.tuple #[.int .i64 r1, ev]) ∧ ErrIs r2 ev ∧ Below w.heap.size w w' := by
  unfold strconv_Atoi_40.f at h
  by_cases c : a0.size ≤ 281474976710656
  case neg => rw [if_neg c] at h; cases h
  rw [if_pos c] at h
  injection h with h
  simp only [Prod.mk.injEq] at h
  obtain ⟨rfl, rfl⟩ := h
  unfold atoiNum atoiErr
  cases ha : Lib.atoiAll a0.data.toList with
  | ok v =>
    refine (Any.strconv_Atoi_ok Tryd.laysC172 a0 (by omega) v ha w).mono ?_
    rintro e w' ⟨rfl, hw⟩
    refine ⟨_, rfl, .inl ⟨rfl, rfl⟩, ?_⟩
    rcases hw with rfl | ⟨t, rfl⟩
    · exact Below.refl _ _
    · exact Lib.bytesWorld_below _ _ _
  | range =>
    obtain ⟨tp, p, hv⟩ := hE.range
    refine (Any.strconv_Atoi_range_var Tryd.laysC172 a0 c ha tp p w hv).mono ?_
    rintro e w' ⟨N, rfl, _, _, hb⟩
    exact ⟨_, rfl, .inr ⟨by simp, _, _, rfl⟩, hb⟩
  | _ =>
    obtain ⟨tp, p, hv⟩ := hE.wrong
    refine (Any.strconv_Atoi_syntax_var Tryd.laysC172 a0 c ha tp p w hv).mono ?_
    rintro e w' ⟨N, rfl, _, _, hb⟩
    exact ⟨_, rfl, .inr ⟨by simp, _, _, rfl⟩, hb⟩
theorem strconv_Atoi_40.callsN (a0 : ByteArray) (r1 : Int) (w : World) (h : strconv_Atoi_40.f a0 = some (r1, none)) (hE : LibMet w) :
    Calls Tryd.prog 40 #[.string a0] w fun e w' => e = .returned (.tuple #[.int .i64 r1, .nilIface]) ∧ Below w.heap.size w w' := by
  refine (strconv_Atoi_40.calls a0 r1 none w h hE).mono ?_
  rintro e w' ⟨ev, rfl, he, hb⟩
  rcases he with ⟨_, rfl⟩ | ⟨h, _⟩
  · exact ⟨rfl, hb⟩
  · exact absurd rfl h
theorem strconv_Atoi_40.callsS (a0 : ByteArray) (r1 c : Int) (w : World) (h : strconv_Atoi_40.f a0 = some (r1, some c)) (hE : LibMet w) :
    Calls Tryd.prog 40 #[.string a0] w fun e w' => ∃ t p, e = .returned (.tuple #[.int .i64 r1, .iface t p]) ∧ Below w.heap.size w w' := by
  refine (strconv_Atoi_40.calls a0 r1 (some c) w h hE).mono ?_
  rintro e w' ⟨ev, rfl, he, hb⟩
  rcases he with ⟨h, _⟩ | ⟨_, t, p, rfl⟩
  · cases h
  · exact ⟨t, p, rfl, hb⟩
end Go.Proofs.YtcbgjcnekdoloaaDoor.G

namespace Go.Proofs
open Go.Shelf
def Tryd.laysM176_ren : Go.Shelf.Ren := ⟨fun | 176 => 41 | 249 => 53 | 288 => 65 | 283 => 69 | 284 => 70 | 285 => 71 | 286 => 72 | 129 => 79 | 317 => 78 | 318 => 80 | 319 => 81 | 320 => 82 | 337 => 85 | 338 => 86 | n => n, fun | 37 => 35 | 2 => 2 | 3 => 3 | 53 => 74 | 4 => 4 | 9 => 9 | 171 => 104 | 0 => 0 | 173 => 107 | 212 => 118 | 51 => 119 | 5 => 5 | 20 => 20 | 213 => 120 | 46 => 111 | 232 => 129 | 233 => 130 | n => n, fun | 17 => 2 | 18 => 3 | 19 => 4 | n => n⟩
theorem Tryd.laysM176 : Go.Proofs.LaysM.n176 Tryd.prog Tryd.laysM176_ren := {
 mixed := by kernel_rfl
 f129 := Tryd.func79.trans (congrArg some (by kernel_rfl))
 f176 := Tryd.func41.trans (congrArg some (by kernel_rfl))
 f249 := Tryd.func53.trans (congrArg some (by kernel_rfl))
 f283 := Tryd.func69.trans (congrArg some (by kernel_rfl))
 f284 := Tryd.func70.trans (congrArg some (by kernel_rfl))
 f285 := Tryd.func71.trans (congrArg some (by kernel_rfl))
 f286 := Tryd.func72.trans (congrArg some (by kernel_rfl))
 f288 := Tryd.func65.trans (congrArg some (by kernel_rfl))
 f317 := Tryd.func78.trans (congrArg some (by kernel_rfl))
 f318 := Tryd.func80.trans (congrArg some (by kernel_rfl))
 f319 := Tryd.func81.trans (congrArg some (by kernel_rfl))
 f320 := Tryd.func82.trans (congrArg some (by kernel_rfl))
 f337 := Tryd.func85.trans (congrArg some (by kernel_rfl))
 f338 := Tryd.func86.trans (congrArg some (by kernel_rfl))
 t0 := Tryd.underlying0
 a0 := Tryd.isAgg0
 z0 := Tryd.sizeOf0
 v0 := Tryd.zeroValue0
 t2 := Tryd.underlying2
 a2 := Tryd.isAgg2
 z2 := Tryd.sizeOf2
 v2 := Tryd.zeroValue2
 t3 := Tryd.underlying3
 a3 := Tryd.isAgg3
 z3 := Tryd.sizeOf3
 v3 := Tryd.zeroValue3
 t4 := Tryd.underlying4
 a4 := Tryd.isAgg4
 z4 := Tryd.sizeOf4
 v4 := Tryd.zeroValue4
 t5 := Tryd.underlying5
 a5 := Tryd.isAgg5
 z5 := Tryd.sizeOf5
 v5 := Tryd.zeroValue5
 t9 := Tryd.underlying9
 a9 := Tryd.isAgg9
 z9 := Tryd.sizeOf9
 v9 := Tryd.zeroValue9
 t20 := Tryd.underlying20
 a20 := Tryd.isAgg20
 z20 := Tryd.sizeOf20
 v20 := Tryd.zeroValue20
 t37 := Tryd.underlying35
 a37 := Tryd.isAgg35
 z37 := Tryd.sizeOf35
 v37 := Tryd.zeroValue35
 t46 := Tryd.underlying111
 a46 := Tryd.isAgg111
 z46 := Tryd.sizeOf111
 v46 := Tryd.zeroValue111
 t51 := Tryd.underlying119
 a51 := Tryd.isAgg119
 z51 := Tryd.sizeOf119
 v51 := Tryd.zeroValue119
 t53 := Tryd.underlying74
 a53 := Tryd.isAgg74
 z53 := Tryd.sizeOf74
 v53 := Tryd.zeroValue74
 t171 := Tryd.underlying104
 a171 := Tryd.isAgg104
 z171 := Tryd.sizeOf104
 v171 := Tryd.zeroValue104
 t173 := Tryd.underlying107
 a173 := Tryd.isAgg107
 z173 := Tryd.sizeOf107
 v173 := Tryd.zeroValue107
 t212 := Tryd.underlying118
 a212 := Tryd.isAgg118
 z212 := Tryd.sizeOf118
 v212 := Tryd.zeroValue118
 t213 := Tryd.underlying120
 a213 := Tryd.isAgg120
 z213 := Tryd.sizeOf120
 t232 := Tryd.underlying129
 a232 := Tryd.isAgg129
 z232 := Tryd.sizeOf129
 v232 := Tryd.zeroValue129
 t233 := Tryd.underlying130
 a233 := Tryd.isAgg130
 z233 := Tryd.sizeOf130
 v233 := Tryd.zeroValue130
 g17 := by kernel_rfl
 g18 := by kernel_rfl
 g19 := by kernel_rfl
 i0 := by kernel_rfl
 i2 := by kernel_rfl
 i3 := by kernel_rfl
 i4 := by kernel_rfl
 i5 := by kernel_rfl
 i9 := by kernel_rfl
 i20 := by kernel_rfl
 i37 := by kernel_rfl
 i46 := by kernel_rfl
 i51 := by kernel_rfl
 i53 := by kernel_rfl
 i171 := by kernel_rfl
 i173 := by kernel_rfl
 i212 := by kernel_rfl
 i232 := by kernel_rfl
 i233 := by kernel_rfl
 m17 := by kernel_rfl
 m18 := by kernel_rfl
 m19 := by kernel_rfl }
end Go.Proofs
namespace Go.Proofs.YtcbgjcnekdoloaaDoor.G
open Go.RowKit Go.Shelf Go.Proofs.YtcbgjcnekdoloaaDoorW.PrintWords Go.Proofs.YtcbgjcnekdoloaaDoorW.PrintLast Go.Proofs.YtcbgjcnekdoloaaDoorW.PrintMore Go.Proofs.YtcbgjcnekdoloaaDoor.Short
set_option linter.unusedVariables false
set_option linter.unusedSimpArgs false

def Bt (l : List UInt8) : ByteArray := ⟨l.toArray⟩
def impl_showCell.l0 : Nat → List S61 → List UInt8 → List ByteArray → Option (List UInt8)
  | 0, _, _, _ => none
  | _ + 1, _, out, [] => some out
  | k + 1, l, out, s :: st =>
    if out.length ≤ 500 then
      (if s.size ≤ 1000 ∧ st.length ≤ 1000000 then
        (if (atoiErr s).isSome = true then impl_showCell.l0 k l (out ++ s.data.toList) st
        else if 0 ≤ atoiNum s ∧ atoiNum s < (l.length : Int) then
          (if (rd_T61 l (atoiNum s)).f0 = true then
            (if -9223372036854775808 ≤ (rd_T61 l (atoiNum s)).f1 ∧ (rd_T61 l (atoiNum s)).f1 ≤ 9223372036854775807 then impl_showCell.l0 k l (out ++ Lib.itoa (rd_T61 l (atoiNum s)).f1) st else none)
          else if (0 ≤ (rd_T61 l (atoiNum s)).f2 ∧ (rd_T61 l (atoiNum s)).f2 ≤ 9223372036854775807) ∧ (0 ≤ (rd_T61 l (atoiNum s)).f3 ∧ (rd_T61 l (atoiNum s)).f3 ≤ 9223372036854775807) then
            impl_showCell.l0 k l out (Bt [40] :: Bt (Lib.decDigits (rd_T61 l (atoiNum s)).f2.toNat) :: Bt [32] :: Bt (Lib.decDigits (rd_T61 l (atoiNum s)).f3.toNat) :: Bt [41] :: st)
          else none)
        else none)
      else none)
    else some out
def impl_showCell.f (k : Nat) (l0 : List (S61)) (a1 : Int) : Option (ByteArray × Bool) :=
  if 0 ≤ a1 ∧ a1 ≤ 9223372036854775807 then (impl_showCell.l0 k l0 [] [Bt (Lib.decDigits a1.toNat)]).bind fun out => if 500 < out.length then some ((⟨#[]⟩ : ByteArray), false) else some (Bt out, true)
  else none
theorem rows_ne {w : World} {b b' : Nat} {e e' : TypeId} {s s' : Nat} {v v' : Value} {n n' : Nat} {xs xs' : List Value} (h : w.ownsRow b e s v n xs) (h' : w.ownsRow b' e' s' v' n' xs') (hne : e ≠ e') : v.ownBlock = none ∨ v.ownBlock ≠ v'.ownBlock := by
  rcases h.2 with ⟨rfl, _⟩ | ⟨g, cap, cur, rfl, _, hg, _⟩
  · exact .inl rfl
  · refine .inr fun e1 => ?_
    rcases h'.2 with ⟨rfl, _⟩ | ⟨g', cap', cur', rfl, _, hg', _⟩
    · cases e1
    · simp only [Value.ownBlock, Option.some.injEq] at e1
      subst e1
      rw [hg] at hg'
      injection hg' with hg'
      injection hg' with _ e2 _
      exact hne e2
theorem row_others {w w' : World} {b : Nat} {e e' : TypeId} {s : Nat} {v : Value} {n : Nat} {xs : List Value} (h : w.ownsRow b e s v n xs) (hk : Lib.OthersKept e' none w w') (hne : e ≠ e') : w'.ownsRow b e s v n xs := by
  refine ⟨h.1, ?_⟩
  rcases h.2 with h2 | ⟨g, cap, cur, rfl, hb, hg, h3⟩
  · exact .inl h2
  · refine .inr ⟨g, cap, cur, rfl, hb, hk g _ hg (by simp) (fun c fz e1 => ?_), h3⟩
    injection e1 with _ e2 _
    exact hne e2
theorem row_below {B : Nat} {e : TypeId} {k : Nat} {v : Value} {n : Nat} {xs : List Value} {w w' : World} (h : w.ownsRow B e k v n xs) (hb : Below w.heap.size w w') : w'.ownsRow B e k v n xs := by
  refine ⟨h.1, ?_⟩
  rcases h.2 with h2 | ⟨g, cap, cur, rfl, hB, hg, h3⟩
  · exact .inl h2
  · refine .inr ⟨g, cap, cur, rfl, hB, ?_, h3⟩
    rw [hb.block g (Array.getElem?_eq_some_iff.1 hg).1]; exact hg
theorem Met.of_below {B : Nat} {w w' : World} (h : Met w) (hB : B = w.heap.size) (hb : Below B w w') : Met w' := h.below (hB ▸ hb)
theorem row_shape {w : World} {base : Nat} {e : TypeId} {size : Nat} {v : Value} {n : Nat} {xs : List Value} (h : w.ownsRow base e size v n xs) : ∃ a c, v = .slice a n c := by
  rcases h.2 with ⟨rfl, rfl⟩ | ⟨g, cap, cur, rfl, _⟩
  · exact ⟨_, _, rfl⟩
  · exact ⟨_, _, rfl⟩
theorem str_cells (l : List UInt8) (s : ByteArray) : Lib.byteCells l ++ Lib.strCells s = Lib.byteCells (l ++ s.data.toList) := by simp [Lib.byteCells, Lib.strCells]
theorem size_list (l : List UInt8) (s : ByteArray) : (l ++ s.data.toList).length = l.length + s.size := by rw [List.length_append, Array.length_toList]; rfl
theorem bytes_app (a b : List UInt8) : Lib.byteCells a ++ Lib.byteCells b = Lib.byteCells (a ++ b) := by simp [Lib.byteCells]
theorem inf5 : (Tryd.prog.info? 5).map (fun i => (i.zero, i.size, i.bytes)) = some (some (.int .u8 0), 1, 1) := by kernel_rfl
theorem inf9 : (Tryd.prog.info? 9).map (fun i => (i.zero, i.size, i.bytes)) = some (some (.string ⟨#[]⟩), 1, 16) := by kernel_rfl
theorem atoi_f (s : ByteArray) (h : s.size ≤ 1000) : strconv_Atoi_40.f s = some (atoiNum s, atoiErr s) := by unfold strconv_Atoi_40.f; rw [if_pos (by omega)]

theorem itoa_f (n : Int) (h : 0 ≤ n ∧ n ≤ 9223372036854775807) : strconv_Itoa_39.f n = some (Bt (Lib.decDigits n.toNat)) := by unfold strconv_Itoa_39.f; rw [if_pos h]; rfl
theorem five_cells (w : World) (a b c d e : Value) (t : TypeId) : ∀ j u, [a, b, c, d, e][j]? = some u → (w.alloc (.cells #[a, b, c, d, e] t)).cell? ((⟨w.heap.size, 0, none⟩ : Addr).add j) = some u := by
  intro j u hj
  match j, hj with
  | 0, hj => simp at hj; subst hj; simp [Addr.add]
  | 1, hj => simp at hj; subst hj; simp [Addr.add]
  | 2, hj => simp at hj; subst hj; simp [Addr.add]
  | 3, hj => simp at hj; subst hj; simp [Addr.add]
  | 4, hj => simp at hj; subst hj; simp [Addr.add]
  | j + 5, hj => simp at hj
def impl_showCell.T6 : Bool × List (List Nat × List Nat) := (true, [([], []), ([], []), ([], []), ([1, 2], [1, 2]), ([3], [3]), ([4], [4]), ([5], [5]), ([], []), ([], []), ([7, 8], [7, 8]), ([9], [9]), ([10], [10]), ([11, 6], [11]), ([6, 12], [6, 12]), ([0, 13, 12], [0, 13]), ([14, 14, 0, 1, 2, 3, 4, 5, 6, 7, 8, 9, 10, 11, 12, 13, 14], [0, 14])])
def impl_showCell.B6 : List Nat := [0, 0, 0, 6, 14, 30, 62, 0, 0, 384, 896, 1920, 4094, 8190, 16383, 32767]
theorem impl_showCell.tab6 : rtab .any (opsOf Tryd.f25 6) = impl_showCell.T6 := by kernel_rfl
theorem impl_showCell.bits6 : waitsOk impl_showCell.T6.2 impl_showCell.B6 = true := by kernel_rfl
set_option maxHeartbeats 8000000 in
set_option maxRecDepth 100000 in
theorem impl_showCell.calls (k : Nat) (A0 : Option Addr) (c0 : Nat) (l0 : List (S61)) (a1 : Int) (r1 : ByteArray) (r2 : Bool) (w : World) (hr0 : Kd.C k61 w A0 l0.length l0) (hc0 : l0.length ≤ c0) (h : impl_showCell.f k l0 a1 = some (r1, r2)) (hE : Met w) :
    Calls Tryd.prog 25 #[.slice A0 l0.length c0, .int .i64 a1] w fun e w' => e = .returned (.tuple #[.string r1, .bool r2]) ∧ Below w.heap.size w w' := by
  have hu61 := Tryd.underlying61
  obtain ⟨i5, hi5, hz50, hz51, hz52⟩ := info_parts inf5
  obtain ⟨i9, hi9, hz90, hz91, hz92⟩ := info_parts inf9
  have HR0 := aK hr0
  have HC0 := aK hc0
  have HE := aK hE
  clear hr0 hc0 hE
  unfold impl_showCell.f at h
  by_cases ha : 0 ≤ a1 ∧ a1 ≤ 9223372036854775807
  case neg => rw [if_neg ha] at h; cases h
  rw [if_pos ha] at h
  have hI : strconv_Itoa_39.f a1 = some (Bt (Lib.decDigits a1.toNat)) := by unfold strconv_Itoa_39.f; rw [if_pos ha]; rfl
  replace h := Option.bind_eq_some_iff.mp h
  obtain ⟨out, h1, h2⟩ := h
  have H1 := aK h1
  have H2 := aK h2
  have HI := aK hI
  obtain ⟨z0, Z0⟩ : ∃ z0, z0 = Bt (Lib.decDigits a1.toNat) := ⟨_, rfl⟩
  rw [← Z0] at HI H1
  clear h1 h2 hI Z0
  go_enter Tryd.func25, Tryd.ntmps25
  go_wp2_with (go_at_call 39; refine (strconv_Itoa_39.calls a1 _ _ HI.out (HE.out.below ((Below.refl _ _).alloc (Nat.le_refl _) _)).tab).mono ?_; rintro e w1 ⟨rfl, hb1⟩)
  have hrow6 : ((w1.alloc (.cells #[.string z0] 9))).ownsRow w.heap.size 5 1 (.slice (some ⟨w.heap.size, 0, none⟩) 0 0) 0 [] := (row_below (World.ownsRow_lit (base := w.heap.size) (e := 5) (size := 1) w #[] 0 (Nat.le_refl _) (by unfold maxLen; omega) rfl) hb1).alloc _
  have hB1 : Below w.heap.size w w1 := ((Below.refl _ _).alloc (Nat.le_refl _) (.cells #[] 5)).trans (hb1.mono (by simp))
  have hrow7 : ((w1.alloc (.cells #[.string z0] 9))).ownsRow w.heap.size 9 1 (.slice (some ⟨w1.heap.size, 0, none⟩) 1 1) 1 [.string z0] := World.ownsRow_lit (base := w.heap.size) (e := 9) (size := 1) w1 #[.string z0] 1 hB1.size (by unfold maxLen; omega) rfl
  have hB2 : Below w.heap.size w (w1.alloc (.cells #[.string z0] 9)) := hB1.alloc hB1.size _
  go_loopg [6, 7] k (fun kq v6 v7 w' => ∃ (out1 : List UInt8) (st : List ByteArray) (A6 A7 : Option Addr) (c6 c7 : Nat), v6 = .slice A6 out1.length c6 ∧ v7 = .slice A7 st.length c7 ∧ Aside0 (w'.ownsRow w.heap.size 5 1 (.slice A6 out1.length c6) out1.length (Lib.byteCells out1)) ∧ Aside0 (w'.ownsRow w.heap.size 9 1 (.slice A7 st.length c7) st.length (st.reverse.map Value.string)) ∧ Aside0 (impl_showCell.l0 kq l0 out1 st = some out) ∧ Aside0 (kq ≤ k) ∧ Aside0 (Below w.heap.size w w'))
  case atStart => exact ⟨[], [z0], _, _, _, _, rfl, rfl, ⟨hrow6⟩, ⟨hrow7⟩, H1, ⟨Nat.le_refl _⟩, ⟨hB2⟩⟩
  case round =>
    clear hrow6 hrow7 hB1 hB2 hb1 H1 HI
    obtain ⟨out1, st, A6, A7, c6, c7, rfl, rfl, HO6, HO7, HA, HK, HB⟩ := hrel
    cases gk with
    | zero => exact absurd HA.out (by simp [impl_showCell.l0])
    | succ k1 =>
      cases st with
      | nil =>
        have e1 : out1 = out := by have := HA.out; simp only [impl_showCell.l0, Option.some.injEq] at this; exact this
        subst e1
        have H2' := H2.out
        by_cases c : 500 < out1.length
        · rw [if_pos c] at H2'
          simp only [Option.some.injEq, Prod.mk.injEq] at H2'
          obtain ⟨rfl, rfl⟩ := H2'
          have c1 : decide (500 < (out1.length : Int)) = true := decide_eq_true (by omega)
          simp only [List.length_nil]
          go_wp2
          go_ret2
          exact ⟨rfl, HB.out⟩
        · rw [if_neg c] at H2'
          simp only [Option.some.injEq, Prod.mk.injEq] at H2'
          obtain ⟨rfl, rfl⟩ := H2'
          have c1 : decide (500 < (out1.length : Int)) = false := decide_eq_false (by omega)
          rcases HO6.out.2 with ⟨h0, _⟩ | ⟨g, cap, cur, hv, _⟩
          · simp only [Value.slice.injEq] at h0
            obtain ⟨rfl, h0, rfl⟩ := h0
            obtain rfl := List.eq_nil_of_length_eq_zero h0
            have hcv := Lib.run_convert_nil_bytes (P := Tryd.prog) wr 35 9 5 0 Tryd.underlying35 Tryd.underlying5 Tryd.underlying9
            simp only [List.length_nil]
            go_wp2
            go_ret2
            exact ⟨rfl, HB.out⟩
          · simp only [Value.slice.injEq] at hv
            obtain ⟨rfl, _, rfl⟩ := hv
            have hcv := run_convert_bytes_back (P := Tryd.prog) wr 35 9 5 ⟨g, 0, none⟩ c6 out1 Tryd.underlying35 Tryd.underlying5 Tryd.underlying9 (fun j hj => HO6.out.cells (g := g) rfl j _ (by simp [Lib.byteCells, hj]))
            simp only [List.length_nil]
            go_wp2
            go_ret2
            exact ⟨rfl, HB.out⟩
      | cons s st =>
        have HH := HA.out
        rw [impl_showCell.l0] at HH
        by_cases c : out1.length ≤ 500
        case neg =>
          rw [if_neg c, Option.some.injEq] at HH
          subst HH
          have H2' := H2.out
          rw [if_pos (by omega)] at H2'
          simp only [Option.some.injEq, Prod.mk.injEq] at H2'
          obtain ⟨rfl, rfl⟩ := H2'
          have c1 : decide (500 < (out1.length : Int)) = true := decide_eq_true (by omega)
          have c2 : decide ((out1.length : Int) ≤ 500) = false := decide_eq_false (by omega)
          have c3 : decide ((0 : Int) < (st.length : Int) + 1) = true := decide_eq_true (by omega)
          have c4 : decide ((0 : Int) < ((st.length + 1 : Nat) : Int)) = true := decide_eq_true (by omega)
          simp only [List.length_cons]
          go_wp2
          go_ret2
          exact ⟨rfl, HB.out⟩
        rw [if_pos c] at HH
        by_cases cs : s.size ≤ 1000 ∧ st.length ≤ 1000000
        case neg => rw [if_neg cs] at HH; cases HH
        rw [if_pos cs] at HH
        have c2 : decide ((out1.length : Int) ≤ 500) = true := decide_eq_true (by omega)
        have c3 : decide ((0 : Int) < (st.length : Int) + 1) = true := decide_eq_true (by omega)
        have c4 : decide ((0 : Int) < ((st.length + 1 : Nat) : Int)) = true := decide_eq_true (by omega)
        rcases HO7.out.2 with ⟨h0, _⟩ | ⟨g7, cap7, cur7, hv, hg7, _⟩
        · simp at h0
        simp only [Value.slice.injEq] at hv
        obtain ⟨rfl, _, rfl⟩ := hv
        simp only [List.length_cons] at HO7 ⊢
        have ct : wr.cell? ⟨g7, st.length, none⟩ = some (.string s) := (HO7.out.cellAt st.length (by omega)).trans (by simp)
        have HP := aK (ownsRow_pop (size := 1) (n := st.length) (xs := st.reverse.map Value.string) (last := [.string s]) (by simp) (by simpa using HO7.out))
        have ix0 : (0 : Int) ≤ (st.length : Int) := by omega
        have ix1 : (st.length : Int) < (st.length : Int) + 1 := by omega
        have ix2 : (st.length : Int) < ((st.length + 1 : Nat) : Int) := by omega
        have ix3 : st.length < st.length + 1 := by omega
        have hwr : IntKind.i64.wrap (st.length : Int) = (st.length : Int) := by rw [IntKind.wrap_i64]; omega
        have hcap : st.length ≤ c7 := by
          rcases HO7.out.2 with ⟨h0, _⟩ | ⟨g, cap, cur, hv, _, _, hn, _⟩
          · simp at h0
          · simp only [Value.slice.injEq] at hv
            omega
        have hEr := HE.out.below HB.out
        have HS := aK cs
        have C := aK c
        have hHw := HB.out.size
        clear cs c
        by_cases ce : (atoiErr s).isSome = true
        · rw [if_pos ce] at HH
          obtain ⟨ec, hec⟩ := Option.isSome_iff_exists.mp ce
          have hA := atoi_f s HS.out.1
          rw [hec] at hA
          have HHA := aK HH
          clear HH
          go_wp2_with (first
            | (go_at_call 40; refine (strconv_Atoi_40.callsS s _ ec _ hA hEr.lib).mono ?_; rintro e w2 ⟨tt, pp, rfl, hb2⟩)
            | (at_builtin; refine Lib.wpList_append_own_string _ rfl _ _ 35 9 rfl w.heap.size 5 i5 Tryd.underlying35 Tryd.underlying9 hi5 hz50 hz51 hz52 _ _ _ rfl (row_below HO6.out hb2) s rfl (by have := HS.out.1; have := C.out; unfold maxLen; omega) (by have := HS.out.1; have := C.out; omega) (by have := hb2.size; omega) ?_; intro v' w3 hown' hgrow3 hnil3; obtain ⟨A6', c6', rfl⟩ := row_shape hown'; rw [str_cells, ← size_list] at hown'))
          have hB2 := HB.out.trans (hb2.mono hHw)
          have hB3 := hB2.grown hgrow3 hB2.size (fun k hk => ((row_below HO6.out hb2).lt k hk).1)
          have hO7 := (row_below HP.out hb2).kept hgrow3 (rows_ne (row_below HP.out hb2) (row_below HO6.out hb2) (by decide))
          go_roundg k1
          case measure => omega
          case rel => exact ⟨out1 ++ s.data.toList, st, _, _, _, _, by rw [size_list], rfl, ⟨hown'⟩, ⟨hO7⟩, HHA, ⟨by have := HK.out; omega⟩, ⟨hB3⟩⟩
        · rw [if_neg ce] at HH
          have hA := atoi_f s HS.out.1
          rw [Option.not_isSome_iff_eq_none.mp ce] at hA
          by_cases ci : 0 ≤ atoiNum s ∧ atoiNum s < (l0.length : Int)
          case neg => rw [if_neg ci] at HH; cases HH
          rw [if_pos ci] at HH
          obtain ⟨nm, Hnm⟩ : ∃ nm, nm = atoiNum s := ⟨_, rfl⟩
          rw [← Hnm] at HH ci hA
          have HNM := aK Hnm
          clear Hnm ce
          have c5 : decide (0 ≤ nm) = true := decide_eq_true ci.1
          have c6 : decide (nm < (l0.length : Int)) = true := decide_eq_true ci.2
          obtain ⟨ad, ead, hx0, hx1, hx2, hx3⟩ := at_T61 HR0.out nm ci.1 ci.2
          cases ead
          have CI := aK ci
          have p1 := eq_true ci.1
          have p2 := eq_true ci.2
          have hT := Lib.tabBelow_of_tabIs HE.out.tab
          by_cases cl : (rd_T61 l0 nm).f0 = true
          · rw [if_pos cl] at HH
            by_cases cr : -9223372036854775808 ≤ (rd_T61 l0 nm).f1 ∧ (rd_T61 l0 nm).f1 ≤ 9223372036854775807
            case neg => rw [if_neg cr] at HH; cases HH
            rw [if_pos cr] at HH
            rw [cl] at hx0
            have HHA := aK HH
            clear HH ci
            have CR := aK cr
            clear cr
            go_wp2_with (first
              | (go_at_call 40; refine (strconv_Atoi_40.callsN s _ _ hA hEr.lib).mono ?_; rintro e w2 ⟨rfl, hb2⟩
                 have hB2 := HB.out.trans (hb2.mono hHw)
                 have hy0 := (hB2.cell (World.block_lt_of_cell? w _ hx0)).trans hx0
                 have hy1 := (hB2.cell (World.block_lt_of_cell? w _ hx1)).trans hx1)
              | (go_at_call 41; refine (Any.strconv_AppendInt_10 Tryd.laysM176 w.heap.size out1.length _ CR.out.1 CR.out.2 _ _ w2 (row_below HO6.out hb2) hB2.size (by have := C.out; omega) (hT.on hB2)).mono ?_; rintro e w3 ⟨v', rfl, hown', hnx3, hok3⟩; obtain ⟨A6', c6', rfl⟩ := row_shape hown'))
            have hB3 := hB2.trans hnx3
            have hO7 := row_others (row_below HP.out hb2) hok3 (by decide)
            rw [bytes_app, ← List.length_append] at hown'
            go_roundg k1
            case measure => omega
            case rel => exact ⟨out1 ++ Lib.itoa (rd_T61 l0 nm).f1, st, _, _, _, _, by rw [List.length_append], rfl, ⟨hown'⟩, ⟨hO7⟩, HHA, ⟨by have := HK.out; omega⟩, ⟨hB3⟩⟩
          · rw [if_neg cl] at HH
            replace cl := Bool.eq_false_iff.mpr cl
            by_cases cr : (0 ≤ (rd_T61 l0 nm).f2 ∧ (rd_T61 l0 nm).f2 ≤ 9223372036854775807) ∧ (0 ≤ (rd_T61 l0 nm).f3 ∧ (rd_T61 l0 nm).f3 ≤ 9223372036854775807)
            case neg => rw [if_neg cr] at HH; cases HH
            rw [if_pos cr] at HH
            rw [cl] at hx0
            have HHA := aK HH
            clear HH ci
            have CR := aK cr
            clear cr
            go_wp2_with (first
              | (go_at_call 40; refine (strconv_Atoi_40.callsN s _ _ hA hEr.lib).mono ?_; rintro e w2 ⟨rfl, hb2⟩
                 have hB2 := HB.out.trans (hb2.mono hHw)
                 have hy0 := (hB2.cell (World.block_lt_of_cell? w _ hx0)).trans hx0
                 have hy2 := (hB2.cell (World.block_lt_of_cell? w _ hx2)).trans hx2
                 have hy3 := (hB2.cell (World.block_lt_of_cell? w _ hx3)).trans hx3))
            refine start_ (n := 16) (S := fun w' => w'.cell? ⟨(ad.add (nm.toNat * 4)).block, (ad.add (nm.toNat * 4)).off + 2, none⟩ = some (.int .i64 ((rd_T61 l0 nm).f2)) ∧ w'.cell? ⟨(ad.add (nm.toNat * 4)).block, (ad.add (nm.toNat * 4)).off + 3, none⟩ = some (.int .i64 ((rd_T61 l0 nm).f3))) (ds := []) (bs 0 16) (by kernel_rfl) rfl rfl ⟨hy2, hy3⟩ (fun hHeld => ?_); refine with_tabW impl_showCell.tab6 impl_showCell.bits6 (fun HT_ HW_ => ?_)
            refine pure_ (i := 0) (N := some 39) (v := ?_) (a' := ?_) (bs 1 15) rfl rfl (any_of HT_.out (by kernel_rfl)) (fun _ _ _ h => h) (Or.inl ⟨by rfl, ?_⟩) ?_ ?_
            rotate_left
            · intro w'
              go_simp
              with_reducible rfl
            rotate_left
            · simp only [sP, i64_w, i32_w]
              rfl
            refine pure_ (i := 1) (N := some 40) (v := ?_) (a' := ?_) (bs 2 14) rfl rfl (any_of HT_.out (by kernel_rfl)) (fun _ _ _ h => h) (Or.inl ⟨by rfl, ?_⟩) ?_ ?_
            rotate_left
            · intro w'
              go_simp
              with_reducible rfl
            rotate_left
            · simp only [sP, i64_w, i32_w]
              rfl
            refine pure_ (i := 2) (N := some 41) (v := ?_) (a' := ?_) (bs 3 13) rfl rfl (any_of HT_.out (by kernel_rfl)) (fun _ _ _ h => h) (Or.inl ⟨by rfl, ?_⟩) ?_ ?_
            rotate_left
            · intro w'
              go_simp
              with_reducible rfl
            rotate_left
            · simp only [sP, i64_w, i32_w]
              rfl
            refine pure_ (i := 3) (N := some 42) (v := ?_) (a' := ?_) (bs 4 12) rfl rfl (any_of HT_.out (by kernel_rfl)) (fun _ _ _ h => h) (Or.inl ⟨by rfl, ?_⟩) ?_ ?_
            rotate_left
            · intro w'
              go_simp
              with_reducible rfl
            rotate_left
            · simp only [sP, i64_w, i32_w]
              rfl
            refine pure_ (i := 4) (N := some 43) (v := ?_) (a' := ?_) (bs 5 11) rfl rfl (any_of HT_.out (by kernel_rfl)) (fun _ _ _ h => h) (Or.inl ⟨by rfl, ?_⟩) ?_ ?_
            rotate_left
            · intro w'
              go_simp
              with_reducible rfl
            rotate_left
            · simp only [sP, i64_w, i32_w]
              rfl
            refine pure_ (i := 7) (N := some 46) (v := ?_) (a' := ?_) #[true, true, true, true, true, false, false, true, false, false, false, false, false, false, false, false] rfl rfl (any_of HT_.out (by kernel_rfl)) (fun _ _ _ h => h) (Or.inl ⟨by rfl, ?_⟩) ?_ ?_
            rotate_left
            · intro w'
              go_simp
              with_reducible rfl
            rotate_left
            · simp only [sP, i64_w, i32_w]
              rfl
            refine pure_ (i := 8) (N := some 47) (v := ?_) (a' := ?_) #[true, true, true, true, true, false, false, true, true, false, false, false, false, false, false, false] rfl rfl (any_of HT_.out (by kernel_rfl)) (fun _ _ _ h => h) (Or.inl ⟨by rfl, ?_⟩) ?_ ?_
            rotate_left
            · intro w'
              go_simp
              with_reducible rfl
            rotate_left
            · simp only [sP, i64_w, i32_w]
              rfl
            refine pure_ (i := 9) (N := some 48) (v := ?_) (a' := ?_) #[true, true, true, true, true, false, false, true, true, true, false, false, false, false, false, false] rfl rfl (any_of HT_.out (by kernel_rfl)) (fun _ _ _ h => h) (Or.inl ⟨by rfl, ?_⟩) ?_ ?_
            rotate_left
            · intro w'
              go_simp
              with_reducible rfl
            rotate_left
            · simp only [sP, i64_w, i32_w]
              rfl
            refine pure_ (i := 10) (N := some 49) (v := ?_) (a' := ?_) #[true, true, true, true, true, false, false, true, true, true, true, false, false, false, false, false] rfl rfl (any_of HT_.out (by kernel_rfl)) (fun _ _ _ h => h) (Or.inl ⟨by rfl, ?_⟩) ?_ ?_
            rotate_left
            · intro w'
              go_simp
              with_reducible rfl
            rotate_left
            · simp only [sP, i64_w, i32_w]
              rfl
            refine take_ (i := 5) (N := some 44) (v := ?_) (a' := ?_) #[true, true, true, true, true, true, false, true, true, true, true, false, false, false, false, false] rfl rfl (take_ofW HT_.out HW_.out (by kernel_rfl)) (fun _ _ _ h => h) (Or.inl ⟨by rfl, ?_⟩) hHeld ?_ ?_
            rotate_left
            · rintro w' ⟨s0, s1⟩
              go_simp
              with_reducible rfl
            rotate_left
            · simp only [sP, i64_w, i32_w]
              rfl
            refine take_ (i := 11) (N := some 50) (v := ?_) (a' := ?_) #[true, true, true, true, true, true, false, true, true, true, true, true, false, false, false, false] rfl rfl (take_ofW HT_.out HW_.out (by kernel_rfl)) (fun _ _ _ h => h) (Or.inl ⟨by rfl, ?_⟩) hHeld ?_ ?_
            rotate_left
            · rintro w' ⟨s0, s1⟩
              go_simp
              with_reducible rfl
            rotate_left
            · simp only [sP, i64_w, i32_w]
              rfl
            obtain ⟨hh2, hh3⟩ := hHeld
            have hB20 := below_drew1 hB2
            refine one_ (i := 6) (N := some 45) (bs 12 4) rfl rfl (one_of HT_.out (by kernel_rfl)) (by decide) (fun K hK => ?_)
            refine goes_ Tryd.func39 (by kernel_rfl) rfl #[.int .i64 ((rd_T61 l0 nm).f3)] (by rfl) rfl rfl tA ?_
            refine (strconv_Itoa_39.calls _ _ _ (itoa_f _ CR.out.2) (HE.out.below hB20).tab).mono ?_
            rintro e w20n ⟨rfl, hb20n⟩
            refine ⟨_, rfl, ?_⟩
            have hB20n := hB20.trans (hb20n.mono hB20.size)
            refine hK.out _ _ ⟨(hB20n.cell (World.block_lt_of_cell? w _ hx2)).trans hx2, (hB20n.cell (World.block_lt_of_cell? w _ hx3)).trans hx3⟩ (fun hHeld => ?_)
            clear hK K
            refine norm_ (a' := ?_) ?_ ?_
            rotate_left
            · show Act.put _ (some 45) _ = _
              simp only [sP, i64_w, i32_w]
              rfl
            refine one_ (i := 12) (N := some 51) (bs 13 3) rfl rfl (one_of HT_.out (by kernel_rfl)) (by decide) (fun K hK => ?_)
            refine goes_ Tryd.func39 (by kernel_rfl) rfl #[.int .i64 ((rd_T61 l0 nm).f2)] (by rfl) rfl rfl tA ?_
            refine (strconv_Itoa_39.calls _ _ _ (itoa_f _ CR.out.1) (HE.out.below hB20n).tab).mono ?_
            rintro e w20nn ⟨rfl, hb20nn⟩
            refine ⟨_, rfl, ?_⟩
            have hB20nn := hB20n.trans (hb20nn.mono hB20n.size)
            refine hK.out _ _ ⟨(hB20nn.cell (World.block_lt_of_cell? w _ hx2)).trans hx2, (hB20nn.cell (World.block_lt_of_cell? w _ hx3)).trans hx3⟩ (fun hHeld => ?_)
            clear hK K
            refine norm_ (a' := ?_) ?_ ?_
            rotate_left
            · show Act.put _ (some 51) _ = _
              simp only [sP, i64_w, i32_w]
              rfl
            refine one_ (i := 13) (N := some 52) (bs 14 2) rfl rfl (one_of HT_.out (by kernel_rfl)) (by decide) (fun K hK => ?_)
            refine value_ (w1 := ?_) (v := ?_) (by rfl) rfl ?_ ?_
            rotate_left 2
            · go_simp
              constructor
              · rfl
              · rfl
            have hBa := hB20nn.alloc hB20nn.size (.cells #[.string (Bt [41]), .string (Bt (Lib.decDigits (rd_T61 l0 nm).f3.toNat)), .string (Bt [32]), .string (Bt (Lib.decDigits (rd_T61 l0 nm).f2.toNat)), .string (Bt [40])] 9)
            refine hK.out _ _ ⟨(hBa.cell (World.block_lt_of_cell? w _ hx2)).trans hx2, (hBa.cell (World.block_lt_of_cell? w _ hx3)).trans hx3⟩ (fun hHeld => ?_)
            clear hK K
            refine norm_ (a' := ?_) ?_ ?_
            rotate_left
            · show Act.put _ (some 52) _ = _
              simp only [sP, i64_w, i32_w]
              rfl
            have hP2 := row_below (row_below (row_below HP.out hb2) (below_drew1 (Below.refl _ _))) hb20n
            have hP3 := (row_below hP2 hb20nn).alloc (.cells #[.string (Bt [41]), .string (Bt (Lib.decDigits (rd_T61 l0 nm).f3.toNat)), .string (Bt [32]), .string (Bt (Lib.decDigits (rd_T61 l0 nm).f2.toNat)), .string (Bt [40])] 9)
            have h6a := row_below (row_below (row_below HO6.out hb2) (below_drew1 (Below.refl _ _))) hb20n
            have h6b := (row_below h6a hb20nn).alloc (.cells #[.string (Bt [41]), .string (Bt (Lib.decDigits (rd_T61 l0 nm).f3.toNat)), .string (Bt [32]), .string (Bt (Lib.decDigits (rd_T61 l0 nm).f2.toNat)), .string (Bt [40])] 9)
            refine one_ (i := 14) (N := some 53) (bs 15 1) rfl rfl (one_of HT_.out (by kernel_rfl)) (by decide) (fun K hK => ?_)
            rw [if_pos (by rfl)]
            refine wp_append_own _ _ _ 66 rfl w.heap.size 9 i9 (.string ⟨#[]⟩) 1 16 Tryd.underlying66 hi9 hz90 hz91 hz92 rfl (by decide) _ _ _ rfl hP3 ⟨w20nn.heap.size, 0, none⟩ 5 5 [.string (Bt [41]), .string (Bt (Lib.decDigits (rd_T61 l0 nm).f3.toNat)), .string (Bt [32]), .string (Bt (Lib.decDigits (rd_T61 l0 nm).f2.toNat)), .string (Bt [40])] rfl rfl (five_cells _ _ _ _ _ _ _) (fun u hu => by simp at hu; rcases hu with rfl | rfl | rfl | rfl | rfl <;> rfl) (by have := HS.out.2; unfold maxLen; omega) (by have := HS.out.2; omega) hBa.size ?_
            intro v' w3 hown' hgrow3 hnil3
            have hB3 := hBa.grown hgrow3 hBa.size (fun k hk => (hP3.lt k hk).1)
            have hO6 := h6b.kept hgrow3 (rows_ne h6b hP3 (by decide))
            obtain ⟨A7', c7', rfl⟩ := row_shape hown'
            refine hK.out _ _ ⟨(hB3.cell (World.block_lt_of_cell? w _ hx2)).trans hx2, (hB3.cell (World.block_lt_of_cell? w _ hx3)).trans hx3⟩ (fun hHeld => ?_)
            clear hK K
            refine norm_ (a' := ?_) ?_ ?_
            rotate_left
            · show Act.put _ (some 53) _ = _
              simp only [sP, i64_w, i32_w]
              rfl
            refine pure_ (i := 15) (N := some 7) (v := ?_) (a' := ?_) (bs 16 0) rfl rfl (any_of HT_.out (by kernel_rfl)) (fun _ _ _ h => h) (Or.inl ⟨by rfl, ?_⟩) ?_ ?_
            rotate_left
            · intro w'
              go_simp
              with_reducible rfl
            rotate_left
            · simp only [sP, i64_w, i32_w]
              rfl
            refine done_ (done_of HT_.out (by kernel_rfl)) ?_
            try go_wp2
            go_roundg k1
            case measure => omega
            case rel => exact ⟨out1, _, _, _, _, _, rfl, by rfl, ⟨hO6⟩, ⟨by simpa using hown'⟩, HHA, ⟨by have := HK.out; omega⟩, ⟨hB3⟩⟩
end Go.Proofs.YtcbgjcnekdoloaaDoor.G

namespace Go.Proofs.YtcbgjcnekdoloaaDoor.G
open Go.RowKit Go.Proofs.YtcbgjcnekdoloaaDoorW.PrintWords Go.Proofs.YtcbgjcnekdoloaaDoorW.PrintLast Go.Proofs.YtcbgjcnekdoloaaDoorW.PrintMore Go.Proofs.YtcbgjcnekdoloaaDoor.Short
attribute [local go_sem] max2_int min2_int max_two min_two max_three min_three max_four min_four   -- for this text's walks alone
set_option linter.unusedVariables false
set_option linter.unusedSimpArgs false

def impl_ShowCell.f (k : Nat) (a0_0 : Int) (l0_1 : List (S61)) (l0_2 : List Int) (a1 : Int) : Option (ByteArray × Bool) := (impl_GoodHeap.f k a0_0 l0_1 l0_2).bind fun t102 => (if t102 = true then ((impl_isBelow.f a1 (l0_1.length : Int)).bind fun t103 => (if t103 = true then ((impl_showCell.f k l0_1 a1).bind fun bt104 => (some (bt104.1, bt104.2))) else (some ((⟨#[]⟩ : ByteArray), false)))) else (some ((⟨#[]⟩ : ByteArray), false)))
set_option maxHeartbeats 8000000 in
set_option maxRecDepth 100000 in
theorem impl_ShowCell.calls (k : Nat) (a0_0 : Int) (A0_1 : Option Addr) (c0_1 : Nat) (l0_1 : List (S61)) (A0_2 : Option Addr) (c0_2 : Nat) (l0_2 : List Int) (a1 : Int) (r1 : ByteArray) (r2 : Bool) (w : World) (hr0_1 : Kd.C k61 w A0_1 l0_1.length l0_1) (hc0_1 : l0_1.length ≤ c0_1) (hr0_2 : Kd.C (Kd.int .i64) w A0_2 l0_2.length l0_2) (hc0_2 : l0_2.length ≤ c0_2) (h : impl_ShowCell.f k a0_0 l0_1 l0_2 a1 = some (r1, r2)) (hE : Met w) :
    Calls Tryd.prog 8 #[.agg #[.int .i64 a0_0, .slice A0_1 l0_1.length c0_1, .slice A0_2 l0_2.length c0_2], .int .i64 a1] w fun e w' => e = .returned (.tuple #[.string r1, .bool r2]) ∧ Below w.heap.size w w' := by
  have hu31 := Tryd.underlying31
  have HR0_1 := aM hr0_1
  have HC0_1 := aM hc0_1
  clear hr0_1 hc0_1
  have HR0_2 := aM hr0_2
  have HC0_2 := aM hc0_2
  clear hr0_2 hc0_2
  have HB := aM (Below.refl w.heap.size w)
  have HE := aM hE
  clear hE
  have H : ((impl_GoodHeap.f k a0_0 l0_1 l0_2).bind fun t102 => (if t102 = true then ((impl_isBelow.f a1 (l0_1.length : Int)).bind fun t103 => (if t103 = true then ((impl_showCell.f k l0_1 a1).bind fun bt104 => (some (bt104.1, bt104.2))) else (some ((⟨#[]⟩ : ByteArray), false)))) else (some ((⟨#[]⟩ : ByteArray), false)))) = some (r1, r2) := h
  clear h
  replace H := Option.bind_eq_some_iff.mp H
  obtain ⟨t102, A30, H⟩ := H
  replace H : (if t102 = true then ((impl_isBelow.f a1 (l0_1.length : Int)).bind fun t103 => (if t103 = true then ((impl_showCell.f k l0_1 a1).bind fun bt104 => (some (bt104.1, bt104.2))) else (some ((⟨#[]⟩ : ByteArray), false)))) else (some ((⟨#[]⟩ : ByteArray), false))) = some (r1, r2) := H
  have A3 := aM A30
  clear A30
  by_cases c4 : t102 = true
  · subst c4
    have H1 : ((impl_isBelow.f a1 (l0_1.length : Int)).bind fun t103 => (if t103 = true then ((impl_showCell.f k l0_1 a1).bind fun bt104 => (some (bt104.1, bt104.2))) else (some ((⟨#[]⟩ : ByteArray), false)))) = some (r1, r2) := by rw [if_pos rfl] at H; exact H
    clear H
    have H := H1
    clear H1
    replace H := Option.bind_eq_some_iff.mp H
    obtain ⟨t103, A50, H⟩ := H
    replace H : (if t103 = true then ((impl_showCell.f k l0_1 a1).bind fun bt104 => (some (bt104.1, bt104.2))) else (some ((⟨#[]⟩ : ByteArray), false))) = some (r1, r2) := H
    have A5 := aM A50
    clear A50
    by_cases c6 : t103 = true
    · subst c6
      have H1 : ((impl_showCell.f k l0_1 a1).bind fun bt104 => (some (bt104.1, bt104.2))) = some (r1, r2) := by rw [if_pos rfl] at H; exact H
      clear H
      have H := H1
      clear H1
      replace H := Option.bind_eq_some_iff.mp H
      obtain ⟨⟨t104, t105⟩, A70, H⟩ := H
      replace H : (some (t104, t105)) = some (r1, r2) := H
      have A7 := aM A70
      clear A70
      simp only [Option.some.injEq, Prod.mk.injEq] at H
      obtain ⟨rfl, rfl⟩ := H
      go_enter Tryd.func8, Tryd.ntmps8
      go_wp2_with (first | ((with_reducible refine gate_dst (N := 2) rfl ?_); (try (refine gate_guard (by rfl) ?_; dsimp only)); refine box_event ?hg (N := 2) ?hd (cs := #[.int .i64 a0_0, .slice A0_1 l0_1.length c0_1, .slice A0_2 l0_2.length c0_2]) (t := 31) ?hr ?_; (case hd => rfl); (case hg => rfl); (case hr => first | (go_simp; done) | (go_simp; rfl)); intro gb101 hg w8 hbox hb; have n0_ := aM (below_step (by repeat (first | (with_reducible first | exact HB.out | apply below_alloc | apply pw_below_drewN | apply below_drew1) | exact HB.out)) hb); have n1_ := aM (hbox); have n2_ := aM ((by rw [hg]; exact (below_size (by repeat (first | (with_reducible first | exact HB.out | apply below_alloc | apply pw_below_drewN | apply below_drew1) | exact HB.out))) : w.heap.size ≤ gb101)); have n3_ := aM ((by rw [hg]; exact (below_size (by repeat (first | (with_reducible first | exact HB.out | apply below_alloc | apply pw_below_drewN | apply below_drew1) | exact HB.out))) : w.heap.size ≤ gb101)); clear HB; have HB := n0_; have BK101 := n1_; have GW101 := n2_; have GE101 := n3_; clear n0_ n1_ n2_ n3_; clear hb hbox hg; have hcz9_0 : w8.cell? ⟨gb101, 0, none⟩ = some (.int .i64 a0_0) := (blk_cell BK101.out 0).trans rfl; have hcz9_1 : w8.cell? ⟨gb101, 1, none⟩ = some (.slice A0_1 l0_1.length c0_1) := (blk_cell BK101.out 1).trans rfl; have hcz9_2 : w8.cell? ⟨gb101, 2, none⟩ = some (.slice A0_2 l0_2.length c0_2) := (blk_cell BK101.out 2).trans rfl; have hfz9_0 := blk_frozen BK101.out 0; have hfz9_1 := blk_frozen BK101.out 1; have hfz9_2 := blk_frozen BK101.out 2) | ((with_reducible refine gate_callee (f := 16) rfl ?_); refine goesL_ (some 7) rfl rfl Tryd.func16 (by kernel_rfl) rfl #[.agg #[.int .i64 a0_0, .slice A0_1 l0_1.length c0_1, .slice A0_2 l0_2.length c0_2]] rfl (by (try simp only [List.map_toArray, List.map_cons, List.map_nil]); first | done | rfl | (simp only [List.length_drop, List.length_take]; rfl)) ?_; (with_reducible refine (impl_GoodHeap.calls k a0_0 _ _ l0_1 _ _ l0_2 true _ ?side1 ?side2 ?side3 ?side4 A3.out).mono ?_); (case side1 => repeat (first | exact (Kd.C_below HR0_1.out HB.out) | (with_reducible refine Kd.C_alloc ?_ _) | (with_reducible refine Kd.C_drewN ?_ _) | (with_reducible refine Kd.C_drew ?_))); (case side2 => exact HC0_1.out); (case side3 => repeat (first | exact (Kd.C_below HR0_2.out HB.out) | (with_reducible refine Kd.C_alloc ?_ _) | (with_reducible refine Kd.C_drewN ?_ _) | (with_reducible refine Kd.C_drew ?_))); (case side4 => exact HC0_2.out); rintro e w10 ⟨rfl, hb⟩; refine ⟨_, rfl, ?_⟩; have n0_ := aM (blk_below (g := gb101) (o := .cells #[.int .i64 a0_0, .slice A0_1 l0_1.length c0_1, .slice A0_2 l0_2.length c0_2] 31 (0, 0)) (by (with_reducible repeat (first | refine bN ?_ _ | refine bD ?_ | refine bA ?_ _)); exact BK101.out) hb); have n1_ := aM (below_step (by repeat (first | (with_reducible first | exact HB.out | apply below_alloc | apply pw_below_drewN | apply below_drew1 | refine below_set ?_ GE101.out) | exact HB.out)) hb); clear BK101; clear HB; have BK101 := n0_; have HB := n1_; clear n0_ n1_; (try clear hb); (try clear hb2); (try clear hk); (try clear hi); have hcz11_0 : w10.cell? ⟨gb101, 0, none⟩ = some (.int .i64 a0_0) := (blk_cell BK101.out 0).trans rfl; have hcz11_1 : w10.cell? ⟨gb101, 1, none⟩ = some (.slice A0_1 l0_1.length c0_1) := (blk_cell BK101.out 1).trans rfl; have hcz11_2 : w10.cell? ⟨gb101, 2, none⟩ = some (.slice A0_2 l0_2.length c0_2) := (blk_cell BK101.out 2).trans rfl; have hfz11_0 := blk_frozen BK101.out 0; have hfz11_1 := blk_frozen BK101.out 1; have hfz11_2 := blk_frozen BK101.out 2) | (go_at_call 24; (with_reducible refine (impl_isBelow.calls a1 (l0_1.length : Int) true _ A5.out).mono ?_); rintro e w' ⟨rfl, ⟨nd, rfl⟩⟩) | ((with_reducible refine gate_callee (f := 25) rfl ?_); refine goesL_ (some 20) rfl rfl Tryd.func25 (by kernel_rfl) rfl #[.slice A0_1 l0_1.length c0_1, .int .i64 a1] rfl (by (try simp only [List.map_toArray, List.map_cons, List.map_nil]); first | done | rfl | (simp only [List.length_drop, List.length_take]; rfl)) ?_; (with_reducible refine (impl_showCell.calls k _ _ l0_1 a1 t104 t105 _ ?side1 ?side2 A7.out (HE.out.below (by repeat (first | (with_reducible first | exact HB.out | apply below_alloc | apply pw_below_drewN | apply below_drew1 | refine below_set ?_ GE101.out) | exact HB.out)))).mono ?_); (case side1 => repeat (first | exact (Kd.C_below HR0_1.out (by repeat (first | (with_reducible first | exact HB.out | apply below_alloc | apply pw_below_drewN | apply below_drew1 | refine below_set ?_ GE101.out) | exact HB.out))) | (with_reducible refine Kd.C_alloc ?_ _) | (with_reducible refine Kd.C_drewN ?_ _) | (with_reducible refine Kd.C_drew ?_))); (case side2 => exact HC0_1.out); rintro e w12 ⟨rfl, hb⟩; refine ⟨_, rfl, ?_⟩; have n0_ := aM (blk_below (g := gb101) (o := .cells #[.int .i64 a0_0, .slice A0_1 l0_1.length c0_1, .slice A0_2 l0_2.length c0_2] 31 (0, 0)) (by (with_reducible repeat (first | refine bN ?_ _ | refine bD ?_ | refine bA ?_ _)); exact BK101.out) hb); have n1_ := aM (below_step (by repeat (first | (with_reducible first | exact HB.out | apply below_alloc | apply pw_below_drewN | apply below_drew1 | refine below_set ?_ GE101.out) | exact HB.out)) hb); clear BK101; clear HB; have BK101 := n0_; have HB := n1_; clear n0_ n1_; (try clear hb); (try clear hb2); (try clear hk); (try clear hi)))
      go_ret2
      exact ⟨by first | rfl | (simp [errW_none, errW_some] <;> rfl) | (simp [*, errW_none, errW_some] <;> rfl), by repeat (first | (with_reducible first | exact HB.out | apply below_alloc | apply pw_below_drewN | apply below_drew1 | refine below_set ?_ GE101.out) | exact HB.out)⟩
    · replace c6 := Bool.eq_false_iff.mpr c6
      subst c6
      have H1 : (some ((⟨#[]⟩ : ByteArray), false)) = some (r1, r2) := by rw [if_neg (show ¬ (false = true) by decide)] at H; exact H
      clear H
      have H := H1
      clear H1
      simp only [Option.some.injEq, Prod.mk.injEq] at H
      obtain ⟨rfl, rfl⟩ := H
      go_enter Tryd.func8, Tryd.ntmps8
      go_wp2_with (first | ((with_reducible refine gate_dst (N := 2) rfl ?_); (try (refine gate_guard (by rfl) ?_; dsimp only)); refine box_event ?hg (N := 2) ?hd (cs := #[.int .i64 a0_0, .slice A0_1 l0_1.length c0_1, .slice A0_2 l0_2.length c0_2]) (t := 31) ?hr ?_; (case hd => rfl); (case hg => rfl); (case hr => first | (go_simp; done) | (go_simp; rfl)); intro gb101 hg w13 hbox hb; have n0_ := aM (below_step (by repeat (first | (with_reducible first | exact HB.out | apply below_alloc | apply pw_below_drewN | apply below_drew1) | exact HB.out)) hb); have n1_ := aM (hbox); have n2_ := aM ((by rw [hg]; exact (below_size (by repeat (first | (with_reducible first | exact HB.out | apply below_alloc | apply pw_below_drewN | apply below_drew1) | exact HB.out))) : w.heap.size ≤ gb101)); have n3_ := aM ((by rw [hg]; exact (below_size (by repeat (first | (with_reducible first | exact HB.out | apply below_alloc | apply pw_below_drewN | apply below_drew1) | exact HB.out))) : w.heap.size ≤ gb101)); clear HB; have HB := n0_; have BK101 := n1_; have GW101 := n2_; have GE101 := n3_; clear n0_ n1_ n2_ n3_; clear hb hbox hg; have hcz14_0 : w13.cell? ⟨gb101, 0, none⟩ = some (.int .i64 a0_0) := (blk_cell BK101.out 0).trans rfl; have hcz14_1 : w13.cell? ⟨gb101, 1, none⟩ = some (.slice A0_1 l0_1.length c0_1) := (blk_cell BK101.out 1).trans rfl; have hcz14_2 : w13.cell? ⟨gb101, 2, none⟩ = some (.slice A0_2 l0_2.length c0_2) := (blk_cell BK101.out 2).trans rfl; have hfz14_0 := blk_frozen BK101.out 0; have hfz14_1 := blk_frozen BK101.out 1; have hfz14_2 := blk_frozen BK101.out 2) | ((with_reducible refine gate_callee (f := 16) rfl ?_); refine goesL_ (some 7) rfl rfl Tryd.func16 (by kernel_rfl) rfl #[.agg #[.int .i64 a0_0, .slice A0_1 l0_1.length c0_1, .slice A0_2 l0_2.length c0_2]] rfl (by (try simp only [List.map_toArray, List.map_cons, List.map_nil]); first | done | rfl | (simp only [List.length_drop, List.length_take]; rfl)) ?_; (with_reducible refine (impl_GoodHeap.calls k a0_0 _ _ l0_1 _ _ l0_2 true _ ?side1 ?side2 ?side3 ?side4 A3.out).mono ?_); (case side1 => repeat (first | exact (Kd.C_below HR0_1.out HB.out) | (with_reducible refine Kd.C_alloc ?_ _) | (with_reducible refine Kd.C_drewN ?_ _) | (with_reducible refine Kd.C_drew ?_))); (case side2 => exact HC0_1.out); (case side3 => repeat (first | exact (Kd.C_below HR0_2.out HB.out) | (with_reducible refine Kd.C_alloc ?_ _) | (with_reducible refine Kd.C_drewN ?_ _) | (with_reducible refine Kd.C_drew ?_))); (case side4 => exact HC0_2.out); rintro e w15 ⟨rfl, hb⟩; refine ⟨_, rfl, ?_⟩; have n0_ := aM (blk_below (g := gb101) (o := .cells #[.int .i64 a0_0, .slice A0_1 l0_1.length c0_1, .slice A0_2 l0_2.length c0_2] 31 (0, 0)) (by (with_reducible repeat (first | refine bN ?_ _ | refine bD ?_ | refine bA ?_ _)); exact BK101.out) hb); have n1_ := aM (below_step (by repeat (first | (with_reducible first | exact HB.out | apply below_alloc | apply pw_below_drewN | apply below_drew1 | refine below_set ?_ GE101.out) | exact HB.out)) hb); clear BK101; clear HB; have BK101 := n0_; have HB := n1_; clear n0_ n1_; (try clear hb); (try clear hb2); (try clear hk); (try clear hi); have hcz16_0 : w15.cell? ⟨gb101, 0, none⟩ = some (.int .i64 a0_0) := (blk_cell BK101.out 0).trans rfl; have hcz16_1 : w15.cell? ⟨gb101, 1, none⟩ = some (.slice A0_1 l0_1.length c0_1) := (blk_cell BK101.out 1).trans rfl; have hcz16_2 : w15.cell? ⟨gb101, 2, none⟩ = some (.slice A0_2 l0_2.length c0_2) := (blk_cell BK101.out 2).trans rfl; have hfz16_0 := blk_frozen BK101.out 0; have hfz16_1 := blk_frozen BK101.out 1; have hfz16_2 := blk_frozen BK101.out 2) | (go_at_call 24; (with_reducible refine (impl_isBelow.calls a1 (l0_1.length : Int) false _ A5.out).mono ?_); rintro e w' ⟨rfl, ⟨nd, rfl⟩⟩))
      go_ret2
      exact ⟨by first | rfl | (simp [errW_none, errW_some] <;> rfl) | (simp [*, errW_none, errW_some] <;> rfl), by repeat (first | (with_reducible first | exact HB.out | apply below_alloc | apply pw_below_drewN | apply below_drew1 | refine below_set ?_ GE101.out) | exact HB.out)⟩
  · replace c4 := Bool.eq_false_iff.mpr c4
    subst c4
    have H1 : (some ((⟨#[]⟩ : ByteArray), false)) = some (r1, r2) := by rw [if_neg (show ¬ (false = true) by decide)] at H; exact H
    clear H
    have H := H1
    clear H1
    simp only [Option.some.injEq, Prod.mk.injEq] at H
    obtain ⟨rfl, rfl⟩ := H
    go_enter Tryd.func8, Tryd.ntmps8
    go_wp2_with (first | ((with_reducible refine gate_dst (N := 2) rfl ?_); (try (refine gate_guard (by rfl) ?_; dsimp only)); refine box_event ?hg (N := 2) ?hd (cs := #[.int .i64 a0_0, .slice A0_1 l0_1.length c0_1, .slice A0_2 l0_2.length c0_2]) (t := 31) ?hr ?_; (case hd => rfl); (case hg => rfl); (case hr => first | (go_simp; done) | (go_simp; rfl)); intro gb101 hg w17 hbox hb; have n0_ := aM (below_step (by repeat (first | (with_reducible first | exact HB.out | apply below_alloc | apply pw_below_drewN | apply below_drew1) | exact HB.out)) hb); have n1_ := aM (hbox); have n2_ := aM ((by rw [hg]; exact (below_size (by repeat (first | (with_reducible first | exact HB.out | apply below_alloc | apply pw_below_drewN | apply below_drew1) | exact HB.out))) : w.heap.size ≤ gb101)); have n3_ := aM ((by rw [hg]; exact (below_size (by repeat (first | (with_reducible first | exact HB.out | apply below_alloc | apply pw_below_drewN | apply below_drew1) | exact HB.out))) : w.heap.size ≤ gb101)); clear HB; have HB := n0_; have BK101 := n1_; have GW101 := n2_; have GE101 := n3_; clear n0_ n1_ n2_ n3_; clear hb hbox hg; have hcz18_0 : w17.cell? ⟨gb101, 0, none⟩ = some (.int .i64 a0_0) := (blk_cell BK101.out 0).trans rfl; have hcz18_1 : w17.cell? ⟨gb101, 1, none⟩ = some (.slice A0_1 l0_1.length c0_1) := (blk_cell BK101.out 1).trans rfl; have hcz18_2 : w17.cell? ⟨gb101, 2, none⟩ = some (.slice A0_2 l0_2.length c0_2) := (blk_cell BK101.out 2).trans rfl; have hfz18_0 := blk_frozen BK101.out 0; have hfz18_1 := blk_frozen BK101.out 1; have hfz18_2 := blk_frozen BK101.out 2) | ((with_reducible refine gate_callee (f := 16) rfl ?_); refine goesL_ (some 7) rfl rfl Tryd.func16 (by kernel_rfl) rfl #[.agg #[.int .i64 a0_0, .slice A0_1 l0_1.length c0_1, .slice A0_2 l0_2.length c0_2]] rfl (by (try simp only [List.map_toArray, List.map_cons, List.map_nil]); first | done | rfl | (simp only [List.length_drop, List.length_take]; rfl)) ?_; (with_reducible refine (impl_GoodHeap.calls k a0_0 _ _ l0_1 _ _ l0_2 false _ ?side1 ?side2 ?side3 ?side4 A3.out).mono ?_); (case side1 => repeat (first | exact (Kd.C_below HR0_1.out HB.out) | (with_reducible refine Kd.C_alloc ?_ _) | (with_reducible refine Kd.C_drewN ?_ _) | (with_reducible refine Kd.C_drew ?_))); (case side2 => exact HC0_1.out); (case side3 => repeat (first | exact (Kd.C_below HR0_2.out HB.out) | (with_reducible refine Kd.C_alloc ?_ _) | (with_reducible refine Kd.C_drewN ?_ _) | (with_reducible refine Kd.C_drew ?_))); (case side4 => exact HC0_2.out); rintro e w19 ⟨rfl, hb⟩; refine ⟨_, rfl, ?_⟩; have n0_ := aM (blk_below (g := gb101) (o := .cells #[.int .i64 a0_0, .slice A0_1 l0_1.length c0_1, .slice A0_2 l0_2.length c0_2] 31 (0, 0)) (by (with_reducible repeat (first | refine bN ?_ _ | refine bD ?_ | refine bA ?_ _)); exact BK101.out) hb); have n1_ := aM (below_step (by repeat (first | (with_reducible first | exact HB.out | apply below_alloc | apply pw_below_drewN | apply below_drew1 | refine below_set ?_ GE101.out) | exact HB.out)) hb); clear BK101; clear HB; have BK101 := n0_; have HB := n1_; clear n0_ n1_; (try clear hb); (try clear hb2); (try clear hk); (try clear hi)))
    go_ret2
    exact ⟨by first | rfl | (simp [errW_none, errW_some] <;> rfl) | (simp [*, errW_none, errW_some] <;> rfl), by repeat (first | (with_reducible first | exact HB.out | apply below_alloc | apply pw_below_drewN | apply below_drew1 | refine below_set ?_ GE101.out) | exact HB.out)⟩

end Go.Proofs.YtcbgjcnekdoloaaDoor.G

namespace Go.Proofs.YtcbgjcnekdoloaaDoor.ShowL
open Go.RowKit Go.Proofs.YtcbgjcnekdoloaaDoor.G Go.Proofs.YtcbgjcnekdoloaaDoor.EvL Go.Proofs.YtcbgjcnekdoloaaDoor.TxtL Go.Proofs.YtcbgjcnekdoloaaDoor.HeapL Go.Proofs.YtcbgjcnekdoloaaDoor.NumL Go.Proofs.YtcbgjcnekdoloaaDoorW.PrintWords Go.Proofs.YtcbgjcnekdoloaaDoorW.PrintLast
set_option linter.unusedVariables false
set_option linter.unusedSimpArgs false

structure Cells (l : List S61) : Prop where
  len : l.length ≤ 200
  ok : ∀ i, i < l.length → CellOk (l.getD i z61) i
  num : ∀ i, i < l.length → -9223372036854775808 ≤ (l.getD i z61).f1 ∧ (l.getD i z61).f1 ≤ 9223372036854775807

def tx : Nat → List S61 → Nat → List UInt8
  | 0, _, _ => []
  | d + 1, l, i => if (l.getD i z61).f0 = true then Lib.itoa (l.getD i z61).f1 else 40 :: (tx d l (l.getD i z61).f2.toNat ++ 32 :: (tx d l (l.getD i z61).f3.toNat ++ [41]))
def text (l : List S61) (i : Nat) : List UInt8 := tx (i + 1) l i
theorem pair_lt {l : List S61} (hc : Cells l) {i : Nat} (hi : i < l.length) (hl : ¬ (l.getD i z61).f0 = true) :
    (0 ≤ (l.getD i z61).f2 ∧ (l.getD i z61).f2 < i) ∧ (0 ≤ (l.getD i z61).f3 ∧ (l.getD i z61).f3 < i) := by
  rcases hc.ok i hi with ⟨h, _⟩ | ⟨_, _, h1, h2, h3, h4⟩
  · exact absurd h hl
  · exact ⟨⟨h1, h2⟩, ⟨h3, h4⟩⟩
theorem tx_eq {l : List S61} (hc : Cells l) : ∀ (d d' i : Nat), i < l.length → i < d → i < d' → tx d l i = tx d' l i := by
  intro d
  induction d with
  | zero => intro d' i _ h _; omega
  | succ d ih =>
    intro d' i hi h1 h2
    obtain ⟨e, rfl⟩ : ∃ e, d' = e + 1 := ⟨d' - 1, by omega⟩
    unfold tx
    by_cases hl : (l.getD i z61).f0 = true
    · rw [if_pos hl, if_pos hl]
    · obtain ⟨⟨a1, a2⟩, b1, b2⟩ := pair_lt hc hi hl
      rw [if_neg hl, if_neg hl, ih e _ (by omega) (by omega) (by omega), ih e (l.getD i z61).f3.toNat (by omega) (by omega) (by omega)]
theorem text_leaf {l : List S61} {i : Nat} (hl : (l.getD i z61).f0 = true) : text l i = Lib.itoa (l.getD i z61).f1 := by unfold text tx; rw [if_pos hl]
theorem text_pair {l : List S61} (hc : Cells l) {i : Nat} (hi : i < l.length) (hl : ¬ (l.getD i z61).f0 = true) :
    text l i = 40 :: (text l (l.getD i z61).f2.toNat ++ 32 :: (text l (l.getD i z61).f3.toNat ++ [41])) := by
  obtain ⟨⟨a1, a2⟩, b1, b2⟩ := pair_lt hc hi hl
  have e : text l i = 40 :: (tx i l (l.getD i z61).f2.toNat ++ 32 :: (tx i l (l.getD i z61).f3.toNat ++ [41])) := by show tx (i + 1) l i = _; rw [tx, if_neg hl]
  rw [e, tx_eq hc i ((l.getD i z61).f2.toNat + 1) _ (by omega) (by omega) (by omega), tx_eq hc i ((l.getD i z61).f3.toNat + 1) _ (by omega) (by omega) (by omega)]
  rfl

theorem showEv {l : List S61} (hc : Cells l) : ∀ (d i : Nat), i < l.length → i < d → ∃ s : List UInt8, Ev (fun k => spec_l7Show.f k l (i : Int)) (B s) ∧ (s.length ≤ 500 → s = text l i) ∧ (500 < s.length → 500 < (text l i).length) ∧ s.length ≤ 600 * (i + 1) := by
  intro d
  induction d with
  | zero => intro i _ h; omega
  | succ d ih =>
    intro i hi hd
    have hlen := hc.len
    have h0 : (0 : Int) ≤ (i : Int) := by omega
    have h1 : (i : Int) < (l.length : Int) := by omega
    by_cases hl : (l.getD i z61).f0 = true
    · obtain ⟨n0, n1⟩ := hc.num i hi
      obtain ⟨hE, hn⟩ := num_B _ n0 n1
      refine ⟨Lib.itoa (l.getD i z61).f1, Ev.step (f := fun k => (spec_l1Num.f k (l.getD i z61).f1).bind fun t => some t) (fun k => ?_) (Ev.bind hE (Ev.now _)), fun _ => (text_leaf hl).symm, fun h => by omega, by omega⟩
      rw [spec_l7Show.f, if_pos h0, if_pos h1, rdC, if_pos hl]
    · obtain ⟨⟨a1, a2⟩, b1, b2⟩ := pair_lt hc hi hl
      have htx := text_pair hc hi hl
      obtain ⟨s1, E1, u1, v1, w1⟩ := ih (l.getD i z61).f2.toNat (by omega) (by omega)
      obtain ⟨s2, E2, u2, v2, w2⟩ := ih (l.getD i z61).f3.toNat (by omega) (by omega)
      rw [Int.toNat_of_nonneg a1] at E1
      rw [Int.toNat_of_nonneg b1] at E2
      obtain ⟨a, ha⟩ : ∃ a, a = (l.getD i z61).f2.toNat := ⟨_, rfl⟩
      obtain ⟨b, hb⟩ : ∃ b, b = (l.getD i z61).f3.toNat := ⟨_, rfl⟩
      rw [← ha] at u1 v1 w1 htx
      rw [← hb] at u2 v2 w2 htx
      have hai : a + 1 ≤ i := by omega
      have hbi : b + 1 ≤ i := by omega
      have q1 : s1.length ≤ 600 * i := by omega
      have q2 : s2.length ≤ 600 * i := by omega
      have htl : (text l i).length = (text l a).length + (text l b).length + 3 := by rw [htx]; simp; omega
      have e1 : (⟨#[40]⟩ : ByteArray) ++ B s1 = B (40 :: s1) := B_append [40] s1
      have e2 : B (40 :: s1) ++ (⟨#[32]⟩ : ByteArray) = B (40 :: s1 ++ [32]) := B_append (40 :: s1) [32]
      have e3 : B (40 :: s1 ++ [32]) ++ B s2 = B (40 :: s1 ++ [32] ++ s2) := B_append _ _
      have e4 : B (40 :: s1 ++ [32] ++ s2) ++ (⟨#[41]⟩ : ByteArray) = B (40 :: s1 ++ [32] ++ s2 ++ [41]) := B_append _ [41]
      have z1 : (40 :: s1).length = s1.length + 1 := rfl
      have z2 : (40 :: s1 ++ [32]).length = s1.length + 2 := by simp
      have z3 : (40 :: s1 ++ [32] ++ s2).length = s1.length + s2.length + 2 := by simp; omega
      have z4 : (40 :: s1 ++ [32] ++ s2 ++ [41]).length = s1.length + s2.length + 3 := by simp; omega
      have y1 := B_size s1
      have y2 := B_size s2
      have y3 := B_size (40 :: s1)
      have y4 := B_size (40 :: s1 ++ [32])
      have y5 := B_size (40 :: s1 ++ [32] ++ s2)
      by_cases hlong : 500 < s1.length + 1
      · refine ⟨40 :: s1, Ev.succ ?_, fun h => by omega, fun h => ?_, by omega⟩
        · simp only [spec_l7Show.f]
          refine Ev.ite_pos h0 (Ev.ite_pos h1 (Ev.ite_neg (by rw [rdC]; exact hl) (Ev.bind (by rw [rdC]; exact E1) ?_)))
          simp only [e1]
          exact Ev.ite_pos (by omega) (Ev.ite_pos (by omega) (Ev.now _))
        · by_cases h5 : s1.length ≤ 500
          · rw [← u1 h5] at htl; omega
          · have := v1 (by omega); omega
      · have us := u1 (by omega)
        refine ⟨40 :: s1 ++ [32] ++ s2 ++ [41], Ev.succ ?_, fun h => ?_, fun h => ?_, by omega⟩
        · simp only [spec_l7Show.f]
          refine Ev.ite_pos h0 (Ev.ite_pos h1 (Ev.ite_neg (by rw [rdC]; exact hl) (Ev.bind (by rw [rdC]; exact E1) ?_)))
          simp only [e1, e2]
          refine Ev.ite_pos (by omega) (Ev.ite_neg (by omega) (Ev.ite_pos (by omega) (Ev.bind (by rw [rdC]; exact E2) ?_)))
          simp only [e3, e4]
          exact Ev.ite_pos (by omega) (Ev.ite_pos (by omega) (Ev.now _))
        · rw [htx, us, u2 (by omega)]; simp
        · by_cases h5 : s2.length ≤ 500
          · rw [← us, ← u2 h5] at htl; omega
          · have := v2 (by omega); omega

inductive It where
  | num (i : Nat)
  | lit (c : UInt8)
def It.enc : It → ByteArray
  | .num i => Bt (Lib.decDigits i)
  | .lit c => Bt [c]
def It.txt (l : List S61) : It → List UInt8
  | .num i => text l i
  | .lit c => [c]
def It.ok (l : List S61) : It → Prop
  | .num i => i < l.length
  | .lit c => c = 40 ∨ c = 32 ∨ c = 41
def stp : Nat → List S61 → Nat → Nat
  | 0, _, _ => 0
  | d + 1, l, i => if (l.getD i z61).f0 = true then 1 else 4 + stp d l (l.getD i z61).f2.toNat + stp d l (l.getD i z61).f3.toNat
theorem stp_eq {l : List S61} (hc : Cells l) : ∀ (d d' i : Nat), i < l.length → i < d → i < d' → stp d l i = stp d' l i := by
  intro d
  induction d with
  | zero => intro d' i _ h _; omega
  | succ d ih =>
    intro d' i hi h1 h2
    obtain ⟨e, rfl⟩ : ∃ e, d' = e + 1 := ⟨d' - 1, by omega⟩
    unfold stp
    by_cases hl : (l.getD i z61).f0 = true
    · rw [if_pos hl, if_pos hl]
    · obtain ⟨⟨a1, a2⟩, b1, b2⟩ := pair_lt hc hi hl
      rw [if_neg hl, if_neg hl, ih e _ (by omega) (by omega) (by omega), ih e (l.getD i z61).f3.toNat (by omega) (by omega) (by omega)]
def It.steps (l : List S61) : It → Nat
  | .num i => stp (i + 1) l i
  | .lit _ => 1
def sumS (l : List S61) : List It → Nat
  | [] => 0
  | x :: xs => x.steps l + sumS l xs
def full (l : List S61) : List It → List UInt8
  | [] => []
  | x :: xs => x.txt l ++ full l xs
theorem num_atoi (i : Nat) (h : i ≤ 1000) : atoiErr (Bt (Lib.decDigits i)) = none ∧ atoiNum (Bt (Lib.decDigits i)) = (i : Int) := by
  have e : (Bt (Lib.decDigits i)).data.toList = Lib.decDigits i := rfl
  unfold atoiErr atoiNum
  rw [e, atoi_dec i (by omega)]
  exact ⟨rfl, rfl⟩
theorem lit_atoi (c : UInt8) (h : c = 40 ∨ c = 32 ∨ c = 41) : (atoiErr (Bt [c])).isSome = true := by
  rcases h with rfl | rfl | rfl <;> decide +kernel
theorem num_size (i : Nat) (h : i ≤ 1000) : (Bt (Lib.decDigits i)).size ≤ 1000 := by
  have e : (Bt (Lib.decDigits i)).size = (Lib.decDigits i).length := B_size _
  have := Lib.itoa_length_le (i : Int) (by omega) (by omega)
  rw [Lib.itoa_nonneg] at this
  omega
theorem loopEv {l : List S61} (hc : Cells l) : ∀ (n : Nat) (out : List UInt8) (its : List It), (∀ x ∈ its, x.ok l) → sumS l its ≤ n →
    (its.length ≤ 4 * out.length + 1 ∨ (∃ rest, its = .lit 40 :: rest ∧ its.length ≤ 4 * out.length + 5)) →
    ∃ o, Ev (fun k => impl_showCell.l0 k l out (its.map It.enc)) o ∧ ((out ++ full l its).length ≤ 500 → o = out ++ full l its) ∧ (500 < (out ++ full l its).length → 500 < o.length) := by
  intro n
  have hlen := hc.len
  induction n with
  | zero =>
    intro out its hok hs hr
    cases its with
    | nil => exact ⟨out, Ev.step (f := fun _ => some out) (fun k => by simp only [List.map_nil, impl_showCell.l0]) (Ev.now _), fun _ => by simp [full], fun h => by simpa [full] using h⟩
    | cons x xs =>
      exfalso
      cases x with
      | lit c => simp only [sumS, It.steps] at hs; omega
      | num i => 
        simp only [sumS, It.steps] at hs
        unfold stp at hs
        split at hs <;> omega
  | succ n ih =>
    intro out its hok hs hr
    cases its with
    | nil => exact ⟨out, Ev.step (f := fun _ => some out) (fun k => by simp only [List.map_nil, impl_showCell.l0]) (Ev.now _), fun _ => by simp [full], fun h => by simpa [full] using h⟩
    | cons x xs =>
      by_cases ho : out.length ≤ 500
      case neg =>
        refine ⟨out, Ev.step (f := fun _ => some out) (fun k => ?_) (Ev.now _), fun h => ?_, fun _ => by omega⟩
        · rw [List.map_cons, impl_showCell.l0, if_neg ho]
        · rw [List.length_append] at h; omega
      have hxs : ∀ y ∈ xs, y.ok l := fun y hy => hok y (List.mem_cons_of_mem _ hy)
      have hxl : xs.length ≤ 3000 := by
        rcases hr with h | ⟨_, _, h⟩ <;> (simp only [List.length_cons] at h; omega)
      have hml : (xs.map It.enc).length ≤ 1000000 := by rw [List.length_map]; omega
      cases x with
      | lit c =>
        have hc1 : c = 40 ∨ c = 32 ∨ c = 41 := hok (.lit c) (by simp)
        obtain ⟨o, hE, p1, p2⟩ := ih (out ++ [c]) xs hxs (by simp only [sumS, It.steps] at hs; omega) (.inl (by
          rw [List.length_append, List.length_singleton]
          rcases hr with h | ⟨_, _, h⟩ <;> (simp only [List.length_cons] at h; omega)))
        have ef : out ++ full l (.lit c :: xs) = out ++ [c] ++ full l xs := by simp [full, It.txt]
        rw [ef]
        refine ⟨o, Ev.step (fun k => ?_) hE, p1, p2⟩
        show impl_showCell.l0 (k + 1) l out (Bt [c] :: xs.map It.enc) = _
        rw [impl_showCell.l0, if_pos ho, if_pos ⟨by show 1 ≤ 1000; omega, hml⟩, if_pos (lit_atoi c hc1)]
        rfl
      | num i =>
        have hi : i < l.length := hok (.num i) (by simp)
        obtain ⟨g1, g2⟩ := num_atoi i (by omega)
        have hr1 : xs.length + 1 ≤ 4 * out.length + 1 := by
          rcases hr with h | ⟨_, h, _⟩
          · simpa using h
          · simp at h
        have n1 : ¬ (atoiErr (Bt (Lib.decDigits i))).isSome = true := by rw [g1]; decide
        have hin : 0 ≤ atoiNum (Bt (Lib.decDigits i)) ∧ atoiNum (Bt (Lib.decDigits i)) < (l.length : Int) := by rw [g2]; omega
        have hrd : rd_T61 l (atoiNum (Bt (Lib.decDigits i))) = l.getD i z61 := by rw [g2, rdC]
        by_cases hl : (l.getD i z61).f0 = true
        · obtain ⟨o, hE, p1, p2⟩ := ih (out ++ Lib.itoa (l.getD i z61).f1) xs hxs (by
            simp only [sumS, It.steps] at hs
            unfold stp at hs
            rw [if_pos hl] at hs; omega) (.inl (by rw [List.length_append]; omega))
          have ef : out ++ full l (.num i :: xs) = out ++ Lib.itoa (l.getD i z61).f1 ++ full l xs := by simp only [full, It.txt]; rw [text_leaf hl, List.append_assoc]
          rw [ef]
          refine ⟨o, Ev.step (fun k => ?_) hE, p1, p2⟩
          show impl_showCell.l0 (k + 1) l out (Bt (Lib.decDigits i) :: xs.map It.enc) = _
          rw [impl_showCell.l0, if_pos ho, if_pos ⟨num_size i (by omega), hml⟩, if_neg n1, if_pos hin, hrd, if_pos hl, if_pos (hc.num i hi)]
        · obtain ⟨⟨a1, a2⟩, b1, b2⟩ := pair_lt hc hi hl
          have hst : stp (i + 1) l i = 4 + stp ((l.getD i z61).f2.toNat + 1) l (l.getD i z61).f2.toNat + stp ((l.getD i z61).f3.toNat + 1) l (l.getD i z61).f3.toNat := by
            rw [stp, if_neg hl, stp_eq hc i ((l.getD i z61).f2.toNat + 1) _ (by omega) (by omega) (by omega), stp_eq hc i ((l.getD i z61).f3.toNat + 1) _ (by omega) (by omega) (by omega)]
          obtain ⟨o, hE, p1, p2⟩ := ih out (.lit 40 :: .num (l.getD i z61).f2.toNat :: .lit 32 :: .num (l.getD i z61).f3.toNat :: .lit 41 :: xs)
            (fun y hy => by
              simp only [List.mem_cons] at hy
              rcases hy with rfl | rfl | rfl | rfl | rfl | hy
              · exact .inl rfl
              · show (l.getD i z61).f2.toNat < l.length; omega
              · exact .inr (.inl rfl)
              · show (l.getD i z61).f3.toNat < l.length; omega
              · exact .inr (.inr rfl)
              · exact hxs y hy)
            (by simp only [sumS, It.steps] at hs ⊢; omega)
            (.inr ⟨_, rfl, by simp only [List.length_cons]; omega⟩)
          have ef : out ++ full l (.num i :: xs) = out ++ full l (.lit 40 :: .num (l.getD i z61).f2.toNat :: .lit 32 :: .num (l.getD i z61).f3.toNat :: .lit 41 :: xs) := by
            simp only [full, It.txt]; rw [text_pair hc hi hl]; simp
          rw [ef]
          refine ⟨o, Ev.step (fun k => ?_) hE, p1, p2⟩
          show impl_showCell.l0 (k + 1) l out (Bt (Lib.decDigits i) :: xs.map It.enc) = _
          rw [impl_showCell.l0, if_pos ho, if_pos ⟨num_size i (by omega), hml⟩, if_neg n1, if_pos hin, hrd, if_neg hl, if_pos ⟨⟨a1, by omega⟩, b1, by omega⟩]
          rfl
end Go.Proofs.YtcbgjcnekdoloaaDoor.ShowL

namespace Go.Proofs.YtcbgjcnekdoloaaDoor.HeapL
open Go.RowKit Go.Proofs.YtcbgjcnekdoloaaDoor.G Go.Proofs.YtcbgjcnekdoloaaDoor.EvL Go.Proofs.YtcbgjcnekdoloaaDoor.TxtL Go.Proofs.YtcbgjcnekdoloaaDoor.ShowL Go.Proofs.YtcbgjcnekdoloaaDoorW.PrintWords Go.Proofs.YtcbgjcnekdoloaaDoorW.PrintLast
set_option linter.unusedVariables false

theorem rank_mono (m : List Bool) : ∀ (d j : Nat), j + d ≤ m.length → rank m j ≤ rank m (j + d)
  | 0, j, _ => Nat.le_refl _
  | d + 1, j, h => by
    have h1 := rank_mono m d j (by omega)
    rw [show j + (d + 1) = j + d + 1 by omega, rank_succ m (j + d) (by omega)]
    omega
theorem rank_le_of (m : List Bool) {i j : Nat} (h : i ≤ j) (hj : j ≤ m.length) : rank m i ≤ rank m j := by
  have := rank_mono m (j - i) i (by omega)
  rwa [show i + (j - i) = j by omega] at this
theorem rank_lt_of (m : List Bool) {i j : Nat} (hm : getB m i = true) (h : i < j) (hj : j ≤ m.length) : rank m i < rank m j := by
  have h1 := rank_le_of m (show i + 1 ≤ j by omega) hj
  rw [rank_succ m i (getB_lt hm), if_pos hm] at h1
  omega
theorem pick_len {β : Type} (f : Nat → β) (m : List Bool) : ∀ (d i : Nat), i + d ≤ m.length → rank m i + (pickFrom f m i d).length = rank m (i + d)
  | 0, i, _ => by simp [pickFrom]
  | d + 1, i, h => by
    have ih := pick_len f m d (i + 1) (by omega)
    rw [pickFrom_succ, List.length_append, show i + (d + 1) = i + 1 + d by omega, ← ih, rank_succ m i (by omega)]
    by_cases hm : getB m i = true
    · rw [if_pos hm, if_pos hm]; simp; omega
    · rw [if_neg hm, if_neg hm]; simp
theorem pick_get {β : Type} (f : Nat → β) (m : List Bool) : ∀ (d i : Nat), i + d ≤ m.length → ∀ j, i ≤ j → j < i + d → getB m j = true → (pickFrom f m i d)[rank m j - rank m i]? = some (f j)
  | 0, i, _, j, h1, h2, _ => by omega
  | d + 1, i, h, j, h1, h2, hj => by
    rw [pickFrom_succ]
    by_cases e : j = i
    · subst e
      rw [if_pos hj, Nat.sub_self]; rfl
    · have ih := pick_get f m d (i + 1) (by omega) j (by omega) (by omega) hj
      have hr := rank_le_of m (show i + 1 ≤ j by omega) (by omega)
      have hs := rank_succ m i (by omega)
      by_cases hm : getB m i = true
      · rw [if_pos hm] at hs ⊢
        rw [List.getElem?_append_right (by simp; omega)]
        rw [show rank m j - rank m i - [f i].length = rank m j - rank m (i + 1) by rw [hs]; simp; omega]
        exact ih
      · rw [if_neg hm] at hs ⊢
        rw [List.nil_append, show rank m i = rank m (i + 1) by omega]
        exact ih
theorem pick_surj {β : Type} (f : Nat → β) (m : List Bool) : ∀ (d i : Nat), i + d ≤ m.length → ∀ q, q < (pickFrom f m i d).length → ∃ j, i ≤ j ∧ j < i + d ∧ getB m j = true ∧ q + rank m i = rank m j
  | 0, i, _, q, hq => by simp [pickFrom] at hq
  | d + 1, i, h, q, hq => by
    rw [pickFrom_succ, List.length_append] at hq
    have hs := rank_succ m i (by omega)
    by_cases hm : getB m i = true
    · rw [if_pos hm] at hq hs
      cases q with
      | zero => exact ⟨i, Nat.le_refl _, by omega, hm, by omega⟩
      | succ q =>
        obtain ⟨j, h1, h2, h3, h4⟩ := pick_surj f m d (i + 1) (by omega) q (by simp at hq; omega)
        exact ⟨j, by omega, by omega, h3, by omega⟩
    · rw [if_neg hm] at hq hs
      obtain ⟨j, h1, h2, h3, h4⟩ := pick_surj f m d (i + 1) (by omega) q (by simpa using hq)
      exact ⟨j, by omega, by omega, h3, by omega⟩

def kcells (c : List S61) (m : List Bool) : List S61 := pickFrom (newCell c m) m 0 c.length
theorem kcells_len {c : List S61} {m : List Bool} (hm : m.length = c.length) : (kcells c m).length = rank m c.length := by
  have := pick_len (newCell c m) m c.length 0 (by omega)
  have h0 : rank m 0 = 0 := rfl
  unfold kcells
  rw [Nat.zero_add] at this; omega
theorem kcells_get {c : List S61} {m : List Bool} (hm : m.length = c.length) {j : Nat} (hj : getB m j = true) : (kcells c m).getD (rank m j) z61 = newCell c m j := by
  have := pick_get (newCell c m) m c.length 0 (by omega) j (by omega) (by have := getB_lt hj; omega) hj
  have h0 : rank m 0 = 0 := rfl
  rw [h0, Nat.sub_zero] at this
  unfold kcells
  rw [List.getD_eq_getElem?_getD, this]; rfl
theorem kcells_of {c : List S61} {m : List Bool} (hm : m.length = c.length) {q : Nat} (hq : q < (kcells c m).length) : ∃ j, j < c.length ∧ getB m j = true ∧ q = rank m j := by
  obtain ⟨j, _, h2, h3, h4⟩ := pick_surj (newCell c m) m c.length 0 (by omega) q hq
  have h0 : rank m 0 = 0 := rfl
  exact ⟨j, by omega, h3, by omega⟩
theorem kcells_lt {c : List S61} {m : List Bool} (hm : m.length = c.length) {j : Nat} (hj : getB m j = true) : rank m j < (kcells c m).length := by
  rw [kcells_len hm]
  have := getB_lt hj
  exact rank_lt_of m hj (by omega) (by omega)
theorem new_f0 (c : List S61) (m : List Bool) (j : Nat) : (newCell c m j).f0 = (c.getD j z61).f0 := by unfold newCell; split <;> rfl
theorem new_f1 (c : List S61) (m : List Bool) (j : Nat) : (newCell c m j).f1 = (c.getD j z61).f1 := by unfold newCell; split <;> rfl
theorem new_pair {c : List S61} {m : List Bool} {j : Nat} (h : ¬ (c.getD j z61).f0 = true) : (newCell c m j).f2 = (rank m (pA c j) : Int) ∧ (newCell c m j).f3 = (rank m (pB c j) : Int) := by unfold newCell; rw [if_neg h]; exact ⟨rfl, rfl⟩
theorem pair_of {c : List S61} {j : Nat} (h : ¬ (c.getD j z61).f0 = true) : pairAt c j = true := by unfold pairAt; simpa using h
theorem cell_ok {c : List S61} (hc : cellsOk c = true) {i : Nat} (hi : i < c.length) : CellOk (c.getD i z61) i := by
  unfold cellsOk at hc
  rw [List.all_eq_true] at hc
  exact of_decide_eq_true (hc i (List.mem_range.mpr hi))
theorem kcells_ok {c : List S61} {S : Nat → Prop} {m : List Bool} (hm : Least c S m) (hc : cellsOk c = true) : cellsOk (kcells c m) = true := by
  unfold cellsOk
  rw [List.all_eq_true]
  intro q hq
  refine decide_eq_true ?_
  obtain ⟨j, hj, hb, rfl⟩ := kcells_of hm.len (List.mem_range.mp hq)
  rw [kcells_get hm.len hb]
  by_cases h : (c.getD j z61).f0 = true
  · have e : newCell c m j = c.getD j z61 := by unfold newCell; rw [if_pos h]
    rw [e]
    rcases cell_ok hc hj with h1 | h1
    · exact .inl h1
    · rw [h] at h1; exact absurd h1.1 (by simp)
  · obtain ⟨e2, e3⟩ := new_pair (m := m) h
    obtain ⟨ha, hb2⟩ := hm.closed j hj hb (pair_of h)
    have hp := parts_lt hc hj (pair_of h)
    have hl := hm.len
    rcases cell_ok hc hj with h1 | ⟨h1, h2, h3⟩
    · exact absurd h1.1 h
    · refine .inr ⟨by rw [new_f0]; exact h1, by rw [new_f1]; exact h2, ?_⟩
      have l1 := rank_lt_of m ha (show pA c j < j by unfold pA; omega) (by omega)
      have l2 := rank_lt_of m hb2 (show pB c j < j by unfold pB; omega) (by omega)
      rw [e2, e3]; omega
theorem roots_mem {m : List Bool} {r : List Int} {x : Int} (h : x ∈ newRoots m r) : ∃ y ∈ r, x = (rank m y.toNat : Int) := by
  obtain ⟨y, hy, e⟩ := List.mem_map.mp h
  exact ⟨y, hy, e.symm⟩
theorem told_good {old : Int} {c : List S61} {r : List Int} {S : Nat → Prop} {m : List Bool} (hg : goodH old c r = true) (hm : Least c S m) (hrm : ∀ x ∈ r, getB m x.toNat = true) : goodH (told c m r).1 (told c m r).2.1 (told c m r).2.2 = true := by
  obtain ⟨hn, hr, ho, hc, hro⟩ := good_parts hg
  have hl : (kcells c m).length ≤ c.length := pickFrom_len _ _ _ _
  show goodH ((kcells c m).length : Int) (kcells c m) (newRoots m r) = true
  unfold goodH
  simp only [Bool.and_eq_true, decide_eq_true_eq]
  refine ⟨by omega, by unfold newRoots; rw [List.length_map]; exact hr, ⟨by omega, by omega⟩, kcells_ok hm hc, ?_⟩
  unfold rootsOk
  rw [List.all_eq_true]
  intro x hx
  obtain ⟨y, hy, rfl⟩ := roots_mem hx
  have := kcells_lt (c := c) hm.len (hrm y hy)
  exact decide_eq_true (by omega)
theorem again {c : List S61} {r : List Int} {m m' : List Bool} (hc : cellsOk c = true) (hro : ∀ x ∈ r, 0 ≤ x ∧ x < (c.length : Int)) (hm : Least c (fun j => (j : Int) ∈ r) m) (hm' : Least (kcells c m) (fun j => (j : Int) ∈ newRoots m r) m') : rank m' (kcells c m).length = (kcells c m).length := by
  have all : ∀ q, q < (kcells c m).length → getB m' q = true := by
    have key := hm.min (fun j => getB m j = true ∧ getB m' (rank m j) = true) (fun j hj hs => by
        have hb := hm.base j hj hs
        exact ⟨hb, hm'.base _ (kcells_lt hm.len hb) (List.mem_map.mpr ⟨(j : Int), hs, by rw [Int.toNat_natCast]⟩)⟩) (fun i hi hp hpair => by
        obtain ⟨ha, hb⟩ := hm.closed i hi hp.1 hpair
        have hf : ¬ (c.getD i z61).f0 = true := by unfold pairAt at hpair; simpa using hpair
        have hg := kcells_get hm.len hp.1
        obtain ⟨e2, e3⟩ := new_pair (m := m) hf
        have h2 := hm'.closed (rank m i) (kcells_lt hm.len hp.1) hp.2 (pair_of (by rw [hg, new_f0]; exact hf))
        have pa : pA (kcells c m) (rank m i) = rank m (pA c i) := by unfold pA; rw [hg, e2]; exact Int.toNat_natCast _
        have pb : pB (kcells c m) (rank m i) = rank m (pB c i) := by unfold pB; rw [hg, e3]; exact Int.toNat_natCast _
        rw [pa, pb] at h2
        exact ⟨⟨ha, h2.1⟩, ⟨hb, h2.2⟩⟩)
    intro q hq
    obtain ⟨j, _, hb, rfl⟩ := kcells_of hm.len hq
    exact (key j hb).2
  have step : ∀ n, n ≤ (kcells c m).length → rank m' n = n := by
    intro n
    induction n with
    | zero => intro _; rfl
    | succ n ih =>
      intro h
      rw [rank_succ m' n (by rw [hm'.len]; omega), ih (by omega), if_pos (all n (by omega))]
  exact step _ (Nat.le_refl _)
theorem rank_sub {c : List S61} {S T : Nat → Prop} {m m2 : List Bool} (hm : Least c S m) (hm2 : Least c T m2) (h : ∀ j, j < c.length → S j → T j) : rank m c.length ≤ rank m2 c.length := by
  have sub : ∀ j, getB m j = true → getB m2 j = true := hm.min _ (fun j hj hs => hm2.base j hj (h j hj hs)) hm2.closed
  have step : ∀ n, n ≤ c.length → rank m n ≤ rank m2 n := by
    intro n
    induction n with
    | zero => intro _; exact Nat.le_refl _
    | succ n ih =>
      intro hn
      have := ih (by omega)
      rw [rank_succ m n (by rw [hm.len]; omega), rank_succ m2 n (by rw [hm2.len]; omega)]
      by_cases hb : getB m n = true
      · rw [if_pos hb, if_pos (sub n hb)]; omega
      · rw [if_neg hb]; omega
  exact step _ (Nat.le_refl _)
theorem text_kept {c : List S61} {S : Nat → Prop} {m : List Bool} (hm : Least c S m) (hC : Cells c) (hK : Cells (kcells c m)) : ∀ (n j : Nat), j < n → getB m j = true → text (kcells c m) (rank m j) = text c j := by
  intro n
  induction n with
  | zero => intro j h; omega
  | succ n ih =>
    intro j hj hb
    have hg := kcells_get hm.len hb
    have hjl : j < c.length := by have := getB_lt hb; rw [hm.len] at this; exact this
    by_cases h : (c.getD j z61).f0 = true
    · rw [text_leaf h, text_leaf (by rw [hg, new_f0]; exact h), hg, new_f1]
    · have hp := pair_lt hC hjl h
      obtain ⟨ha, hb2⟩ := hm.closed j hjl hb (pair_of h)
      obtain ⟨e2, e3⟩ := new_pair (m := m) h
      rw [text_pair hC hjl h, text_pair hK (kcells_lt hm.len hb) (by rw [hg, new_f0]; exact h), hg, e2, e3, Int.toNat_natCast, Int.toNat_natCast,
        ih (pA c j) (by unfold pA; omega) ha, ih (pB c j) (by unfold pB; omega) hb2]
      rfl
theorem cells_of {old : Int} {c : List S61} {r : List Int} (hg : goodH old c r = true) (hnum : ∀ x ∈ c, -9223372036854775808 ≤ x.f1 ∧ x.f1 ≤ 9223372036854775807) : Cells c := by
  obtain ⟨hl, _, _, hok, _⟩ := good_parts hg
  exact ⟨hl, fun j hj => cell_ok hok hj, fun j hj => by
    rw [List.getD_eq_getElem?_getD, List.getElem?_eq_getElem hj]
    exact hnum _ (List.getElem_mem hj)⟩
theorem kcells_num {c : List S61} {S : Nat → Prop} {m : List Bool} (hm : Least c S m) (hnum : ∀ x ∈ c, -9223372036854775808 ≤ x.f1 ∧ x.f1 ≤ 9223372036854775807) : ∀ x ∈ kcells c m, -9223372036854775808 ≤ x.f1 ∧ x.f1 ≤ 9223372036854775807 := by
  intro x hx
  obtain ⟨q, hq, e⟩ := List.getElem_of_mem hx
  obtain ⟨j, hj, hb, rfl⟩ := kcells_of hm.len hq
  have h1 := kcells_get hm.len hb
  rw [List.getD_eq_getElem?_getD, List.getElem?_eq_getElem hq] at h1
  have h2 : x = newCell c m j := by rw [← e]; exact h1
  rw [h2, new_f1, List.getD_eq_getElem?_getD, List.getElem?_eq_getElem hj]
  exact hnum _ (List.getElem_mem hj)
def shown (c : List S61) (i : Nat) : ByteArray × Bool := if 500 < (text c i).length then (⟨#[]⟩, false) else (B (text c i), true)
theorem showI {old : Int} {C : List S61} {r : List Int} (hg : goodH old C r = true) (hC : Cells C) {i : Nat} (hi : i < C.length) : Ev (fun k => impl_ShowCell.f k old C r (i : Int)) (shown C i) := by
  have him := implGood old C r
  rw [hg] at him
  have hl := hC.len
  have e2 : impl_isBelow.f (i : Int) (C.length : Int) = some true := by rw [isBelow_eq, decide_eq_true (by omega)]
  obtain ⟨o, hO, p1, p2⟩ := loopEv hC _ [] [.num i] (fun x hx => by rw [List.mem_singleton] at hx; subst hx; exact hi) (Nat.le_refl _) (.inl (by simp))
  have e : ([] : List UInt8) ++ full C [.num i] = text C i := by simp [full, It.txt]
  rw [e] at p1 p2
  have hI : 0 ≤ (i : Int) ∧ (i : Int) ≤ 9223372036854775807 := by omega
  have hO' : Ev (fun k => impl_showCell.l0 k C [] [Bt (Lib.decDigits (i : Int).toNat)]) o := by rw [Int.toNat_natCast]; exact hO
  unfold impl_ShowCell.f shown
  by_cases hs : 500 < (text C i).length
  · rw [if_pos hs]
    refine Ev.bind him (Ev.ite_pos rfl (Ev.bind (Ev.const e2) (Ev.ite_pos rfl ?_)))
    unfold impl_showCell.f
    exact Ev.bind (Ev.ite_pos hI (Ev.bind hO' (Ev.ite_pos (p2 hs) (Ev.now _)))) (Ev.now _)
  · rw [if_neg hs]
    have ho := p1 (by omega)
    refine Ev.bind him (Ev.ite_pos rfl (Ev.bind (Ev.const e2) (Ev.ite_pos rfl ?_)))
    unfold impl_showCell.f
    exact Ev.bind (Ev.ite_pos hI (Ev.bind hO' (Ev.ite_neg (by rw [ho]; exact hs) (Ev.of_eq (Ev.now _) (by rw [ho]))))) (Ev.now _)
end Go.Proofs.YtcbgjcnekdoloaaDoor.HeapL

namespace Go.Proofs.YtcbgjcnekdoloaaDoor.PlayL
open Go.RowKit Go.Proofs.YtcbgjcnekdoloaaDoor.G Go.Proofs.YtcbgjcnekdoloaaDoor.EvL Go.Proofs.YtcbgjcnekdoloaaDoor.TxtL Go.Proofs.YtcbgjcnekdoloaaDoor.ShowL Go.Proofs.YtcbgjcnekdoloaaDoor.HeapL Go.Proofs.YtcbgjcnekdoloaaDoorW.PrintWords Go.Proofs.YtcbgjcnekdoloaaDoorW.PrintLast
set_option linter.unusedVariables false

structure Pl where
  old : Int
  cs : List S61
  rs : List Int
  full : Bool
def cellF (k : Nat) (room nur : Int) (s : Pl) (pair : Bool) (n a b : Int) : Option Pl :=
  if s.rs.length = 60 then some s else
  (if (s.cs.length : Int) - s.old ≥ nur then spec_l7Minor.f k s.old s.cs s.rs else some (s.old, s.cs, s.rs)).bind fun h1 =>
  (if (h1.2.1.length : Int) ≥ room then spec_l7Collect.f k h1.1 h1.2.1 h1.2.2 else some h1).bind fun h2 =>
  if (h2.2.1.length : Int) ≥ room then some ⟨h2.1, h2.2.1, h2.2.2, true⟩ else
  if pair = true then (if 0 ≤ a ∧ a < (h2.2.2.length : Int) ∧ 0 ≤ b ∧ b < (h2.2.2.length : Int) then some ⟨h2.1, h2.2.1 ++ [⟨false, 0, rd h2.2.2 a, rd h2.2.2 b⟩], h2.2.2 ++ [(h2.2.1.length : Int)], s.full⟩ else none)
  else some ⟨h2.1, h2.2.1 ++ [⟨true, n, 0, 0⟩], h2.2.2 ++ [(h2.2.1.length : Int)], s.full⟩
def Num (c : List S61) : Prop := ∀ x ∈ c, -9223372036854775808 ≤ x.f1 ∧ x.f1 ≤ 9223372036854775807
structure Fine (s : Pl) : Prop where
  good : goodH s.old s.cs s.rs = true
  num : Num s.cs
theorem minor_ev {old : Int} {c : List S61} {r : List Int} (hg : goodH old c r = true) (hn : Num c) : ∃ h, Ev (fun k => spec_l7Minor.f k old c r) h ∧ goodH h.1 h.2.1 h.2.2 = true ∧ Num h.2.1 ∧ h.2.2.length = r.length := by
  obtain ⟨_, _, _, hc, hro⟩ := good_parts hg
  have hro' : ∀ x ∈ r, 0 ≤ x ∧ x < (c.length : Int) := fun x hx => of_decide_eq_true (List.all_eq_true.mp hro x hx)
  obtain ⟨m, hm, hev, _⟩ := minorBoth old c r hg
  have hrm : ∀ x ∈ r, getB m x.toNat = true := fun x hx => hm.base x.toNat (by have := hro' x hx; omega) (.inr (by rw [show ((x.toNat : Nat) : Int) = x by have := hro' x hx; omega]; exact hx))
  exact ⟨_, hev, told_good hg hm hrm, kcells_num hm hn, by show (newRoots m r).length = _; unfold newRoots; rw [List.length_map]⟩
theorem collect_ev {old : Int} {c : List S61} {r : List Int} (hg : goodH old c r = true) (hn : Num c) : ∃ h, Ev (fun k => spec_l7Collect.f k old c r) h ∧ goodH h.1 h.2.1 h.2.2 = true ∧ Num h.2.1 ∧ h.2.2.length = r.length := by
  obtain ⟨_, _, _, hc, hro⟩ := good_parts hg
  have hro' : ∀ x ∈ r, 0 ≤ x ∧ x < (c.length : Int) := fun x hx => of_decide_eq_true (List.all_eq_true.mp hro x hx)
  obtain ⟨m, hm, hev, _⟩ := collectBoth old c r hg
  have hrm : ∀ x ∈ r, getB m x.toNat = true := fun x hx => hm.base x.toNat (by have := hro' x hx; omega) (by rw [show ((x.toNat : Nat) : Int) = x by have := hro' x hx; omega]; exact hx)
  exact ⟨_, hev, told_good hg hm hrm, kcells_num hm hn, by show (newRoots m r).length = _; unfold newRoots; rw [List.length_map]⟩
theorem put_good {old : Int} {c : List S61} {r : List Int} {x : S61} (hg : goodH old c r = true) (hc2 : c.length < 200) (hr2 : r.length < 60) (hx : CellOk x c.length) : goodH old (c ++ [x]) (r ++ [(c.length : Int)]) = true := by
  obtain ⟨hn, hr, ho, hc, hro⟩ := good_parts hg
  unfold goodH
  simp only [Bool.and_eq_true, decide_eq_true_eq, List.length_append, List.length_singleton]
  refine ⟨by omega, by omega, ⟨by omega, by omega⟩, ?_, ?_⟩
  · unfold cellsOk at hc ⊢
    rw [List.all_eq_true] at hc ⊢
    intro i hi
    have hi' : i < c.length + 1 := by simpa using hi
    refine decide_eq_true ?_
    by_cases h : i < c.length
    · have := of_decide_eq_true (hc i (List.mem_range.mpr h))
      rwa [List.getD_eq_getElem?_getD, List.getElem?_append_left h, ← List.getD_eq_getElem?_getD]
    · obtain rfl : i = c.length := by omega
      rw [List.getD_eq_getElem?_getD, List.getElem?_append_right (Nat.le_refl _), Nat.sub_self]
      exact hx
  · unfold rootsOk at hro ⊢
    rw [List.all_append, Bool.and_eq_true]
    refine ⟨?_, by simp; omega⟩
    rw [List.all_eq_true] at hro ⊢
    intro y hy
    have := of_decide_eq_true (hro y hy)
    exact decide_eq_true (by omega)
theorem num_put {c : List S61} {x : S61} (h : Num c) (hx : -9223372036854775808 ≤ x.f1 ∧ x.f1 ≤ 9223372036854775807) : Num (c ++ [x]) := fun y hy => by
  rcases List.mem_append.mp hy with h1 | h1
  · exact h y h1
  · rw [List.mem_singleton] at h1; subst h1; exact hx
theorem cell_ev {s : Pl} (hs : Fine s) (nur : Int) (pair : Bool) (n a b : Int) (hn : -9223372036854775808 ≤ n ∧ n ≤ 9223372036854775807) (hp : pair = true → (0 ≤ a ∧ a < (s.rs.length : Int)) ∧ 0 ≤ b ∧ b < (s.rs.length : Int)) :
    ∃ t, Ev (fun k => cellF k 200 nur s pair n a b) t ∧ Fine t := by
  unfold cellF
  by_cases h60 : s.rs.length = 60
  · exact ⟨s, Ev.ite_pos h60 (Ev.now _), hs⟩
  have one : ∃ h1, Ev (fun k => if (s.cs.length : Int) - s.old ≥ nur then spec_l7Minor.f k s.old s.cs s.rs else some (s.old, s.cs, s.rs)) h1 ∧ goodH h1.1 h1.2.1 h1.2.2 = true ∧ Num h1.2.1 ∧ h1.2.2.length = s.rs.length := by
    by_cases h : (s.cs.length : Int) - s.old ≥ nur
    · obtain ⟨x, e, g⟩ := minor_ev hs.good hs.num
      exact ⟨x, Ev.ite_pos h e, g⟩
    · exact ⟨(s.old, s.cs, s.rs), Ev.ite_neg h (Ev.now _), hs.good, hs.num, rfl⟩
  obtain ⟨h1, e1, g1, n1, r1⟩ := one
  have two : ∃ h2, Ev (fun k => if (h1.2.1.length : Int) ≥ 200 then spec_l7Collect.f k h1.1 h1.2.1 h1.2.2 else some h1) h2 ∧ goodH h2.1 h2.2.1 h2.2.2 = true ∧ Num h2.2.1 ∧ h2.2.2.length = s.rs.length := by
    by_cases h : (h1.2.1.length : Int) ≥ 200
    · obtain ⟨x, e, g, nn, rr⟩ := collect_ev g1 n1
      exact ⟨x, Ev.ite_pos h e, g, nn, rr.trans r1⟩
    · exact ⟨h1, Ev.ite_neg h (Ev.now _), g1, n1, r1⟩
  obtain ⟨h2, e2, g2, n2, r2⟩ := two
  obtain ⟨q1, q2, q3, _, q5⟩ := good_parts g2
  have hro' : ∀ x ∈ h2.2.2, 0 ≤ x ∧ x < (h2.2.1.length : Int) := fun x hx => of_decide_eq_true (List.all_eq_true.mp q5 x hx)
  have hlt : s.rs.length < 60 := by have := (good_parts hs.good).2.1; omega
  by_cases hf : (h2.2.1.length : Int) ≥ 200
  · exact ⟨⟨h2.1, h2.2.1, h2.2.2, true⟩, Ev.ite_neg h60 (Ev.bind e1 (Ev.bind e2 (Ev.ite_pos hf (Ev.now _)))), ⟨g2, n2⟩⟩
  cases pair with
  | true =>
    obtain ⟨ha, hb⟩ := hp rfl
    have mem : ∀ x : Int, 0 ≤ x → x < (h2.2.2.length : Int) → rd h2.2.2 x ∈ h2.2.2 := fun x h0 hx => by
      unfold rd
      rw [List.getD_eq_getElem?_getD, List.getElem?_eq_getElem (by omega)]
      exact List.getElem_mem _
    have ma := hro' _ (mem a ha.1 (by omega))
    have mb := hro' _ (mem b hb.1 (by omega))
    exact ⟨⟨h2.1, h2.2.1 ++ [⟨false, 0, rd h2.2.2 a, rd h2.2.2 b⟩], h2.2.2 ++ [(h2.2.1.length : Int)], s.full⟩, Ev.ite_neg h60 (Ev.bind e1 (Ev.bind e2 (Ev.ite_neg hf (Ev.ite_pos rfl (Ev.ite_pos ⟨ha.1, by omega, hb.1, by omega⟩ (Ev.now _)))))),
      ⟨put_good g2 (by omega) (by omega) (.inr ⟨rfl, rfl, ma.1, ma.2, mb.1, mb.2⟩), num_put n2 (by show _ ≤ (0 : Int) ∧ (0 : Int) ≤ _; omega)⟩⟩
  | false =>
    exact ⟨⟨h2.1, h2.2.1 ++ [⟨true, n, 0, 0⟩], h2.2.2 ++ [(h2.2.1.length : Int)], s.full⟩, Ev.ite_neg h60 (Ev.bind e1 (Ev.bind e2 (Ev.ite_neg hf (Ev.ite_neg (by simp) (Ev.now _))))),
      ⟨put_good g2 (by omega) (by omega) (.inl ⟨rfl, rfl, rfl⟩), num_put n2 hn⟩⟩
def opF (k : Nat) (room nur : Int) (s : Pl) (kd A B : Int) : Option Pl :=
  if kd = 1 then cellF k room nur s false A 0 0 else
  if kd = 2 then (if (0 ≤ A ∧ A < (s.rs.length : Int)) ∧ 0 ≤ B ∧ B < (s.rs.length : Int) then cellF k room nur s true 0 A B else some s) else
  if kd = 3 ∨ kd = 4 then (if ¬ (0 ≤ A ∧ A < (s.rs.length : Int)) ∨ s.rs.length = 60 then some s else
    if (s.cs.getD (rd s.rs A).toNat z61).f0 = true then some s else
    if kd = 3 then some ⟨s.old, s.cs, s.rs ++ [(s.cs.getD (rd s.rs A).toNat z61).f2], s.full⟩ else some ⟨s.old, s.cs, s.rs ++ [(s.cs.getD (rd s.rs A).toNat z61).f3], s.full⟩) else
  if kd = 5 then (if 0 ≤ A ∧ A < (s.rs.length : Int) then some ⟨s.old, s.cs, s.rs.take A.toNat ++ s.rs.drop (A.toNat + 1), s.full⟩ else some s) else
  if kd = 6 then (if 0 ≤ A ∧ A < (s.rs.length : Int) then (spec_l7Show.f k s.cs (rd s.rs A)).bind fun _ => some s else some s) else
  if kd = 8 then (spec_l7Collect.f k s.old s.cs s.rs).bind fun h => some ⟨h.1, h.2.1, h.2.2, s.full⟩ else
  if kd = 9 then (spec_l7Minor.f k s.old s.cs s.rs).bind fun h => some ⟨h.1, h.2.1, h.2.2, s.full⟩ else some s
theorem roots_good {old : Int} {c : List S61} {r r' : List Int} (hg : goodH old c r = true) (hl : r'.length ≤ 60) (h : ∀ x ∈ r', 0 ≤ x ∧ x < (c.length : Int)) : goodH old c r' = true := by
  obtain ⟨hn, _, ho, hc, _⟩ := good_parts hg
  unfold goodH
  simp only [Bool.and_eq_true, decide_eq_true_eq]
  exact ⟨hn, hl, ho, hc, List.all_eq_true.mpr fun x hx => decide_eq_true (h x hx)⟩
theorem op_ev {s : Pl} (hs : Fine s) (nur kd A B : Int) (hA : -9223372036854775808 ≤ A ∧ A ≤ 9223372036854775807) : ∃ t, Ev (fun k => opF k 200 nur s kd A B) t ∧ Fine t := by
  obtain ⟨hn, hr, ho, hc, hro⟩ := good_parts hs.good
  have hro' : ∀ x ∈ s.rs, 0 ≤ x ∧ x < (s.cs.length : Int) := fun x hx => of_decide_eq_true (List.all_eq_true.mp hro x hx)
  have mem : ∀ x : Int, 0 ≤ x → x < (s.rs.length : Int) → rd s.rs x ∈ s.rs := fun x h0 hx => by
    unfold rd
    rw [List.getD_eq_getElem?_getD, List.getElem?_eq_getElem (by omega)]
    exact List.getElem_mem _
  unfold opF
  by_cases k1 : kd = 1
  · obtain ⟨t, e, f⟩ := cell_ev hs nur false A 0 0 hA (fun h => by simp at h)
    exact ⟨t, Ev.ite_pos k1 e, f⟩
  by_cases k2 : kd = 2
  · by_cases h : (0 ≤ A ∧ A < (s.rs.length : Int)) ∧ 0 ≤ B ∧ B < (s.rs.length : Int)
    · obtain ⟨t, e, f⟩ := cell_ev hs nur true 0 A B (by omega) (fun _ => h)
      exact ⟨t, Ev.ite_neg k1 (Ev.ite_pos k2 (Ev.ite_pos h e)), f⟩
    · exact ⟨s, Ev.ite_neg k1 (Ev.ite_pos k2 (Ev.ite_neg h (Ev.now _))), hs⟩
  by_cases k3 : kd = 3 ∨ kd = 4
  · by_cases h : ¬ (0 ≤ A ∧ A < (s.rs.length : Int)) ∨ s.rs.length = 60
    · exact ⟨s, Ev.ite_neg k1 (Ev.ite_neg k2 (Ev.ite_pos k3 (Ev.ite_pos h (Ev.now _)))), hs⟩
    by_cases hl : (s.cs.getD (rd s.rs A).toNat z61).f0 = true
    · exact ⟨s, Ev.ite_neg k1 (Ev.ite_neg k2 (Ev.ite_pos k3 (Ev.ite_neg h (Ev.ite_pos hl (Ev.now _))))), hs⟩
    have hA' : 0 ≤ A ∧ A < (s.rs.length : Int) := Classical.byContradiction fun g => h (.inl g)
    have h60 : s.rs.length ≠ 60 := fun g => h (.inr g)
    have hm := hro' _ (mem A hA'.1 hA'.2)
    have hp : ((0 ≤ (s.cs.getD (rd s.rs A).toNat z61).f2 ∧ (s.cs.getD (rd s.rs A).toNat z61).f2 < (s.cs.length : Int)) ∧ 0 ≤ (s.cs.getD (rd s.rs A).toNat z61).f3 ∧ (s.cs.getD (rd s.rs A).toNat z61).f3 < (s.cs.length : Int)) := by
      rcases cell_ok hc (i := (rd s.rs A).toNat) (by omega) with g | ⟨_, _, g⟩
      · exact absurd g.1 hl
      · omega
    have put : ∀ y : Int, 0 ≤ y ∧ y < (s.cs.length : Int) → Fine ⟨s.old, s.cs, s.rs ++ [y], s.full⟩ := fun y hy => ⟨roots_good hs.good (by rw [List.length_append]; show s.rs.length + 1 ≤ 60; omega) (fun x hx => by
      rcases List.mem_append.mp hx with g | g
      · exact hro' x g
      · rw [List.mem_singleton] at g; subst g; exact hy), hs.num⟩
    by_cases k4 : kd = 3
    · exact ⟨_, Ev.ite_neg k1 (Ev.ite_neg k2 (Ev.ite_pos k3 (Ev.ite_neg h (Ev.ite_neg hl (Ev.ite_pos k4 (Ev.now _)))))), put _ hp.1⟩
    · exact ⟨_, Ev.ite_neg k1 (Ev.ite_neg k2 (Ev.ite_pos k3 (Ev.ite_neg h (Ev.ite_neg hl (Ev.ite_neg k4 (Ev.now _)))))), put _ hp.2⟩
  by_cases k5 : kd = 5
  · by_cases h : 0 ≤ A ∧ A < (s.rs.length : Int)
    · refine ⟨⟨s.old, s.cs, s.rs.take A.toNat ++ s.rs.drop (A.toNat + 1), s.full⟩, Ev.ite_neg k1 (Ev.ite_neg k2 (Ev.ite_neg k3 (Ev.ite_pos k5 (Ev.ite_pos h (Ev.now _))))), ⟨roots_good hs.good (by rw [List.length_append, List.length_take, List.length_drop]; omega) (fun x hx => ?_), hs.num⟩⟩
      rcases List.mem_append.mp hx with g | g
      · exact hro' x (List.mem_of_mem_take g)
      · exact hro' x (List.mem_of_mem_drop g)
    · exact ⟨s, Ev.ite_neg k1 (Ev.ite_neg k2 (Ev.ite_neg k3 (Ev.ite_pos k5 (Ev.ite_neg h (Ev.now _))))), hs⟩
  by_cases k6 : kd = 6
  · by_cases h : 0 ≤ A ∧ A < (s.rs.length : Int)
    · have hm := hro' _ (mem A h.1 h.2)
      obtain ⟨j, hj⟩ : ∃ j : Nat, rd s.rs A = (j : Int) := ⟨(rd s.rs A).toNat, by omega⟩
      obtain ⟨o, e, _⟩ := showEv (cells_of hs.good hs.num) (j + 1) j (by omega) (by omega)
      refine ⟨s, Ev.ite_neg k1 (Ev.ite_neg k2 (Ev.ite_neg k3 (Ev.ite_neg k5 (Ev.ite_pos k6 (Ev.ite_pos h (Ev.bind (a := TxtL.B o) (by rw [hj]; exact e) (Ev.now _))))))), hs⟩
    · exact ⟨s, Ev.ite_neg k1 (Ev.ite_neg k2 (Ev.ite_neg k3 (Ev.ite_neg k5 (Ev.ite_pos k6 (Ev.ite_neg h (Ev.now _)))))), hs⟩
  by_cases k8 : kd = 8
  · obtain ⟨x, e, g, nn, _⟩ := collect_ev hs.good hs.num
    exact ⟨⟨x.1, x.2.1, x.2.2, s.full⟩, Ev.ite_neg k1 (Ev.ite_neg k2 (Ev.ite_neg k3 (Ev.ite_neg k5 (Ev.ite_neg k6 (Ev.ite_pos k8 (Ev.bind e (Ev.now _))))))), ⟨g, nn⟩⟩
  by_cases k9 : kd = 9
  · obtain ⟨x, e, g, nn, _⟩ := minor_ev hs.good hs.num
    exact ⟨⟨x.1, x.2.1, x.2.2, s.full⟩, Ev.ite_neg k1 (Ev.ite_neg k2 (Ev.ite_neg k3 (Ev.ite_neg k5 (Ev.ite_neg k6 (Ev.ite_neg k8 (Ev.ite_pos k9 (Ev.bind e (Ev.now _)))))))), ⟨g, nn⟩⟩
  · exact ⟨s, Ev.ite_neg k1 (Ev.ite_neg k2 (Ev.ite_neg k3 (Ev.ite_neg k5 (Ev.ite_neg k6 (Ev.ite_neg k8 (Ev.ite_neg k9 (Ev.now _))))))), hs⟩
def playF (k : Nat) (room nur : Int) : Pl → List (Int × Int × Int) → Option Pl
  | s, [] => some s
  | s, o :: l => (opF k room nur s o.1 o.2.1 o.2.2).bind fun t => if t.full = true then some t else playF k room nur t l
theorem play_ev (nur : Int) : ∀ (l : List (Int × Int × Int)) {s : Pl}, Fine s → (∀ o ∈ l, -9223372036854775808 ≤ o.2.1 ∧ o.2.1 ≤ 9223372036854775807) → ∃ t, Ev (fun k => playF k 200 nur s l) t ∧ Fine t
  | [], s, hs, _ => ⟨s, Ev.now _, hs⟩
  | o :: l, s, hs, h => by
    obtain ⟨t, e, f⟩ := op_ev hs nur o.1 o.2.1 o.2.2 (h o (by simp))
    by_cases hf : t.full = true
    · exact ⟨t, Ev.bind e (Ev.ite_pos hf (Ev.now _)), f⟩
    · obtain ⟨u, e2, f2⟩ := play_ev nur l f (fun x hx => h x (by simp [hx]))
      exact ⟨u, Ev.bind e (Ev.ite_neg hf e2), f2⟩
end Go.Proofs.YtcbgjcnekdoloaaDoor.PlayL

namespace Go.Proofs.YtcbgjcnekdoloaaDoor.G
open Go.RowKit Go.Proofs.YtcbgjcnekdoloaaDoorW.PrintWords Go.Proofs.YtcbgjcnekdoloaaDoorW.PrintLast Go.Proofs.YtcbgjcnekdoloaaDoorW.PrintMore Go.Proofs.YtcbgjcnekdoloaaDoor.PlayL Go.Proofs.YtcbgjcnekdoloaaDoor.Short
set_option linter.unusedVariables false

abbrev lcs (old : Int) (v1 v2 : Value) (nur : Int) (full : Bool) (out : ByteArray) : Array Value := #[.int .i64 old, v1, v2, .int .i64 200, .int .i64 nur, .bool false, .bool full, .string out]
structure KB (wb W : World) (g : Nat) : Prop where
  size : wb.heap.size ≤ W.heap.size
  keep : ∀ i, i < wb.heap.size → i ≠ g → W.heap[i]? = wb.heap[i]?
  bare : Below 0 wb W
section
variable {wb W W1 : World} {g : Nat}
theorem KB.refl (w : World) (g : Nat) : KB w w g := ⟨Nat.le_refl _, fun _ _ _ => rfl, Below.refl _ _⟩
theorem KB.keepBut (h : KB wb W g) : KeepBut wb W g none := ⟨h.size, fun i hi hg _ => h.keep i hi hg⟩
theorem KB.below (h : KB wb W g) (hb : Below W.heap.size W W1) : KB wb W1 g :=
  ⟨Nat.le_trans h.size hb.size, fun i hi hg => (hb.block i (by have := h.size; omega)).trans (h.keep i hi hg), h.bare.trans (hb.mono (Nat.zero_le _))⟩
theorem KB.far (h : KB wb W g) {p : Addr} (hp : wb.heap.size ≤ p.block) (u : Value) : KB wb (W.setCell p u) g :=
  ⟨by have := h.size; simpa [World.setCell] using this, fun i hi hg => (Below.heap_setCell W p u i (by omega)).trans (h.keep i hi hg), h.bare.setCell (Nat.zero_le _) u⟩
theorem KB.set_ (h : KB wb W g) (j : Nat) (u : Value) : KB wb (W.setCell ⟨g, j, none⟩ u) g :=
  ⟨by have := h.size; simpa [World.setCell] using this, fun i hi hg => (Below.heap_setCell W ⟨g, j, none⟩ u i hg).trans (h.keep i hi hg), h.bare.setCell (Nat.zero_le _) u⟩
theorem KB.grown (h : KB wb W g) {row : Option Nat} (hg : W.grownBy W1 row) (hr : row = none ∨ ∃ b, row = some b ∧ wb.heap.size ≤ b) : KB wb W1 g :=
  ⟨Nat.le_trans h.size hg.size, fun i hi hn => (hg.block i (by have := h.size; omega) (by
    rcases hr with rfl | ⟨b, rfl, hb⟩
    · simp
    · intro e; injection e with e; omega)).trans (h.keep i hi hn), h.bare.grown hg (Nat.zero_le _) (fun _ _ => Nat.zero_le _)⟩
theorem KB.belowN (h : KB wb W g) {n : Nat} (hn : n ≤ wb.heap.size) (hg : n ≤ g) : Below n wb W :=
  ⟨h.bare.os, h.bare.tape, h.bare.output, h.size, fun k hk => h.keep k (by omega) (by omega)⟩
end
def IsL (wb W : World) (g : Nat) (s : Pl) (nur : Int) (out : ByteArray) : Prop :=
  ∃ v1 v2 : Value, W.heap[g]? = some (.cells (lcs s.old v1 v2 nur s.full out) 86 (0, 0)) ∧ KB wb W g ∧
    Kd.R k61 61 W wb.heap.size (fun k => k ≠ g) v1 s.cs ∧ Kd.R (Kd.int .i64) 3 W wb.heap.size (fun k => k ≠ g) v2 s.rs
section
variable {wb W W1 : World} {g : Nat} {s : Pl} {nur : Int} {out : ByteArray}
theorem IsL.below (h : IsL wb W g s nur out) (hb : Below W.heap.size W W1) : IsL wb W1 g s nur out := by
  obtain ⟨v1, v2, h1, h2, h3, h4⟩ := h
  exact ⟨v1, v2, blk_below h1 hb, h2.below hb, Kd.R_below h3 hb, Kd.R_below h4 hb⟩
theorem IsL.drewN (h : IsL wb W g s nur out) (m : Nat) : IsL wb (W.drewN m) g s nur out := h.below (pw_below_drewN (Below.refl _ _) m)
theorem IsL.drew (h : IsL wb W g s nur out) : IsL wb W.drew g s nur out := h.below (below_drew1 (Below.refl _ _))
theorem IsL.alloc (h : IsL wb W g s nur out) (o : Obj) : IsL wb (W.alloc o) g s nur out := h.below (below_alloc (Below.refl _ _) o)
theorem IsL.set_full (h : IsL wb W g s nur out) (b : Bool) : IsL wb (W.setCell ⟨g, 6, none⟩ (.bool b)) g ⟨s.old, s.cs, s.rs, b⟩ nur out := by
  obtain ⟨v1, v2, h1, h2, h3, h4⟩ := h
  exact ⟨v1, v2, blk_put h1 6 _ rfl, h2.set_ 6 _, Kd.R_far (p := ⟨g, 6, none⟩) h3 (fun _ hk => hk) _, Kd.R_far (p := ⟨g, 6, none⟩) h4 (fun _ hk => hk) _⟩
theorem IsL.set_out (h : IsL wb W g s nur out) (o : ByteArray) : IsL wb (W.setCell ⟨g, 7, none⟩ (.string o)) g s nur o := by
  obtain ⟨v1, v2, h1, h2, h3, h4⟩ := h
  exact ⟨v1, v2, blk_put h1 7 _ rfl, h2.set_ 7 _, Kd.R_far (p := ⟨g, 7, none⟩) h3 (fun _ hk => hk) _, Kd.R_far (p := ⟨g, 7, none⟩) h4 (fun _ hk => hk) _⟩
theorem IsL.set_roots (h : IsL wb W g s nur out) {v : Value} {rs' : List Int} (hv : Kd.R (Kd.int .i64) 3 W wb.heap.size (fun k => k ≠ g) v rs') : IsL wb (W.setCell ⟨g, 2, none⟩ v) g ⟨s.old, s.cs, rs', s.full⟩ nur out := by
  obtain ⟨v1, v2, h1, h2, h3, h4⟩ := h
  exact ⟨v1, v, blk_put h1 2 _ rfl, h2.set_ 2 _, Kd.R_far (p := ⟨g, 2, none⟩) h3 (fun _ hk => hk) _, Kd.R_far (p := ⟨g, 2, none⟩) hv (fun _ hk => hk) _⟩
theorem IsL.set_heap (h : IsL wb W g s nur out) {v v' : Value} {o : Int} {cs' : List S61} {rs' : List Int} (hv : Kd.R k61 61 W wb.heap.size (fun k => k ≠ g) v cs') (hv' : Kd.R (Kd.int .i64) 3 W wb.heap.size (fun k => k ≠ g) v' rs') :
    IsL wb (((W.setCell ⟨g, 0, none⟩ (.int .i64 o)).setCell ⟨g, 1, none⟩ v).setCell ⟨g, 2, none⟩ v') g ⟨o, cs', rs', s.full⟩ nur out := by
  obtain ⟨v1, v2, h1, h2, h3, h4⟩ := h
  have far : ∀ {α : Type} {d : Kd α} {e : Nat} {u : Value} {xs : List α}, Kd.R d e W wb.heap.size (fun k => k ≠ g) u xs → Kd.R d e (((W.setCell ⟨g, 0, none⟩ (.int .i64 o)).setCell ⟨g, 1, none⟩ v).setCell ⟨g, 2, none⟩ v') wb.heap.size (fun k => k ≠ g) u xs :=
    fun hu => Kd.R_far (p := ⟨g, 2, none⟩) (Kd.R_far (p := ⟨g, 1, none⟩) (Kd.R_far (p := ⟨g, 0, none⟩) hu (fun _ hk => hk) _) (fun _ hk => hk) _) (fun _ hk => hk) _
  exact ⟨v, v', blk_put (blk_put (blk_put h1 0 _ rfl) 1 _ rfl) 2 _ rfl, ((h2.set_ 0 _).set_ 1 _).set_ 2 _, far hv, far hv'⟩
theorem IsL.told {α : Type} {d : Kd α} {e : Nat} {v : Value} {xs : List α} (h : IsL wb W1 g s nur out) (hk : wb.heap.size ≤ W.heap.size) (hR : Kd.R d e W1 W.heap.size (fun _ => True) v xs) (ht : ∀ q, q ∈ e :: d.E → q ≠ 86) : Kd.R d e W1 wb.heap.size (fun k => k ≠ g) v xs := by
  obtain ⟨v1, v2, h1, h2, h3, h4⟩ := h
  exact Kd.R_mono (Kd.R_lower (Kd.R_types hR h1 ht) hk) (fun _ h => h.2)
theorem IsL.put_roots {v1 v2 v' : Value} {rs' : List Int} (h1 : W.heap[g]? = some (.cells (lcs s.old v1 v2 nur s.full out) 86 (0, 0))) (h2 : KB wb W g)
    (h3 : Kd.R k61 61 W wb.heap.size (fun k => k ≠ g) v1 s.cs) (h4 : Kd.R (Kd.int .i64) 3 W wb.heap.size (fun k => k ≠ g) v2 s.rs) (hg : W.grownBy W1 v2.ownBlock) (h5 : Kd.R (Kd.int .i64) 3 W1 wb.heap.size (fun k => k ≠ g) v' rs') : IsL wb (W1.setCell ⟨g, 2, none⟩ v') g ⟨s.old, s.cs, rs', s.full⟩ nur out := by
  have k1 : IsL wb W1 g ⟨s.old, s.cs, rs', s.full⟩ nur out → IsL wb (W1.setCell ⟨g, 2, none⟩ v') g ⟨s.old, s.cs, rs', s.full⟩ nur out := fun h => h.set_roots h5
  have hk : KB wb W1 g := h2.grown hg (by
    cases e : v2.ownBlock with
    | none => exact .inl rfl
    | some b => exact .inr ⟨b, rfl, Kd.R_base h4 b e⟩)
  exact ⟨v1, v', blk_put (blk_grown h1 hg (Kd.R_ne h4 h1 (by decide))) 2 _ rfl, hk.set_ 2 _, Kd.R_far (p := ⟨g, 2, none⟩) (Kd.R_over' h3 (Kd.R_typed h4) (by decide) hg) (fun _ hk => hk) _, Kd.R_far (p := ⟨g, 2, none⟩) h5 (fun _ hk => hk) _⟩
theorem IsL.put_cells {v1 v2 v' : Value} {cs' : List S61} (h1 : W.heap[g]? = some (.cells (lcs s.old v1 v2 nur s.full out) 86 (0, 0))) (h2 : KB wb W g)
    (h3 : Kd.R k61 61 W wb.heap.size (fun k => k ≠ g) v1 s.cs) (h4 : Kd.R (Kd.int .i64) 3 W wb.heap.size (fun k => k ≠ g) v2 s.rs) (hg : W.grownBy W1 v1.ownBlock) (h5 : Kd.R k61 61 W1 wb.heap.size (fun k => k ≠ g) v' cs') : IsL wb (W1.setCell ⟨g, 1, none⟩ v') g ⟨s.old, cs', s.rs, s.full⟩ nur out := by
  have hk : KB wb W1 g := h2.grown hg (by
    cases e : v1.ownBlock with
    | none => exact .inl rfl
    | some b => exact .inr ⟨b, rfl, Kd.R_base h3 b e⟩)
  exact ⟨v', v2, blk_put (blk_grown h1 hg (Kd.R_ne h3 h1 (by decide))) 1 _ rfl, hk.set_ 1 _, Kd.R_far (p := ⟨g, 1, none⟩) h5 (fun _ hk => hk) _, Kd.R_far (p := ⟨g, 1, none⟩) (Kd.R_over' h4 (Kd.R_typed h3) (by decide) hg) (fun _ hk => hk) _⟩
theorem IsL.opens (h : IsL wb W g s nur out) : ∃ A1 c1 A2 c2, W.heap[g]? = some (.cells (lcs s.old (.slice A1 s.cs.length c1) (.slice A2 s.rs.length c2) nur s.full out) 86 (0, 0)) ∧ KB wb W g ∧
    Kd.R k61 61 W wb.heap.size (fun k => k ≠ g) (.slice A1 s.cs.length c1) s.cs ∧ Kd.R (Kd.int .i64) 3 W wb.heap.size (fun k => k ≠ g) (.slice A2 s.rs.length c2) s.rs := by
  obtain ⟨v1, v2, h1, h2, h3, h4⟩ := h
  obtain ⟨A1, c1, rfl⟩ := Kd.R_slice h3
  obtain ⟨A2, c2, rfl⟩ := Kd.R_slice h4
  exact ⟨A1, c1, A2, c2, h1, h2, h3, h4⟩
theorem IsL.lt (h : IsL wb W g s nur out) : g < W.heap.size := by
  obtain ⟨v1, v2, h1, h2, h3, h4⟩ := h
  exact blk_lt h1
theorem IsL.kb (h : IsL wb W g s nur out) : KB wb W g := by
  obtain ⟨v1, v2, h1, h2, h3, h4⟩ := h
  exact h2
theorem IsL.keep (h : IsL wb W g s nur out) : KeepBut wb W g none := h.kb.keepBut
theorem L_cell {old : Int} {v1 v2 : Value} {full : Bool} (h : W.heap[g]? = some (.cells (lcs old v1 v2 nur full out) 86 (0, 0))) : W.cell? ⟨g, 0, none⟩ = some (.int .i64 old) ∧ W.cell? ⟨g, 1, none⟩ = some v1 ∧ W.cell? ⟨g, 2, none⟩ = some v2 ∧ W.cell? ⟨g, 3, none⟩ = some (.int .i64 200) ∧ W.cell? ⟨g, 4, none⟩ = some (.int .i64 nur) ∧ W.cell? ⟨g, 5, none⟩ = some (.bool false) ∧ W.cell? ⟨g, 6, none⟩ = some (.bool full) ∧ W.cell? ⟨g, 7, none⟩ = some (.string out) :=
  ⟨(blk_cell h 0).trans rfl, (blk_cell h 1).trans rfl, (blk_cell h 2).trans rfl, (blk_cell h 3).trans rfl, (blk_cell h 4).trans rfl, (blk_cell h 5).trans rfl, (blk_cell h 6).trans rfl, (blk_cell h 7).trans rfl⟩
end
def IsLB (wb W : World) (g b : Nat) (s : Pl) (nur : Int) (out : ByteArray) : Prop :=
  ∃ v1 v2 : Value, W.heap[g]? = some (.cells (lcs s.old v1 v2 nur s.full out) 86 (0, 0)) ∧ KB wb W g ∧
    Kd.R k61 61 W wb.heap.size (fun k => k ≠ g ∧ k ≠ b) v1 s.cs ∧ Kd.R (Kd.int .i64) 3 W wb.heap.size (fun k => k ≠ g ∧ k ≠ b) v2 s.rs ∧ wb.heap.size ≤ b ∧ g ≠ b
section
variable {wb W W1 : World} {g b : Nat} {s : Pl} {nur : Int} {out : ByteArray}
theorem IsL.box (h : IsL wb W g s nur out) (hg : b = W.heap.size) (hb : Below W.heap.size W W1) : IsLB wb W1 g b s nur out := by
  obtain ⟨v1, v2, h1, h2, h3, h4⟩ := h
  have := blk_lt h1
  have := h2.1
  exact ⟨v1, v2, blk_below h1 hb, h2.below hb, Kd.R_below (Kd.R_elderB h3 b (Nat.le_of_eq hg.symm)) hb, Kd.R_below (Kd.R_elderB h4 b (Nat.le_of_eq hg.symm)) hb, by omega, by omega⟩
theorem IsLB.below (h : IsLB wb W g b s nur out) (hb : Below W.heap.size W W1) : IsLB wb W1 g b s nur out := by
  obtain ⟨v1, v2, h1, h2, h3, h4, h5⟩ := h
  exact ⟨v1, v2, blk_below h1 hb, h2.below hb, Kd.R_below h3 hb, Kd.R_below h4 hb, h5⟩
theorem IsLB.drewN (h : IsLB wb W g b s nur out) (m : Nat) : IsLB wb (W.drewN m) g b s nur out := h.below (pw_below_drewN (Below.refl _ _) m)
theorem IsLB.drew (h : IsLB wb W g b s nur out) : IsLB wb W.drew g b s nur out := h.below (below_drew1 (Below.refl _ _))
theorem IsLB.put (h : IsLB wb W g b s nur out) (j : Nat) (u : Value) : IsLB wb (W.setCell ⟨b, j, none⟩ u) g b s nur out := by
  obtain ⟨v1, v2, h1, h2, h3, h4, h5, h6⟩ := h
  exact ⟨v1, v2, blk_far h1 (p := ⟨b, j, none⟩) h6 u, h2.far (p := ⟨b, j, none⟩) h5 u, Kd.R_far (p := ⟨b, j, none⟩) h3 (fun _ hk => hk.2) u, Kd.R_far (p := ⟨b, j, none⟩) h4 (fun _ hk => hk.2) u, h5, h6⟩
theorem IsLB.isL (h : IsLB wb W g b s nur out) : IsL wb W g s nur out := by
  obtain ⟨v1, v2, h1, h2, h3, h4, h5, h6⟩ := h
  exact ⟨v1, v2, h1, h2, Kd.R_mono h3 (fun _ hk => hk.1), Kd.R_mono h4 (fun _ hk => hk.1)⟩
theorem IsLB.put4 (h : IsLB wb W g b s nur out) {x0 x1 x2 x3 : Value} (hb : W.heap[b]? = some (.cells #[x0, x1, x2, x3] 61 (0, 0))) (y0 y1 y2 y3 : Value) :
    IsLB wb ((((W.setCell ⟨b, 0, none⟩ y0).setCell ⟨b, 1, none⟩ y1).setCell ⟨b, 2, none⟩ y2).setCell ⟨b, 3, none⟩ y3) g b s nur out ∧
    ((((W.setCell ⟨b, 0, none⟩ y0).setCell ⟨b, 1, none⟩ y1).setCell ⟨b, 2, none⟩ y2).setCell ⟨b, 3, none⟩ y3).heap[b]? = some (.cells #[y0, y1, y2, y3] 61 (0, 0)) :=
  ⟨(((h.put 0 y0).put 1 y1).put 2 y2).put 3 y3, blk_put (blk_put (blk_put (blk_put hb 0 y0 rfl) 1 y1 rfl) 2 y2 rfl) 3 y3 rfl⟩
end
def IsLv (wb W : World) (g : Nat) (s : Pl) (nur : Int) (out : ByteArray) (v1 v2 : Value) : Prop :=
  W.heap[g]? = some (.cells (lcs s.old v1 v2 nur s.full out) 86 (0, 0)) ∧ KB wb W g ∧
    Kd.R k61 61 W wb.heap.size (fun k => k ≠ g) v1 s.cs ∧ Kd.R (Kd.int .i64) 3 W wb.heap.size (fun k => k ≠ g) v2 s.rs
section
variable {wb W W1 : World} {g : Nat} {s : Pl} {nur : Int} {out : ByteArray} {v1 v2 v' : Value}
theorem IsL.openv (h : IsL wb W g s nur out) : ∃ A1 c1 A2 c2, IsLv wb W g s nur out (.slice A1 s.cs.length c1) (.slice A2 s.rs.length c2) := h.opens
theorem IsLv.isL (h : IsLv wb W g s nur out v1 v2) : IsL wb W g s nur out := ⟨v1, v2, h⟩
theorem IsLv.below (h : IsLv wb W g s nur out v1 v2) (hb : Below W.heap.size W W1) : IsLv wb W1 g s nur out v1 v2 := by
  obtain ⟨h1, h2, h3, h4⟩ := h
  exact ⟨blk_below h1 hb, h2.below hb, Kd.R_below h3 hb, Kd.R_below h4 hb⟩
theorem IsLv.drewN (h : IsLv wb W g s nur out v1 v2) (m : Nat) : IsLv wb (W.drewN m) g s nur out v1 v2 := h.below (pw_below_drewN (Below.refl _ _) m)
theorem IsLv.drew (h : IsLv wb W g s nur out v1 v2) : IsLv wb W.drew g s nur out v1 v2 := h.below (below_drew1 (Below.refl _ _))
theorem IsLv.blk (h : IsLv wb W g s nur out v1 v2) : W.heap[g]? = some (.cells (lcs s.old v1 v2 nur s.full out) 86 (0, 0)) := h.1
theorem IsLv.fresh (h : IsLv wb W g s nur out v1 v2) : ∀ k, W.heap.size ≤ k → k ≠ g := fun k hk => by have := blk_lt h.1; omega
theorem IsLv.size (h : IsLv wb W g s nur out v1 v2) : wb.heap.size ≤ W.heap.size := h.2.1.1
theorem IsLv.grown1 (h : IsLv wb W g s nur out v1 v2) (hg : W.grownBy W1 v1.ownBlock) : W1.heap[g]? = some (.cells (lcs s.old v1 v2 nur s.full out) 86 (0, 0)) := blk_grown h.1 hg (Kd.R_ne h.2.2.1 h.1 (by decide))
theorem IsLv.grown2 (h : IsLv wb W g s nur out v1 v2) (hg : W.grownBy W1 v2.ownBlock) : W1.heap[g]? = some (.cells (lcs s.old v1 v2 nur s.full out) 86 (0, 0)) := blk_grown h.1 hg (Kd.R_ne h.2.2.2 h.1 (by decide))
theorem IsLv.put_roots {rs' : List Int} (h : IsLv wb W g s nur out v1 v2) (hg : W.grownBy W1 v2.ownBlock) (h5 : Kd.R (Kd.int .i64) 3 W1 wb.heap.size (fun k => k ≠ g) v' rs') : IsL wb (W1.setCell ⟨g, 2, none⟩ v') g ⟨s.old, s.cs, rs', s.full⟩ nur out := IsL.put_roots h.1 h.2.1 h.2.2.1 h.2.2.2 hg h5
theorem IsLv.put_cells {cs' : List S61} (h : IsLv wb W g s nur out v1 v2) (hg : W.grownBy W1 v1.ownBlock) (h5 : Kd.R k61 61 W1 wb.heap.size (fun k => k ≠ g) v' cs') : IsL wb (W1.setCell ⟨g, 1, none⟩ v') g ⟨s.old, cs', s.rs, s.full⟩ nur out := IsL.put_cells h.1 h.2.1 h.2.2.1 h.2.2.2 hg h5
end
theorem minor_told {old : Int} {c : List S61} {r : List Int} {k : Nat} {x : Int × List S61 × List Int} (hg : HeapL.goodH old c r = true) (hn : Num c) (h : spec_l7Minor.f k old c r = some x) : HeapL.goodH x.1 x.2.1 x.2.2 = true ∧ Num x.2.1 ∧ x.2.2.length = r.length := by
  obtain ⟨y, e, h1⟩ := minor_ev hg hn
  obtain rfl : y = x := EvL.Ev.unique e (Ev.of (fun m => spec_l7Minor.mono _ _ _ m) h)
  exact h1
theorem collect_told {old : Int} {c : List S61} {r : List Int} {k : Nat} {x : Int × List S61 × List Int} (hg : HeapL.goodH old c r = true) (hn : Num c) (h : spec_l7Collect.f k old c r = some x) : HeapL.goodH x.1 x.2.1 x.2.2 = true ∧ Num x.2.1 ∧ x.2.2.length = r.length := by
  obtain ⟨y, e, h1⟩ := collect_ev hg hn
  obtain rfl : y = x := EvL.Ev.unique e (Ev.of (fun m => spec_l7Collect.mono _ _ _ m) h)
  exact h1

def HS (w0 W : World) (g : Nat) (c : List Int) (a s : Int) (gr : Nat) : Prop :=
  IsS76 w0 W g c a s ∧ Below w0.heap.size w0 W ∧ W.heap[gr]? = some (.cells #[.int .i64 0, .slice none 0 0, .slice none 0 0] 31 (0, 0)) ∧ w0.heap.size ≤ gr
def HT (w0 W : World) (g : Nat) (c : List Int) (a s : Int) (gr g5 : Nat) (old : Int) (v1 v2 : Value) (cs : List S61) (rs : List Int) : Prop :=
  HS w0 W g c a s gr ∧ W.heap[g5]? = some (.cells #[.int .i64 old, v1, v2] 31 (0, 0)) ∧ w0.heap.size ≤ g5 ∧ gr ≠ g5 ∧
    Kd.R k61 61 W w0.heap.size (fun _ => True) v1 cs ∧ Kd.R (Kd.int .i64) 3 W w0.heap.size (fun _ => True) v2 rs
section
variable {w0 W W1 wb : World} {g gr g5 gL : Nat} {c : List Int} {a s a' s' old nur : Int} {v1 v2 v' : Value} {cs : List S61} {rs : List Int} {out : ByteArray} {p : Pl}
theorem HS.below (h : HS w0 W g c a s gr) (hb : Below W.heap.size W W1) : HS w0 W1 g c a s gr := by
  obtain ⟨h1, h2, h3, h4⟩ := h
  exact ⟨h1.below hb, below_step h2 hb, blk_below h3 hb, h4⟩
theorem HS.drew (h : HS w0 W g c a s gr) : HS w0 W.drew g c a s gr := h.below (below_drew1 (Below.refl _ _))
theorem HS.call (h : HS w0 W g c a s gr) (hI : IsS76 w0 W1 g c a' s') (hB : Below w0.heap.size w0 W1) (hK : KeepBut W W1 g none) : HS w0 W1 g c a' s' gr := by
  obtain ⟨h1, h2, h3, h4⟩ := h
  exact ⟨hI, hB, hK.blk h3 (Ne.symm (h1.ne_blk h3 (by decide))) (by simp), h4⟩
theorem HS.play (h : HS w0 W g c a s gr) {x : Array Value} (hL : W.heap[gL]? = some (.cells x 86 (0, 0))) (hw : w0.heap.size ≤ gL) (hk : KB W W1 gL) : HS w0 W1 g c a s gr := by
  obtain ⟨⟨A0, c0, hb, hg, hr0⟩, h2, h3, h4⟩ := h
  have ne1 : g ≠ gL := by
    rintro rfl
    rw [hb] at hL
    injection hL with hL
    injection hL with _ ht
    cases ht
  have ne2 : gr ≠ gL := by
    rintro rfl
    rw [h3] at hL
    injection hL with hL
    injection hL with _ ht
    cases ht
  exact ⟨⟨A0, c0, hk.keepBut.blk hb ne1 (by simp), hg, hr0⟩, h2.trans (hk.belowN h2.size hw), hk.keepBut.blk h3 ne2 (by simp), h4⟩
theorem HS.far (h : HS w0 W g c a s gr) {b : Nat} (h1 : g ≠ b) (h2 : gr ≠ b) (h3 : w0.heap.size ≤ b) (j : Nat) (u : Value) : HS w0 (W.setCell ⟨b, j, none⟩ u) g c a s gr := by
  obtain ⟨i1, i2, i3, i4⟩ := h
  exact ⟨i1.far (p := ⟨b, j, none⟩) h1 u, below_set i2 h3, blk_far i3 (p := ⟨b, j, none⟩) h2 u, i4⟩
theorem HT.new (h : HS w0 W g c a s gr) (hv : IsLv wb W gL p nur out v1 v2) (hw : w0.heap.size ≤ wb.heap.size) (hg : g5 = W.heap.size) (hb : Below W.heap.size W W1) {x0 x1 x2 : Value} (hbox : W1.heap[g5]? = some (.cells #[x0, x1, x2] 31 (0, 0))) :
    HT w0 (((W1.setCell ⟨g5, 0, none⟩ (.int .i64 p.old)).setCell ⟨g5, 1, none⟩ v1).setCell ⟨g5, 2, none⟩ v2) g c a s gr g5 p.old v1 v2 p.cs p.rs := by
  have h5 : w0.heap.size ≤ g5 := by have := h.2.1.size; omega
  have ne1 : g ≠ g5 := by have := h.1.lt; omega
  have ne2 : gr ≠ g5 := by have := blk_lt h.2.2.1; omega
  have R1 := Kd.R_below (Kd.R_elderB (Kd.R_lower hv.2.2.1 hw) g5 (Nat.le_of_eq hg.symm)) hb
  have R2 := Kd.R_below (Kd.R_elderB (Kd.R_lower hv.2.2.2 hw) g5 (Nat.le_of_eq hg.symm)) hb
  refine ⟨(((h.below hb).far ne1 ne2 h5 0 _).far ne1 ne2 h5 1 _).far ne1 ne2 h5 2 _, blk_put (blk_put (blk_put hbox 0 _ rfl) 1 _ rfl) 2 _ rfl, h5, ne2, ?_, ?_⟩
  · exact Kd.R_mono (Kd.R_far (p := ⟨g5, 2, none⟩) (Kd.R_far (p := ⟨g5, 1, none⟩) (Kd.R_far (p := ⟨g5, 0, none⟩) R1 (fun _ hk => hk.2) _) (fun _ hk => hk.2) _) (fun _ hk => hk.2) _) (fun _ _ => trivial)
  · exact Kd.R_mono (Kd.R_far (p := ⟨g5, 2, none⟩) (Kd.R_far (p := ⟨g5, 1, none⟩) (Kd.R_far (p := ⟨g5, 0, none⟩) R2 (fun _ hk => hk.2) _) (fun _ hk => hk.2) _) (fun _ hk => hk.2) _) (fun _ _ => trivial)
theorem HT.below (h : HT w0 W g c a s gr g5 old v1 v2 cs rs) (hb : Below W.heap.size W W1) : HT w0 W1 g c a s gr g5 old v1 v2 cs rs := by
  obtain ⟨h1, h2, h3, h4, h5, h6⟩ := h
  exact ⟨h1.below hb, blk_below h2 hb, h3, h4, Kd.R_below h5 hb, Kd.R_below h6 hb⟩
theorem HT.drew (h : HT w0 W g c a s gr g5 old v1 v2 cs rs) : HT w0 W.drew g c a s gr g5 old v1 v2 cs rs := h.below (below_drew1 (Below.refl _ _))
theorem HT.call (h : HT w0 W g c a s gr g5 old v1 v2 cs rs) (hI : IsS76 w0 W1 g c a' s') (hB : Below w0.heap.size w0 W1) (hK : KeepBut W W1 g none) : HT w0 W1 g c a' s' gr g5 old v1 v2 cs rs := by
  obtain ⟨h1, h2, h3, h4, h5, h6⟩ := h
  exact ⟨h1.call hI hB hK, hK.blk h2 (Ne.symm (h1.1.ne_blk h2 (by decide))) (by simp), h3, h4, Kd.R_mono (Kd.R_keep (h1.1.apart h5 (by decide)) hK (fun _ h => h.2)) (fun _ _ => trivial), Kd.R_mono (Kd.R_keep (h1.1.apart h6 (by decide)) hK (fun _ h => h.2)) (fun _ _ => trivial)⟩
theorem HT.size (h : HT w0 W g c a s gr g5 old v1 v2 cs rs) : w0.heap.size ≤ W.heap.size := h.1.2.1.size
theorem HT.cells (h : HT w0 W g c a s gr g5 old v1 v2 cs rs) : W.cell? ⟨g5, 0, none⟩ = some (.int .i64 old) ∧ W.cell? ⟨g5, 1, none⟩ = some v1 ∧ W.cell? ⟨g5, 2, none⟩ = some v2 :=
  ⟨(blk_cell h.2.1 0).trans rfl, (blk_cell h.2.1 1).trans rfl, (blk_cell h.2.1 2).trans rfl⟩
theorem HT.put (h : HT w0 W g c a s gr g5 old v1 v2 cs rs) (j : Nat) (u : Value) {x0 : Int} {x1 x2 : Value} (e : #[.int .i64 old, v1, v2].setIfInBounds j u = #[.int .i64 x0, x1, x2]) {cs' : List S61} {rs' : List Int} (hx1 : Kd.R k61 61 W w0.heap.size (fun _ => True) x1 cs') (hx2 : Kd.R (Kd.int .i64) 3 W w0.heap.size (fun _ => True) x2 rs') :
    HT w0 (W.setCell ⟨g5, j, none⟩ u) g c a s gr g5 x0 x1 x2 cs' rs' := by
  obtain ⟨h1, h2, h3, h4, h5, h6⟩ := h
  exact ⟨h1.far (h1.1.ne_blk h2 (by decide)) h4 h3 j u, blk_put h2 j u e, h3, h4, Kd.R_mono (Kd.R_far (p := ⟨g5, j, none⟩) (Kd.R_types hx1 h2 (by decide)) (fun _ hk => hk.2) u) (fun _ _ => trivial), Kd.R_mono (Kd.R_far (p := ⟨g5, j, none⟩) (Kd.R_types hx2 h2 (by decide)) (fun _ hk => hk.2) u) (fun _ _ => trivial)⟩
theorem HT.grown2 (h : HT w0 W g c a s gr g5 old v1 v2 cs rs) (hg : W.grownBy W1 v2.ownBlock) {rs' : List Int} (hv : Kd.R (Kd.int .i64) 3 W1 w0.heap.size (fun _ => True) v' rs') : HT w0 (W1.setCell ⟨g5, 2, none⟩ v') g c a s gr g5 old v1 v' cs rs' ∧ W1.heap[g5]? = some (.cells #[.int .i64 old, v1, v2] 31 (0, 0)) := by
  obtain ⟨⟨i1, i2, i3, i4⟩, h2, h3, h4, h5, h6⟩ := h
  have hS : HS w0 W1 g c a s gr := ⟨i1.grown hg (i1.own_ne h6 (by decide)), i2.grown hg i2.size (Kd.R_base h6), blk_grown i3 hg (Kd.R_ne h6 i3 (by decide)), i4⟩
  have b5 := blk_grown h2 hg (Kd.R_ne h6 h2 (by decide))
  have r5 := Kd.R_over' h5 (Kd.R_typed h6) (by decide) hg
  refine ⟨⟨hS.far (hS.1.ne_blk b5 (by decide)) h4 h3 2 v', blk_put b5 2 _ rfl, h3, h4, ?_, ?_⟩, b5⟩
  · exact Kd.R_mono (Kd.R_far (p := ⟨g5, 2, none⟩) (Kd.R_types r5 b5 (by decide)) (fun _ hk => hk.2) v') (fun _ _ => trivial)
  · exact Kd.R_mono (Kd.R_far (p := ⟨g5, 2, none⟩) (Kd.R_types hv b5 (by decide)) (fun _ hk => hk.2) v') (fun _ _ => trivial)
theorem HT.grown1 (h : HT w0 W g c a s gr g5 old v1 v2 cs rs) (hg : W.grownBy W1 v1.ownBlock) {cs' : List S61} (hv : Kd.R k61 61 W1 w0.heap.size (fun _ => True) v' cs') : HT w0 (W1.setCell ⟨g5, 1, none⟩ v') g c a s gr g5 old v' v2 cs' rs ∧ W1.heap[g5]? = some (.cells #[.int .i64 old, v1, v2] 31 (0, 0)) := by
  obtain ⟨⟨i1, i2, i3, i4⟩, h2, h3, h4, h5, h6⟩ := h
  have hS : HS w0 W1 g c a s gr := ⟨i1.grown hg (i1.own_ne h5 (by decide)), i2.grown hg i2.size (Kd.R_base h5), blk_grown i3 hg (Kd.R_ne h5 i3 (by decide)), i4⟩
  have b5 := blk_grown h2 hg (Kd.R_ne h5 h2 (by decide))
  have r6 := Kd.R_over' h6 (Kd.R_typed h5) (by decide) hg
  refine ⟨⟨hS.far (hS.1.ne_blk b5 (by decide)) h4 h3 1 v', blk_put b5 1 _ rfl, h3, h4, ?_, ?_⟩, b5⟩
  · exact Kd.R_mono (Kd.R_far (p := ⟨g5, 1, none⟩) (Kd.R_types hv b5 (by decide)) (fun _ hk => hk.2) v') (fun _ _ => trivial)
  · exact Kd.R_mono (Kd.R_far (p := ⟨g5, 1, none⟩) (Kd.R_types r6 b5 (by decide)) (fun _ hk => hk.2) v') (fun _ _ => trivial)
theorem HT.told (h : HT w0 W g c a s gr g5 old v1 v2 cs rs) : (((W.setCell ⟨gr, 0, none⟩ (.int .i64 old)).setCell ⟨gr, 1, none⟩ v1).setCell ⟨gr, 2, none⟩ v2).heap[gr]? = some (.cells #[.int .i64 old, v1, v2] 31 (0, 0)) ∧
    Kd.R k61 61 (((W.setCell ⟨gr, 0, none⟩ (.int .i64 old)).setCell ⟨gr, 1, none⟩ v1).setCell ⟨gr, 2, none⟩ v2) w0.heap.size (fun _ => True) v1 cs ∧
    Kd.R (Kd.int .i64) 3 (((W.setCell ⟨gr, 0, none⟩ (.int .i64 old)).setCell ⟨gr, 1, none⟩ v1).setCell ⟨gr, 2, none⟩ v2) w0.heap.size (fun _ => True) v2 rs ∧
    Below w0.heap.size w0 (((W.setCell ⟨gr, 0, none⟩ (.int .i64 old)).setCell ⟨gr, 1, none⟩ v1).setCell ⟨gr, 2, none⟩ v2) := by
  obtain ⟨⟨i1, i2, i3, i4⟩, h2, h3, h4, h5, h6⟩ := h
  refine ⟨blk_put (blk_put (blk_put i3 0 _ rfl) 1 _ rfl) 2 _ rfl, ?_, ?_, below_set (below_set (below_set i2 i4) i4) i4⟩
  · exact Kd.R_mono (Kd.R_far (p := ⟨gr, 2, none⟩) (Kd.R_far (p := ⟨gr, 1, none⟩) (Kd.R_far (p := ⟨gr, 0, none⟩) (Kd.R_types h5 i3 (by decide)) (fun _ hk => hk.2) _) (fun _ hk => hk.2) _) (fun _ hk => hk.2) _) (fun _ _ => trivial)
  · exact Kd.R_mono (Kd.R_far (p := ⟨gr, 2, none⟩) (Kd.R_far (p := ⟨gr, 1, none⟩) (Kd.R_far (p := ⟨gr, 0, none⟩) (Kd.R_types h6 i3 (by decide)) (fun _ hk => hk.2) _) (fun _ hk => hk.2) _) (fun _ hk => hk.2) _) (fun _ _ => trivial)
end
end Go.Proofs.YtcbgjcnekdoloaaDoor.G

namespace Go.Proofs.YtcbgjcnekdoloaaDoor.G
open Go.RowKit Go.Proofs.YtcbgjcnekdoloaaDoorW.PrintWords Go.Proofs.YtcbgjcnekdoloaaDoorW.PrintLast Go.Proofs.YtcbgjcnekdoloaaDoorW.PrintMore Go.Proofs.YtcbgjcnekdoloaaDoor.Short
attribute [local go_sem] max2_int min2_int max_two min_two max_three min_three max_four min_four   -- for this text's walks alone
set_option linter.unusedVariables false
set_option linter.unusedSimpArgs false

def spec_l1Cur_pick.f (s0_0 : List Int) (s0_1 : Int) (s0_2 : Int) (a1 : Int) : Option (Int × Int × Int) := if a1 ≤ 1 then (some (0, s0_1, s0_2)) else ((spec_l1Cur_next.f s0_0 s0_1 s0_2).bind fun bt101 => (if a1 > 200 then ((spec_l1Cur_next.f s0_0 bt101.2.1 bt101.2.2).bind fun bt104 => (if a1 = 0 then (none) else (some (Int.tmod (wrap64 ((wrap64 (bt101.1 * 256)) + bt104.1)) a1, bt104.2.1, bt104.2.2)))) else (if a1 = 0 then (none) else (some (Int.tmod bt101.1 a1, bt101.2.1, bt101.2.2)))))
set_option maxHeartbeats 8000000 in
set_option maxRecDepth 100000 in
theorem spec_l1Cur_pick.calls (g : Nat) (s0_0 : List Int) (s0_1 : Int) (s0_2 : Int) (a1 : Int) (r1 : Int) (r2 : Int) (r3 : Int) (w0 w : World) (hI : IsS76 w0 w g s0_0 s0_1 s0_2) (hB : Below w0.heap.size w0 w) (h : spec_l1Cur_pick.f s0_0 s0_1 s0_2 a1 = some (r1, r2, r3)) :
  Calls Tryd.prog 54 #[.pointer (some ⟨g, 0, none⟩), .int .i64 a1] w fun e w' => e = .returned (.int .i64 r1) ∧ IsS76 w0 w' g s0_0 r2 r3 ∧ Below w0.heap.size w0 w' ∧ KeepBut w w' g none := by
 have HI0 := aK hI
 have HK := aK (KeepBut.refl w g none)
 have HL := aK hB.size
 clear hI
 have HW0 := aK hB.size
 have HB := aK hB
 clear hB
 have H : (if a1 ≤ 1 then (some (0, s0_1, s0_2)) else ((spec_l1Cur_next.f s0_0 s0_1 s0_2).bind fun bt101 => (if a1 > 200 then ((spec_l1Cur_next.f s0_0 bt101.2.1 bt101.2.2).bind fun bt104 => (if a1 = 0 then (none) else (some (Int.tmod (wrap64 ((wrap64 (bt101.1 * 256)) + bt104.1)) a1, bt104.2.1, bt104.2.2)))) else (if a1 = 0 then (none) else (some (Int.tmod bt101.1 a1, bt101.2.1, bt101.2.2)))))) = some (r1, r2, r3) := h
 clear h
 by_cases c3 : a1 ≤ 1
 ·rw [if_pos c3] at H
  have c3b0 : decide (a1 ≤ 1) = true := decide_eq_true c3
  clear c3
  simp only [Option.some.injEq, Prod.mk.injEq] at H
  obtain ⟨rfl, rfl, rfl⟩ := H
  go_enter Tryd.func54, Tryd.ntmps54
  go_wp2
  go_ret
  exact ⟨eW, yI HI0, yH HB, yK HK⟩
 ·rw [if_neg c3] at H
  have c3b0 : decide (a1 ≤ 1) = false := decide_eq_false c3
  clear c3
  obtain ⟨⟨t101, t102, t103⟩, A4, H⟩ := oB H
  try dsimp only at H
  by_cases c5 : a1 > 200
  ·rw [if_pos c5] at H
   have c5b0 : decide (200 < a1) = true := decide_eq_true c5
   clear c5
   obtain ⟨⟨t104, t105, t106⟩, A6, H⟩ := oB H
   try dsimp only at H
   by_cases c7 : a1 = 0
   ·rw [if_pos c7] at H
    exact absurd H (by simp)
   ·rw [if_neg c7] at H
    have c7b0 : (a1 == 0) = false := beq_eq_false_iff_ne.mpr c7
    have c7b1 : (a1 != 0) = true := bne_iff_ne.mpr c7
    simp only [Option.some.injEq, Prod.mk.injEq] at H
    obtain ⟨rfl, rfl, rfl⟩ := H
    go_enter Tryd.func54, Tryd.ntmps54
    go_wp2_with (first | ((with_reducible refine gate_callee (f := 66) rfl ?_); refine goesL_ (some 9) rfl rfl Tryd.func66 (by kernel_rfl) rfl #[.pointer (some ⟨g, 0, none⟩)] rfl tA ?_; (with_reducible refine (spec_l1Cur_next.calls g s0_0 s0_1 s0_2 t101 t102 t103 w0 _ ?side1 ?side2 A4.out).mono ?_); (case side1 => exact yI HI0); (case side2 => exact yH HB); rintro e w8 ⟨rfl, hi, hb, hk⟩; refine ⟨_, rfl, ?_⟩; have n0_ := aK (KeepBut.trans (yK HK) hk (.inl rfl)); have n1_ := aK (hb); have n2_ := aK (hi); clear HK; have HK := n0_; clear n0_; clear HB; have HB := n1_; clear n1_; clear HI0; have HI0 := n2_; clear n2_; (try clear hb)) | ((with_reducible refine gate_callee (f := 66) rfl ?_); refine goesL_ (some 15) rfl rfl Tryd.func66 (by kernel_rfl) rfl #[.pointer (some ⟨g, 0, none⟩)] rfl tA ?_; (with_reducible refine (spec_l1Cur_next.calls g s0_0 t102 t103 t104 t105 t106 w0 _ ?side1 ?side2 A6.out).mono ?_); (case side1 => exact yI HI0); (case side2 => exact yH HB); rintro e w9 ⟨rfl, hi, hb, hk⟩; refine ⟨_, rfl, ?_⟩; have n0_ := aK (KeepBut.trans (yK HK) hk (.inl rfl)); have n1_ := aK (hb); have n2_ := aK (hi); clear HK; have HK := n0_; clear n0_; clear HB; have HB := n1_; clear n1_; clear HI0; have HI0 := n2_; clear n2_; (try clear hb)))
    go_ret
    exact ⟨eW, yI HI0, yH HB, yK HK⟩
  ·rw [if_neg c5] at H
   have c5b0 : decide (200 < a1) = false := decide_eq_false c5
   clear c5
   by_cases c10 : a1 = 0
   ·rw [if_pos c10] at H
    exact absurd H (by simp)
   ·rw [if_neg c10] at H
    have c10b0 : (a1 == 0) = false := beq_eq_false_iff_ne.mpr c10
    have c10b1 : (a1 != 0) = true := bne_iff_ne.mpr c10
    simp only [Option.some.injEq, Prod.mk.injEq] at H
    obtain ⟨rfl, rfl, rfl⟩ := H
    go_enter Tryd.func54, Tryd.ntmps54
    go_wp2_with (first | ((with_reducible refine gate_callee (f := 66) rfl ?_); refine goesL_ (some 9) rfl rfl Tryd.func66 (by kernel_rfl) rfl #[.pointer (some ⟨g, 0, none⟩)] rfl tA ?_; (with_reducible refine (spec_l1Cur_next.calls g s0_0 s0_1 s0_2 t101 t102 t103 w0 _ ?side1 ?side2 A4.out).mono ?_); (case side1 => exact yI HI0); (case side2 => exact yH HB); rintro e w11 ⟨rfl, hi, hb, hk⟩; refine ⟨_, rfl, ?_⟩; have n0_ := aK (KeepBut.trans (yK HK) hk (.inl rfl)); have n1_ := aK (hb); have n2_ := aK (hi); clear HK; have HK := n0_; clear n0_; clear HB; have HB := n1_; clear n1_; clear HI0; have HI0 := n2_; clear n2_; (try clear hb)))
    go_ret
    exact ⟨eW, yI HI0, yH HB, yK HK⟩


def spec_l1Cur_among.f (s0_0 : List Int) (s0_1 : Int) (s0_2 : Int) (l1 : List Int) : Option (Int × Int × Int) := (spec_l1Cur_pick.f s0_0 s0_1 s0_2 (l1.length : Int)).bind fun bt101 => (if 0 ≤ bt101.1 then (if bt101.1 < (l1.length : Int) then (some (rd l1 bt101.1, bt101.2.1, bt101.2.2)) else (none)) else (none))
set_option maxHeartbeats 8000000 in
set_option maxRecDepth 100000 in
theorem spec_l1Cur_among.calls (g : Nat) (s0_0 : List Int) (s0_1 : Int) (s0_2 : Int) (A1 : Option Addr) (c1 : Nat) (l1 : List Int) (r1 : Int) (r2 : Int) (r3 : Int) (w0 w : World) (hI : IsS76 w0 w g s0_0 s0_1 s0_2) (hB : Below w0.heap.size w0 w) (hr1 : Kd.C (Kd.int .i64) w A1 l1.length l1) (hc1 : l1.length ≤ c1) (hf1 : ∀ ad, A1 = some ad → 0 < l1.length → ad.block ≠ g) (h : spec_l1Cur_among.f s0_0 s0_1 s0_2 l1 = some (r1, r2, r3)) :
  Calls Tryd.prog 57 #[.pointer (some ⟨g, 0, none⟩), .slice A1 l1.length c1] w fun e w' => e = .returned (.int .i64 r1) ∧ IsS76 w0 w' g s0_0 r2 r3 ∧ Below w0.heap.size w0 w' ∧ KeepBut w w' g none := by
 have HR1 := aK hr1
 have HC1 := aK hc1
 clear hr1 hc1
 have HI0 := aK hI
 have HK := aK (KeepBut.refl w g none)
 have HL := aK hB.size
 clear hI
 have HW0 := aK hB.size
 have HB := aK hB
 clear hB
 have H : ((spec_l1Cur_pick.f s0_0 s0_1 s0_2 (l1.length : Int)).bind fun bt101 => (if 0 ≤ bt101.1 then (if bt101.1 < (l1.length : Int) then (some (rd l1 bt101.1, bt101.2.1, bt101.2.2)) else (none)) else (none))) = some (r1, r2, r3) := h
 clear h
 obtain ⟨⟨t101, t102, t103⟩, A3, H⟩ := oB H
 try dsimp only at H
 by_cases c4 : 0 ≤ t101
 ·rw [if_pos c4] at H
  have c4b0 : decide (0 ≤ t101) = true := decide_eq_true c4
  clear c4
  by_cases c5 : t101 < (l1.length : Int)
  ·rw [if_pos c5] at H
   have c5b0 : decide (t101 < (l1.length : Int)) = true := decide_eq_true c5
   clear c5
   simp only [Option.some.injEq, Prod.mk.injEq] at H
   obtain ⟨rfl, rfl, rfl⟩ := H
   go_enter Tryd.func57, Tryd.ntmps57
   go_wp2_with (first | ((with_reducible refine gate_callee (f := 54) rfl ?_); refine goesL_ (some 9) rfl rfl Tryd.func54 (by kernel_rfl) rfl #[.pointer (some ⟨g, 0, none⟩), .int .i64 (l1.length : Int)] rfl tA ?_; (with_reducible refine (spec_l1Cur_pick.calls g s0_0 s0_1 s0_2 (l1.length : Int) t101 t102 t103 w0 _ ?side1 ?side2 A3.out).mono ?_); (case side1 => exact yI HI0); (case side2 => exact yH HB); rintro e w6 ⟨rfl, hi, hb, hk⟩; refine ⟨_, rfl, ?_⟩; have n0_ := aK (KeepBut.trans (yK HK) hk (.inl rfl)); have n1_ := aK (hb); have n2_ := aK (hi); clear HK; have HK := n0_; clear n0_; clear HB; have HB := n1_; clear n1_; clear HI0; have HI0 := n2_; clear n2_; (try clear hb); have p104 : 0 ≤ (t101 : Int) := dA; have q104 : t101 < (l1.length : Int) := dA; obtain ⟨ad104, e104, hx104_0⟩ := Kd.at_int HR1.out t101 p104 q104; cases e104; replace hx104_0 := keep_cell HK.out hx104_0 (by first | (rw [add_block]; exact hf1 _ rfl (by omega)) | exact hf1 _ rfl (by omega) | exact hf1 ad104 rfl (by omega)); replace p104 := eq_true p104; replace q104 := eq_true q104))
   go_ret
   exact ⟨eW, yI HI0, yH HB, yK HK⟩
  ·rw [if_neg c5] at H
   exact absurd H (by simp)
 ·rw [if_neg c4] at H
  exact absurd H (by simp)


def spec_l1Cur_one.f (s0_0 : List Int) (s0_1 : Int) (s0_2 : Int) (a1 : Int) : Option (Bool × Int × Int) := (spec_l1Cur_pick.f s0_0 s0_1 s0_2 a1).bind fun bt101 => (some ((bt101.1 == 0), bt101.2.1, bt101.2.2))
set_option maxHeartbeats 8000000 in
set_option maxRecDepth 100000 in
theorem spec_l1Cur_one.calls (g : Nat) (s0_0 : List Int) (s0_1 : Int) (s0_2 : Int) (a1 : Int) (r1 : Bool) (r2 : Int) (r3 : Int) (w0 w : World) (hI : IsS76 w0 w g s0_0 s0_1 s0_2) (hB : Below w0.heap.size w0 w) (h : spec_l1Cur_one.f s0_0 s0_1 s0_2 a1 = some (r1, r2, r3)) :
  Calls Tryd.prog 67 #[.pointer (some ⟨g, 0, none⟩), .int .i64 a1] w fun e w' => e = .returned (.bool r1) ∧ IsS76 w0 w' g s0_0 r2 r3 ∧ Below w0.heap.size w0 w' ∧ KeepBut w w' g none := by
 have HI0 := aK hI
 have HK := aK (KeepBut.refl w g none)
 have HL := aK hB.size
 clear hI
 have HW0 := aK hB.size
 have HB := aK hB
 clear hB
 have H : ((spec_l1Cur_pick.f s0_0 s0_1 s0_2 a1).bind fun bt101 => (some ((bt101.1 == 0), bt101.2.1, bt101.2.2))) = some (r1, r2, r3) := h
 clear h
 obtain ⟨⟨t101, t102, t103⟩, A3, H⟩ := oB H
 try dsimp only at H
 simp only [Option.some.injEq, Prod.mk.injEq] at H
 obtain ⟨rfl, rfl, rfl⟩ := H
 go_enter Tryd.func67, Tryd.ntmps67
 go_wp2_with (first | ((with_reducible refine gate_callee (f := 54) rfl ?_); refine goesL_ (some 7) rfl rfl Tryd.func54 (by kernel_rfl) rfl #[.pointer (some ⟨g, 0, none⟩), .int .i64 a1] rfl tA ?_; (with_reducible refine (spec_l1Cur_pick.calls g s0_0 s0_1 s0_2 a1 t101 t102 t103 w0 _ ?side1 ?side2 A3.out).mono ?_); (case side1 => exact yI HI0); (case side2 => exact yH HB); rintro e w4 ⟨rfl, hi, hb, hk⟩; refine ⟨_, rfl, ?_⟩; have n0_ := aK (KeepBut.trans (yK HK) hk (.inl rfl)); have n1_ := aK (hb); have n2_ := aK (hi); clear HK; have HK := n0_; clear n0_; clear HB; have HB := n1_; clear n1_; clear HI0; have HI0 := n2_; clear n2_; (try clear hb)))
 go_ret
 exact ⟨eW, yI HI0, yH HB, yK HK⟩


mutual
def spec_l1Cur_heapOps.j0 : Nat → List (S102) → Int → List Int → Int → Int → Option ((List (S102)) × Int × Int)
 | 0, _, _, _, _, _ => none
 | k + 1, x3, x4, x1000, x1001, x1002 => spec_l1Cur_heapOps.l0 k x3 x4 0 x1000 x1001 x1002
def spec_l1Cur_heapOps.l0 : Nat → List (S102) → Int → Int → List Int → Int → Int → Option ((List (S102)) × Int × Int)
 | 0, _, _, _, _, _, _ => none
 | k + 1, x3, x4, x5, x1000, x1001, x1002 => if x5 < x4 then ((spec_l1Cur_among.f x1000 x1001 x1002 (([1, 1, 2, 2, 2, 3, 4, 5, 5, 6, 6, 7, 8, 9] : List Int))).bind fun bt119 => ((spec_l1Cur_pick.f x1000 bt119.2.1 bt119.2.2 6).bind fun bt122 => ((spec_l1Cur_pick.f x1000 bt122.2.1 bt122.2.2 6).bind fun bt125 => ((spec_l1Cur_one.f x1000 bt125.2.1 bt125.2.2 40).bind fun bt129 => (if bt129.1 = true then ((spec_l1Cur_pick.f x1000 bt129.2.1 bt129.2.2 12).bind fun bt132 => ((spec_l1Cur_among.f x1000 bt132.2.1 bt132.2.2 (([(-1), 60, 5] : List Int))).bind fun bt138 => ((spec_l1Cur_pick.f x1000 bt138.2.1 bt138.2.2 3).bind fun bt141 => (if x3.length < 5864062014805 then (spec_l1Cur_heapOps.l0 k (x3 ++ [(⟨bt132.1, bt138.1, bt141.1⟩ : S102)]) x4 (wrap64 (x5 + 1)) x1000 bt141.2.1 bt141.2.2) else (none))))) else (if x3.length < 5864062014805 then (spec_l1Cur_heapOps.l0 k (x3 ++ [(⟨bt119.1, bt122.1, bt125.1⟩ : S102)]) x4 (wrap64 (x5 + 1)) x1000 bt129.2.1 bt129.2.2) else (none))))))) else ((spec_l1Cur_one.f x1000 x1001 x1002 60).bind fun bt110 => (if bt110.1 = true then (if x3.length + 150 < 5864062014805 then (some ((x3 ++ List.replicate 150 z102), bt110.2.1, bt110.2.2)) else (none)) else (some (x3, bt110.2.1, bt110.2.2))))
end
def spec_l1Cur_heapOps.f (k : Nat) (s0_0 : List Int) (s0_1 : Int) (s0_2 : Int) : Option ((List (S102)) × Int × Int) := (spec_l1Cur_pick.f s0_0 s0_1 s0_2 40).bind fun bt101 => ((spec_l1Cur_one.f s0_0 bt101.2.1 bt101.2.2 8).bind fun bt104 => (if bt104.1 = true then ((spec_l1Cur_pick.f s0_0 bt104.2.1 bt104.2.2 61).bind fun bt107 => (spec_l1Cur_heapOps.j0 k ([] : List (S102)) (wrap64 (90 + bt107.1)) s0_0 bt107.2.1 bt107.2.2)) else (spec_l1Cur_heapOps.j0 k ([] : List (S102)) bt101.1 s0_0 bt104.2.1 bt104.2.2)))
set_option maxHeartbeats 8000000 in
set_option maxRecDepth 100000 in
theorem spec_l1Cur_heapOps.calls (k : Nat) (g : Nat) (s0_0 : List Int) (s0_1 : Int) (s0_2 : Int) (r1 : List (S102)) (r2 : Int) (r3 : Int) (w0 w : World) (hI : IsS76 w0 w g s0_0 s0_1 s0_2) (hB : Below w0.heap.size w0 w) (h : spec_l1Cur_heapOps.f k s0_0 s0_1 s0_2 = some (r1, r2, r3)) :
  Calls Tryd.prog 55 #[.pointer (some ⟨g, 0, none⟩)] w fun e w' => ∃ v0_ : Value, e = .returned (v0_) ∧ Kd.R k102 102 w' w.heap.size (fun _ => True) v0_ r1 ∧ IsS76 w0 w' g s0_0 r2 r3 ∧ Below w0.heap.size w0 w' ∧ KeepBut w w' g none := by
 have hu102 := Tryd.underlying102
 have HI0 := aK hI
 have HK := aK (KeepBut.refl w g none)
 have HL := aK hB.size
 clear hI
 have HW0 := aK hB.size
 have HB := aK hB
 clear hB
 have H : ((spec_l1Cur_pick.f s0_0 s0_1 s0_2 40).bind fun bt101 => ((spec_l1Cur_one.f s0_0 bt101.2.1 bt101.2.2 8).bind fun bt104 => (if bt104.1 = true then ((spec_l1Cur_pick.f s0_0 bt104.2.1 bt104.2.2 61).bind fun bt107 => (spec_l1Cur_heapOps.j0 k ([] : List (S102)) (wrap64 (90 + bt107.1)) s0_0 bt107.2.1 bt107.2.2)) else (spec_l1Cur_heapOps.j0 k ([] : List (S102)) bt101.1 s0_0 bt104.2.1 bt104.2.2)))) = some (r1, r2, r3) := h
 clear h
 obtain ⟨⟨t101, t102, t103⟩, A2, H⟩ := oB H
 try dsimp only at H
 obtain ⟨⟨t104, t105, t106⟩, A3, H⟩ := oB H
 try dsimp only at H
 have HC4 := aK H
 clear H
 go_enter Tryd.func55, Tryd.ntmps55
 go_upto_if 10 with (first | ((with_reducible refine gate_callee (f := 54) rfl ?_); refine goesL_ (some 8) rfl rfl Tryd.func54 (by kernel_rfl) rfl #[.pointer (some ⟨g, 0, none⟩), .int .i64 40] rfl tA ?_; (with_reducible refine (spec_l1Cur_pick.calls g s0_0 s0_1 s0_2 40 t101 t102 t103 w0 _ ?side1 ?side2 A2.out).mono ?_); (case side1 => exact yI HI0); (case side2 => exact yH HB); rintro e w5 ⟨rfl, hi, hb, hk⟩; refine ⟨_, rfl, ?_⟩; have n0_ := aK (KeepBut.trans (yK HK) hk (.inl rfl)); have n1_ := aK (hb); have n2_ := aK (hi); clear HK; have HK := n0_; clear n0_; clear HB; have HB := n1_; clear n1_; clear HI0; have HI0 := n2_; clear n2_; (try clear hb)) | ((with_reducible refine gate_callee (f := 67) rfl ?_); refine goesL_ (some 10) rfl rfl Tryd.func67 (by kernel_rfl) rfl #[.pointer (some ⟨g, 0, none⟩), .int .i64 8] rfl tA ?_; (with_reducible refine (spec_l1Cur_one.calls g s0_0 t102 t103 8 t104 t105 t106 w0 _ ?side1 ?side2 A3.out).mono ?_); (case side1 => exact yI HI0); (case side2 => exact yH HB); rintro e w6 ⟨rfl, hi, hb, hk⟩; refine ⟨_, rfl, ?_⟩; have n0_ := aK (KeepBut.trans (yK HK) hk (.inl rfl)); have n1_ := aK (hb); have n2_ := aK (hi); clear HK; have HK := n0_; clear n0_; clear HB; have HB := n1_; clear n1_; clear HI0; have HI0 := n2_; clear n2_; (try clear hb)))
 (try simp only [Act.put, List.setIfInBounds_toArray, List.set_cons_zero, List.set_cons_succ])
 go_cut [4] (fun v4 wc => ∃ (kq : Nat) (x4_3 : Int) (x1001_3 : Int) (x1002_3 : Int), v4 = .int .i64 x4_3 ∧ Aside0 (spec_l1Cur_heapOps.j0 kq ([] : List (S102)) x4_3 s0_0 x1001_3 x1002_3 = some (r1, r2, r3)) ∧ Aside0 (kq ≤ k) ∧ Aside0 (Kd.R k102 102 wc w.heap.size (fun _ => True) (.slice none 0 0) ([] : List (S102))) ∧ Aside0 (IsS76 w0 wc g s0_0 x1001_3 x1002_3) ∧ Aside0 (KeepBut w wc g none) ∧ Aside0 (Below w0.heap.size w0 wc))
 case first =>
  have H := HC4.out
  clear HC4
  by_cases c7 : t104 = true
  ·subst c7
   rw [if_pos rfl] at H
   obtain ⟨⟨t107, t108, t109⟩, A8, H⟩ := oB H
   try dsimp only at H
   have H' := aK H
   clear H
   go_wp2_with (first | ((with_reducible refine gate_callee (f := 54) rfl ?_); refine goesL_ (some 12) rfl rfl Tryd.func54 (by kernel_rfl) rfl #[.pointer (some ⟨g, 0, none⟩), .int .i64 61] rfl tA ?_; (with_reducible refine (spec_l1Cur_pick.calls g s0_0 t105 t106 61 t107 t108 t109 w0 _ ?side1 ?side2 A8.out).mono ?_); (case side1 => exact yI HI0); (case side2 => exact yH HB); rintro e w9 ⟨rfl, hi, hb, hk⟩; refine ⟨_, rfl, ?_⟩; have n0_ := aK (KeepBut.trans (yK HK) hk (.inl rfl)); have n1_ := aK (hb); have n2_ := aK (hi); clear HK; have HK := n0_; clear n0_; clear HB; have HB := n1_; clear n1_; clear HI0; have HI0 := n2_; clear n2_; (try clear hb)))
   go_meet
   case rel => exact ⟨_, (wrap64 (90 + t107)), (t108), (t109), rS, H', ⟨by first | omega | exact Nat.le_refl _⟩, ⟨by first | exact Kd.R_nil _ _ _ _ _ | exact Kd.N_nil _ _ _ _ _ | exact Kd.V_nil _ _ _ _ _ | exact Kd.Q_nil _ _ _ _ _ | exact Kd.S_nil _ _ _ _ _⟩, ⟨yI HI0⟩, ⟨yK HK⟩, ⟨yH HB⟩⟩
  ·replace c7 := Bool.eq_false_iff.mpr c7
   subst c7
   rw [if_neg (show ¬ (false = true) by decide)] at H
   have H' := aK H
   clear H
   go_wp2
   go_meet
   case rel => exact ⟨_, (t101), (t105), (t106), rS, H', ⟨by first | omega | exact Nat.le_refl _⟩, ⟨by first | exact Kd.R_nil _ _ _ _ _ | exact Kd.N_nil _ _ _ _ _ | exact Kd.V_nil _ _ _ _ _ | exact Kd.Q_nil _ _ _ _ _ | exact Kd.S_nil _ _ _ _ _⟩, ⟨yI HI0⟩, ⟨yK HK⟩, ⟨yH HB⟩⟩
 case rest =>
  clear HC4
  try clear p2; try clear c5; try clear c6; try clear p6; try clear c7
  obtain ⟨kq, x4_3, x1001_3, x1002_3, rfl, HA, HJ3, HO_3, HI0, HK, HB⟩ := hcut
  cases kq with
  | zero => exact absurd HA.out (by simp [spec_l1Cur_heapOps.j0])
  | succ kj3 =>
   have H := HA.out
   clear HA
   simp only [spec_l1Cur_heapOps.j0] at H
   have H' := aK H
   clear H
   go_wp2
   go_loopg [3, 5] kj3 (fun kq v3 v5 w' => ∃ (x3_2 : List (S102)) (x5_2 : Int) (x1001_2 : Int) (x1002_2 : Int), v5 = .int .i64 x5_2 ∧ Aside0 (spec_l1Cur_heapOps.l0 kq x3_2 x4_3 x5_2 s0_0 x1001_2 x1002_2 = some (r1, r2, r3)) ∧ Aside0 (kq ≤ kj3) ∧ Aside0 (Kd.R k102 102 w' w.heap.size (fun _ => True) v3 x3_2) ∧ Aside0 (IsS76 w0 w' g s0_0 x1001_2 x1002_2) ∧ Aside0 (KeepBut w w' g none) ∧ Aside0 (Below w0.heap.size w0 w'))
   case atStart => exact ⟨(([] : List (S102))), (0), (x1001_3), (x1002_3), rS, H', ⟨Nat.le_refl _⟩, ⟨by (with_reducible repeat (first | apply rA | apply rN | apply rD)); exact HO_3.out⟩, ⟨yI HI0⟩, ⟨yK HK⟩, ⟨yH HB⟩⟩
   case round =>
    clear H'
    try clear p2; try clear c5; try clear c6; try clear p6; try clear c7; try clear p2; try clear p6
    obtain ⟨x3_2, x5_2, x1001_2, x1002_2, rfl, HA, HK2, HO_3, HI0, HK, HB⟩ := hrel
    cases gk with
    | zero => exact absurd HA.out (by simp [spec_l1Cur_heapOps.l0])
    | succ k2 =>
     have H := HA.out
     clear HA
     simp only [spec_l1Cur_heapOps.l0] at H
     by_cases c10 : x5_2 < x4_3
     ·rw [if_pos c10] at H
      have c10b0 : decide (x5_2 < x4_3) = true := decide_eq_true c10
      clear c10
      obtain ⟨y116, hy116⟩ : ∃ y_ : List Int, y_ = (([1, 1, 2, 2, 2, 3, 4, 5, 5, 6, 6, 7, 8, 9] : List Int)) := ⟨_, rfl⟩
      replace H : ((spec_l1Cur_among.f s0_0 x1001_2 x1002_2 y116).bind fun bt119 => ((spec_l1Cur_pick.f s0_0 bt119.2.1 bt119.2.2 6).bind fun bt122 => ((spec_l1Cur_pick.f s0_0 bt122.2.1 bt122.2.2 6).bind fun bt125 => ((spec_l1Cur_one.f s0_0 bt125.2.1 bt125.2.2 40).bind fun bt129 => (if bt129.1 = true then ((spec_l1Cur_pick.f s0_0 bt129.2.1 bt129.2.2 12).bind fun bt132 => ((spec_l1Cur_among.f s0_0 bt132.2.1 bt132.2.2 (([(-1), 60, 5] : List Int))).bind fun bt138 => ((spec_l1Cur_pick.f s0_0 bt138.2.1 bt138.2.2 3).bind fun bt141 => (if x3_2.length < 5864062014805 then (spec_l1Cur_heapOps.l0 k2 (x3_2 ++ [(⟨bt132.1, bt138.1, bt141.1⟩ : S102)]) x4_3 (wrap64 (x5_2 + 1)) s0_0 bt141.2.1 bt141.2.2) else (none))))) else (if x3_2.length < 5864062014805 then (spec_l1Cur_heapOps.l0 k2 (x3_2 ++ [(⟨bt119.1, bt122.1, bt125.1⟩ : S102)]) x4_3 (wrap64 (x5_2 + 1)) s0_0 bt129.2.1 bt129.2.2) else (none))))))) = some (r1, r2, r3) := by first | (rw [hy116]; with_reducible exact H) | (have H2_ := (Option.bind_some _ _).symm.trans H; rw [hy116]; with_reducible exact H2_) | (have H2_ := (Option.bind_some _ _).symm.trans H; with_reducible exact H2_) | with_reducible exact H | (rw [hy116]; exact H) | exact H
      have Ny116 := aK hy116
      clear hy116
      obtain ⟨⟨t119, t120, t121⟩, A11, H⟩ := oB H
      try dsimp only at H
      obtain ⟨⟨t122, t123, t124⟩, A12, H⟩ := oB H
      try dsimp only at H
      obtain ⟨⟨t125, t126, t127⟩, A13, H⟩ := oB H
      try dsimp only at H
      obtain ⟨⟨t129, t130, t131⟩, A14, H⟩ := oB H
      try dsimp only at H
      by_cases c15 : t129 = true
      ·subst c15
       rw [if_pos rfl] at H
       obtain ⟨⟨t132, t133, t134⟩, A16, H⟩ := oB H
       try dsimp only at H
       obtain ⟨y135, hy135⟩ : ∃ y_ : List Int, y_ = (([(-1), 60, 5] : List Int)) := ⟨_, rfl⟩
       replace H : ((spec_l1Cur_among.f s0_0 t133 t134 y135).bind fun bt138 => ((spec_l1Cur_pick.f s0_0 bt138.2.1 bt138.2.2 3).bind fun bt141 => (if x3_2.length < 5864062014805 then (spec_l1Cur_heapOps.l0 k2 (x3_2 ++ [(⟨t132, bt138.1, bt141.1⟩ : S102)]) x4_3 (wrap64 (x5_2 + 1)) s0_0 bt141.2.1 bt141.2.2) else (none)))) = some (r1, r2, r3) := by first | (rw [hy135]; with_reducible exact H) | (have H2_ := (Option.bind_some _ _).symm.trans H; rw [hy135]; with_reducible exact H2_) | (have H2_ := (Option.bind_some _ _).symm.trans H; with_reducible exact H2_) | with_reducible exact H | (rw [hy135]; exact H) | exact H
       have Ny135 := aK hy135
       clear hy135
       obtain ⟨⟨t138, t139, t140⟩, A17, H⟩ := oB H
       try dsimp only at H
       obtain ⟨⟨t141, t142, t143⟩, A18, H⟩ := oB H
       try dsimp only at H
       by_cases c19 : x3_2.length < 5864062014805
       ·rw [if_pos c19] at H
        have LMc19 := aK c19
        clear c19
        obtain ⟨y144, hy144⟩ : ∃ y_ : List (S102), y_ = (x3_2 ++ [(⟨t132, t138, t141⟩ : S102)]) := ⟨_, rfl⟩
        replace H : (spec_l1Cur_heapOps.l0 k2 y144 x4_3 (wrap64 (x5_2 + 1)) s0_0 t142 t143) = some (r1, r2, r3) := by first | (rw [hy144]; with_reducible exact H) | (have H2_ := (Option.bind_some _ _).symm.trans H; rw [hy144]; with_reducible exact H2_) | (have H2_ := (Option.bind_some _ _).symm.trans H; with_reducible exact H2_) | with_reducible exact H | (rw [hy144]; exact H) | exact H
        have Ny144 := aK hy144
        clear hy144
        have H' := aK H
        clear H
        go_wp2_with (first | ((with_reducible refine gate_dst (N := 20) rfl ?_); refine Kd.R_lit (Kd.int .i64) _ 3 ?hg (N := 20) ?hd (xs := ([1, 1, 2, 2, 2, 3, 4, 5, 5, 6, 6, 7, 8, 9] : List Int)) (inner := [.int .i64 1, .int .i64 1, .int .i64 2, .int .i64 2, .int .i64 2, .int .i64 3, .int .i64 4, .int .i64 5, .int .i64 5, .int .i64 6, .int .i64 6, .int .i64 7, .int .i64 8, .int .i64 9]) (ok := fun _ => True) (okp := fun _ => True) ?hr ?hp (fun _ hk => hk) trivial (Below.refl _ _) (Nat.le_refl _) (by simp) ?_; (case hd => rfl); (case hg => rfl); (case hr => go_simp); (case hp => exact (Reps.one (show Kd.M (Kd.int .i64) _ _ _ 1 [.int .i64 1] from rfl) (Reps.one (show Kd.M (Kd.int .i64) _ _ _ 1 [.int .i64 1] from rfl) (Reps.one (show Kd.M (Kd.int .i64) _ _ _ 2 [.int .i64 2] from rfl) (Reps.one (show Kd.M (Kd.int .i64) _ _ _ 2 [.int .i64 2] from rfl) (Reps.one (show Kd.M (Kd.int .i64) _ _ _ 2 [.int .i64 2] from rfl) (Reps.one (show Kd.M (Kd.int .i64) _ _ _ 3 [.int .i64 3] from rfl) (Reps.one (show Kd.M (Kd.int .i64) _ _ _ 4 [.int .i64 4] from rfl) (Reps.one (show Kd.M (Kd.int .i64) _ _ _ 5 [.int .i64 5] from rfl) (Reps.one (show Kd.M (Kd.int .i64) _ _ _ 5 [.int .i64 5] from rfl) (Reps.one (show Kd.M (Kd.int .i64) _ _ _ 6 [.int .i64 6] from rfl) (Reps.one (show Kd.M (Kd.int .i64) _ _ _ 6 [.int .i64 6] from rfl) (Reps.one (show Kd.M (Kd.int .i64) _ _ _ 7 [.int .i64 7] from rfl) (Reps.one (show Kd.M (Kd.int .i64) _ _ _ 8 [.int .i64 8] from rfl) (Reps.one (show Kd.M (Kd.int .i64) _ _ _ 9 [.int .i64 9] from rfl) (Reps.none _ _)))))))))))))))); intro v117 w20 ho21 hb hg_ hnew_; clear hg_ hnew_; (first | rw [← Ny116.out] at ho21 | (simp only [Int.reduceToNat] at ho21; rw [← Ny116.out] at ho21)); have n0_ := aK (Kd.R_below HO_3.out hb); have HO118 := aK (Kd.R_lower ho21 (keep_size (w := w) (g := g) (row := none) (yK HK))); have n2_ := aK (IsS76.below (yI HI0) hb); have n3_ := aK (KeepBut.trans (yK HK) (KeepBut.of_below hb g none) (.inl rfl)); have n4_ := aK (below_step (yH HB) hb); clear HO_3; have HO_3 := n0_; clear n0_; clear HI0; have HI0 := n2_; clear n2_; clear HK; have HK := n3_; clear n3_; clear HB; have HB := n4_; clear n4_; clear hb ho21; obtain ⟨Ao22, co22, eo22⟩ := Kd.R_slice HO118.out; subst eo22) | ((with_reducible refine gate_callee (f := 57) rfl ?_); refine goesL_ (some 21) rfl rfl Tryd.func57 (by kernel_rfl) rfl #[.pointer (some ⟨g, 0, none⟩), .slice Ao22 y116.length co22] rfl tA ?_; (with_reducible refine (spec_l1Cur_among.calls g s0_0 x1001_2 x1002_2 _ _ y116 t119 t120 t121 w0 _ ?side1 ?side2 ?side3 ?side4 ?side5 A11.out).mono ?_); (case side1 => exact yI HI0); (case side2 => exact yH HB); (case side3 => exact sC ((Kd.R_reads' HO118.out).2.2)); (case side4 => exact (Kd.R_reads' HO118.out).2.1); (case side5 => exact far_slice (IsS76.own_ne HI0.out HO118.out (by decide))); rintro e w23 ⟨rfl, hi, hb, hk⟩; refine ⟨_, rfl, ?_⟩; have n0_ := aK (Kd.R_mono (Kd.R_keep (IsS76.apart (show IsS76 w0 _ g s0_0 x1001_2 x1002_2 from by repeat (first | (with_reducible first | exact HI0.out | apply IsS76.alloc | apply IsS76.drewN | apply IsS76.drew | apply IsS76.set_1 | apply IsS76.set_2) | exact HI0.out)) HO_3.out (by decide)) hk (fun _ h => h.2)) (fun _ h => h.1)); have n1_ := aK (Kd.R_mono (Kd.R_keep (IsS76.apart (show IsS76 w0 _ g s0_0 x1001_2 x1002_2 from by repeat (first | (with_reducible first | exact HI0.out | apply IsS76.alloc | apply IsS76.drewN | apply IsS76.drew | apply IsS76.set_1 | apply IsS76.set_2) | exact HI0.out)) HO118.out (by decide)) hk (fun _ h => h.2)) (fun _ h => h.1)); have n2_ := aK (KeepBut.trans (yK HK) hk (.inl rfl)); have n3_ := aK (hb); have n4_ := aK (hi); clear HO_3; have HO_3 := n0_; clear n0_; clear HO118; have HO118 := n1_; clear n1_; clear HK; have HK := n2_; clear n2_; clear HB; have HB := n3_; clear n3_; clear HI0; have HI0 := n4_; clear n4_; (try clear hb)) | ((with_reducible refine gate_callee (f := 54) rfl ?_); refine goesL_ (some 23) rfl rfl Tryd.func54 (by kernel_rfl) rfl #[.pointer (some ⟨g, 0, none⟩), .int .i64 6] rfl tA ?_; (with_reducible refine (spec_l1Cur_pick.calls g s0_0 t120 t121 6 t122 t123 t124 w0 _ ?side1 ?side2 A12.out).mono ?_); (case side1 => exact yI HI0); (case side2 => exact yH HB); rintro e w24 ⟨rfl, hi, hb, hk⟩; refine ⟨_, rfl, ?_⟩; have n0_ := aK (Kd.R_mono (Kd.R_keep (IsS76.apart (show IsS76 w0 _ g s0_0 t120 t121 from by repeat (first | (with_reducible first | exact HI0.out | apply IsS76.alloc | apply IsS76.drewN | apply IsS76.drew | apply IsS76.set_1 | apply IsS76.set_2) | exact HI0.out)) HO_3.out (by decide)) hk (fun _ h => h.2)) (fun _ h => h.1)); have n1_ := aK (Kd.R_mono (Kd.R_keep (IsS76.apart (show IsS76 w0 _ g s0_0 t120 t121 from by repeat (first | (with_reducible first | exact HI0.out | apply IsS76.alloc | apply IsS76.drewN | apply IsS76.drew | apply IsS76.set_1 | apply IsS76.set_2) | exact HI0.out)) HO118.out (by decide)) hk (fun _ h => h.2)) (fun _ h => h.1)); have n2_ := aK (KeepBut.trans (yK HK) hk (.inl rfl)); have n3_ := aK (hb); have n4_ := aK (hi); clear HO_3; have HO_3 := n0_; clear n0_; clear HO118; have HO118 := n1_; clear n1_; clear HK; have HK := n2_; clear n2_; clear HB; have HB := n3_; clear n3_; clear HI0; have HI0 := n4_; clear n4_; (try clear hb)) | ((with_reducible refine gate_callee (f := 54) rfl ?_); refine goesL_ (some 25) rfl rfl Tryd.func54 (by kernel_rfl) rfl #[.pointer (some ⟨g, 0, none⟩), .int .i64 6] rfl tA ?_; (with_reducible refine (spec_l1Cur_pick.calls g s0_0 t123 t124 6 t125 t126 t127 w0 _ ?side1 ?side2 A13.out).mono ?_); (case side1 => exact yI HI0); (case side2 => exact yH HB); rintro e w25 ⟨rfl, hi, hb, hk⟩; refine ⟨_, rfl, ?_⟩; have n0_ := aK (Kd.R_mono (Kd.R_keep (IsS76.apart (show IsS76 w0 _ g s0_0 t123 t124 from by repeat (first | (with_reducible first | exact HI0.out | apply IsS76.alloc | apply IsS76.drewN | apply IsS76.drew | apply IsS76.set_1 | apply IsS76.set_2) | exact HI0.out)) HO_3.out (by decide)) hk (fun _ h => h.2)) (fun _ h => h.1)); have n1_ := aK (Kd.R_mono (Kd.R_keep (IsS76.apart (show IsS76 w0 _ g s0_0 t123 t124 from by repeat (first | (with_reducible first | exact HI0.out | apply IsS76.alloc | apply IsS76.drewN | apply IsS76.drew | apply IsS76.set_1 | apply IsS76.set_2) | exact HI0.out)) HO118.out (by decide)) hk (fun _ h => h.2)) (fun _ h => h.1)); have n2_ := aK (KeepBut.trans (yK HK) hk (.inl rfl)); have n3_ := aK (hb); have n4_ := aK (hi); clear HO_3; have HO_3 := n0_; clear n0_; clear HO118; have HO118 := n1_; clear n1_; clear HK; have HK := n2_; clear n2_; clear HB; have HB := n3_; clear n3_; clear HI0; have HI0 := n4_; clear n4_; (try clear hb)) | ((with_reducible refine gate_dst (N := 6) rfl ?_); refine bE (N := 6) (cs := #[.int .i64 0, .int .i64 0, .int .i64 0]) (t := 102) ?_; intro gb128 hg w26 hbox hb; have n0_ := aK (Kd.R_below (Kd.R_elderB HO_3.out gb128 (Nat.le_of_eq hg.symm)) hb); have n1_ := aK (Kd.R_below HO118.out hb); have n2_ := aK (IsS76.below (yI HI0) hb); have n3_ := aK (KeepBut.trans (yK HK) (KeepBut.of_below hb g none) (.inl rfl)); have n4_ := aK (below_step (yH HB) hb); have GW128 := aK ((by rw [hg]; exact (keep_size (w := w) (g := g) (row := none) (yK HK)) : w.heap.size ≤ gb128)); have GE128 := aK ((Nat.le_trans HW0.out (by rw [hg]; exact (keep_size (w := w) (g := g) (row := none) (yK HK)) : w.heap.size ≤ gb128) : w0.heap.size ≤ gb128)); have NB0_128 := aK ((by rw [hg]; exact Nat.ne_of_lt (IsS76.lt (show IsS76 w0 _ g s0_0 t126 t127 from by repeat (first | (with_reducible first | exact HI0.out | apply IsS76.alloc | apply IsS76.drewN | apply IsS76.drew | apply IsS76.set_1 | apply IsS76.set_2) | exact HI0.out))) : g ≠ gb128)); have NB128_0 := aK ((by rw [hg]; exact Nat.ne_of_gt (IsS76.lt (show IsS76 w0 _ g s0_0 t126 t127 from by repeat (first | (with_reducible first | exact HI0.out | apply IsS76.alloc | apply IsS76.drewN | apply IsS76.drew | apply IsS76.set_1 | apply IsS76.set_2) | exact HI0.out))) : gb128 ≠ g)); have BK128 := aK hbox; clear HO_3; have HO_3 := n0_; clear n0_; clear HO118; have HO118 := n1_; clear n1_; clear HI0; have HI0 := n2_; clear n2_; clear HK; have HK := n3_; clear n3_; clear HB; have HB := n4_; clear n4_; clear hb hbox hg; have hnb27 := NB128_0.out; have hnc27 := NB0_128.out; obtain ⟨hcz28_0, hcz28_1, hcz28_2, hfz28_0, hfz28_1, hfz28_2⟩ := cA3 BK128) | ((with_reducible refine gate_callee (f := 67) rfl ?_); refine goesL_ (some 28) rfl rfl Tryd.func67 (by kernel_rfl) rfl #[.pointer (some ⟨g, 0, none⟩), .int .i64 40] rfl tA ?_; (with_reducible refine (spec_l1Cur_one.calls g s0_0 t126 t127 40 true t130 t131 w0 _ ?side1 ?side2 A14.out).mono ?_); (case side1 => exact yI HI0); (case side2 => exact yH HB); rintro e w29 ⟨rfl, hi, hb, hk⟩; refine ⟨_, rfl, ?_⟩; have n_ := aJ (aK (Kd.R_mono (Kd.R_keep (IsS76.apart (show IsS76 w0 _ g s0_0 t126 t127 from by repeat (first | (with_reducible first | exact HI0.out | apply IsS76.alloc | apply IsS76.drewN | apply IsS76.drew | apply IsS76.set_1 | apply IsS76.set_2 | refine IsS76.far ?_ NB0_128.out _) | exact HI0.out)) (by (with_reducible repeat (first | apply rA | apply rN | apply rD)); exact (Kd.R_mono (Kd.R_far (p := ⟨gb128, 2, none⟩) (Kd.R_far (p := ⟨gb128, 1, none⟩) (Kd.R_far (p := ⟨gb128, 0, none⟩) (Kd.R_mono HO_3.out (fun k_ hk => (⟨hk, hk.2⟩ : _ ∧ k_ ≠ gb128))) (fun _ hk => hk.2) (.int .i64 t119)) (fun _ hk => hk.2) (.int .i64 t122)) (fun _ hk => hk.2) (.int .i64 t125)) (fun _ h_ => h_.1))) (by decide)) hk (fun _ h => h.2)) (fun _ h => h.1))) (aJ (aK (Kd.R_mono (Kd.R_keep (IsS76.apart (show IsS76 w0 _ g s0_0 t126 t127 from by repeat (first | (with_reducible first | exact HI0.out | apply IsS76.alloc | apply IsS76.drewN | apply IsS76.drew | apply IsS76.set_1 | apply IsS76.set_2 | refine IsS76.far ?_ NB0_128.out _) | exact HI0.out)) (by (with_reducible repeat (first | apply rA | apply rN | apply rD)); exact (Kd.R_mono (Kd.R_far (p := ⟨gb128, 2, none⟩) (Kd.R_far (p := ⟨gb128, 1, none⟩) (Kd.R_far (p := ⟨gb128, 0, none⟩) (Kd.R_types HO118.out BK128.out (by decide)) (fun _ hk => hk.2) (.int .i64 t119)) (fun _ hk => hk.2) (.int .i64 t122)) (fun _ hk => hk.2) (.int .i64 t125)) (fun _ h_ => h_.1))) (by decide)) hk (fun _ h => h.2)) (fun _ h => h.1))) (aJ (aK (KeepBut.blk hk (g' := gb128) (o := .cells #[.int .i64 t119, .int .i64 t122, .int .i64 t125] 102 (0, 0)) (p3 BK128) NB128_0.out (by simp))) (aJ (aK (KeepBut.trans (yK HK) hk (.inl rfl))) (aJ (aK (hb)) (aK (hi)))))); clear HO_3 HO118 BK128 HK HB HI0; obtain ⟨HO_3, HO118, BK128, HK, HB, HI0⟩ := n_; (try clear hb)) | ((with_reducible refine gate_callee (f := 54) rfl ?_); refine goesL_ (some 30) rfl rfl Tryd.func54 (by kernel_rfl) rfl #[.pointer (some ⟨g, 0, none⟩), .int .i64 12] rfl tA ?_; (with_reducible refine (spec_l1Cur_pick.calls g s0_0 t130 t131 12 t132 t133 t134 w0 _ ?side1 ?side2 A16.out).mono ?_); (case side1 => exact yI HI0); (case side2 => exact yH HB); rintro e w30 ⟨rfl, hi, hb, hk⟩; refine ⟨_, rfl, ?_⟩; have n_ := aJ (aK (Kd.R_mono (Kd.R_keep (IsS76.apart (show IsS76 w0 _ g s0_0 t130 t131 from by repeat (first | (with_reducible first | exact HI0.out | apply IsS76.alloc | apply IsS76.drewN | apply IsS76.drew | apply IsS76.set_1 | apply IsS76.set_2 | refine IsS76.far ?_ NB0_128.out _) | exact HI0.out)) HO_3.out (by decide)) hk (fun _ h => h.2)) (fun _ h => h.1))) (aJ (aK (Kd.R_mono (Kd.R_keep (IsS76.apart (show IsS76 w0 _ g s0_0 t130 t131 from by repeat (first | (with_reducible first | exact HI0.out | apply IsS76.alloc | apply IsS76.drewN | apply IsS76.drew | apply IsS76.set_1 | apply IsS76.set_2 | refine IsS76.far ?_ NB0_128.out _) | exact HI0.out)) HO118.out (by decide)) hk (fun _ h => h.2)) (fun _ h => h.1))) (aJ (aK (KeepBut.blk hk (g' := gb128) (o := .cells #[.int .i64 t119, .int .i64 t122, .int .i64 t125] 102 (0, 0)) BK128.out NB128_0.out (by simp))) (aJ (aK (KeepBut.trans (yK HK) hk (.inl rfl))) (aJ (aK (hb)) (aK (hi)))))); clear HO_3 HO118 BK128 HK HB HI0; obtain ⟨HO_3, HO118, BK128, HK, HB, HI0⟩ := n_; (try clear hb)) | ((with_reducible refine gate_dst (N := 32) rfl ?_); refine Kd.R_lit (Kd.int .i64) _ 3 ?hg (N := 32) ?hd (xs := ([(-1), 60, 5] : List Int)) (inner := [.int .i64 (-1), .int .i64 60, .int .i64 5]) (ok := fun _ => True) (okp := fun _ => True) ?hr ?hp (fun _ hk => hk) trivial (Below.refl _ _) (Nat.le_refl _) (by simp) ?_; (case hd => rfl); (case hg => rfl); (case hr => go_simp); (case hp => exact (Reps.one (show Kd.M (Kd.int .i64) _ _ _ (-1) [.int .i64 (-1)] from rfl) (Reps.one (show Kd.M (Kd.int .i64) _ _ _ 60 [.int .i64 60] from rfl) (Reps.one (show Kd.M (Kd.int .i64) _ _ _ 5 [.int .i64 5] from rfl) (Reps.none _ _))))); intro v136 w31 ho32 hb hg_ hnew_; clear hg_ hnew_; (first | rw [← Ny135.out] at ho32 | (simp only [Int.reduceToNat] at ho32; rw [← Ny135.out] at ho32)); have n_ := aJ (aK (Kd.R_below HO_3.out hb)) (aJ (aK (Kd.R_elder' HO118.out (Kd.R_base ho32) hb)) (aJ (aK (Kd.R_lower (Kd.R_new' ho32 (Kd.R_lt HO118.out)) (keep_size (w := w) (g := g) (row := none) (yK HK)))) (aJ (aK (IsS76.below (yI HI0) hb)) (aJ (aK (blk_below BK128.out hb)) (aJ (aK (KeepBut.trans (yK HK) (KeepBut.of_below hb g none) (.inl rfl))) (aK (below_step (yH HB) hb))))))); clear HO_3 HO118 HI0 BK128 HK HB; obtain ⟨HO_3, HO118, HO137, HI0, BK128, HK, HB⟩ := n_; clear hb ho32; obtain ⟨Ao33, co33, eo33⟩ := Kd.R_slice HO137.out; subst eo33) | ((with_reducible refine gate_callee (f := 57) rfl ?_); refine goesL_ (some 33) rfl rfl Tryd.func57 (by kernel_rfl) rfl #[.pointer (some ⟨g, 0, none⟩), .slice Ao33 y135.length co33] rfl tA ?_; (with_reducible refine (spec_l1Cur_among.calls g s0_0 t133 t134 _ _ y135 t138 t139 t140 w0 _ ?side1 ?side2 ?side3 ?side4 ?side5 A17.out).mono ?_); (case side1 => exact yI HI0); (case side2 => exact yH HB); (case side3 => exact sC ((Kd.R_reads' HO137.out).2.2)); (case side4 => exact (Kd.R_reads' HO137.out).2.1); (case side5 => exact far_slice (IsS76.own_ne HI0.out HO137.out (by decide))); rintro e w34 ⟨rfl, hi, hb, hk⟩; refine ⟨_, rfl, ?_⟩; have n_ := aJ (aK (Kd.R_mono (Kd.R_keep (IsS76.apart (show IsS76 w0 _ g s0_0 t133 t134 from by repeat (first | (with_reducible first | exact HI0.out | apply IsS76.alloc | apply IsS76.drewN | apply IsS76.drew | apply IsS76.set_1 | apply IsS76.set_2 | refine IsS76.far ?_ NB0_128.out _) | exact HI0.out)) HO_3.out (by decide)) hk (fun _ h => h.2)) (fun _ h => h.1))) (aJ (aK (Kd.R_mono (Kd.R_keep (IsS76.apart (show IsS76 w0 _ g s0_0 t133 t134 from by repeat (first | (with_reducible first | exact HI0.out | apply IsS76.alloc | apply IsS76.drewN | apply IsS76.drew | apply IsS76.set_1 | apply IsS76.set_2 | refine IsS76.far ?_ NB0_128.out _) | exact HI0.out)) HO118.out (by decide)) hk (fun _ h => h.2)) (fun _ h => h.1))) (aJ (aK (KeepBut.blk hk (g' := gb128) (o := .cells #[.int .i64 t119, .int .i64 t122, .int .i64 t125] 102 (0, 0)) BK128.out NB128_0.out (by simp))) (aJ (aK (Kd.R_mono (Kd.R_keep (IsS76.apart (show IsS76 w0 _ g s0_0 t133 t134 from by repeat (first | (with_reducible first | exact HI0.out | apply IsS76.alloc | apply IsS76.drewN | apply IsS76.drew | apply IsS76.set_1 | apply IsS76.set_2 | refine IsS76.far ?_ NB0_128.out _) | exact HI0.out)) HO137.out (by decide)) hk (fun _ h => h.2)) (fun _ h => h.1))) (aJ (aK (KeepBut.trans (yK HK) hk (.inl rfl))) (aJ (aK (hb)) (aK (hi))))))); clear HO_3 HO118 BK128 HO137 HK HB HI0; obtain ⟨HO_3, HO118, BK128, HO137, HK, HB, HI0⟩ := n_; (try clear hb)) | ((with_reducible refine gate_callee (f := 54) rfl ?_); refine goesL_ (some 35) rfl rfl Tryd.func54 (by kernel_rfl) rfl #[.pointer (some ⟨g, 0, none⟩), .int .i64 3] rfl tA ?_; (with_reducible refine (spec_l1Cur_pick.calls g s0_0 t139 t140 3 t141 t142 t143 w0 _ ?side1 ?side2 A18.out).mono ?_); (case side1 => exact yI HI0); (case side2 => exact yH HB); rintro e w35 ⟨rfl, hi, hb, hk⟩; refine ⟨_, rfl, ?_⟩; have n_ := aJ (aK (Kd.R_mono (Kd.R_keep (IsS76.apart (show IsS76 w0 _ g s0_0 t139 t140 from by repeat (first | (with_reducible first | exact HI0.out | apply IsS76.alloc | apply IsS76.drewN | apply IsS76.drew | apply IsS76.set_1 | apply IsS76.set_2 | refine IsS76.far ?_ NB0_128.out _) | exact HI0.out)) HO_3.out (by decide)) hk (fun _ h => h.2)) (fun _ h => h.1))) (aJ (aK (Kd.R_mono (Kd.R_keep (IsS76.apart (show IsS76 w0 _ g s0_0 t139 t140 from by repeat (first | (with_reducible first | exact HI0.out | apply IsS76.alloc | apply IsS76.drewN | apply IsS76.drew | apply IsS76.set_1 | apply IsS76.set_2 | refine IsS76.far ?_ NB0_128.out _) | exact HI0.out)) HO118.out (by decide)) hk (fun _ h => h.2)) (fun _ h => h.1))) (aJ (aK (KeepBut.blk hk (g' := gb128) (o := .cells #[.int .i64 t119, .int .i64 t122, .int .i64 t125] 102 (0, 0)) BK128.out NB128_0.out (by simp))) (aJ (aK (Kd.R_mono (Kd.R_keep (IsS76.apart (show IsS76 w0 _ g s0_0 t139 t140 from by repeat (first | (with_reducible first | exact HI0.out | apply IsS76.alloc | apply IsS76.drewN | apply IsS76.drew | apply IsS76.set_1 | apply IsS76.set_2 | refine IsS76.far ?_ NB0_128.out _) | exact HI0.out)) HO137.out (by decide)) hk (fun _ h => h.2)) (fun _ h => h.1))) (aJ (aK (KeepBut.trans (yK HK) hk (.inl rfl))) (aJ (aK (hb)) (aK (hi))))))); clear HO_3 HO118 BK128 HO137 HK HB HI0; obtain ⟨HO_3, HO118, BK128, HO137, HK, HB, HI0⟩ := n_; (try clear hb); obtain ⟨hcz36_0, hcz36_1, hcz36_2, hfz36_0, hfz36_1, hfz36_2⟩ := cA3 BK128) | ((with_reducible refine gate_builtin (b := .append) (xs := #[.tmp 37, .tmp 39]) rfl ?_); at_builtin; refine Kd.R_append k102 w.heap.size rfl (.tmp 37) (.tmp 39) 87 102 (.agg #[(.int .i64 0), (.int .i64 0), (.int .i64 0)]) 24 rfl Tryd.underlying87 info102 rfl (by decide) (by omega) u3 x3_2 (⟨t132, t138, t141⟩ : S102) [.int .i64 t132, .int .i64 t138, .int .i64 t141] (fun k_ => k_ ≠ gb128) (fun _ => False) rfl (by first | (go_simp; done) | (go_simp; rfl)) ?aP (fun _ hk => hk.elim) ?aF ?aO (Below.refl _ _) ?aS ?aL ?_; (case aP => exact k102_mkM _ _ _ (⟨t132, t138, t141⟩ : S102)); (case aF => exact (fun k_ hk => Kd.freshB (g := gb128) (o := .cells #[.int .i64 t132, .int .i64 t138, .int .i64 t141] 102 (0, 0)) (p3 BK128) k_ hk)); (case aO => exact (by (with_reducible repeat (first | apply rA | apply rN | apply rD)); exact Kd.R_mono (Kd.R_far (p := ⟨gb128, 2, none⟩) (Kd.R_far (p := ⟨gb128, 1, none⟩) (Kd.R_far (p := ⟨gb128, 0, none⟩) (Kd.R_mono HO_3.out (fun k_ hk => (⟨hk, hk.2⟩ : _ ∧ k_ ≠ gb128))) (fun _ hk => hk.2) (.int .i64 t132)) (fun _ hk => hk.2) (.int .i64 t138)) (fun _ hk => hk.2) (.int .i64 t141)) (fun _ hk => hk.1.2))); (case aS => exact (keep_size (w := w) (g := g) (row := none) (yK HK))); (case aL => have := LMc19.out; omega); intro v145 w37 ho hb hg hat; rw [← Ny144.out] at ho; have n_ := aJ (aK (IsS76.grown (IsS76.far (IsS76.far (IsS76.far HI0.out (p := ⟨gb128, 0, none⟩) NB0_128.out (.int .i64 t132)) (p := ⟨gb128, 1, none⟩) NB0_128.out (.int .i64 t138)) (p := ⟨gb128, 2, none⟩) NB0_128.out (.int .i64 t141)) hg (IsS76.own_ne HI0.out HO_3.out (by decide)))) (aJ (aK (Kd.R_over' (by (with_reducible repeat (first | apply rA | apply rN | apply rD)); exact (Kd.R_mono (Kd.R_far (p := ⟨gb128, 2, none⟩) (Kd.R_far (p := ⟨gb128, 1, none⟩) (Kd.R_far (p := ⟨gb128, 0, none⟩) (Kd.R_types HO118.out BK128.out (by decide)) (fun _ hk => hk.2) (.int .i64 t132)) (fun _ hk => hk.2) (.int .i64 t138)) (fun _ hk => hk.2) (.int .i64 t141)) (fun _ h_ => h_.1))) (Kd.R_typed (by (with_reducible repeat (first | apply rA | apply rN | apply rD)); exact (Kd.R_mono (Kd.R_far (p := ⟨gb128, 2, none⟩) (Kd.R_far (p := ⟨gb128, 1, none⟩) (Kd.R_far (p := ⟨gb128, 0, none⟩) (Kd.R_mono HO_3.out (fun k_ hk => (⟨hk, hk.2⟩ : _ ∧ k_ ≠ gb128))) (fun _ hk => hk.2) (.int .i64 t132)) (fun _ hk => hk.2) (.int .i64 t138)) (fun _ hk => hk.2) (.int .i64 t141)) (fun _ h_ => h_.1)))) (by decide) hg)) (aJ (aK (blk_grown (g := gb128) (o := .cells #[.int .i64 t132, .int .i64 t138, .int .i64 t141] 102 (0, 0)) (p3 BK128) hg (Kd.R_away HO_3.out (fun _ hk => hk.2)))) (aJ (aK (Kd.R_over' (by (with_reducible repeat (first | apply rA | apply rN | apply rD)); exact (Kd.R_mono (Kd.R_far (p := ⟨gb128, 2, none⟩) (Kd.R_far (p := ⟨gb128, 1, none⟩) (Kd.R_far (p := ⟨gb128, 0, none⟩) (Kd.R_types HO137.out BK128.out (by decide)) (fun _ hk => hk.2) (.int .i64 t132)) (fun _ hk => hk.2) (.int .i64 t138)) (fun _ hk => hk.2) (.int .i64 t141)) (fun _ h_ => h_.1))) (Kd.R_typed (by (with_reducible repeat (first | apply rA | apply rN | apply rD)); exact (Kd.R_mono (Kd.R_far (p := ⟨gb128, 2, none⟩) (Kd.R_far (p := ⟨gb128, 1, none⟩) (Kd.R_far (p := ⟨gb128, 0, none⟩) (Kd.R_mono HO_3.out (fun k_ hk => (⟨hk, hk.2⟩ : _ ∧ k_ ≠ gb128))) (fun _ hk => hk.2) (.int .i64 t132)) (fun _ hk => hk.2) (.int .i64 t138)) (fun _ hk => hk.2) (.int .i64 t141)) (fun _ h_ => h_.1)))) (by decide) hg)) (aJ (aK (below_weaken (yH HB) HL.out hb)) (aJ (aK (KeepBut.trans (yK HK) (KeepBut.of_grown hg g) (Kd.R_base2 HO_3.out))) (aK (ho))))))); clear HI0 HO118 BK128 HO137 HB HK HO_3; obtain ⟨HI0, HO118, BK128, HO137, HB, HK, HO146⟩ := n_; clear ho hb hg hat))
        go_roundg k2
        case measure => have := HJ3.out; have := HK2.out; omega
        case rel => exact ⟨(y144), (wrap64 (x5_2 + 1)), (t142), (t143), rS, H', ⟨by have := HJ3.out; have := HK2.out; omega⟩, ⟨by (with_reducible repeat (first | apply rA | apply rN | apply rD)); exact Kd.R_mono HO146.out (fun _ hk => trivial)⟩, ⟨yI HI0⟩, ⟨yK HK⟩, ⟨yH HB⟩⟩
       ·rw [if_neg c19] at H
        exact absurd H (by simp)
      ·replace c15 := Bool.eq_false_iff.mpr c15
       subst c15
       rw [if_neg (show ¬ (false = true) by decide)] at H
       by_cases c38 : x3_2.length < 5864062014805
       ·rw [if_pos c38] at H
        have LMc38 := aK c38
        clear c38
        obtain ⟨y147, hy147⟩ : ∃ y_ : List (S102), y_ = (x3_2 ++ [(⟨t119, t122, t125⟩ : S102)]) := ⟨_, rfl⟩
        replace H : (spec_l1Cur_heapOps.l0 k2 y147 x4_3 (wrap64 (x5_2 + 1)) s0_0 t130 t131) = some (r1, r2, r3) := by first | (rw [hy147]; with_reducible exact H) | (have H2_ := (Option.bind_some _ _).symm.trans H; rw [hy147]; with_reducible exact H2_) | (have H2_ := (Option.bind_some _ _).symm.trans H; with_reducible exact H2_) | with_reducible exact H | (rw [hy147]; exact H) | exact H
        have Ny147 := aK hy147
        clear hy147
        have H' := aK H
        clear H
        go_wp2_with (first | ((with_reducible refine gate_dst (N := 20) rfl ?_); refine Kd.R_lit (Kd.int .i64) _ 3 ?hg (N := 20) ?hd (xs := ([1, 1, 2, 2, 2, 3, 4, 5, 5, 6, 6, 7, 8, 9] : List Int)) (inner := [.int .i64 1, .int .i64 1, .int .i64 2, .int .i64 2, .int .i64 2, .int .i64 3, .int .i64 4, .int .i64 5, .int .i64 5, .int .i64 6, .int .i64 6, .int .i64 7, .int .i64 8, .int .i64 9]) (ok := fun _ => True) (okp := fun _ => True) ?hr ?hp (fun _ hk => hk) trivial (Below.refl _ _) (Nat.le_refl _) (by simp) ?_; (case hd => rfl); (case hg => rfl); (case hr => go_simp); (case hp => exact (Reps.one (show Kd.M (Kd.int .i64) _ _ _ 1 [.int .i64 1] from rfl) (Reps.one (show Kd.M (Kd.int .i64) _ _ _ 1 [.int .i64 1] from rfl) (Reps.one (show Kd.M (Kd.int .i64) _ _ _ 2 [.int .i64 2] from rfl) (Reps.one (show Kd.M (Kd.int .i64) _ _ _ 2 [.int .i64 2] from rfl) (Reps.one (show Kd.M (Kd.int .i64) _ _ _ 2 [.int .i64 2] from rfl) (Reps.one (show Kd.M (Kd.int .i64) _ _ _ 3 [.int .i64 3] from rfl) (Reps.one (show Kd.M (Kd.int .i64) _ _ _ 4 [.int .i64 4] from rfl) (Reps.one (show Kd.M (Kd.int .i64) _ _ _ 5 [.int .i64 5] from rfl) (Reps.one (show Kd.M (Kd.int .i64) _ _ _ 5 [.int .i64 5] from rfl) (Reps.one (show Kd.M (Kd.int .i64) _ _ _ 6 [.int .i64 6] from rfl) (Reps.one (show Kd.M (Kd.int .i64) _ _ _ 6 [.int .i64 6] from rfl) (Reps.one (show Kd.M (Kd.int .i64) _ _ _ 7 [.int .i64 7] from rfl) (Reps.one (show Kd.M (Kd.int .i64) _ _ _ 8 [.int .i64 8] from rfl) (Reps.one (show Kd.M (Kd.int .i64) _ _ _ 9 [.int .i64 9] from rfl) (Reps.none _ _)))))))))))))))); intro v117 w39 ho40 hb hg_ hnew_; clear hg_ hnew_; (first | rw [← Ny116.out] at ho40 | (simp only [Int.reduceToNat] at ho40; rw [← Ny116.out] at ho40)); have n0_ := aK (Kd.R_below HO_3.out hb); have HO118 := aK (Kd.R_lower ho40 (keep_size (w := w) (g := g) (row := none) (yK HK))); have n2_ := aK (IsS76.below (yI HI0) hb); have n3_ := aK (KeepBut.trans (yK HK) (KeepBut.of_below hb g none) (.inl rfl)); have n4_ := aK (below_step (yH HB) hb); clear HO_3; have HO_3 := n0_; clear n0_; clear HI0; have HI0 := n2_; clear n2_; clear HK; have HK := n3_; clear n3_; clear HB; have HB := n4_; clear n4_; clear hb ho40; obtain ⟨Ao41, co41, eo41⟩ := Kd.R_slice HO118.out; subst eo41) | ((with_reducible refine gate_callee (f := 57) rfl ?_); refine goesL_ (some 21) rfl rfl Tryd.func57 (by kernel_rfl) rfl #[.pointer (some ⟨g, 0, none⟩), .slice Ao41 y116.length co41] rfl tA ?_; (with_reducible refine (spec_l1Cur_among.calls g s0_0 x1001_2 x1002_2 _ _ y116 t119 t120 t121 w0 _ ?side1 ?side2 ?side3 ?side4 ?side5 A11.out).mono ?_); (case side1 => exact yI HI0); (case side2 => exact yH HB); (case side3 => exact sC ((Kd.R_reads' HO118.out).2.2)); (case side4 => exact (Kd.R_reads' HO118.out).2.1); (case side5 => exact far_slice (IsS76.own_ne HI0.out HO118.out (by decide))); rintro e w42 ⟨rfl, hi, hb, hk⟩; refine ⟨_, rfl, ?_⟩; have n0_ := aK (Kd.R_mono (Kd.R_keep (IsS76.apart (show IsS76 w0 _ g s0_0 x1001_2 x1002_2 from by repeat (first | (with_reducible first | exact HI0.out | apply IsS76.alloc | apply IsS76.drewN | apply IsS76.drew | apply IsS76.set_1 | apply IsS76.set_2) | exact HI0.out)) HO_3.out (by decide)) hk (fun _ h => h.2)) (fun _ h => h.1)); have n1_ := aK (Kd.R_mono (Kd.R_keep (IsS76.apart (show IsS76 w0 _ g s0_0 x1001_2 x1002_2 from by repeat (first | (with_reducible first | exact HI0.out | apply IsS76.alloc | apply IsS76.drewN | apply IsS76.drew | apply IsS76.set_1 | apply IsS76.set_2) | exact HI0.out)) HO118.out (by decide)) hk (fun _ h => h.2)) (fun _ h => h.1)); have n2_ := aK (KeepBut.trans (yK HK) hk (.inl rfl)); have n3_ := aK (hb); have n4_ := aK (hi); clear HO_3; have HO_3 := n0_; clear n0_; clear HO118; have HO118 := n1_; clear n1_; clear HK; have HK := n2_; clear n2_; clear HB; have HB := n3_; clear n3_; clear HI0; have HI0 := n4_; clear n4_; (try clear hb)) | ((with_reducible refine gate_callee (f := 54) rfl ?_); refine goesL_ (some 23) rfl rfl Tryd.func54 (by kernel_rfl) rfl #[.pointer (some ⟨g, 0, none⟩), .int .i64 6] rfl tA ?_; (with_reducible refine (spec_l1Cur_pick.calls g s0_0 t120 t121 6 t122 t123 t124 w0 _ ?side1 ?side2 A12.out).mono ?_); (case side1 => exact yI HI0); (case side2 => exact yH HB); rintro e w43 ⟨rfl, hi, hb, hk⟩; refine ⟨_, rfl, ?_⟩; have n0_ := aK (Kd.R_mono (Kd.R_keep (IsS76.apart (show IsS76 w0 _ g s0_0 t120 t121 from by repeat (first | (with_reducible first | exact HI0.out | apply IsS76.alloc | apply IsS76.drewN | apply IsS76.drew | apply IsS76.set_1 | apply IsS76.set_2) | exact HI0.out)) HO_3.out (by decide)) hk (fun _ h => h.2)) (fun _ h => h.1)); have n1_ := aK (Kd.R_mono (Kd.R_keep (IsS76.apart (show IsS76 w0 _ g s0_0 t120 t121 from by repeat (first | (with_reducible first | exact HI0.out | apply IsS76.alloc | apply IsS76.drewN | apply IsS76.drew | apply IsS76.set_1 | apply IsS76.set_2) | exact HI0.out)) HO118.out (by decide)) hk (fun _ h => h.2)) (fun _ h => h.1)); have n2_ := aK (KeepBut.trans (yK HK) hk (.inl rfl)); have n3_ := aK (hb); have n4_ := aK (hi); clear HO_3; have HO_3 := n0_; clear n0_; clear HO118; have HO118 := n1_; clear n1_; clear HK; have HK := n2_; clear n2_; clear HB; have HB := n3_; clear n3_; clear HI0; have HI0 := n4_; clear n4_; (try clear hb)) | ((with_reducible refine gate_callee (f := 54) rfl ?_); refine goesL_ (some 25) rfl rfl Tryd.func54 (by kernel_rfl) rfl #[.pointer (some ⟨g, 0, none⟩), .int .i64 6] rfl tA ?_; (with_reducible refine (spec_l1Cur_pick.calls g s0_0 t123 t124 6 t125 t126 t127 w0 _ ?side1 ?side2 A13.out).mono ?_); (case side1 => exact yI HI0); (case side2 => exact yH HB); rintro e w44 ⟨rfl, hi, hb, hk⟩; refine ⟨_, rfl, ?_⟩; have n0_ := aK (Kd.R_mono (Kd.R_keep (IsS76.apart (show IsS76 w0 _ g s0_0 t123 t124 from by repeat (first | (with_reducible first | exact HI0.out | apply IsS76.alloc | apply IsS76.drewN | apply IsS76.drew | apply IsS76.set_1 | apply IsS76.set_2) | exact HI0.out)) HO_3.out (by decide)) hk (fun _ h => h.2)) (fun _ h => h.1)); have n1_ := aK (Kd.R_mono (Kd.R_keep (IsS76.apart (show IsS76 w0 _ g s0_0 t123 t124 from by repeat (first | (with_reducible first | exact HI0.out | apply IsS76.alloc | apply IsS76.drewN | apply IsS76.drew | apply IsS76.set_1 | apply IsS76.set_2) | exact HI0.out)) HO118.out (by decide)) hk (fun _ h => h.2)) (fun _ h => h.1)); have n2_ := aK (KeepBut.trans (yK HK) hk (.inl rfl)); have n3_ := aK (hb); have n4_ := aK (hi); clear HO_3; have HO_3 := n0_; clear n0_; clear HO118; have HO118 := n1_; clear n1_; clear HK; have HK := n2_; clear n2_; clear HB; have HB := n3_; clear n3_; clear HI0; have HI0 := n4_; clear n4_; (try clear hb)) | ((with_reducible refine gate_dst (N := 6) rfl ?_); refine bE (N := 6) (cs := #[.int .i64 0, .int .i64 0, .int .i64 0]) (t := 102) ?_; intro gb128 hg w45 hbox hb; have n0_ := aK (Kd.R_below (Kd.R_elderB HO_3.out gb128 (Nat.le_of_eq hg.symm)) hb); have n1_ := aK (Kd.R_below HO118.out hb); have n2_ := aK (IsS76.below (yI HI0) hb); have n3_ := aK (KeepBut.trans (yK HK) (KeepBut.of_below hb g none) (.inl rfl)); have n4_ := aK (below_step (yH HB) hb); have GW128 := aK ((by rw [hg]; exact (keep_size (w := w) (g := g) (row := none) (yK HK)) : w.heap.size ≤ gb128)); have GE128 := aK ((Nat.le_trans HW0.out (by rw [hg]; exact (keep_size (w := w) (g := g) (row := none) (yK HK)) : w.heap.size ≤ gb128) : w0.heap.size ≤ gb128)); have NB0_128 := aK ((by rw [hg]; exact Nat.ne_of_lt (IsS76.lt (show IsS76 w0 _ g s0_0 t126 t127 from by repeat (first | (with_reducible first | exact HI0.out | apply IsS76.alloc | apply IsS76.drewN | apply IsS76.drew | apply IsS76.set_1 | apply IsS76.set_2) | exact HI0.out))) : g ≠ gb128)); have NB128_0 := aK ((by rw [hg]; exact Nat.ne_of_gt (IsS76.lt (show IsS76 w0 _ g s0_0 t126 t127 from by repeat (first | (with_reducible first | exact HI0.out | apply IsS76.alloc | apply IsS76.drewN | apply IsS76.drew | apply IsS76.set_1 | apply IsS76.set_2) | exact HI0.out))) : gb128 ≠ g)); have BK128 := aK hbox; clear HO_3; have HO_3 := n0_; clear n0_; clear HO118; have HO118 := n1_; clear n1_; clear HI0; have HI0 := n2_; clear n2_; clear HK; have HK := n3_; clear n3_; clear HB; have HB := n4_; clear n4_; clear hb hbox hg; have hnb46 := NB128_0.out; have hnc46 := NB0_128.out; obtain ⟨hcz47_0, hcz47_1, hcz47_2, hfz47_0, hfz47_1, hfz47_2⟩ := cA3 BK128) | ((with_reducible refine gate_callee (f := 67) rfl ?_); refine goesL_ (some 28) rfl rfl Tryd.func67 (by kernel_rfl) rfl #[.pointer (some ⟨g, 0, none⟩), .int .i64 40] rfl tA ?_; (with_reducible refine (spec_l1Cur_one.calls g s0_0 t126 t127 40 false t130 t131 w0 _ ?side1 ?side2 A14.out).mono ?_); (case side1 => exact yI HI0); (case side2 => exact yH HB); rintro e w48 ⟨rfl, hi, hb, hk⟩; refine ⟨_, rfl, ?_⟩; have n_ := aJ (aK (Kd.R_mono (Kd.R_keep (IsS76.apart (show IsS76 w0 _ g s0_0 t126 t127 from by repeat (first | (with_reducible first | exact HI0.out | apply IsS76.alloc | apply IsS76.drewN | apply IsS76.drew | apply IsS76.set_1 | apply IsS76.set_2 | refine IsS76.far ?_ NB0_128.out _) | exact HI0.out)) (by (with_reducible repeat (first | apply rA | apply rN | apply rD)); exact (Kd.R_mono (Kd.R_far (p := ⟨gb128, 2, none⟩) (Kd.R_far (p := ⟨gb128, 1, none⟩) (Kd.R_far (p := ⟨gb128, 0, none⟩) (Kd.R_mono HO_3.out (fun k_ hk => (⟨hk, hk.2⟩ : _ ∧ k_ ≠ gb128))) (fun _ hk => hk.2) (.int .i64 t119)) (fun _ hk => hk.2) (.int .i64 t122)) (fun _ hk => hk.2) (.int .i64 t125)) (fun _ h_ => h_.1))) (by decide)) hk (fun _ h => h.2)) (fun _ h => h.1))) (aJ (aK (Kd.R_mono (Kd.R_keep (IsS76.apart (show IsS76 w0 _ g s0_0 t126 t127 from by repeat (first | (with_reducible first | exact HI0.out | apply IsS76.alloc | apply IsS76.drewN | apply IsS76.drew | apply IsS76.set_1 | apply IsS76.set_2 | refine IsS76.far ?_ NB0_128.out _) | exact HI0.out)) (by (with_reducible repeat (first | apply rA | apply rN | apply rD)); exact (Kd.R_mono (Kd.R_far (p := ⟨gb128, 2, none⟩) (Kd.R_far (p := ⟨gb128, 1, none⟩) (Kd.R_far (p := ⟨gb128, 0, none⟩) (Kd.R_types HO118.out BK128.out (by decide)) (fun _ hk => hk.2) (.int .i64 t119)) (fun _ hk => hk.2) (.int .i64 t122)) (fun _ hk => hk.2) (.int .i64 t125)) (fun _ h_ => h_.1))) (by decide)) hk (fun _ h => h.2)) (fun _ h => h.1))) (aJ (aK (KeepBut.blk hk (g' := gb128) (o := .cells #[.int .i64 t119, .int .i64 t122, .int .i64 t125] 102 (0, 0)) (p3 BK128) NB128_0.out (by simp))) (aJ (aK (KeepBut.trans (yK HK) hk (.inl rfl))) (aJ (aK (hb)) (aK (hi)))))); clear HO_3 HO118 BK128 HK HB HI0; obtain ⟨HO_3, HO118, BK128, HK, HB, HI0⟩ := n_; (try clear hb); obtain ⟨hcz49_0, hcz49_1, hcz49_2, hfz49_0, hfz49_1, hfz49_2⟩ := cA3 BK128) | ((with_reducible refine gate_builtin (b := .append) (xs := #[.tmp 37, .tmp 39]) rfl ?_); at_builtin; refine Kd.R_append k102 w.heap.size rfl (.tmp 37) (.tmp 39) 87 102 (.agg #[(.int .i64 0), (.int .i64 0), (.int .i64 0)]) 24 rfl Tryd.underlying87 info102 rfl (by decide) (by omega) u3 x3_2 (⟨t119, t122, t125⟩ : S102) [.int .i64 t119, .int .i64 t122, .int .i64 t125] (fun k_ => k_ ≠ gb128) (fun _ => False) rfl rfl ?aP (fun _ hk => hk.elim) ?aF ?aO (Below.refl _ _) ?aS ?aL ?_; (case aP => exact k102_mkM _ _ _ (⟨t119, t122, t125⟩ : S102)); (case aF => exact (fun k_ hk => Kd.freshB BK128.out k_ hk)); (case aO => exact (by (with_reducible repeat (first | apply rA | apply rN | apply rD)); exact Kd.R_mono HO_3.out (fun _ hk => hk.2))); (case aS => exact (keep_size (w := w) (g := g) (row := none) (yK HK))); (case aL => have := LMc38.out; omega); intro v148 w50 ho hb hg hat; rw [← Ny147.out] at ho; have n_ := aJ (aK (IsS76.grown (yI HI0) hg (IsS76.own_ne HI0.out HO_3.out (by decide)))) (aJ (aK (Kd.R_over' HO118.out (Kd.R_typed HO_3.out) (by decide) hg)) (aJ (aK (blk_grown BK128.out hg (Kd.R_away HO_3.out (fun _ hk => hk.2)))) (aJ (aK (below_weaken (yH HB) HL.out hb)) (aJ (aK (KeepBut.trans (yK HK) (KeepBut.of_grown hg g) (Kd.R_base2 HO_3.out))) (aK (ho)))))); clear HI0 HO118 BK128 HB HK HO_3; obtain ⟨HI0, HO118, BK128, HB, HK, HO149⟩ := n_; clear ho hb hg hat))
        go_roundg k2
        case measure => have := HJ3.out; have := HK2.out; omega
        case rel => exact ⟨(y147), (wrap64 (x5_2 + 1)), (t130), (t131), rS, H', ⟨by have := HJ3.out; have := HK2.out; omega⟩, ⟨by (with_reducible repeat (first | apply rA | apply rN | apply rD)); exact Kd.R_mono HO149.out (fun _ hk => trivial)⟩, ⟨yI HI0⟩, ⟨yK HK⟩, ⟨yH HB⟩⟩
       ·rw [if_neg c38] at H
        exact absurd H (by simp)
     ·rw [if_neg c10] at H
      have c10b0 : decide (x5_2 < x4_3) = false := decide_eq_false c10
      clear c10
      obtain ⟨⟨t110, t111, t112⟩, A51, H⟩ := oB H
      try dsimp only at H
      by_cases c52 : t110 = true
      ·subst c52
       rw [if_pos rfl] at H
       by_cases c53 : x3_2.length + 150 < 5864062014805
       ·rw [if_pos c53] at H
        have LMc53 := aK c53
        clear c53
        obtain ⟨y113, hy113⟩ : ∃ y_ : List (S102), y_ = (x3_2 ++ List.replicate 150 z102) := ⟨_, rfl⟩
        replace H : (some (y113, t111, t112)) = some (r1, r2, r3) := by first | (rw [hy113]; with_reducible exact H) | (have H2_ := (Option.bind_some _ _).symm.trans H; rw [hy113]; with_reducible exact H2_) | (have H2_ := (Option.bind_some _ _).symm.trans H; with_reducible exact H2_) | with_reducible exact H | (rw [hy113]; exact H) | exact H
        have Ny113 := aK hy113
        clear hy113
        simp only [Option.some.injEq, Prod.mk.injEq] at H
        obtain ⟨rfl, rfl, rfl⟩ := H
        go_wp2_with (first | ((with_reducible refine gate_callee (f := 67) rfl ?_); refine goesL_ (some 42) rfl rfl Tryd.func67 (by kernel_rfl) rfl #[.pointer (some ⟨g, 0, none⟩), .int .i64 60] rfl tA ?_; (with_reducible refine (spec_l1Cur_one.calls g s0_0 x1001_2 x1002_2 60 true t111 t112 w0 _ ?side1 ?side2 A51.out).mono ?_); (case side1 => exact yI HI0); (case side2 => exact yH HB); rintro e w54 ⟨rfl, hi, hb, hk⟩; refine ⟨_, rfl, ?_⟩; have n0_ := aK (Kd.R_mono (Kd.R_keep (IsS76.apart (show IsS76 w0 _ g s0_0 x1001_2 x1002_2 from by repeat (first | (with_reducible first | exact HI0.out | apply IsS76.alloc | apply IsS76.drewN | apply IsS76.drew | apply IsS76.set_1 | apply IsS76.set_2) | exact HI0.out)) HO_3.out (by decide)) hk (fun _ h => h.2)) (fun _ h => h.1)); have n1_ := aK (KeepBut.trans (yK HK) hk (.inl rfl)); have n2_ := aK (hb); have n3_ := aK (hi); clear HO_3; have HO_3 := n0_; clear n0_; clear HK; have HK := n1_; clear n1_; clear HB; have HB := n2_; clear n2_; clear HI0; have HI0 := n3_; clear n3_; (try clear hb)) | (at_builtin; refine Kd.R_append_zeros k102 w.heap.size rfl (.tmp 43) (.const (.int .i64 150)) 87 3 102 (.agg #[(.int .i64 0), (.int .i64 0), (.int .i64 0)]) 24 rfl Tryd.underlying87 Tryd.underlying3 info102 rfl (by decide) (by omega) u3 x3_2 z102 (150 : Int) (fun _ => True) rfl rfl (k102_mkM _ _ _ z102 ) ?aF ?aO (by omega) (Below.refl _ _) ?aS ?aL ?_; (case aF => exact (fun _ _ => trivial)); (case aO => exact HO_3.out); (case aS => exact (keep_size (w := w) (g := g) (row := none) (yK HK))); (case aL => have := LMc53.out; omega); intro v114 w55 ho hb hg hat; (first | rw [← Ny113.out] at ho | (simp only [Int.reduceToNat] at ho; rw [← Ny113.out] at ho)); have n0_ := aK (IsS76.grown (yI HI0) hg (IsS76.own_ne HI0.out HO_3.out (by decide))); have n1_ := aK (below_weaken (yH HB) HL.out hb); have n2_ := aK (KeepBut.trans (yK HK) (KeepBut.of_grown hg g) (Kd.R_base2 HO_3.out)); have HO115 := aK (ho); clear HI0; have HI0 := n0_; clear n0_; clear HB; have HB := n1_; clear n1_; clear HK; have HK := n2_; clear n2_; clear HO_3; clear ho hb hg hat))
        go_ret
        exact ⟨_, eW, by (with_reducible repeat (first | apply rA | apply rN | apply rD)); exact HO115.out, yI HI0, yH HB, yK HK⟩
       ·rw [if_neg c53] at H
        exact absurd H (by simp)
      ·replace c52 := Bool.eq_false_iff.mpr c52
       subst c52
       rw [if_neg (show ¬ (false = true) by decide)] at H
       simp only [Option.some.injEq, Prod.mk.injEq] at H
       obtain ⟨rfl, rfl, rfl⟩ := H
       go_wp2_with (first | ((with_reducible refine gate_callee (f := 67) rfl ?_); refine goesL_ (some 42) rfl rfl Tryd.func67 (by kernel_rfl) rfl #[.pointer (some ⟨g, 0, none⟩), .int .i64 60] rfl tA ?_; (with_reducible refine (spec_l1Cur_one.calls g s0_0 x1001_2 x1002_2 60 false t111 t112 w0 _ ?side1 ?side2 A51.out).mono ?_); (case side1 => exact yI HI0); (case side2 => exact yH HB); rintro e w56 ⟨rfl, hi, hb, hk⟩; refine ⟨_, rfl, ?_⟩; have n0_ := aK (Kd.R_mono (Kd.R_keep (IsS76.apart (show IsS76 w0 _ g s0_0 x1001_2 x1002_2 from by repeat (first | (with_reducible first | exact HI0.out | apply IsS76.alloc | apply IsS76.drewN | apply IsS76.drew | apply IsS76.set_1 | apply IsS76.set_2) | exact HI0.out)) HO_3.out (by decide)) hk (fun _ h => h.2)) (fun _ h => h.1)); have n1_ := aK (KeepBut.trans (yK HK) hk (.inl rfl)); have n2_ := aK (hb); have n3_ := aK (hi); clear HO_3; have HO_3 := n0_; clear n0_; clear HK; have HK := n1_; clear n1_; clear HB; have HB := n2_; clear n2_; clear HI0; have HI0 := n3_; clear n3_; (try clear hb)))
       go_ret
       exact ⟨_, eW, by (with_reducible repeat (first | apply rA | apply rN | apply rD)); exact HO_3.out, yI HI0, yH HB, yK HK⟩

end Go.Proofs.YtcbgjcnekdoloaaDoor.G

namespace Go.Proofs.YtcbgjcnekdoloaaDoor.DrawL
open Go.RowKit Go.Proofs.YtcbgjcnekdoloaaDoor.G Go.Proofs.YtcbgjcnekdoloaaDoor.EvL Go.Proofs.YtcbgjcnekdoloaaDoorW.PrintWords Go.Proofs.YtcbgjcnekdoloaaDoorW.PrintLast
set_option linter.unusedVariables false

def Bytes (c : List Int) : Prop := c.length ≤ 1048576 ∧ ∀ x ∈ c, 0 ≤ x ∧ x ≤ 255
theorem wf8 {n : Int} (h : (Lit.int .u8 n).wf = true) : 0 ≤ n ∧ n ≤ 255 := by
  have h' : (decide (IntKind.u8.min ≤ n) && decide (n ≤ IntKind.u8.max)) = true := h
  simp only [Bool.and_eq_true, decide_eq_true_iff] at h'
  exact ⟨h'.1, h'.2⟩
theorem and255 (x : Int) : 0 ≤ Go.bits .and .u64 x 255 ∧ Go.bits .and .u64 x 255 ≤ 255 := by
  have h2 : (BitVec.ofInt 64 x &&& BitVec.ofInt 64 255).toNat ≤ 255 := by
    rw [BitVec.toNat_and]
    exact Nat.le_trans Nat.and_le_right (by decide)
  show 0 ≤ IntKind.u64.wrap ((BitVec.ofInt 64 x &&& BitVec.ofInt 64 255).toNat : Int) ∧ IntKind.u64.wrap ((BitVec.ofInt 64 x &&& BitVec.ofInt 64 255).toNat : Int) ≤ 255
  rw [IntKind.wrap_u64]
  omega
theorem rd_byte {c : List Int} (hc : Bytes c) (a : Int) (h0 : 0 ≤ a) (h1 : a < c.length) : 0 ≤ rd c a ∧ rd c a ≤ 255 := by
  refine hc.2 _ ?_
  unfold rd
  rw [List.getD_eq_getElem?_getD, List.getElem?_eq_getElem (by omega : a.toNat < c.length)]
  exact List.getElem_mem _
theorem next_ev {c : List Int} (hc : Bytes c) (a s : Int) (h0 : 0 ≤ a) (h1 : a ≤ 4000000) : ∃ r s', spec_l1Cur_next.f c a s = some (r, a + 1, s') ∧ 0 ≤ r ∧ r ≤ 255 := by
  have hl := hc.1
  have w1 : wrap64 (a + 1) = a + 1 := w64 (by omega) (by omega)
  have wa : ∀ x, 0 ≤ wrap64 (Go.bits .and .u64 x 255) ∧ wrap64 (Go.bits .and .u64 x 255) ≤ 255 := fun x => by
    have := and255 x
    rw [w64 (by omega) (by omega)]; exact this
  unfold spec_l1Cur_next.f
  rw [w1]
  by_cases h : a < (c.length : Int)
  · rw [if_pos h, if_pos h0, if_pos (by omega)]
    have hr := rd_byte hc a h0 h
    exact ⟨_, _, rfl, by rw [w64 (by omega) (by omega)]; exact hr⟩
  · rw [if_neg h, if_neg (by omega)]
    exact ⟨_, _, rfl, wa _⟩
theorem pick_ev {c : List Int} (hc : Bytes c) (a s n : Int) (h0 : 0 ≤ a) (h1 : a ≤ 3000000) (hn : 1 ≤ n) (hn2 : n ≤ 60000) : ∃ r a' s', spec_l1Cur_pick.f c a s n = some (r, a', s') ∧ 0 ≤ r ∧ r < n ∧ a ≤ a' ∧ a' ≤ a + 2 := by
  unfold spec_l1Cur_pick.f
  by_cases h : n ≤ 1
  · rw [if_pos h]; exact ⟨_, _, _, rfl, by omega, by omega, by omega, by omega⟩
  rw [if_neg h]
  obtain ⟨r, s1, e1, g0, g1⟩ := next_ev hc a s h0 (by omega)
  rw [e1, Option.bind_some]
  by_cases h2 : n > 200
  · rw [if_pos h2]
    obtain ⟨r2, s2, e2, k0, k1⟩ := next_ev hc (a + 1) s1 (by omega) (by omega)
    rw [e2, Option.bind_some, if_neg (by omega)]
    dsimp only
    have w1 : wrap64 (r * 256) = r * 256 := w64 (by omega) (by omega)
    have w2 : wrap64 (r * 256 + r2) = r * 256 + r2 := w64 (by omega) (by omega)
    rw [w1, w2]
    exact ⟨_, _, _, rfl, Int.tmod_nonneg _ (by omega), Int.tmod_lt_of_pos _ (by omega), by omega, by omega⟩
  · rw [if_neg h2, if_neg (by omega)]
    exact ⟨_, _, _, rfl, Int.tmod_nonneg _ g0, Int.tmod_lt_of_pos _ (by omega), by show a ≤ a + 1; omega, by show a + 1 ≤ a + 2; omega⟩
theorem one_ev {c : List Int} (hc : Bytes c) (a s n : Int) (h0 : 0 ≤ a) (h1 : a ≤ 3000000) (hn : 1 ≤ n) (hn2 : n ≤ 60000) : ∃ r a' s', spec_l1Cur_one.f c a s n = some (r, a', s') ∧ a ≤ a' ∧ a' ≤ a + 2 := by
  obtain ⟨r, a', s', e, _, _, g1, g2⟩ := pick_ev hc a s n h0 h1 hn hn2
  unfold spec_l1Cur_one.f
  rw [e]
  exact ⟨_, _, _, rfl, g1, g2⟩
theorem among_ev {c : List Int} (hc : Bytes c) (a s : Int) (l : List Int) (h0 : 0 ≤ a) (h1 : a ≤ 3000000) (hn : 1 ≤ l.length) (hn2 : l.length ≤ 60000) : ∃ r a' s', spec_l1Cur_among.f c a s l = some (r, a', s') ∧ a ≤ a' ∧ a' ≤ a + 2 ∧ r ∈ l := by
  obtain ⟨r, a', s', e, g3, g4, g1, g2⟩ := pick_ev hc a s l.length h0 h1 (by omega) (by omega)
  unfold spec_l1Cur_among.f
  rw [e, Option.bind_some, if_pos g3, if_pos g4]
  exact ⟨_, _, _, rfl, g1, g2, by unfold rd; rw [List.getD_eq_getElem?_getD, List.getElem?_eq_getElem (by omega : r.toNat < l.length)]; exact List.getElem_mem _⟩
def Ops (l : List S102) : Prop := ∀ o ∈ l, -1 ≤ o.f1 ∧ o.f1 ≤ 60
theorem ops_put {l : List S102} {o : S102} (h : Ops l) (ho : -1 ≤ o.f1 ∧ o.f1 ≤ 60) : Ops (l ++ [o]) := fun x hx => by
  rcases List.mem_append.mp hx with g | g
  · exact h x g
  · rw [List.mem_singleton] at g; subst g; exact ho
theorem ops_loop {c : List Int} (hc : Bytes c) (n : Int) (hn : n ≤ 150) : ∀ (d i : Nat) (acc : List S102) (a s : Int), (i : Int) + d = n → acc.length ≤ i → Ops acc → 0 ≤ a → a + 14 * d ≤ 900000 →
    ∃ l a' s', Ev (fun k => spec_l1Cur_heapOps.l0 k acc n i c a s) (l, a', s') ∧ Ops l ∧ l.length ≤ 300 ∧ a ≤ a' ∧ a' ≤ a + 14 * d + 2
  | 0, i, acc, a, s, hi, hl, ha, h0, h1 => by
    obtain ⟨b, a', s', e, g1, g2⟩ := one_ev hc a s 60 h0 (by omega) (by omega) (by omega)
    by_cases hb : b = true
    · refine ⟨acc ++ List.replicate 150 z102, a', s', Ev.succ ?_, fun x hx => ?_, by rw [List.length_append, List.length_replicate]; omega, g1, by omega⟩
      · simp only [spec_l1Cur_heapOps.l0, e, Option.bind_some]
        exact Ev.ite_neg (by omega) (Ev.ite_pos hb (Ev.ite_pos (by omega) (Ev.now _)))
      · rcases List.mem_append.mp hx with g | g
        · exact ha x g
        · rw [(List.mem_replicate.mp g).2]; exact ⟨by decide, by decide⟩
    · refine ⟨acc, a', s', Ev.succ ?_, ha, by omega, g1, by omega⟩
      simp only [spec_l1Cur_heapOps.l0, e, Option.bind_some]
      exact Ev.ite_neg (by omega) (Ev.ite_neg hb (Ev.now _))
  | d + 1, i, acc, a, s, hi, hl, ha, h0, h1 => by
    have w1 : wrap64 ((i : Int) + 1) = ((i + 1 : Nat) : Int) := by rw [w64 (by omega) (by omega)]; omega
    obtain ⟨x1, a1, s1, e1, p1, q1, _⟩ := among_ev hc a s [1, 1, 2, 2, 2, 3, 4, 5, 5, 6, 6, 7, 8, 9] (by omega) (by omega) (by decide) (by decide)
    obtain ⟨x2, a2, s2, e2, u2, v2, p2, q2⟩ := pick_ev hc a1 s1 6 (by omega) (by omega) (by omega) (by omega)
    obtain ⟨x3, a3, s3, e3, u3, v3, p3, q3⟩ := pick_ev hc a2 s2 6 (by omega) (by omega) (by omega) (by omega)
    obtain ⟨b, a4, s4, e4, p4, q4⟩ := one_ev hc a3 s3 40 (by omega) (by omega) (by omega) (by omega)
    by_cases hb : b = true
    · obtain ⟨x5, a5, s5, e5, u5, v5, p5, q5⟩ := pick_ev hc a4 s4 12 (by omega) (by omega) (by omega) (by omega)
      obtain ⟨x6, a6, s6, e6, p6, q6, m6⟩ := among_ev hc a5 s5 [(-1), 60, 5] (by omega) (by omega) (by decide) (by decide)
      obtain ⟨x7, a7, s7, e7, u7, v7, p7, q7⟩ := pick_ev hc a6 s6 3 (by omega) (by omega) (by omega) (by omega)
      have r6 : -1 ≤ x6 ∧ x6 ≤ 60 := by
        simp only [List.mem_cons, List.mem_nil_iff, or_false] at m6
        omega
      obtain ⟨l, a', s', hE, hO, hL, g1, g2⟩ := ops_loop hc n hn d (i + 1) (acc ++ [⟨x5, x6, x7⟩]) a7 s7 (by omega) (by rw [List.length_append]; show acc.length + 1 ≤ i + 1; omega) (ops_put ha r6) (by omega) (by omega)
      refine ⟨l, a', s', Ev.succ ?_, hO, hL, by omega, by omega⟩
      simp only [spec_l1Cur_heapOps.l0, e1, e2, e3, e4, e5, e6, e7, Option.bind_some, w1]
      exact Ev.ite_pos (by omega) (Ev.ite_pos hb (Ev.ite_pos (by omega) hE))
    · obtain ⟨l, a', s', hE, hO, hL, g1, g2⟩ := ops_loop hc n hn d (i + 1) (acc ++ [⟨x1, x2, x3⟩]) a4 s4 (by omega) (by rw [List.length_append]; show acc.length + 1 ≤ i + 1; omega) (ops_put ha (by show -1 ≤ x2 ∧ x2 ≤ 60; omega)) (by omega) (by omega)
      refine ⟨l, a', s', Ev.succ ?_, hO, hL, by omega, by omega⟩
      simp only [spec_l1Cur_heapOps.l0, e1, e2, e3, e4, Option.bind_some, w1]
      exact Ev.ite_pos (by omega) (Ev.ite_neg hb (Ev.ite_pos (by omega) hE))
theorem ops_ev {c : List Int} (hc : Bytes c) (a s : Int) (h0 : 0 ≤ a) (h1 : a ≤ 800000) : ∃ l a' s', Ev (fun k => spec_l1Cur_heapOps.f k c a s) (l, a', s') ∧ Ops l ∧ l.length ≤ 300 ∧ a ≤ a' ∧ a' ≤ a + 3000 := by
  obtain ⟨x1, a1, s1, e1, u1, v1, p1, q1⟩ := pick_ev hc a s 40 (by omega) (by omega) (by omega) (by omega)
  obtain ⟨b, a2, s2, e2, p2, q2⟩ := one_ev hc a1 s1 8 (by omega) (by omega) (by omega) (by omega)
  simp only [spec_l1Cur_heapOps.f, e1, Option.bind_some, e2]
  by_cases hb : b = true
  · obtain ⟨x3, a3, s3, e3, u3, v3, p3, q3⟩ := pick_ev hc a2 s2 61 (by omega) (by omega) (by omega) (by omega)
    have w1 : wrap64 (90 + x3) = 90 + x3 := w64 (by omega) (by omega)
    obtain ⟨l, a', s', hE, hO, hL, g1, g2⟩ := ops_loop hc (90 + x3) (by omega) (90 + x3).toNat 0 [] a3 s3 (by omega) (by simp) (fun o ho => by simp at ho) (by omega) (by omega)
    refine ⟨l, a', s', Ev.ite_pos hb ?_, hO, hL, by omega, by omega⟩
    simp only [e3, Option.bind_some, w1]
    refine Ev.succ ?_
    simp only [spec_l1Cur_heapOps.j0]
    exact hE
  · obtain ⟨l, a', s', hE, hO, hL, g1, g2⟩ := ops_loop hc x1 (by omega) x1.toNat 0 [] a2 s2 (by omega) (by simp) (fun o ho => by simp at ho) (by omega) (by omega)
    refine ⟨l, a', s', Ev.ite_neg hb (Ev.succ ?_), hO, hL, by omega, by omega⟩
    simp only [spec_l1Cur_heapOps.j0]
    exact hE
end Go.Proofs.YtcbgjcnekdoloaaDoor.DrawL

namespace Go.Proofs.YtcbgjcnekdoloaaDoor.DrawL
open Go.RowKit Go.Proofs.YtcbgjcnekdoloaaDoor.G Go.Proofs.YtcbgjcnekdoloaaDoor.EvL Go.Proofs.YtcbgjcnekdoloaaDoor.HeapL Go.Proofs.YtcbgjcnekdoloaaDoor.PlayL Go.Proofs.YtcbgjcnekdoloaaDoorW.PrintWords Go.Proofs.YtcbgjcnekdoloaaDoorW.PrintLast
set_option linter.unusedVariables false

def empty : Pl := ⟨0, [], [], false⟩
def opOk (o : S102) : Bool := decide (-9223372036854775808 ≤ o.f1 ∧ o.f1 ≤ 9223372036854775807)
def heapF (k : Nat) (c : List Int) (a s : Int) : Option (Int × List S61 × List Int × Int × Int) :=
  (spec_l1Cur_pick.f c a s 20).bind fun p => (spec_l1Cur_heapOps.f k c p.2.1 p.2.2).bind fun l =>
  if l.1.all opOk = true then
  (if (l.1.length : Int) ≤ 150 then playF k 200 (wrap64 (1 + p.1)) empty (l.1.map fun o => (o.f0, o.f1, o.f2)) else some empty).bind fun h =>
  (spec_l1Cur_pick.f c l.2.1 l.2.2 30).bind fun q =>
  if q.1 = 0 then (spec_l1Cur_among.f c q.2.1 q.2.2 [(-1), 0, (h.cs.length : Int), wrap64 ((h.cs.length : Int) + 1)]).bind fun r => some (r.1, h.cs, h.rs, r.2.1, r.2.2) else
  if q.1 = 1 then (spec_l1Cur_pick.f c q.2.1 q.2.2 9).bind fun r => some (h.old, h.cs, h.rs ++ [wrap64 (r.1 - 1)], r.2.1, r.2.2) else
  if q.1 = 2 then (spec_l1Cur_pick.f c q.2.1 q.2.2 9).bind fun r => (spec_l1Cur_pick.f c r.2.1 r.2.2 9).bind fun t => some (h.old, h.cs ++ [⟨false, 0, r.1, t.1⟩], h.rs, t.2.1, t.2.2) else
  some (h.old, h.cs, h.rs, q.2.1, q.2.2)
  else none
theorem empty_fine : Fine empty := ⟨by decide, fun x hx => by simp [empty] at hx⟩
theorem heap_ev {c : List Int} (hc : Bytes c) (a s : Int) (h0 : 0 ≤ a) (h1 : a ≤ 700000) : ∃ old cs rs a' s', Ev (fun k => heapF k c a s) (old, cs, rs, a', s') ∧ Num cs := by
  obtain ⟨x1, a1, s1, e1, u1, v1, p1, q1⟩ := pick_ev hc a s 20 (by omega) (by omega) (by omega) (by omega)
  obtain ⟨l, a2, s2, e2, hO, hL, p2, q2⟩ := ops_ev hc a1 s1 (by omega) (by omega)
  have hk : l.all opOk = true := List.all_eq_true.mpr fun o ho => decide_eq_true (by have := hO o ho; omega)
  have hp : ∃ h, Ev (fun k => if (l.length : Int) ≤ 150 then playF k 200 (wrap64 (1 + x1)) empty (l.map fun o => (o.f0, o.f1, o.f2)) else some empty) h ∧ Fine h := by
    by_cases h : (l.length : Int) ≤ 150
    · obtain ⟨t, e, f⟩ := play_ev (wrap64 (1 + x1)) (l.map fun o => (o.f0, o.f1, o.f2)) empty_fine (fun o ho => by
        obtain ⟨y, hy, rfl⟩ := List.mem_map.mp ho
        have := hO y hy
        show -9223372036854775808 ≤ y.f1 ∧ y.f1 ≤ 9223372036854775807
        omega)
      exact ⟨t, Ev.ite_pos h e, f⟩
    · exact ⟨empty, Ev.ite_neg h (Ev.now _), empty_fine⟩
  obtain ⟨h, e3, hf⟩ := hp
  obtain ⟨x4, a4, s4, e4, u4, v4, p4, q4⟩ := pick_ev hc a2 s2 30 (by omega) (by omega) (by omega) (by omega)
  have st : ∀ {r}, Ev (fun k => (if x4 = 0 then (spec_l1Cur_among.f c a4 s4 [(-1), 0, (h.cs.length : Int), wrap64 ((h.cs.length : Int) + 1)]).bind fun r => some (r.1, h.cs, h.rs, r.2.1, r.2.2) else
      if x4 = 1 then (spec_l1Cur_pick.f c a4 s4 9).bind fun r => some (h.old, h.cs, h.rs ++ [wrap64 (r.1 - 1)], r.2.1, r.2.2) else
      if x4 = 2 then (spec_l1Cur_pick.f c a4 s4 9).bind fun r => (spec_l1Cur_pick.f c r.2.1 r.2.2 9).bind fun t => some (h.old, h.cs ++ [⟨false, 0, r.1, t.1⟩], h.rs, t.2.1, t.2.2) else
      some (h.old, h.cs, h.rs, a4, s4) : Option (Int × List S61 × List Int × Int × Int))) r → Ev (fun k => heapF k c a s) r := fun hr => by
    unfold heapF
    exact Ev.bind (Ev.const e1) (Ev.bind e2 (Ev.ite_pos hk (Ev.bind e3 (Ev.bind (Ev.const e4) hr))))
  obtain ⟨r5, a5, s5, e5, _⟩ := among_ev hc a4 s4 [(-1), 0, (h.cs.length : Int), wrap64 ((h.cs.length : Int) + 1)] (by omega) (by omega) (by simp) (by simp)
  obtain ⟨r6, a6, s6, e6, u6, v6, p6, q6⟩ := pick_ev hc a4 s4 9 (by omega) (by omega) (by omega) (by omega)
  obtain ⟨r7, a7, s7, e7, _⟩ := pick_ev hc a6 s6 9 (by omega) (by omega) (by omega) (by omega)
  by_cases k0 : x4 = 0
  · exact ⟨_, _, _, _, _, st (Ev.ite_pos k0 (Ev.bind (Ev.const e5) (Ev.now _))), hf.num⟩
  by_cases k1 : x4 = 1
  · exact ⟨_, _, _, _, _, st (Ev.ite_neg k0 (Ev.ite_pos k1 (Ev.bind (Ev.const e6) (Ev.now _)))), hf.num⟩
  by_cases k2 : x4 = 2
  · exact ⟨_, _, _, _, _, st (Ev.ite_neg k0 (Ev.ite_neg k1 (Ev.ite_pos k2 (Ev.bind (Ev.const e6) (Ev.bind (Ev.const e7) (Ev.now _)))))), num_put hf.num (by show _ ≤ (0 : Int) ∧ (0 : Int) ≤ _; omega)⟩
  · exact ⟨_, _, _, _, _, st (Ev.ite_neg k0 (Ev.ite_neg k1 (Ev.ite_neg k2 (Ev.now _)))), hf.num⟩
end Go.Proofs.YtcbgjcnekdoloaaDoor.DrawL

namespace Go.Proofs.YtcbgjcnekdoloaaDoor.G
open Go.RowKit Go.Proofs.YtcbgjcnekdoloaaDoorW.PrintWords Go.Proofs.YtcbgjcnekdoloaaDoorW.PrintLast Go.Proofs.YtcbgjcnekdoloaaDoorW.PrintMore Go.Proofs.YtcbgjcnekdoloaaDoor.PlayL Go.Proofs.YtcbgjcnekdoloaaDoor.HeapL Go.Proofs.YtcbgjcnekdoloaaDoor.EvL Go.Proofs.YtcbgjcnekdoloaaDoor.Short
set_option linter.unusedVariables false
set_option linter.unusedSimpArgs false

def spec_l7S_cell.T11 : Bool × List (List Nat × List Nat) := (true, [([], []), ([], []), ([1], [1]), ([2], [2]), ([3], [3]), ([4], [4]), ([], []), ([6], [6]), ([5, 7], [5, 7]), ([0, 0, 1, 2, 3, 4, 5, 6, 7, 8], [0]), ([9, 0, 1, 2, 3, 4, 5, 6, 7, 8], [9]), ([10, 0, 1, 2, 3, 4, 5, 6, 7, 8], [10]), ([11, 8, 8, 0, 1, 2, 3, 4, 5, 6, 7, 8], [8, 11])])
def spec_l7S_cell.B11 : List Nat := [0, 0, 2, 6, 14, 30, 0, 64, 254, 511, 1023, 2047, 4095]
theorem spec_l7S_cell.tab11 : rtab .any (opsOf Tryd.f76 11) = spec_l7S_cell.T11 := by kernel_rfl
theorem spec_l7S_cell.bits11 : waitsOk spec_l7S_cell.T11.2 spec_l7S_cell.B11 = true := by kernel_rfl
def spec_l7S_cell.T12 : Bool × List (List Nat × List Nat) := (true, [([], []), ([], []), ([1], [1]), ([2], [2]), ([3], [3]), ([4], [4]), ([], []), ([6], [6]), ([7], [7]), ([8], [8]), ([9], [9]), ([10], [10]), ([11], [11]), ([12], [12]), ([5, 13], [5, 13]), ([0, 0, 1, 2, 3, 4, 5, 6, 7, 8, 9, 10, 11, 12, 13, 14], [0]), ([15, 0, 1, 2, 3, 4, 5, 6, 7, 8, 9, 10, 11, 12, 13, 14], [15]), ([16, 0, 1, 2, 3, 4, 5, 6, 7, 8, 9, 10, 11, 12, 13, 14], [16]), ([17, 14, 14, 0, 1, 2, 3, 4, 5, 6, 7, 8, 9, 10, 11, 12, 13, 14], [14, 17])])
def spec_l7S_cell.B12 : List Nat := [0, 0, 2, 6, 14, 30, 0, 64, 192, 448, 960, 1984, 4032, 8128, 16382, 32767, 65535, 131071, 262143]
theorem spec_l7S_cell.tab12 : rtab .any (opsOf Tryd.f76 12) = spec_l7S_cell.T12 := by kernel_rfl
theorem spec_l7S_cell.bits12 : waitsOk spec_l7S_cell.T12.2 spec_l7S_cell.B12 = true := by kernel_rfl
set_option maxHeartbeats 8000000 in
set_option maxRecDepth 100000 in
theorem spec_l7S_cell.calls (k g : Nat) (s t : Pl) (nur : Int) (out : ByteArray) (pair : Bool) (n a b : Int) (wb w : World) (hI : IsL wb w g s nur out) (hF : Fine s) (h : cellF k 200 nur s pair n a b = some t) :
  Calls Tryd.prog 76 #[.pointer (some ⟨g, 0, none⟩), .bool pair, .int .i64 n, .int .i64 a, .int .i64 b] w fun e w' => e = .returned (.tuple #[]) ∧ IsL wb w' g t nur out := by
 have HI := aK hI
 clear hI
 unfold cellF at h
 obtain ⟨A1, c1, A2, c2, hb, hK, hR1, hR2⟩ := HI.out.opens
 obtain ⟨q0, q1, q2, q3, q4, q5, q6, q7⟩ := L_cell hb
 have HF := aK hF
 clear hF hK hR1 hR2
 by_cases h60 : s.rs.length = 60
 ·rw [if_pos h60] at h
  obtain rfl := Option.some.inj h
  have z60 : decide ((s.rs.length : Int) = 60) = true := decide_eq_true (by omega)
  go_enter Tryd.func76, Tryd.ntmps76
  go_wp2
  (try simp only [Exit.inBlock, Exit.then])
  refine bodyPost_ret (results_none rfl _ _ _) rfl ?_
  exact ⟨rfl, by repeat (first | exact HI.out | apply IsL.drewN | apply IsL.drew)⟩
 ·rw [if_neg h60] at h
  have z60 : decide ((s.rs.length : Int) = 60) = false := decide_eq_false (by omega)
  replace h := Option.bind_eq_some_iff.mp h
  obtain ⟨h1, e1, h⟩ := h
  replace h := Option.bind_eq_some_iff.mp h
  obtain ⟨h2, e2, h⟩ := h
  have E1 := aK e1
  have E2 := aK e2
  have H := aK h
  clear e1 e2 h
  have L1 : Aside0 (s.cs.length ≤ 200) := ⟨(good_parts HF.out.good).1⟩
  have O1 : Aside0 (0 ≤ s.old ∧ s.old ≤ (s.cs.length : Int)) := ⟨(good_parts HF.out.good).2.2.1⟩
  have G1 : Aside0 (goodH h1.1 h1.2.1 h1.2.2 = true ∧ Num h1.2.1 ∧ h1.2.2.length = s.rs.length) := ⟨by
   have e := E1.out
   split at e
   ·exact minor_told HF.out.good HF.out.num e
   ·obtain rfl := Option.some.inj e
    exact ⟨HF.out.good, HF.out.num, rfl⟩⟩
  have G2 : Aside0 (goodH h2.1 h2.2.1 h2.2.2 = true ∧ Num h2.2.1 ∧ h2.2.2.length = s.rs.length) := ⟨by
   have e := E2.out
   split at e
   ·obtain ⟨x1, x2, x3⟩ := collect_told G1.out.1 G1.out.2.1 e
    exact ⟨x1, x2, x3.trans G1.out.2.2⟩
   ·obtain rfl := Option.some.inj e
    exact G1.out⟩
  go_enter Tryd.func76, Tryd.ntmps76
  go_upto_region 2 with fail
  go_quiet (fail)
  have HI := aK (HI.out.drewN nq)
  generalize w.drewN nq = w1 at HI ⊢
  clear hb q0 q1 q2 q3 q4 q5 q6 q7
  go_upto_if 39 with fail
  go_cut [] (fun wc => Aside0 (IsL wb wc g ⟨h1.1, h1.2.1, h1.2.2, s.full⟩ nur out))
  case first =>
   by_cases c : (s.cs.length : Int) - s.old ≥ nur
   ·have e := E1.out
    rw [if_pos c] at e
    have E := aK e
    clear e
    have cw : decide (nur ≤ wrap64 ((s.cs.length : Int) - s.old)) = true := decide_eq_true (by have := L1.out; have := O1.out; rw [w64 (by omega) (by omega)]; omega)
    rw [cw]
    obtain ⟨A1', c1', A2', c2', hb, hK, hR1, hR2⟩ := HI.out.opens
    obtain ⟨q0, q1, q2, q3, q4, q5, q6, q7⟩ := L_cell hb
    have QR1 := aK (Kd.R_reads' hR1)
    have QR2 := aK (Kd.R_reads' hR2)
    have QK := aK hK.1
    clear hR1 hR2 hb hK
    go_wp2_with (first
     | ((with_reducible refine gate_callee (f := 77) rfl ?_); refine goesL_ (some 45) rfl rfl Tryd.func77 (by kernel_rfl) rfl #[.agg #[.int .i64 s.old, .slice A1' s.cs.length c1', .slice A2' s.rs.length c2']] rfl tA ?_; (with_reducible refine (spec_l7Minor.calls k _ _ _ _ _ _ _ h1.1 h1.2.1 h1.2.2 _ ?s1 ?s2 ?s3 ?s4 ?sE).mono ?_); (case s1 => exact QR1.out.2.2); (case s2 => exact QR1.out.2.1); (case s3 => exact QR2.out.2.2); (case s4 => exact QR2.out.2.1); (case sE => exact E.out); rintro _ w2 ⟨v1, v2, rfl, r1, r2, hB⟩; refine ⟨_, rfl, ?_⟩; have n0_ := aK (HI.out.below hB); have R1 := aK (IsL.told n0_.out QK.out r1 (by decide)); have R2 := aK (IsL.told n0_.out QK.out r2 (by decide)); clear q0 q1 q2 q3 q4 q5 q6 q7 QR1 QR2 r1 r2 hB; obtain ⟨A5, c5, rfl⟩ := Kd.R_slice R1.out; obtain ⟨A6, c6, rfl⟩ := Kd.R_slice R2.out; obtain ⟨A3, c3, A4, c4, hb, _, _, _⟩ := n0_.out.opens; obtain ⟨q0, q1, q2, q3, q4, q5, q6, q7⟩ := L_cell hb; have z0 := blk_frozen hb 0; have z1 := blk_frozen hb 1; have z2 := blk_frozen hb 2; clear hb))
    go_meet
    case rel => exact ⟨IsL.set_heap n0_.out R1.out R2.out⟩
   ·have e := E1.out
    rw [if_neg c] at e
    have cw : decide (nur ≤ wrap64 ((s.cs.length : Int) - s.old)) = false := decide_eq_false (by have := L1.out; have := O1.out; rw [w64 (by omega) (by omega)]; omega)
    rw [cw]
    go_wp2
    go_meet
    case rel => 
     obtain rfl := Option.some.inj e
     exact ⟨by repeat (first | exact HI.out | apply IsL.drewN | apply IsL.drew)⟩
  case rest =>
   clear HI
   have HI := hcut
   clear hcut
   obtain ⟨A1', c1', A2', c2', hb, hK, hR1, hR2⟩ := HI.out.opens
   obtain ⟨q0, q1, q2, q3, q4, q5, q6, q7⟩ := L_cell hb
   clear hb hK hR1 hR2
   go_upto_region 4 with fail
   go_quiet (fail)
   have HI := aK (HI.out.drewN nq)
   generalize wc.drewN nq = w1 at HI ⊢
   clear q0 q1 q2 q3 q4 q5 q6 q7
   go_upto_if 58 with fail
   go_cut [] (fun wc => Aside0 (IsL wb wc g ⟨h2.1, h2.2.1, h2.2.2, s.full⟩ nur out))
   case first =>
    by_cases c : (h1.2.1.length : Int) ≥ 200
    ·have e := E2.out
     rw [if_pos c] at e
     have E := aK e
     clear e
     have cw : decide (200 ≤ h1.2.1.length) = true := decide_eq_true (by omega)
     obtain ⟨A1', c1', A2', c2', hb, hK, hR1, hR2⟩ := HI.out.opens
     obtain ⟨q0, q1, q2, q3, q4, q5, q6, q7⟩ := L_cell hb
     have QR1 := aK (Kd.R_reads' hR1)
     have QR2 := aK (Kd.R_reads' hR2)
     have QK := aK hK.1
     clear hR1 hR2 hb hK
     go_wp2_with (first
      | ((with_reducible refine gate_callee (f := 30) rfl ?_); refine goesL_ (some 64) rfl rfl Tryd.func30 (by kernel_rfl) rfl #[.agg #[.int .i64 h1.1, .slice A1' h1.2.1.length c1', .slice A2' h1.2.2.length c2']] rfl tA ?_; (with_reducible refine (spec_l7Collect.calls k _ _ _ _ _ _ _ h2.1 h2.2.1 h2.2.2 _ ?s1 ?s2 ?s3 ?s4 ?sE).mono ?_); (case s1 => exact QR1.out.2.2); (case s2 => exact QR1.out.2.1); (case s3 => exact QR2.out.2.2); (case s4 => exact QR2.out.2.1); (case sE => exact E.out); rintro _ w2 ⟨v1, v2, rfl, r1, r2, hB⟩; refine ⟨_, rfl, ?_⟩; have n0_ := aK (HI.out.below hB); have R1 := aK (IsL.told n0_.out QK.out r1 (by decide)); have R2 := aK (IsL.told n0_.out QK.out r2 (by decide)); clear q0 q1 q2 q3 q4 q5 q6 q7 QR1 QR2 r1 r2 hB; obtain ⟨A5, c5, rfl⟩ := Kd.R_slice R1.out; obtain ⟨A6, c6, rfl⟩ := Kd.R_slice R2.out; obtain ⟨A3, c3, A4, c4, hb, _, _, _⟩ := n0_.out.opens; obtain ⟨q0, q1, q2, q3, q4, q5, q6, q7⟩ := L_cell hb; have z0 := blk_frozen hb 0; have z1 := blk_frozen hb 1; have z2 := blk_frozen hb 2; clear hb))
     go_meet
     case rel => exact ⟨IsL.set_heap n0_.out R1.out R2.out⟩
    ·have e := E2.out
     rw [if_neg c] at e
     have cw : decide (200 ≤ h1.2.1.length) = false := decide_eq_false (by omega)
     obtain rfl := Option.some.inj e
     go_wp2
     go_meet
     case rel => exact ⟨by repeat (first | exact HI.out | apply IsL.drewN | apply IsL.drew)⟩
   case rest =>
    clear HI
    have HI := hcut
    clear hcut
    obtain ⟨A1', c1', A2', c2', hb, hK, hR1, hR2⟩ := HI.out.opens
    obtain ⟨q0, q1, q2, q3, q4, q5, q6, q7⟩ := L_cell hb
    clear hb hK hR1 hR2
    go_upto_region 6 with fail
    go_quiet (fail)
    have HI := aK (HI.out.drewN nq)
    generalize wc.drewN nq = w1 at HI ⊢
    clear q0 q1 q2 q3 q4 q5 q6 q7
    go_upto_if 77 with fail
    by_cases c : (h2.2.1.length : Int) ≥ 200
    ·have e := H.out
     rw [if_pos c] at e
     obtain rfl := Option.some.inj e
     obtain ⟨A3, c3, A4, c4, hb, _, _, _⟩ := HI.out.opens
     obtain ⟨q0, q1, q2, q3, q4, q5, q6, q7⟩ := L_cell hb
     have z6 := blk_frozen hb 6
     go_wp2
     (try simp only [Exit.inBlock, Exit.then])
     refine bodyPost_ret (results_none rfl _ _ _) rfl ?_
     exact ⟨rfl, HI.out.set_full true⟩
    ·have e := H.out
     rw [if_neg c] at e
     have H1 := aK e
     clear e
     have cw : decide (200 ≤ h2.2.1.length) = false := decide_eq_false (by omega)
     obtain ⟨A3, c3, A4, c4, hb, hK, hR1, hR2⟩ := HI.out.opens
     obtain ⟨q0, q1, q2, q3, q4, q5, q6, q7⟩ := L_cell hb
     clear hb hK hR1 hR2
     go_upto_region 9 with (first
      | ((with_reducible refine gate_dst (N := 10) rfl ?_); refine bE (N := 10) (cs := #[.bool false, .int .i64 0, .int .i64 0, .int .i64 0]) (t := 61) ?_; intro gb hg w2 hbox hb; have n0_ := aK (HI.out.box hg hb); have BK := aK hbox; clear HI; have HI := n0_; clear n0_; clear hb hbox hg; have b0 : w2.cell? ⟨gb, 0, none⟩ = some (.bool false) := (blk_cell BK.out 0).trans rfl; have b1 : w2.cell? ⟨gb, 1, none⟩ = some (.int .i64 0) := (blk_cell BK.out 1).trans rfl; have b2 : w2.cell? ⟨gb, 2, none⟩ = some (.int .i64 0) := (blk_cell BK.out 2).trans rfl; have b3 : w2.cell? ⟨gb, 3, none⟩ = some (.int .i64 0) := (blk_cell BK.out 3).trans rfl; have f0 := blk_frozen BK.out 0; have f1 := blk_frozen BK.out 1; have f2 := blk_frozen BK.out 2; have f3 := blk_frozen BK.out 3))
     go_upto_if 83 with fail
     have n0_ := IsLB.put4 HI.out BK.out (.bool true) (.int .i64 n) (.int .i64 0) (.int .i64 0)
     clear HI BK b0 b1 b2 b3 f0 f1 f2 f3
     generalize (((w2.setCell ⟨gb, 0, none⟩ (.bool true)).setCell ⟨gb, 1, none⟩ (.int .i64 n)).setCell ⟨gb, 2, none⟩ (.int .i64 0)).setCell ⟨gb, 3, none⟩ (.int .i64 0) = w3 at n0_ ⊢
     have HI := aK n0_.1
     have BK := aK n0_.2
     clear n0_ q0 q1 q2 q3 q4 q5 q6 q7
     go_cut [] (fun wc => ∃ x : S61, Aside0 (IsLB wb wc g gb ⟨h2.1, h2.2.1, h2.2.2, s.full⟩ nur out) ∧ Aside0 (wc.heap[gb]? = some (.cells #[.bool x.f0, .int .i64 x.f1, .int .i64 x.f2, .int .i64 x.f3] 61 (0, 0))) ∧ Aside0 (t = ⟨h2.1, h2.2.1 ++ [x], h2.2.2 ++ [(h2.2.1.length : Int)], s.full⟩))
     case first =>
      cases pair with
      | false =>
       have e := H1.out
       rw [if_neg (by decide)] at e
       go_wp2
       go_meet
       case rel => exact ⟨⟨true, n, 0, 0⟩, HI, BK, ⟨(Option.some.inj e).symm⟩⟩
      | true =>
       have e := H1.out
       rw [if_pos rfl] at e
       have cc : 0 ≤ a ∧ a < ↑h2.2.2.length ∧ 0 ≤ b ∧ b < ↑h2.2.2.length := Classical.byContradiction fun hn => by rw [if_neg hn] at e; simp at e
       rw [if_pos cc] at e
       have E := aK (Option.some.inj e).symm
       clear e
       obtain ⟨A3', c3', A4', c4', hb, hK, hR1, hR2⟩ := HI.out.isL.opens
       obtain ⟨q0, q1, q2, q3, q4, q5, q6, q7⟩ := L_cell hb
       obtain ⟨ad, ea, ha⟩ := Kd.at_int (Kd.R_reads' hR2).2.2 a cc.1 cc.2.1
       obtain ⟨ad', eb, hb'⟩ := Kd.at_int (Kd.R_reads' hR2).2.2 b cc.2.2.1 cc.2.2.2
       subst ea
       obtain rfl := Option.some.inj eb
       have p1 : decide (0 ≤ a) = true := decide_eq_true cc.1
       have p2 : decide (a < ↑h2.2.2.length) = true := decide_eq_true cc.2.1
       have p3 : decide (0 ≤ b) = true := decide_eq_true cc.2.2.1
       have p4 : decide (b < ↑h2.2.2.length) = true := decide_eq_true cc.2.2.2
       have r1 := eq_true cc.1
       have r2 := eq_true cc.2.1
       have r3 := eq_true cc.2.2.1
       have r4 := eq_true cc.2.2.2
       clear hb hK hR1 hR2 cc
       go_upto_region 10 with fail
       go_still_tail 17, (by kernel_rfl)
       have n1_ := aK HI.out.drew
       have n2_ := aK (blk_drew BK.out)
       clear HI BK q0 q1 q2 q3 q4 q5 q6 q7 ha hb'
       have HI := n1_
       have BK := n2_
       clear n1_ n2_
       change wpList _ _ _ _ _ w3.drew
       generalize w3.drew = w4 at HI BK ⊢
       have b0 := blk_cell BK.out 0
       have b1 := blk_cell BK.out 1
       have b2 := blk_cell BK.out 2
       have b3 := blk_cell BK.out 3
       have f0 := blk_frozen BK.out 0
       have f1 := blk_frozen BK.out 1
       have f2 := blk_frozen BK.out 2
       have f3 := blk_frozen BK.out 3
       go_wp2
       go_meet
       case rel =>
        have n0_ := IsLB.put4 HI.out BK.out (.bool false) (.int .i64 0) (.int .i64 (rd h2.2.2 a)) (.int .i64 (rd h2.2.2 b))
        exact ⟨⟨false, 0, rd h2.2.2 a, rd h2.2.2 b⟩, ⟨n0_.1⟩, ⟨n0_.2⟩, E⟩
     case rest =>
      clear HI BK H1 H
      obtain ⟨x, HI, BK, HT⟩ := hcut
      obtain ⟨A3, c3, A4, c4, hv⟩ := HI.out.isL.openv
      obtain ⟨q0, q1, q2, q3, q4, q5, q6, q7⟩ := L_cell hv.blk
      have b0 : wc.cell? ⟨gb, 0, none⟩ = some (.bool x.f0) := (blk_cell BK.out 0).trans rfl
      have b1 : wc.cell? ⟨gb, 1, none⟩ = some (.int .i64 x.f1) := (blk_cell BK.out 1).trans rfl
      have b2 : wc.cell? ⟨gb, 2, none⟩ = some (.int .i64 x.f2) := (blk_cell BK.out 2).trans rfl
      have b3 : wc.cell? ⟨gb, 3, none⟩ = some (.int .i64 x.f3) := (blk_cell BK.out 3).trans rfl
      have HV := aK hv
      clear hv
      go_upto_region 11 with fail
      refine start_ (n := 13) (S := fun w' => w'.cell? ⟨g, 1, none⟩ = some (.slice A3 h2.2.1.length c3) ∧ w'.cell? ⟨gb, 0, none⟩ = some (.bool x.f0) ∧ w'.cell? ⟨gb, 1, none⟩ = some (.int .i64 x.f1) ∧ w'.cell? ⟨gb, 2, none⟩ = some (.int .i64 x.f2) ∧ w'.cell? ⟨gb, 3, none⟩ = some (.int .i64 x.f3)) (ds := [8, 12]) (bs 0 13) (by kernel_rfl) rfl rfl ⟨q1, b0, b1, b2, b3⟩ (fun hHeld => ?_); refine with_tabW spec_l7S_cell.tab11 spec_l7S_cell.bits11 (fun HT_ HW_ => ?_)
      have n1_ := aK HV.out.drew
      have n2_ := aK (blk_drew BK.out)
      clear HI HV BK q0 q1 q2 q3 q4 q5 q6 q7 b0 b1 b2 b3
      have HV := n1_
      have BK := n2_
      clear n1_ n2_
      generalize wc.drew = w4 at HV BK hHeld ⊢
      have L2 : Aside0 (h2.2.1.length ≤ 200 ∧ h2.2.2.length ≤ 60) := ⟨(good_parts G2.out.1).1, (good_parts G2.out.1).2.1⟩
      refine pS (i := 0) (N := some 101) (bs 1 12) (aO HT_) ?_
      refine pS (i := 1) (N := some 102) (bs 2 11) (aO HT_) ?_
      refine pS (i := 2) (N := some 103) (bs 3 10) (aO HT_) ?_
      refine pS (i := 3) (N := some 104) (bs 4 9) (aO HT_) ?_
      refine pS (i := 4) (N := some 105) (bs 5 8) (aO HT_) ?_
      refine take_ (i := 5) (N := some 106) (v := ?_) (a' := ?_) (bs 6 7) rfl rfl (take_ofW HT_.out HW_.out (by kernel_rfl)) (fun _ _ _ h => h) (Or.inl ⟨by rfl, ?_⟩) hHeld ?_ ?_
      rotate_left
      ·rintro w' ⟨s0, s1, s2, s3, s4⟩
       go_simp
       with_reducible rfl
      rotate_left
      ·simp only [sP, i64_w, i32_w]
       rfl
      refine take_ (i := 6) (N := some 107) (v := ?_) (a' := ?_) (bs 7 6) rfl rfl (take_ofW HT_.out HW_.out (by kernel_rfl)) (fun _ _ _ h => h) (Or.inl ⟨by rfl, ?_⟩) hHeld ?_ ?_
      rotate_left
      ·rintro w' ⟨s0, s1, s2, s3, s4⟩
       go_simp
       with_reducible rfl
      rotate_left
      ·simp only [sP, i64_w, i32_w]
       rfl
      refine one_ (i := 7) (N := some 108) (bs 8 5) rfl rfl (one_of HT_.out (by kernel_rfl)) (by decide) (fun K hK => ?_)
      refine value_ (w1 := ?_) (v := ?_) (by rfl) rfl ?_ ?_
      rotate_left 2
      ·go_simp
       constructor
       ·rfl
       ·rfl
      refine hK.out _ _ ⟨(blk_cell (blk_alloc HV.out.blk _) 1).trans rfl, (blk_cell (blk_alloc BK.out _) 0).trans rfl, (blk_cell (blk_alloc BK.out _) 1).trans rfl, (blk_cell (blk_alloc BK.out _) 2).trans rfl, (blk_cell (blk_alloc BK.out _) 3).trans rfl⟩ (fun hHeld => ?_)
      clear hK K
      refine norm_ (a' := ?_) ?_ ?_
      rotate_left
      ·show Act.put _ (some 108) _ = _
       simp only [sP, i64_w, i32_w]
       rfl
      refine last_ (i := 8) (N := some 109) (bs 9 4) rfl rfl (one_of HT_.out (by kernel_rfl)) (by decide) (fun K hK => ?_)
      refine Kd.R_append_step k61 (w0 := w4) wb.heap.size (by rfl) (.tmp 106) (.tmp 108) 29 61 (.agg #[(.bool false), (.int .i64 0), (.int .i64 0), (.int .i64 0)]) 32 rfl Tryd.underlying29 info61 rfl (by decide) (by omega) (.slice A3 h2.2.1.length c3) h2.2.1 x [.bool x.f0, .int .i64 x.f1, .int .i64 x.f2, .int .i64 x.f3] (fun k_ => k_ ≠ g) (fun _ => False) rfl rfl (k61_mkM _ _ _ x) (fun _ hk => hk.elim) HV.out.fresh HV.out.2.2.1 (Below.refl _ _) HV.out.size (by have := L2.out; omega) ?_
      intro v5 w5 ho hb hg hat
      obtain ⟨cs2, hcs⟩ : ∃ y, y = h2.2.1 ++ [x] := ⟨_, rfl⟩
      rw [← hcs] at ho
      have HC := aK hcs
      clear hcs
      obtain ⟨A5, c5, rfl⟩ := Kd.R_slice ho
      have hG := HV.out.grown1 hg
      have HI : Aside0 (IsL wb (w5.setCell ⟨g, 1, none⟩ (.slice A5 cs2.length c5)) g ⟨h2.1, cs2, h2.2.2, s.full⟩ nur out) := ⟨HV.out.put_cells hg ho⟩
      clear HV BK hHeld ho hb hg hat
      refine hK.out _ _ ?_
      clear hK K
      refine norm_ (a' := ?_) ?_ ?_
      rotate_left
      ·show Act.put _ (some 109) _ = _
       simp only [sP, i64_w, i32_w]
       rfl
      refine pS (i := 9) (N := some 110) (bs 10 3) (aO HT_) ?_
      refine pS (i := 10) (N := some 111) (bs 11 2) (aO HT_) ?_
      refine pS (i := 11) (N := some 112) (bs 12 1) (aO HT_) ?_
      refine last_ (i := 12) (N := none) (bs 13 0) rfl rfl (one_of HT_.out (by kernel_rfl)) (by decide) (fun K hK => ?_)
      have hs : w5.cell? ⟨g, 1, none⟩ = some (.slice A3 h2.2.1.length c3) := (blk_cell hG 1).trans rfl
      have hfs := blk_frozen hG 1
      refine skip_ (w1 := ?_) (by rfl) rfl ?_ ?_
      rotate_left
      ·go_simp
       rfl
      refine hK.out _ _ ?_
      clear hK K
      refine done_ (done_of HT_.out (by kernel_rfl)) ?_
      clear hs hfs hG
      generalize w5.setCell ⟨g, 1, none⟩ (.slice A5 cs2.length c5) = w6 at HI ⊢
      obtain ⟨A3', c3', A4', c4', hv⟩ := HI.out.openv
      obtain ⟨q0, q1, q2, q3, q4, q5, q6, q7⟩ := L_cell hv.blk
      have HV := aK hv
      clear hv HI
      go_upto_region 12 with fail
      refine start_ (n := 19) (S := fun w' => w'.cell? ⟨g, 1, none⟩ = some (.slice A3' cs2.length c3') ∧ w'.cell? ⟨g, 2, none⟩ = some (.slice A4' h2.2.2.length c4')) (ds := [14, 18]) (bs 0 19) (by kernel_rfl) rfl rfl ⟨q1, q2⟩ (fun hHeld => ?_); refine with_tabW spec_l7S_cell.tab12 spec_l7S_cell.bits12 (fun HT_ HW_ => ?_)
      have n1_ := aK HV.out.drew
      clear HV q0 q1 q2 q3 q4 q5 q6 q7
      have HV := n1_
      clear n1_
      generalize w6.drew = w7 at HV hHeld ⊢
      refine pS (i := 0) (N := some 113) (bs 1 18) (aO HT_) ?_
      refine pS (i := 1) (N := some 114) (bs 2 17) (aO HT_) ?_
      refine pS (i := 2) (N := some 115) (bs 3 16) (aO HT_) ?_
      refine pS (i := 3) (N := some 116) (bs 4 15) (aO HT_) ?_
      refine pS (i := 4) (N := some 117) (bs 5 14) (aO HT_) ?_
      refine pS (i := 6) (N := some 119) #[true, true, true, true, true, false, true, false, false, false, false, false, false, false, false, false, false, false, false] (aO HT_) ?_
      refine pS (i := 7) (N := some 120) #[true, true, true, true, true, false, true, true, false, false, false, false, false, false, false, false, false, false, false] (aO HT_) ?_
      refine pS (i := 8) (N := some 121) #[true, true, true, true, true, false, true, true, true, false, false, false, false, false, false, false, false, false, false] (aO HT_) ?_
      refine pS (i := 9) (N := some 122) #[true, true, true, true, true, false, true, true, true, true, false, false, false, false, false, false, false, false, false] (aO HT_) ?_
      refine take_ (i := 5) (N := some 118) (v := ?_) (a' := ?_) (bs 10 9) rfl rfl (take_ofW HT_.out HW_.out (by kernel_rfl)) (fun _ _ _ h => h) (Or.inl ⟨by rfl, ?_⟩) hHeld ?_ ?_
      rotate_left
      ·rintro w' ⟨s0, s1⟩
       go_simp
       with_reducible rfl
      rotate_left
      ·simp only [sP, i64_w, i32_w]
       rfl
      refine take_ (i := 10) (N := some 123) (v := ?_) (a' := ?_) (bs 11 8) rfl rfl (take_ofW HT_.out HW_.out (by kernel_rfl)) (fun _ _ _ h => h) (Or.inl ⟨by rfl, ?_⟩) hHeld ?_ ?_
      rotate_left
      ·rintro w' ⟨s0, s1⟩
       go_simp
       with_reducible rfl
      rotate_left
      ·simp only [sP, i64_w, i32_w]
       rfl
      refine pS (i := 11) (N := some 124) (bs 12 7) (aO HT_) ?_
      refine pS (i := 12) (N := some 125) (bs 13 6) (aO HT_) ?_
      refine one_ (i := 13) (N := some 126) (bs 14 5) rfl rfl (one_of HT_.out (by kernel_rfl)) (by decide) (fun K hK => ?_)
      refine value_ (w1 := ?_) (v := ?_) (by rfl) rfl ?_ ?_
      rotate_left 2
      ·go_simp
       constructor
       ·rfl
       ·rfl
      refine hK.out _ _ ⟨(blk_cell (blk_alloc HV.out.blk _) 1).trans rfl, (blk_cell (blk_alloc HV.out.blk _) 2).trans rfl⟩ (fun hHeld => ?_)
      clear hK K
      refine norm_ (a' := ?_) ?_ ?_
      rotate_left
      ·show Act.put _ (some 126) _ = _
       simp only [sP, i64_w, i32_w]
       rfl
      refine last_ (i := 14) (N := some 127) (bs 15 4) rfl rfl (one_of HT_.out (by kernel_rfl)) (by decide) (fun K hK => ?_)
      have hl : cs2.length = h2.2.1.length + 1 := by rw [HC.out, List.length_append, List.length_singleton]
      refine Kd.R_append_step (Kd.int .i64) (w0 := w7) wb.heap.size (by rfl) (.tmp 118) (.tmp 126) 23 3 (.int .i64 0) 8 rfl Tryd.underlying23 info3 rfl (by decide) (by omega) (.slice A4' h2.2.2.length c4') h2.2.2 (wrap64 ((cs2.length : Int) - 1)) [.int .i64 (wrap64 ((cs2.length : Int) - 1))] (fun k_ => k_ ≠ g) (fun _ => False) rfl rfl rfl (fun _ hk => hk.elim) HV.out.fresh HV.out.2.2.2 (Below.refl _ _) HV.out.size (by have := L2.out; omega) ?_
      intro v8 w8 ho hb hg hat
      rw [w64 (by have := L2.out; omega) (by have := L2.out; omega), show (cs2.length : Int) - 1 = (h2.2.1.length : Int) by omega] at ho
      obtain ⟨rs2, hrs⟩ : ∃ y, y = h2.2.2 ++ [(h2.2.1.length : Int)] := ⟨_, rfl⟩
      rw [← hrs] at ho
      have HS := aK hrs
      clear hrs hl
      obtain ⟨A8, c8, rfl⟩ := Kd.R_slice ho
      have hG := HV.out.grown2 hg
      have HI : Aside0 (IsL wb (w8.setCell ⟨g, 2, none⟩ (.slice A8 rs2.length c8)) g ⟨h2.1, cs2, rs2, s.full⟩ nur out) := ⟨HV.out.put_roots hg ho⟩
      clear HV hHeld ho hb hg hat
      refine hK.out _ _ ?_
      clear hK K
      refine norm_ (a' := ?_) ?_ ?_
      rotate_left
      ·show Act.put _ (some 127) _ = _
       simp only [sP, i64_w, i32_w]
       rfl
      refine pS (i := 15) (N := some 128) (bs 16 3) (aO HT_) ?_
      refine pS (i := 16) (N := some 129) (bs 17 2) (aO HT_) ?_
      refine pS (i := 17) (N := some 130) (bs 18 1) (aO HT_) ?_
      refine last_ (i := 18) (N := none) (bs 19 0) rfl rfl (one_of HT_.out (by kernel_rfl)) (by decide) (fun K hK => ?_)
      have hs : w8.cell? ⟨g, 2, none⟩ = some (.slice A4' h2.2.2.length c4') := (blk_cell hG 2).trans rfl
      have hfs := blk_frozen hG 2
      refine skip_ (w1 := ?_) (by rfl) rfl ?_ ?_
      rotate_left
      ·go_simp
       rfl
      refine hK.out _ _ ?_
      clear hK K
      refine done_ (done_of HT_.out (by kernel_rfl)) ?_
      clear hs hfs hG
      try go_wp2
      (try simp only [Exit.inBlock, Exit.then])
      refine bodyPost_end (results_none rfl _ _ _) rfl ?_
      obtain rfl := HT.out
      rw [← HC.out, ← HS.out]
      exact ⟨rfl, HI.out⟩
end Go.Proofs.YtcbgjcnekdoloaaDoor.G
