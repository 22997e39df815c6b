/- Part 4 of 6 of the proof that the law FnUnifiedCardSaid holds: for every input that can be read the call returns true and leaves its arguments as they were; no condition but those each theorem names. -/
import Derived.Maps.Range
import Derived.Test.YteffjlhljeodpaaGreatDoorQUnifiedW1
import Derived.Test.YteffjlhljeodpaaGreatDoorQUnified1
import Derived.Test.YteffjlhljeodpaaGreatDoorQUnified2
import Derived.Test.YteffjlhljeodpaaGreatDoorQUnified3
namespace Go.Proofs.YteffjlhljeodpaaGreatDoor.G
open Go.RowKit Go.Proofs.YteffjlhljeodpaaGreatDoorW.PrintWords Go.Proofs.YteffjlhljeodpaaGreatDoorW.PrintLast Go.Proofs.YteffjlhljeodpaaGreatDoorW.PrintMore Go.Proofs.YteffjlhljeodpaaGreatDoor.Short
attribute [local go_sem] max2_int min2_int max_two min_two max_three min_three max_four min_four   -- for this text's walks alone
set_option linter.unusedVariables false
set_option linter.unusedSimpArgs false

def spec_leSame.f : Nat → Int → List (S55) → Int → List (S55) → Option (Bool)
 | 0, _, _, _, _ => none
 | k + 1, a0_0, l0_1, a1_0, l1_1 => if (l0_1.length : Int) = (l1_1.length : Int) then (if (l0_1.length : Int) = 0 then (some (a0_0 == a1_0)) else (if 0 < (l0_1.length : Int) then (if 0 < (l1_1.length : Int) then ((spec_leSame.f k ((rd_T55 l0_1 0).f0) ((rd_T55 l0_1 0).f1) ((rd_T55 l1_1 0).f0) ((rd_T55 l1_1 0).f1)).bind fun t105 => (if t105 = true then (if 1 < (l0_1.length : Int) then (if 1 < (l1_1.length : Int) then ((spec_leSame.f k ((rd_T55 l0_1 1).f0) ((rd_T55 l0_1 1).f1) ((rd_T55 l1_1 1).f0) ((rd_T55 l1_1 1).f1)).bind fun t108 => (some t108)) else (none)) else (none)) else (some false))) else (none)) else (none))) else (some false)
def spec_leSame.T5 : Bool × List (List Nat × List Nat) := (true, [([], []), ([0], [0]), ([1], [1]), ([2], [2]), ([], []), ([4], [4]), ([5], [5]), ([6], [6]), ([3, 7], [3, 7]), ([8, 8], [8]), ([9], [9]), ([10, 9], [9, 10]), ([11, 9], [9, 11]), ([12, 9], [9, 12]), ([9], [9]), ([14, 9], [9, 14]), ([15, 9], [9, 15]), ([16, 9], [9, 16]), ([13, 17, 9, 9], [9, 13, 17]), ([9, 18], [9, 18]), ([19, 18, 0, 1, 2, 3, 4, 5, 6, 7, 8, 9, 10, 11, 12, 13, 14, 15, 16, 17, 18, 19], [19])])
def spec_leSame.B5 : List Nat := [0, 1, 3, 7, 0, 16, 48, 112, 255, 511, 1023, 2047, 4095, 8191, 1023, 17407, 50175, 115711, 262143, 524287, 1048575]
theorem spec_leSame.tab5 : rtab .any (opsOf Tryz.f45 5) = spec_leSame.T5 := by kernel_rfl
theorem spec_leSame.bits5 : waitsOk spec_leSame.T5.2 spec_leSame.B5 = true := by kernel_rfl
set_option maxHeartbeats 8000000 in
set_option maxRecDepth 100000 in
theorem spec_leSame.calls (k : Nat) : ∀ (a0_0 : Int) (A0_1 : Option Addr) (c0_1 : Nat) (l0_1 : List (S55)) (a1_0 : Int) (A1_1 : Option Addr) (c1_1 : Nat) (l1_1 : List (S55)) (r : Bool) (w : World) (hr0_1 : Kd.C k55 w A0_1 l0_1.length l0_1) (hc0_1 : l0_1.length ≤ c0_1) (hr1_1 : Kd.C k55 w A1_1 l1_1.length l1_1) (hc1_1 : l1_1.length ≤ c1_1) (h : spec_leSame.f k a0_0 l0_1 a1_0 l1_1 = some r),
  Calls Tryz.prog 45 #[.agg #[.int .i64 a0_0, .slice A0_1 l0_1.length c0_1], .agg #[.int .i64 a1_0, .slice A1_1 l1_1.length c1_1]] w fun e w' => e = .returned (.bool r) ∧ Below w.heap.size w w' := by
 induction k using Nat.strongRecOn with
 | _ k ih =>
 intro a0_0 A0_1 c0_1 l0_1 a1_0 A1_1 c1_1 l1_1 r w hr0_1 hc0_1 hr1_1 hc1_1 h
 cases k with
 | zero => exact absurd h (by simp [spec_leSame.f])
 | succ k =>
 simp only [spec_leSame.f] at h
 have hu55 := Tryz.underlying55
 have HR0_1 := aK hr0_1
 have HC0_1 := aK hc0_1
 clear hr0_1 hc0_1
 have HR1_1 := aK hr1_1
 have HC1_1 := aK hc1_1
 clear hr1_1 hc1_1
 have HB := aK (Below.refl w.heap.size w)
 have H : (if (l0_1.length : Int) = (l1_1.length : Int) then (if (l0_1.length : Int) = 0 then (some (a0_0 == a1_0)) else (if 0 < (l0_1.length : Int) then (if 0 < (l1_1.length : Int) then ((spec_leSame.f k ((rd_T55 l0_1 0).f0) ((rd_T55 l0_1 0).f1) ((rd_T55 l1_1 0).f0) ((rd_T55 l1_1 0).f1)).bind fun t105 => (if t105 = true then (if 1 < (l0_1.length : Int) then (if 1 < (l1_1.length : Int) then ((spec_leSame.f k ((rd_T55 l0_1 1).f0) ((rd_T55 l0_1 1).f1) ((rd_T55 l1_1 1).f0) ((rd_T55 l1_1 1).f1)).bind fun t108 => (some t108)) else (none)) else (none)) else (some false))) else (none)) else (none))) else (some false)) = some r := h
 clear h
 by_cases c3 : (l0_1.length : Int) = (l1_1.length : Int)
 ·rw [if_pos c3] at H
  have c3b0 : ((l0_1.length : Int) == (l1_1.length : Int)) = true := beq_iff_eq.mpr c3
  have c3b1 : ((l0_1.length : Int) != (l1_1.length : Int)) = false := bne_eq_false_iff_eq.mpr c3
  have c3b2 : (l0_1.length == l1_1.length) = true := by first | simpa using c3 | (simp at c3 ⊢; omega)
  clear c3
  by_cases c4 : (l0_1.length : Int) = 0
  ·rw [if_pos c4] at H
   have c4b0 : ((l0_1.length : Int) == 0) = true := beq_iff_eq.mpr c4
   have c4b1 : ((l0_1.length : Int) != 0) = false := bne_eq_false_iff_eq.mpr c4
   clear c4
   obtain rfl := Option.some.inj H
   go_enter Tryz.func45, Tryz.ntmps45
   go_wp2_with (first | ((with_reducible refine gate_dst (N := 2) rfl ?_); refine bE (N := 2) (cs := #[.int .i64 a0_0, .slice A0_1 l0_1.length c0_1]) (t := 55) ?_; intro gb101 hg w5 hbox hb; have GW101 := qw HB hg; have GE101 := qw HB hg; have BK101 := aK hbox; replace HB := qs HB hb; clear hb hbox hg) | ((with_reducible refine gate_dst (N := 3) rfl ?_); refine bE (N := 3) (cs := #[.int .i64 a1_0, .slice A1_1 l1_1.length c1_1]) (t := 55) ?_; intro gb102 hg w6 hbox hb; have GW102 := qw HB hg; have GE102 := qw HB hg; have NB101_102 := ql BK101 hg; have NB102_101 := qg BK101 hg; replace BK101 := qb BK101 hb; have BK102 := aK hbox; replace HB := qs HB hb; clear hb hbox hg; have hnb7 := NB101_102.out; have hnc7 := NB102_101.out; obtain ⟨hcz8_0, hcz8_1, hfz8_0, hfz8_1⟩ := cA2 BK101; obtain ⟨hcz9_0, hcz9_1, hfz9_0, hfz9_1⟩ := cA2 BK102))
   go_ret
   exact ⟨eW, pH HB⟩
  ·rw [if_neg c4] at H
   have c4b0 : ((l0_1.length : Int) == 0) = false := beq_eq_false_iff_ne.mpr c4
   have c4b1 : ((l0_1.length : Int) != 0) = true := bne_iff_ne.mpr c4
   have c4b2 : ¬ (l0_1 = []) := fun h_ => c4 (by rw [h_]; rfl)
   by_cases c10 : 0 < (l0_1.length : Int)
   ·rw [if_pos c10] at H
    have c10b0 : decide (0 < (l0_1.length : Int)) = true := decide_eq_true c10
    have c10b1 : decide (0 < l0_1.length) = true := decide_eq_true (by omega)
    clear c10
    by_cases c11 : 0 < (l1_1.length : Int)
    ·rw [if_pos c11] at H
     have c11b0 : decide (0 < (l1_1.length : Int)) = true := decide_eq_true c11
     have c11b1 : decide (0 < l1_1.length) = true := decide_eq_true (by omega)
     clear c11
     obtain ⟨t105, A12, H⟩ := oB H
     try dsimp only at H
     by_cases c13 : t105 = true
     ·subst c13
      rw [if_pos rfl] at H
      by_cases c14 : 1 < (l0_1.length : Int)
      ·rw [if_pos c14] at H
       have c14b0 : decide (1 < (l0_1.length : Int)) = true := decide_eq_true c14
       have c14b1 : decide (1 < l0_1.length) = true := decide_eq_true (by omega)
       clear c14
       by_cases c15 : 1 < (l1_1.length : Int)
       ·rw [if_pos c15] at H
        have c15b0 : decide (1 < (l1_1.length : Int)) = true := decide_eq_true c15
        have c15b1 : decide (1 < l1_1.length) = true := decide_eq_true (by omega)
        clear c15
        obtain ⟨t108, A16, H⟩ := oB H
        try dsimp only at H
        obtain rfl := Option.some.inj H
        go_enter Tryz.func45, Tryz.ntmps45
        try go_wp2_with (first | ((with_reducible refine gate_dst (N := 2) rfl ?_); refine bE (N := 2) (cs := #[.int .i64 a0_0, .slice A0_1 l0_1.length c0_1]) (t := 55) ?_; intro gb101 hg w17 hbox hb; have GW101 := qw HB hg; have GE101 := qw HB hg; have BK101 := aK hbox; replace HB := qs HB hb; clear hb hbox hg) | ((with_reducible refine gate_dst (N := 3) rfl ?_); refine bE (N := 3) (cs := #[.int .i64 a1_0, .slice A1_1 l1_1.length c1_1]) (t := 55) ?_; intro gb102 hg w18 hbox hb; have GW102 := qw HB hg; have GE102 := qw HB hg; have NB101_102 := ql BK101 hg; have NB102_101 := qg BK101 hg; replace BK101 := qb BK101 hb; have BK102 := aK hbox; replace HB := qs HB hb; clear hb hbox hg; have hnb19 := NB101_102.out; have hnc19 := NB102_101.out; obtain ⟨hcz20_0, hcz20_1, hfz20_0, hfz20_1⟩ := cA2 BK101; obtain ⟨hcz21_0, hcz21_1, hfz21_0, hfz21_1⟩ := cA2 BK102))
        have n_ := aJ (aK (blk_drew BK101.out)) (aJ (aK (blk_drew BK102.out)) (aK (below_drew1 HB.out)))
        clear BK101 BK102 HB
        obtain ⟨BK101, BK102, HB⟩ := n_
        have p103 : 0 ≤ (0 : Int) := (by omega)
        have q103 : 0 < (l0_1.length : Int) := dA
        obtain ⟨ad103, A103_1, c103_1, e103, hx103_0, hx103_1, hl103_1, hi103_1⟩ := at_T55 HR0_1.out 0 p103 q103
        have hw103_1 := hx103_1
        (try rw [show ((0 : Int)).toNat = 0 from rfl] at hw103_1)
        (try rw [show 0 * 2 = 0 from rfl] at hw103_1)
        (try rw [Addr.add_zero'] at hw103_1)
        have hw103_0 := hx103_0
        (try rw [show ((0 : Int)).toNat = 0 from rfl] at hw103_0)
        (try rw [show 0 * 2 = 0 from rfl] at hw103_0)
        (try rw [Addr.add_zero'] at hw103_0)
        cases e103
        have qi103 : (0 < l0_1.length) = True := eq_true (by omega)
        (try rw [show ((0 : Int)).toNat = 0 from rfl] at hx103_0)
        (try rw [show 0 * 2 = 0 from rfl] at hx103_0)
        (try rw [Addr.add_zero'] at hx103_0)
        (try rw [show ((0 : Int)).toNat = 0 from rfl] at hx103_1)
        (try rw [show 0 * 2 = 0 from rfl] at hx103_1)
        (try rw [Addr.add_zero'] at hx103_1)
        replace hx103_0 := uC HB hx103_0
        replace hx103_1 := uC HB hx103_1
        have HR103_1 := aK hi103_1
        have HC103_1 := aK hl103_1
        clear hi103_1 hl103_1
        replace p103 := eq_true p103
        replace q103 := eq_true q103
        have p104 : 0 ≤ (0 : Int) := (by omega)
        have q104 : 0 < (l1_1.length : Int) := dA
        obtain ⟨ad104, A104_1, c104_1, e104, hx104_0, hx104_1, hl104_1, hi104_1⟩ := at_T55 HR1_1.out 0 p104 q104
        have hw104_1 := hx104_1
        (try rw [show ((0 : Int)).toNat = 0 from rfl] at hw104_1)
        (try rw [show 0 * 2 = 0 from rfl] at hw104_1)
        (try rw [Addr.add_zero'] at hw104_1)
        have hw104_0 := hx104_0
        (try rw [show ((0 : Int)).toNat = 0 from rfl] at hw104_0)
        (try rw [show 0 * 2 = 0 from rfl] at hw104_0)
        (try rw [Addr.add_zero'] at hw104_0)
        cases e104
        have qi104 : (0 < l1_1.length) = True := eq_true (by omega)
        (try rw [show ((0 : Int)).toNat = 0 from rfl] at hx104_0)
        (try rw [show 0 * 2 = 0 from rfl] at hx104_0)
        (try rw [Addr.add_zero'] at hx104_0)
        (try rw [show ((0 : Int)).toNat = 0 from rfl] at hx104_1)
        (try rw [show 0 * 2 = 0 from rfl] at hx104_1)
        (try rw [Addr.add_zero'] at hx104_1)
        replace hx104_0 := uC HB hx104_0
        replace hx104_1 := uC HB hx104_1
        have HR104_1 := aK hi104_1
        have HC104_1 := aK hl104_1
        clear hi104_1 hl104_1
        replace p104 := eq_true p104
        replace q104 := eq_true q104
        have p106 : 0 ≤ (1 : Int) := (by omega)
        have q106 : 1 < (l0_1.length : Int) := dA
        obtain ⟨ad106, A106_1, c106_1, e106, hx106_0, hx106_1, hl106_1, hi106_1⟩ := at_T55 HR0_1.out 1 p106 q106
        have hw106_1 := hx106_1
        (try rw [show ((1 : Int)).toNat = 1 from rfl] at hw106_1)
        (try rw [show 1 * 2 = 2 from rfl] at hw106_1)
        (try simp only [Nat.reduceMul, Nat.reduceEqDiff, Go.Addr.add, ↓reduceIte] at hw106_1)
        have hw106_0 := hx106_0
        (try rw [show ((1 : Int)).toNat = 1 from rfl] at hw106_0)
        (try rw [show 1 * 2 = 2 from rfl] at hw106_0)
        (try simp only [Nat.reduceMul, Nat.reduceEqDiff, Go.Addr.add, ↓reduceIte] at hw106_0)
        obtain rfl : ad103 = ad106 := (by injection e106)
        (try simp only [show (1 : Int).toNat = 1 from rfl, Nat.reduceMul, Nat.reduceEqDiff, Go.Addr.add, ↓reduceIte] at hx106_0)
        (try simp only [show (1 : Int).toNat = 1 from rfl, Nat.reduceMul, Nat.reduceEqDiff, Go.Addr.add, ↓reduceIte] at hx106_1)
        have qi106 : (1 < l0_1.length) = True := eq_true (by omega)
        (try rw [show ((1 : Int)).toNat = 1 from rfl] at hx106_0)
        (try rw [show 1 * 2 = 2 from rfl] at hx106_0)
        (try rw [show ((1 : Int)).toNat = 1 from rfl] at hx106_1)
        (try rw [show 1 * 2 = 2 from rfl] at hx106_1)
        replace hx106_0 := uC HB hx106_0
        replace hx106_1 := uC HB hx106_1
        have HR106_1 := aK hi106_1
        have HC106_1 := aK hl106_1
        clear hi106_1 hl106_1
        replace p106 := eq_true p106
        replace q106 := eq_true q106
        have p107 : 0 ≤ (1 : Int) := (by omega)
        have q107 : 1 < (l1_1.length : Int) := dA
        obtain ⟨ad107, A107_1, c107_1, e107, hx107_0, hx107_1, hl107_1, hi107_1⟩ := at_T55 HR1_1.out 1 p107 q107
        have hw107_1 := hx107_1
        (try rw [show ((1 : Int)).toNat = 1 from rfl] at hw107_1)
        (try rw [show 1 * 2 = 2 from rfl] at hw107_1)
        (try simp only [Nat.reduceMul, Nat.reduceEqDiff, Go.Addr.add, ↓reduceIte] at hw107_1)
        have hw107_0 := hx107_0
        (try rw [show ((1 : Int)).toNat = 1 from rfl] at hw107_0)
        (try rw [show 1 * 2 = 2 from rfl] at hw107_0)
        (try simp only [Nat.reduceMul, Nat.reduceEqDiff, Go.Addr.add, ↓reduceIte] at hw107_0)
        obtain rfl : ad104 = ad107 := (by injection e107)
        (try simp only [show (1 : Int).toNat = 1 from rfl, Nat.reduceMul, Nat.reduceEqDiff, Go.Addr.add, ↓reduceIte] at hx107_0)
        (try simp only [show (1 : Int).toNat = 1 from rfl, Nat.reduceMul, Nat.reduceEqDiff, Go.Addr.add, ↓reduceIte] at hx107_1)
        have qi107 : (1 < l1_1.length) = True := eq_true (by omega)
        (try rw [show ((1 : Int)).toNat = 1 from rfl] at hx107_0)
        (try rw [show 1 * 2 = 2 from rfl] at hx107_0)
        (try rw [show ((1 : Int)).toNat = 1 from rfl] at hx107_1)
        (try rw [show 1 * 2 = 2 from rfl] at hx107_1)
        replace hx107_0 := uC HB hx107_0
        replace hx107_1 := uC HB hx107_1
        have HR107_1 := aK hi107_1
        have HC107_1 := aK hl107_1
        clear hi107_1 hl107_1
        replace p107 := eq_true p107
        replace q107 := eq_true q107
        refine start_ (n := 21) (S := fun w' => w'.cell? ⟨gb101, 0, none⟩ = some (.int .i64 a0_0) ∧ w'.cell? ⟨gb101, 1, none⟩ = some (.slice (some ad103) l0_1.length c0_1) ∧ w'.cell? ⟨gb102, 0, none⟩ = some (.int .i64 a1_0) ∧ w'.cell? ⟨gb102, 1, none⟩ = some (.slice (some ad104) l1_1.length c1_1) ∧ w'.cell? ad103 = some (.int .i64 ((rd_T55 l0_1 0).f0)) ∧ w'.cell? ⟨ad103.block, ad103.off + 1, none⟩ = some (.slice A103_1 ((rd_T55 l0_1 0).f1).length c103_1) ∧ w'.cell? ad104 = some (.int .i64 ((rd_T55 l1_1 0).f0)) ∧ w'.cell? ⟨ad104.block, ad104.off + 1, none⟩ = some (.slice A104_1 ((rd_T55 l1_1 0).f1).length c104_1) ∧ w'.cell? ⟨ad103.block, ad103.off + 2, none⟩ = some (.int .i64 ((rd_T55 l0_1 1).f0)) ∧ w'.cell? ⟨ad103.block, ad103.off + 2 + 1, none⟩ = some (.slice A106_1 ((rd_T55 l0_1 1).f1).length c106_1) ∧ w'.cell? ⟨ad104.block, ad104.off + 2, none⟩ = some (.int .i64 ((rd_T55 l1_1 1).f0)) ∧ w'.cell? ⟨ad104.block, ad104.off + 2 + 1, none⟩ = some (.slice A107_1 ((rd_T55 l1_1 1).f1).length c107_1)) (ds := []) (bs 0 21) (by kernel_rfl) rfl rfl ⟨(blk_cell BK101.out 0).trans rfl, (blk_cell BK101.out 1).trans rfl, (blk_cell BK102.out 0).trans rfl, (blk_cell BK102.out 1).trans rfl, (uC HB hw103_0), (uC HB hw103_1), (uC HB hw104_0), (uC HB hw104_1), (uC HB hw106_0), (uC HB hw106_1), (uC HB hw107_0), (uC HB hw107_1)⟩ (fun hHeld => ?_); refine with_tabW spec_leSame.tab5 spec_leSame.bits5 (fun HT_ HW_ => ?_)
        generalize w18.drew = w22 at BK101 BK102 HB HR103_1 HR104_1 HR106_1 HR107_1 hx103_0 hx103_1 hx104_0 hx104_1 hx106_0 hx106_1 hx107_0 hx107_1 hHeld ⊢
        refine pQ 0 21 HT_ ?_
        refine pQ 4 25 HT_ ?_
        refine tQ 1 22 HT_ HW_ hHeld ?_
        refine pQ 2 23 HT_ ?_
        refine tQ 3 24 HT_ HW_ hHeld ?_
        refine tQ 5 26 HT_ HW_ hHeld ?_
        refine pQ 6 27 HT_ ?_
        refine tQ 7 28 HT_ HW_ hHeld ?_
        refine oQ 8 29 HT_ (fun K hK => ?_)
        refine goes_ Tryz.func45 (by kernel_rfl) rfl #[.agg #[.int .i64 ((rd_T55 l0_1 0).f0), .slice A103_1 ((rd_T55 l0_1 0).f1).length c103_1], .agg #[.int .i64 ((rd_T55 l1_1 0).f0), .slice A104_1 ((rd_T55 l1_1 0).f1).length c104_1]] (by rfl) rfl rfl tA ?_
        with_reducible refine (ih k (by omega) ((rd_T55 l0_1 0).f0) _ _ ((rd_T55 l0_1 0).f1) ((rd_T55 l1_1 0).f0) _ _ ((rd_T55 l1_1 0).f1) true _ ?side1 ?side2 ?side3 ?side4 A12.out).mono ?_
        (case side1 => exact sC (Kd.C_below HR103_1.out HB.out))
        (case side2 => exact HC103_1.out)
        (case side3 => exact sC (Kd.C_below HR104_1.out HB.out))
        (case side4 => exact HC104_1.out)
        rintro e w23 ⟨rfl, hb⟩
        refine ⟨_, rfl, ?_⟩
        have n_ := aJ (qb BK101 hb) (aJ (qb BK102 hb) (aK (below_step (pH HB) hb)))
        clear BK101 BK102 HB
        obtain ⟨BK101, BK102, HB⟩ := n_
        (try clear hb)
        (try clear hb2)
        (try clear hk)
        (try clear hi)
        refine hK.out _ _ ⟨(blk_cell BK101.out 0).trans rfl, (blk_cell BK101.out 1).trans rfl, (blk_cell BK102.out 0).trans rfl, (blk_cell BK102.out 1).trans rfl, (uC HB hw103_0), (uC HB hw103_1), (uC HB hw104_0), (uC HB hw104_1), (uC HB hw106_0), (uC HB hw106_1), (uC HB hw107_0), (uC HB hw107_1)⟩ (fun hHeld => ?_)
        clear hK K
        refine nQ 29 ?_
        refine pQ 9 30 HT_ ?_
        refine pQ 10 31 HT_ ?_
        refine pQ 14 35 HT_ ?_
        refine tQ 11 32 HT_ HW_ hHeld ?_
        refine pQ 12 33 HT_ ?_
        refine tQ 13 34 HT_ HW_ hHeld ?_
        refine tQ 15 36 HT_ HW_ hHeld ?_
        refine pQ 16 37 HT_ ?_
        refine tQ 17 38 HT_ HW_ hHeld ?_
        refine oQ 18 39 HT_ (fun K hK => ?_)
        refine goes_ Tryz.func45 (by kernel_rfl) rfl #[.agg #[.int .i64 ((rd_T55 l0_1 1).f0), .slice A106_1 ((rd_T55 l0_1 1).f1).length c106_1], .agg #[.int .i64 ((rd_T55 l1_1 1).f0), .slice A107_1 ((rd_T55 l1_1 1).f1).length c107_1]] (by rfl) rfl rfl tA ?_
        with_reducible refine (ih k (by omega) ((rd_T55 l0_1 1).f0) _ _ ((rd_T55 l0_1 1).f1) ((rd_T55 l1_1 1).f0) _ _ ((rd_T55 l1_1 1).f1) t108 _ ?side1 ?side2 ?side3 ?side4 A16.out).mono ?_
        (case side1 => exact sC (Kd.C_below HR106_1.out HB.out))
        (case side2 => exact HC106_1.out)
        (case side3 => exact sC (Kd.C_below HR107_1.out HB.out))
        (case side4 => exact HC107_1.out)
        rintro e w24 ⟨rfl, hb⟩
        refine ⟨_, rfl, ?_⟩
        have n_ := aJ (qb BK101 hb) (aJ (qb BK102 hb) (aK (below_step (pH HB) hb)))
        clear BK101 BK102 HB
        obtain ⟨BK101, BK102, HB⟩ := n_
        (try clear hb)
        (try clear hb2)
        (try clear hk)
        (try clear hi)
        refine hK.out _ _ ⟨(blk_cell BK101.out 0).trans rfl, (blk_cell BK101.out 1).trans rfl, (blk_cell BK102.out 0).trans rfl, (blk_cell BK102.out 1).trans rfl, (uC HB hw103_0), (uC HB hw103_1), (uC HB hw104_0), (uC HB hw104_1), (uC HB hw106_0), (uC HB hw106_1), (uC HB hw107_0), (uC HB hw107_1)⟩ (fun hHeld => ?_)
        clear hK K
        refine nQ 39 ?_
        refine pQ 19 40 HT_ ?_
        refine pQ 20 4 HT_ ?_
        refine done_ (done_of HT_.out (by kernel_rfl)) ?_
        try go_wp2
        go_ret
        exact ⟨eW, pH HB⟩
       ·rw [if_neg c15] at H
        exact absurd H (by simp)
      ·rw [if_neg c14] at H
       exact absurd H (by simp)
     ·replace c13 := Bool.eq_false_iff.mpr c13
      subst c13
      rw [if_neg (show ¬ (false = true) by decide)] at H
      obtain rfl := Option.some.inj H
      go_enter Tryz.func45, Tryz.ntmps45
      try go_wp2_with (first | ((with_reducible refine gate_dst (N := 2) rfl ?_); refine bE (N := 2) (cs := #[.int .i64 a0_0, .slice A0_1 l0_1.length c0_1]) (t := 55) ?_; intro gb101 hg w25 hbox hb; have GW101 := qw HB hg; have GE101 := qw HB hg; have BK101 := aK hbox; replace HB := qs HB hb; clear hb hbox hg) | ((with_reducible refine gate_dst (N := 3) rfl ?_); refine bE (N := 3) (cs := #[.int .i64 a1_0, .slice A1_1 l1_1.length c1_1]) (t := 55) ?_; intro gb102 hg w26 hbox hb; have GW102 := qw HB hg; have GE102 := qw HB hg; have NB101_102 := ql BK101 hg; have NB102_101 := qg BK101 hg; replace BK101 := qb BK101 hb; have BK102 := aK hbox; replace HB := qs HB hb; clear hb hbox hg; have hnb27 := NB101_102.out; have hnc27 := NB102_101.out; obtain ⟨hcz28_0, hcz28_1, hfz28_0, hfz28_1⟩ := cA2 BK101; obtain ⟨hcz29_0, hcz29_1, hfz29_0, hfz29_1⟩ := cA2 BK102))
      have n_ := aJ (aK (blk_drew BK101.out)) (aJ (aK (blk_drew BK102.out)) (aK (below_drew1 HB.out)))
      clear BK101 BK102 HB
      obtain ⟨BK101, BK102, HB⟩ := n_
      have p103 : 0 ≤ (0 : Int) := (by omega)
      have q103 : 0 < (l0_1.length : Int) := dA
      obtain ⟨ad103, A103_1, c103_1, e103, hx103_0, hx103_1, hl103_1, hi103_1⟩ := at_T55 HR0_1.out 0 p103 q103
      have hw103_1 := hx103_1
      (try rw [show ((0 : Int)).toNat = 0 from rfl] at hw103_1)
      (try rw [show 0 * 2 = 0 from rfl] at hw103_1)
      (try rw [Addr.add_zero'] at hw103_1)
      have hw103_0 := hx103_0
      (try rw [show ((0 : Int)).toNat = 0 from rfl] at hw103_0)
      (try rw [show 0 * 2 = 0 from rfl] at hw103_0)
      (try rw [Addr.add_zero'] at hw103_0)
      cases e103
      have qi103 : (0 < l0_1.length) = True := eq_true (by omega)
      (try rw [show ((0 : Int)).toNat = 0 from rfl] at hx103_0)
      (try rw [show 0 * 2 = 0 from rfl] at hx103_0)
      (try rw [Addr.add_zero'] at hx103_0)
      (try rw [show ((0 : Int)).toNat = 0 from rfl] at hx103_1)
      (try rw [show 0 * 2 = 0 from rfl] at hx103_1)
      (try rw [Addr.add_zero'] at hx103_1)
      replace hx103_0 := uC HB hx103_0
      replace hx103_1 := uC HB hx103_1
      have HR103_1 := aK hi103_1
      have HC103_1 := aK hl103_1
      clear hi103_1 hl103_1
      replace p103 := eq_true p103
      replace q103 := eq_true q103
      have p104 : 0 ≤ (0 : Int) := (by omega)
      have q104 : 0 < (l1_1.length : Int) := dA
      obtain ⟨ad104, A104_1, c104_1, e104, hx104_0, hx104_1, hl104_1, hi104_1⟩ := at_T55 HR1_1.out 0 p104 q104
      have hw104_1 := hx104_1
      (try rw [show ((0 : Int)).toNat = 0 from rfl] at hw104_1)
      (try rw [show 0 * 2 = 0 from rfl] at hw104_1)
      (try rw [Addr.add_zero'] at hw104_1)
      have hw104_0 := hx104_0
      (try rw [show ((0 : Int)).toNat = 0 from rfl] at hw104_0)
      (try rw [show 0 * 2 = 0 from rfl] at hw104_0)
      (try rw [Addr.add_zero'] at hw104_0)
      cases e104
      have qi104 : (0 < l1_1.length) = True := eq_true (by omega)
      (try rw [show ((0 : Int)).toNat = 0 from rfl] at hx104_0)
      (try rw [show 0 * 2 = 0 from rfl] at hx104_0)
      (try rw [Addr.add_zero'] at hx104_0)
      (try rw [show ((0 : Int)).toNat = 0 from rfl] at hx104_1)
      (try rw [show 0 * 2 = 0 from rfl] at hx104_1)
      (try rw [Addr.add_zero'] at hx104_1)
      replace hx104_0 := uC HB hx104_0
      replace hx104_1 := uC HB hx104_1
      have HR104_1 := aK hi104_1
      have HC104_1 := aK hl104_1
      clear hi104_1 hl104_1
      replace p104 := eq_true p104
      replace q104 := eq_true q104
      refine start_ (n := 21) (S := fun w' => w'.cell? ⟨gb101, 0, none⟩ = some (.int .i64 a0_0) ∧ w'.cell? ⟨gb101, 1, none⟩ = some (.slice (some ad103) l0_1.length c0_1) ∧ w'.cell? ⟨gb102, 0, none⟩ = some (.int .i64 a1_0) ∧ w'.cell? ⟨gb102, 1, none⟩ = some (.slice (some ad104) l1_1.length c1_1) ∧ w'.cell? ad103 = some (.int .i64 ((rd_T55 l0_1 0).f0)) ∧ w'.cell? ⟨ad103.block, ad103.off + 1, none⟩ = some (.slice A103_1 ((rd_T55 l0_1 0).f1).length c103_1) ∧ w'.cell? ad104 = some (.int .i64 ((rd_T55 l1_1 0).f0)) ∧ w'.cell? ⟨ad104.block, ad104.off + 1, none⟩ = some (.slice A104_1 ((rd_T55 l1_1 0).f1).length c104_1)) (ds := []) (bs 0 21) (by kernel_rfl) rfl rfl ⟨(blk_cell BK101.out 0).trans rfl, (blk_cell BK101.out 1).trans rfl, (blk_cell BK102.out 0).trans rfl, (blk_cell BK102.out 1).trans rfl, (uC HB hw103_0), (uC HB hw103_1), (uC HB hw104_0), (uC HB hw104_1)⟩ (fun hHeld => ?_); refine with_tabW spec_leSame.tab5 spec_leSame.bits5 (fun HT_ HW_ => ?_)
      generalize w26.drew = w30 at BK101 BK102 HB HR103_1 HR104_1 hx103_0 hx103_1 hx104_0 hx104_1 hHeld ⊢
      refine pQ 0 21 HT_ ?_
      refine pQ 4 25 HT_ ?_
      refine tQ 1 22 HT_ HW_ hHeld ?_
      refine pQ 2 23 HT_ ?_
      refine tQ 3 24 HT_ HW_ hHeld ?_
      refine tQ 5 26 HT_ HW_ hHeld ?_
      refine pQ 6 27 HT_ ?_
      refine tQ 7 28 HT_ HW_ hHeld ?_
      refine oQ 8 29 HT_ (fun K hK => ?_)
      refine goes_ Tryz.func45 (by kernel_rfl) rfl #[.agg #[.int .i64 ((rd_T55 l0_1 0).f0), .slice A103_1 ((rd_T55 l0_1 0).f1).length c103_1], .agg #[.int .i64 ((rd_T55 l1_1 0).f0), .slice A104_1 ((rd_T55 l1_1 0).f1).length c104_1]] (by rfl) rfl rfl tA ?_
      with_reducible refine (ih k (by omega) ((rd_T55 l0_1 0).f0) _ _ ((rd_T55 l0_1 0).f1) ((rd_T55 l1_1 0).f0) _ _ ((rd_T55 l1_1 0).f1) false _ ?side1 ?side2 ?side3 ?side4 A12.out).mono ?_
      (case side1 => exact sC (Kd.C_below HR103_1.out HB.out))
      (case side2 => exact HC103_1.out)
      (case side3 => exact sC (Kd.C_below HR104_1.out HB.out))
      (case side4 => exact HC104_1.out)
      rintro e w31 ⟨rfl, hb⟩
      refine ⟨_, rfl, ?_⟩
      have n_ := aJ (qb BK101 hb) (aJ (qb BK102 hb) (aK (below_step (pH HB) hb)))
      clear BK101 BK102 HB
      obtain ⟨BK101, BK102, HB⟩ := n_
      (try clear hb)
      (try clear hb2)
      (try clear hk)
      (try clear hi)
      refine hK.out _ _ ⟨(blk_cell BK101.out 0).trans rfl, (blk_cell BK101.out 1).trans rfl, (blk_cell BK102.out 0).trans rfl, (blk_cell BK102.out 1).trans rfl, (uC HB hw103_0), (uC HB hw103_1), (uC HB hw104_0), (uC HB hw104_1)⟩ (fun hHeld => ?_)
      clear hK K
      refine nQ 29 ?_
      refine pQ 9 30 HT_ ?_
      refine uQ 10 31 HT_ ?_
      refine uQ 11 32 HT_ ?_
      refine uQ 12 33 HT_ ?_
      refine uQ 13 34 HT_ ?_
      refine uQ 14 35 HT_ ?_
      refine uQ 15 36 HT_ ?_
      refine uQ 16 37 HT_ ?_
      refine uQ 17 38 HT_ ?_
      refine uQ 18 39 HT_ ?_
      refine pQ 19 40 HT_ ?_
      refine pQ 20 4 HT_ ?_
      refine done_ (done_of HT_.out (by kernel_rfl)) ?_
      try go_wp2
      go_ret
      exact ⟨eW, pH HB⟩
    ·rw [if_neg c11] at H
     exact absurd H (by simp)
   ·rw [if_neg c10] at H
    exact absurd H (by simp)
 ·rw [if_neg c3] at H
  have c3b0 : ((l0_1.length : Int) == (l1_1.length : Int)) = false := beq_eq_false_iff_ne.mpr c3
  have c3b1 : ((l0_1.length : Int) != (l1_1.length : Int)) = true := bne_iff_ne.mpr c3
  have c3b2 : (l0_1.length == l1_1.length) = false := by first | simpa using c3 | (simp at c3 ⊢; omega)
  obtain rfl := Option.some.inj H
  go_enter Tryz.func45, Tryz.ntmps45
  go_wp2_with (first | ((with_reducible refine gate_dst (N := 2) rfl ?_); refine bE (N := 2) (cs := #[.int .i64 a0_0, .slice A0_1 l0_1.length c0_1]) (t := 55) ?_; intro gb101 hg w32 hbox hb; have GW101 := qw HB hg; have GE101 := qw HB hg; have BK101 := aK hbox; replace HB := qs HB hb; clear hb hbox hg) | ((with_reducible refine gate_dst (N := 3) rfl ?_); refine bE (N := 3) (cs := #[.int .i64 a1_0, .slice A1_1 l1_1.length c1_1]) (t := 55) ?_; intro gb102 hg w33 hbox hb; have GW102 := qw HB hg; have GE102 := qw HB hg; have NB101_102 := ql BK101 hg; have NB102_101 := qg BK101 hg; replace BK101 := qb BK101 hb; have BK102 := aK hbox; replace HB := qs HB hb; clear hb hbox hg; have hnb34 := NB101_102.out; have hnc34 := NB102_101.out; obtain ⟨hcz35_0, hcz35_1, hfz35_0, hfz35_1⟩ := cA2 BK101; obtain ⟨hcz36_0, hcz36_1, hfz36_0, hfz36_1⟩ := cA2 BK102))
  go_ret
  exact ⟨eW, pH HB⟩


def spec_lcHas.l0 : Nat → Int → List Int → Int → Int → Option (Bool)
 | 0, _, _, _, _ => none
 | k + 1, x1, x7, x8, x9 => if x9 < x8 then (if 0 ≤ x9 then (if x9 < (x7.length : Int) then (if (rd x7 x9) = x1 then (some true) else (spec_lcHas.l0 k x1 x7 x8 (wrap64 (x9 + 1)))) else (none)) else (none)) else (some false)
def spec_lcHas.f (k : Nat) (l0 : List Int) (a1 : Int) : Option (Bool) := spec_lcHas.l0 k a1 l0 (l0.length : Int) 0
set_option maxHeartbeats 8000000 in
set_option maxRecDepth 100000 in
theorem spec_lcHas.calls (k : Nat) (A0 : Option Addr) (c0 : Nat) (l0 : List Int) (a1 : Int) (r : Bool) (w : World) (hr0 : Kd.C (Kd.int .i64) w A0 l0.length l0) (hc0 : l0.length ≤ c0) (h : spec_lcHas.f k l0 a1 = some r) :
  Calls Tryz.prog 46 #[.slice A0 l0.length c0, .int .i64 a1] w fun e w' => e = .returned (.bool r) ∧ Drawn0 w w' := by
 have HR0 := aK hr0
 have HC0 := aK hc0
 clear hr0 hc0
 have H : (spec_lcHas.l0 k a1 l0 (l0.length : Int) 0) = some r := h
 clear h
 have H' := aK H
 clear H
 go_enter Tryz.func46, Tryz.ntmps46
 go_wp2
 go_loopg [9] k (fun kq v9 w' => ∃ (x9_1 : Int), v9 = .int .i64 x9_1 ∧ Aside0 (spec_lcHas.l0 kq a1 l0 (l0.length : Int) x9_1 = some r) ∧ Aside0 (kq ≤ k) ∧ Drawn0 w w')
 case atStart => exact ⟨(0), rS, H', ⟨Nat.le_refl _⟩, by repeat (first | exact Drawn0.refl _ | apply Drawn0.step)⟩
 case round =>
  clear H'
  obtain ⟨x9_1, rfl, HA, HK1, ⟨m1, rfl⟩⟩ := hrel
  cases gk with
  | zero => exact absurd HA.out (by simp [spec_lcHas.l0])
  | succ k1 =>
   have H := HA.out
   clear HA
   simp only [spec_lcHas.l0] at H
   by_cases c3 : x9_1 < (l0.length : Int)
   ·rw [if_pos c3] at H
    have c3b0 : decide (x9_1 < (l0.length : Int)) = true := decide_eq_true c3
    clear c3
    by_cases c4 : 0 ≤ x9_1
    ·rw [if_pos c4] at H
     have c4b0 : decide (0 ≤ x9_1) = true := decide_eq_true c4
     clear c4
     by_cases c5 : x9_1 < (l0.length : Int)
     ·rw [if_pos c5] at H
      have c5b0 : decide (x9_1 < (l0.length : Int)) = true := decide_eq_true c5
      clear c5
      by_cases c6 : (rd l0 x9_1) = a1
      ·rw [if_pos c6] at H
       have c6b0 : ((rd l0 x9_1) == a1) = true := beq_iff_eq.mpr c6
       have c6b1 : ((rd l0 x9_1) != a1) = false := bne_eq_false_iff_eq.mpr c6
       clear c6
       obtain rfl := Option.some.inj H
       have p101 : 0 ≤ (x9_1 : Int) := dA
       have q101 : x9_1 < (l0.length : Int) := dA
       obtain ⟨ad101, e101, hx101_0⟩ := Kd.at_int HR0.out x9_1 p101 q101
       cases e101
       replace p101 := eq_true p101
       replace q101 := eq_true q101
       go_wp2
       go_ret
       exact ⟨by first | rfl | (simp; done) | (simp [*]; done), by repeat (first | exact Drawn0.refl _ | apply Drawn0.step)⟩
      ·rw [if_neg c6] at H
       have c6b0 : ((rd l0 x9_1) == a1) = false := beq_eq_false_iff_ne.mpr c6
       have c6b1 : ((rd l0 x9_1) != a1) = true := bne_iff_ne.mpr c6
       have H' := aK H
       clear H
       have p101 : 0 ≤ (x9_1 : Int) := dA
       have q101 : x9_1 < (l0.length : Int) := dA
       obtain ⟨ad101, e101, hx101_0⟩ := Kd.at_int HR0.out x9_1 p101 q101
       cases e101
       replace p101 := eq_true p101
       replace q101 := eq_true q101
       go_wp2
       go_roundg k1
       case measure => have := HK1.out; omega
       case rel => exact ⟨(wrap64 (x9_1 + 1)), rS, H', ⟨by have := HK1.out; omega⟩, by repeat (first | exact Drawn0.refl _ | apply Drawn0.step)⟩
     ·rw [if_neg c5] at H
      exact absurd H (by simp)
    ·rw [if_neg c4] at H
     exact absurd H (by simp)
   ·rw [if_neg c3] at H
    have c3b0 : decide (x9_1 < (l0.length : Int)) = false := decide_eq_false c3
    clear c3
    obtain rfl := Option.some.inj H
    go_wp2
    go_ret
    exact ⟨by first | rfl | (simp; done) | (simp [*]; done), by repeat (first | exact Drawn0.refl _ | apply Drawn0.step)⟩

end Go.Proofs.YteffjlhljeodpaaGreatDoor.G

namespace Go.Proofs.YteffjlhljeodpaaGreatDoor.G
open Go.RowKit Go.Proofs.YteffjlhljeodpaaGreatDoorW.PrintWords Go.Proofs.YteffjlhljeodpaaGreatDoorW.PrintLast Go.Proofs.YteffjlhljeodpaaGreatDoorW.PrintMore Go.Proofs.YteffjlhljeodpaaGreatDoor.Short
set_option linter.unusedVariables false
set_option linter.unusedSimpArgs false

def leVarsG : Nat → Int → List S55 → List Int → Option (List Int)
  | 0, _, _, _ => none
  | k + 1, a0, l0, l1 => if l0.length = 0 then ((spec_lcHas.f k l1 a0).bind fun b => if b = true then some l1 else if l1.length < 17592186044416 then some (l1 ++ [a0]) else none)
    else if 1 < l0.length then ((leVarsG k (rd_T55 l0 0).f0 (rd_T55 l0 0).f1 l1).bind fun y => leVarsG k (rd_T55 l0 1).f0 (rd_T55 l0 1).f1 y) else none
def spec_leVars.f (k : Nat) (a0_0 : Int) (l0_1 : List (S55)) (l1 : List Int) : Option (List Int) := if l1.length = 0 then leVarsG k a0_0 l0_1 [] else none
theorem cell_grown {W W1 : World} {p : Addr} {u : Value} {row : Option Nat} (h : W.grownBy W1 row) (hc : W.cell? p = some u) (hn : some p.block ≠ row) : W1.cell? p = some u := by
  have e := h.block p.block (World.block_lt_of_cell? _ _ hc) hn
  unfold World.cell? at hc ⊢
  rw [e]; exact hc
theorem own_lt {W : World} {base : Nat} {v : Value} {xs : List Int} (h : Kd.R (Kd.int .i64) 3 W base (fun _ => True) v xs) : ∀ b, v.ownBlock = some b → b < W.heap.size := by
  obtain ⟨_, inner, hown, _⟩ := h
  intro b hb
  rcases hown.2 with ⟨e, _⟩ | ⟨g, cap, cur, e, _, hh, _⟩
  · rw [e] at hb; cases hb
  · rw [e] at hb; injection hb with hb; subst hb; exact blk_lt hh
def LeftV (w w' : World) (v v' : Value) : Prop := w.grownBy w' v.ownBlock ∧ (v'.ownBlock = v.ownBlock ∨ ∃ b, v'.ownBlock = some b ∧ w.heap.size ≤ b)
theorem LeftV.trans {w w1 w2 w3 : World} {v v1 v2 : Value} (h0 : Below w.heap.size w w1) (h : LeftV w1 w2 v v1) (k : LeftV w2 w3 v1 v2) : LeftV w w3 v v2 := by
  have s0 := h0.size
  have g := World.grownBy.trans (grown_of_below h0 v.ownBlock) h.1
  refine ⟨g.andThen k.1 (fun j hj => ?_), ?_⟩
  · rcases h.2 with e | ⟨b, e, hb⟩
    · exact .inr (e.symm.trans hj)
    · rw [e] at hj; injection hj with hj; exact .inl (by omega)
  · have s1 := h.1.size
    rcases k.2 with e | ⟨b, e, hb⟩
    · rcases h.2 with e' | ⟨b, e', hb⟩
      · exact .inl (e.trans e')
      · exact .inr ⟨b, e.trans e', by omega⟩
    · exact .inr ⟨b, e, by omega⟩
theorem LeftV.below {w w1 : World} {v : Value} (h : Below w.heap.size w w1) : LeftV w w1 v v := ⟨grown_of_below h _, .inl rfl⟩
def leVars.T5 : Bool × List (List Nat × List Nat) := (true, [([], []), ([0], [0]), ([1], [1]), ([2], [2]), ([], []), ([4], [4]), ([5], [5]), ([6], [6]), ([], []), ([7, 8], [7, 8]), ([3, 9, 9], [3, 9]), ([10, 10, 0, 1, 2, 3, 4, 5, 6, 7, 8, 9, 10], [10])])
def leVars.B5 : List Nat := [0, 1, 3, 7, 0, 16, 48, 112, 0, 496, 1023, 2047]
theorem leVars.tab5 : rtab .any (opsOf Tryz.f47 5) = leVars.T5 := by kernel_rfl
theorem leVars.bits5 : waitsOk leVars.T5.2 leVars.B5 = true := by kernel_rfl
set_option maxHeartbeats 8000000 in
set_option maxRecDepth 100000 in
theorem leVars_own (w0 : World) : ∀ (k : Nat) (a0 : Int) (A0 : Option Addr) (c0 : Nat) (l0 : List S55) (v : Value) (l1 r : List Int) (w : World), Kd.C k55 w0 A0 l0.length l0 → l0.length ≤ c0 → Kd.R (Kd.int .i64) 3 w w0.heap.size (fun _ => True) v l1 → Below w0.heap.size w0 w → leVarsG k a0 l0 l1 = some r →
    Calls Tryz.prog 47 #[.agg #[.int .i64 a0, .slice A0 l0.length c0], v] w fun e w' => ∃ v', e = .returned v' ∧ Kd.R (Kd.int .i64) 3 w' w0.heap.size (fun _ => True) v' r ∧ Below w0.heap.size w0 w' ∧ LeftV w w' v v'
  | 0, a0, A0, c0, l0, v, l1, r, w, hC, hc, hR, hB, h => by simp [leVarsG] at h
  | k + 1, a0, A0, c0, l0, v, l1, r, w, hC, hc, hR, hB, h => by
    have hu55 := Tryz.underlying55
    have ih := leVars_own w0 k
    obtain ⟨Ao, co, rfl⟩ := Kd.R_slice hR
    have HO := aM hR
    have HB := aM hB
    have HC := aM hC
    have IH := aM ih
    rw [leVarsG] at h
    by_cases hl : l0.length = 0
    · rw [if_pos hl] at h
      obtain ⟨b, h1, h⟩ := Option.bind_eq_some_iff.mp h
      have H1 := aM h1
      have z0 : decide ((l0.length : Int) = 0) = true := decide_eq_true (by omega)
      have z1 : ((l0.length : Int) = 0) = True := eq_true (by omega)
      clear hC hR hB ih h1
      cases b with
      | true =>
        have h' := (if_pos rfl).symm.trans h
        obtain rfl := Option.some.inj h'
        clear h h'
        go_enter Tryz.func47, Tryz.ntmps47
        go_wp2_with (first
          | ((with_reducible refine gate_dst (N := 2) rfl ?_); refine box_event ?hg (N := 2) ?hd (cs := #[.int .i64 a0, .slice A0 l0.length c0]) (t := 55) ?hr ?_; (case hd => rfl); (case hg => rfl); (case hr => first | (go_simp; done) | (go_simp; rfl)); intro gb hg w1 hbox hb; have BW1 := aM hb; have HB1 := aM (below_step HB.out hb); have HO1 := aM (Kd.R_below HO.out hb); have cb0 : w1.cell? ⟨gb, 0, none⟩ = some (.int .i64 a0) := (blk_cell hbox 0).trans rfl; have cb1 : w1.cell? ⟨gb, 1, none⟩ = some (.slice A0 l0.length c0) := (blk_cell hbox 1).trans rfl; clear HB HO hg hbox hb)
          | (go_at_call 46; (with_reducible refine (spec_lcHas.calls k Ao co l1 a0 true _ ?s1 ?s2 H1.out).mono ?_); (case s1 => exact (Kd.R_reads' HO1.out).2.2); (case s2 => exact (Kd.R_reads' HO1.out).2.1); rintro _ w2 ⟨rfl, hb0⟩; have hb := hb0.below; clear hb0; have BW2 := aM (below_step BW1.out hb); have HB2 := aM (below_step HB1.out hb); have HO2 := aM (Kd.R_below HO1.out hb); clear hb))
        go_ret
        exact ⟨_, rfl, HO2.out, HB2.out, LeftV.below BW2.out⟩
      | false =>
        have h' := (if_neg (by simp)).symm.trans h
        by_cases hlt : l1.length < 17592186044416
        case neg => rw [if_neg hlt] at h'; cases h'
        rw [if_pos hlt] at h'
        obtain rfl := Option.some.inj h'
        have LT := aM hlt
        clear h h' hlt
        go_enter Tryz.func47, Tryz.ntmps47
        go_wp2_with (first
          | ((with_reducible refine gate_dst (N := 2) rfl ?_); refine box_event ?hg (N := 2) ?hd (cs := #[.int .i64 a0, .slice A0 l0.length c0]) (t := 55) ?hr ?_; (case hd => rfl); (case hg => rfl); (case hr => first | (go_simp; done) | (go_simp; rfl)); intro gb hg w1 hbox hb; have BW1 := aM hb; have HB1 := aM (below_step HB.out hb); have HO1 := aM (Kd.R_below HO.out hb); have BK1 := aM hbox; have cb0 : w1.cell? ⟨gb, 0, none⟩ = some (.int .i64 a0) := (blk_cell hbox 0).trans rfl; have cb1 : w1.cell? ⟨gb, 1, none⟩ = some (.slice A0 l0.length c0) := (blk_cell hbox 1).trans rfl; clear HB HO hg hbox hb)
          | (go_at_call 46; (with_reducible refine (spec_lcHas.calls k Ao co l1 a0 false _ ?s1 ?s2 H1.out).mono ?_); (case s1 => exact (Kd.R_reads' HO1.out).2.2); (case s2 => exact (Kd.R_reads' HO1.out).2.1); rintro _ w2 ⟨rfl, hb0⟩; have hb := hb0.below; clear hb0; have BW2 := aM (below_step BW1.out hb); have HB2 := aM (below_step HB1.out hb); have HO2 := aM (Kd.R_below HO1.out hb); have cb2 : w2.cell? ⟨gb, 0, none⟩ = some (.int .i64 a0) := (blk_cell (blk_below BK1.out hb) 0).trans rfl; clear hb)
          | ((with_reducible refine gate_builtin (b := .append) (xs := #[.tmp 14, .tmp 17]) rfl ?_); at_builtin; refine Kd.R_append (Kd.int .i64) (w0 := w0) w0.heap.size rfl (.tmp 14) (.tmp 17) 58 3 (.int .i64 0) 8 rfl Tryz.underlying58 info3 rfl (by decide) (by omega) (.slice Ao l1.length co) l1 a0 [.int .i64 a0] (fun _ => True) (fun _ => False) rfl (by first | (go_simp; done) | (go_simp; rfl)) ?aP (fun _ hk => hk.elim) ?aF ?aO ?aB ?aS ?aL ?_; (case aP => exact rfl); (case aF => exact (fun _ _ => trivial)); (case aO => exact HO2.out); (case aB => exact HB2.out); (case aS => exact HB2.out.size); (case aL => have := LT.out; omega); intro v6 w6 ho hb hg hat; have HO6 := aM ho; have HB6 := aM hb; have LV : Aside0 (LeftV w w6 (.slice Ao l1.length co) v6) := ⟨⟨World.grownBy.trans (grown_of_below BW2.out _) hg, hat.imp id (fun ⟨b, e, hb⟩ => ⟨b, e, Nat.le_trans BW2.out.size hb⟩)⟩⟩; clear ho hb hg hat HO2 HB2))
        go_ret
        exact ⟨_, rfl, HO6.out, HB6.out, LV.out⟩
    · rw [if_neg hl] at h
      by_cases hl2 : 1 < l0.length
      case neg => rw [if_neg hl2] at h; cases h
      rw [if_pos hl2] at h
      obtain ⟨y, h1, h2⟩ := Option.bind_eq_some_iff.mp h
      have H1 := aM h1
      have H2 := aM h2
      have z0 : decide ((l0.length : Int) = 0) = false := decide_eq_false (by omega)
      have z1 : ((l0.length : Int) = 0) = False := eq_false (by omega)
      have z2 : ((l0.length : Int) == 0) = false := by rw [beq_eq_false_iff_ne]; omega
      have q2 : (0 < l0.length) = True := eq_true (by omega)
      have q3 : (1 < l0.length) = True := eq_true (by omega)
      have q0 : ((0 : Int) < (l0.length : Int)) = True := eq_true (by omega)
      have q1 : ((1 : Int) < (l0.length : Int)) = True := eq_true (by omega)
      obtain ⟨ad, A1, c1, e1, x0, x1, lx, kx⟩ := at_T55 hC 0 (by omega) (by omega)
      cases e1
      obtain ⟨ad2, A2, c2, e2, y0, y1, ly, ky⟩ := at_T55 hC 1 (by omega) (by omega)
      cases e2
      have KX := aM kx
      have KY := aM ky
      have LX := aM lx
      have LY := aM ly
      have X0 := aM x0
      have X1 := aM x1
      have Y0 := aM y0
      have Y1 := aM y1
      clear hC hR hB ih h1 h2 h hl hl2 x0 x1 y0 y1 kx ky lx ly
      go_enter Tryz.func47, Tryz.ntmps47
      go_upto_region 5 with (first
        | ((with_reducible refine gate_dst (N := 2) rfl ?_); refine box_event ?hg (N := 2) ?hd (cs := #[.int .i64 a0, .slice (some ad) l0.length c0]) (t := 55) ?hr ?_; (case hd => rfl); (case hg => rfl); (case hr => first | (go_simp; done) | (go_simp; rfl)); intro gb hg w1 hbox hb; have BW1 := aM hb; have HB1 := aM (below_step HB.out hb); have HO1 := aM (Kd.R_below HO.out hb); have cb1 : w1.cell? ⟨gb, 1, none⟩ = some (.slice (some ad) l0.length c0) := (blk_cell hbox 1).trans rfl; have GB : Aside0 (w.heap.size ≤ gb) := ⟨by rw [hg]; exact Nat.le_refl _⟩; clear HB hg hbox hb))
      have up : ∀ {p : Addr} {u : Value}, w0.cell? p = some u → w1.cell? p = some u := fun hc => (HB1.out.cell (World.block_lt_of_cell? _ _ hc)).trans hc
      have S0 := up X0.out
      have S1 := up X1.out
      have S2 := up Y0.out
      have S3 := up Y1.out
      clear up
      have X2 := aM (show True from trivial)
      refine start_ (n := 12) (S := fun w' => (w'.cell? ⟨gb, 1, none⟩ = some (.slice (some ad) l0.length c0)) ∧ (w'.cell? ad = some (.int .i64 (rd_T55 l0 0).f0) ∧ w'.cell? ⟨ad.block, ad.off + 1, none⟩ = some (.slice A1 (rd_T55 l0 0).f1.length c1)) ∧ (w'.cell? ⟨ad.block, ad.off + 2, none⟩ = some (.int .i64 (rd_T55 l0 1).f0) ∧ w'.cell? ⟨ad.block, ad.off + 2 + 1, none⟩ = some (.slice A2 (rd_T55 l0 1).f1.length c2))) (ds := []) #[false, false, false, false, false, false, false, false, false, false, false, false] (by kernel_rfl) rfl rfl ⟨cb1, ⟨S0, S1⟩, ⟨S2, S3⟩⟩ (fun hHeld => ?_); refine with_tabW leVars.tab5 leVars.bits5 (fun HT_ HW_ => ?_)
      have BWd := aM (below_drew1 BW1.out)
      have NG : Aside0 (some gb ≠ (Value.slice Ao l1.length co).ownBlock) := ⟨fun e => by have := own_lt HO.out gb e.symm; have := GB.out; omega⟩
      have HBd := aM (below_drew1 HB1.out)
      have HOd := aM (Kd.R_drew HO1.out)
      clear HB1 HO1 BW1 HO cb1 S0 S1 S2 S3
      generalize World.drew _ = wj at HBd HOd BWd hHeld ⊢
      refine pQ 0 20 HT_ ?_
      refine pQ 4 24 HT_ ?_
      refine pQ 8 28 HT_ ?_
      refine tQ 1 21 HT_ HW_ hHeld ?_
      refine tQ 5 25 HT_ HW_ hHeld ?_
      refine pQ 2 22 HT_ ?_
      refine pQ 6 26 HT_ ?_
      refine tQ 3 23 HT_ HW_ hHeld ?_
      refine tQ 7 27 HT_ HW_ hHeld ?_
      refine oQ 9 29 HT_ (fun K hK => ?_)
      refine goes_ Tryz.func47 (by kernel_rfl) rfl #[.agg #[.int .i64 (rd_T55 l0 0).f0, .slice A1 (rd_T55 l0 0).f1.length c1], .slice Ao l1.length co] (by rfl) rfl rfl tA ?_
      refine (IH.out _ A1 c1 _ _ l1 y _ KX.out LX.out HOd.out HBd.out H1.out).mono ?_
      rintro _ wk ⟨v1, rfl, hR1, hb1, hL1⟩
      refine ⟨_, rfl, ?_⟩
      have HOk := aM hR1
      have HBk := aM hb1
      have LK := aM hL1
      have up : ∀ {p : Addr} {u : Value}, w0.cell? p = some u → wk.cell? p = some u := fun hc => (hb1.cell (World.block_lt_of_cell? _ _ hc)).trans hc
      refine hK.out _ _ ⟨cell_grown hL1.1 hHeld.1 NG.out, ⟨up X0.out, up X1.out⟩, ⟨up Y0.out, up Y1.out⟩⟩ (fun hHeld2 => ?_)
      clear hR1 hb1 hL1 HOd HBd up
      clear hK K
      refine nQ 29 ?_
      refine oQ 10 30 HT_ (fun K hK => ?_)
      refine goes_ Tryz.func47 (by kernel_rfl) rfl #[.agg #[.int .i64 (rd_T55 l0 1).f0, .slice A2 (rd_T55 l0 1).f1.length c2], v1] (by rfl) rfl rfl tA ?_
      refine (IH.out _ A2 c2 _ _ y r _ KY.out LY.out HOk.out HBk.out H2.out).mono ?_
      rintro _ wl ⟨v2, rfl, hR2, hb2, hL2⟩
      refine ⟨_, rfl, ?_⟩
      have HOl := aM hR2
      have HBl := aM hb2
      have NG2 : some gb ≠ v1.ownBlock := fun e => by
        rcases LK.out.2 with e' | ⟨b, e', hb⟩
        · exact NG.out (e.trans e')
        · rw [e'] at e; injection e with e
          have := World.block_lt_of_cell? _ _ hHeld.1
          have h3 : gb < wj.heap.size := this
          omega
      have up : ∀ {p : Addr} {u : Value}, w0.cell? p = some u → wl.cell? p = some u := fun hc => (hb2.cell (World.block_lt_of_cell? _ _ hc)).trans hc
      have LL := aM (LeftV.trans BWd.out LK.out hL2)
      refine hK.out _ _ ⟨cell_grown hL2.1 hHeld2.1 NG2, ⟨up X0.out, up X1.out⟩, ⟨up Y0.out, up Y1.out⟩⟩ (fun hHeld3 => ?_)
      clear hR2 hb2 hL2 HOk HBk up NG2
      clear hK K
      refine nQ 30 ?_
      refine pQ 11 4 HT_ ?_
      refine done_ (done_of HT_.out (by kernel_rfl)) ?_
      go_wp2
      go_ret
      exact ⟨_, rfl, HOl.out, HBl.out, LL.out⟩
theorem spec_leVars.calls (k : Nat) (a0_0 : Int) (A0_1 : Option Addr) (c0_1 : Nat) (l0_1 : List (S55)) (A1 : Option Addr) (c1 : Nat) (l1 : List Int) (r : List Int) (w : World) (hr0_1 : Kd.C k55 w A0_1 l0_1.length l0_1) (hc0_1 : l0_1.length ≤ c0_1) (hr1 : A1 = none) (hc1 : c1 ≤ l1.length) (h : spec_leVars.f k a0_0 l0_1 l1 = some r) :
    Calls Tryz.prog 47 #[.agg #[.int .i64 a0_0, .slice A0_1 l0_1.length c0_1], .slice A1 l1.length c1] w fun e w' => ∃ v0_ : Value, e = .returned (v0_) ∧ Kd.R (Kd.int .i64) 3 w' w.heap.size (fun _ => True) v0_ r ∧ Below w.heap.size w w' := by
  unfold spec_leVars.f at h
  by_cases hl : l1.length = 0
  case neg => rw [if_neg hl] at h; cases h
  rw [if_pos hl] at h
  subst hr1
  obtain rfl : c1 = 0 := by omega
  rw [hl]
  refine (leVars_own w k a0_0 A0_1 c0_1 l0_1 (.slice none 0 0) [] r w hr0_1 hc0_1 (Kd.R_nil _ _ _ _ _) (Below.refl _ _) h).mono ?_
  rintro e w' ⟨v, h1, h2, h3, _⟩
  exact ⟨v, h1, h2, h3⟩
end Go.Proofs.YteffjlhljeodpaaGreatDoor.G

namespace Go.Proofs.YteffjlhljeodpaaGreatDoor.G
open Go.RowKit Go.Proofs.YteffjlhljeodpaaGreatDoorW.PrintWords Go.Proofs.YteffjlhljeodpaaGreatDoorW.PrintLast Go.Proofs.YteffjlhljeodpaaGreatDoorW.PrintMore
attribute [local go_sem] max2_int min2_int max_two min_two max_three min_three max_four min_four   -- for this text's walks alone
set_option linter.unusedVariables false
set_option linter.unusedSimpArgs false

open Go.Proofs.YteffjlhljeodpaaGreatDoor.Short
def spec_lePut.l0 : Nat → Int → Bool → List Int → Int → Int → List Int → List (S55) → Int → List (S55) → List Int → List (S55) → List Int → List (S55) → Option (List Int × (List (S55)))
 | 0, _, _, _, _, _, _, _, _, _, _, _, _, _ => none
 | k + 1, x1, x9, x19, x20, x21, x102000, x102001, x103000, x103001, x111000, x111001, x112000, x112001 => if x21 < x20 then (if 0 ≤ x21 then (if x21 < (x19.length : Int) then (if x9 = true then (if x112000.length < 17592186044416 then (if x21 < (x102001.length : Int) then ((spec_leApply.f k x111000 x111001 ((rd_T55 x102001 x21).f0) ((rd_T55 x102001 x21).f1)).bind fun bt117 => (if x112001.length < 4398046511104 then (spec_lePut.l0 k x1 x9 x19 x20 (wrap64 (x21 + 1)) x102000 x102001 x103000 x103001 x111000 x111001 (x112000 ++ [rd x19 x21]) (x112001 ++ [(⟨bt117.1, bt117.2⟩ : S55)])) else (none))) else (none)) else (none)) else (if x1 < (rd x19 x21) then (if x112000.length < 17592186044416 then ((some (x112000 ++ [x1] : List Int)).bind fun y124 => (if x112001.length < 4398046511104 then ((some (x112001 ++ [(⟨x103000, x103001⟩ : S55)] : List (S55))).bind fun y127 => (if y124.length < 17592186044416 then (if x21 < (x102001.length : Int) then ((spec_leApply.f k x111000 x111001 ((rd_T55 x102001 x21).f0) ((rd_T55 x102001 x21).f1)).bind fun bt134 => (if y127.length < 4398046511104 then (spec_lePut.l0 k x1 true x19 x20 (wrap64 (x21 + 1)) x102000 x102001 x103000 x103001 x111000 x111001 (y124 ++ [rd x19 x21]) (y127 ++ [(⟨bt134.1, bt134.2⟩ : S55)])) else (none))) else (none)) else (none))) else (none))) else (none)) else (if x112000.length < 17592186044416 then (if x21 < (x102001.length : Int) then ((spec_leApply.f k x111000 x111001 ((rd_T55 x102001 x21).f0) ((rd_T55 x102001 x21).f1)).bind fun bt145 => (if x112001.length < 4398046511104 then (spec_lePut.l0 k x1 x9 x19 x20 (wrap64 (x21 + 1)) x102000 x102001 x103000 x103001 x111000 x111001 (x112000 ++ [rd x19 x21]) (x112001 ++ [(⟨bt145.1, bt145.2⟩ : S55)])) else (none))) else (none)) else (none)))) else (none)) else (none)) else (if x9 = true then (some (x112000, x112001)) else (if x112000.length < 17592186044416 then (if x112001.length < 4398046511104 then (some ((x112000 ++ [x1]), (x112001 ++ [(⟨x103000, x103001⟩ : S55)]))) else (none)) else (none)))
def spec_lePut.f (k : Nat) (l0_0 : List Int) (l0_1 : List (S55)) (a1 : Int) (a2_0 : Int) (l2_1 : List (S55)) : Option (List Int × (List (S55))) := spec_lePut.l0 k a1 false l0_0 (l0_0.length : Int) 0 l0_0 l0_1 a2_0 l2_1 (([a1] : List Int)) (([(⟨a2_0, l2_1⟩ : S55)] : List (S55))) ([] : List Int) ([] : List (S55))
def spec_lePut.T12 : Bool × List (List Nat × List Nat) := (true, [([], []), ([0], [0]), ([], []), ([], []), ([3], [3]), ([], []), ([4, 5], [4, 5]), ([6], [6]), ([2, 7], [2, 7]), ([8], [8]), ([1, 9, 8], [1, 9]), ([0, 1, 2, 3, 4, 5, 6, 7, 8, 9, 10], []), ([11, 10, 10, 0, 1, 2, 3, 4, 5, 6, 7, 8, 9, 10], [10, 11])])
def spec_lePut.B12 : List Nat := [0, 1, 0, 0, 8, 0, 56, 120, 252, 508, 1023, 2047, 4095]
theorem spec_lePut.tab12 : rtab .any (opsOf Tryz.f48 12) = spec_lePut.T12 := by kernel_rfl
theorem spec_lePut.bits12 : waitsOk spec_lePut.T12.2 spec_lePut.B12 = true := by kernel_rfl
set_option maxHeartbeats 8000000 in
set_option maxRecDepth 100000 in
theorem spec_lePut.calls (k : Nat) (A0_0 : Option Addr) (c0_0 : Nat) (l0_0 : List Int) (P0_1_ : Nat → Prop) (A0_1 : Option Addr) (c0_1 : Nat) (l0_1 : List (S55)) (a1 : Int) (a2_0 : Int) (P2_1_ : Nat → Prop) (A2_1 : Option Addr) (c2_1 : Nat) (l2_1 : List (S55)) (r1 : List Int) (r2 : List (S55)) (w : World) (hr0_0 : Kd.C (Kd.int .i64) w A0_0 l0_0.length l0_0) (hc0_0 : l0_0.length ≤ c0_0) (hs0_1 : Kd.V k55 55 w w.heap.size (fun k_ => P0_1_ k_) (.slice A0_1 l0_1.length c0_1) l0_1) (hs2_1 : Kd.V k55 55 w w.heap.size (fun k_ => P2_1_ k_) (.slice A2_1 l2_1.length c2_1) l2_1) (h : spec_lePut.f k l0_0 l0_1 a1 a2_0 l2_1 = some (r1, r2)) :
  Calls Tryz.prog 48 #[.agg #[.slice A0_0 l0_0.length c0_0, .slice A0_1 l0_1.length c0_1], .int .i64 a1, .agg #[.int .i64 a2_0, .slice A2_1 l2_1.length c2_1]] w fun e w' => ∃ v0_ v1_ : Value, e = .returned (.agg #[v0_, v1_]) ∧ Kd.R (Kd.int .i64) 3 w' w.heap.size (fun k_ => (w.heap.size ≤ k_)) v0_ r1 ∧ Kd.N k55 55 w' w.heap.size (fun k_ => ((P0_1_ k_ ∨ P2_1_ k_) ∨ w.heap.size ≤ k_) ∧ some k_ ≠ (v0_ : Value).ownBlock) v1_ r2 ∧ Below w.heap.size w w' := by
 have hu60 := Tryz.underlying60
 have hu55 := Tryz.underlying55
 have HR0_0 := aM hr0_0
 have HC0_0 := aM hc0_0
 clear hr0_0 hc0_0
 have HO0_1 := aM (show Kd.V k55 55 w w.heap.size (fun k_ => ((P0_1_ k_ ∨ P2_1_ k_) ∨ w.heap.size ≤ k_)) (.slice A0_1 l0_1.length c0_1) l0_1 from Kd.V_mono hs0_1 (fun k_ hk => .inl (.inl hk)))
 have HO2_1 := aM (show Kd.V k55 55 w w.heap.size (fun k_ => ((P0_1_ k_ ∨ P2_1_ k_) ∨ w.heap.size ≤ k_)) (.slice A2_1 l2_1.length c2_1) l2_1 from Kd.V_mono hs2_1 (fun k_ hk => .inl (.inr hk)))
 have HB := aM (Below.refl w.heap.size w)
 have H : (spec_lePut.l0 k a1 false l0_0 (l0_0.length : Int) 0 l0_0 l0_1 a2_0 l2_1 (([a1] : List Int)) (([(⟨a2_0, l2_1⟩ : S55)] : List (S55))) ([] : List Int) ([] : List (S55))) = some (r1, r2) := h
 clear h
 obtain ⟨y104, hy104⟩ : ∃ y_ : List Int, y_ = (([a1] : List Int)) := ⟨_, rfl⟩
 replace H : (spec_lePut.l0 k a1 false l0_0 (l0_0.length : Int) 0 l0_0 l0_1 a2_0 l2_1 y104 (([(⟨a2_0, l2_1⟩ : S55)] : List (S55))) ([] : List Int) ([] : List (S55))) = some (r1, r2) := by first | (rw [hy104]; with_reducible exact H) | (have H2_ := (Option.bind_some _ _).symm.trans H; rw [hy104]; with_reducible exact H2_) | (have H2_ := (Option.bind_some _ _).symm.trans H; with_reducible exact H2_) | with_reducible exact H | (rw [hy104]; exact H) | exact H
 have Ny104 := aM hy104
 clear hy104
 obtain ⟨y107, hy107⟩ : ∃ y_ : List (S55), y_ = (([(⟨a2_0, l2_1⟩ : S55)] : List (S55))) := ⟨_, rfl⟩
 replace H : (spec_lePut.l0 k a1 false l0_0 (l0_0.length : Int) 0 l0_0 l0_1 a2_0 l2_1 y104 y107 ([] : List Int) ([] : List (S55))) = some (r1, r2) := by first | (rw [hy107]; with_reducible exact H) | (have H2_ := (Option.bind_some _ _).symm.trans H; rw [hy107]; with_reducible exact H2_) | (have H2_ := (Option.bind_some _ _).symm.trans H; with_reducible exact H2_) | with_reducible exact H | (rw [hy107]; exact H) | exact H
 have Ny107 := aM hy107
 clear hy107
 have H' := aM H
 clear H
 go_enter Tryz.func48, Tryz.ntmps48
 go_wp2_with (first | ((with_reducible refine gate_dst (N := 3) rfl ?_); refine bE (N := 3) (cs := #[.slice A0_0 l0_0.length c0_0, .slice A0_1 l0_1.length c0_1]) (t := 60) ?_; intro gb101 hg w4 hbox hb; have GW101 := qw HB hg; have GE101 := qw HB hg; replace HO0_1 := qv HO0_1 hg hb; replace HO2_1 := qv HO2_1 hg hb; have BK101 := aK hbox; replace HB := qs HB hb; clear hb hbox hg) | ((with_reducible refine gate_dst (N := 5) rfl ?_); refine bE (N := 5) (cs := #[.int .i64 a2_0, .slice A2_1 l2_1.length c2_1]) (t := 55) ?_; intro gb102 hg w5 hbox hb; have GW102 := qw HB hg; have GE102 := qw HB hg; have NB101_102 := ql BK101 hg; have NB102_101 := qg BK101 hg; replace HO0_1 := qv HO0_1 hg hb; replace HO2_1 := qv HO2_1 hg hb; replace BK101 := qb BK101 hb; have BK102 := aK hbox; replace HB := qs HB hb; clear hb hbox hg) | ((with_reducible refine gate_dst (N := 6) rfl ?_); refine bE (N := 6) (cs := #[.slice none 0 0, .slice none 0 0]) (t := 60) ?_; intro gb103 hg w6 hbox hb; have GW103 := qw HB hg; have GE103 := qw HB hg; have NB101_103 := ql BK101 hg; have NB103_101 := qg BK101 hg; have NB102_103 := ql BK102 hg; have NB103_102 := qg BK102 hg; replace HO0_1 := qv HO0_1 hg hb; replace HO2_1 := qv HO2_1 hg hb; replace BK101 := qb BK101 hb; replace BK102 := qb BK102 hb; have BK103 := aK hbox; replace HB := qs HB hb; clear hb hbox hg) | ((with_reducible refine gate_dst (N := 13) rfl ?_); refine Kd.R_lit (Kd.int .i64) _ 3 ?hg (N := 13) ?hd (xs := ([a1] : List Int)) (inner := [.int .i64 a1]) (ok := fun _ => True) (okp := fun _ => True) ?hr ?hp (fun _ hk => hk) trivial (Below.refl _ _) (Nat.le_refl _) (by simp) ?_; (case hd => rfl); (case hg => rfl); (case hr => go_simp); (case hp => exact (Reps.one (show Kd.M (Kd.int .i64) _ _ _ a1 [.int .i64 a1] from rfl) (Reps.none _ _))); intro v105 w7 ho8 hb hg_ hnew_; clear hg_ hnew_; (first | rw [← Ny104.out] at ho8 | (simp only [Int.reduceToNat] at ho8; rw [← Ny104.out] at ho8)); have HO106 := aK (Kd.R_lower (Kd.R_newM (M := fun k_ => (w.heap.size ≤ k_)) ho8 (below_size HB.out) (fun k_ h_ => h_)) (below_size HB.out)); replace HO0_1 := qe HO0_1 (Kd.R_base ho8) hb; replace HO2_1 := qe HO2_1 (Kd.R_base ho8) hb; replace BK101 := qb BK101 hb; replace BK102 := qb BK102 hb; replace BK103 := qb BK103 hb; replace HB := qs HB hb; clear hb ho8; have hnb9 := NB102_101.out; have hnc9 := NB101_102.out; have hnb10 := NB102_103.out; have hnc10 := NB103_102.out; obtain ⟨hcz11_0, hcz11_1, hfz11_0, hfz11_1⟩ := cA2 BK102) | ((with_reducible refine gate_dst (N := 15) rfl ?_); refine Kd.N_lit k55 _ 55 ?hg (N' := 15) ?hd (xs := ([(⟨a2_0, l2_1⟩ : S55)] : List (S55))) (inner := [.int .i64 a2_0, .slice A2_1 l2_1.length c2_1]) (ok := (fun k_ => ((P0_1_ k_ ∨ P2_1_ k_) ∨ w.heap.size ≤ k_) ∧ some k_ ≠ (v105 : Value).ownBlock ∧ k_ ≠ gb101 ∧ k_ ≠ gb102 ∧ k_ ≠ gb103)) (okp := (fun k_ => ((P0_1_ k_ ∨ P2_1_ k_) ∨ w.heap.size ≤ k_) ∧ some k_ ≠ (v105 : Value).ownBlock ∧ k_ ≠ gb101 ∧ k_ ≠ gb102 ∧ k_ ≠ gb103)) ?hr ?hp (fun _ hk => hk) ((show ∀ k_, w7.heap.size ≤ k_ → (fun k_ => ((P0_1_ k_ ∨ P2_1_ k_) ∨ w.heap.size ≤ k_) ∧ some k_ ≠ (v105 : Value).ownBlock ∧ k_ ≠ gb101 ∧ k_ ≠ gb102 ∧ k_ ≠ gb103) k_ from fun k_ hk => ⟨(.inr (Nat.le_trans (below_size (pH HB)) hk)), Kd.fresh' (Kd.R_lt HO106.out) k_ hk, Kd.freshB BK101.out k_ hk, Kd.freshB BK102.out k_ hk, Kd.freshB BK103.out k_ hk⟩) _ (Nat.le_refl _)) (Below.refl _ _) (Nat.le_refl _) (by simp) ?_; (case hd => rfl); (case hg => rfl); (case hr => go_simp); (case hp => exact (Reps.c2 (show Kd.FK k55 _ _ (⟨a2_0, l2_1⟩ : S55) [.int .i64 a2_0, .slice A2_1 l2_1.length c2_1] from (k55_mkF _ _ (⟨a2_0, l2_1⟩ : S55) (Kd.V_reads' (Kd.V_mono (ok' := (fun k_ => ((P0_1_ k_ ∨ P2_1_ k_) ∨ w.heap.size ≤ k_) ∧ some k_ ≠ (v105 : Value).ownBlock ∧ k_ ≠ gb101 ∧ k_ ≠ gb102 ∧ k_ ≠ gb103)) (HO2_1.out) (fun k_ hk => ⟨hk.1.1.1.1, ⟨hk.2, ⟨hk.1.1.1.2, ⟨hk.1.1.2, hk.1.2⟩⟩⟩⟩))).2.1 (Kd.V_F (Kd.V_mono (ok' := (fun k_ => ((P0_1_ k_ ∨ P2_1_ k_) ∨ w.heap.size ≤ k_) ∧ some k_ ≠ (v105 : Value).ownBlock ∧ k_ ≠ gb101 ∧ k_ ≠ gb102 ∧ k_ ≠ gb103)) (HO2_1.out) (fun k_ hk => ⟨hk.1.1.1.1, ⟨hk.2, ⟨hk.1.1.1.2, ⟨hk.1.1.2, hk.1.2⟩⟩⟩⟩))))) (Reps.none _ _))); intro v108 w12 ho13 hb hg_ hnew_; clear hg_ hnew_; (first | rw [← Ny107.out] at ho13 | (simp only [Int.reduceToNat] at ho13; rw [← Ny107.out] at ho13)); have n2_ := aK (Kd.R_below HO106.out hb); have HO109 := aK (Kd.N_lower ho13 (below_size HB.out)); replace HO0_1 := qe HO0_1 (Kd.N_base ho13) hb; replace HO2_1 := qe HO2_1 (Kd.N_base ho13) hb; replace BK101 := qb BK101 hb; replace BK102 := qb BK102 hb; replace BK103 := qb BK103 hb; clear HO106; have HO106 := n2_; clear n2_; replace HB := qs HB hb; clear hb ho13; obtain ⟨Ao14, co14, eo14⟩ := Kd.N_slice HO109.out; subst eo14; obtain ⟨Ao15, co15, eo15⟩ := Kd.R_slice HO106.out; subst eo15) | ((with_reducible refine gate_dst (N := 7) rfl ?_); refine bE (N := 7) (cs := #[.slice none 0 0, .slice none 0 0]) (t := 60) ?_; intro gb110 hg w16 hbox hb; have n2_ := aK (Kd.R_below HO106.out hb); have GW110 := qw HB hg; have GE110 := qw HB hg; have NB101_110 := ql BK101 hg; have NB110_101 := qg BK101 hg; have NB102_110 := ql BK102 hg; have NB110_102 := qg BK102 hg; have NB103_110 := ql BK103 hg; have NB110_103 := qg BK103 hg; replace HO0_1 := qv HO0_1 hg hb; replace HO2_1 := qv HO2_1 hg hb; replace HO109 := qn HO109 hg hb; replace BK101 := qb BK101 hb; replace BK102 := qb BK102 hb; replace BK103 := qb BK103 hb; have BK110 := aK hbox; clear HO106; have HO106 := n2_; clear n2_; replace HB := qs HB hb; clear hb hbox hg; have hnb17 := NB110_101.out; have hnc17 := NB101_110.out; have hnb18 := NB110_102.out; have hnc18 := NB102_110.out; have hnb19 := NB110_103.out; have hnc19 := NB103_110.out; obtain ⟨hcz20_0, hcz20_1, hfz20_0, hfz20_1⟩ := cA2 BK110) | ((with_reducible refine gate_dst (N := 8) rfl ?_); refine bE (N := 8) (cs := #[.slice none 0 0, .slice none 0 0]) (t := 60) ?_; intro gb111 hg w21 hbox hb; have n_ := aJ (aM (Kd.V_below (Kd.V_elderB (vY HO0_1) gb111 (Nat.le_of_eq hg.symm)) hb)) (aJ (aM (Kd.V_below (Kd.V_elderB (vY HO2_1) gb111 (Nat.le_of_eq hg.symm)) hb)) (aJ (aM (Kd.R_below (rY HO106 BK110) hb)) (aJ (aM (Kd.N_below (Kd.N_elderB (nY HO109) gb111 (Nat.le_of_eq hg.symm)) hb)) (aJ (bB BK101 hb) (aJ (bB BK102 hb) (aJ (bB BK103 hb) (aJ (aM (blk_below (g := gb110) (o := .cells #[.slice Ao15 y104.length co15, .slice Ao14 y107.length co14] 60 (0, 0)) (bP BK110) hb)) (aJ (aM (below_step (pH HB) hb)) (aJ (aM (hbox)) (aJ (aM ((by rw [hg]; exact (below_size (pH HB)) : w.heap.size ≤ gb111))) (aJ (aM ((by rw [hg]; exact (below_size (pH HB)) : w.heap.size ≤ gb111))) (aJ (aM ((by rw [hg]; exact Nat.ne_of_lt (blk_lt (g := gb101) (o := .cells #[.slice A0_0 l0_0.length c0_0, .slice A0_1 l0_1.length c0_1] 60 (0, 0)) (bY BK101)) : gb101 ≠ gb111))) (aJ (aM ((by rw [hg]; exact Nat.ne_of_gt (blk_lt (g := gb101) (o := .cells #[.slice A0_0 l0_0.length c0_0, .slice A0_1 l0_1.length c0_1] 60 (0, 0)) (bY BK101)) : gb111 ≠ gb101))) (aJ (aM ((by rw [hg]; exact Nat.ne_of_lt (blk_lt (g := gb102) (o := .cells #[.int .i64 a2_0, .slice A2_1 l2_1.length c2_1] 55 (0, 0)) (bY BK102)) : gb102 ≠ gb111))) (aJ (aM ((by rw [hg]; exact Nat.ne_of_gt (blk_lt (g := gb102) (o := .cells #[.int .i64 a2_0, .slice A2_1 l2_1.length c2_1] 55 (0, 0)) (bY BK102)) : gb111 ≠ gb102))) (aJ (aM ((by rw [hg]; exact Nat.ne_of_lt (blk_lt (g := gb103) (o := .cells #[.slice none 0 0, .slice none 0 0] 60 (0, 0)) (bY BK103)) : gb103 ≠ gb111))) (aJ (aM ((by rw [hg]; exact Nat.ne_of_gt (blk_lt (g := gb103) (o := .cells #[.slice none 0 0, .slice none 0 0] 60 (0, 0)) (bY BK103)) : gb111 ≠ gb103))) (aJ (aM ((by rw [hg]; exact Nat.ne_of_lt (blk_lt (g := gb110) (o := .cells #[.slice Ao15 y104.length co15, .slice Ao14 y107.length co14] 60 (0, 0)) (bP BK110)) : gb110 ≠ gb111))) (aM ((by rw [hg]; exact Nat.ne_of_gt (blk_lt (g := gb110) (o := .cells #[.slice Ao15 y104.length co15, .slice Ao14 y107.length co14] 60 (0, 0)) (bP BK110)) : gb111 ≠ gb110))))))))))))))))))))); clear HO0_1 HO2_1 HO106 HO109 BK101 BK102 BK103 BK110 HB; obtain ⟨HO0_1, HO2_1, HO106, HO109, BK101, BK102, BK103, BK110, HB, BK111, GW111, GE111, NB101_111, NB111_101, NB102_111, NB111_102, NB103_111, NB111_103, NB110_111, NB111_110⟩ := n_; clear hb hbox hg; have hnb22 := NB111_101.out; have hnc22 := NB101_111.out; have hnb23 := NB111_102.out; have hnc23 := NB102_111.out; have hnb24 := NB111_103.out; have hnc24 := NB103_111.out; have hnb25 := NB111_110.out; have hnc25 := NB110_111.out; obtain ⟨hcz26_0, hcz26_1, hfz26_0, hfz26_1⟩ := cA2 BK111; have hnb27 := NB101_103.out; have hnc27 := NB103_101.out; obtain ⟨hcz28_0, hcz28_1, hfz28_0, hfz28_1⟩ := cA2 BK101))
 go_loopg [9, 21] k (fun kq v9 v21 w' => ∃ (x9_1 : Bool) (x21_1 : Int) (x112000_1 : List Int) (x112001_1 : List (S55)) (u112000 : Value) (u112001 : Value), v9 = .bool x9_1 ∧ v21 = .int .i64 x21_1 ∧ Aside0 (spec_lePut.l0 kq a1 x9_1 l0_0 (l0_0.length : Int) x21_1 l0_0 l0_1 a2_0 l2_1 y104 y107 x112000_1 x112001_1 = some (r1, r2)) ∧ Aside0 (kq ≤ k) ∧ Aside0 (Kd.V k55 55 w' w.heap.size (fun k_ => ((P0_1_ k_ ∨ P2_1_ k_) ∨ w.heap.size ≤ k_) ∧ nS k_ Ao15 y104 co15 ∧ nS k_ Ao14 y107 co14 ∧ some k_ ≠ (u112000 : Value).ownBlock ∧ some k_ ≠ (u112001 : Value).ownBlock ∧ k_ ≠ gb101 ∧ k_ ≠ gb102 ∧ k_ ≠ gb103 ∧ k_ ≠ gb110 ∧ k_ ≠ gb111) (.slice A0_1 l0_1.length c0_1) l0_1) ∧ Aside0 (Kd.V k55 55 w' w.heap.size (fun k_ => ((P0_1_ k_ ∨ P2_1_ k_) ∨ w.heap.size ≤ k_) ∧ nS k_ Ao15 y104 co15 ∧ nS k_ Ao14 y107 co14 ∧ some k_ ≠ (u112000 : Value).ownBlock ∧ some k_ ≠ (u112001 : Value).ownBlock ∧ k_ ≠ gb101 ∧ k_ ≠ gb102 ∧ k_ ≠ gb103 ∧ k_ ≠ gb110 ∧ k_ ≠ gb111) (.slice A2_1 l2_1.length c2_1) l2_1) ∧ Aside0 (Kd.R (Kd.int .i64) 3 w' w.heap.size (fun k_ => (w.heap.size ≤ k_) ∧ some k_ ≠ (u112000 : Value).ownBlock) (.slice Ao15 y104.length co15) y104) ∧ Aside0 (Kd.N k55 55 w' w.heap.size (fun k_ => ((P0_1_ k_ ∨ P2_1_ k_) ∨ w.heap.size ≤ k_) ∧ nS k_ Ao15 y104 co15 ∧ some k_ ≠ (u112000 : Value).ownBlock ∧ some k_ ≠ (u112001 : Value).ownBlock ∧ k_ ≠ gb101 ∧ k_ ≠ gb102 ∧ k_ ≠ gb103 ∧ k_ ≠ gb110 ∧ k_ ≠ gb111) (.slice Ao14 y107.length co14) y107) ∧ Aside0 (Kd.R (Kd.int .i64) 3 w' w.heap.size (fun k_ => (w.heap.size ≤ k_) ∧ nS k_ Ao15 y104 co15) u112000 x112000_1) ∧ Aside0 (Kd.N k55 55 w' w.heap.size (fun k_ => ((P0_1_ k_ ∨ P2_1_ k_) ∨ w.heap.size ≤ k_) ∧ nS k_ Ao15 y104 co15 ∧ some k_ ≠ (u112000 : Value).ownBlock ∧ k_ ≠ gb101 ∧ k_ ≠ gb102 ∧ k_ ≠ gb103 ∧ k_ ≠ gb110 ∧ k_ ≠ gb111) u112001 x112001_1) ∧ Aside0 (w'.heap[gb101]? = some (.cells #[(.slice A0_0 l0_0.length c0_0), (.slice A0_1 l0_1.length c0_1)] 60 (0, 0))) ∧ Aside0 (w'.heap[gb102]? = some (.cells #[.int .i64 a2_0, (.slice A2_1 l2_1.length c2_1)] 55 (0, 0))) ∧ Aside0 (w'.heap[gb103]? = some (.cells #[(.slice none 0 0), (.slice none 0 0)] 60 (0, 0))) ∧ Aside0 (w'.heap[gb110]? = some (.cells #[(.slice Ao15 y104.length co15), (.slice Ao14 y107.length co14)] 60 (0, 0))) ∧ Aside0 (w'.heap[gb111]? = some (.cells #[u112000, u112001] 60 (0, 0))) ∧ Aside0 (Below w.heap.size w w'))
 case atStart => exact ⟨(false), (0), (([] : List Int)), (([] : List (S55))), (.slice none 0 0), (.slice none 0 0), rS, rS, H', ⟨Nat.le_refl _⟩, ⟨vZ HO0_1⟩, ⟨vZ HO2_1⟩, ⟨rW HO106 BK111⟩, ⟨nZ HO109⟩, ⟨by first | exact Kd.R_nil _ _ _ _ _ | exact Kd.N_nil _ _ _ _ _ | exact Kd.V_nil _ _ _ _ _ | exact Kd.Q_nil _ _ _ _ _ | exact Kd.S_nil _ _ _ _ _⟩, ⟨by first | exact Kd.R_nil _ _ _ _ _ | exact Kd.N_nil _ _ _ _ _ | exact Kd.V_nil _ _ _ _ _ | exact Kd.Q_nil _ _ _ _ _ | exact Kd.S_nil _ _ _ _ _⟩, ⟨bY BK101⟩, ⟨bY BK102⟩, ⟨bY BK103⟩, ⟨bY BK110⟩, ⟨bP BK111⟩, ⟨pH HB⟩⟩
 case round =>
  clear H'
  obtain ⟨x9_1, x21_1, x112000_1, x112001_1, u112000, u112001, rfl, rfl, HA, HK1, HO_102001, HO_103001, HO_111000, HO_111001, HO_112000, HO_112001, BK101, BK102, BK103, BK110, BK111, HB⟩ := hrel
  cases gk with
  | zero => exact absurd HA.out (by simp [spec_lePut.l0])
  | succ k1 =>
   have H := HA.out
   clear HA
   simp only [spec_lePut.l0] at H
   by_cases c29 : x21_1 < (l0_0.length : Int)
   ·rw [if_pos c29] at H
    have c29b0 : decide (x21_1 < (l0_0.length : Int)) = true := decide_eq_true c29
    clear c29
    by_cases c30 : 0 ≤ x21_1
    ·rw [if_pos c30] at H
     have c30b0 : decide (0 ≤ x21_1) = true := decide_eq_true c30
     clear c30
     by_cases c31 : x21_1 < (l0_0.length : Int)
     ·rw [if_pos c31] at H
      have c31b0 : decide (x21_1 < (l0_0.length : Int)) = true := decide_eq_true c31
      clear c31
      by_cases c32 : x9_1 = true
      ·subst c32
       rw [if_pos rfl] at H
       by_cases c33 : x112000_1.length < 17592186044416
       ·rw [if_pos c33] at H
        have LMc33 := aM c33
        clear c33
        obtain ⟨y113, hy113⟩ : ∃ y_ : List Int, y_ = (x112000_1 ++ [rd l0_0 x21_1]) := ⟨_, rfl⟩
        replace H : (if x21_1 < (l0_1.length : Int) then ((spec_leApply.f k1 y104 y107 ((rd_T55 l0_1 x21_1).f0) ((rd_T55 l0_1 x21_1).f1)).bind fun bt117 => (if x112001_1.length < 4398046511104 then (spec_lePut.l0 k1 a1 true l0_0 (l0_0.length : Int) (wrap64 (x21_1 + 1)) l0_0 l0_1 a2_0 l2_1 y104 y107 y113 (x112001_1 ++ [(⟨bt117.1, bt117.2⟩ : S55)])) else (none))) else (none)) = some (r1, r2) := by first | (rw [hy113]; with_reducible exact H) | (have H2_ := (Option.bind_some _ _).symm.trans H; rw [hy113]; with_reducible exact H2_) | (have H2_ := (Option.bind_some _ _).symm.trans H; with_reducible exact H2_) | with_reducible exact H | (rw [hy113]; exact H) | exact H
        have Ny113 := aM hy113
        clear hy113
        by_cases c34 : x21_1 < (l0_1.length : Int)
        ·rw [if_pos c34] at H
         have c34b0 : decide (x21_1 < (l0_1.length : Int)) = true := decide_eq_true c34
         clear c34
         replace H := Option.bind_eq_some_iff.mp H
         obtain ⟨⟨t117, t118⟩, A350, H⟩ := H
         try dsimp only at H
         have A35 := aM A350
         clear A350
         by_cases c36 : x112001_1.length < 4398046511104
         ·rw [if_pos c36] at H
          have LMc36 := aM c36
          clear c36
          obtain ⟨y121, hy121⟩ : ∃ y_ : List (S55), y_ = (x112001_1 ++ [(⟨t117, t118⟩ : S55)]) := ⟨_, rfl⟩
          replace H : (spec_lePut.l0 k1 a1 true l0_0 (l0_0.length : Int) (wrap64 (x21_1 + 1)) l0_0 l0_1 a2_0 l2_1 y104 y107 y113 y121) = some (r1, r2) := by first | (rw [hy121]; with_reducible exact H) | (have H2_ := (Option.bind_some _ _).symm.trans H; rw [hy121]; with_reducible exact H2_) | (have H2_ := (Option.bind_some _ _).symm.trans H; with_reducible exact H2_) | with_reducible exact H | (rw [hy121]; exact H) | exact H
          have Ny121 := aM hy121
          clear hy121
          have H' := aM H
          clear H
          have p112 : 0 ≤ (x21_1 : Int) := dA
          have q112 : x21_1 < (l0_0.length : Int) := dA
          obtain ⟨ad112, e112, hx112_0⟩ := Kd.at_int HR0_0.out x21_1 p112 q112
          cases e112
          replace hx112_0 := uC HB hx112_0
          replace p112 := eq_true p112
          replace q112 := eq_true q112
          have hnb37 := NB111_101.out
          have hnc37 := NB101_111.out
          have hnb38 := NB111_102.out
          have hnc38 := NB102_111.out
          have hnb39 := NB111_103.out
          have hnc39 := NB103_111.out
          have hnb40 := NB111_110.out
          have hnc40 := NB110_111.out
          obtain ⟨hcz41_0, hcz41_1, hfz41_0, hfz41_1⟩ := cA2 BK111
          try go_wp2_with (first | ((with_reducible refine gate_builtin (b := .append) (xs := #[.tmp 46, .tmp 48]) rfl ?_); at_builtin; refine Kd.R_append (Kd.int .i64) (w0 := w) w.heap.size rfl (.tmp 46) (.tmp 48) 58 3 (.int .i64 0) 8 rfl Tryz.underlying58 info3 rfl (by decide) (by omega) u112000 x112000_1 (rd l0_0 x21_1) [.int .i64 (rd l0_0 x21_1)] (fun k_ => (w.heap.size ≤ k_) ∧ nS k_ Ao15 y104 co15) (fun _ => False) rfl rfl ?aP (fun _ hk => hk.elim) ?aF ?aO ?aB ?aS ?aL ?_; (case aP => exact rfl); (case aB => exact (pH HB)); (case aF => exact (fun k_ hk => ⟨(Nat.le_trans (below_size (pH HB)) hk), Kd.fresh' (Kd.R_lt HO_111000.out) k_ hk⟩)); (case aO => exact HO_112000.out); (case aS => exact (below_size (pH HB))); (case aL => have := LMc33.out; omega); intro v114 w42 ho hb hg hat; rw [← Ny113.out] at ho; have n0_ := aK (Kd.V_afterv (ok := (fun k_ => ((P0_1_ k_ ∨ P2_1_ k_) ∨ w.heap.size ≤ k_) ∧ nS k_ Ao15 y104 co15 ∧ nS k_ Ao14 y107 co14 ∧ some k_ ≠ (u112001 : Value).ownBlock ∧ k_ ≠ gb101 ∧ k_ ≠ gb102 ∧ k_ ≠ gb103 ∧ k_ ≠ gb110 ∧ k_ ≠ gb111)) (vZ HO_102001) hg hat); have n1_ := aK (Kd.V_afterv (ok := (fun k_ => ((P0_1_ k_ ∨ P2_1_ k_) ∨ w.heap.size ≤ k_) ∧ nS k_ Ao15 y104 co15 ∧ nS k_ Ao14 y107 co14 ∧ some k_ ≠ (u112001 : Value).ownBlock ∧ k_ ≠ gb101 ∧ k_ ≠ gb102 ∧ k_ ≠ gb103 ∧ k_ ≠ gb110 ∧ k_ ≠ gb111)) (vZ HO_103001) hg hat); have n2_ := aK (Kd.R_after (ok := (fun k_ => (w.heap.size ≤ k_))) HO_111000.out hg hat); have n3_ := aK (Kd.N_afterv (ok := (fun k_ => ((P0_1_ k_ ∨ P2_1_ k_) ∨ w.heap.size ≤ k_) ∧ nS k_ Ao15 y104 co15 ∧ some k_ ≠ (u112001 : Value).ownBlock ∧ k_ ≠ gb101 ∧ k_ ≠ gb102 ∧ k_ ≠ gb103 ∧ k_ ≠ gb110 ∧ k_ ≠ gb111)) (nZ HO_111001) hg hat); have n4_ := aK (Kd.N_afterv (ok := (fun k_ => ((P0_1_ k_ ∨ P2_1_ k_) ∨ w.heap.size ≤ k_) ∧ nS k_ Ao15 y104 co15 ∧ k_ ≠ gb101 ∧ k_ ≠ gb102 ∧ k_ ≠ gb103 ∧ k_ ≠ gb110 ∧ k_ ≠ gb111)) (nZ HO_112001) hg hat); have n5_ := aK (blk_grown BK101.out hg (Kd.R_ne HO_112000.out BK101.out (by decide))); have n6_ := aK (blk_grown BK102.out hg (Kd.R_ne HO_112000.out BK102.out (by decide))); have n7_ := aK (blk_grown BK103.out hg (Kd.R_ne HO_112000.out BK103.out (by decide))); have n8_ := aK (blk_grown BK110.out hg (Kd.R_ne HO_112000.out BK110.out (by decide))); have n9_ := aK (blk_grown BK111.out hg (Kd.R_ne HO_112000.out BK111.out (by decide))); have n10_ := aK (hb); have HO115 := aK (ho); clear HO_102001; have HO_102001 := n0_; clear n0_; clear HO_103001; have HO_103001 := n1_; clear n1_; clear HO_111000; have HO_111000 := n2_; clear n2_; clear HO_111001; have HO_111001 := n3_; clear n3_; clear HO_112001; have HO_112001 := n4_; clear n4_; clear BK101; have BK101 := n5_; clear n5_; clear BK102; have BK102 := n6_; clear n6_; clear BK103; have BK103 := n7_; clear n7_; clear BK110; have BK110 := n8_; clear n8_; clear BK111; have BK111 := n9_; clear n9_; clear HB; have HB := n10_; clear n10_; clear HO_112000; clear ho hb hg hat; obtain ⟨Ao43, co43, eo43⟩ := Kd.R_slice HO115.out; subst eo43; obtain ⟨hcz44_0, hcz44_1, hfz44_0, hfz44_1⟩ := cA2 BK111))
          have n0_ : Aside0 (Kd.V k55 55 (w42.setCell ⟨gb111, 0, none⟩ (.slice Ao43 y113.length co43)) w.heap.size (fun k_ => ((P0_1_ k_ ∨ P2_1_ k_) ∨ w.heap.size ≤ k_) ∧ nS k_ Ao15 y104 co15 ∧ nS k_ Ao14 y107 co14 ∧ some k_ ≠ (u112001 : Value).ownBlock ∧ nS k_ Ao43 y113 co43 ∧ k_ ≠ gb101 ∧ k_ ≠ gb102 ∧ k_ ≠ gb103 ∧ k_ ≠ gb110 ∧ k_ ≠ gb111) (.slice A0_1 l0_1.length c0_1) l0_1) := ⟨vZ HO_102001⟩
          have n1_ : Aside0 (Kd.V k55 55 (w42.setCell ⟨gb111, 0, none⟩ (.slice Ao43 y113.length co43)) w.heap.size (fun k_ => ((P0_1_ k_ ∨ P2_1_ k_) ∨ w.heap.size ≤ k_) ∧ nS k_ Ao15 y104 co15 ∧ nS k_ Ao14 y107 co14 ∧ some k_ ≠ (u112001 : Value).ownBlock ∧ nS k_ Ao43 y113 co43 ∧ k_ ≠ gb101 ∧ k_ ≠ gb102 ∧ k_ ≠ gb103 ∧ k_ ≠ gb110 ∧ k_ ≠ gb111) (.slice A2_1 l2_1.length c2_1) l2_1) := ⟨vZ HO_103001⟩
          have n2_ : Aside0 (Kd.R (Kd.int .i64) 3 (w42.setCell ⟨gb111, 0, none⟩ (.slice Ao43 y113.length co43)) w.heap.size (fun k_ => (w.heap.size ≤ k_) ∧ nS k_ Ao43 y113 co43) (.slice Ao15 y104.length co15) y104) := ⟨rW HO_111000 BK111⟩
          have n3_ : Aside0 (Kd.N k55 55 (w42.setCell ⟨gb111, 0, none⟩ (.slice Ao43 y113.length co43)) w.heap.size (fun k_ => ((P0_1_ k_ ∨ P2_1_ k_) ∨ w.heap.size ≤ k_) ∧ nS k_ Ao15 y104 co15 ∧ some k_ ≠ (u112001 : Value).ownBlock ∧ nS k_ Ao43 y113 co43 ∧ k_ ≠ gb101 ∧ k_ ≠ gb102 ∧ k_ ≠ gb103 ∧ k_ ≠ gb110 ∧ k_ ≠ gb111) (.slice Ao14 y107.length co14) y107) := ⟨nZ HO_111001⟩
          have n4_ : Aside0 (Kd.N k55 55 (w42.setCell ⟨gb111, 0, none⟩ (.slice Ao43 y113.length co43)) w.heap.size (fun k_ => ((P0_1_ k_ ∨ P2_1_ k_) ∨ w.heap.size ≤ k_) ∧ nS k_ Ao15 y104 co15 ∧ nS k_ Ao43 y113 co43 ∧ k_ ≠ gb101 ∧ k_ ≠ gb102 ∧ k_ ≠ gb103 ∧ k_ ≠ gb110 ∧ k_ ≠ gb111) u112001 x112001_1) := ⟨nZ HO_112001⟩
          have n5_ : Aside0 (Kd.R (Kd.int .i64) 3 (w42.setCell ⟨gb111, 0, none⟩ (.slice Ao43 y113.length co43)) w.heap.size (fun k_ => (w.heap.size ≤ k_) ∧ nS k_ Ao15 y104 co15) (.slice Ao43 y113.length co43) y113) := ⟨rW HO115 BK111⟩
          have n6_ : Aside0 ((w42.setCell ⟨gb111, 0, none⟩ (.slice Ao43 y113.length co43)).heap[gb101]? = some (.cells #[.slice (some ad112) l0_0.length c0_0, .slice A0_1 l0_1.length c0_1] 60 (0, 0))) := ⟨bY BK101⟩
          have n7_ : Aside0 ((w42.setCell ⟨gb111, 0, none⟩ (.slice Ao43 y113.length co43)).heap[gb102]? = some (.cells #[.int .i64 a2_0, .slice A2_1 l2_1.length c2_1] 55 (0, 0))) := ⟨bY BK102⟩
          have n8_ : Aside0 ((w42.setCell ⟨gb111, 0, none⟩ (.slice Ao43 y113.length co43)).heap[gb103]? = some (.cells #[.slice none 0 0, .slice none 0 0] 60 (0, 0))) := ⟨bY BK103⟩
          have n9_ : Aside0 ((w42.setCell ⟨gb111, 0, none⟩ (.slice Ao43 y113.length co43)).heap[gb110]? = some (.cells #[.slice Ao15 y104.length co15, .slice Ao14 y107.length co14] 60 (0, 0))) := ⟨bY BK110⟩
          have n10_ : Aside0 ((w42.setCell ⟨gb111, 0, none⟩ (.slice Ao43 y113.length co43)).heap[gb111]? = some (.cells #[.slice Ao43 y113.length co43, u112001] 60 (0, 0))) := ⟨bP BK111⟩
          have n11_ : Aside0 (Below w.heap.size w (w42.setCell ⟨gb111, 0, none⟩ (.slice Ao43 y113.length co43))) := ⟨pH HB⟩
          (try clear HO_102001)
          (try clear HO_103001)
          (try clear HO_111000)
          (try clear HO_111001)
          (try clear HO_112001)
          (try clear HO115)
          (try clear BK101)
          (try clear BK102)
          (try clear BK103)
          (try clear BK110)
          (try clear BK111)
          (try clear HB)
          generalize (w42.setCell ⟨gb111, 0, none⟩ (.slice Ao43 y113.length co43)) = w45 at n0_ n1_ n2_ n3_ n4_ n5_ n6_ n7_ n8_ n9_ n10_ n11_ ⊢
          have HO_102001 := n0_
          have HO_103001 := n1_
          have HO_111000 := n2_
          have HO_111001 := n3_
          have HO_112001 := n4_
          have HO115 := n5_
          have BK101 := n6_
          have BK102 := n7_
          have BK103 := n8_
          have BK110 := n9_
          have BK111 := n10_
          have HB := n11_
          clear n0_ n1_ n2_ n3_ n4_ n5_ n6_ n7_ n8_ n9_ n10_ n11_
          have n_ := aJ (vD HO_102001) (aJ (vD HO_103001) (aJ (rE HO_111000) (aJ (nD HO_111001) (aJ (nD HO_112001) (aJ (rE HO115) (aJ (aM (blk_drew BK101.out)) (aJ (aM (blk_drew BK102.out)) (aJ (aM (blk_drew BK103.out)) (aJ (aM (blk_drew BK110.out)) (aJ (aM (blk_drew BK111.out)) (aM (below_drew1 HB.out))))))))))))
          clear HO_102001 HO_103001 HO_111000 HO_111001 HO_112001 HO115 BK101 BK102 BK103 BK110 BK111 HB
          obtain ⟨HO_102001, HO_103001, HO_111000, HO_111001, HO_112001, HO115, BK101, BK102, BK103, BK110, BK111, HB⟩ := n_
          have p116 : 0 ≤ (x21_1 : Int) := dA
          have q116 : x21_1 < (l0_1.length : Int) := dA
          obtain ⟨ad116, A116_1, c116_1, e116, hx116_0, hx116_1, hl116_1, hi116_1⟩ := at_T55 (Kd.V_reads' HO_102001.out).2.2 x21_1 p116 q116
          cases e116
          obtain ⟨ce116, hce116, hMe116, hcc116⟩ := Kd.V_get HO_102001.out z55 x21_1 p116 (by first | exact q116 | exact dA | (have e_ := (Kd.V_reads' HO_102001.out).1; omega))
          obtain ⟨ua116_1, uc116_1, rfl, ul116_1, ge116_1⟩ := k55_openF hMe116
          have hv116_1 := hcc116 1 _ rfl
          rw [add_field _ _ 1 (by omega)] at hv116_1
          replace hv116_1 := Option.some.inj (hv116_1.symm.trans hx116_1)
          injection hv116_1 with hva_ hvn_ hvc_
          rw [hva_] at ge116_1
          rw [hvc_] at ul116_1
          have HL116_1 := aM (show Kd.V k55 55 _ w.heap.size _ _ ((rd_T55 l0_1 x21_1).f1) from Kd.V_mk ul116_1 ge116_1)
          clear hva_ hvn_ hvc_ ge116_1 ul116_1
          clear hcc116 hce116
          have HR116_1 := aM hi116_1
          have HC116_1 := aM hl116_1
          clear hi116_1 hl116_1
          replace p116 := eq_true p116
          replace q116 := eq_true q116
          refine start_ (n := 13) (S := fun w' => w'.cell? ⟨gb111, 0, none⟩ = some (.slice Ao43 y113.length co43) ∧ w'.cell? ⟨gb111, 1, none⟩ = some (u112001) ∧ w'.cell? ⟨gb110, 0, none⟩ = some (.slice Ao15 y104.length co15) ∧ w'.cell? ⟨gb110, 1, none⟩ = some (.slice Ao14 y107.length co14) ∧ w'.cell? ⟨gb101, 0, none⟩ = some (.slice (some ad112) l0_0.length c0_0) ∧ w'.cell? ⟨gb101, 1, none⟩ = some (.slice (some ad116) l0_1.length c0_1) ∧ w'.cell? (ad116.add ((x21_1).toNat * 2)) = some (.int .i64 ((rd_T55 l0_1 x21_1).f0)) ∧ w'.cell? ⟨(ad116.add ((x21_1).toNat * 2)).block, (ad116.add ((x21_1).toNat * 2)).off + 1, none⟩ = some (.slice A116_1 ((rd_T55 l0_1 x21_1).f1).length c116_1)) (ds := [10, 12]) (bs 0 13) (by kernel_rfl) rfl rfl ⟨(blk_cell BK111.out 0).trans rfl, (blk_cell BK111.out 1).trans rfl, (blk_cell BK110.out 0).trans rfl, (blk_cell BK110.out 1).trans rfl, (blk_cell BK101.out 0).trans rfl, (blk_cell BK101.out 1).trans rfl, hx116_0, hx116_1⟩ (fun hHeld => ?_); refine with_tabW spec_lePut.tab12 spec_lePut.bits12 (fun HT_ HW_ => ?_)
          generalize w45.drew = w46 at HO_102001 HO_103001 HO_111000 HO_111001 HO_112001 HO115 BK101 BK102 BK103 BK110 BK111 HB HL116_1 HR116_1 hx116_0 hx116_1 hHeld ⊢
          refine pQ 0 51 HT_ ?_
          refine pQ 3 54 HT_ ?_
          refine pQ 5 56 HT_ ?_
          refine tQ 1 52 HT_ HW_ hHeld ?_
          refine tQ 2 53 HT_ HW_ hHeld ?_
          refine tQ 4 55 HT_ HW_ hHeld ?_
          refine pQ 6 57 HT_ ?_
          refine tQ 7 58 HT_ HW_ hHeld ?_
          refine oQ 8 59 HT_ (fun K hK => ?_)
          refine goes_ Tryz.func26 (by kernel_rfl) rfl #[.agg #[.slice Ao15 y104.length co15, .slice Ao14 y107.length co14], .agg #[.int .i64 ((rd_T55 l0_1 x21_1).f0), .slice A116_1 ((rd_T55 l0_1 x21_1).f1).length c116_1]] (by rfl) rfl rfl tA ?_
          with_reducible refine (spec_leApply.calls k1 _ _ y104 (fun k_ => (((P0_1_ k_ ∨ P2_1_ k_) ∨ w.heap.size ≤ k_) ∧ (nS k_ Ao15 y104 co15 ∧ (some k_ ≠ (u112001 : Value).ownBlock ∧ (nS k_ Ao43 y113 co43 ∧ (k_ ≠ gb101 ∧ (k_ ≠ gb102 ∧ (k_ ≠ gb103 ∧ (k_ ≠ gb110 ∧ k_ ≠ gb111))))))))) _ _ y107 ((rd_T55 l0_1 x21_1).f0) (fun k_ => (((P0_1_ k_ ∨ P2_1_ k_) ∨ w.heap.size ≤ k_) ∧ (nS k_ Ao15 y104 co15 ∧ (nS k_ Ao14 y107 co14 ∧ (some k_ ≠ (u112001 : Value).ownBlock ∧ (nS k_ Ao43 y113 co43 ∧ (k_ ≠ gb101 ∧ (k_ ≠ gb102 ∧ (k_ ≠ gb103 ∧ (k_ ≠ gb110 ∧ k_ ≠ gb111)))))))))) _ _ ((rd_T55 l0_1 x21_1).f1) t117 t118 _ ?side1 ?side2 ?side3 ?side4 A35.out).mono ?_
          (case side1 => exact sC ((Kd.R_reads' HO_111000.out).2.2))
          (case side2 => exact (Kd.R_reads' HO_111000.out).2.1)
          (case side3 => exact Kd.N_V (HO_111001.out))
          (case side4 => exact HL116_1.out)
          rintro e w47 ⟨v119, rfl, ho0, hb⟩
          have HS6_ := (hb.cell (World.block_lt_of_cell? _ _ (hHeld.2.2.2.2.2.2.1))).trans (hHeld.2.2.2.2.2.2.1)
          have HS7_ := (hb.cell (World.block_lt_of_cell? _ _ (hHeld.2.2.2.2.2.2.2))).trans (hHeld.2.2.2.2.2.2.2)
          refine ⟨_, rfl, ?_⟩
          have n_ := aJ (vB HO_102001 hb) (aJ (vB HO_103001 hb) (aJ (rB HO_111000 hb) (aJ (nB HO_111001 hb) (aJ (nB HO_112001 hb) (aJ (rB HO115 hb) (aJ (vB HL116_1 hb) (aJ (aM (Kd.V_lower (Kd.V_mono (ok' := fun k_ => ((P0_1_ k_ ∨ P2_1_ k_) ∨ w.heap.size ≤ k_) ∧ nS k_ Ao15 y104 co15 ∧ some k_ ≠ (u112001 : Value).ownBlock ∧ nS k_ Ao43 y113 co43 ∧ k_ ≠ gb101 ∧ k_ ≠ gb102 ∧ k_ ≠ gb103 ∧ k_ ≠ gb110 ∧ k_ ≠ gb111) ho0 (fun k_ hk_ => ⟨Or.elim hk_ (fun hs_ => Or.elim hs_ (fun hs_ => hs_.1) (fun hs_ => hs_.1)) (fun hn_ => (.inr (Nat.le_trans (below_size (pH HB)) hn_))), Or.elim hk_ (fun hs_ => Or.elim hs_ (fun hs_ => hs_.2.1) (fun hs_ => hs_.2.1)) (fun hn_ => (Kd.fresh' (Kd.R_lt HO_111000.out) k_ hn_)), Or.elim hk_ (fun hs_ => Or.elim hs_ (fun hs_ => hs_.2.2.1) (fun hs_ => hs_.2.2.2.1)) (fun hn_ => (Kd.fresh' (Kd.N_lt HO_112001.out) k_ hn_)), Or.elim hk_ (fun hs_ => Or.elim hs_ (fun hs_ => hs_.2.2.2.1) (fun hs_ => hs_.2.2.2.2.1)) (fun hn_ => (Kd.fresh' (Kd.R_lt HO115.out) k_ hn_)), Or.elim hk_ (fun hs_ => Or.elim hs_ (fun hs_ => hs_.2.2.2.2.1) (fun hs_ => hs_.2.2.2.2.2.1)) (fun hn_ => (Kd.freshB BK101.out k_ hn_)), Or.elim hk_ (fun hs_ => Or.elim hs_ (fun hs_ => hs_.2.2.2.2.2.1) (fun hs_ => hs_.2.2.2.2.2.2.1)) (fun hn_ => (Kd.freshB BK102.out k_ hn_)), Or.elim hk_ (fun hs_ => Or.elim hs_ (fun hs_ => hs_.2.2.2.2.2.2.1) (fun hs_ => hs_.2.2.2.2.2.2.2.1)) (fun hn_ => (Kd.freshB BK103.out k_ hn_)), Or.elim hk_ (fun hs_ => Or.elim hs_ (fun hs_ => hs_.2.2.2.2.2.2.2.1) (fun hs_ => hs_.2.2.2.2.2.2.2.2.1)) (fun hn_ => (Kd.freshB BK110.out k_ hn_)), Or.elim hk_ (fun hs_ => Or.elim hs_ (fun hs_ => hs_.2.2.2.2.2.2.2.2) (fun hs_ => hs_.2.2.2.2.2.2.2.2.2)) (fun hn_ => (Kd.freshB BK111.out k_ hn_))⟩)) (below_size (pH HB)))) (aJ (qb BK101 hb) (aJ (qb BK102 hb) (aJ (qb BK103 hb) (aJ (qb BK110 hb) (aJ (qb BK111 hb) (aJ (aM (Kd.C_below (by repeat (first | (with_reducible exact HR116_1.out) | (with_reducible refine Kd.C_alloc ?_ _) | (with_reducible refine Kd.C_drewN ?_ _) | (with_reducible refine Kd.C_drew ?_) | exact HR116_1.out)) hb)) (aM (below_step (pH HB) hb)))))))))))))))
          clear HO_102001 HO_103001 HO_111000 HO_111001 HO_112001 HO115 HL116_1 BK101 BK102 BK103 BK110 BK111 HR116_1 HB
          obtain ⟨HO_102001, HO_103001, HO_111000, HO_111001, HO_112001, HO115, HL116_1, HO120, BK101, BK102, BK103, BK110, BK111, HR116_1, HB⟩ := n_
          (try clear hb)
          (try clear hb2)
          (try clear hk)
          (try clear hi)
          (try clear ho0)
          obtain ⟨Ao49, co49, eo49⟩ := Kd.V_slice HO120.out
          (first | subst eo49 | (injection eo49 with f1_ f2_ f3_; have f4_ := f1_.symm; have f5_ := f3_.symm; clear f1_ f2_ f3_; subst f4_; subst f5_))
          refine hK.out _ _ ⟨(blk_cell BK111.out 0).trans rfl, (blk_cell BK111.out 1).trans rfl, (blk_cell BK110.out 0).trans rfl, (blk_cell BK110.out 1).trans rfl, (blk_cell BK101.out 0).trans rfl, (blk_cell BK101.out 1).trans rfl, HS6_, HS7_⟩ (fun hHeld => ?_)
          clear hK K
          refine nQ 59 ?_
          refine oQ 9 60 HT_ (fun K hK => ?_)
          refine value_ (w1 := ?_) (v := ?_) (by rfl) rfl ?_ ?_
          rotate_left 2
          ·go_simp
           constructor
           ·rfl
           ·rfl
          refine hK.out _ _ ⟨(blk_cell (blk_alloc BK111.out _) 0).trans rfl, (blk_cell (blk_alloc BK111.out _) 1).trans rfl, (blk_cell (blk_alloc BK110.out _) 0).trans rfl, (blk_cell (blk_alloc BK110.out _) 1).trans rfl, (blk_cell (blk_alloc BK101.out _) 0).trans rfl, (blk_cell (blk_alloc BK101.out _) 1).trans rfl, (World.cell?_alloc_lt _ _ _ (World.block_lt_of_cell? _ _ (hHeld.2.2.2.2.2.2.1))).trans (hHeld.2.2.2.2.2.2.1), (World.cell?_alloc_lt _ _ _ (World.block_lt_of_cell? _ _ (hHeld.2.2.2.2.2.2.2))).trans (hHeld.2.2.2.2.2.2.2)⟩ (fun hHeld => ?_)
          clear hK K
          refine nQ 60 ?_
          refine last_ (i := 10) (N := some 61) (bs 11 2) rfl rfl (one_of HT_.out (by kernel_rfl)) (by decide) (fun K hK => ?_)
          refine Kd.N_append_step k55 (w0 := w) w.heap.size (by rfl) (.tmp 52) (.tmp 60) 53 55 (.agg #[(.int .i64 0), (.slice none 0 0)]) 32 rfl Tryz.underlying53 info55 rfl (by decide) (by omega) u112001 x112001_1 (⟨t117, t118⟩ : S55) [.int .i64 t117, .slice Ao49 t118.length co49] (fun k_ => ((P0_1_ k_ ∨ P2_1_ k_) ∨ w.heap.size ≤ k_) ∧ nS k_ Ao15 y104 co15 ∧ nS k_ Ao43 y113 co43 ∧ k_ ≠ gb101 ∧ k_ ≠ gb102 ∧ k_ ≠ gb103 ∧ k_ ≠ gb110 ∧ k_ ≠ gb111) (fun k_ => ((fun k_ => ((P0_1_ k_ ∨ P2_1_ k_) ∨ w.heap.size ≤ k_) ∧ nS k_ Ao15 y104 co15 ∧ nS k_ Ao43 y113 co43 ∧ k_ ≠ gb101 ∧ k_ ≠ gb102 ∧ k_ ≠ gb103 ∧ k_ ≠ gb110 ∧ k_ ≠ gb111)) k_ ∧ some k_ ≠ (u112001 : Value).ownBlock) rfl rfl ?aP (fun _ hk => hk) ?aF ?aO ?aB ?aS ?aL ?_
          (case aP => exact (k55_mkF _ _ (⟨t117, t118⟩ : S55) (Kd.V_reads' (Kd.V_mono (ok' := (fun k_ => ((fun k_ => ((P0_1_ k_ ∨ P2_1_ k_) ∨ w.heap.size ≤ k_) ∧ nS k_ Ao15 y104 co15 ∧ nS k_ Ao43 y113 co43 ∧ k_ ≠ gb101 ∧ k_ ≠ gb102 ∧ k_ ≠ gb103 ∧ k_ ≠ gb110 ∧ k_ ≠ gb111)) k_ ∧ some k_ ≠ (u112001 : Value).ownBlock)) (HO120.out) (fun k_ hk => ⟨⟨hk.1, ⟨hk.2.1, ⟨hk.2.2.2.1, ⟨hk.2.2.2.2.1, ⟨hk.2.2.2.2.2.1, ⟨hk.2.2.2.2.2.2.1, ⟨hk.2.2.2.2.2.2.2.1, hk.2.2.2.2.2.2.2.2⟩⟩⟩⟩⟩⟩⟩, hk.2.2.1⟩))).2.1 (Kd.V_F (Kd.V_mono (ok' := (fun k_ => ((fun k_ => ((P0_1_ k_ ∨ P2_1_ k_) ∨ w.heap.size ≤ k_) ∧ nS k_ Ao15 y104 co15 ∧ nS k_ Ao43 y113 co43 ∧ k_ ≠ gb101 ∧ k_ ≠ gb102 ∧ k_ ≠ gb103 ∧ k_ ≠ gb110 ∧ k_ ≠ gb111)) k_ ∧ some k_ ≠ (u112001 : Value).ownBlock)) (HO120.out) (fun k_ hk => ⟨⟨hk.1, ⟨hk.2.1, ⟨hk.2.2.2.1, ⟨hk.2.2.2.2.1, ⟨hk.2.2.2.2.2.1, ⟨hk.2.2.2.2.2.2.1, ⟨hk.2.2.2.2.2.2.2.1, hk.2.2.2.2.2.2.2.2⟩⟩⟩⟩⟩⟩⟩, hk.2.2.1⟩)))))
          (case aB => exact (pH HB))
          (case aF => exact (fun k_ hk => ⟨(.inr (Nat.le_trans (below_size (pH HB)) hk)), Kd.fresh' (Kd.R_lt HO_111000.out) k_ hk, Kd.fresh' (Kd.R_lt HO115.out) k_ hk, Kd.freshB BK101.out k_ hk, Kd.freshB BK102.out k_ hk, Kd.freshB BK103.out k_ hk, Kd.freshB BK110.out k_ hk, Kd.freshB BK111.out k_ hk⟩))
          (case aO => exact HO_112001.out)
          (case aS => exact (below_size (pH HB)))
          (case aL => have := LMc36.out; omega)
          intro v122 w48 ho hb hg hat
          rw [← Ny121.out] at ho
          have n_ := aJ (aM (Kd.V_afterv (ok := (fun k_ => ((P0_1_ k_ ∨ P2_1_ k_) ∨ w.heap.size ≤ k_) ∧ nS k_ Ao15 y104 co15 ∧ nS k_ Ao14 y107 co14 ∧ nS k_ Ao43 y113 co43 ∧ k_ ≠ gb101 ∧ k_ ≠ gb102 ∧ k_ ≠ gb103 ∧ k_ ≠ gb110 ∧ k_ ≠ gb111)) (vZ HO_102001) hg hat)) (aJ (aM (Kd.V_afterv (ok := (fun k_ => ((P0_1_ k_ ∨ P2_1_ k_) ∨ w.heap.size ≤ k_) ∧ nS k_ Ao15 y104 co15 ∧ nS k_ Ao14 y107 co14 ∧ nS k_ Ao43 y113 co43 ∧ k_ ≠ gb101 ∧ k_ ≠ gb102 ∧ k_ ≠ gb103 ∧ k_ ≠ gb110 ∧ k_ ≠ gb111)) (vZ HO_103001) hg hat)) (aJ (aM (Kd.R_over' HO_111000.out (Kd.N_typed HO_112001.out) (by decide) hg)) (aJ (aM (Kd.N_afterv (ok := (fun k_ => ((P0_1_ k_ ∨ P2_1_ k_) ∨ w.heap.size ≤ k_) ∧ nS k_ Ao15 y104 co15 ∧ nS k_ Ao43 y113 co43 ∧ k_ ≠ gb101 ∧ k_ ≠ gb102 ∧ k_ ≠ gb103 ∧ k_ ≠ gb110 ∧ k_ ≠ gb111)) (nZ HO_111001) hg hat)) (aJ (aM (blk_grown BK101.out hg (Kd.N_ne HO_112001.out BK101.out (by decide)))) (aJ (aM (blk_grown BK102.out hg (Kd.N_away HO_112001.out (fun _ hk => hk.2.2.2.2.1)))) (aJ (aM (blk_grown BK103.out hg (Kd.N_ne HO_112001.out BK103.out (by decide)))) (aJ (aM (blk_grown BK110.out hg (Kd.N_ne HO_112001.out BK110.out (by decide)))) (aJ (aM (blk_grown BK111.out hg (Kd.N_ne HO_112001.out BK111.out (by decide)))) (aJ (aM (Kd.R_over' HO115.out (Kd.N_typed HO_112001.out) (by decide) hg)) (aJ (aM (Kd.V_afterv (ok := (fun k_ => ((P0_1_ k_ ∨ P2_1_ k_) ∨ w.heap.size ≤ k_) ∧ nS k_ Ao15 y104 co15 ∧ nS k_ Ao14 y107 co14 ∧ nS k_ Ao43 y113 co43 ∧ k_ ≠ gb101 ∧ k_ ≠ gb102 ∧ k_ ≠ gb103 ∧ k_ ≠ gb110 ∧ k_ ≠ gb111)) (vZ HL116_1) hg hat)) (aJ (aM (Kd.V_afterv (ok := (fun k_ => ((P0_1_ k_ ∨ P2_1_ k_) ∨ w.heap.size ≤ k_) ∧ nS k_ Ao15 y104 co15 ∧ nS k_ Ao43 y113 co43 ∧ k_ ≠ gb101 ∧ k_ ≠ gb102 ∧ k_ ≠ gb103 ∧ k_ ≠ gb110 ∧ k_ ≠ gb111)) (vZ HO120) hg hat)) (aJ (aM (hb)) (aM (ho))))))))))))))
          clear HO_102001 HO_103001 HO_111000 HO_111001 BK101 BK102 BK103 BK110 BK111 HO115 HL116_1 HO120 HB HO_112001
          obtain ⟨HO_102001, HO_103001, HO_111000, HO_111001, BK101, BK102, BK103, BK110, BK111, HO115, HL116_1, HO120, HB, HO123⟩ := n_
          clear ho hb hg hat
          obtain ⟨Ao50, co50, eo50⟩ := Kd.N_slice HO123.out
          (first | subst eo50 | (injection eo50 with f1_ f2_ f3_; have f4_ := f1_.symm; have f5_ := f3_.symm; clear f1_ f2_ f3_; subst f4_; subst f5_))
          refine hK.out _ _ ?_
          clear hK K
          refine nQ 61 ?_
          refine pQ 11 62 HT_ ?_
          refine last_ (i := 12) (N := none) (bs 13 0) rfl rfl (one_of HT_.out (by kernel_rfl)) (by decide) (fun K hK => ?_)
          have hs51 : w48.cell? ⟨gb111, 1, none⟩ = some (u112001) := (blk_cell BK111.out 1).trans rfl
          have hfs51 := blk_frozen BK111.out 1
          have hns51_0 := NB101_111.out
          have hns51_1 := NB102_111.out
          have hns51_2 := NB103_111.out
          have hns51_3 := NB110_111.out
          have hms51_0 := NB111_101.out
          have hms51_1 := NB111_102.out
          have hms51_2 := NB111_103.out
          have hms51_3 := NB111_110.out
          refine skip_ (w1 := ?_) (by rfl) rfl ?_ ?_
          rotate_left
          ·go_simp
           rfl
          refine hK.out _ _ ?_
          clear hK K
          refine done_ (done_of HT_.out (by kernel_rfl)) ?_
          try go_wp2
          go_roundg k1
          case measure => have := HK1.out; omega
          case rel => exact ⟨(true), (wrap64 (x21_1 + 1)), (y113), (y121), (.slice Ao43 y113.length co43), (.slice Ao50 y121.length co50), rS, rS, H', ⟨by have := HK1.out; omega⟩, ⟨vZ HO_102001⟩, ⟨vZ HO_103001⟩, ⟨rW HO_111000 BK111⟩, ⟨nZ HO_111001⟩, ⟨rW HO115 BK111⟩, ⟨nZ HO123⟩, ⟨bY BK101⟩, ⟨bY BK102⟩, ⟨bY BK103⟩, ⟨bY BK110⟩, ⟨bP BK111⟩, ⟨pH HB⟩⟩
         ·rw [if_neg c36] at H
          exact absurd H (by simp)
        ·rw [if_neg c34] at H
         exact absurd H (by simp)
       ·rw [if_neg c33] at H
        exact absurd H (by simp)
      ·replace c32 := Bool.eq_false_iff.mpr c32
       subst c32
       rw [if_neg (show ¬ (false = true) by decide)] at H
       by_cases c52 : a1 < (rd l0_0 x21_1)
       ·rw [if_pos c52] at H
        have c52b0 : decide (a1 < (rd l0_0 x21_1)) = true := decide_eq_true c52
        clear c52
        by_cases c53 : x112000_1.length < 17592186044416
        ·rw [if_pos c53] at H
         have LMc53 := aM c53
         clear c53
         obtain ⟨y124, hy124⟩ : ∃ y_ : List Int, y_ = (x112000_1 ++ [a1]) := ⟨_, rfl⟩
         replace H : (if x112001_1.length < 4398046511104 then ((some (x112001_1 ++ [(⟨a2_0, l2_1⟩ : S55)] : List (S55))).bind fun y127 => (if y124.length < 17592186044416 then (if x21_1 < (l0_1.length : Int) then ((spec_leApply.f k1 y104 y107 ((rd_T55 l0_1 x21_1).f0) ((rd_T55 l0_1 x21_1).f1)).bind fun bt134 => (if y127.length < 4398046511104 then (spec_lePut.l0 k1 a1 true l0_0 (l0_0.length : Int) (wrap64 (x21_1 + 1)) l0_0 l0_1 a2_0 l2_1 y104 y107 (y124 ++ [rd l0_0 x21_1]) (y127 ++ [(⟨bt134.1, bt134.2⟩ : S55)])) else (none))) else (none)) else (none))) else (none)) = some (r1, r2) := by first | (rw [hy124]; with_reducible exact H) | (have H2_ := (Option.bind_some _ _).symm.trans H; rw [hy124]; with_reducible exact H2_) | (have H2_ := (Option.bind_some _ _).symm.trans H; with_reducible exact H2_) | with_reducible exact H | (rw [hy124]; exact H) | exact H
         have Ny124 := aM hy124
         clear hy124
         by_cases c54 : x112001_1.length < 4398046511104
         ·rw [if_pos c54] at H
          have LMc54 := aM c54
          clear c54
          obtain ⟨y127, hy127⟩ : ∃ y_ : List (S55), y_ = (x112001_1 ++ [(⟨a2_0, l2_1⟩ : S55)]) := ⟨_, rfl⟩
          replace H : (if y124.length < 17592186044416 then (if x21_1 < (l0_1.length : Int) then ((spec_leApply.f k1 y104 y107 ((rd_T55 l0_1 x21_1).f0) ((rd_T55 l0_1 x21_1).f1)).bind fun bt134 => (if y127.length < 4398046511104 then (spec_lePut.l0 k1 a1 true l0_0 (l0_0.length : Int) (wrap64 (x21_1 + 1)) l0_0 l0_1 a2_0 l2_1 y104 y107 (y124 ++ [rd l0_0 x21_1]) (y127 ++ [(⟨bt134.1, bt134.2⟩ : S55)])) else (none))) else (none)) else (none)) = some (r1, r2) := by first | (rw [hy127]; with_reducible exact H) | (have H2_ := (Option.bind_some _ _).symm.trans H; rw [hy127]; with_reducible exact H2_) | (have H2_ := (Option.bind_some _ _).symm.trans H; with_reducible exact H2_) | with_reducible exact H | (rw [hy127]; exact H) | exact H
          have Ny127 := aM hy127
          clear hy127
          by_cases c55 : y124.length < 17592186044416
          ·rw [if_pos c55] at H
           have LMc55 := aM c55
           clear c55
           obtain ⟨y130, hy130⟩ : ∃ y_ : List Int, y_ = (y124 ++ [rd l0_0 x21_1]) := ⟨_, rfl⟩
           replace H : (if x21_1 < (l0_1.length : Int) then ((spec_leApply.f k1 y104 y107 ((rd_T55 l0_1 x21_1).f0) ((rd_T55 l0_1 x21_1).f1)).bind fun bt134 => (if y127.length < 4398046511104 then (spec_lePut.l0 k1 a1 true l0_0 (l0_0.length : Int) (wrap64 (x21_1 + 1)) l0_0 l0_1 a2_0 l2_1 y104 y107 y130 (y127 ++ [(⟨bt134.1, bt134.2⟩ : S55)])) else (none))) else (none)) = some (r1, r2) := by first | (rw [hy130]; with_reducible exact H) | (have H2_ := (Option.bind_some _ _).symm.trans H; rw [hy130]; with_reducible exact H2_) | (have H2_ := (Option.bind_some _ _).symm.trans H; with_reducible exact H2_) | with_reducible exact H | (rw [hy130]; exact H) | exact H
           have Ny130 := aM hy130
           clear hy130
           by_cases c56 : x21_1 < (l0_1.length : Int)
           ·rw [if_pos c56] at H
            have c56b0 : decide (x21_1 < (l0_1.length : Int)) = true := decide_eq_true c56
            clear c56
            replace H := Option.bind_eq_some_iff.mp H
            obtain ⟨⟨t134, t135⟩, A570, H⟩ := H
            try dsimp only at H
            have A57 := aM A570
            clear A570
            by_cases c58 : y127.length < 4398046511104
            ·rw [if_pos c58] at H
             have LMc58 := aM c58
             clear c58
             obtain ⟨y138, hy138⟩ : ∃ y_ : List (S55), y_ = (y127 ++ [(⟨t134, t135⟩ : S55)]) := ⟨_, rfl⟩
             replace H : (spec_lePut.l0 k1 a1 true l0_0 (l0_0.length : Int) (wrap64 (x21_1 + 1)) l0_0 l0_1 a2_0 l2_1 y104 y107 y130 y138) = some (r1, r2) := by first | (rw [hy138]; with_reducible exact H) | (have H2_ := (Option.bind_some _ _).symm.trans H; rw [hy138]; with_reducible exact H2_) | (have H2_ := (Option.bind_some _ _).symm.trans H; with_reducible exact H2_) | with_reducible exact H | (rw [hy138]; exact H) | exact H
             have Ny138 := aM hy138
             clear hy138
             have H' := aM H
             clear H
             have p112 : 0 ≤ (x21_1 : Int) := dA
             have q112 : x21_1 < (l0_0.length : Int) := dA
             obtain ⟨ad112, e112, hx112_0⟩ := Kd.at_int HR0_0.out x21_1 p112 q112
             cases e112
             replace hx112_0 := uC HB hx112_0
             replace p112 := eq_true p112
             replace q112 := eq_true q112
             have hnb59 := NB111_101.out
             have hnc59 := NB101_111.out
             have hnb60 := NB111_102.out
             have hnc60 := NB102_111.out
             have hnb61 := NB111_103.out
             have hnc61 := NB103_111.out
             have hnb62 := NB111_110.out
             have hnc62 := NB110_111.out
             obtain ⟨hcz63_0, hcz63_1, hfz63_0, hfz63_1⟩ := cA2 BK111
             try go_wp2_with (first | ((with_reducible refine gate_builtin (b := .append) (xs := #[.tmp 34, .tmp 36]) rfl ?_); at_builtin; refine Kd.R_append (Kd.int .i64) (w0 := w) w.heap.size rfl (.tmp 34) (.tmp 36) 58 3 (.int .i64 0) 8 rfl Tryz.underlying58 info3 rfl (by decide) (by omega) u112000 x112000_1 a1 [.int .i64 a1] (fun k_ => (w.heap.size ≤ k_) ∧ nS k_ Ao15 y104 co15) (fun _ => False) rfl rfl ?aP (fun _ hk => hk.elim) ?aF ?aO ?aB ?aS ?aL ?_; (case aP => exact rfl); (case aB => exact (pH HB)); (case aF => exact (fun k_ hk => ⟨(Nat.le_trans (below_size (pH HB)) hk), Kd.fresh' (Kd.R_lt HO_111000.out) k_ hk⟩)); (case aO => exact HO_112000.out); (case aS => exact (below_size (pH HB))); (case aL => have := LMc53.out; omega); intro v125 w64 ho hb hg hat; rw [← Ny124.out] at ho; have n0_ := aK (Kd.V_afterv (ok := (fun k_ => ((P0_1_ k_ ∨ P2_1_ k_) ∨ w.heap.size ≤ k_) ∧ nS k_ Ao15 y104 co15 ∧ nS k_ Ao14 y107 co14 ∧ some k_ ≠ (u112001 : Value).ownBlock ∧ k_ ≠ gb101 ∧ k_ ≠ gb102 ∧ k_ ≠ gb103 ∧ k_ ≠ gb110 ∧ k_ ≠ gb111)) (vZ HO_102001) hg hat); have n1_ := aK (Kd.V_afterv (ok := (fun k_ => ((P0_1_ k_ ∨ P2_1_ k_) ∨ w.heap.size ≤ k_) ∧ nS k_ Ao15 y104 co15 ∧ nS k_ Ao14 y107 co14 ∧ some k_ ≠ (u112001 : Value).ownBlock ∧ k_ ≠ gb101 ∧ k_ ≠ gb102 ∧ k_ ≠ gb103 ∧ k_ ≠ gb110 ∧ k_ ≠ gb111)) (vZ HO_103001) hg hat); have n2_ := aK (Kd.R_after (ok := (fun k_ => (w.heap.size ≤ k_))) HO_111000.out hg hat); have n3_ := aK (Kd.N_afterv (ok := (fun k_ => ((P0_1_ k_ ∨ P2_1_ k_) ∨ w.heap.size ≤ k_) ∧ nS k_ Ao15 y104 co15 ∧ some k_ ≠ (u112001 : Value).ownBlock ∧ k_ ≠ gb101 ∧ k_ ≠ gb102 ∧ k_ ≠ gb103 ∧ k_ ≠ gb110 ∧ k_ ≠ gb111)) (nZ HO_111001) hg hat); have n4_ := aK (Kd.N_afterv (ok := (fun k_ => ((P0_1_ k_ ∨ P2_1_ k_) ∨ w.heap.size ≤ k_) ∧ nS k_ Ao15 y104 co15 ∧ k_ ≠ gb101 ∧ k_ ≠ gb102 ∧ k_ ≠ gb103 ∧ k_ ≠ gb110 ∧ k_ ≠ gb111)) (nZ HO_112001) hg hat); have n5_ := aK (blk_grown BK101.out hg (Kd.R_ne HO_112000.out BK101.out (by decide))); have n6_ := aK (blk_grown BK102.out hg (Kd.R_ne HO_112000.out BK102.out (by decide))); have n7_ := aK (blk_grown BK103.out hg (Kd.R_ne HO_112000.out BK103.out (by decide))); have n8_ := aK (blk_grown BK110.out hg (Kd.R_ne HO_112000.out BK110.out (by decide))); have n9_ := aK (blk_grown BK111.out hg (Kd.R_ne HO_112000.out BK111.out (by decide))); have n10_ := aK (hb); have HO126 := aK (ho); clear HO_102001; have HO_102001 := n0_; clear n0_; clear HO_103001; have HO_103001 := n1_; clear n1_; clear HO_111000; have HO_111000 := n2_; clear n2_; clear HO_111001; have HO_111001 := n3_; clear n3_; clear HO_112001; have HO_112001 := n4_; clear n4_; clear BK101; have BK101 := n5_; clear n5_; clear BK102; have BK102 := n6_; clear n6_; clear BK103; have BK103 := n7_; clear n7_; clear BK110; have BK110 := n8_; clear n8_; clear BK111; have BK111 := n9_; clear n9_; clear HB; have HB := n10_; clear n10_; clear HO_112000; clear ho hb hg hat; obtain ⟨Ao65, co65, eo65⟩ := Kd.R_slice HO126.out; subst eo65; obtain ⟨hcz66_0, hcz66_1, hfz66_0, hfz66_1⟩ := cA2 BK111) | ((with_reducible refine gate_store (t := 58) (p := 38) rfl ?_); refine store_event (t := 58) (p := 38) (v := ?vo_w67) (w1 := (w64.setCell ⟨gb111, 0, none⟩ (.slice Ao65 y124.length co65))) ?hg ?ho ?hn ?hr ?_; (case ho => rfl); (case hg => rfl); (case hn => rfl); (case hr => first | (go_simp; done) | (go_simp; rfl)); intro w67 hw; have n_ := aJ (show Aside0 (Kd.V k55 55 w67 w.heap.size (fun k_ => ((P0_1_ k_ ∨ P2_1_ k_) ∨ w.heap.size ≤ k_) ∧ nS k_ Ao15 y104 co15 ∧ nS k_ Ao14 y107 co14 ∧ some k_ ≠ (u112001 : Value).ownBlock ∧ nS k_ Ao65 y124 co65 ∧ k_ ≠ gb101 ∧ k_ ≠ gb102 ∧ k_ ≠ gb103 ∧ k_ ≠ gb110 ∧ k_ ≠ gb111) (.slice A0_1 l0_1.length c0_1) l0_1) from ⟨(by rw [hw]; exact (vZ HO_102001))⟩) (aJ (show Aside0 (Kd.V k55 55 w67 w.heap.size (fun k_ => ((P0_1_ k_ ∨ P2_1_ k_) ∨ w.heap.size ≤ k_) ∧ nS k_ Ao15 y104 co15 ∧ nS k_ Ao14 y107 co14 ∧ some k_ ≠ (u112001 : Value).ownBlock ∧ nS k_ Ao65 y124 co65 ∧ k_ ≠ gb101 ∧ k_ ≠ gb102 ∧ k_ ≠ gb103 ∧ k_ ≠ gb110 ∧ k_ ≠ gb111) (.slice A2_1 l2_1.length c2_1) l2_1) from ⟨(by rw [hw]; exact (vZ HO_103001))⟩) (aJ (show Aside0 (Kd.R (Kd.int .i64) 3 w67 w.heap.size (fun k_ => (w.heap.size ≤ k_) ∧ nS k_ Ao65 y124 co65) (.slice Ao15 y104.length co15) y104) from ⟨(by rw [hw]; exact (rW HO_111000 BK111))⟩) (aJ (show Aside0 (Kd.N k55 55 w67 w.heap.size (fun k_ => ((P0_1_ k_ ∨ P2_1_ k_) ∨ w.heap.size ≤ k_) ∧ nS k_ Ao15 y104 co15 ∧ some k_ ≠ (u112001 : Value).ownBlock ∧ nS k_ Ao65 y124 co65 ∧ k_ ≠ gb101 ∧ k_ ≠ gb102 ∧ k_ ≠ gb103 ∧ k_ ≠ gb110 ∧ k_ ≠ gb111) (.slice Ao14 y107.length co14) y107) from ⟨(by rw [hw]; exact (nZ HO_111001))⟩) (aJ (show Aside0 (Kd.N k55 55 w67 w.heap.size (fun k_ => ((P0_1_ k_ ∨ P2_1_ k_) ∨ w.heap.size ≤ k_) ∧ nS k_ Ao15 y104 co15 ∧ nS k_ Ao65 y124 co65 ∧ k_ ≠ gb101 ∧ k_ ≠ gb102 ∧ k_ ≠ gb103 ∧ k_ ≠ gb110 ∧ k_ ≠ gb111) u112001 x112001_1) from ⟨(by rw [hw]; exact (nZ HO_112001))⟩) (aJ (show Aside0 (Kd.R (Kd.int .i64) 3 w67 w.heap.size (fun k_ => (w.heap.size ≤ k_) ∧ nS k_ Ao15 y104 co15) (.slice Ao65 y124.length co65) y124) from ⟨(by rw [hw]; exact (rW HO126 BK111))⟩) (aJ (show Aside0 (w67.heap[gb101]? = some (.cells #[.slice (some ad112) l0_0.length c0_0, .slice A0_1 l0_1.length c0_1] 60 (0, 0))) from ⟨(by rw [hw]; exact (bY BK101))⟩) (aJ (show Aside0 (w67.heap[gb102]? = some (.cells #[.int .i64 a2_0, .slice A2_1 l2_1.length c2_1] 55 (0, 0))) from ⟨(by rw [hw]; exact (bY BK102))⟩) (aJ (show Aside0 (w67.heap[gb103]? = some (.cells #[.slice none 0 0, .slice none 0 0] 60 (0, 0))) from ⟨(by rw [hw]; exact (bY BK103))⟩) (aJ (show Aside0 (w67.heap[gb110]? = some (.cells #[.slice Ao15 y104.length co15, .slice Ao14 y107.length co14] 60 (0, 0))) from ⟨(by rw [hw]; exact (bY BK110))⟩) (aJ (show Aside0 (w67.heap[gb111]? = some (.cells #[.slice Ao65 y124.length co65, u112001] 60 (0, 0))) from ⟨(by rw [hw]; exact (bP BK111))⟩) (show Aside0 (Below w.heap.size w w67) from ⟨(by rw [hw]; exact (pH HB))⟩))))))))))); clear hw HO_102001 HO_103001 HO_111000 HO_111001 HO_112001 HO126 BK101 BK102 BK103 BK110 BK111 HB; obtain ⟨HO_102001, HO_103001, HO_111000, HO_111001, HO_112001, HO126, BK101, BK102, BK103, BK110, BK111, HB⟩ := n_; obtain ⟨hcz68_0, hcz68_1, hfz68_0, hfz68_1⟩ := cA2 BK111; have hnb69 := NB102_101.out; have hnc69 := NB101_102.out; have hnb70 := NB102_103.out; have hnc70 := NB103_102.out; have hnb71 := NB102_110.out; have hnc71 := NB110_102.out; obtain ⟨hcz72_0, hcz72_1, hfz72_0, hfz72_1⟩ := cA2 BK102) | ((with_reducible refine gate_builtin (b := .append) (xs := #[.tmp 40, .tmp 42]) rfl ?_); at_builtin; refine Kd.N_append k55 (w0 := w) w.heap.size rfl (.tmp 40) (.tmp 42) 53 55 (.agg #[(.int .i64 0), (.slice none 0 0)]) 32 rfl Tryz.underlying53 info55 rfl (by decide) (by omega) u112001 x112001_1 (⟨a2_0, l2_1⟩ : S55) [.int .i64 a2_0, .slice A2_1 l2_1.length c2_1] (fun k_ => ((P0_1_ k_ ∨ P2_1_ k_) ∨ w.heap.size ≤ k_) ∧ nS k_ Ao15 y104 co15 ∧ nS k_ Ao65 y124 co65 ∧ k_ ≠ gb101 ∧ k_ ≠ gb102 ∧ k_ ≠ gb103 ∧ k_ ≠ gb110 ∧ k_ ≠ gb111) (fun k_ => ((fun k_ => ((P0_1_ k_ ∨ P2_1_ k_) ∨ w.heap.size ≤ k_) ∧ nS k_ Ao15 y104 co15 ∧ nS k_ Ao65 y124 co65 ∧ k_ ≠ gb101 ∧ k_ ≠ gb102 ∧ k_ ≠ gb103 ∧ k_ ≠ gb110 ∧ k_ ≠ gb111)) k_ ∧ some k_ ≠ (u112001 : Value).ownBlock) rfl rfl ?aP (fun _ hk => hk) ?aF ?aO ?aB ?aS ?aL ?_; (case aP => exact (k55_mkF _ _ (⟨a2_0, l2_1⟩ : S55) (Kd.V_reads' (Kd.V_mono (ok' := (fun k_ => ((fun k_ => ((P0_1_ k_ ∨ P2_1_ k_) ∨ w.heap.size ≤ k_) ∧ nS k_ Ao15 y104 co15 ∧ nS k_ Ao65 y124 co65 ∧ k_ ≠ gb101 ∧ k_ ≠ gb102 ∧ k_ ≠ gb103 ∧ k_ ≠ gb110 ∧ k_ ≠ gb111)) k_ ∧ some k_ ≠ (u112001 : Value).ownBlock)) (HO_103001.out) (fun k_ hk => ⟨⟨hk.1, ⟨hk.2.1, ⟨hk.2.2.2.2.1, ⟨hk.2.2.2.2.2.1, ⟨hk.2.2.2.2.2.2.1, ⟨hk.2.2.2.2.2.2.2.1, ⟨hk.2.2.2.2.2.2.2.2.1, hk.2.2.2.2.2.2.2.2.2⟩⟩⟩⟩⟩⟩⟩, hk.2.2.2.1⟩))).2.1 (Kd.V_F (Kd.V_mono (ok' := (fun k_ => ((fun k_ => ((P0_1_ k_ ∨ P2_1_ k_) ∨ w.heap.size ≤ k_) ∧ nS k_ Ao15 y104 co15 ∧ nS k_ Ao65 y124 co65 ∧ k_ ≠ gb101 ∧ k_ ≠ gb102 ∧ k_ ≠ gb103 ∧ k_ ≠ gb110 ∧ k_ ≠ gb111)) k_ ∧ some k_ ≠ (u112001 : Value).ownBlock)) (HO_103001.out) (fun k_ hk => ⟨⟨hk.1, ⟨hk.2.1, ⟨hk.2.2.2.2.1, ⟨hk.2.2.2.2.2.1, ⟨hk.2.2.2.2.2.2.1, ⟨hk.2.2.2.2.2.2.2.1, ⟨hk.2.2.2.2.2.2.2.2.1, hk.2.2.2.2.2.2.2.2.2⟩⟩⟩⟩⟩⟩⟩, hk.2.2.2.1⟩))))); (case aB => exact (pH HB)); (case aF => exact (fun k_ hk => ⟨(.inr (Nat.le_trans (below_size (pH HB)) hk)), Kd.fresh' (Kd.R_lt HO_111000.out) k_ hk, Kd.fresh' (Kd.R_lt HO126.out) k_ hk, Kd.freshB BK101.out k_ hk, Kd.freshB BK102.out k_ hk, Kd.freshB BK103.out k_ hk, Kd.freshB BK110.out k_ hk, Kd.freshB BK111.out k_ hk⟩)); (case aO => exact HO_112001.out); (case aS => exact (below_size (pH HB))); (case aL => have := LMc54.out; omega); intro v128 w73 ho hb hg hat; rw [← Ny127.out] at ho; have n0_ := aK (Kd.V_afterv (ok := (fun k_ => ((P0_1_ k_ ∨ P2_1_ k_) ∨ w.heap.size ≤ k_) ∧ nS k_ Ao15 y104 co15 ∧ nS k_ Ao14 y107 co14 ∧ nS k_ Ao65 y124 co65 ∧ k_ ≠ gb101 ∧ k_ ≠ gb102 ∧ k_ ≠ gb103 ∧ k_ ≠ gb110 ∧ k_ ≠ gb111)) (vZ HO_102001) hg hat); have n1_ := aK (Kd.V_afterv (ok := (fun k_ => ((P0_1_ k_ ∨ P2_1_ k_) ∨ w.heap.size ≤ k_) ∧ nS k_ Ao15 y104 co15 ∧ nS k_ Ao14 y107 co14 ∧ nS k_ Ao65 y124 co65 ∧ k_ ≠ gb101 ∧ k_ ≠ gb102 ∧ k_ ≠ gb103 ∧ k_ ≠ gb110 ∧ k_ ≠ gb111)) (vZ HO_103001) hg hat); have n2_ := aK (Kd.R_over' HO_111000.out (Kd.N_typed HO_112001.out) (by decide) hg); have n3_ := aK (Kd.N_afterv (ok := (fun k_ => ((P0_1_ k_ ∨ P2_1_ k_) ∨ w.heap.size ≤ k_) ∧ nS k_ Ao15 y104 co15 ∧ nS k_ Ao65 y124 co65 ∧ k_ ≠ gb101 ∧ k_ ≠ gb102 ∧ k_ ≠ gb103 ∧ k_ ≠ gb110 ∧ k_ ≠ gb111)) (nZ HO_111001) hg hat); have n4_ := aK (blk_grown BK101.out hg (Kd.N_ne HO_112001.out BK101.out (by decide))); have n5_ := aK (blk_grown BK102.out hg (Kd.N_away HO_112001.out (fun _ hk => hk.2.2.2.2.1))); have n6_ := aK (blk_grown BK103.out hg (Kd.N_ne HO_112001.out BK103.out (by decide))); have n7_ := aK (blk_grown BK110.out hg (Kd.N_ne HO_112001.out BK110.out (by decide))); have n8_ := aK (blk_grown BK111.out hg (Kd.N_ne HO_112001.out BK111.out (by decide))); have n9_ := aK (Kd.R_over' HO126.out (Kd.N_typed HO_112001.out) (by decide) hg); have n10_ := aK (hb); have HO129 := aK (ho); clear HO_102001; have HO_102001 := n0_; clear n0_; clear HO_103001; have HO_103001 := n1_; clear n1_; clear HO_111000; have HO_111000 := n2_; clear n2_; clear HO_111001; have HO_111001 := n3_; clear n3_; clear BK101; have BK101 := n4_; clear n4_; clear BK102; have BK102 := n5_; clear n5_; clear BK103; have BK103 := n6_; clear n6_; clear BK110; have BK110 := n7_; clear n7_; clear BK111; have BK111 := n8_; clear n8_; clear HO126; have HO126 := n9_; clear n9_; clear HB; have HB := n10_; clear n10_; clear HO_112001; clear ho hb hg hat; obtain ⟨Ao74, co74, eo74⟩ := Kd.N_slice HO129.out; subst eo74; obtain ⟨hcz75_0, hcz75_1, hfz75_0, hfz75_1⟩ := cA2 BK111) | ((with_reducible refine gate_builtin (b := .append) (xs := #[.tmp 46, .tmp 48]) rfl ?_); at_builtin; refine Kd.R_append (Kd.int .i64) (w0 := w) w.heap.size rfl (.tmp 46) (.tmp 48) 58 3 (.int .i64 0) 8 rfl Tryz.underlying58 info3 rfl (by decide) (by omega) (.slice Ao65 y124.length co65) y124 (rd l0_0 x21_1) [.int .i64 (rd l0_0 x21_1)] (fun k_ => (w.heap.size ≤ k_) ∧ nS k_ Ao15 y104 co15) (fun _ => False) rfl (by first | (go_simp; done) | (go_simp; rfl)) ?aP (fun _ hk => hk.elim) ?aF ?aO ?aB ?aS ?aL ?_; (case aP => exact rfl); (case aB => exact (pH HB)); (case aF => exact (fun k_ hk => ⟨(Nat.le_trans (below_size (pH HB)) hk), Kd.fresh' (Kd.R_lt (rY HO_111000 BK111)) k_ hk⟩)); (case aO => exact (rW HO126 BK111)); (case aS => exact (below_size (pH HB))); (case aL => have := LMc55.out; omega); intro v131 w76 ho hb hg hat; rw [← Ny130.out] at ho; have n_ := aJ (aM (Kd.V_afterv (ok := (fun k_ => ((P0_1_ k_ ∨ P2_1_ k_) ∨ w.heap.size ≤ k_) ∧ nS k_ Ao15 y104 co15 ∧ nS k_ Ao14 y107 co14 ∧ nS k_ Ao74 y127 co74 ∧ k_ ≠ gb101 ∧ k_ ≠ gb102 ∧ k_ ≠ gb103 ∧ k_ ≠ gb110 ∧ k_ ≠ gb111)) (vZ HO_102001) hg hat)) (aJ (aM (Kd.V_afterv (ok := (fun k_ => ((P0_1_ k_ ∨ P2_1_ k_) ∨ w.heap.size ≤ k_) ∧ nS k_ Ao15 y104 co15 ∧ nS k_ Ao14 y107 co14 ∧ nS k_ Ao74 y127 co74 ∧ k_ ≠ gb101 ∧ k_ ≠ gb102 ∧ k_ ≠ gb103 ∧ k_ ≠ gb110 ∧ k_ ≠ gb111)) (vZ HO_103001) hg hat)) (aJ (aM (Kd.R_after (ok := (fun k_ => (w.heap.size ≤ k_))) (rW HO_111000 BK111) hg hat)) (aJ (aM (Kd.N_afterv (ok := (fun k_ => ((P0_1_ k_ ∨ P2_1_ k_) ∨ w.heap.size ≤ k_) ∧ nS k_ Ao15 y104 co15 ∧ nS k_ Ao74 y127 co74 ∧ k_ ≠ gb101 ∧ k_ ≠ gb102 ∧ k_ ≠ gb103 ∧ k_ ≠ gb110 ∧ k_ ≠ gb111)) (nZ HO_111001) hg hat)) (aJ (bG BK101 hg (Kd.R_ne HO126.out BK101.out (by decide))) (aJ (bG BK102 hg (Kd.R_ne HO126.out BK102.out (by decide))) (aJ (bG BK103 hg (Kd.R_ne HO126.out BK103.out (by decide))) (aJ (bG BK110 hg (Kd.R_ne HO126.out BK110.out (by decide))) (aJ (aM (blk_grown (g := gb111) (o := .cells #[.slice Ao65 y124.length co65, .slice Ao74 y127.length co74] 60 (0, 0)) (bP BK111) hg (Kd.R_ne HO126.out BK111.out (by decide)))) (aJ (aM (Kd.N_afterv (ok := (fun k_ => ((P0_1_ k_ ∨ P2_1_ k_) ∨ w.heap.size ≤ k_) ∧ nS k_ Ao15 y104 co15 ∧ k_ ≠ gb101 ∧ k_ ≠ gb102 ∧ k_ ≠ gb103 ∧ k_ ≠ gb110 ∧ k_ ≠ gb111)) (nZ HO129) hg hat)) (aJ (aM (hb)) (aM (ho)))))))))))); clear HO_102001 HO_103001 HO_111000 HO_111001 BK101 BK102 BK103 BK110 BK111 HO129 HB HO126; obtain ⟨HO_102001, HO_103001, HO_111000, HO_111001, BK101, BK102, BK103, BK110, BK111, HO129, HB, HO132⟩ := n_; clear ho hb hg hat; obtain ⟨Ao77, co77, eo77⟩ := Kd.R_slice HO132.out; subst eo77; obtain ⟨hcz78_0, hcz78_1, hfz78_0, hfz78_1⟩ := cA2 BK111))
             have n0_ : Aside0 (Kd.V k55 55 (w76.setCell ⟨gb111, 0, none⟩ (.slice Ao77 y130.length co77)) w.heap.size (fun k_ => ((P0_1_ k_ ∨ P2_1_ k_) ∨ w.heap.size ≤ k_) ∧ nS k_ Ao15 y104 co15 ∧ nS k_ Ao14 y107 co14 ∧ nS k_ Ao74 y127 co74 ∧ nS k_ Ao77 y130 co77 ∧ k_ ≠ gb101 ∧ k_ ≠ gb102 ∧ k_ ≠ gb103 ∧ k_ ≠ gb110 ∧ k_ ≠ gb111) (.slice A0_1 l0_1.length c0_1) l0_1) := ⟨vZ HO_102001⟩
             have n1_ : Aside0 (Kd.V k55 55 (w76.setCell ⟨gb111, 0, none⟩ (.slice Ao77 y130.length co77)) w.heap.size (fun k_ => ((P0_1_ k_ ∨ P2_1_ k_) ∨ w.heap.size ≤ k_) ∧ nS k_ Ao15 y104 co15 ∧ nS k_ Ao14 y107 co14 ∧ nS k_ Ao74 y127 co74 ∧ nS k_ Ao77 y130 co77 ∧ k_ ≠ gb101 ∧ k_ ≠ gb102 ∧ k_ ≠ gb103 ∧ k_ ≠ gb110 ∧ k_ ≠ gb111) (.slice A2_1 l2_1.length c2_1) l2_1) := ⟨vZ HO_103001⟩
             have n2_ : Aside0 (Kd.R (Kd.int .i64) 3 (w76.setCell ⟨gb111, 0, none⟩ (.slice Ao77 y130.length co77)) w.heap.size (fun k_ => (w.heap.size ≤ k_) ∧ nS k_ Ao77 y130 co77) (.slice Ao15 y104.length co15) y104) := ⟨rW HO_111000 BK111⟩
             have n3_ : Aside0 (Kd.N k55 55 (w76.setCell ⟨gb111, 0, none⟩ (.slice Ao77 y130.length co77)) w.heap.size (fun k_ => ((P0_1_ k_ ∨ P2_1_ k_) ∨ w.heap.size ≤ k_) ∧ nS k_ Ao15 y104 co15 ∧ nS k_ Ao74 y127 co74 ∧ nS k_ Ao77 y130 co77 ∧ k_ ≠ gb101 ∧ k_ ≠ gb102 ∧ k_ ≠ gb103 ∧ k_ ≠ gb110 ∧ k_ ≠ gb111) (.slice Ao14 y107.length co14) y107) := ⟨nZ HO_111001⟩
             have n4_ : Aside0 (Kd.N k55 55 (w76.setCell ⟨gb111, 0, none⟩ (.slice Ao77 y130.length co77)) w.heap.size (fun k_ => ((P0_1_ k_ ∨ P2_1_ k_) ∨ w.heap.size ≤ k_) ∧ nS k_ Ao15 y104 co15 ∧ nS k_ Ao77 y130 co77 ∧ k_ ≠ gb101 ∧ k_ ≠ gb102 ∧ k_ ≠ gb103 ∧ k_ ≠ gb110 ∧ k_ ≠ gb111) (.slice Ao74 y127.length co74) y127) := ⟨nZ HO129⟩
             have n5_ : Aside0 (Kd.R (Kd.int .i64) 3 (w76.setCell ⟨gb111, 0, none⟩ (.slice Ao77 y130.length co77)) w.heap.size (fun k_ => (w.heap.size ≤ k_) ∧ nS k_ Ao15 y104 co15) (.slice Ao77 y130.length co77) y130) := ⟨rW HO132 BK111⟩
             have n6_ : Aside0 ((w76.setCell ⟨gb111, 0, none⟩ (.slice Ao77 y130.length co77)).heap[gb101]? = some (.cells #[.slice (some ad112) l0_0.length c0_0, .slice A0_1 l0_1.length c0_1] 60 (0, 0))) := ⟨bY BK101⟩
             have n7_ : Aside0 ((w76.setCell ⟨gb111, 0, none⟩ (.slice Ao77 y130.length co77)).heap[gb102]? = some (.cells #[.int .i64 a2_0, .slice A2_1 l2_1.length c2_1] 55 (0, 0))) := ⟨bY BK102⟩
             have n8_ : Aside0 ((w76.setCell ⟨gb111, 0, none⟩ (.slice Ao77 y130.length co77)).heap[gb103]? = some (.cells #[.slice none 0 0, .slice none 0 0] 60 (0, 0))) := ⟨bY BK103⟩
             have n9_ : Aside0 ((w76.setCell ⟨gb111, 0, none⟩ (.slice Ao77 y130.length co77)).heap[gb110]? = some (.cells #[.slice Ao15 y104.length co15, .slice Ao14 y107.length co14] 60 (0, 0))) := ⟨bY BK110⟩
             have n10_ : Aside0 ((w76.setCell ⟨gb111, 0, none⟩ (.slice Ao77 y130.length co77)).heap[gb111]? = some (.cells #[.slice Ao77 y130.length co77, .slice Ao74 y127.length co74] 60 (0, 0))) := ⟨bP BK111⟩
             have n11_ : Aside0 (Below w.heap.size w (w76.setCell ⟨gb111, 0, none⟩ (.slice Ao77 y130.length co77))) := ⟨pH HB⟩
             (try clear HO_102001)
             (try clear HO_103001)
             (try clear HO_111000)
             (try clear HO_111001)
             (try clear HO129)
             (try clear HO132)
             (try clear BK101)
             (try clear BK102)
             (try clear BK103)
             (try clear BK110)
             (try clear BK111)
             (try clear HB)
             generalize (w76.setCell ⟨gb111, 0, none⟩ (.slice Ao77 y130.length co77)) = w79 at n0_ n1_ n2_ n3_ n4_ n5_ n6_ n7_ n8_ n9_ n10_ n11_ ⊢
             have HO_102001 := n0_
             have HO_103001 := n1_
             have HO_111000 := n2_
             have HO_111001 := n3_
             have HO129 := n4_
             have HO132 := n5_
             have BK101 := n6_
             have BK102 := n7_
             have BK103 := n8_
             have BK110 := n9_
             have BK111 := n10_
             have HB := n11_
             clear n0_ n1_ n2_ n3_ n4_ n5_ n6_ n7_ n8_ n9_ n10_ n11_
             have n_ := aJ (vD HO_102001) (aJ (vD HO_103001) (aJ (rE HO_111000) (aJ (nD HO_111001) (aJ (nD HO129) (aJ (rE HO132) (aJ (aM (blk_drew BK101.out)) (aJ (aM (blk_drew BK102.out)) (aJ (aM (blk_drew BK103.out)) (aJ (aM (blk_drew BK110.out)) (aJ (aM (blk_drew BK111.out)) (aM (below_drew1 HB.out))))))))))))
             clear HO_102001 HO_103001 HO_111000 HO_111001 HO129 HO132 BK101 BK102 BK103 BK110 BK111 HB
             obtain ⟨HO_102001, HO_103001, HO_111000, HO_111001, HO129, HO132, BK101, BK102, BK103, BK110, BK111, HB⟩ := n_
             have p133 : 0 ≤ (x21_1 : Int) := dA
             have q133 : x21_1 < (l0_1.length : Int) := dA
             obtain ⟨ad133, A133_1, c133_1, e133, hx133_0, hx133_1, hl133_1, hi133_1⟩ := at_T55 (Kd.V_reads' HO_102001.out).2.2 x21_1 p133 q133
             cases e133
             obtain ⟨ce133, hce133, hMe133, hcc133⟩ := Kd.V_get HO_102001.out z55 x21_1 p133 (by first | exact q133 | exact dA | (have e_ := (Kd.V_reads' HO_102001.out).1; omega))
             obtain ⟨ua133_1, uc133_1, rfl, ul133_1, ge133_1⟩ := k55_openF hMe133
             have hv133_1 := hcc133 1 _ rfl
             rw [add_field _ _ 1 (by omega)] at hv133_1
             replace hv133_1 := Option.some.inj (hv133_1.symm.trans hx133_1)
             injection hv133_1 with hva_ hvn_ hvc_
             rw [hva_] at ge133_1
             rw [hvc_] at ul133_1
             have HL133_1 := aM (show Kd.V k55 55 _ w.heap.size _ _ ((rd_T55 l0_1 x21_1).f1) from Kd.V_mk ul133_1 ge133_1)
             clear hva_ hvn_ hvc_ ge133_1 ul133_1
             clear hcc133 hce133
             have HR133_1 := aM hi133_1
             have HC133_1 := aM hl133_1
             clear hi133_1 hl133_1
             replace p133 := eq_true p133
             replace q133 := eq_true q133
             refine start_ (n := 13) (S := fun w' => w'.cell? ⟨gb111, 0, none⟩ = some (.slice Ao77 y130.length co77) ∧ w'.cell? ⟨gb111, 1, none⟩ = some (.slice Ao74 y127.length co74) ∧ w'.cell? ⟨gb110, 0, none⟩ = some (.slice Ao15 y104.length co15) ∧ w'.cell? ⟨gb110, 1, none⟩ = some (.slice Ao14 y107.length co14) ∧ w'.cell? ⟨gb101, 0, none⟩ = some (.slice (some ad112) l0_0.length c0_0) ∧ w'.cell? ⟨gb101, 1, none⟩ = some (.slice (some ad133) l0_1.length c0_1) ∧ w'.cell? (ad133.add ((x21_1).toNat * 2)) = some (.int .i64 ((rd_T55 l0_1 x21_1).f0)) ∧ w'.cell? ⟨(ad133.add ((x21_1).toNat * 2)).block, (ad133.add ((x21_1).toNat * 2)).off + 1, none⟩ = some (.slice A133_1 ((rd_T55 l0_1 x21_1).f1).length c133_1)) (ds := [10, 12]) (bs 0 13) (by kernel_rfl) rfl rfl ⟨(blk_cell BK111.out 0).trans rfl, (blk_cell BK111.out 1).trans rfl, (blk_cell BK110.out 0).trans rfl, (blk_cell BK110.out 1).trans rfl, (blk_cell BK101.out 0).trans rfl, (blk_cell BK101.out 1).trans rfl, hx133_0, hx133_1⟩ (fun hHeld => ?_); refine with_tabW spec_lePut.tab12 spec_lePut.bits12 (fun HT_ HW_ => ?_)
             generalize w79.drew = w80 at HO_102001 HO_103001 HO_111000 HO_111001 HO129 HO132 BK101 BK102 BK103 BK110 BK111 HB HL133_1 HR133_1 hx133_0 hx133_1 hHeld ⊢
             refine pQ 0 51 HT_ ?_
             refine pQ 3 54 HT_ ?_
             refine pQ 5 56 HT_ ?_
             refine tQ 1 52 HT_ HW_ hHeld ?_
             refine tQ 2 53 HT_ HW_ hHeld ?_
             refine tQ 4 55 HT_ HW_ hHeld ?_
             refine pQ 6 57 HT_ ?_
             refine tQ 7 58 HT_ HW_ hHeld ?_
             refine oQ 8 59 HT_ (fun K hK => ?_)
             refine goes_ Tryz.func26 (by kernel_rfl) rfl #[.agg #[.slice Ao15 y104.length co15, .slice Ao14 y107.length co14], .agg #[.int .i64 ((rd_T55 l0_1 x21_1).f0), .slice A133_1 ((rd_T55 l0_1 x21_1).f1).length c133_1]] (by rfl) rfl rfl tA ?_
             with_reducible refine (spec_leApply.calls k1 _ _ y104 (fun k_ => (((P0_1_ k_ ∨ P2_1_ k_) ∨ w.heap.size ≤ k_) ∧ (nS k_ Ao15 y104 co15 ∧ (nS k_ Ao74 y127 co74 ∧ (nS k_ Ao77 y130 co77 ∧ (k_ ≠ gb101 ∧ (k_ ≠ gb102 ∧ (k_ ≠ gb103 ∧ (k_ ≠ gb110 ∧ k_ ≠ gb111))))))))) _ _ y107 ((rd_T55 l0_1 x21_1).f0) (fun k_ => (((P0_1_ k_ ∨ P2_1_ k_) ∨ w.heap.size ≤ k_) ∧ (nS k_ Ao15 y104 co15 ∧ (nS k_ Ao14 y107 co14 ∧ (nS k_ Ao74 y127 co74 ∧ (nS k_ Ao77 y130 co77 ∧ (k_ ≠ gb101 ∧ (k_ ≠ gb102 ∧ (k_ ≠ gb103 ∧ (k_ ≠ gb110 ∧ k_ ≠ gb111)))))))))) _ _ ((rd_T55 l0_1 x21_1).f1) t134 t135 _ ?side1 ?side2 ?side3 ?side4 A57.out).mono ?_
             (case side1 => exact sC ((Kd.R_reads' HO_111000.out).2.2))
             (case side2 => exact (Kd.R_reads' HO_111000.out).2.1)
             (case side3 => exact Kd.N_V (HO_111001.out))
             (case side4 => exact HL133_1.out)
             rintro e w81 ⟨v136, rfl, ho0, hb⟩
             have HS6_ := (hb.cell (World.block_lt_of_cell? _ _ (hHeld.2.2.2.2.2.2.1))).trans (hHeld.2.2.2.2.2.2.1)
             have HS7_ := (hb.cell (World.block_lt_of_cell? _ _ (hHeld.2.2.2.2.2.2.2))).trans (hHeld.2.2.2.2.2.2.2)
             refine ⟨_, rfl, ?_⟩
             have n_ := aJ (vB HO_102001 hb) (aJ (vB HO_103001 hb) (aJ (rB HO_111000 hb) (aJ (nB HO_111001 hb) (aJ (nB HO129 hb) (aJ (rB HO132 hb) (aJ (vB HL133_1 hb) (aJ (aM (Kd.V_lower (Kd.V_mono (ok' := fun k_ => ((P0_1_ k_ ∨ P2_1_ k_) ∨ w.heap.size ≤ k_) ∧ nS k_ Ao15 y104 co15 ∧ nS k_ Ao74 y127 co74 ∧ nS k_ Ao77 y130 co77 ∧ k_ ≠ gb101 ∧ k_ ≠ gb102 ∧ k_ ≠ gb103 ∧ k_ ≠ gb110 ∧ k_ ≠ gb111) ho0 (fun k_ hk_ => ⟨Or.elim hk_ (fun hs_ => Or.elim hs_ (fun hs_ => hs_.1) (fun hs_ => hs_.1)) (fun hn_ => (.inr (Nat.le_trans (below_size (pH HB)) hn_))), Or.elim hk_ (fun hs_ => Or.elim hs_ (fun hs_ => hs_.2.1) (fun hs_ => hs_.2.1)) (fun hn_ => (Kd.fresh' (Kd.R_lt HO_111000.out) k_ hn_)), Or.elim hk_ (fun hs_ => Or.elim hs_ (fun hs_ => hs_.2.2.1) (fun hs_ => hs_.2.2.2.1)) (fun hn_ => (Kd.fresh' (Kd.N_lt HO129.out) k_ hn_)), Or.elim hk_ (fun hs_ => Or.elim hs_ (fun hs_ => hs_.2.2.2.1) (fun hs_ => hs_.2.2.2.2.1)) (fun hn_ => (Kd.fresh' (Kd.R_lt HO132.out) k_ hn_)), Or.elim hk_ (fun hs_ => Or.elim hs_ (fun hs_ => hs_.2.2.2.2.1) (fun hs_ => hs_.2.2.2.2.2.1)) (fun hn_ => (Kd.freshB BK101.out k_ hn_)), Or.elim hk_ (fun hs_ => Or.elim hs_ (fun hs_ => hs_.2.2.2.2.2.1) (fun hs_ => hs_.2.2.2.2.2.2.1)) (fun hn_ => (Kd.freshB BK102.out k_ hn_)), Or.elim hk_ (fun hs_ => Or.elim hs_ (fun hs_ => hs_.2.2.2.2.2.2.1) (fun hs_ => hs_.2.2.2.2.2.2.2.1)) (fun hn_ => (Kd.freshB BK103.out k_ hn_)), Or.elim hk_ (fun hs_ => Or.elim hs_ (fun hs_ => hs_.2.2.2.2.2.2.2.1) (fun hs_ => hs_.2.2.2.2.2.2.2.2.1)) (fun hn_ => (Kd.freshB BK110.out k_ hn_)), Or.elim hk_ (fun hs_ => Or.elim hs_ (fun hs_ => hs_.2.2.2.2.2.2.2.2) (fun hs_ => hs_.2.2.2.2.2.2.2.2.2)) (fun hn_ => (Kd.freshB BK111.out k_ hn_))⟩)) (below_size (pH HB)))) (aJ (qb BK101 hb) (aJ (qb BK102 hb) (aJ (qb BK103 hb) (aJ (qb BK110 hb) (aJ (qb BK111 hb) (aJ (aM (Kd.C_below (by repeat (first | (with_reducible exact HR133_1.out) | (with_reducible refine Kd.C_alloc ?_ _) | (with_reducible refine Kd.C_drewN ?_ _) | (with_reducible refine Kd.C_drew ?_) | exact HR133_1.out)) hb)) (aM (below_step (pH HB) hb)))))))))))))))
             clear HO_102001 HO_103001 HO_111000 HO_111001 HO129 HO132 HL133_1 BK101 BK102 BK103 BK110 BK111 HR133_1 HB
             obtain ⟨HO_102001, HO_103001, HO_111000, HO_111001, HO129, HO132, HL133_1, HO137, BK101, BK102, BK103, BK110, BK111, HR133_1, HB⟩ := n_
             (try clear hb)
             (try clear hb2)
             (try clear hk)
             (try clear hi)
             (try clear ho0)
             obtain ⟨Ao83, co83, eo83⟩ := Kd.V_slice HO137.out
             (first | subst eo83 | (injection eo83 with f1_ f2_ f3_; have f4_ := f1_.symm; have f5_ := f3_.symm; clear f1_ f2_ f3_; subst f4_; subst f5_))
             refine hK.out _ _ ⟨(blk_cell BK111.out 0).trans rfl, (blk_cell BK111.out 1).trans rfl, (blk_cell BK110.out 0).trans rfl, (blk_cell BK110.out 1).trans rfl, (blk_cell BK101.out 0).trans rfl, (blk_cell BK101.out 1).trans rfl, HS6_, HS7_⟩ (fun hHeld => ?_)
             clear hK K
             refine nQ 59 ?_
             refine oQ 9 60 HT_ (fun K hK => ?_)
             refine value_ (w1 := ?_) (v := ?_) (by rfl) rfl ?_ ?_
             rotate_left 2
             ·go_simp
              constructor
              ·rfl
              ·rfl
             refine hK.out _ _ ⟨(blk_cell (blk_alloc BK111.out _) 0).trans rfl, (blk_cell (blk_alloc BK111.out _) 1).trans rfl, (blk_cell (blk_alloc BK110.out _) 0).trans rfl, (blk_cell (blk_alloc BK110.out _) 1).trans rfl, (blk_cell (blk_alloc BK101.out _) 0).trans rfl, (blk_cell (blk_alloc BK101.out _) 1).trans rfl, (World.cell?_alloc_lt _ _ _ (World.block_lt_of_cell? _ _ (hHeld.2.2.2.2.2.2.1))).trans (hHeld.2.2.2.2.2.2.1), (World.cell?_alloc_lt _ _ _ (World.block_lt_of_cell? _ _ (hHeld.2.2.2.2.2.2.2))).trans (hHeld.2.2.2.2.2.2.2)⟩ (fun hHeld => ?_)
             clear hK K
             refine nQ 60 ?_
             refine last_ (i := 10) (N := some 61) (bs 11 2) rfl rfl (one_of HT_.out (by kernel_rfl)) (by decide) (fun K hK => ?_)
             refine Kd.N_append_step k55 (w0 := w) w.heap.size (by rfl) (.tmp 52) (.tmp 60) 53 55 (.agg #[(.int .i64 0), (.slice none 0 0)]) 32 rfl Tryz.underlying53 info55 rfl (by decide) (by omega) (.slice Ao74 y127.length co74) y127 (⟨t134, t135⟩ : S55) [.int .i64 t134, .slice Ao83 t135.length co83] (fun k_ => ((P0_1_ k_ ∨ P2_1_ k_) ∨ w.heap.size ≤ k_) ∧ nS k_ Ao15 y104 co15 ∧ nS k_ Ao77 y130 co77 ∧ k_ ≠ gb101 ∧ k_ ≠ gb102 ∧ k_ ≠ gb103 ∧ k_ ≠ gb110 ∧ k_ ≠ gb111) (fun k_ => ((fun k_ => ((P0_1_ k_ ∨ P2_1_ k_) ∨ w.heap.size ≤ k_) ∧ nS k_ Ao15 y104 co15 ∧ nS k_ Ao77 y130 co77 ∧ k_ ≠ gb101 ∧ k_ ≠ gb102 ∧ k_ ≠ gb103 ∧ k_ ≠ gb110 ∧ k_ ≠ gb111)) k_ ∧ nS k_ Ao74 y127 co74) rfl rfl ?aP (fun _ hk => hk) ?aF ?aO ?aB ?aS ?aL ?_
             (case aP => exact (k55_mkF _ _ (⟨t134, t135⟩ : S55) (Kd.V_reads' (Kd.V_mono (ok' := (fun k_ => ((fun k_ => ((P0_1_ k_ ∨ P2_1_ k_) ∨ w.heap.size ≤ k_) ∧ nS k_ Ao15 y104 co15 ∧ nS k_ Ao77 y130 co77 ∧ k_ ≠ gb101 ∧ k_ ≠ gb102 ∧ k_ ≠ gb103 ∧ k_ ≠ gb110 ∧ k_ ≠ gb111)) k_ ∧ nS k_ Ao74 y127 co74)) (HO137.out) (fun k_ hk => ⟨⟨hk.1, ⟨hk.2.1, ⟨hk.2.2.2.1, ⟨hk.2.2.2.2.1, ⟨hk.2.2.2.2.2.1, ⟨hk.2.2.2.2.2.2.1, ⟨hk.2.2.2.2.2.2.2.1, hk.2.2.2.2.2.2.2.2⟩⟩⟩⟩⟩⟩⟩, hk.2.2.1⟩))).2.1 (Kd.V_F (Kd.V_mono (ok' := (fun k_ => ((fun k_ => ((P0_1_ k_ ∨ P2_1_ k_) ∨ w.heap.size ≤ k_) ∧ nS k_ Ao15 y104 co15 ∧ nS k_ Ao77 y130 co77 ∧ k_ ≠ gb101 ∧ k_ ≠ gb102 ∧ k_ ≠ gb103 ∧ k_ ≠ gb110 ∧ k_ ≠ gb111)) k_ ∧ nS k_ Ao74 y127 co74)) (HO137.out) (fun k_ hk => ⟨⟨hk.1, ⟨hk.2.1, ⟨hk.2.2.2.1, ⟨hk.2.2.2.2.1, ⟨hk.2.2.2.2.2.1, ⟨hk.2.2.2.2.2.2.1, ⟨hk.2.2.2.2.2.2.2.1, hk.2.2.2.2.2.2.2.2⟩⟩⟩⟩⟩⟩⟩, hk.2.2.1⟩)))))
             (case aB => exact (pH HB))
             (case aF => exact (fun k_ hk => ⟨(.inr (Nat.le_trans (below_size (pH HB)) hk)), Kd.fresh' (Kd.R_lt HO_111000.out) k_ hk, Kd.fresh' (Kd.R_lt HO132.out) k_ hk, Kd.freshB BK101.out k_ hk, Kd.freshB BK102.out k_ hk, Kd.freshB BK103.out k_ hk, Kd.freshB BK110.out k_ hk, Kd.freshB BK111.out k_ hk⟩))
             (case aO => exact HO129.out)
             (case aS => exact (below_size (pH HB)))
             (case aL => have := LMc58.out; omega)
             intro v139 w82 ho hb hg hat
             rw [← Ny138.out] at ho
             have n_ := aJ (aM (Kd.V_afterv (ok := (fun k_ => ((P0_1_ k_ ∨ P2_1_ k_) ∨ w.heap.size ≤ k_) ∧ nS k_ Ao15 y104 co15 ∧ nS k_ Ao14 y107 co14 ∧ nS k_ Ao77 y130 co77 ∧ k_ ≠ gb101 ∧ k_ ≠ gb102 ∧ k_ ≠ gb103 ∧ k_ ≠ gb110 ∧ k_ ≠ gb111)) (vZ HO_102001) hg hat)) (aJ (aM (Kd.V_afterv (ok := (fun k_ => ((P0_1_ k_ ∨ P2_1_ k_) ∨ w.heap.size ≤ k_) ∧ nS k_ Ao15 y104 co15 ∧ nS k_ Ao14 y107 co14 ∧ nS k_ Ao77 y130 co77 ∧ k_ ≠ gb101 ∧ k_ ≠ gb102 ∧ k_ ≠ gb103 ∧ k_ ≠ gb110 ∧ k_ ≠ gb111)) (vZ HO_103001) hg hat)) (aJ (aM (Kd.R_over' HO_111000.out (Kd.N_typed HO129.out) (by decide) hg)) (aJ (aM (Kd.N_afterv (ok := (fun k_ => ((P0_1_ k_ ∨ P2_1_ k_) ∨ w.heap.size ≤ k_) ∧ nS k_ Ao15 y104 co15 ∧ nS k_ Ao77 y130 co77 ∧ k_ ≠ gb101 ∧ k_ ≠ gb102 ∧ k_ ≠ gb103 ∧ k_ ≠ gb110 ∧ k_ ≠ gb111)) (nZ HO_111001) hg hat)) (aJ (aM (blk_grown BK101.out hg (Kd.N_ne HO129.out BK101.out (by decide)))) (aJ (aM (blk_grown BK102.out hg (Kd.N_away HO129.out (fun _ hk => hk.2.2.2.2.1)))) (aJ (aM (blk_grown BK103.out hg (Kd.N_ne HO129.out BK103.out (by decide)))) (aJ (aM (blk_grown BK110.out hg (Kd.N_ne HO129.out BK110.out (by decide)))) (aJ (aM (blk_grown BK111.out hg (Kd.N_ne HO129.out BK111.out (by decide)))) (aJ (aM (Kd.R_over' HO132.out (Kd.N_typed HO129.out) (by decide) hg)) (aJ (aM (Kd.V_afterv (ok := (fun k_ => ((P0_1_ k_ ∨ P2_1_ k_) ∨ w.heap.size ≤ k_) ∧ nS k_ Ao15 y104 co15 ∧ nS k_ Ao14 y107 co14 ∧ nS k_ Ao77 y130 co77 ∧ k_ ≠ gb101 ∧ k_ ≠ gb102 ∧ k_ ≠ gb103 ∧ k_ ≠ gb110 ∧ k_ ≠ gb111)) (vZ HL133_1) hg hat)) (aJ (aM (Kd.V_afterv (ok := (fun k_ => ((P0_1_ k_ ∨ P2_1_ k_) ∨ w.heap.size ≤ k_) ∧ nS k_ Ao15 y104 co15 ∧ nS k_ Ao77 y130 co77 ∧ k_ ≠ gb101 ∧ k_ ≠ gb102 ∧ k_ ≠ gb103 ∧ k_ ≠ gb110 ∧ k_ ≠ gb111)) (vZ HO137) hg hat)) (aJ (aM (hb)) (aM (ho))))))))))))))
             clear HO_102001 HO_103001 HO_111000 HO_111001 BK101 BK102 BK103 BK110 BK111 HO132 HL133_1 HO137 HB HO129
             obtain ⟨HO_102001, HO_103001, HO_111000, HO_111001, BK101, BK102, BK103, BK110, BK111, HO132, HL133_1, HO137, HB, HO140⟩ := n_
             clear ho hb hg hat
             obtain ⟨Ao84, co84, eo84⟩ := Kd.N_slice HO140.out
             (first | subst eo84 | (injection eo84 with f1_ f2_ f3_; have f4_ := f1_.symm; have f5_ := f3_.symm; clear f1_ f2_ f3_; subst f4_; subst f5_))
             refine hK.out _ _ ?_
             clear hK K
             refine nQ 61 ?_
             refine pQ 11 62 HT_ ?_
             refine last_ (i := 12) (N := none) (bs 13 0) rfl rfl (one_of HT_.out (by kernel_rfl)) (by decide) (fun K hK => ?_)
             have hs85 : w82.cell? ⟨gb111, 1, none⟩ = some (.slice Ao74 y127.length co74) := (blk_cell BK111.out 1).trans rfl
             have hfs85 := blk_frozen BK111.out 1
             have hns85_0 := NB101_111.out
             have hns85_1 := NB102_111.out
             have hns85_2 := NB103_111.out
             have hns85_3 := NB110_111.out
             have hms85_0 := NB111_101.out
             have hms85_1 := NB111_102.out
             have hms85_2 := NB111_103.out
             have hms85_3 := NB111_110.out
             refine skip_ (w1 := ?_) (by rfl) rfl ?_ ?_
             rotate_left
             ·go_simp
              rfl
             refine hK.out _ _ ?_
             clear hK K
             refine done_ (done_of HT_.out (by kernel_rfl)) ?_
             try go_wp2
             go_roundg k1
             case measure => have := HK1.out; omega
             case rel => exact ⟨(true), (wrap64 (x21_1 + 1)), (y130), (y138), (.slice Ao77 y130.length co77), (.slice Ao84 y138.length co84), rS, rS, H', ⟨by have := HK1.out; omega⟩, ⟨vZ HO_102001⟩, ⟨vZ HO_103001⟩, ⟨rW HO_111000 BK111⟩, ⟨nZ HO_111001⟩, ⟨rW HO132 BK111⟩, ⟨nZ HO140⟩, ⟨bY BK101⟩, ⟨bY BK102⟩, ⟨bY BK103⟩, ⟨bY BK110⟩, ⟨bP BK111⟩, ⟨pH HB⟩⟩
            ·rw [if_neg c58] at H
             exact absurd H (by simp)
           ·rw [if_neg c56] at H
            exact absurd H (by simp)
          ·rw [if_neg c55] at H
           exact absurd H (by simp)
         ·rw [if_neg c54] at H
          exact absurd H (by simp)
        ·rw [if_neg c53] at H
         exact absurd H (by simp)
       ·rw [if_neg c52] at H
        have c52b0 : decide (a1 < (rd l0_0 x21_1)) = false := decide_eq_false c52
        clear c52
        by_cases c86 : x112000_1.length < 17592186044416
        ·rw [if_pos c86] at H
         have LMc86 := aM c86
         clear c86
         obtain ⟨y141, hy141⟩ : ∃ y_ : List Int, y_ = (x112000_1 ++ [rd l0_0 x21_1]) := ⟨_, rfl⟩
         replace H : (if x21_1 < (l0_1.length : Int) then ((spec_leApply.f k1 y104 y107 ((rd_T55 l0_1 x21_1).f0) ((rd_T55 l0_1 x21_1).f1)).bind fun bt145 => (if x112001_1.length < 4398046511104 then (spec_lePut.l0 k1 a1 false l0_0 (l0_0.length : Int) (wrap64 (x21_1 + 1)) l0_0 l0_1 a2_0 l2_1 y104 y107 y141 (x112001_1 ++ [(⟨bt145.1, bt145.2⟩ : S55)])) else (none))) else (none)) = some (r1, r2) := by first | (rw [hy141]; with_reducible exact H) | (have H2_ := (Option.bind_some _ _).symm.trans H; rw [hy141]; with_reducible exact H2_) | (have H2_ := (Option.bind_some _ _).symm.trans H; with_reducible exact H2_) | with_reducible exact H | (rw [hy141]; exact H) | exact H
         have Ny141 := aM hy141
         clear hy141
         by_cases c87 : x21_1 < (l0_1.length : Int)
         ·rw [if_pos c87] at H
          have c87b0 : decide (x21_1 < (l0_1.length : Int)) = true := decide_eq_true c87
          clear c87
          replace H := Option.bind_eq_some_iff.mp H
          obtain ⟨⟨t145, t146⟩, A880, H⟩ := H
          try dsimp only at H
          have A88 := aM A880
          clear A880
          by_cases c89 : x112001_1.length < 4398046511104
          ·rw [if_pos c89] at H
           have LMc89 := aM c89
           clear c89
           obtain ⟨y149, hy149⟩ : ∃ y_ : List (S55), y_ = (x112001_1 ++ [(⟨t145, t146⟩ : S55)]) := ⟨_, rfl⟩
           replace H : (spec_lePut.l0 k1 a1 false l0_0 (l0_0.length : Int) (wrap64 (x21_1 + 1)) l0_0 l0_1 a2_0 l2_1 y104 y107 y141 y149) = some (r1, r2) := by first | (rw [hy149]; with_reducible exact H) | (have H2_ := (Option.bind_some _ _).symm.trans H; rw [hy149]; with_reducible exact H2_) | (have H2_ := (Option.bind_some _ _).symm.trans H; with_reducible exact H2_) | with_reducible exact H | (rw [hy149]; exact H) | exact H
           have Ny149 := aM hy149
           clear hy149
           have H' := aM H
           clear H
           have p112 : 0 ≤ (x21_1 : Int) := dA
           have q112 : x21_1 < (l0_0.length : Int) := dA
           obtain ⟨ad112, e112, hx112_0⟩ := Kd.at_int HR0_0.out x21_1 p112 q112
           cases e112
           replace hx112_0 := uC HB hx112_0
           replace p112 := eq_true p112
           replace q112 := eq_true q112
           have hnb90 := NB111_101.out
           have hnc90 := NB101_111.out
           have hnb91 := NB111_102.out
           have hnc91 := NB102_111.out
           have hnb92 := NB111_103.out
           have hnc92 := NB103_111.out
           have hnb93 := NB111_110.out
           have hnc93 := NB110_111.out
           obtain ⟨hcz94_0, hcz94_1, hfz94_0, hfz94_1⟩ := cA2 BK111
           try go_wp2_with (first | ((with_reducible refine gate_builtin (b := .append) (xs := #[.tmp 46, .tmp 48]) rfl ?_); at_builtin; refine Kd.R_append (Kd.int .i64) (w0 := w) w.heap.size rfl (.tmp 46) (.tmp 48) 58 3 (.int .i64 0) 8 rfl Tryz.underlying58 info3 rfl (by decide) (by omega) u112000 x112000_1 (rd l0_0 x21_1) [.int .i64 (rd l0_0 x21_1)] (fun k_ => (w.heap.size ≤ k_) ∧ nS k_ Ao15 y104 co15) (fun _ => False) rfl rfl ?aP (fun _ hk => hk.elim) ?aF ?aO ?aB ?aS ?aL ?_; (case aP => exact rfl); (case aB => exact (pH HB)); (case aF => exact (fun k_ hk => ⟨(Nat.le_trans (below_size (pH HB)) hk), Kd.fresh' (Kd.R_lt HO_111000.out) k_ hk⟩)); (case aO => exact HO_112000.out); (case aS => exact (below_size (pH HB))); (case aL => have := LMc86.out; omega); intro v142 w95 ho hb hg hat; rw [← Ny141.out] at ho; have n0_ := aK (Kd.V_afterv (ok := (fun k_ => ((P0_1_ k_ ∨ P2_1_ k_) ∨ w.heap.size ≤ k_) ∧ nS k_ Ao15 y104 co15 ∧ nS k_ Ao14 y107 co14 ∧ some k_ ≠ (u112001 : Value).ownBlock ∧ k_ ≠ gb101 ∧ k_ ≠ gb102 ∧ k_ ≠ gb103 ∧ k_ ≠ gb110 ∧ k_ ≠ gb111)) (vZ HO_102001) hg hat); have n1_ := aK (Kd.V_afterv (ok := (fun k_ => ((P0_1_ k_ ∨ P2_1_ k_) ∨ w.heap.size ≤ k_) ∧ nS k_ Ao15 y104 co15 ∧ nS k_ Ao14 y107 co14 ∧ some k_ ≠ (u112001 : Value).ownBlock ∧ k_ ≠ gb101 ∧ k_ ≠ gb102 ∧ k_ ≠ gb103 ∧ k_ ≠ gb110 ∧ k_ ≠ gb111)) (vZ HO_103001) hg hat); have n2_ := aK (Kd.R_after (ok := (fun k_ => (w.heap.size ≤ k_))) HO_111000.out hg hat); have n3_ := aK (Kd.N_afterv (ok := (fun k_ => ((P0_1_ k_ ∨ P2_1_ k_) ∨ w.heap.size ≤ k_) ∧ nS k_ Ao15 y104 co15 ∧ some k_ ≠ (u112001 : Value).ownBlock ∧ k_ ≠ gb101 ∧ k_ ≠ gb102 ∧ k_ ≠ gb103 ∧ k_ ≠ gb110 ∧ k_ ≠ gb111)) (nZ HO_111001) hg hat); have n4_ := aK (Kd.N_afterv (ok := (fun k_ => ((P0_1_ k_ ∨ P2_1_ k_) ∨ w.heap.size ≤ k_) ∧ nS k_ Ao15 y104 co15 ∧ k_ ≠ gb101 ∧ k_ ≠ gb102 ∧ k_ ≠ gb103 ∧ k_ ≠ gb110 ∧ k_ ≠ gb111)) (nZ HO_112001) hg hat); have n5_ := aK (blk_grown BK101.out hg (Kd.R_ne HO_112000.out BK101.out (by decide))); have n6_ := aK (blk_grown BK102.out hg (Kd.R_ne HO_112000.out BK102.out (by decide))); have n7_ := aK (blk_grown BK103.out hg (Kd.R_ne HO_112000.out BK103.out (by decide))); have n8_ := aK (blk_grown BK110.out hg (Kd.R_ne HO_112000.out BK110.out (by decide))); have n9_ := aK (blk_grown BK111.out hg (Kd.R_ne HO_112000.out BK111.out (by decide))); have n10_ := aK (hb); have HO143 := aK (ho); clear HO_102001; have HO_102001 := n0_; clear n0_; clear HO_103001; have HO_103001 := n1_; clear n1_; clear HO_111000; have HO_111000 := n2_; clear n2_; clear HO_111001; have HO_111001 := n3_; clear n3_; clear HO_112001; have HO_112001 := n4_; clear n4_; clear BK101; have BK101 := n5_; clear n5_; clear BK102; have BK102 := n6_; clear n6_; clear BK103; have BK103 := n7_; clear n7_; clear BK110; have BK110 := n8_; clear n8_; clear BK111; have BK111 := n9_; clear n9_; clear HB; have HB := n10_; clear n10_; clear HO_112000; clear ho hb hg hat; obtain ⟨Ao96, co96, eo96⟩ := Kd.R_slice HO143.out; subst eo96; obtain ⟨hcz97_0, hcz97_1, hfz97_0, hfz97_1⟩ := cA2 BK111))
           have n0_ : Aside0 (Kd.V k55 55 (w95.setCell ⟨gb111, 0, none⟩ (.slice Ao96 y141.length co96)) w.heap.size (fun k_ => ((P0_1_ k_ ∨ P2_1_ k_) ∨ w.heap.size ≤ k_) ∧ nS k_ Ao15 y104 co15 ∧ nS k_ Ao14 y107 co14 ∧ some k_ ≠ (u112001 : Value).ownBlock ∧ nS k_ Ao96 y141 co96 ∧ k_ ≠ gb101 ∧ k_ ≠ gb102 ∧ k_ ≠ gb103 ∧ k_ ≠ gb110 ∧ k_ ≠ gb111) (.slice A0_1 l0_1.length c0_1) l0_1) := ⟨vZ HO_102001⟩
           have n1_ : Aside0 (Kd.V k55 55 (w95.setCell ⟨gb111, 0, none⟩ (.slice Ao96 y141.length co96)) w.heap.size (fun k_ => ((P0_1_ k_ ∨ P2_1_ k_) ∨ w.heap.size ≤ k_) ∧ nS k_ Ao15 y104 co15 ∧ nS k_ Ao14 y107 co14 ∧ some k_ ≠ (u112001 : Value).ownBlock ∧ nS k_ Ao96 y141 co96 ∧ k_ ≠ gb101 ∧ k_ ≠ gb102 ∧ k_ ≠ gb103 ∧ k_ ≠ gb110 ∧ k_ ≠ gb111) (.slice A2_1 l2_1.length c2_1) l2_1) := ⟨vZ HO_103001⟩
           have n2_ : Aside0 (Kd.R (Kd.int .i64) 3 (w95.setCell ⟨gb111, 0, none⟩ (.slice Ao96 y141.length co96)) w.heap.size (fun k_ => (w.heap.size ≤ k_) ∧ nS k_ Ao96 y141 co96) (.slice Ao15 y104.length co15) y104) := ⟨rW HO_111000 BK111⟩
           have n3_ : Aside0 (Kd.N k55 55 (w95.setCell ⟨gb111, 0, none⟩ (.slice Ao96 y141.length co96)) w.heap.size (fun k_ => ((P0_1_ k_ ∨ P2_1_ k_) ∨ w.heap.size ≤ k_) ∧ nS k_ Ao15 y104 co15 ∧ some k_ ≠ (u112001 : Value).ownBlock ∧ nS k_ Ao96 y141 co96 ∧ k_ ≠ gb101 ∧ k_ ≠ gb102 ∧ k_ ≠ gb103 ∧ k_ ≠ gb110 ∧ k_ ≠ gb111) (.slice Ao14 y107.length co14) y107) := ⟨nZ HO_111001⟩
           have n4_ : Aside0 (Kd.N k55 55 (w95.setCell ⟨gb111, 0, none⟩ (.slice Ao96 y141.length co96)) w.heap.size (fun k_ => ((P0_1_ k_ ∨ P2_1_ k_) ∨ w.heap.size ≤ k_) ∧ nS k_ Ao15 y104 co15 ∧ nS k_ Ao96 y141 co96 ∧ k_ ≠ gb101 ∧ k_ ≠ gb102 ∧ k_ ≠ gb103 ∧ k_ ≠ gb110 ∧ k_ ≠ gb111) u112001 x112001_1) := ⟨nZ HO_112001⟩
           have n5_ : Aside0 (Kd.R (Kd.int .i64) 3 (w95.setCell ⟨gb111, 0, none⟩ (.slice Ao96 y141.length co96)) w.heap.size (fun k_ => (w.heap.size ≤ k_) ∧ nS k_ Ao15 y104 co15) (.slice Ao96 y141.length co96) y141) := ⟨rW HO143 BK111⟩
           have n6_ : Aside0 ((w95.setCell ⟨gb111, 0, none⟩ (.slice Ao96 y141.length co96)).heap[gb101]? = some (.cells #[.slice (some ad112) l0_0.length c0_0, .slice A0_1 l0_1.length c0_1] 60 (0, 0))) := ⟨bY BK101⟩
           have n7_ : Aside0 ((w95.setCell ⟨gb111, 0, none⟩ (.slice Ao96 y141.length co96)).heap[gb102]? = some (.cells #[.int .i64 a2_0, .slice A2_1 l2_1.length c2_1] 55 (0, 0))) := ⟨bY BK102⟩
           have n8_ : Aside0 ((w95.setCell ⟨gb111, 0, none⟩ (.slice Ao96 y141.length co96)).heap[gb103]? = some (.cells #[.slice none 0 0, .slice none 0 0] 60 (0, 0))) := ⟨bY BK103⟩
           have n9_ : Aside0 ((w95.setCell ⟨gb111, 0, none⟩ (.slice Ao96 y141.length co96)).heap[gb110]? = some (.cells #[.slice Ao15 y104.length co15, .slice Ao14 y107.length co14] 60 (0, 0))) := ⟨bY BK110⟩
           have n10_ : Aside0 ((w95.setCell ⟨gb111, 0, none⟩ (.slice Ao96 y141.length co96)).heap[gb111]? = some (.cells #[.slice Ao96 y141.length co96, u112001] 60 (0, 0))) := ⟨bP BK111⟩
           have n11_ : Aside0 (Below w.heap.size w (w95.setCell ⟨gb111, 0, none⟩ (.slice Ao96 y141.length co96))) := ⟨pH HB⟩
           (try clear HO_102001)
           (try clear HO_103001)
           (try clear HO_111000)
           (try clear HO_111001)
           (try clear HO_112001)
           (try clear HO143)
           (try clear BK101)
           (try clear BK102)
           (try clear BK103)
           (try clear BK110)
           (try clear BK111)
           (try clear HB)
           generalize (w95.setCell ⟨gb111, 0, none⟩ (.slice Ao96 y141.length co96)) = w98 at n0_ n1_ n2_ n3_ n4_ n5_ n6_ n7_ n8_ n9_ n10_ n11_ ⊢
           have HO_102001 := n0_
           have HO_103001 := n1_
           have HO_111000 := n2_
           have HO_111001 := n3_
           have HO_112001 := n4_
           have HO143 := n5_
           have BK101 := n6_
           have BK102 := n7_
           have BK103 := n8_
           have BK110 := n9_
           have BK111 := n10_
           have HB := n11_
           clear n0_ n1_ n2_ n3_ n4_ n5_ n6_ n7_ n8_ n9_ n10_ n11_
           have n_ := aJ (vD HO_102001) (aJ (vD HO_103001) (aJ (rE HO_111000) (aJ (nD HO_111001) (aJ (nD HO_112001) (aJ (rE HO143) (aJ (aM (blk_drew BK101.out)) (aJ (aM (blk_drew BK102.out)) (aJ (aM (blk_drew BK103.out)) (aJ (aM (blk_drew BK110.out)) (aJ (aM (blk_drew BK111.out)) (aM (below_drew1 HB.out))))))))))))
           clear HO_102001 HO_103001 HO_111000 HO_111001 HO_112001 HO143 BK101 BK102 BK103 BK110 BK111 HB
           obtain ⟨HO_102001, HO_103001, HO_111000, HO_111001, HO_112001, HO143, BK101, BK102, BK103, BK110, BK111, HB⟩ := n_
           have p144 : 0 ≤ (x21_1 : Int) := dA
           have q144 : x21_1 < (l0_1.length : Int) := dA
           obtain ⟨ad144, A144_1, c144_1, e144, hx144_0, hx144_1, hl144_1, hi144_1⟩ := at_T55 (Kd.V_reads' HO_102001.out).2.2 x21_1 p144 q144
           cases e144
           obtain ⟨ce144, hce144, hMe144, hcc144⟩ := Kd.V_get HO_102001.out z55 x21_1 p144 (by first | exact q144 | exact dA | (have e_ := (Kd.V_reads' HO_102001.out).1; omega))
           obtain ⟨ua144_1, uc144_1, rfl, ul144_1, ge144_1⟩ := k55_openF hMe144
           have hv144_1 := hcc144 1 _ rfl
           rw [add_field _ _ 1 (by omega)] at hv144_1
           replace hv144_1 := Option.some.inj (hv144_1.symm.trans hx144_1)
           injection hv144_1 with hva_ hvn_ hvc_
           rw [hva_] at ge144_1
           rw [hvc_] at ul144_1
           have HL144_1 := aM (show Kd.V k55 55 _ w.heap.size _ _ ((rd_T55 l0_1 x21_1).f1) from Kd.V_mk ul144_1 ge144_1)
           clear hva_ hvn_ hvc_ ge144_1 ul144_1
           clear hcc144 hce144
           have HR144_1 := aM hi144_1
           have HC144_1 := aM hl144_1
           clear hi144_1 hl144_1
           replace p144 := eq_true p144
           replace q144 := eq_true q144
           refine start_ (n := 13) (S := fun w' => w'.cell? ⟨gb111, 0, none⟩ = some (.slice Ao96 y141.length co96) ∧ w'.cell? ⟨gb111, 1, none⟩ = some (u112001) ∧ w'.cell? ⟨gb110, 0, none⟩ = some (.slice Ao15 y104.length co15) ∧ w'.cell? ⟨gb110, 1, none⟩ = some (.slice Ao14 y107.length co14) ∧ w'.cell? ⟨gb101, 0, none⟩ = some (.slice (some ad112) l0_0.length c0_0) ∧ w'.cell? ⟨gb101, 1, none⟩ = some (.slice (some ad144) l0_1.length c0_1) ∧ w'.cell? (ad144.add ((x21_1).toNat * 2)) = some (.int .i64 ((rd_T55 l0_1 x21_1).f0)) ∧ w'.cell? ⟨(ad144.add ((x21_1).toNat * 2)).block, (ad144.add ((x21_1).toNat * 2)).off + 1, none⟩ = some (.slice A144_1 ((rd_T55 l0_1 x21_1).f1).length c144_1)) (ds := [10, 12]) (bs 0 13) (by kernel_rfl) rfl rfl ⟨(blk_cell BK111.out 0).trans rfl, (blk_cell BK111.out 1).trans rfl, (blk_cell BK110.out 0).trans rfl, (blk_cell BK110.out 1).trans rfl, (blk_cell BK101.out 0).trans rfl, (blk_cell BK101.out 1).trans rfl, hx144_0, hx144_1⟩ (fun hHeld => ?_); refine with_tabW spec_lePut.tab12 spec_lePut.bits12 (fun HT_ HW_ => ?_)
           generalize w98.drew = w99 at HO_102001 HO_103001 HO_111000 HO_111001 HO_112001 HO143 BK101 BK102 BK103 BK110 BK111 HB HL144_1 HR144_1 hx144_0 hx144_1 hHeld ⊢
           refine pQ 0 51 HT_ ?_
           refine pQ 3 54 HT_ ?_
           refine pQ 5 56 HT_ ?_
           refine tQ 1 52 HT_ HW_ hHeld ?_
           refine tQ 2 53 HT_ HW_ hHeld ?_
           refine tQ 4 55 HT_ HW_ hHeld ?_
           refine pQ 6 57 HT_ ?_
           refine tQ 7 58 HT_ HW_ hHeld ?_
           refine oQ 8 59 HT_ (fun K hK => ?_)
           refine goes_ Tryz.func26 (by kernel_rfl) rfl #[.agg #[.slice Ao15 y104.length co15, .slice Ao14 y107.length co14], .agg #[.int .i64 ((rd_T55 l0_1 x21_1).f0), .slice A144_1 ((rd_T55 l0_1 x21_1).f1).length c144_1]] (by rfl) rfl rfl tA ?_
           with_reducible refine (spec_leApply.calls k1 _ _ y104 (fun k_ => (((P0_1_ k_ ∨ P2_1_ k_) ∨ w.heap.size ≤ k_) ∧ (nS k_ Ao15 y104 co15 ∧ (some k_ ≠ (u112001 : Value).ownBlock ∧ (nS k_ Ao96 y141 co96 ∧ (k_ ≠ gb101 ∧ (k_ ≠ gb102 ∧ (k_ ≠ gb103 ∧ (k_ ≠ gb110 ∧ k_ ≠ gb111))))))))) _ _ y107 ((rd_T55 l0_1 x21_1).f0) (fun k_ => (((P0_1_ k_ ∨ P2_1_ k_) ∨ w.heap.size ≤ k_) ∧ (nS k_ Ao15 y104 co15 ∧ (nS k_ Ao14 y107 co14 ∧ (some k_ ≠ (u112001 : Value).ownBlock ∧ (nS k_ Ao96 y141 co96 ∧ (k_ ≠ gb101 ∧ (k_ ≠ gb102 ∧ (k_ ≠ gb103 ∧ (k_ ≠ gb110 ∧ k_ ≠ gb111)))))))))) _ _ ((rd_T55 l0_1 x21_1).f1) t145 t146 _ ?side1 ?side2 ?side3 ?side4 A88.out).mono ?_
           (case side1 => exact sC ((Kd.R_reads' HO_111000.out).2.2))
           (case side2 => exact (Kd.R_reads' HO_111000.out).2.1)
           (case side3 => exact Kd.N_V (HO_111001.out))
           (case side4 => exact HL144_1.out)
           rintro e w100 ⟨v147, rfl, ho0, hb⟩
           have HS6_ := (hb.cell (World.block_lt_of_cell? _ _ (hHeld.2.2.2.2.2.2.1))).trans (hHeld.2.2.2.2.2.2.1)
           have HS7_ := (hb.cell (World.block_lt_of_cell? _ _ (hHeld.2.2.2.2.2.2.2))).trans (hHeld.2.2.2.2.2.2.2)
           refine ⟨_, rfl, ?_⟩
           have n_ := aJ (vB HO_102001 hb) (aJ (vB HO_103001 hb) (aJ (rB HO_111000 hb) (aJ (nB HO_111001 hb) (aJ (nB HO_112001 hb) (aJ (rB HO143 hb) (aJ (vB HL144_1 hb) (aJ (aM (Kd.V_lower (Kd.V_mono (ok' := fun k_ => ((P0_1_ k_ ∨ P2_1_ k_) ∨ w.heap.size ≤ k_) ∧ nS k_ Ao15 y104 co15 ∧ some k_ ≠ (u112001 : Value).ownBlock ∧ nS k_ Ao96 y141 co96 ∧ k_ ≠ gb101 ∧ k_ ≠ gb102 ∧ k_ ≠ gb103 ∧ k_ ≠ gb110 ∧ k_ ≠ gb111) ho0 (fun k_ hk_ => ⟨Or.elim hk_ (fun hs_ => Or.elim hs_ (fun hs_ => hs_.1) (fun hs_ => hs_.1)) (fun hn_ => (.inr (Nat.le_trans (below_size (pH HB)) hn_))), Or.elim hk_ (fun hs_ => Or.elim hs_ (fun hs_ => hs_.2.1) (fun hs_ => hs_.2.1)) (fun hn_ => (Kd.fresh' (Kd.R_lt HO_111000.out) k_ hn_)), Or.elim hk_ (fun hs_ => Or.elim hs_ (fun hs_ => hs_.2.2.1) (fun hs_ => hs_.2.2.2.1)) (fun hn_ => (Kd.fresh' (Kd.N_lt HO_112001.out) k_ hn_)), Or.elim hk_ (fun hs_ => Or.elim hs_ (fun hs_ => hs_.2.2.2.1) (fun hs_ => hs_.2.2.2.2.1)) (fun hn_ => (Kd.fresh' (Kd.R_lt HO143.out) k_ hn_)), Or.elim hk_ (fun hs_ => Or.elim hs_ (fun hs_ => hs_.2.2.2.2.1) (fun hs_ => hs_.2.2.2.2.2.1)) (fun hn_ => (Kd.freshB BK101.out k_ hn_)), Or.elim hk_ (fun hs_ => Or.elim hs_ (fun hs_ => hs_.2.2.2.2.2.1) (fun hs_ => hs_.2.2.2.2.2.2.1)) (fun hn_ => (Kd.freshB BK102.out k_ hn_)), Or.elim hk_ (fun hs_ => Or.elim hs_ (fun hs_ => hs_.2.2.2.2.2.2.1) (fun hs_ => hs_.2.2.2.2.2.2.2.1)) (fun hn_ => (Kd.freshB BK103.out k_ hn_)), Or.elim hk_ (fun hs_ => Or.elim hs_ (fun hs_ => hs_.2.2.2.2.2.2.2.1) (fun hs_ => hs_.2.2.2.2.2.2.2.2.1)) (fun hn_ => (Kd.freshB BK110.out k_ hn_)), Or.elim hk_ (fun hs_ => Or.elim hs_ (fun hs_ => hs_.2.2.2.2.2.2.2.2) (fun hs_ => hs_.2.2.2.2.2.2.2.2.2)) (fun hn_ => (Kd.freshB BK111.out k_ hn_))⟩)) (below_size (pH HB)))) (aJ (qb BK101 hb) (aJ (qb BK102 hb) (aJ (qb BK103 hb) (aJ (qb BK110 hb) (aJ (qb BK111 hb) (aJ (aM (Kd.C_below (by repeat (first | (with_reducible exact HR144_1.out) | (with_reducible refine Kd.C_alloc ?_ _) | (with_reducible refine Kd.C_drewN ?_ _) | (with_reducible refine Kd.C_drew ?_) | exact HR144_1.out)) hb)) (aM (below_step (pH HB) hb)))))))))))))))
           clear HO_102001 HO_103001 HO_111000 HO_111001 HO_112001 HO143 HL144_1 BK101 BK102 BK103 BK110 BK111 HR144_1 HB
           obtain ⟨HO_102001, HO_103001, HO_111000, HO_111001, HO_112001, HO143, HL144_1, HO148, BK101, BK102, BK103, BK110, BK111, HR144_1, HB⟩ := n_
           (try clear hb)
           (try clear hb2)
           (try clear hk)
           (try clear hi)
           (try clear ho0)
           obtain ⟨Ao102, co102, eo102⟩ := Kd.V_slice HO148.out
           (first | subst eo102 | (injection eo102 with f1_ f2_ f3_; have f4_ := f1_.symm; have f5_ := f3_.symm; clear f1_ f2_ f3_; subst f4_; subst f5_))
           refine hK.out _ _ ⟨(blk_cell BK111.out 0).trans rfl, (blk_cell BK111.out 1).trans rfl, (blk_cell BK110.out 0).trans rfl, (blk_cell BK110.out 1).trans rfl, (blk_cell BK101.out 0).trans rfl, (blk_cell BK101.out 1).trans rfl, HS6_, HS7_⟩ (fun hHeld => ?_)
           clear hK K
           refine nQ 59 ?_
           refine oQ 9 60 HT_ (fun K hK => ?_)
           refine value_ (w1 := ?_) (v := ?_) (by rfl) rfl ?_ ?_
           rotate_left 2
           ·go_simp
            constructor
            ·rfl
            ·rfl
           refine hK.out _ _ ⟨(blk_cell (blk_alloc BK111.out _) 0).trans rfl, (blk_cell (blk_alloc BK111.out _) 1).trans rfl, (blk_cell (blk_alloc BK110.out _) 0).trans rfl, (blk_cell (blk_alloc BK110.out _) 1).trans rfl, (blk_cell (blk_alloc BK101.out _) 0).trans rfl, (blk_cell (blk_alloc BK101.out _) 1).trans rfl, (World.cell?_alloc_lt _ _ _ (World.block_lt_of_cell? _ _ (hHeld.2.2.2.2.2.2.1))).trans (hHeld.2.2.2.2.2.2.1), (World.cell?_alloc_lt _ _ _ (World.block_lt_of_cell? _ _ (hHeld.2.2.2.2.2.2.2))).trans (hHeld.2.2.2.2.2.2.2)⟩ (fun hHeld => ?_)
           clear hK K
           refine nQ 60 ?_
           refine last_ (i := 10) (N := some 61) (bs 11 2) rfl rfl (one_of HT_.out (by kernel_rfl)) (by decide) (fun K hK => ?_)
           refine Kd.N_append_step k55 (w0 := w) w.heap.size (by rfl) (.tmp 52) (.tmp 60) 53 55 (.agg #[(.int .i64 0), (.slice none 0 0)]) 32 rfl Tryz.underlying53 info55 rfl (by decide) (by omega) u112001 x112001_1 (⟨t145, t146⟩ : S55) [.int .i64 t145, .slice Ao102 t146.length co102] (fun k_ => ((P0_1_ k_ ∨ P2_1_ k_) ∨ w.heap.size ≤ k_) ∧ nS k_ Ao15 y104 co15 ∧ nS k_ Ao96 y141 co96 ∧ k_ ≠ gb101 ∧ k_ ≠ gb102 ∧ k_ ≠ gb103 ∧ k_ ≠ gb110 ∧ k_ ≠ gb111) (fun k_ => ((fun k_ => ((P0_1_ k_ ∨ P2_1_ k_) ∨ w.heap.size ≤ k_) ∧ nS k_ Ao15 y104 co15 ∧ nS k_ Ao96 y141 co96 ∧ k_ ≠ gb101 ∧ k_ ≠ gb102 ∧ k_ ≠ gb103 ∧ k_ ≠ gb110 ∧ k_ ≠ gb111)) k_ ∧ some k_ ≠ (u112001 : Value).ownBlock) rfl rfl ?aP (fun _ hk => hk) ?aF ?aO ?aB ?aS ?aL ?_
           (case aP => exact (k55_mkF _ _ (⟨t145, t146⟩ : S55) (Kd.V_reads' (Kd.V_mono (ok' := (fun k_ => ((fun k_ => ((P0_1_ k_ ∨ P2_1_ k_) ∨ w.heap.size ≤ k_) ∧ nS k_ Ao15 y104 co15 ∧ nS k_ Ao96 y141 co96 ∧ k_ ≠ gb101 ∧ k_ ≠ gb102 ∧ k_ ≠ gb103 ∧ k_ ≠ gb110 ∧ k_ ≠ gb111)) k_ ∧ some k_ ≠ (u112001 : Value).ownBlock)) (HO148.out) (fun k_ hk => ⟨⟨hk.1, ⟨hk.2.1, ⟨hk.2.2.2.1, ⟨hk.2.2.2.2.1, ⟨hk.2.2.2.2.2.1, ⟨hk.2.2.2.2.2.2.1, ⟨hk.2.2.2.2.2.2.2.1, hk.2.2.2.2.2.2.2.2⟩⟩⟩⟩⟩⟩⟩, hk.2.2.1⟩))).2.1 (Kd.V_F (Kd.V_mono (ok' := (fun k_ => ((fun k_ => ((P0_1_ k_ ∨ P2_1_ k_) ∨ w.heap.size ≤ k_) ∧ nS k_ Ao15 y104 co15 ∧ nS k_ Ao96 y141 co96 ∧ k_ ≠ gb101 ∧ k_ ≠ gb102 ∧ k_ ≠ gb103 ∧ k_ ≠ gb110 ∧ k_ ≠ gb111)) k_ ∧ some k_ ≠ (u112001 : Value).ownBlock)) (HO148.out) (fun k_ hk => ⟨⟨hk.1, ⟨hk.2.1, ⟨hk.2.2.2.1, ⟨hk.2.2.2.2.1, ⟨hk.2.2.2.2.2.1, ⟨hk.2.2.2.2.2.2.1, ⟨hk.2.2.2.2.2.2.2.1, hk.2.2.2.2.2.2.2.2⟩⟩⟩⟩⟩⟩⟩, hk.2.2.1⟩)))))
           (case aB => exact (pH HB))
           (case aF => exact (fun k_ hk => ⟨(.inr (Nat.le_trans (below_size (pH HB)) hk)), Kd.fresh' (Kd.R_lt HO_111000.out) k_ hk, Kd.fresh' (Kd.R_lt HO143.out) k_ hk, Kd.freshB BK101.out k_ hk, Kd.freshB BK102.out k_ hk, Kd.freshB BK103.out k_ hk, Kd.freshB BK110.out k_ hk, Kd.freshB BK111.out k_ hk⟩))
           (case aO => exact HO_112001.out)
           (case aS => exact (below_size (pH HB)))
           (case aL => have := LMc89.out; omega)
           intro v150 w101 ho hb hg hat
           rw [← Ny149.out] at ho
           have n_ := aJ (aM (Kd.V_afterv (ok := (fun k_ => ((P0_1_ k_ ∨ P2_1_ k_) ∨ w.heap.size ≤ k_) ∧ nS k_ Ao15 y104 co15 ∧ nS k_ Ao14 y107 co14 ∧ nS k_ Ao96 y141 co96 ∧ k_ ≠ gb101 ∧ k_ ≠ gb102 ∧ k_ ≠ gb103 ∧ k_ ≠ gb110 ∧ k_ ≠ gb111)) (vZ HO_102001) hg hat)) (aJ (aM (Kd.V_afterv (ok := (fun k_ => ((P0_1_ k_ ∨ P2_1_ k_) ∨ w.heap.size ≤ k_) ∧ nS k_ Ao15 y104 co15 ∧ nS k_ Ao14 y107 co14 ∧ nS k_ Ao96 y141 co96 ∧ k_ ≠ gb101 ∧ k_ ≠ gb102 ∧ k_ ≠ gb103 ∧ k_ ≠ gb110 ∧ k_ ≠ gb111)) (vZ HO_103001) hg hat)) (aJ (aM (Kd.R_over' HO_111000.out (Kd.N_typed HO_112001.out) (by decide) hg)) (aJ (aM (Kd.N_afterv (ok := (fun k_ => ((P0_1_ k_ ∨ P2_1_ k_) ∨ w.heap.size ≤ k_) ∧ nS k_ Ao15 y104 co15 ∧ nS k_ Ao96 y141 co96 ∧ k_ ≠ gb101 ∧ k_ ≠ gb102 ∧ k_ ≠ gb103 ∧ k_ ≠ gb110 ∧ k_ ≠ gb111)) (nZ HO_111001) hg hat)) (aJ (aM (blk_grown BK101.out hg (Kd.N_ne HO_112001.out BK101.out (by decide)))) (aJ (aM (blk_grown BK102.out hg (Kd.N_away HO_112001.out (fun _ hk => hk.2.2.2.2.1)))) (aJ (aM (blk_grown BK103.out hg (Kd.N_ne HO_112001.out BK103.out (by decide)))) (aJ (aM (blk_grown BK110.out hg (Kd.N_ne HO_112001.out BK110.out (by decide)))) (aJ (aM (blk_grown BK111.out hg (Kd.N_ne HO_112001.out BK111.out (by decide)))) (aJ (aM (Kd.R_over' HO143.out (Kd.N_typed HO_112001.out) (by decide) hg)) (aJ (aM (Kd.V_afterv (ok := (fun k_ => ((P0_1_ k_ ∨ P2_1_ k_) ∨ w.heap.size ≤ k_) ∧ nS k_ Ao15 y104 co15 ∧ nS k_ Ao14 y107 co14 ∧ nS k_ Ao96 y141 co96 ∧ k_ ≠ gb101 ∧ k_ ≠ gb102 ∧ k_ ≠ gb103 ∧ k_ ≠ gb110 ∧ k_ ≠ gb111)) (vZ HL144_1) hg hat)) (aJ (aM (Kd.V_afterv (ok := (fun k_ => ((P0_1_ k_ ∨ P2_1_ k_) ∨ w.heap.size ≤ k_) ∧ nS k_ Ao15 y104 co15 ∧ nS k_ Ao96 y141 co96 ∧ k_ ≠ gb101 ∧ k_ ≠ gb102 ∧ k_ ≠ gb103 ∧ k_ ≠ gb110 ∧ k_ ≠ gb111)) (vZ HO148) hg hat)) (aJ (aM (hb)) (aM (ho))))))))))))))
           clear HO_102001 HO_103001 HO_111000 HO_111001 BK101 BK102 BK103 BK110 BK111 HO143 HL144_1 HO148 HB HO_112001
           obtain ⟨HO_102001, HO_103001, HO_111000, HO_111001, BK101, BK102, BK103, BK110, BK111, HO143, HL144_1, HO148, HB, HO151⟩ := n_
           clear ho hb hg hat
           obtain ⟨Ao103, co103, eo103⟩ := Kd.N_slice HO151.out
           (first | subst eo103 | (injection eo103 with f1_ f2_ f3_; have f4_ := f1_.symm; have f5_ := f3_.symm; clear f1_ f2_ f3_; subst f4_; subst f5_))
           refine hK.out _ _ ?_
           clear hK K
           refine nQ 61 ?_
           refine pQ 11 62 HT_ ?_
           refine last_ (i := 12) (N := none) (bs 13 0) rfl rfl (one_of HT_.out (by kernel_rfl)) (by decide) (fun K hK => ?_)
           have hs104 : w101.cell? ⟨gb111, 1, none⟩ = some (u112001) := (blk_cell BK111.out 1).trans rfl
           have hfs104 := blk_frozen BK111.out 1
           have hns104_0 := NB101_111.out
           have hns104_1 := NB102_111.out
           have hns104_2 := NB103_111.out
           have hns104_3 := NB110_111.out
           have hms104_0 := NB111_101.out
           have hms104_1 := NB111_102.out
           have hms104_2 := NB111_103.out
           have hms104_3 := NB111_110.out
           refine skip_ (w1 := ?_) (by rfl) rfl ?_ ?_
           rotate_left
           ·go_simp
            rfl
           refine hK.out _ _ ?_
           clear hK K
           refine done_ (done_of HT_.out (by kernel_rfl)) ?_
           try go_wp2
           go_roundg k1
           case measure => have := HK1.out; omega
           case rel => exact ⟨(false), (wrap64 (x21_1 + 1)), (y141), (y149), (.slice Ao96 y141.length co96), (.slice Ao103 y149.length co103), rS, rS, H', ⟨by have := HK1.out; omega⟩, ⟨vZ HO_102001⟩, ⟨vZ HO_103001⟩, ⟨rW HO_111000 BK111⟩, ⟨nZ HO_111001⟩, ⟨rW HO143 BK111⟩, ⟨nZ HO151⟩, ⟨bY BK101⟩, ⟨bY BK102⟩, ⟨bY BK103⟩, ⟨bY BK110⟩, ⟨bP BK111⟩, ⟨pH HB⟩⟩
          ·rw [if_neg c89] at H
           exact absurd H (by simp)
         ·rw [if_neg c87] at H
          exact absurd H (by simp)
        ·rw [if_neg c86] at H
         exact absurd H (by simp)
     ·rw [if_neg c31] at H
      exact absurd H (by simp)
    ·rw [if_neg c30] at H
     exact absurd H (by simp)
   ·rw [if_neg c29] at H
    have c29b0 : decide (x21_1 < (l0_0.length : Int)) = false := decide_eq_false c29
    clear c29
    by_cases c105 : x9_1 = true
    ·subst c105
     rw [if_pos rfl] at H
     simp only [Option.some.injEq, Prod.mk.injEq] at H
     obtain ⟨rfl, rfl⟩ := H
     have hnb106 := NB111_101.out
     have hnc106 := NB101_111.out
     have hnb107 := NB111_102.out
     have hnc107 := NB102_111.out
     have hnb108 := NB111_103.out
     have hnc108 := NB103_111.out
     have hnb109 := NB111_110.out
     have hnc109 := NB110_111.out
     obtain ⟨hcz110_0, hcz110_1, hfz110_0, hfz110_1⟩ := cA2 BK111
     obtain ⟨Ao111, co111, eo111⟩ := Kd.R_slice HO_112000.out
     subst eo111
     have hnb112 := NB103_101.out
     have hnc112 := NB101_103.out
     have hnb113 := NB103_102.out
     have hnc113 := NB102_103.out
     have hnb114 := NB103_110.out
     have hnc114 := NB110_103.out
     obtain ⟨hcz115_0, hcz115_1, hfz115_0, hfz115_1⟩ := cA2 BK103
     obtain ⟨Ao116, co116, eo116⟩ := Kd.N_slice HO_112001.out
     subst eo116
     go_wp2
     refine bodyPost_ret (results_cell_row rfl _ _ gb103 60 #[.slice Ao111 x112000_1.length co111, .slice Ao116 x112001_1.length co116] (0, 0) _ rfl (bP BK103) Tryz.underlying60 rfl (by kernel_rfl)) rfl ?_
     exact ⟨_, _, eW, by (with_reducible repeat (first | apply rA | apply rN | apply rD)); exact Kd.R_mono (Kd.R_far (p := ⟨gb103, 1, none⟩) (Kd.R_far (p := ⟨gb103, 0, none⟩) (Kd.R_types HO_112000.out BK103.out (by decide)) (fun _ hk => hk.2) (.slice Ao111 x112000_1.length co111)) (fun _ hk => hk.2) (.slice Ao116 x112001_1.length co116)) (fun _ hk => hk.1.1), by (with_reducible repeat (first | apply Kd.N_alloc | apply Kd.N_drewN | apply Kd.N_drew)); exact Kd.N_mono (Kd.N_far (p := ⟨gb103, 1, none⟩) (Kd.N_far (p := ⟨gb103, 0, none⟩) (Kd.N_mono HO_112001.out (fun k_ hk => (⟨hk, hk.2.2.2.2.2.1⟩ : _ ∧ k_ ≠ gb103))) (fun _ hk => hk.2) (.slice Ao111 x112000_1.length co111)) (fun _ hk => hk.2) (.slice Ao116 x112001_1.length co116)) (fun _ hk => ⟨hk.1.1, hk.1.2.2.1⟩), pH HB⟩
    ·replace c105 := Bool.eq_false_iff.mpr c105
     subst c105
     rw [if_neg (show ¬ (false = true) by decide)] at H
     by_cases c117 : x112000_1.length < 17592186044416
     ·rw [if_pos c117] at H
      have LMc117 := aM c117
      clear c117
      obtain ⟨y152, hy152⟩ : ∃ y_ : List Int, y_ = (x112000_1 ++ [a1]) := ⟨_, rfl⟩
      replace H : (if x112001_1.length < 4398046511104 then (some (y152, (x112001_1 ++ [(⟨a2_0, l2_1⟩ : S55)]))) else (none)) = some (r1, r2) := by first | (rw [hy152]; with_reducible exact H) | (have H2_ := (Option.bind_some _ _).symm.trans H; rw [hy152]; with_reducible exact H2_) | (have H2_ := (Option.bind_some _ _).symm.trans H; with_reducible exact H2_) | with_reducible exact H | (rw [hy152]; exact H) | exact H
      have Ny152 := aM hy152
      clear hy152
      by_cases c118 : x112001_1.length < 4398046511104
      ·rw [if_pos c118] at H
       have LMc118 := aM c118
       clear c118
       obtain ⟨y155, hy155⟩ : ∃ y_ : List (S55), y_ = (x112001_1 ++ [(⟨a2_0, l2_1⟩ : S55)]) := ⟨_, rfl⟩
       replace H : (some (y152, y155)) = some (r1, r2) := by first | (rw [hy155]; with_reducible exact H) | (have H2_ := (Option.bind_some _ _).symm.trans H; rw [hy155]; with_reducible exact H2_) | (have H2_ := (Option.bind_some _ _).symm.trans H; with_reducible exact H2_) | with_reducible exact H | (rw [hy155]; exact H) | exact H
       have Ny155 := aM hy155
       clear hy155
       simp only [Option.some.injEq, Prod.mk.injEq] at H
       obtain ⟨rfl, rfl⟩ := H
       have hnb119 := NB111_101.out
       have hnc119 := NB101_111.out
       have hnb120 := NB111_102.out
       have hnc120 := NB102_111.out
       have hnb121 := NB111_103.out
       have hnc121 := NB103_111.out
       have hnb122 := NB111_110.out
       have hnc122 := NB110_111.out
       obtain ⟨hcz123_0, hcz123_1, hfz123_0, hfz123_1⟩ := cA2 BK111
       go_wp2_with (first | ((with_reducible refine gate_builtin (b := .append) (xs := #[.tmp 67, .tmp 69]) rfl ?_); at_builtin; refine Kd.R_append (Kd.int .i64) (w0 := w) w.heap.size rfl (.tmp 67) (.tmp 69) 58 3 (.int .i64 0) 8 rfl Tryz.underlying58 info3 rfl (by decide) (by omega) u112000 x112000_1 a1 [.int .i64 a1] (fun k_ => (w.heap.size ≤ k_) ∧ nS k_ Ao15 y104 co15) (fun _ => False) rfl rfl ?aP (fun _ hk => hk.elim) ?aF ?aO ?aB ?aS ?aL ?_; (case aP => exact rfl); (case aB => exact (pH HB)); (case aF => exact (fun k_ hk => ⟨(Nat.le_trans (below_size (pH HB)) hk), Kd.fresh' (Kd.R_lt HO_111000.out) k_ hk⟩)); (case aO => exact HO_112000.out); (case aS => exact (below_size (pH HB))); (case aL => have := LMc117.out; omega); intro v153 w124 ho hb hg hat; rw [← Ny152.out] at ho; have n0_ := aK (Kd.V_afterv (ok := (fun k_ => ((P0_1_ k_ ∨ P2_1_ k_) ∨ w.heap.size ≤ k_) ∧ nS k_ Ao15 y104 co15 ∧ nS k_ Ao14 y107 co14 ∧ some k_ ≠ (u112001 : Value).ownBlock ∧ k_ ≠ gb101 ∧ k_ ≠ gb102 ∧ k_ ≠ gb103 ∧ k_ ≠ gb110 ∧ k_ ≠ gb111)) (vZ HO_102001) hg hat); have n1_ := aK (Kd.V_afterv (ok := (fun k_ => ((P0_1_ k_ ∨ P2_1_ k_) ∨ w.heap.size ≤ k_) ∧ nS k_ Ao15 y104 co15 ∧ nS k_ Ao14 y107 co14 ∧ some k_ ≠ (u112001 : Value).ownBlock ∧ k_ ≠ gb101 ∧ k_ ≠ gb102 ∧ k_ ≠ gb103 ∧ k_ ≠ gb110 ∧ k_ ≠ gb111)) (vZ HO_103001) hg hat); have n2_ := aK (Kd.R_after (ok := (fun k_ => (w.heap.size ≤ k_))) HO_111000.out hg hat); have n3_ := aK (Kd.N_afterv (ok := (fun k_ => ((P0_1_ k_ ∨ P2_1_ k_) ∨ w.heap.size ≤ k_) ∧ nS k_ Ao15 y104 co15 ∧ some k_ ≠ (u112001 : Value).ownBlock ∧ k_ ≠ gb101 ∧ k_ ≠ gb102 ∧ k_ ≠ gb103 ∧ k_ ≠ gb110 ∧ k_ ≠ gb111)) (nZ HO_111001) hg hat); have n4_ := aK (Kd.N_afterv (ok := (fun k_ => ((P0_1_ k_ ∨ P2_1_ k_) ∨ w.heap.size ≤ k_) ∧ nS k_ Ao15 y104 co15 ∧ k_ ≠ gb101 ∧ k_ ≠ gb102 ∧ k_ ≠ gb103 ∧ k_ ≠ gb110 ∧ k_ ≠ gb111)) (nZ HO_112001) hg hat); have n5_ := aK (blk_grown BK101.out hg (Kd.R_ne HO_112000.out BK101.out (by decide))); have n6_ := aK (blk_grown BK102.out hg (Kd.R_ne HO_112000.out BK102.out (by decide))); have n7_ := aK (blk_grown BK103.out hg (Kd.R_ne HO_112000.out BK103.out (by decide))); have n8_ := aK (blk_grown BK110.out hg (Kd.R_ne HO_112000.out BK110.out (by decide))); have n9_ := aK (blk_grown BK111.out hg (Kd.R_ne HO_112000.out BK111.out (by decide))); have n10_ := aK (hb); have HO154 := aK (ho); clear HO_102001; have HO_102001 := n0_; clear n0_; clear HO_103001; have HO_103001 := n1_; clear n1_; clear HO_111000; have HO_111000 := n2_; clear n2_; clear HO_111001; have HO_111001 := n3_; clear n3_; clear HO_112001; have HO_112001 := n4_; clear n4_; clear BK101; have BK101 := n5_; clear n5_; clear BK102; have BK102 := n6_; clear n6_; clear BK103; have BK103 := n7_; clear n7_; clear BK110; have BK110 := n8_; clear n8_; clear BK111; have BK111 := n9_; clear n9_; clear HB; have HB := n10_; clear n10_; clear HO_112000; clear ho hb hg hat; obtain ⟨Ao125, co125, eo125⟩ := Kd.R_slice HO154.out; subst eo125; obtain ⟨hcz126_0, hcz126_1, hfz126_0, hfz126_1⟩ := cA2 BK111) | ((with_reducible refine gate_store (t := 58) (p := 71) rfl ?_); refine store_event (t := 58) (p := 71) (v := ?vo_w127) (w1 := (w124.setCell ⟨gb111, 0, none⟩ (.slice Ao125 y152.length co125))) ?hg ?ho ?hn ?hr ?_; (case ho => rfl); (case hg => rfl); (case hn => rfl); (case hr => first | (go_simp; done) | (go_simp; rfl)); intro w127 hw; have n_ := aJ (show Aside0 (Kd.V k55 55 w127 w.heap.size (fun k_ => ((P0_1_ k_ ∨ P2_1_ k_) ∨ w.heap.size ≤ k_) ∧ nS k_ Ao15 y104 co15 ∧ nS k_ Ao14 y107 co14 ∧ some k_ ≠ (u112001 : Value).ownBlock ∧ nS k_ Ao125 y152 co125 ∧ k_ ≠ gb101 ∧ k_ ≠ gb102 ∧ k_ ≠ gb103 ∧ k_ ≠ gb110 ∧ k_ ≠ gb111) (.slice A0_1 l0_1.length c0_1) l0_1) from ⟨(by rw [hw]; exact (vZ HO_102001))⟩) (aJ (show Aside0 (Kd.V k55 55 w127 w.heap.size (fun k_ => ((P0_1_ k_ ∨ P2_1_ k_) ∨ w.heap.size ≤ k_) ∧ nS k_ Ao15 y104 co15 ∧ nS k_ Ao14 y107 co14 ∧ some k_ ≠ (u112001 : Value).ownBlock ∧ nS k_ Ao125 y152 co125 ∧ k_ ≠ gb101 ∧ k_ ≠ gb102 ∧ k_ ≠ gb103 ∧ k_ ≠ gb110 ∧ k_ ≠ gb111) (.slice A2_1 l2_1.length c2_1) l2_1) from ⟨(by rw [hw]; exact (vZ HO_103001))⟩) (aJ (show Aside0 (Kd.R (Kd.int .i64) 3 w127 w.heap.size (fun k_ => (w.heap.size ≤ k_) ∧ nS k_ Ao125 y152 co125) (.slice Ao15 y104.length co15) y104) from ⟨(by rw [hw]; exact (rW HO_111000 BK111))⟩) (aJ (show Aside0 (Kd.N k55 55 w127 w.heap.size (fun k_ => ((P0_1_ k_ ∨ P2_1_ k_) ∨ w.heap.size ≤ k_) ∧ nS k_ Ao15 y104 co15 ∧ some k_ ≠ (u112001 : Value).ownBlock ∧ nS k_ Ao125 y152 co125 ∧ k_ ≠ gb101 ∧ k_ ≠ gb102 ∧ k_ ≠ gb103 ∧ k_ ≠ gb110 ∧ k_ ≠ gb111) (.slice Ao14 y107.length co14) y107) from ⟨(by rw [hw]; exact (nZ HO_111001))⟩) (aJ (show Aside0 (Kd.N k55 55 w127 w.heap.size (fun k_ => ((P0_1_ k_ ∨ P2_1_ k_) ∨ w.heap.size ≤ k_) ∧ nS k_ Ao15 y104 co15 ∧ nS k_ Ao125 y152 co125 ∧ k_ ≠ gb101 ∧ k_ ≠ gb102 ∧ k_ ≠ gb103 ∧ k_ ≠ gb110 ∧ k_ ≠ gb111) u112001 x112001_1) from ⟨(by rw [hw]; exact (nZ HO_112001))⟩) (aJ (show Aside0 (Kd.R (Kd.int .i64) 3 w127 w.heap.size (fun k_ => (w.heap.size ≤ k_) ∧ nS k_ Ao15 y104 co15) (.slice Ao125 y152.length co125) y152) from ⟨(by rw [hw]; exact (rW HO154 BK111))⟩) (aJ (show Aside0 (w127.heap[gb101]? = some (.cells #[.slice A0_0 l0_0.length c0_0, .slice A0_1 l0_1.length c0_1] 60 (0, 0))) from ⟨(by rw [hw]; exact (bY BK101))⟩) (aJ (show Aside0 (w127.heap[gb102]? = some (.cells #[.int .i64 a2_0, .slice A2_1 l2_1.length c2_1] 55 (0, 0))) from ⟨(by rw [hw]; exact (bY BK102))⟩) (aJ (show Aside0 (w127.heap[gb103]? = some (.cells #[.slice none 0 0, .slice none 0 0] 60 (0, 0))) from ⟨(by rw [hw]; exact (bY BK103))⟩) (aJ (show Aside0 (w127.heap[gb110]? = some (.cells #[.slice Ao15 y104.length co15, .slice Ao14 y107.length co14] 60 (0, 0))) from ⟨(by rw [hw]; exact (bY BK110))⟩) (aJ (show Aside0 (w127.heap[gb111]? = some (.cells #[.slice Ao125 y152.length co125, u112001] 60 (0, 0))) from ⟨(by rw [hw]; exact (bP BK111))⟩) (show Aside0 (Below w.heap.size w w127) from ⟨(by rw [hw]; exact (pH HB))⟩))))))))))); clear hw HO_102001 HO_103001 HO_111000 HO_111001 HO_112001 HO154 BK101 BK102 BK103 BK110 BK111 HB; obtain ⟨HO_102001, HO_103001, HO_111000, HO_111001, HO_112001, HO154, BK101, BK102, BK103, BK110, BK111, HB⟩ := n_; obtain ⟨hcz128_0, hcz128_1, hfz128_0, hfz128_1⟩ := cA2 BK111; have hnb129 := NB102_101.out; have hnc129 := NB101_102.out; have hnb130 := NB102_103.out; have hnc130 := NB103_102.out; have hnb131 := NB102_110.out; have hnc131 := NB110_102.out; obtain ⟨hcz132_0, hcz132_1, hfz132_0, hfz132_1⟩ := cA2 BK102) | ((with_reducible refine gate_builtin (b := .append) (xs := #[.tmp 73, .tmp 75]) rfl ?_); at_builtin; refine Kd.N_append k55 (w0 := w) w.heap.size rfl (.tmp 73) (.tmp 75) 53 55 (.agg #[(.int .i64 0), (.slice none 0 0)]) 32 rfl Tryz.underlying53 info55 rfl (by decide) (by omega) u112001 x112001_1 (⟨a2_0, l2_1⟩ : S55) [.int .i64 a2_0, .slice A2_1 l2_1.length c2_1] (fun k_ => ((P0_1_ k_ ∨ P2_1_ k_) ∨ w.heap.size ≤ k_) ∧ nS k_ Ao15 y104 co15 ∧ nS k_ Ao125 y152 co125 ∧ k_ ≠ gb101 ∧ k_ ≠ gb102 ∧ k_ ≠ gb103 ∧ k_ ≠ gb110 ∧ k_ ≠ gb111) (fun k_ => ((fun k_ => ((P0_1_ k_ ∨ P2_1_ k_) ∨ w.heap.size ≤ k_) ∧ nS k_ Ao15 y104 co15 ∧ nS k_ Ao125 y152 co125 ∧ k_ ≠ gb101 ∧ k_ ≠ gb102 ∧ k_ ≠ gb103 ∧ k_ ≠ gb110 ∧ k_ ≠ gb111)) k_ ∧ some k_ ≠ (u112001 : Value).ownBlock) rfl rfl ?aP (fun _ hk => hk) ?aF ?aO ?aB ?aS ?aL ?_; (case aP => exact (k55_mkF _ _ (⟨a2_0, l2_1⟩ : S55) (Kd.V_reads' (Kd.V_mono (ok' := (fun k_ => ((fun k_ => ((P0_1_ k_ ∨ P2_1_ k_) ∨ w.heap.size ≤ k_) ∧ nS k_ Ao15 y104 co15 ∧ nS k_ Ao125 y152 co125 ∧ k_ ≠ gb101 ∧ k_ ≠ gb102 ∧ k_ ≠ gb103 ∧ k_ ≠ gb110 ∧ k_ ≠ gb111)) k_ ∧ some k_ ≠ (u112001 : Value).ownBlock)) (HO_103001.out) (fun k_ hk => ⟨⟨hk.1, ⟨hk.2.1, ⟨hk.2.2.2.2.1, ⟨hk.2.2.2.2.2.1, ⟨hk.2.2.2.2.2.2.1, ⟨hk.2.2.2.2.2.2.2.1, ⟨hk.2.2.2.2.2.2.2.2.1, hk.2.2.2.2.2.2.2.2.2⟩⟩⟩⟩⟩⟩⟩, hk.2.2.2.1⟩))).2.1 (Kd.V_F (Kd.V_mono (ok' := (fun k_ => ((fun k_ => ((P0_1_ k_ ∨ P2_1_ k_) ∨ w.heap.size ≤ k_) ∧ nS k_ Ao15 y104 co15 ∧ nS k_ Ao125 y152 co125 ∧ k_ ≠ gb101 ∧ k_ ≠ gb102 ∧ k_ ≠ gb103 ∧ k_ ≠ gb110 ∧ k_ ≠ gb111)) k_ ∧ some k_ ≠ (u112001 : Value).ownBlock)) (HO_103001.out) (fun k_ hk => ⟨⟨hk.1, ⟨hk.2.1, ⟨hk.2.2.2.2.1, ⟨hk.2.2.2.2.2.1, ⟨hk.2.2.2.2.2.2.1, ⟨hk.2.2.2.2.2.2.2.1, ⟨hk.2.2.2.2.2.2.2.2.1, hk.2.2.2.2.2.2.2.2.2⟩⟩⟩⟩⟩⟩⟩, hk.2.2.2.1⟩))))); (case aB => exact (pH HB)); (case aF => exact (fun k_ hk => ⟨(.inr (Nat.le_trans (below_size (pH HB)) hk)), Kd.fresh' (Kd.R_lt HO_111000.out) k_ hk, Kd.fresh' (Kd.R_lt HO154.out) k_ hk, Kd.freshB BK101.out k_ hk, Kd.freshB BK102.out k_ hk, Kd.freshB BK103.out k_ hk, Kd.freshB BK110.out k_ hk, Kd.freshB BK111.out k_ hk⟩)); (case aO => exact HO_112001.out); (case aS => exact (below_size (pH HB))); (case aL => have := LMc118.out; omega); intro v156 w133 ho hb hg hat; rw [← Ny155.out] at ho; have n0_ := aK (Kd.V_afterv (ok := (fun k_ => ((P0_1_ k_ ∨ P2_1_ k_) ∨ w.heap.size ≤ k_) ∧ nS k_ Ao15 y104 co15 ∧ nS k_ Ao14 y107 co14 ∧ nS k_ Ao125 y152 co125 ∧ k_ ≠ gb101 ∧ k_ ≠ gb102 ∧ k_ ≠ gb103 ∧ k_ ≠ gb110 ∧ k_ ≠ gb111)) (vZ HO_102001) hg hat); have n1_ := aK (Kd.V_afterv (ok := (fun k_ => ((P0_1_ k_ ∨ P2_1_ k_) ∨ w.heap.size ≤ k_) ∧ nS k_ Ao15 y104 co15 ∧ nS k_ Ao14 y107 co14 ∧ nS k_ Ao125 y152 co125 ∧ k_ ≠ gb101 ∧ k_ ≠ gb102 ∧ k_ ≠ gb103 ∧ k_ ≠ gb110 ∧ k_ ≠ gb111)) (vZ HO_103001) hg hat); have n2_ := aK (Kd.R_over' HO_111000.out (Kd.N_typed HO_112001.out) (by decide) hg); have n3_ := aK (Kd.N_afterv (ok := (fun k_ => ((P0_1_ k_ ∨ P2_1_ k_) ∨ w.heap.size ≤ k_) ∧ nS k_ Ao15 y104 co15 ∧ nS k_ Ao125 y152 co125 ∧ k_ ≠ gb101 ∧ k_ ≠ gb102 ∧ k_ ≠ gb103 ∧ k_ ≠ gb110 ∧ k_ ≠ gb111)) (nZ HO_111001) hg hat); have n4_ := aK (blk_grown BK101.out hg (Kd.N_ne HO_112001.out BK101.out (by decide))); have n5_ := aK (blk_grown BK102.out hg (Kd.N_away HO_112001.out (fun _ hk => hk.2.2.2.2.1))); have n6_ := aK (blk_grown BK103.out hg (Kd.N_ne HO_112001.out BK103.out (by decide))); have n7_ := aK (blk_grown BK110.out hg (Kd.N_ne HO_112001.out BK110.out (by decide))); have n8_ := aK (blk_grown BK111.out hg (Kd.N_ne HO_112001.out BK111.out (by decide))); have n9_ := aK (Kd.R_over' HO154.out (Kd.N_typed HO_112001.out) (by decide) hg); have n10_ := aK (hb); have HO157 := aK (ho); clear HO_102001; have HO_102001 := n0_; clear n0_; clear HO_103001; have HO_103001 := n1_; clear n1_; clear HO_111000; have HO_111000 := n2_; clear n2_; clear HO_111001; have HO_111001 := n3_; clear n3_; clear BK101; have BK101 := n4_; clear n4_; clear BK102; have BK102 := n5_; clear n5_; clear BK103; have BK103 := n6_; clear n6_; clear BK110; have BK110 := n7_; clear n7_; clear BK111; have BK111 := n8_; clear n8_; clear HO154; have HO154 := n9_; clear n9_; clear HB; have HB := n10_; clear n10_; clear HO_112001; clear ho hb hg hat; obtain ⟨Ao134, co134, eo134⟩ := Kd.N_slice HO157.out; subst eo134; obtain ⟨hcz135_0, hcz135_1, hfz135_0, hfz135_1⟩ := cA2 BK111; have hnb136 := NB103_101.out; have hnc136 := NB101_103.out; have hnb137 := NB103_110.out; have hnc137 := NB110_103.out; obtain ⟨hcz138_0, hcz138_1, hfz138_0, hfz138_1⟩ := cA2 BK103))
       refine bodyPost_ret (results_cell_row rfl _ _ gb103 60 #[.slice Ao125 y152.length co125, .slice Ao134 y155.length co134] (0, 0) _ rfl (by (with_reducible repeat first | apply zN | apply zD | apply zA); refine blk_put (cs := #[.slice Ao125 y152.length co125, .slice none 0 0]) ?_ 1 _ rfl; (with_reducible repeat first | apply zN | apply zD | apply zA); refine blk_put (cs := #[.slice none 0 0, .slice none 0 0]) ?_ 0 _ rfl; (repeat first | with_reducible apply zN | with_reducible apply zD | with_reducible apply zA | refine blk_far ?_ NB103_111.out _); exact BK103.out) Tryz.underlying60 rfl (by kernel_rfl)) rfl ?_
       exact ⟨_, _, eW, by (with_reducible repeat (first | apply rA | apply rN | apply rD)); exact Kd.R_mono (Kd.R_far (p := ⟨gb103, 1, none⟩) (Kd.R_far (p := ⟨gb103, 0, none⟩) (Kd.R_far (p := ⟨gb111, 1, none⟩) (Kd.R_types (Kd.R_types HO154.out BK111.out (by decide)) BK103.out (by decide)) (fun _ hk => hk.1.2) (.slice Ao134 y155.length co134)) (fun _ hk => hk.2) (.slice Ao125 y152.length co125)) (fun _ hk => hk.2) (.slice Ao134 y155.length co134)) (fun _ hk => hk.1.1.1), by (with_reducible repeat (first | apply Kd.N_alloc | apply Kd.N_drewN | apply Kd.N_drew)); exact Kd.N_mono (Kd.N_far (p := ⟨gb103, 1, none⟩) (Kd.N_far (p := ⟨gb103, 0, none⟩) (Kd.N_far (p := ⟨gb111, 1, none⟩) (Kd.N_mono (Kd.N_mono HO157.out (fun k_ hk => (⟨hk, hk.2.2.2.2.2.2.2⟩ : _ ∧ k_ ≠ gb111))) (fun k_ hk => (⟨hk, hk.1.2.2.2.2.2.1⟩ : _ ∧ k_ ≠ gb103))) (fun _ hk => hk.1.2) (.slice Ao134 y155.length co134)) (fun _ hk => hk.2) (.slice Ao125 y152.length co125)) (fun _ hk => hk.2) (.slice Ao134 y155.length co134)) (fun _ hk => ⟨hk.1.1.1, hk.1.1.2.2.1⟩), pH HB⟩
      ·rw [if_neg c118] at H
       exact absurd H (by simp)
     ·rw [if_neg c117] at H
      exact absurd H (by simp)

end Go.Proofs.YteffjlhljeodpaaGreatDoor.G

namespace Go.Proofs.YteffjlhljeodpaaGreatDoor.G
open Go.RowKit Go.Proofs.YteffjlhljeodpaaGreatDoorW.PrintWords Go.Proofs.YteffjlhljeodpaaGreatDoorW.PrintLast Go.Proofs.YteffjlhljeodpaaGreatDoorW.PrintMore Go.Proofs.YteffjlhljeodpaaGreatDoor.Short
attribute [local go_sem] max2_int min2_int max_two min_two max_three min_three max_four min_four   -- for this text's walks alone
set_option linter.unusedVariables false
set_option linter.unusedSimpArgs false

def spec_leAllFine.l0 : Nat → Bool → List (S55) → Int → Int → Option (Bool)
 | 0, _, _, _, _ => none
 | k + 1, x1, x8, x9, x10 => if x10 < x9 then (if 0 ≤ x10 then (if x10 < (x8.length : Int) then ((spec_leWay.f k ((rd_T55 x8 x10).f0) ((rd_T55 x8 x10).f1) x1).bind fun t104 => (if t104 = true then (spec_leAllFine.l0 k x1 x8 x9 (wrap64 (x10 + 1))) else (some false))) else (none)) else (none)) else (some true)
def spec_leAllFine.f (k : Nat) (l0_0 : List Int) (l0_1 : List (S55)) (a1 : Bool) : Option (Bool) := spec_leAllFine.l0 k a1 l0_1 (l0_1.length : Int) 0
set_option maxHeartbeats 8000000 in
set_option maxRecDepth 100000 in
theorem spec_leAllFine.calls (k : Nat) (A0_0 : Option Addr) (c0_0 : Nat) (l0_0 : List Int) (A0_1 : Option Addr) (c0_1 : Nat) (l0_1 : List (S55)) (a1 : Bool) (r : Bool) (w : World) (hr0_0 : Kd.C (Kd.int .i64) w A0_0 l0_0.length l0_0) (hc0_0 : l0_0.length ≤ c0_0) (hr0_1 : Kd.C k55 w A0_1 l0_1.length l0_1) (hc0_1 : l0_1.length ≤ c0_1) (h : spec_leAllFine.f k l0_0 l0_1 a1 = some r) :
  Calls Tryz.prog 49 #[.agg #[.slice A0_0 l0_0.length c0_0, .slice A0_1 l0_1.length c0_1], .bool a1] w fun e w' => e = .returned (.bool r) ∧ Below w.heap.size w w' := by
 have hu60 := Tryz.underlying60
 have hu55 := Tryz.underlying55
 have HR0_0 := aK hr0_0
 have HC0_0 := aK hc0_0
 clear hr0_0 hc0_0
 have HR0_1 := aK hr0_1
 have HC0_1 := aK hc0_1
 clear hr0_1 hc0_1
 have HB := aK (Below.refl w.heap.size w)
 have H : (spec_leAllFine.l0 k a1 l0_1 (l0_1.length : Int) 0) = some r := h
 clear h
 have H' := aK H
 clear H
 go_enter Tryz.func49, Tryz.ntmps49
 go_wp2_with (first | ((with_reducible refine gate_dst (N := 2) rfl ?_); refine bE (N := 2) (cs := #[.slice A0_0 l0_0.length c0_0, .slice A0_1 l0_1.length c0_1]) (t := 60) ?_; intro gb101 hg w3 hbox hb; have GW101 := qw HB hg; have GE101 := qw HB hg; have BK101 := aK hbox; replace HB := qs HB hb; clear hb hbox hg; have hcz4_0 := kq20 BK101; have hcz4_1 := kq21 BK101; have hfz4_0 := fz BK101 0; have hfz4_1 := fz BK101 1))
 go_loopg [10] k (fun kq v10 w' => ∃ (x10_1 : Int), v10 = .int .i64 x10_1 ∧ Aside0 (spec_leAllFine.l0 kq a1 l0_1 (l0_1.length : Int) x10_1 = some r) ∧ Aside0 (kq ≤ k) ∧ Aside0 (w'.heap[gb101]? = some (.cells #[(.slice A0_0 l0_0.length c0_0), (.slice A0_1 l0_1.length c0_1)] 60 (0, 0))) ∧ Aside0 (Below w.heap.size w w'))
 case atStart => exact ⟨(0), rS, H', ⟨Nat.le_refl _⟩, ⟨pB BK101⟩, ⟨pH HB⟩⟩
 case round =>
  clear H'
  obtain ⟨x10_1, rfl, HA, HK1, BK101, HB⟩ := hrel
  cases gk with
  | zero => exact absurd HA.out (by simp [spec_leAllFine.l0])
  | succ k1 =>
   have H := HA.out
   clear HA
   simp only [spec_leAllFine.l0] at H
   by_cases c5 : x10_1 < (l0_1.length : Int)
   ·rw [if_pos c5] at H
    have c5b0 : decide (x10_1 < (l0_1.length : Int)) = true := decide_eq_true c5
    clear c5
    by_cases c6 : 0 ≤ x10_1
    ·rw [if_pos c6] at H
     have c6b0 : decide (0 ≤ x10_1) = true := decide_eq_true c6
     clear c6
     by_cases c7 : x10_1 < (l0_1.length : Int)
     ·rw [if_pos c7] at H
      have c7b0 : decide (x10_1 < (l0_1.length : Int)) = true := decide_eq_true c7
      clear c7
      obtain ⟨t104, A8, H⟩ := oB H
      try dsimp only at H
      by_cases c9 : t104 = true
      ·subst c9
       rw [if_pos rfl] at H
       have H' := aK H
       clear H
       have p102 : 0 ≤ (x10_1 : Int) := dA
       have q102 : x10_1 < (l0_1.length : Int) := dA
       obtain ⟨ad102, A102_1, c102_1, e102, hx102_0, hx102_1, hl102_1, hi102_1⟩ := at_T55 HR0_1.out x10_1 p102 q102
       cases e102
       replace hx102_0 := uC HB hx102_0
       replace hx102_1 := uC HB hx102_1
       have HR102_1 := aK hi102_1
       have HC102_1 := aK hl102_1
       clear hi102_1 hl102_1
       replace p102 := eq_true p102
       replace q102 := eq_true q102
       go_wp2_with (first | ((with_reducible refine gate_dst (N := 6) rfl ?_); refine bE (N := 6) (cs := #[.int .i64 0, .slice none 0 0]) (t := 55) ?_; intro gb103 hg w10 hbox hb; have GW103 := qw HB hg; have GE103 := qw HB hg; have NB101_103 := ql BK101 hg; have NB103_101 := qg BK101 hg; replace BK101 := qb BK101 hb; have BK103 := aK hbox; replace HB := qs HB hb; clear hb hbox hg; have hnb11 := NB103_101.out; have hnc11 := NB101_103.out; have hcz12_0 := kq20 BK103; have hcz12_1 := kq21 BK103; have hfz12_0 := fz BK103 0; have hfz12_1 := fz BK103 1) | ((with_reducible refine gate_callee (f := 44) rfl ?_); refine goesL_ (some 16) rfl rfl Tryz.func44 (by kernel_rfl) rfl #[.agg #[.int .i64 ((rd_T55 l0_1 x10_1).f0), .slice A102_1 ((rd_T55 l0_1 x10_1).f1).length c102_1], .bool a1] rfl tA ?_; (with_reducible refine (spec_leWay.calls k1 ((rd_T55 l0_1 x10_1).f0) _ _ ((rd_T55 l0_1 x10_1).f1) a1 true _ ?side1 ?side2 A8.out).mono ?_); (case side1 => exact Kd.C_below HR102_1.out (pH HB)); (case side2 => exact HC102_1.out); rintro e w13 ⟨rfl, hb⟩; refine ⟨_, rfl, ?_⟩; have n_ := aJ (aK (blk_below (g := gb101) (o := .cells #[.slice A0_0 l0_0.length c0_0, .slice (some ad102) l0_1.length c0_1] 60 (0, 0)) (bY BK101) hb)) (aJ (aK (blk_below (g := gb103) (o := .cells #[.int .i64 ((rd_T55 l0_1 x10_1).f0), .slice A102_1 ((rd_T55 l0_1 x10_1).f1).length c102_1] 55 (0, 0)) (bP BK103) hb)) (aK (below_step (pH HB) hb))); clear BK101 BK103 HB; obtain ⟨BK101, BK103, HB⟩ := n_; (try clear hb)))
       go_roundg k1
       case measure => have := HK1.out; omega
       case rel => exact ⟨(wrap64 (x10_1 + 1)), rS, H', ⟨by have := HK1.out; omega⟩, ⟨pB BK101⟩, ⟨pH HB⟩⟩
      ·replace c9 := Bool.eq_false_iff.mpr c9
       subst c9
       rw [if_neg (show ¬ (false = true) by decide)] at H
       obtain rfl := Option.some.inj H
       have p102 : 0 ≤ (x10_1 : Int) := dA
       have q102 : x10_1 < (l0_1.length : Int) := dA
       obtain ⟨ad102, A102_1, c102_1, e102, hx102_0, hx102_1, hl102_1, hi102_1⟩ := at_T55 HR0_1.out x10_1 p102 q102
       cases e102
       replace hx102_0 := uC HB hx102_0
       replace hx102_1 := uC HB hx102_1
       have HR102_1 := aK hi102_1
       have HC102_1 := aK hl102_1
       clear hi102_1 hl102_1
       replace p102 := eq_true p102
       replace q102 := eq_true q102
       go_wp2_with (first | ((with_reducible refine gate_dst (N := 6) rfl ?_); refine bE (N := 6) (cs := #[.int .i64 0, .slice none 0 0]) (t := 55) ?_; intro gb103 hg w14 hbox hb; have GW103 := qw HB hg; have GE103 := qw HB hg; have NB101_103 := ql BK101 hg; have NB103_101 := qg BK101 hg; replace BK101 := qb BK101 hb; have BK103 := aK hbox; replace HB := qs HB hb; clear hb hbox hg; have hnb15 := NB103_101.out; have hnc15 := NB101_103.out; have hcz16_0 := kq20 BK103; have hcz16_1 := kq21 BK103; have hfz16_0 := fz BK103 0; have hfz16_1 := fz BK103 1) | ((with_reducible refine gate_callee (f := 44) rfl ?_); refine goesL_ (some 16) rfl rfl Tryz.func44 (by kernel_rfl) rfl #[.agg #[.int .i64 ((rd_T55 l0_1 x10_1).f0), .slice A102_1 ((rd_T55 l0_1 x10_1).f1).length c102_1], .bool a1] rfl tA ?_; (with_reducible refine (spec_leWay.calls k1 ((rd_T55 l0_1 x10_1).f0) _ _ ((rd_T55 l0_1 x10_1).f1) a1 false _ ?side1 ?side2 A8.out).mono ?_); (case side1 => exact Kd.C_below HR102_1.out (pH HB)); (case side2 => exact HC102_1.out); rintro e w17 ⟨rfl, hb⟩; refine ⟨_, rfl, ?_⟩; have n_ := aJ (aK (blk_below (g := gb101) (o := .cells #[.slice A0_0 l0_0.length c0_0, .slice (some ad102) l0_1.length c0_1] 60 (0, 0)) (bY BK101) hb)) (aJ (aK (blk_below (g := gb103) (o := .cells #[.int .i64 ((rd_T55 l0_1 x10_1).f0), .slice A102_1 ((rd_T55 l0_1 x10_1).f1).length c102_1] 55 (0, 0)) (bP BK103) hb)) (aK (below_step (pH HB) hb))); clear BK101 BK103 HB; obtain ⟨BK101, BK103, HB⟩ := n_; (try clear hb)))
       go_ret
       exact ⟨eW, pH HB⟩
     ·rw [if_neg c7] at H
      exact absurd H (by simp)
    ·rw [if_neg c6] at H
     exact absurd H (by simp)
   ·rw [if_neg c5] at H
    have c5b0 : decide (x10_1 < (l0_1.length : Int)) = false := decide_eq_false c5
    clear c5
    obtain rfl := Option.some.inj H
    go_wp2
    go_ret
    exact ⟨eW, pH HB⟩

end Go.Proofs.YteffjlhljeodpaaGreatDoor.G

namespace Go.Proofs.YteffjlhljeodpaaGreatDoor.G
open Go.RowKit Go.Proofs.YteffjlhljeodpaaGreatDoorW.PrintWords Go.Proofs.YteffjlhljeodpaaGreatDoorW.PrintLast Go.Proofs.YteffjlhljeodpaaGreatDoorW.PrintMore Go.Proofs.YteffjlhljeodpaaGreatDoor.Short
theorem V_blk {α : Type} {d : Kd α} {e base : Nat} {W : World} {ok : Nat → Prop} {ad : Addr} {n c : Nat} {xs : List α} (h : Kd.V d e W base ok (.slice (some ad) n c) xs) (hn : 0 < n) (hsz : 0 < d.sz) : ok ad.block := by
  by_cases hc : ok ad.block
  · exact hc
  exfalso
  obtain ⟨W', hW'⟩ : ∃ W' : World, W'.heap = W.heap.modify ad.block (fun _ => .map #[] 0) := ⟨{ W with heap := W.heap.modify ad.block (fun _ => .map #[] 0) }, rfl⟩
  have hF := Kd.V_F h W' (fun k hk hlt => by rw [hW', Array.getElem?_modify, if_neg (fun e : ad.block = k => hc (by rw [e]; exact hk))])
  cases xs with
  | nil => have := (Kd.V_reads' h).1; rw [this] at hn; exact absurd hn (by simp)
  | cons z xs =>
    obtain ⟨ad', c', e1, hl, hK, hcell⟩ := Kd.C_get hF z 0 (Int.le_refl _) (by omega)
    injection e1 with e1
    subst e1
    have h0 := hcell 0 _ (List.getElem?_eq_getElem (by omega))
    have hlt := World.block_lt_of_cell? W' _ h0
    unfold World.cell? at h0
    rw [hW', add_block, Array.getElem?_modify, if_pos rfl] at h0
    cases hb : W.heap[ad.block]? with
    | none => rw [hb] at h0; simp at h0
    | some b => rw [hb] at h0; simp at h0
theorem V_blk55 {e base : Nat} {W : World} {ok : Nat → Prop} {ad : Addr} {n c : Nat} {xs : List S55} (h : Kd.V k55 e W base ok (.slice (some ad) n c) xs) (hn : decide (0 < n) = true) : ok ad.block := V_blk h (of_decide_eq_true hn) (show 0 < 2 by decide)
end Go.Proofs.YteffjlhljeodpaaGreatDoor.G
