/- Part 3 of 4 of the proof that the law FnExactStepCombSaid holds: for every input that can be read the call returns true and leaves its arguments as they were; no condition but those each theorem names. -/
import Derived.Shelf.SlicesQ.Reverse
import Derived.Ground.SlgnProg
import Derived.Lib.SliceRun
import Derived.Test.YtcjhhdecckcibaaQStepCombW1
import Derived.Test.YtcjhhdecckcibaaQStepComb1
import Derived.Test.YtcjhhdecckcibaaQStepComb2
namespace Go.Proofs.Ytcjhhdecckcibaa.G
open Go.RowKit Go.Proofs.YtcjhhdecckcibaaW.PrintWords Go.Proofs.YtcjhhdecckcibaaW.PrintLast Go.Proofs.YtcjhhdecckcibaaW.PrintMore
attribute [local go_sem] max2_int min2_int max_two min_two max_three min_three max_four min_four   -- for this text's walks alone
set_option linter.unusedVariables false
set_option linter.unusedSimpArgs false

mutual
def impl_combAt.j0 : Nat → List (S52) → Int → Bool → Option (Int × Int × (List (S58)) × Int × Bool)
 | 0, _, _, _ => none
 | k + 1, x0, x1, x42 => if x42 = true then (some (0, 0, ([] : List (S58)), 0, false)) else (if 0 ≤ x1 then (if x1 < (x0.length : Int) then (impl_combAt.l0 k x0 x1 (wrap64 (x1 + 1)) ((rd_T52 x0 x1).f0) ((rd_T52 x0 x1).f1) ([] : List (S58))) else (none)) else (none))
def impl_combAt.l0 : Nat → List (S52) → Int → Int → Int → Int → List (S58) → Option (Int × Int × (List (S58)) × Int × Bool)
 | 0, _, _, _, _, _, _ => none
 | k + 1, x0, x1, x10, x108000, x108001, x108002 => if x108000 = 2 then (impl_combAt.j2 k x0 x1 x10 (decide ((x108002.length : Int) < 2)) x108000 x108001 x108002) else (impl_combAt.j2 k x0 x1 x10 false x108000 x108001 x108002)
def impl_combAt.j2 : Nat → List (S52) → Int → Int → Bool → Int → Int → List (S58) → Option (Int × Int × (List (S58)) × Int × Bool)
 | 0, _, _, _, _, _, _, _ => none
 | k + 1, x0, x1, x10, x65, x108000, x108001, x108002 => if x65 = true then ((impl_combAt.f k x0 x10 x1).bind fun bt108 => (if bt108.2.2.2.2 = true then (if x108002.length < 3518437208883 then (impl_combAt.l0 k x0 x1 bt108.2.2.2.1 x108000 x108001 (x108002 ++ [(⟨bt108.1, bt108.2.1, bt108.2.2.1⟩ : S58)])) else (none)) else (some (0, 0, ([] : List (S58)), 0, false)))) else (some (x108000, x108001, x108002, x10, true))
def impl_combAt.f : Nat → List (S52) → Int → Int → Option (Int × Int × (List (S58)) × Int × Bool)
 | 0, _, _, _ => none
 | k + 1, l0, a1, a2 => if a1 = (l0.length : Int) then (impl_combAt.j0 k l0 a1 true) else (if 0 ≤ a1 then (if a1 < (l0.length : Int) then (if ((rd_T52 l0 a1).f2) = a2 then (if ((rd_T52 l0 a1).f0) < 1 then (impl_combAt.j0 k l0 a1 true) else (impl_combAt.j0 k l0 a1 (decide (((rd_T52 l0 a1).f0) > 5)))) else (impl_combAt.j0 k l0 a1 true)) else (none)) else (none))
end
def impl_combAt.T3 : Bool × List (List Nat × List Nat) := (true, [([], []), ([], []), ([0, 1], [0, 1]), ([2], [2]), ([3], [3]), ([], []), ([], []), ([5, 6], [5, 6]), ([7], [7]), ([8], [8]), ([4, 9], [4, 9]), ([], []), ([11], [11]), ([], []), ([13, 10, 0, 1, 2, 3, 4, 5, 6, 7, 8, 9, 10, 13], [10, 13]), ([12, 14, 0, 1, 2, 3, 4, 5, 6, 7, 8, 9, 10, 11, 12, 13, 14], [12])])
def impl_combAt.B3 : List Nat := [0, 0, 3, 7, 15, 0, 0, 96, 224, 480, 1023, 0, 2048, 0, 10239, 32767]
theorem impl_combAt.tab3 : rtab .any (opsOf Try.f64 3) = impl_combAt.T3 := by kernel_rfl
theorem impl_combAt.bits3 : waitsOk impl_combAt.T3.2 impl_combAt.B3 = true := by kernel_rfl
set_option maxHeartbeats 8000000 in
set_option maxRecDepth 100000 in
theorem impl_combAt.calls (k : Nat) : ∀ (A0 : Option Addr) (c0 : Nat) (l0 : List (S52)) (a1 : Int) (a2 : Int) (r1 : Int) (r2 : Int) (r3 : List (S58)) (r4 : Int) (r5 : Bool) (w : World) (hr0 : Kd.C k52 w A0 l0.length l0) (hc0 : l0.length ≤ c0) (h : impl_combAt.f k l0 a1 a2 = some (r1, r2, r3, r4, r5)),
  Calls Try.prog 64 #[.slice A0 l0.length c0, .int .i64 a1, .int .i64 a2] w fun e w' => ∃ v2_ : Value, e = .returned (.tuple #[.agg #[.int .i64 r1, .int .i64 r2, v2_], .int .i64 r4, .bool r5]) ∧ Kd.R k58 58 w' w.heap.size (fun _ => True) v2_ r3 ∧ Below w.heap.size w w' := by
 induction k using Nat.strongRecOn with
 | _ k ih =>
 intro A0 c0 l0 a1 a2 r1 r2 r3 r4 r5 w hr0 hc0 h
 cases k with
 | zero => exact absurd h (by simp [impl_combAt.f])
 | succ k =>
 simp only [impl_combAt.f] at h
 have hu58 := Try.underlying58
 have HR0 := aK hr0
 have HC0 := aK hc0
 clear hr0 hc0
 have HB := aK (Below.refl w.heap.size w)
 have H : (if a1 = (l0.length : Int) then (impl_combAt.j0 k l0 a1 true) else (if 0 ≤ a1 then (if a1 < (l0.length : Int) then (if ((rd_T52 l0 a1).f2) = a2 then (if ((rd_T52 l0 a1).f0) < 1 then (impl_combAt.j0 k l0 a1 true) else (impl_combAt.j0 k l0 a1 (decide (((rd_T52 l0 a1).f0) > 5)))) else (impl_combAt.j0 k l0 a1 true)) else (none)) else (none))) = some (r1, r2, r3, r4, r5) := h
 clear h
 have HC4 := aK H
 clear H
 go_enter Try.func64, Try.ntmps64
 go_upto_region 1 with (first | ((with_reducible refine gate_dst (N := 6) rfl ?_); (try (refine gate_guard (by rfl) ?_; dsimp only)); refine bE (N := 6) (cs := #[.int .i64 0, .int .i64 0, .slice none 0 0]) (t := 58) ?_; intro gb101 hg w5 hbox hb; have GW101 := qw HB hg; have GE101 := qw HB hg; have BK101 := aK hbox; replace HB := qs HB hb; clear hb hbox hg))
 (try simp only [Act.put, List.setIfInBounds_toArray, List.set_cons_zero, List.set_cons_succ])
 go_cut [42] (fun v42 wc => ∃ (kq : Nat) (x42_3 : Bool), v42 = .bool x42_3 ∧ Aside0 (impl_combAt.j0 kq l0 a1 x42_3 = some (r1, r2, r3, r4, r5)) ∧ Aside0 (kq ≤ k) ∧ Aside0 (wc.heap[gb101]? = some (.cells #[.int .i64 0, .int .i64 0, (.slice none 0 0)] 58 (0, 0))) ∧ Aside0 (Below w.heap.size w wc))
 case first =>
  have H := HC4.out
  clear HC4
  by_cases c6 : a1 = (l0.length : Int)
  ·rw [if_pos c6] at H
   have c6b0 : (a1 == (l0.length : Int)) = true := beq_iff_eq.mpr c6
   have c6b1 : (a1 != (l0.length : Int)) = false := bne_eq_false_iff_eq.mpr c6
   clear c6
   (first | rw [c6b0] | (simp only [i64_w, i32_w]; rw [c6b0]) | skip)
   have H' := aK H
   clear H
   go_wp2
   go_meet
   case rel => exact ⟨_, (true), rS, H', ⟨by first | omega | exact Nat.le_refl _⟩, ⟨pB BK101⟩, ⟨pH HB⟩⟩
  ·rw [if_neg c6] at H
   have c6b0 : (a1 == (l0.length : Int)) = false := beq_eq_false_iff_ne.mpr c6
   have c6b1 : (a1 != (l0.length : Int)) = true := bne_iff_ne.mpr c6
   (first | rw [c6b0] | (simp only [i64_w, i32_w]; rw [c6b0]) | skip)
   by_cases c7 : 0 ≤ a1
   ·rw [if_pos c7] at H
    have c7b0 : decide (0 ≤ a1) = true := decide_eq_true c7
    clear c7
    by_cases c8 : a1 < (l0.length : Int)
    ·rw [if_pos c8] at H
     have c8b0 : decide (a1 < (l0.length : Int)) = true := decide_eq_true c8
     clear c8
     by_cases c9 : ((rd_T52 l0 a1).f2) = a2
     ·rw [if_pos c9] at H
      have c9b0 : (((rd_T52 l0 a1).f2) == a2) = true := beq_iff_eq.mpr c9
      have c9b1 : (((rd_T52 l0 a1).f2) != a2) = false := bne_eq_false_iff_eq.mpr c9
      clear c9
      by_cases c10 : ((rd_T52 l0 a1).f0) < 1
      ·rw [if_pos c10] at H
       have c10b0 : decide (((rd_T52 l0 a1).f0) < 1) = true := decide_eq_true c10
       clear c10
       have H' := aK H
       clear H
       have p102 : 0 ≤ (a1 : Int) := dA
       have q102 : a1 < (l0.length : Int) := dA
       obtain ⟨ad102, e102, hx102_0, hx102_1, hx102_2⟩ := at_T52 HR0.out a1 p102 q102
       cases e102
       replace hx102_0 := uC HB hx102_0
       replace hx102_1 := uC HB hx102_1
       replace hx102_2 := uC HB hx102_2
       replace p102 := eq_true p102
       replace q102 := eq_true q102
       have p103 : 0 ≤ (a1 : Int) := dA
       have q103 : a1 < (l0.length : Int) := dA
       obtain ⟨ad103, e103, hx103_0, hx103_1, hx103_2⟩ := at_T52 HR0.out a1 p103 q103
       obtain rfl : ad102 = ad103 := (by injection e103)
       replace hx103_0 := uC HB hx103_0
       replace hx103_1 := uC HB hx103_1
       replace hx103_2 := uC HB hx103_2
       replace p103 := eq_true p103
       replace q103 := eq_true q103
       go_wp2
       go_meet
       case rel => exact ⟨_, (true), rS, H', ⟨by first | omega | exact Nat.le_refl _⟩, ⟨pB BK101⟩, ⟨pH HB⟩⟩
      ·rw [if_neg c10] at H
       have c10b0 : decide (((rd_T52 l0 a1).f0) < 1) = false := decide_eq_false c10
       clear c10
       have H' := aK H
       clear H
       have p102 : 0 ≤ (a1 : Int) := dA
       have q102 : a1 < (l0.length : Int) := dA
       obtain ⟨ad102, e102, hx102_0, hx102_1, hx102_2⟩ := at_T52 HR0.out a1 p102 q102
       cases e102
       replace hx102_0 := uC HB hx102_0
       replace hx102_1 := uC HB hx102_1
       replace hx102_2 := uC HB hx102_2
       replace p102 := eq_true p102
       replace q102 := eq_true q102
       have p103 : 0 ≤ (a1 : Int) := dA
       have q103 : a1 < (l0.length : Int) := dA
       obtain ⟨ad103, e103, hx103_0, hx103_1, hx103_2⟩ := at_T52 HR0.out a1 p103 q103
       obtain rfl : ad102 = ad103 := (by injection e103)
       replace hx103_0 := uC HB hx103_0
       replace hx103_1 := uC HB hx103_1
       replace hx103_2 := uC HB hx103_2
       replace p103 := eq_true p103
       replace q103 := eq_true q103
       have p104 : 0 ≤ (a1 : Int) := dA
       have q104 : a1 < (l0.length : Int) := dA
       obtain ⟨ad104, e104, hx104_0, hx104_1, hx104_2⟩ := at_T52 HR0.out a1 p104 q104
       obtain rfl : ad102 = ad104 := (by injection e104)
       replace hx104_0 := uC HB hx104_0
       replace hx104_1 := uC HB hx104_1
       replace hx104_2 := uC HB hx104_2
       replace p104 := eq_true p104
       replace q104 := eq_true q104
       go_wp2
       go_meet
       case rel => exact ⟨_, (decide (((rd_T52 l0 a1).f0) > 5)), rS, H', ⟨by first | omega | exact Nat.le_refl _⟩, ⟨pB BK101⟩, ⟨pH HB⟩⟩
     ·rw [if_neg c9] at H
      have c9b0 : (((rd_T52 l0 a1).f2) == a2) = false := beq_eq_false_iff_ne.mpr c9
      have c9b1 : (((rd_T52 l0 a1).f2) != a2) = true := bne_iff_ne.mpr c9
      have H' := aK H
      clear H
      have p102 : 0 ≤ (a1 : Int) := dA
      have q102 : a1 < (l0.length : Int) := dA
      obtain ⟨ad102, e102, hx102_0, hx102_1, hx102_2⟩ := at_T52 HR0.out a1 p102 q102
      cases e102
      replace hx102_0 := uC HB hx102_0
      replace hx102_1 := uC HB hx102_1
      replace hx102_2 := uC HB hx102_2
      replace p102 := eq_true p102
      replace q102 := eq_true q102
      go_wp2
      go_meet
      case rel => exact ⟨_, (true), rS, H', ⟨by first | omega | exact Nat.le_refl _⟩, ⟨pB BK101⟩, ⟨pH HB⟩⟩
    ·rw [if_neg c8] at H
     exact absurd H (by simp)
   ·rw [if_neg c7] at H
    exact absurd H (by simp)
 case rest =>
  clear HC4
  try clear c1
  try clear p1
  try clear q1
  try clear hx1
  try clear p2
  try clear c6
  try clear c6b0
  try clear c6b1
  try clear c7
  try clear c7b0
  try clear c8
  try clear c8b0
  try clear c9
  try clear c9b0
  try clear c9b1
  try clear c10
  try clear c10b0
  try clear p10
  try clear q10
  try clear hx10
  try clear hx102_0
  try clear hx102_1
  try clear hx102_2
  try clear hx103_0
  try clear hx103_1
  try clear hx103_2
  try clear hx104_0
  try clear hx104_1
  try clear hx104_2
  try clear p102
  try clear p103
  try clear p104
  try clear q102
  try clear q103
  try clear q104
  obtain ⟨kq, x42_3, rfl, HA, HJ3, BK101, HB⟩ := hcut
  cases kq with
  | zero => exact absurd HA.out (by simp [impl_combAt.j0])
  | succ kj3 =>
   have H := HA.out
   clear HA
   simp only [impl_combAt.j0] at H
   by_cases c11 : x42_3 = true
   ·subst c11
    rw [if_pos rfl] at H
    simp only [Option.some.injEq, Prod.mk.injEq] at H
    obtain ⟨rfl, rfl, rfl, rfl, rfl⟩ := H
    have hcz12_0 := k30 BK101
    have hcz12_1 := k31 BK101
    have hcz12_2 := k32 BK101
    have hfz12_0 := fz BK101 0
    have hfz12_1 := fz BK101 1
    have hfz12_2 := fz BK101 2
    go_wp2
    refine bodyPost_ret (results_ctt rfl _ _ gb101 58 #[.int .i64 0, .int .i64 0, .slice none 0 0] (0, 0) _ rfl (p3 BK101) Try.underlying58 rfl (by kernel_rfl)) rfl ?_
    exact ⟨_, eW, by first | exact Kd.R_nil _ _ _ _ _ | exact Kd.N_nil _ _ _ _ _ | exact Kd.V_nil _ _ _ _ _ | exact Kd.Q_nil _ _ _ _ _ | exact Kd.S_nil _ _ _ _ _, pH HB⟩
   ·replace c11 := Bool.eq_false_iff.mpr c11
    subst c11
    rw [if_neg (show ¬ (false = true) by decide)] at H
    by_cases c13 : 0 ≤ a1
    ·rw [if_pos c13] at H
     have c13b0 : decide (0 ≤ a1) = true := decide_eq_true c13
     clear c13
     by_cases c14 : a1 < (l0.length : Int)
     ·rw [if_pos c14] at H
      have c14b0 : decide (a1 < (l0.length : Int)) = true := decide_eq_true c14
      clear c14
      have H' := aK H
      clear H
      try go_wp2
      have n0_ := aK (blk_drew BK101.out)
      have n1_ := aK (below_drew1 HB.out)
      clear BK101
      clear HB
      have BK101 := n0_
      have HB := n1_
      clear n0_ n1_
      have p105 : 0 ≤ (a1 : Int) := dA
      have q105 : a1 < (l0.length : Int) := dA
      obtain ⟨ad105, e105, hx105_0, hx105_1, hx105_2⟩ := at_T52 HR0.out a1 p105 q105
      have hw105_2 := hx105_2
      have hw105_1 := hx105_1
      have hw105_0 := hx105_0
      cases e105
      replace hx105_0 := uC HB hx105_0
      replace hx105_1 := uC HB hx105_1
      replace hx105_2 := uC HB hx105_2
      replace p105 := eq_true p105
      replace q105 := eq_true q105
      have p106 : 0 ≤ (a1 : Int) := dA
      have q106 : a1 < (l0.length : Int) := dA
      obtain ⟨ad106, e106, hx106_0, hx106_1, hx106_2⟩ := at_T52 HR0.out a1 p106 q106
      have hw106_2 := hx106_2
      have hw106_1 := hx106_1
      have hw106_0 := hx106_0
      obtain rfl : ad105 = ad106 := (by injection e106)
      replace hx106_0 := uC HB hx106_0
      replace hx106_1 := uC HB hx106_1
      replace hx106_2 := uC HB hx106_2
      replace p106 := eq_true p106
      replace q106 := eq_true q106
      refine start_ (n := 16) (S := fun w' => w'.cell? (ad105.add ((a1).toNat * 3)) = some (.int .i64 ((rd_T52 l0 a1).f0)) ∧ w'.cell? ⟨(ad105.add ((a1).toNat * 3)).block, (ad105.add ((a1).toNat * 3)).off + 1, none⟩ = some (.int .i64 ((rd_T52 l0 a1).f1)) ∧ w'.cell? ⟨(ad105.add ((a1).toNat * 3)).block, (ad105.add ((a1).toNat * 3)).off + 2, none⟩ = some (.int .i64 ((rd_T52 l0 a1).f2)) ∧ w'.cell? (ad105.add ((a1).toNat * 3)) = some (.int .i64 ((rd_T52 l0 a1).f0)) ∧ w'.cell? ⟨(ad105.add ((a1).toNat * 3)).block, (ad105.add ((a1).toNat * 3)).off + 1, none⟩ = some (.int .i64 ((rd_T52 l0 a1).f1)) ∧ w'.cell? ⟨(ad105.add ((a1).toNat * 3)).block, (ad105.add ((a1).toNat * 3)).off + 2, none⟩ = some (.int .i64 ((rd_T52 l0 a1).f2))) (ds := []) (bs 0 16) (by kernel_rfl) rfl rfl ⟨(uC HB hw105_0), (uC HB hw105_1), (uC HB hw105_2), (uC HB hw106_0), (uC HB hw106_1), (uC HB hw106_2)⟩ (fun hHeld => ?_); refine with_tabW impl_combAt.tab3 impl_combAt.bits3 (fun HT_ HW_ => ?_)
      generalize wc.drew = w15 at BK101 HB hx105_0 hx105_1 hx105_2 hx106_0 hx106_1 hx106_2 hHeld ⊢
      refine pure_ (i := 0) (N := some 44) (v := ?_) (a' := ?_) (bs 1 15) rfl rfl (any_of HT_.out (by kernel_rfl)) (fun _ _ _ h => h) (Or.inl ⟨by rfl, ?_⟩) ?_ ?_
      rotate_left
      ·intro w'
       go_simp
       with_reducible rfl
      rotate_left
      ·simp only [sP, i64_w, i32_w]
       rfl
      refine pure_ (i := 1) (N := some 45) (v := ?_) (a' := ?_) (bs 2 14) rfl rfl (any_of HT_.out (by kernel_rfl)) (fun _ _ _ h => h) (Or.inl ⟨by rfl, ?_⟩) ?_ ?_
      rotate_left
      ·intro w'
       go_simp
       with_reducible rfl
      rotate_left
      ·simp only [sP, i64_w, i32_w]
       rfl
      refine pure_ (i := 2) (N := some 46) (v := ?_) (a' := ?_) (bs 3 13) rfl rfl (any_of HT_.out (by kernel_rfl)) (fun _ _ _ h => h) (Or.inl ⟨by rfl, ?_⟩) ?_ ?_
      rotate_left
      ·intro w'
       go_simp
       with_reducible rfl
      rotate_left
      ·simp only [sP, i64_w, i32_w]
       rfl
      refine pure_ (i := 3) (N := some 47) (v := ?_) (a' := ?_) (bs 4 12) rfl rfl (any_of HT_.out (by kernel_rfl)) (fun _ _ _ h => h) (Or.inl ⟨by rfl, ?_⟩) ?_ ?_
      rotate_left
      ·intro w'
       go_simp
       with_reducible rfl
      rotate_left
      ·simp only [sP, i64_w, i32_w]
       rfl
      refine pure_ (i := 5) (N := some 49) (v := ?_) (a' := ?_) #[true, true, true, true, false, true, false, false, false, false, false, false, false, false, false, false] rfl rfl (any_of HT_.out (by kernel_rfl)) (fun _ _ _ h => h) (Or.inl ⟨by rfl, ?_⟩) ?_ ?_
      rotate_left
      ·intro w'
       go_simp
       with_reducible rfl
      rotate_left
      ·simp only [sP, i64_w, i32_w]
       rfl
      refine pure_ (i := 6) (N := some 50) (v := ?_) (a' := ?_) #[true, true, true, true, false, true, true, false, false, false, false, false, false, false, false, false] rfl rfl (any_of HT_.out (by kernel_rfl)) (fun _ _ _ h => h) (Or.inl ⟨by rfl, ?_⟩) ?_ ?_
      rotate_left
      ·intro w'
       go_simp
       with_reducible rfl
      rotate_left
      ·simp only [sP, i64_w, i32_w]
       rfl
      refine pure_ (i := 7) (N := some 51) (v := ?_) (a' := ?_) #[true, true, true, true, false, true, true, true, false, false, false, false, false, false, false, false] rfl rfl (any_of HT_.out (by kernel_rfl)) (fun _ _ _ h => h) (Or.inl ⟨by rfl, ?_⟩) ?_ ?_
      rotate_left
      ·intro w'
       go_simp
       with_reducible rfl
      rotate_left
      ·simp only [sP, i64_w, i32_w]
       rfl
      refine pure_ (i := 8) (N := some 52) (v := ?_) (a' := ?_) #[true, true, true, true, false, true, true, true, true, false, false, false, false, false, false, false] rfl rfl (any_of HT_.out (by kernel_rfl)) (fun _ _ _ h => h) (Or.inl ⟨by rfl, ?_⟩) ?_ ?_
      rotate_left
      ·intro w'
       go_simp
       with_reducible rfl
      rotate_left
      ·simp only [sP, i64_w, i32_w]
       rfl
      refine pure_ (i := 11) (N := some 55) (v := ?_) (a' := ?_) #[true, true, true, true, false, true, true, true, true, false, false, true, false, false, false, false] rfl rfl (any_of HT_.out (by kernel_rfl)) (fun _ _ _ h => h) (Or.inl ⟨by rfl, ?_⟩) ?_ ?_
      rotate_left
      ·intro w'
       go_simp
       with_reducible rfl
      rotate_left
      ·simp only [sP, i64_w, i32_w]
       rfl
      refine pure_ (i := 12) (N := some 56) (v := ?_) (a' := ?_) #[true, true, true, true, false, true, true, true, true, false, false, true, true, false, false, false] rfl rfl (any_of HT_.out (by kernel_rfl)) (fun _ _ _ h => h) (Or.inl ⟨by rfl, ?_⟩) ?_ ?_
      rotate_left
      ·intro w'
       go_simp
       with_reducible rfl
      rotate_left
      ·simp only [sP, i64_w, i32_w]
       rfl
      refine take_ (i := 4) (N := some 48) (v := ?_) (a' := ?_) #[true, true, true, true, true, true, true, true, true, false, false, true, true, false, false, false] rfl rfl (take_ofW HT_.out HW_.out (by kernel_rfl)) (fun _ _ _ h => h) (Or.inl ⟨by rfl, ?_⟩) hHeld ?_ ?_
      rotate_left
      ·rintro w' ⟨s0, s1, s2, s3, s4, s5⟩
       go_simp
       with_reducible rfl
      rotate_left
      ·simp only [sP, i64_w, i32_w]
       rfl
      refine take_ (i := 9) (N := some 53) (v := ?_) (a' := ?_) #[true, true, true, true, true, true, true, true, true, true, false, true, true, false, false, false] rfl rfl (take_ofW HT_.out HW_.out (by kernel_rfl)) (fun _ _ _ h => h) (Or.inl ⟨by rfl, ?_⟩) hHeld ?_ ?_
      rotate_left
      ·rintro w' ⟨s0, s1, s2, s3, s4, s5⟩
       go_simp
       with_reducible rfl
      rotate_left
      ·simp only [sP, i64_w, i32_w]
       rfl
      refine pure_ (i := 10) (N := some 54) (v := ?_) (a' := ?_) (bs 13 3) rfl rfl (any_of HT_.out (by kernel_rfl)) (fun _ _ _ h => h) (Or.inl ⟨by rfl, ?_⟩) ?_ ?_
      rotate_left
      ·intro w'
       go_simp
       with_reducible rfl
      rotate_left
      ·simp only [sP, i64_w, i32_w]
       rfl
      refine one_ (i := 13) (N := some 9) (bs 14 2) rfl rfl (one_of HT_.out (by kernel_rfl)) (by decide) (fun K hK => ?_)
      refine box_step ?hg (N := 9) ?hd (cs := #[.int .i64 0, .int .i64 0, .slice none 0 0]) (t := 58) ?hr ?_; (case hd => rfl); (case hg => rfl); (case hr => go_simp)
      intro gb107 hg w16 hbox hb
      have n0_ := aK (blk_below BK101.out hb)
      have n1_ := aK (below_step (pH HB) hb)
      have n2_ := aK (hbox)
      have n3_ := aK ((by rw [hg]; exact (below_size (pH HB)) : w.heap.size ≤ gb107))
      have n4_ := aK ((by rw [hg]; exact (below_size (pH HB)) : w.heap.size ≤ gb107))
      have n5_ := aK ((by rw [hg]; exact Nat.ne_of_lt (blk_lt BK101.out) : gb101 ≠ gb107))
      have n6_ := aK ((by rw [hg]; exact Nat.ne_of_gt (blk_lt BK101.out) : gb107 ≠ gb101))
      clear BK101
      clear HB
      have BK101 := n0_
      have HB := n1_
      have BK107 := n2_
      have GW107 := n3_
      have GE107 := n4_
      have NB101_107 := n5_
      have NB107_101 := n6_
      clear n0_ n1_ n2_ n3_ n4_ n5_ n6_
      clear hb hbox hg
      refine hK.out _ _ ⟨(uC HB hw105_0), (uC HB hw105_1), (uC HB hw105_2), (uC HB hw106_0), (uC HB hw106_1), (uC HB hw106_2)⟩ (fun hHeld => ?_)
      clear hK K
      refine norm_ (a' := ?_) ?_ ?_
      rotate_left
      ·show Act.put _ (some 9) _ = _
       simp only [sP, i64_w, i32_w]
       rfl
      refine one_ (i := 14) (N := none) (bs 15 1) rfl rfl (one_of HT_.out (by kernel_rfl)) (by decide) (fun K hK => ?_)
      have hs17 : w16.cell? ⟨gb107, 0, none⟩ = some (.int .i64 0) := (blk_cell BK107.out 0).trans rfl
      have hfs17 := blk_frozen BK107.out 0
      have hns17_0 := NB101_107.out
      have hms17_0 := NB107_101.out
      have hs18 : w16.cell? ⟨gb107, 1, none⟩ = some (.int .i64 0) := (blk_cell BK107.out 1).trans rfl
      have hfs18 := blk_frozen BK107.out 1
      have hns18_0 := NB101_107.out
      have hms18_0 := NB107_101.out
      have hs19 : w16.cell? ⟨gb107, 2, none⟩ = some (.slice none 0 0) := (blk_cell BK107.out 2).trans rfl
      have hfs19 := blk_frozen BK107.out 2
      have hns19_0 := NB101_107.out
      have hms19_0 := NB107_101.out
      refine skip_ (w1 := ?_) (by rfl) rfl ?_ ?_
      rotate_left
      ·go_simp
       rfl
      refine hK.out _ _ ⟨((cell_far (p := ⟨gb107, _, none⟩) (nG hw105_0 GW107) _).trans (((cell_far (p := ⟨gb107, _, none⟩) (nG hw105_0 GW107) _).trans (((cell_far (p := ⟨gb107, _, none⟩) (nG hw105_0 GW107) _).trans (hHeld.1)))))), ((cell_far (p := ⟨gb107, _, none⟩) (nG hw105_1 GW107) _).trans (((cell_far (p := ⟨gb107, _, none⟩) (nG hw105_1 GW107) _).trans (((cell_far (p := ⟨gb107, _, none⟩) (nG hw105_1 GW107) _).trans (hHeld.2.1)))))), ((cell_far (p := ⟨gb107, _, none⟩) (nG hw105_2 GW107) _).trans (((cell_far (p := ⟨gb107, _, none⟩) (nG hw105_2 GW107) _).trans (((cell_far (p := ⟨gb107, _, none⟩) (nG hw105_2 GW107) _).trans (hHeld.2.2.1)))))), ((cell_far (p := ⟨gb107, _, none⟩) (nG hw106_0 GW107) _).trans (((cell_far (p := ⟨gb107, _, none⟩) (nG hw106_0 GW107) _).trans (((cell_far (p := ⟨gb107, _, none⟩) (nG hw106_0 GW107) _).trans (hHeld.2.2.2.1)))))), ((cell_far (p := ⟨gb107, _, none⟩) (nG hw106_1 GW107) _).trans (((cell_far (p := ⟨gb107, _, none⟩) (nG hw106_1 GW107) _).trans (((cell_far (p := ⟨gb107, _, none⟩) (nG hw106_1 GW107) _).trans (hHeld.2.2.2.2.1)))))), ((cell_far (p := ⟨gb107, _, none⟩) (nG hw106_2 GW107) _).trans (((cell_far (p := ⟨gb107, _, none⟩) (nG hw106_2 GW107) _).trans (((cell_far (p := ⟨gb107, _, none⟩) (nG hw106_2 GW107) _).trans (hHeld.2.2.2.2.2))))))⟩ (fun hHeld => ?_)
      clear hK K
      refine pure_ (i := 15) (N := some 10) (v := ?_) (a' := ?_) (bs 16 0) rfl rfl (any_of HT_.out (by kernel_rfl)) (fun _ _ _ h => h) (Or.inl ⟨by rfl, ?_⟩) ?_ ?_
      rotate_left
      ·intro w'
       go_simp
       with_reducible rfl
      rotate_left
      ·simp only [sP, i64_w, i32_w]
       rfl
      refine done_ (done_of HT_.out (by kernel_rfl)) ?_
      try go_wp2
      go_loopg [10] kj3 (fun kq v10 w' => ∃ (x10_2 : Int) (x102000_2 : Int) (x102001_2 : Int) (x108002_2 : List (S58)) (u108002 : Value), v10 = .int .i64 x10_2 ∧ Aside0 (impl_combAt.l0 kq l0 a1 x10_2 ((rd_T52 l0 a1).f0) ((rd_T52 l0 a1).f1) x108002_2 = some (r1, r2, r3, r4, r5)) ∧ Aside0 (kq ≤ kj3) ∧ Aside0 (Kd.R k58 58 w' w.heap.size (fun k_ => k_ ≠ gb101 ∧ k_ ≠ gb107) u108002 x108002_2) ∧ Aside0 (w'.heap[gb101]? = some (.cells #[.int .i64 x102000_2, .int .i64 x102001_2, (.slice none 0 0)] 58 (0, 0))) ∧ Aside0 (w'.heap[gb107]? = some (.cells #[.int .i64 ((rd_T52 l0 a1).f0), .int .i64 ((rd_T52 l0 a1).f1), u108002] 58 (0, 0))) ∧ Aside0 (Below w.heap.size w w'))
      case atStart => exact ⟨(wrap64 (a1 + 1)), (0), (0), (([] : List (S58))), (.slice none 0 0), rS, H', ⟨Nat.le_refl _⟩, ⟨by first | exact Kd.R_nil _ _ _ _ _ | exact Kd.N_nil _ _ _ _ _ | exact Kd.V_nil _ _ _ _ _ | exact Kd.Q_nil _ _ _ _ _ | exact Kd.S_nil _ _ _ _ _⟩, ⟨by (repeat first | with_reducible apply zN | with_reducible apply zD | with_reducible apply zA | refine blk_far ?_ NB101_107.out _); exact BK101.out⟩, ⟨p3 BK107⟩, ⟨pH HB⟩⟩
      case round =>
       clear H'
       try clear c1
       try clear p1
       try clear q1
       try clear hx1
       try clear p2
       try clear c6
       try clear c6b0
       try clear c6b1
       try clear p6
       try clear c7
       try clear c7b0
       try clear c8
       try clear c8b0
       try clear c9
       try clear c9b0
       try clear c9b1
       try clear c10
       try clear c10b0
       try clear p10
       try clear q10
       try clear hx10
       try clear c11
       try clear c13
       try clear c13b0
       try clear c14
       try clear c14b0
       try clear hcz12_0
       try clear hcz12_1
       try clear hcz12_2
       try clear hfz12_0
       try clear hfz12_1
       try clear hfz12_2
       try clear hx102_0
       try clear hx102_1
       try clear hx102_2
       try clear hx103_0
       try clear hx103_1
       try clear hx103_2
       try clear hx104_0
       try clear hx104_1
       try clear hx104_2
       try clear hx105_0
       try clear hx105_1
       try clear hx105_2
       try clear hx106_0
       try clear hx106_1
       try clear hx106_2
       try clear p1
       try clear p10
       try clear p102
       try clear p103
       try clear p104
       try clear p105
       try clear p106
       try clear p2
       try clear q1
       try clear q10
       try clear q102
       try clear q103
       try clear q104
       try clear q105
       try clear q106
       obtain ⟨x10_2, x102000_2, x102001_2, x108002_2, u108002, rfl, HA, HK2, HO_108002, BK101, BK107, HB⟩ := hrel
       cases gk with
       | zero => exact absurd HA.out (by simp [impl_combAt.l0])
       | succ k2 =>
        have H := HA.out
        clear HA
        simp only [impl_combAt.l0] at H
        have HC20 := aK H
        clear H
        go_upto_region 4 with (fail)
        go_cut [65] (fun v65 wc => ∃ (kq : Nat) (x65_19 : Bool), v65 = .bool x65_19 ∧ Aside0 (impl_combAt.j2 kq l0 a1 x10_2 x65_19 ((rd_T52 l0 a1).f0) ((rd_T52 l0 a1).f1) x108002_2 = some (r1, r2, r3, r4, r5)) ∧ Aside0 (kq ≤ k2) ∧ Aside0 (Kd.R k58 58 wc w.heap.size (fun k_ => k_ ≠ gb101 ∧ k_ ≠ gb107) u108002 x108002_2) ∧ Aside0 (wc.heap[gb101]? = some (.cells #[.int .i64 x102000_2, .int .i64 x102001_2, (.slice none 0 0)] 58 (0, 0))) ∧ Aside0 (wc.heap[gb107]? = some (.cells #[.int .i64 ((rd_T52 l0 a1).f0), .int .i64 ((rd_T52 l0 a1).f1), u108002] 58 (0, 0))) ∧ Aside0 (Below w.heap.size w wc))
        case first =>
         have H := HC20.out
         clear HC20
         by_cases c21 : ((rd_T52 l0 a1).f0) = 2
         ·rw [if_pos c21] at H
          have c21b0 : (((rd_T52 l0 a1).f0) == 2) = true := beq_iff_eq.mpr c21
          have c21b1 : (((rd_T52 l0 a1).f0) != 2) = false := bne_eq_false_iff_eq.mpr c21
          clear c21
          (first | rw [c21b0] | (simp only [i64_w, i32_w]; rw [c21b0]) | skip)
          have H' := aK H
          clear H
          have hnb22 := NB107_101.out
          have hnc22 := NB101_107.out
          have hcz23_0 := k30 BK107
          have hcz23_1 := k31 BK107
          have hcz23_2 := k32 BK107
          have hfz23_0 := fz BK107 0
          have hfz23_1 := fz BK107 1
          have hfz23_2 := fz BK107 2
          obtain ⟨Ao24, co24, eo24⟩ := Kd.R_slice HO_108002.out
          subst eo24
          go_wp2
          go_meet
          case rel => exact ⟨_, (decide ((x108002_2.length : Int) < 2)), rS, H', ⟨by have := HJ3.out; have := HK2.out; first | omega | exact Nat.le_refl _⟩, ⟨by (with_reducible repeat (first | apply Kd.R_alloc | apply Kd.R_drewN | apply Kd.R_drew)); exact HO_108002.out⟩, ⟨pB BK101⟩, ⟨pB BK107⟩, ⟨pH HB⟩⟩
         ·rw [if_neg c21] at H
          have c21b0 : (((rd_T52 l0 a1).f0) == 2) = false := beq_eq_false_iff_ne.mpr c21
          have c21b1 : (((rd_T52 l0 a1).f0) != 2) = true := bne_iff_ne.mpr c21
          (first | rw [c21b0] | (simp only [i64_w, i32_w]; rw [c21b0]) | skip)
          have H' := aK H
          clear H
          have hnb25 := NB107_101.out
          have hnc25 := NB101_107.out
          have hcz26_0 := k30 BK107
          have hcz26_1 := k31 BK107
          have hcz26_2 := k32 BK107
          have hfz26_0 := fz BK107 0
          have hfz26_1 := fz BK107 1
          have hfz26_2 := fz BK107 2
          go_wp2
          go_meet
          case rel => exact ⟨_, (false), rS, H', ⟨by have := HJ3.out; have := HK2.out; first | omega | exact Nat.le_refl _⟩, ⟨by (with_reducible repeat (first | apply Kd.R_alloc | apply Kd.R_drewN | apply Kd.R_drew)); exact HO_108002.out⟩, ⟨pB BK101⟩, ⟨pB BK107⟩, ⟨pH HB⟩⟩
        case rest =>
         clear HC20
         try clear c1
         try clear p1
         try clear q1
         try clear hx1
         try clear c2
         try clear p2
         try clear c6
         try clear c6b0
         try clear c6b1
         try clear p6
         try clear c7
         try clear c7b0
         try clear c8
         try clear c8b0
         try clear c9
         try clear c9b0
         try clear c9b1
         try clear c10
         try clear c10b0
         try clear p10
         try clear q10
         try clear hx10
         try clear c11
         try clear c13
         try clear c13b0
         try clear c14
         try clear c14b0
         try clear c21
         try clear c21b0
         try clear c21b1
         try clear c22
         try clear c25
         try clear hcz12_0
         try clear hcz12_1
         try clear hcz12_2
         try clear hcz23_0
         try clear hcz23_1
         try clear hcz23_2
         try clear hcz26_0
         try clear hcz26_1
         try clear hcz26_2
         try clear hfz12_0
         try clear hfz12_1
         try clear hfz12_2
         try clear hfz23_0
         try clear hfz23_1
         try clear hfz23_2
         try clear hfz26_0
         try clear hfz26_1
         try clear hfz26_2
         try clear hx102_0
         try clear hx102_1
         try clear hx102_2
         try clear hx103_0
         try clear hx103_1
         try clear hx103_2
         try clear hx104_0
         try clear hx104_1
         try clear hx104_2
         try clear hx105_0
         try clear hx105_1
         try clear hx105_2
         try clear hx106_0
         try clear hx106_1
         try clear hx106_2
         try clear p1
         try clear p10
         try clear p102
         try clear p103
         try clear p104
         try clear p105
         try clear p106
         try clear p2
         try clear p6
         try clear q1
         try clear q10
         try clear q102
         try clear q103
         try clear q104
         try clear q105
         try clear q106
         obtain ⟨kq, x65_19, rfl, HA, HJ19, HO_108002, BK101, BK107, HB⟩ := hcut
         cases kq with
         | zero => exact absurd HA.out (by simp [impl_combAt.j2])
         | succ kj19 =>
          have H := HA.out
          clear HA
          simp only [impl_combAt.j2] at H
          by_cases c27 : x65_19 = true
          ·subst c27
           rw [if_pos rfl] at H
           replace H := Option.bind_eq_some_iff.mp H
           obtain ⟨⟨t108, t109, t110, t113, t114⟩, A280, H⟩ := H
           try dsimp only at H
           have A28 := aK A280
           clear A280
           by_cases c29 : t114 = true
           ·subst c29
            rw [if_pos rfl] at H
            by_cases c30 : x108002_2.length < 3518437208883
            ·rw [if_pos c30] at H
             have LMc30 := aK c30
             clear c30
             obtain ⟨y116, hy116⟩ : ∃ y_ : List (S58), y_ = (x108002_2 ++ [(⟨t108, t109, t110⟩ : S58)]) := ⟨_, rfl⟩
             replace H : (impl_combAt.l0 kj19 l0 a1 t113 ((rd_T52 l0 a1).f0) ((rd_T52 l0 a1).f1) y116) = some (r1, r2, r3, r4, r5) := by first | (rw [hy116]; with_reducible exact H) | (have H2_ := (Option.bind_some _ _).symm.trans H; rw [hy116]; with_reducible exact H2_) | (have H2_ := (Option.bind_some _ _).symm.trans H; with_reducible exact H2_) | with_reducible exact H | (rw [hy116]; exact H) | exact H
             have Ny116 := aK hy116
             clear hy116
             have H' := aK H
             clear H
             go_wp2_with (first | ((with_reducible refine gate_callee (f := 64) rfl ?_); refine goesL_ (some 70) rfl rfl Try.func64 (by kernel_rfl) rfl #[.slice (some ad105) l0.length c0, .int .i64 x10_2, .int .i64 a1] rfl tA ?_; (with_reducible refine (ih kj19 (by have := HJ3.out; have := HK2.out; have := HJ19.out; omega) _ _ l0 x10_2 a1 t108 t109 t110 t113 true _ ?side1 ?side2 A28.out).mono ?_); (case side1 => exact sC (Kd.C_below HR0.out HB.out)); (case side2 => exact HC0.out); rintro e w31 ⟨v111, rfl, ho0, hb⟩; refine ⟨_, rfl, ?_⟩; have n0_ := aK (Kd.R_elder' HO_108002.out (Kd.R_base ho0) hb); have HO112 := aK (Kd.R_lower (Kd.R_newB (Kd.R_newB (Kd.R_new' ho0 (Kd.R_lt HO_108002.out)) BK101.out) BK107.out) (below_size HB.out)); replace BK101 := qb BK101 hb; replace BK107 := qb BK107 hb; clear HO_108002; have HO_108002 := n0_; clear n0_; replace HB := qs HB hb; (try clear hb); (try clear ho0)) | ((with_reducible refine gate_dst (N := 11) rfl ?_); (try (refine gate_guard (by rfl) ?_; dsimp only)); refine bE (N := 11) (cs := #[.int .i64 0, .int .i64 0, .slice none 0 0]) (t := 58) ?_; intro gb115 hg w32 hbox hb; have n0_ := aK (Kd.R_below (Kd.R_elderB HO_108002.out gb115 (Nat.le_of_eq hg.symm)) hb); have n1_ := aK (Kd.R_below (Kd.R_elderB HO112.out gb115 (Nat.le_of_eq hg.symm)) hb); have GW115 := qw HB hg; have GE115 := qw HB hg; have NB101_115 := ql BK101 hg; have NB115_101 := qg BK101 hg; have NB107_115 := ql BK107 hg; have NB115_107 := qg BK107 hg; replace BK101 := qb BK101 hb; replace BK107 := qb BK107 hb; have BK115 := aK hbox; clear HO_108002; have HO_108002 := n0_; clear n0_; clear HO112; have HO112 := n1_; clear n1_; replace HB := qs HB hb; clear hb hbox hg; have hnb33 := NB115_101.out; have hnc33 := NB101_115.out; have hnb34 := NB115_107.out; have hnc34 := NB107_115.out; have hcz35_0 := k30 BK115; have hcz35_1 := k31 BK115; have hcz35_2 := k32 BK115; have hfz35_0 := fz BK115 0; have hfz35_1 := fz BK115 1; have hfz35_2 := fz BK115 2; obtain ⟨Ao36, co36, eo36⟩ := Kd.R_slice HO112.out; subst eo36) | ((with_reducible refine gate_store (t := 58) (p := 11) rfl ?_); refine store_event (t := 58) (p := 11) (v := ?vo_w37) (w1 := (((w32.setCell ⟨gb115, 0, none⟩ (.int .i64 t108)).setCell ⟨gb115, 1, none⟩ (.int .i64 t109)).setCell ⟨gb115, 2, none⟩ (.slice Ao36 t110.length co36))) ?hg ?ho ?hn ?hr ?_; (case ho => rfl); (case hg => rfl); (case hn => rfl); (case hr => first | (go_simp; done) | (go_simp; rfl)); intro w37 hw; have n0_ : Aside0 (Kd.R k58 58 w37 w.heap.size (fun k_ => some k_ ≠ (.slice Ao36 t110.length co36 : Value).ownBlock ∧ k_ ≠ gb101 ∧ k_ ≠ gb107 ∧ k_ ≠ gb115) u108002 x108002_2) := ⟨(by rw [hw]; exact (by (with_reducible repeat (first | apply Kd.R_alloc | apply Kd.R_drewN | apply Kd.R_drew)); exact Kd.R_mono (Kd.R_far (p := ⟨gb115, 2, none⟩) (Kd.R_far (p := ⟨gb115, 1, none⟩) (Kd.R_far (p := ⟨gb115, 0, none⟩) (Kd.R_mono HO_108002.out (fun k_ hk => (⟨hk, hk.2⟩ : _ ∧ k_ ≠ gb115))) (fun _ hk => hk.2) (.int .i64 t108)) (fun _ hk => hk.2) (.int .i64 t109)) (fun _ hk => hk.2) (.slice Ao36 t110.length co36)) (fun _ hk => ⟨hk.1.1.2, ⟨hk.1.1.1.1, ⟨hk.1.1.1.2, hk.1.2⟩⟩⟩)))⟩; have n1_ : Aside0 (Kd.R k58 58 w37 w.heap.size (fun k_ => some k_ ≠ (u108002 : Value).ownBlock ∧ k_ ≠ gb101 ∧ k_ ≠ gb107 ∧ k_ ≠ gb115) (.slice Ao36 t110.length co36) t110) := ⟨(by rw [hw]; exact (by (with_reducible repeat (first | apply Kd.R_alloc | apply Kd.R_drewN | apply Kd.R_drew)); exact Kd.R_mono (Kd.R_far (p := ⟨gb115, 2, none⟩) (Kd.R_far (p := ⟨gb115, 1, none⟩) (Kd.R_far (p := ⟨gb115, 0, none⟩) (Kd.R_mono HO112.out (fun k_ hk => (⟨hk, hk.2⟩ : _ ∧ k_ ≠ gb115))) (fun _ hk => hk.2) (.int .i64 t108)) (fun _ hk => hk.2) (.int .i64 t109)) (fun _ hk => hk.2) (.slice Ao36 t110.length co36)) (fun _ hk => ⟨hk.1.1.1.1.2, ⟨hk.1.1.1.2, ⟨hk.1.1.2, hk.1.2⟩⟩⟩)))⟩; have n2_ : Aside0 (w37.heap[gb101]? = some (.cells #[.int .i64 x102000_2, .int .i64 x102001_2, .slice none 0 0] 58 (0, 0))) := ⟨(by rw [hw]; exact (by (repeat first | with_reducible apply zN | with_reducible apply zD | with_reducible apply zA | refine blk_far ?_ NB101_115.out _); exact BK101.out))⟩; have n3_ : Aside0 (w37.heap[gb107]? = some (.cells #[.int .i64 ((rd_T52 l0 a1).f0), .int .i64 ((rd_T52 l0 a1).f1), u108002] 58 (0, 0))) := ⟨(by rw [hw]; exact (by (repeat first | with_reducible apply zN | with_reducible apply zD | with_reducible apply zA | refine blk_far ?_ NB107_115.out _); exact BK107.out))⟩; have n4_ : Aside0 (w37.heap[gb115]? = some (.cells #[.int .i64 t108, .int .i64 t109, .slice Ao36 t110.length co36] 58 (0, 0))) := ⟨(by rw [hw]; exact (p3 BK115))⟩; have n5_ : Aside0 (Below w.heap.size w w37) := ⟨(by rw [hw]; exact (pH HB))⟩; clear hw; clear HO_108002; clear HO112; clear BK101; clear BK107; clear BK115; clear HB; have HO_108002 := n0_; have HO112 := n1_; have BK101 := n2_; have BK107 := n3_; have BK115 := n4_; have HB := n5_; clear n0_ n1_ n2_ n3_ n4_ n5_; have hnb38 := NB107_101.out; have hnc38 := NB101_107.out; have hcz39_0 := k30 BK107; have hcz39_1 := k31 BK107; have hcz39_2 := k32 BK107; have hfz39_0 := fz BK107 0; have hfz39_1 := fz BK107 1; have hfz39_2 := fz BK107 2; have hcz40_0 := k30 BK115; have hcz40_1 := k31 BK115; have hcz40_2 := k32 BK115; have hfz40_0 := fz BK115 0; have hfz40_1 := fz BK115 1; have hfz40_2 := fz BK115 2) | ((with_reducible refine gate_builtin (b := .append) (xs := #[.tmp 78, .tmp 80]) rfl ?_); (try (refine gate_guard (by rfl) ?_; dsimp only)); at_builtin; refine Kd.R_append k58 (w0 := w) w.heap.size rfl (.tmp 78) (.tmp 80) 56 58 (.agg #[(.int .i64 0), (.int .i64 0), (.slice none 0 0)]) 40 rfl Try.underlying56 info58 rfl (by decide) (by omega) u108002 x108002_2 (⟨t108, t109, t110⟩ : S58) [.int .i64 t108, .int .i64 t109, .slice Ao36 t110.length co36] (fun k_ => k_ ≠ gb101 ∧ k_ ≠ gb107 ∧ k_ ≠ gb115) (fun k_ => ((fun k_ => k_ ≠ gb101 ∧ k_ ≠ gb107 ∧ k_ ≠ gb115)) k_ ∧ some k_ ≠ (u108002 : Value).ownBlock) rfl rfl ?aP (fun _ hk => hk) ?aF ?aO ?aB ?aS ?aL ?_; (case aP => exact k58_mkM _ _ _ (⟨t108, t109, t110⟩ : S58) (Kd.R_mono (HO112.out) (fun k_ hk => ⟨⟨hk.2.1, ⟨hk.2.2.1, hk.2.2.2⟩⟩, hk.1⟩))); (case aB => exact (pH HB)); (case aF => exact (fun k_ hk => ⟨Kd.freshB BK101.out k_ hk, Kd.freshB BK107.out k_ hk, Kd.freshB BK115.out k_ hk⟩)); (case aO => exact (by (with_reducible repeat (first | apply Kd.R_alloc | apply Kd.R_drewN | apply Kd.R_drew)); exact Kd.R_mono HO_108002.out (fun _ hk => ⟨hk.2.1, ⟨hk.2.2.1, hk.2.2.2⟩⟩))); (case aS => exact (below_size (pH HB))); (case aL => have := LMc30.out; omega); intro v117 w41 ho hb hg hat; rw [← Ny116.out] at ho; have n0_ := aK (blk_grown BK101.out hg (Kd.R_away HO_108002.out (fun _ hk => hk.2.1))); have n1_ := aK (blk_grown BK107.out hg (Kd.R_away HO_108002.out (fun _ hk => hk.2.2.1))); have n2_ := aK (blk_grown BK115.out hg (Kd.R_away HO_108002.out (fun _ hk => hk.2.2.2))); have n3_ := aK (hb); have HO118 := aK (ho); clear BK101; have BK101 := n0_; clear n0_; clear BK107; have BK107 := n1_; clear n1_; clear BK115; have BK115 := n2_; clear n2_; clear HB; have HB := n3_; clear n3_; clear HO_108002; clear HO112; clear ho hb hg hat; obtain ⟨Ao42, co42, eo42⟩ := Kd.R_slice HO118.out; subst eo42; have hcz43_0 := k30 BK107; have hcz43_1 := k31 BK107; have hcz43_2 := k32 BK107; have hfz43_0 := fz BK107 0; have hfz43_1 := fz BK107 1; have hfz43_2 := fz BK107 2))
             go_roundg kj19
             case measure => have := HJ3.out; have := HK2.out; have := HJ19.out; omega
             case rel => exact ⟨(t113), (x102000_2), (x102001_2), (y116), (.slice Ao42 y116.length co42), rS, H', ⟨by have := HJ3.out; have := HK2.out; have := HJ19.out; omega⟩, ⟨by (with_reducible repeat (first | apply Kd.R_alloc | apply Kd.R_drewN | apply Kd.R_drew)); exact Kd.R_mono (Kd.R_far (p := ⟨gb107, 2, none⟩) (Kd.R_mono HO118.out (fun k_ hk => (⟨hk, hk.2.1⟩ : _ ∧ k_ ≠ gb107))) (fun _ hk => hk.2) (.slice Ao42 y116.length co42)) (fun _ hk => ⟨hk.1.1, hk.1.2.1⟩)⟩, ⟨by (repeat first | with_reducible apply zN | with_reducible apply zD | with_reducible apply zA | refine blk_far ?_ NB101_107.out _); exact BK101.out⟩, ⟨by (with_reducible repeat first | apply zN | apply zD | apply zA); refine blk_put (cs := #[.int .i64 ((rd_T52 l0 a1).f0), .int .i64 ((rd_T52 l0 a1).f1), u108002]) ?_ 2 _ rfl; (with_reducible repeat first | apply zN | apply zD | apply zA); exact BK107.out⟩, ⟨pH HB⟩⟩
            ·rw [if_neg c30] at H
             exact absurd H (by simp)
           ·replace c29 := Bool.eq_false_iff.mpr c29
            subst c29
            rw [if_neg (show ¬ (false = true) by decide)] at H
            simp only [Option.some.injEq, Prod.mk.injEq] at H
            obtain ⟨rfl, rfl, rfl, rfl, rfl⟩ := H
            go_wp2_with (first | ((with_reducible refine gate_callee (f := 64) rfl ?_); refine goesL_ (some 70) rfl rfl Try.func64 (by kernel_rfl) rfl #[.slice (some ad105) l0.length c0, .int .i64 x10_2, .int .i64 a1] rfl tA ?_; (with_reducible refine (ih kj19 (by have := HJ3.out; have := HK2.out; have := HJ19.out; omega) _ _ l0 x10_2 a1 t108 t109 t110 t113 false _ ?side1 ?side2 A28.out).mono ?_); (case side1 => exact sC (Kd.C_below HR0.out HB.out)); (case side2 => exact HC0.out); rintro e w44 ⟨v111, rfl, ho0, hb⟩; refine ⟨_, rfl, ?_⟩; have n0_ := aK (Kd.R_elder' HO_108002.out (Kd.R_base ho0) hb); have HO112 := aK (Kd.R_lower (Kd.R_newB (Kd.R_newB (Kd.R_new' ho0 (Kd.R_lt HO_108002.out)) BK101.out) BK107.out) (below_size HB.out)); replace BK101 := qb BK101 hb; replace BK107 := qb BK107 hb; clear HO_108002; have HO_108002 := n0_; clear n0_; replace HB := qs HB hb; (try clear hb); (try clear ho0)) | ((with_reducible refine gate_dst (N := 11) rfl ?_); (try (refine gate_guard (by rfl) ?_; dsimp only)); refine bE (N := 11) (cs := #[.int .i64 0, .int .i64 0, .slice none 0 0]) (t := 58) ?_; intro gb115 hg w45 hbox hb; have n0_ := aK (Kd.R_below (Kd.R_elderB HO_108002.out gb115 (Nat.le_of_eq hg.symm)) hb); have n1_ := aK (Kd.R_below (Kd.R_elderB HO112.out gb115 (Nat.le_of_eq hg.symm)) hb); have GW115 := qw HB hg; have GE115 := qw HB hg; have NB101_115 := ql BK101 hg; have NB115_101 := qg BK101 hg; have NB107_115 := ql BK107 hg; have NB115_107 := qg BK107 hg; replace BK101 := qb BK101 hb; replace BK107 := qb BK107 hb; have BK115 := aK hbox; clear HO_108002; have HO_108002 := n0_; clear n0_; clear HO112; have HO112 := n1_; clear n1_; replace HB := qs HB hb; clear hb hbox hg; have hnb46 := NB115_101.out; have hnc46 := NB101_115.out; have hnb47 := NB115_107.out; have hnc47 := NB107_115.out; have hcz48_0 := k30 BK115; have hcz48_1 := k31 BK115; have hcz48_2 := k32 BK115; have hfz48_0 := fz BK115 0; have hfz48_1 := fz BK115 1; have hfz48_2 := fz BK115 2; obtain ⟨Ao49, co49, eo49⟩ := Kd.R_slice HO112.out; subst eo49; have hnb50 := NB101_107.out; have hnc50 := NB107_101.out; have hcz51_0 := k30 BK101; have hcz51_1 := k31 BK101; have hcz51_2 := k32 BK101; have hfz51_0 := fz BK101 0; have hfz51_1 := fz BK101 1; have hfz51_2 := fz BK101 2))
            refine bodyPost_ret (results_ctt rfl _ _ gb101 58 #[.int .i64 0, .int .i64 0, .slice none 0 0] (0, 0) _ rfl (by (with_reducible repeat first | apply zN | apply zD | apply zA); refine blk_put (cs := #[.int .i64 0, .int .i64 0, .slice none 0 0]) ?_ 2 _ rfl; (with_reducible repeat first | apply zN | apply zD | apply zA); refine blk_put (cs := #[.int .i64 0, .int .i64 x102001_2, .slice none 0 0]) ?_ 1 _ rfl; (with_reducible repeat first | apply zN | apply zD | apply zA); refine blk_put (cs := #[.int .i64 x102000_2, .int .i64 x102001_2, .slice none 0 0]) ?_ 0 _ rfl; (repeat first | with_reducible apply zN | with_reducible apply zD | with_reducible apply zA | refine blk_far ?_ NB101_115.out _); exact BK101.out) Try.underlying58 rfl (by kernel_rfl)) rfl ?_
            exact ⟨_, eW, by first | exact Kd.R_nil _ _ _ _ _ | exact Kd.N_nil _ _ _ _ _ | exact Kd.V_nil _ _ _ _ _ | exact Kd.Q_nil _ _ _ _ _ | exact Kd.S_nil _ _ _ _ _, pH HB⟩
          ·replace c27 := Bool.eq_false_iff.mpr c27
           subst c27
           rw [if_neg (show ¬ (false = true) by decide)] at H
           simp only [Option.some.injEq, Prod.mk.injEq] at H
           obtain ⟨rfl, rfl, rfl, rfl, rfl⟩ := H
           have hnb52 := NB107_101.out
           have hnc52 := NB101_107.out
           have hcz53_0 := k30 BK107
           have hcz53_1 := k31 BK107
           have hcz53_2 := k32 BK107
           have hfz53_0 := fz BK107 0
           have hfz53_1 := fz BK107 1
           have hfz53_2 := fz BK107 2
           have hcz54_0 := k30 BK101
           have hcz54_1 := k31 BK101
           have hcz54_2 := k32 BK101
           have hfz54_0 := fz BK101 0
           have hfz54_1 := fz BK101 1
           have hfz54_2 := fz BK101 2
           obtain ⟨Ao55, co55, eo55⟩ := Kd.R_slice HO_108002.out
           subst eo55
           go_wp2
           refine bodyPost_ret (results_ctt rfl _ _ gb101 58 #[.int .i64 ((rd_T52 l0 a1).f0), .int .i64 ((rd_T52 l0 a1).f1), .slice Ao55 x108002_2.length co55] (0, 0) _ rfl (p3 BK101) Try.underlying58 rfl (by kernel_rfl)) rfl ?_
           exact ⟨_, eW, by (with_reducible repeat (first | apply Kd.R_alloc | apply Kd.R_drewN | apply Kd.R_drew)); exact Kd.R_mono (Kd.R_far (p := ⟨gb101, 2, none⟩) (Kd.R_far (p := ⟨gb101, 1, none⟩) (Kd.R_far (p := ⟨gb101, 0, none⟩) (Kd.R_mono HO_108002.out (fun k_ hk => (⟨hk, hk.1⟩ : _ ∧ k_ ≠ gb101))) (fun _ hk => hk.2) (.int .i64 ((rd_T52 l0 a1).f0))) (fun _ hk => hk.2) (.int .i64 ((rd_T52 l0 a1).f1))) (fun _ hk => hk.2) (.slice Ao55 x108002_2.length co55)) (fun _ hk => trivial), pH HB⟩
     ·rw [if_neg c14] at H
      exact absurd H (by simp)
    ·rw [if_neg c13] at H
     exact absurd H (by simp)

end Go.Proofs.Ytcjhhdecckcibaa.G

namespace Go.Proofs.Ytcjhhdecckcibaa.G
open Go.RowKit Go.Proofs.YtcjhhdecckcibaaW.PrintWords Go.Proofs.YtcjhhdecckcibaaW.PrintLast Go.Proofs.YtcjhhdecckcibaaW.PrintMore
attribute [local go_sem] max2_int min2_int max_two min_two max_three min_three max_four min_four   -- for this text's walks alone
set_option linter.unusedVariables false
set_option linter.unusedSimpArgs false

def impl_combRoot.j0 : Nat → List (S52) → Bool → Option (Int × Int × (List (S58)) × Bool)
 | 0, _, _ => none
 | k + 1, x0, x14 => if x14 = true then (some (0, 0, ([] : List (S58)), false)) else ((impl_combAt.f k x0 0 (-1)).bind fun bt102 => (if bt102.2.2.2.2 = true then (if bt102.2.2.2.1 = (x0.length : Int) then ((impl_comb_isGood.f k bt102.1 bt102.2.1 bt102.2.2.1).bind fun t110 => (some (bt102.1, bt102.2.1, bt102.2.2.1, t110))) else (some (bt102.1, bt102.2.1, bt102.2.2.1, false))) else (some (bt102.1, bt102.2.1, bt102.2.2.1, false))))
def impl_combRoot.f (k : Nat) (l0 : List (S52)) : Option (Int × Int × (List (S58)) × Bool) := if (l0.length : Int) < 1 then (impl_combRoot.j0 k l0 true) else (impl_combRoot.j0 k l0 (decide ((l0.length : Int) > 200)))
def impl_combRoot.T4 : Bool × List (List Nat × List Nat) := (true, [([], []), ([], []), ([1], [1]), ([2], [2]), ([2], [2]), ([4, 2], [2, 4]), ([3, 5, 2], [2, 3, 5]), ([2, 6], [2, 6]), ([7, 2], [7]), ([8], [8]), ([9, 8, 8], [8, 9]), ([8, 10], [8, 10]), ([0, 10, 0], [0]), ([11, 12, 0, 1, 2, 3, 4, 5, 6, 7, 8, 9, 10, 11, 12], [11])])
def impl_combRoot.B4 : List Nat := [0, 0, 2, 6, 6, 22, 62, 126, 254, 510, 1022, 2046, 2047, 8191]
theorem impl_combRoot.tab4 : rtab .any (opsOf Try.f42 4) = impl_combRoot.T4 := by kernel_rfl
theorem impl_combRoot.bits4 : waitsOk impl_combRoot.T4.2 impl_combRoot.B4 = true := by kernel_rfl
set_option maxHeartbeats 8000000 in
set_option maxRecDepth 100000 in
theorem impl_combRoot.calls (k : Nat) (A0 : Option Addr) (c0 : Nat) (l0 : List (S52)) (r1 : Int) (r2 : Int) (r3 : List (S58)) (r4 : Bool) (w : World) (hr0 : Kd.C k52 w A0 l0.length l0) (hc0 : l0.length ≤ c0) (h : impl_combRoot.f k l0 = some (r1, r2, r3, r4)) :
  Calls Try.prog 42 #[.slice A0 l0.length c0] w fun e w' => ∃ v2_ : Value, e = .returned (.tuple #[.agg #[.int .i64 r1, .int .i64 r2, v2_], .bool r4]) ∧ Kd.R k58 58 w' w.heap.size (fun _ => True) v2_ r3 ∧ Below w.heap.size w w' := by
 have hu58 := Try.underlying58
 have HR0 := aK hr0
 have HC0 := aK hc0
 clear hr0 hc0
 have HB := aK (Below.refl w.heap.size w)
 have H : (if (l0.length : Int) < 1 then (impl_combRoot.j0 k l0 true) else (impl_combRoot.j0 k l0 (decide ((l0.length : Int) > 200)))) = some (r1, r2, r3, r4) := h
 clear h
 have HC2 := aK H
 clear H
 go_enter Try.func42, Try.ntmps42
 go_upto_region 1 with (first | ((with_reducible refine gate_dst (N := 2) rfl ?_); (try (refine gate_guard (by rfl) ?_; dsimp only)); refine bE (N := 2) (cs := #[.int .i64 0, .int .i64 0, .slice none 0 0]) (t := 58) ?_; intro gb101 hg w3 hbox hb; have GW101 := qw HB hg; have GE101 := qw HB hg; have BK101 := aK hbox; replace HB := qs HB hb; clear hb hbox hg))
 (try simp only [Act.put, List.setIfInBounds_toArray, List.set_cons_zero, List.set_cons_succ])
 go_cut [14] (fun v14 wc => ∃ (kq : Nat) (x14_1 : Bool), v14 = .bool x14_1 ∧ Aside0 (impl_combRoot.j0 kq l0 x14_1 = some (r1, r2, r3, r4)) ∧ Aside0 (kq ≤ k) ∧ Aside0 (wc.heap[gb101]? = some (.cells #[.int .i64 0, .int .i64 0, (.slice none 0 0)] 58 (0, 0))) ∧ Aside0 (Below w.heap.size w wc))
 case first =>
  have H := HC2.out
  clear HC2
  by_cases c4 : (l0.length : Int) < 1
  ·rw [if_pos c4] at H
   have c4b0 : decide ((l0.length : Int) < 1) = true := decide_eq_true c4
   have c4b1 : decide (l0.length < 1) = true := decide_eq_true (by omega)
   clear c4
   (first | rw [c4b0] | (simp only [i64_w, i32_w]; rw [c4b0]) | skip)
   have H' := aK H
   clear H
   go_wp2
   go_meet
   case rel => exact ⟨_, (true), rS, H', ⟨by first | omega | exact Nat.le_refl _⟩, ⟨pB BK101⟩, ⟨pH HB⟩⟩
  ·rw [if_neg c4] at H
   have c4b0 : decide ((l0.length : Int) < 1) = false := decide_eq_false c4
   have c4b1 : decide (l0.length < 1) = false := decide_eq_false (by omega)
   clear c4
   (first | rw [c4b0] | (simp only [i64_w, i32_w]; rw [c4b0]) | skip)
   have H' := aK H
   clear H
   go_wp2
   go_meet
   case rel => exact ⟨_, (decide ((l0.length : Int) > 200)), rS, H', ⟨by first | omega | exact Nat.le_refl _⟩, ⟨pB BK101⟩, ⟨pH HB⟩⟩
 case rest =>
  clear HC2
  try clear p2
  try clear c4
  try clear c4b0
  try clear c4b1
  obtain ⟨kq, x14_1, rfl, HA, HJ1, BK101, HB⟩ := hcut
  cases kq with
  | zero => exact absurd HA.out (by simp [impl_combRoot.j0])
  | succ kj1 =>
   have H := HA.out
   clear HA
   simp only [impl_combRoot.j0] at H
   by_cases c5 : x14_1 = true
   ·subst c5
    rw [if_pos rfl] at H
    simp only [Option.some.injEq, Prod.mk.injEq] at H
    obtain ⟨rfl, rfl, rfl, rfl⟩ := H
    have hcz6_0 := k30 BK101
    have hcz6_1 := k31 BK101
    have hcz6_2 := k32 BK101
    have hfz6_0 := fz BK101 0
    have hfz6_1 := fz BK101 1
    have hfz6_2 := fz BK101 2
    go_wp2
    refine bodyPost_ret (results_ct rfl _ _ gb101 58 #[.int .i64 0, .int .i64 0, .slice none 0 0] (0, 0) _ rfl (p3 BK101) Try.underlying58 rfl (by kernel_rfl)) rfl ?_
    exact ⟨_, eW, by first | exact Kd.R_nil _ _ _ _ _ | exact Kd.N_nil _ _ _ _ _ | exact Kd.V_nil _ _ _ _ _ | exact Kd.Q_nil _ _ _ _ _ | exact Kd.S_nil _ _ _ _ _, pH HB⟩
   ·replace c5 := Bool.eq_false_iff.mpr c5
    subst c5
    rw [if_neg (show ¬ (false = true) by decide)] at H
    replace H := Option.bind_eq_some_iff.mp H
    obtain ⟨⟨t102, t103, t104, t107, t108⟩, A70, H⟩ := H
    try dsimp only at H
    have A7 := aK A70
    clear A70
    by_cases c8 : t108 = true
    ·subst c8
     rw [if_pos rfl] at H
     by_cases c9 : t107 = (l0.length : Int)
     ·rw [if_pos c9] at H
      have c9b0 : (t107 == (l0.length : Int)) = true := beq_iff_eq.mpr c9
      have c9b1 : (t107 != (l0.length : Int)) = false := bne_eq_false_iff_eq.mpr c9
      clear c9
      replace H := Option.bind_eq_some_iff.mp H
      obtain ⟨t110, A100, H⟩ := H
      try dsimp only at H
      have A10 := aK A100
      clear A100
      simp only [Option.some.injEq, Prod.mk.injEq] at H
      obtain ⟨rfl, rfl, rfl, rfl⟩ := H
      try go_wp2_with (first | ((with_reducible refine gate_callee (f := 64) rfl ?_); refine goesL_ (some 18) rfl rfl Try.func64 (by kernel_rfl) rfl #[.slice A0 l0.length c0, .int .i64 0, .int .i64 (-1)] rfl tA ?_; (with_reducible refine (impl_combAt.calls kj1 _ _ l0 0 (-1) t102 t103 t104 t107 true _ ?side1 ?side2 A7.out).mono ?_); (case side1 => exact sC (Kd.C_below HR0.out HB.out)); (case side2 => exact HC0.out); rintro e w11 ⟨v105, rfl, ho0, hb⟩; refine ⟨_, rfl, ?_⟩; have HO106 := aK (Kd.R_lower (Kd.R_newB ho0 BK101.out) (below_size HB.out)); replace BK101 := qb BK101 hb; replace HB := qs HB hb; (try clear hb); (try clear ho0)) | ((with_reducible refine gate_dst (N := 4) rfl ?_); (try (refine gate_guard (by rfl) ?_; dsimp only)); refine bE (N := 4) (cs := #[.int .i64 0, .int .i64 0, .slice none 0 0]) (t := 58) ?_; intro gb109 hg w12 hbox hb; have n0_ := aK (Kd.R_below (Kd.R_elderB HO106.out gb109 (Nat.le_of_eq hg.symm)) hb); have GW109 := qw HB hg; have GE109 := qw HB hg; have NB101_109 := ql BK101 hg; have NB109_101 := qg BK101 hg; replace BK101 := qb BK101 hb; have BK109 := aK hbox; clear HO106; have HO106 := n0_; clear n0_; replace HB := qs HB hb; clear hb hbox hg; have hnb13 := NB109_101.out; have hnc13 := NB101_109.out; have hcz14_0 := k30 BK109; have hcz14_1 := k31 BK109; have hcz14_2 := k32 BK109; have hfz14_0 := fz BK109 0; have hfz14_1 := fz BK109 1; have hfz14_2 := fz BK109 2; obtain ⟨Ao15, co15, eo15⟩ := Kd.R_slice HO106.out; subst eo15))
      have n0_ : Aside0 (Kd.R k58 58 (((w12.setCell ⟨gb109, 0, none⟩ (.int .i64 t102)).setCell ⟨gb109, 1, none⟩ (.int .i64 t103)).setCell ⟨gb109, 2, none⟩ (.slice Ao15 t104.length co15)) w.heap.size (fun k_ => k_ ≠ gb101 ∧ k_ ≠ gb109) (.slice Ao15 t104.length co15) t104) := ⟨by (with_reducible repeat (first | apply Kd.R_alloc | apply Kd.R_drewN | apply Kd.R_drew)); exact Kd.R_mono (Kd.R_far (p := ⟨gb109, 2, none⟩) (Kd.R_far (p := ⟨gb109, 1, none⟩) (Kd.R_far (p := ⟨gb109, 0, none⟩) (Kd.R_mono HO106.out (fun k_ hk => (⟨hk, hk.2⟩ : _ ∧ k_ ≠ gb109))) (fun _ hk => hk.2) (.int .i64 t102)) (fun _ hk => hk.2) (.int .i64 t103)) (fun _ hk => hk.2) (.slice Ao15 t104.length co15)) (fun _ hk => ⟨hk.1.1.2, hk.1.2⟩)⟩
      have n1_ : Aside0 ((((w12.setCell ⟨gb109, 0, none⟩ (.int .i64 t102)).setCell ⟨gb109, 1, none⟩ (.int .i64 t103)).setCell ⟨gb109, 2, none⟩ (.slice Ao15 t104.length co15)).heap[gb101]? = some (.cells #[.int .i64 0, .int .i64 0, .slice none 0 0] 58 (0, 0))) := ⟨by (repeat first | with_reducible apply zN | with_reducible apply zD | with_reducible apply zA | refine blk_far ?_ NB101_109.out _); exact BK101.out⟩
      have n2_ : Aside0 ((((w12.setCell ⟨gb109, 0, none⟩ (.int .i64 t102)).setCell ⟨gb109, 1, none⟩ (.int .i64 t103)).setCell ⟨gb109, 2, none⟩ (.slice Ao15 t104.length co15)).heap[gb109]? = some (.cells #[.int .i64 t102, .int .i64 t103, .slice Ao15 t104.length co15] 58 (0, 0))) := ⟨p3 BK109⟩
      have n3_ : Aside0 (Below w.heap.size w (((w12.setCell ⟨gb109, 0, none⟩ (.int .i64 t102)).setCell ⟨gb109, 1, none⟩ (.int .i64 t103)).setCell ⟨gb109, 2, none⟩ (.slice Ao15 t104.length co15))) := ⟨pH HB⟩
      (try clear HO106)
      (try clear BK101)
      (try clear BK109)
      (try clear HB)
      generalize (((w12.setCell ⟨gb109, 0, none⟩ (.int .i64 t102)).setCell ⟨gb109, 1, none⟩ (.int .i64 t103)).setCell ⟨gb109, 2, none⟩ (.slice Ao15 t104.length co15)) = w16 at n0_ n1_ n2_ n3_ ⊢
      have HO106 := n0_
      have BK101 := n1_
      have BK109 := n2_
      have HB := n3_
      clear n0_ n1_ n2_ n3_
      have n0_ := aK (Kd.R_drew HO106.out)
      have n1_ := aK (blk_drew BK101.out)
      have n2_ := aK (blk_drew BK109.out)
      have n3_ := aK (below_drew1 HB.out)
      clear HO106
      clear BK101
      clear BK109
      clear HB
      have HO106 := n0_
      have BK101 := n1_
      have BK109 := n2_
      have HB := n3_
      clear n0_ n1_ n2_ n3_
      refine start_ (n := 14) (S := fun w' => w'.cell? ⟨gb109, 0, none⟩ = some (.int .i64 t102) ∧ w'.cell? ⟨gb109, 1, none⟩ = some (.int .i64 t103) ∧ w'.cell? ⟨gb109, 2, none⟩ = some (.slice Ao15 t104.length co15)) (ds := []) (bs 0 14) (by kernel_rfl) rfl rfl ⟨(blk_cell BK109.out 0).trans rfl, (blk_cell BK109.out 1).trans rfl, (blk_cell BK109.out 2).trans rfl⟩ (fun hHeld => ?_); refine with_tabW impl_combRoot.tab4 impl_combRoot.bits4 (fun HT_ HW_ => ?_)
      generalize w16.drew = w17 at HO106 BK101 BK109 HB hHeld ⊢
      refine pure_ (i := 1) (N := some 23) (v := ?_) (a' := ?_) #[false, true, false, false, false, false, false, false, false, false, false, false, false, false] rfl rfl (any_of HT_.out (by kernel_rfl)) (fun _ _ _ h => h) (Or.inl ⟨by rfl, ?_⟩) ?_ ?_
      rotate_left
      ·intro w'
       go_simp
       with_reducible rfl
      rotate_left
      ·simp only [sP, i64_w, i32_w]
       rfl
      refine pure_ (i := 2) (N := some 24) (v := ?_) (a' := ?_) #[false, true, true, false, false, false, false, false, false, false, false, false, false, false] rfl rfl (any_of HT_.out (by kernel_rfl)) (fun _ _ _ h => h) (Or.inl ⟨by rfl, ?_⟩) ?_ ?_
      rotate_left
      ·intro w'
       go_simp
       with_reducible rfl
      rotate_left
      ·simp only [sP, i64_w, i32_w]
       rfl
      refine pure_ (i := 3) (N := some 25) (v := ?_) (a' := ?_) #[false, true, true, true, false, false, false, false, false, false, false, false, false, false] rfl rfl (any_of HT_.out (by kernel_rfl)) (fun _ _ _ h => h) (Or.inl ⟨by rfl, ?_⟩) ?_ ?_
      rotate_left
      ·intro w'
       go_simp
       with_reducible rfl
      rotate_left
      ·simp only [sP, i64_w, i32_w]
       rfl
      refine pure_ (i := 4) (N := some 26) (v := ?_) (a' := ?_) #[false, true, true, true, true, false, false, false, false, false, false, false, false, false] rfl rfl (any_of HT_.out (by kernel_rfl)) (fun _ _ _ h => h) (Or.inl ⟨by rfl, ?_⟩) ?_ ?_
      rotate_left
      ·intro w'
       go_simp
       with_reducible rfl
      rotate_left
      ·simp only [sP, i64_w, i32_w]
       rfl
      refine pure_ (i := 5) (N := some 27) (v := ?_) (a' := ?_) #[false, true, true, true, true, true, false, false, false, false, false, false, false, false] rfl rfl (any_of HT_.out (by kernel_rfl)) (fun _ _ _ h => h) (Or.inl ⟨by rfl, ?_⟩) ?_ ?_
      rotate_left
      ·intro w'
       go_simp
       with_reducible rfl
      rotate_left
      ·simp only [sP, i64_w, i32_w]
       rfl
      refine pure_ (i := 6) (N := some 28) (v := ?_) (a' := ?_) #[false, true, true, true, true, true, true, false, false, false, false, false, false, false] rfl rfl (any_of HT_.out (by kernel_rfl)) (fun _ _ _ h => h) (Or.inl ⟨by rfl, ?_⟩) ?_ ?_
      rotate_left
      ·intro w'
       go_simp
       with_reducible rfl
      rotate_left
      ·simp only [sP, i64_w, i32_w]
       rfl
      refine pure_ (i := 7) (N := some 29) (v := ?_) (a' := ?_) #[false, true, true, true, true, true, true, true, false, false, false, false, false, false] rfl rfl (any_of HT_.out (by kernel_rfl)) (fun _ _ _ h => h) (Or.inl ⟨by rfl, ?_⟩) ?_ ?_
      rotate_left
      ·intro w'
       go_simp
       with_reducible rfl
      rotate_left
      ·simp only [sP, i64_w, i32_w]
       rfl
      refine pure_ (i := 8) (N := some 30) (v := ?_) (a' := ?_) #[false, true, true, true, true, true, true, true, true, false, false, false, false, false] rfl rfl (any_of HT_.out (by kernel_rfl)) (fun _ _ _ h => h) (Or.inl ⟨by rfl, ?_⟩) ?_ ?_
      rotate_left
      ·intro w'
       go_simp
       with_reducible rfl
      rotate_left
      ·simp only [sP, i64_w, i32_w]
       rfl
      refine take_ (i := 0) (N := some 22) (v := ?_) (a' := ?_) (bs 9 5) rfl rfl (take_ofW HT_.out HW_.out (by kernel_rfl)) (fun _ _ _ h => h) (Or.inl ⟨by rfl, ?_⟩) hHeld ?_ ?_
      rotate_left
      ·rintro w' ⟨s0, s1, s2⟩
       go_simp
       with_reducible rfl
      rotate_left
      ·simp only [sP, i64_w, i32_w]
       rfl
      refine take_ (i := 9) (N := some 31) (v := ?_) (a' := ?_) (bs 10 4) rfl rfl (take_ofW HT_.out HW_.out (by kernel_rfl)) (fun _ _ _ h => h) (Or.inl ⟨by rfl, ?_⟩) hHeld ?_ ?_
      rotate_left
      ·rintro w' ⟨s0, s1, s2⟩
       go_simp
       with_reducible rfl
      rotate_left
      ·simp only [sP, i64_w, i32_w]
       rfl
      refine one_ (i := 10) (N := some 32) (bs 11 3) rfl rfl (one_of HT_.out (by kernel_rfl)) (by decide) (fun K hK => ?_)
      refine goes_ Try.func58 (by kernel_rfl) rfl #[.agg #[.int .i64 t102, .int .i64 t103, .slice Ao15 t104.length co15]] (by rfl) rfl rfl tA ?_
      with_reducible refine (impl_comb_isGood.calls kj1 t102 t103 _ _ t104 t110 _ ?side1 ?side2 A10.out).mono ?_
      (case side1 => exact sC ((Kd.R_reads' HO106.out).2.2))
      (case side2 => exact (Kd.R_reads' HO106.out).2.1)
      rintro e w18 ⟨rfl, hb⟩
      refine ⟨_, rfl, ?_⟩
      have n0_ := aK (Kd.R_below HO106.out hb)
      have n1_ := aK (blk_below BK101.out hb)
      have n2_ := aK (blk_below BK109.out hb)
      have n3_ := aK (below_step (pH HB) hb)
      clear HO106
      clear BK101
      clear BK109
      clear HB
      have HO106 := n0_
      have BK101 := n1_
      have BK109 := n2_
      have HB := n3_
      clear n0_ n1_ n2_ n3_
      (try clear hb)
      (try clear hb2)
      (try clear hk)
      (try clear hi)
      refine hK.out _ _ ⟨(blk_cell BK109.out 0).trans rfl, (blk_cell BK109.out 1).trans rfl, (blk_cell BK109.out 2).trans rfl⟩ (fun hHeld => ?_)
      clear hK K
      refine norm_ (a' := ?_) ?_ ?_
      rotate_left
      ·show Act.put _ (some 32) _ = _
       simp only [sP, i64_w, i32_w]
       rfl
      refine pure_ (i := 11) (N := some 33) (v := ?_) (a' := ?_) (bs 12 2) rfl rfl (any_of HT_.out (by kernel_rfl)) (fun _ _ _ h => h) (Or.inl ⟨by rfl, ?_⟩) ?_ ?_
      rotate_left
      ·intro w'
       go_simp
       with_reducible rfl
      rotate_left
      ·simp only [sP, i64_w, i32_w]
       rfl
      refine one_ (i := 12) (N := none) (bs 13 1) rfl rfl (one_of HT_.out (by kernel_rfl)) (by decide) (fun K hK => ?_)
      have hs19 : w18.cell? ⟨gb101, 0, none⟩ = some (.int .i64 0) := (blk_cell BK101.out 0).trans rfl
      have hfs19 := blk_frozen BK101.out 0
      have hns19_1 := NB109_101.out
      have hms19_1 := NB101_109.out
      have hs20 : w18.cell? ⟨gb101, 1, none⟩ = some (.int .i64 0) := (blk_cell BK101.out 1).trans rfl
      have hfs20 := blk_frozen BK101.out 1
      have hns20_1 := NB109_101.out
      have hms20_1 := NB101_109.out
      have hs21 : w18.cell? ⟨gb101, 2, none⟩ = some (.slice none 0 0) := (blk_cell BK101.out 2).trans rfl
      have hfs21 := blk_frozen BK101.out 2
      have hns21_1 := NB109_101.out
      have hms21_1 := NB101_109.out
      refine skip_ (w1 := ?_) (by rfl) rfl ?_ ?_
      rotate_left
      ·go_simp
       rfl
      refine hK.out _ _ ⟨((cell_far (p := ⟨gb101, _, none⟩) NB109_101.out _).trans (((cell_far (p := ⟨gb101, _, none⟩) NB109_101.out _).trans (((cell_far (p := ⟨gb101, _, none⟩) NB109_101.out _).trans (hHeld.1)))))), ((cell_far (p := ⟨gb101, _, none⟩) NB109_101.out _).trans (((cell_far (p := ⟨gb101, _, none⟩) NB109_101.out _).trans (((cell_far (p := ⟨gb101, _, none⟩) NB109_101.out _).trans (hHeld.2.1)))))), ((cell_far (p := ⟨gb101, _, none⟩) NB109_101.out _).trans (((cell_far (p := ⟨gb101, _, none⟩) NB109_101.out _).trans (((cell_far (p := ⟨gb101, _, none⟩) NB109_101.out _).trans (hHeld.2.2))))))⟩ (fun hHeld => ?_)
      clear hK K
      refine pure_ (i := 13) (N := some 3) (v := ?_) (a' := ?_) (bs 14 0) rfl rfl (any_of HT_.out (by kernel_rfl)) (fun _ _ _ h => h) (Or.inl ⟨by rfl, ?_⟩) ?_ ?_
      rotate_left
      ·intro w'
       go_simp
       with_reducible rfl
      rotate_left
      ·simp only [sP, i64_w, i32_w]
       rfl
      refine done_ (done_of HT_.out (by kernel_rfl)) ?_
      try go_wp2
      refine bodyPost_ret (results_ct rfl _ _ gb101 58 #[.int .i64 t102, .int .i64 t103, .slice Ao15 t104.length co15] (0, 0) _ rfl (p3 BK101) Try.underlying58 rfl (by kernel_rfl)) rfl ?_
      exact ⟨_, eW, by (with_reducible repeat (first | apply Kd.R_alloc | apply Kd.R_drewN | apply Kd.R_drew)); exact Kd.R_mono (Kd.R_far (p := ⟨gb101, 2, none⟩) (Kd.R_far (p := ⟨gb101, 1, none⟩) (Kd.R_far (p := ⟨gb101, 0, none⟩) (Kd.R_mono HO106.out (fun k_ hk => (⟨hk, hk.1⟩ : _ ∧ k_ ≠ gb101))) (fun _ hk => hk.2) (.int .i64 t102)) (fun _ hk => hk.2) (.int .i64 t103)) (fun _ hk => hk.2) (.slice Ao15 t104.length co15)) (fun _ hk => trivial), pH HB⟩
     ·rw [if_neg c9] at H
      have c9b0 : (t107 == (l0.length : Int)) = false := beq_eq_false_iff_ne.mpr c9
      have c9b1 : (t107 != (l0.length : Int)) = true := bne_iff_ne.mpr c9
      simp only [Option.some.injEq, Prod.mk.injEq] at H
      obtain ⟨rfl, rfl, rfl, rfl⟩ := H
      try go_wp2_with (first | ((with_reducible refine gate_callee (f := 64) rfl ?_); refine goesL_ (some 18) rfl rfl Try.func64 (by kernel_rfl) rfl #[.slice A0 l0.length c0, .int .i64 0, .int .i64 (-1)] rfl tA ?_; (with_reducible refine (impl_combAt.calls kj1 _ _ l0 0 (-1) t102 t103 t104 t107 true _ ?side1 ?side2 A7.out).mono ?_); (case side1 => exact sC (Kd.C_below HR0.out HB.out)); (case side2 => exact HC0.out); rintro e w22 ⟨v105, rfl, ho0, hb⟩; refine ⟨_, rfl, ?_⟩; have HO106 := aK (Kd.R_lower (Kd.R_newB ho0 BK101.out) (below_size HB.out)); replace BK101 := qb BK101 hb; replace HB := qs HB hb; (try clear hb); (try clear ho0)) | ((with_reducible refine gate_dst (N := 4) rfl ?_); (try (refine gate_guard (by rfl) ?_; dsimp only)); refine bE (N := 4) (cs := #[.int .i64 0, .int .i64 0, .slice none 0 0]) (t := 58) ?_; intro gb109 hg w23 hbox hb; have n0_ := aK (Kd.R_below (Kd.R_elderB HO106.out gb109 (Nat.le_of_eq hg.symm)) hb); have GW109 := qw HB hg; have GE109 := qw HB hg; have NB101_109 := ql BK101 hg; have NB109_101 := qg BK101 hg; replace BK101 := qb BK101 hb; have BK109 := aK hbox; clear HO106; have HO106 := n0_; clear n0_; replace HB := qs HB hb; clear hb hbox hg; have hnb24 := NB109_101.out; have hnc24 := NB101_109.out; have hcz25_0 := k30 BK109; have hcz25_1 := k31 BK109; have hcz25_2 := k32 BK109; have hfz25_0 := fz BK109 0; have hfz25_1 := fz BK109 1; have hfz25_2 := fz BK109 2; obtain ⟨Ao26, co26, eo26⟩ := Kd.R_slice HO106.out; subst eo26))
      have n0_ : Aside0 (Kd.R k58 58 (((w23.setCell ⟨gb109, 0, none⟩ (.int .i64 t102)).setCell ⟨gb109, 1, none⟩ (.int .i64 t103)).setCell ⟨gb109, 2, none⟩ (.slice Ao26 t104.length co26)) w.heap.size (fun k_ => k_ ≠ gb101 ∧ k_ ≠ gb109) (.slice Ao26 t104.length co26) t104) := ⟨by (with_reducible repeat (first | apply Kd.R_alloc | apply Kd.R_drewN | apply Kd.R_drew)); exact Kd.R_mono (Kd.R_far (p := ⟨gb109, 2, none⟩) (Kd.R_far (p := ⟨gb109, 1, none⟩) (Kd.R_far (p := ⟨gb109, 0, none⟩) (Kd.R_mono HO106.out (fun k_ hk => (⟨hk, hk.2⟩ : _ ∧ k_ ≠ gb109))) (fun _ hk => hk.2) (.int .i64 t102)) (fun _ hk => hk.2) (.int .i64 t103)) (fun _ hk => hk.2) (.slice Ao26 t104.length co26)) (fun _ hk => ⟨hk.1.1.2, hk.1.2⟩)⟩
      have n1_ : Aside0 ((((w23.setCell ⟨gb109, 0, none⟩ (.int .i64 t102)).setCell ⟨gb109, 1, none⟩ (.int .i64 t103)).setCell ⟨gb109, 2, none⟩ (.slice Ao26 t104.length co26)).heap[gb101]? = some (.cells #[.int .i64 0, .int .i64 0, .slice none 0 0] 58 (0, 0))) := ⟨by (repeat first | with_reducible apply zN | with_reducible apply zD | with_reducible apply zA | refine blk_far ?_ NB101_109.out _); exact BK101.out⟩
      have n2_ : Aside0 ((((w23.setCell ⟨gb109, 0, none⟩ (.int .i64 t102)).setCell ⟨gb109, 1, none⟩ (.int .i64 t103)).setCell ⟨gb109, 2, none⟩ (.slice Ao26 t104.length co26)).heap[gb109]? = some (.cells #[.int .i64 t102, .int .i64 t103, .slice Ao26 t104.length co26] 58 (0, 0))) := ⟨p3 BK109⟩
      have n3_ : Aside0 (Below w.heap.size w (((w23.setCell ⟨gb109, 0, none⟩ (.int .i64 t102)).setCell ⟨gb109, 1, none⟩ (.int .i64 t103)).setCell ⟨gb109, 2, none⟩ (.slice Ao26 t104.length co26))) := ⟨pH HB⟩
      (try clear HO106)
      (try clear BK101)
      (try clear BK109)
      (try clear HB)
      generalize (((w23.setCell ⟨gb109, 0, none⟩ (.int .i64 t102)).setCell ⟨gb109, 1, none⟩ (.int .i64 t103)).setCell ⟨gb109, 2, none⟩ (.slice Ao26 t104.length co26)) = w27 at n0_ n1_ n2_ n3_ ⊢
      have HO106 := n0_
      have BK101 := n1_
      have BK109 := n2_
      have HB := n3_
      clear n0_ n1_ n2_ n3_
      have n0_ := aK (Kd.R_drew HO106.out)
      have n1_ := aK (blk_drew BK101.out)
      have n2_ := aK (blk_drew BK109.out)
      have n3_ := aK (below_drew1 HB.out)
      clear HO106
      clear BK101
      clear BK109
      clear HB
      have HO106 := n0_
      have BK101 := n1_
      have BK109 := n2_
      have HB := n3_
      clear n0_ n1_ n2_ n3_
      refine start_ (n := 14) (S := fun w' => w'.cell? ⟨gb109, 0, none⟩ = some (.int .i64 t102) ∧ w'.cell? ⟨gb109, 1, none⟩ = some (.int .i64 t103) ∧ w'.cell? ⟨gb109, 2, none⟩ = some (.slice Ao26 t104.length co26)) (ds := []) (bs 0 14) (by kernel_rfl) rfl rfl ⟨(blk_cell BK109.out 0).trans rfl, (blk_cell BK109.out 1).trans rfl, (blk_cell BK109.out 2).trans rfl⟩ (fun hHeld => ?_); refine with_tabW impl_combRoot.tab4 impl_combRoot.bits4 (fun HT_ HW_ => ?_)
      generalize w27.drew = w28 at HO106 BK101 BK109 HB hHeld ⊢
      refine pure_ (i := 1) (N := some 23) (v := ?_) (a' := ?_) #[false, true, false, false, false, false, false, false, false, false, false, false, false, false] rfl rfl (any_of HT_.out (by kernel_rfl)) (fun _ _ _ h => h) (Or.inl ⟨by rfl, ?_⟩) ?_ ?_
      rotate_left
      ·intro w'
       go_simp
       with_reducible rfl
      rotate_left
      ·simp only [sP, i64_w, i32_w]
       rfl
      refine pure_ (i := 2) (N := some 24) (v := ?_) (a' := ?_) #[false, true, true, false, false, false, false, false, false, false, false, false, false, false] rfl rfl (any_of HT_.out (by kernel_rfl)) (fun _ _ _ h => h) (Or.inl ⟨by rfl, ?_⟩) ?_ ?_
      rotate_left
      ·intro w'
       go_simp
       with_reducible rfl
      rotate_left
      ·simp only [sP, i64_w, i32_w]
       rfl
      refine pure_ (i := 3) (N := some 25) (v := ?_) (a' := ?_) #[false, true, true, true, false, false, false, false, false, false, false, false, false, false] rfl rfl (any_of HT_.out (by kernel_rfl)) (fun _ _ _ h => h) (Or.inl ⟨by rfl, ?_⟩) ?_ ?_
      rotate_left
      ·intro w'
       go_simp
       with_reducible rfl
      rotate_left
      ·simp only [sP, i64_w, i32_w]
       rfl
      refine pure_ (i := 4) (N := some 26) (v := ?_) (a' := ?_) #[false, true, true, true, true, false, false, false, false, false, false, false, false, false] rfl rfl (any_of HT_.out (by kernel_rfl)) (fun _ _ _ h => h) (Or.inl ⟨by rfl, ?_⟩) ?_ ?_
      rotate_left
      ·intro w'
       go_simp
       with_reducible rfl
      rotate_left
      ·simp only [sP, i64_w, i32_w]
       rfl
      refine pure_ (i := 5) (N := some 27) (v := ?_) (a' := ?_) #[false, true, true, true, true, true, false, false, false, false, false, false, false, false] rfl rfl (any_of HT_.out (by kernel_rfl)) (fun _ _ _ h => h) (Or.inl ⟨by rfl, ?_⟩) ?_ ?_
      rotate_left
      ·intro w'
       go_simp
       with_reducible rfl
      rotate_left
      ·simp only [sP, i64_w, i32_w]
       rfl
      refine pure_ (i := 6) (N := some 28) (v := ?_) (a' := ?_) #[false, true, true, true, true, true, true, false, false, false, false, false, false, false] rfl rfl (any_of HT_.out (by kernel_rfl)) (fun _ _ _ h => h) (Or.inl ⟨by rfl, ?_⟩) ?_ ?_
      rotate_left
      ·intro w'
       go_simp
       with_reducible rfl
      rotate_left
      ·simp only [sP, i64_w, i32_w]
       rfl
      refine pure_ (i := 7) (N := some 29) (v := ?_) (a' := ?_) #[false, true, true, true, true, true, true, true, false, false, false, false, false, false] rfl rfl (any_of HT_.out (by kernel_rfl)) (fun _ _ _ h => h) (Or.inl ⟨by rfl, ?_⟩) ?_ ?_
      rotate_left
      ·intro w'
       go_simp
       with_reducible rfl
      rotate_left
      ·simp only [sP, i64_w, i32_w]
       rfl
      refine pure_ (i := 8) (N := some 30) (v := ?_) (a' := ?_) #[false, true, true, true, true, true, true, true, true, false, false, false, false, false] rfl rfl (any_of HT_.out (by kernel_rfl)) (fun _ _ _ h => h) (Or.inl ⟨by rfl, ?_⟩) ?_ ?_
      rotate_left
      ·intro w'
       go_simp
       with_reducible rfl
      rotate_left
      ·simp only [sP, i64_w, i32_w]
       rfl
      refine pure_ (i := 9) (N := some 31) (v := undef) (a' := ?_) #[false, true, true, true, true, true, true, true, true, true, false, false, false, false] rfl rfl (any_of HT_.out (by kernel_rfl)) (fun _ _ _ h => h) (Or.inr ⟨by rfl, rfl⟩) ?_ ?_
      rotate_left
      ·simp only [sP, i64_w, i32_w]
       rfl
      refine pure_ (i := 10) (N := some 32) (v := undef) (a' := ?_) #[false, true, true, true, true, true, true, true, true, true, true, false, false, false] rfl rfl (any_of HT_.out (by kernel_rfl)) (fun _ _ _ h => h) (Or.inr ⟨by rfl, rfl⟩) ?_ ?_
      rotate_left
      ·simp only [sP, i64_w, i32_w]
       rfl
      refine pure_ (i := 11) (N := some 33) (v := ?_) (a' := ?_) #[false, true, true, true, true, true, true, true, true, true, true, true, false, false] rfl rfl (any_of HT_.out (by kernel_rfl)) (fun _ _ _ h => h) (Or.inl ⟨by rfl, ?_⟩) ?_ ?_
      rotate_left
      ·intro w'
       go_simp
       with_reducible rfl
      rotate_left
      ·simp only [sP, i64_w, i32_w]
       rfl
      refine take_ (i := 0) (N := some 22) (v := ?_) (a' := ?_) (bs 12 2) rfl rfl (take_ofW HT_.out HW_.out (by kernel_rfl)) (fun _ _ _ h => h) (Or.inl ⟨by rfl, ?_⟩) hHeld ?_ ?_
      rotate_left
      ·rintro w' ⟨s0, s1, s2⟩
       go_simp
       with_reducible rfl
      rotate_left
      ·simp only [sP, i64_w, i32_w]
       rfl
      refine one_ (i := 12) (N := none) (bs 13 1) rfl rfl (one_of HT_.out (by kernel_rfl)) (by decide) (fun K hK => ?_)
      have hs29 : w28.cell? ⟨gb101, 0, none⟩ = some (.int .i64 0) := (blk_cell BK101.out 0).trans rfl
      have hfs29 := blk_frozen BK101.out 0
      have hns29_1 := NB109_101.out
      have hms29_1 := NB101_109.out
      have hs30 : w28.cell? ⟨gb101, 1, none⟩ = some (.int .i64 0) := (blk_cell BK101.out 1).trans rfl
      have hfs30 := blk_frozen BK101.out 1
      have hns30_1 := NB109_101.out
      have hms30_1 := NB101_109.out
      have hs31 : w28.cell? ⟨gb101, 2, none⟩ = some (.slice none 0 0) := (blk_cell BK101.out 2).trans rfl
      have hfs31 := blk_frozen BK101.out 2
      have hns31_1 := NB109_101.out
      have hms31_1 := NB101_109.out
      refine skip_ (w1 := ?_) (by rfl) rfl ?_ ?_
      rotate_left
      ·go_simp
       rfl
      refine hK.out _ _ ⟨((cell_far (p := ⟨gb101, _, none⟩) NB109_101.out _).trans (((cell_far (p := ⟨gb101, _, none⟩) NB109_101.out _).trans (((cell_far (p := ⟨gb101, _, none⟩) NB109_101.out _).trans (hHeld.1)))))), ((cell_far (p := ⟨gb101, _, none⟩) NB109_101.out _).trans (((cell_far (p := ⟨gb101, _, none⟩) NB109_101.out _).trans (((cell_far (p := ⟨gb101, _, none⟩) NB109_101.out _).trans (hHeld.2.1)))))), ((cell_far (p := ⟨gb101, _, none⟩) NB109_101.out _).trans (((cell_far (p := ⟨gb101, _, none⟩) NB109_101.out _).trans (((cell_far (p := ⟨gb101, _, none⟩) NB109_101.out _).trans (hHeld.2.2))))))⟩ (fun hHeld => ?_)
      clear hK K
      refine pure_ (i := 13) (N := some 3) (v := ?_) (a' := ?_) (bs 14 0) rfl rfl (any_of HT_.out (by kernel_rfl)) (fun _ _ _ h => h) (Or.inl ⟨by rfl, ?_⟩) ?_ ?_
      rotate_left
      ·intro w'
       go_simp
       with_reducible rfl
      rotate_left
      ·simp only [sP, i64_w, i32_w]
       rfl
      refine done_ (done_of HT_.out (by kernel_rfl)) ?_
      try go_wp2
      refine bodyPost_ret (results_ct rfl _ _ gb101 58 #[.int .i64 t102, .int .i64 t103, .slice Ao26 t104.length co26] (0, 0) _ rfl (p3 BK101) Try.underlying58 rfl (by kernel_rfl)) rfl ?_
      exact ⟨_, eW, by (with_reducible repeat (first | apply Kd.R_alloc | apply Kd.R_drewN | apply Kd.R_drew)); exact Kd.R_mono (Kd.R_far (p := ⟨gb101, 2, none⟩) (Kd.R_far (p := ⟨gb101, 1, none⟩) (Kd.R_far (p := ⟨gb101, 0, none⟩) (Kd.R_mono HO106.out (fun k_ hk => (⟨hk, hk.1⟩ : _ ∧ k_ ≠ gb101))) (fun _ hk => hk.2) (.int .i64 t102)) (fun _ hk => hk.2) (.int .i64 t103)) (fun _ hk => hk.2) (.slice Ao26 t104.length co26)) (fun _ hk => trivial), pH HB⟩
    ·replace c8 := Bool.eq_false_iff.mpr c8
     subst c8
     rw [if_neg (show ¬ (false = true) by decide)] at H
     simp only [Option.some.injEq, Prod.mk.injEq] at H
     obtain ⟨rfl, rfl, rfl, rfl⟩ := H
     try go_wp2_with (first | ((with_reducible refine gate_callee (f := 64) rfl ?_); refine goesL_ (some 18) rfl rfl Try.func64 (by kernel_rfl) rfl #[.slice A0 l0.length c0, .int .i64 0, .int .i64 (-1)] rfl tA ?_; (with_reducible refine (impl_combAt.calls kj1 _ _ l0 0 (-1) t102 t103 t104 t107 false _ ?side1 ?side2 A7.out).mono ?_); (case side1 => exact sC (Kd.C_below HR0.out HB.out)); (case side2 => exact HC0.out); rintro e w32 ⟨v105, rfl, ho0, hb⟩; refine ⟨_, rfl, ?_⟩; have HO106 := aK (Kd.R_lower (Kd.R_newB ho0 BK101.out) (below_size HB.out)); replace BK101 := qb BK101 hb; replace HB := qs HB hb; (try clear hb); (try clear ho0)) | ((with_reducible refine gate_dst (N := 4) rfl ?_); (try (refine gate_guard (by rfl) ?_; dsimp only)); refine bE (N := 4) (cs := #[.int .i64 0, .int .i64 0, .slice none 0 0]) (t := 58) ?_; intro gb109 hg w33 hbox hb; have n0_ := aK (Kd.R_below (Kd.R_elderB HO106.out gb109 (Nat.le_of_eq hg.symm)) hb); have GW109 := qw HB hg; have GE109 := qw HB hg; have NB101_109 := ql BK101 hg; have NB109_101 := qg BK101 hg; replace BK101 := qb BK101 hb; have BK109 := aK hbox; clear HO106; have HO106 := n0_; clear n0_; replace HB := qs HB hb; clear hb hbox hg; have hnb34 := NB109_101.out; have hnc34 := NB101_109.out; have hcz35_0 := k30 BK109; have hcz35_1 := k31 BK109; have hcz35_2 := k32 BK109; have hfz35_0 := fz BK109 0; have hfz35_1 := fz BK109 1; have hfz35_2 := fz BK109 2; obtain ⟨Ao36, co36, eo36⟩ := Kd.R_slice HO106.out; subst eo36))
     have n0_ : Aside0 (Kd.R k58 58 (((w33.setCell ⟨gb109, 0, none⟩ (.int .i64 t102)).setCell ⟨gb109, 1, none⟩ (.int .i64 t103)).setCell ⟨gb109, 2, none⟩ (.slice Ao36 t104.length co36)) w.heap.size (fun k_ => k_ ≠ gb101 ∧ k_ ≠ gb109) (.slice Ao36 t104.length co36) t104) := ⟨by (with_reducible repeat (first | apply Kd.R_alloc | apply Kd.R_drewN | apply Kd.R_drew)); exact Kd.R_mono (Kd.R_far (p := ⟨gb109, 2, none⟩) (Kd.R_far (p := ⟨gb109, 1, none⟩) (Kd.R_far (p := ⟨gb109, 0, none⟩) (Kd.R_mono HO106.out (fun k_ hk => (⟨hk, hk.2⟩ : _ ∧ k_ ≠ gb109))) (fun _ hk => hk.2) (.int .i64 t102)) (fun _ hk => hk.2) (.int .i64 t103)) (fun _ hk => hk.2) (.slice Ao36 t104.length co36)) (fun _ hk => ⟨hk.1.1.2, hk.1.2⟩)⟩
     have n1_ : Aside0 ((((w33.setCell ⟨gb109, 0, none⟩ (.int .i64 t102)).setCell ⟨gb109, 1, none⟩ (.int .i64 t103)).setCell ⟨gb109, 2, none⟩ (.slice Ao36 t104.length co36)).heap[gb101]? = some (.cells #[.int .i64 0, .int .i64 0, .slice none 0 0] 58 (0, 0))) := ⟨by (repeat first | with_reducible apply zN | with_reducible apply zD | with_reducible apply zA | refine blk_far ?_ NB101_109.out _); exact BK101.out⟩
     have n2_ : Aside0 ((((w33.setCell ⟨gb109, 0, none⟩ (.int .i64 t102)).setCell ⟨gb109, 1, none⟩ (.int .i64 t103)).setCell ⟨gb109, 2, none⟩ (.slice Ao36 t104.length co36)).heap[gb109]? = some (.cells #[.int .i64 t102, .int .i64 t103, .slice Ao36 t104.length co36] 58 (0, 0))) := ⟨p3 BK109⟩
     have n3_ : Aside0 (Below w.heap.size w (((w33.setCell ⟨gb109, 0, none⟩ (.int .i64 t102)).setCell ⟨gb109, 1, none⟩ (.int .i64 t103)).setCell ⟨gb109, 2, none⟩ (.slice Ao36 t104.length co36))) := ⟨pH HB⟩
     (try clear HO106)
     (try clear BK101)
     (try clear BK109)
     (try clear HB)
     generalize (((w33.setCell ⟨gb109, 0, none⟩ (.int .i64 t102)).setCell ⟨gb109, 1, none⟩ (.int .i64 t103)).setCell ⟨gb109, 2, none⟩ (.slice Ao36 t104.length co36)) = w37 at n0_ n1_ n2_ n3_ ⊢
     have HO106 := n0_
     have BK101 := n1_
     have BK109 := n2_
     have HB := n3_
     clear n0_ n1_ n2_ n3_
     have n0_ := aK (Kd.R_drew HO106.out)
     have n1_ := aK (blk_drew BK101.out)
     have n2_ := aK (blk_drew BK109.out)
     have n3_ := aK (below_drew1 HB.out)
     clear HO106
     clear BK101
     clear BK109
     clear HB
     have HO106 := n0_
     have BK101 := n1_
     have BK109 := n2_
     have HB := n3_
     clear n0_ n1_ n2_ n3_
     refine start_ (n := 14) (S := fun w' => w'.cell? ⟨gb109, 0, none⟩ = some (.int .i64 t102) ∧ w'.cell? ⟨gb109, 1, none⟩ = some (.int .i64 t103) ∧ w'.cell? ⟨gb109, 2, none⟩ = some (.slice Ao36 t104.length co36)) (ds := []) (bs 0 14) (by kernel_rfl) rfl rfl ⟨(blk_cell BK109.out 0).trans rfl, (blk_cell BK109.out 1).trans rfl, (blk_cell BK109.out 2).trans rfl⟩ (fun hHeld => ?_); refine with_tabW impl_combRoot.tab4 impl_combRoot.bits4 (fun HT_ HW_ => ?_)
     generalize w37.drew = w38 at HO106 BK101 BK109 HB hHeld ⊢
     refine pure_ (i := 1) (N := some 23) (v := ?_) (a' := ?_) #[false, true, false, false, false, false, false, false, false, false, false, false, false, false] rfl rfl (any_of HT_.out (by kernel_rfl)) (fun _ _ _ h => h) (Or.inl ⟨by rfl, ?_⟩) ?_ ?_
     rotate_left
     ·intro w'
      go_simp
      with_reducible rfl
     rotate_left
     ·simp only [sP, i64_w, i32_w]
      rfl
     refine pure_ (i := 2) (N := some 24) (v := ?_) (a' := ?_) #[false, true, true, false, false, false, false, false, false, false, false, false, false, false] rfl rfl (any_of HT_.out (by kernel_rfl)) (fun _ _ _ h => h) (Or.inl ⟨by rfl, ?_⟩) ?_ ?_
     rotate_left
     ·intro w'
      go_simp
      with_reducible rfl
     rotate_left
     ·simp only [sP, i64_w, i32_w]
      rfl
     refine pure_ (i := 3) (N := some 25) (v := undef) (a' := ?_) #[false, true, true, true, false, false, false, false, false, false, false, false, false, false] rfl rfl (any_of HT_.out (by kernel_rfl)) (fun _ _ _ h => h) (Or.inr ⟨by rfl, rfl⟩) ?_ ?_
     rotate_left
     ·simp only [sP, i64_w, i32_w]
      rfl
     refine pure_ (i := 4) (N := some 26) (v := undef) (a' := ?_) #[false, true, true, true, true, false, false, false, false, false, false, false, false, false] rfl rfl (any_of HT_.out (by kernel_rfl)) (fun _ _ _ h => h) (Or.inr ⟨by rfl, rfl⟩) ?_ ?_
     rotate_left
     ·simp only [sP, i64_w, i32_w]
      rfl
     refine pure_ (i := 5) (N := some 27) (v := undef) (a' := ?_) #[false, true, true, true, true, true, false, false, false, false, false, false, false, false] rfl rfl (any_of HT_.out (by kernel_rfl)) (fun _ _ _ h => h) (Or.inr ⟨by rfl, rfl⟩) ?_ ?_
     rotate_left
     ·simp only [sP, i64_w, i32_w]
      rfl
     refine pure_ (i := 6) (N := some 28) (v := undef) (a' := ?_) #[false, true, true, true, true, true, true, false, false, false, false, false, false, false] rfl rfl (any_of HT_.out (by kernel_rfl)) (fun _ _ _ h => h) (Or.inr ⟨by rfl, rfl⟩) ?_ ?_
     rotate_left
     ·simp only [sP, i64_w, i32_w]
      rfl
     refine pure_ (i := 7) (N := some 29) (v := ?_) (a' := ?_) #[false, true, true, true, true, true, true, true, false, false, false, false, false, false] rfl rfl (any_of HT_.out (by kernel_rfl)) (fun _ _ _ h => h) (Or.inl ⟨by rfl, ?_⟩) ?_ ?_
     rotate_left
     ·intro w'
      go_simp
      with_reducible rfl
     rotate_left
     ·simp only [sP, i64_w, i32_w]
      rfl
     refine pure_ (i := 8) (N := some 30) (v := ?_) (a' := ?_) #[false, true, true, true, true, true, true, true, true, false, false, false, false, false] rfl rfl (any_of HT_.out (by kernel_rfl)) (fun _ _ _ h => h) (Or.inl ⟨by rfl, ?_⟩) ?_ ?_
     rotate_left
     ·intro w'
      go_simp
      with_reducible rfl
     rotate_left
     ·simp only [sP, i64_w, i32_w]
      rfl
     refine pure_ (i := 9) (N := some 31) (v := undef) (a' := ?_) #[false, true, true, true, true, true, true, true, true, true, false, false, false, false] rfl rfl (any_of HT_.out (by kernel_rfl)) (fun _ _ _ h => h) (Or.inr ⟨by rfl, rfl⟩) ?_ ?_
     rotate_left
     ·simp only [sP, i64_w, i32_w]
      rfl
     refine pure_ (i := 10) (N := some 32) (v := undef) (a' := ?_) #[false, true, true, true, true, true, true, true, true, true, true, false, false, false] rfl rfl (any_of HT_.out (by kernel_rfl)) (fun _ _ _ h => h) (Or.inr ⟨by rfl, rfl⟩) ?_ ?_
     rotate_left
     ·simp only [sP, i64_w, i32_w]
      rfl
     refine pure_ (i := 11) (N := some 33) (v := ?_) (a' := ?_) #[false, true, true, true, true, true, true, true, true, true, true, true, false, false] rfl rfl (any_of HT_.out (by kernel_rfl)) (fun _ _ _ h => h) (Or.inl ⟨by rfl, ?_⟩) ?_ ?_
     rotate_left
     ·intro w'
      go_simp
      with_reducible rfl
     rotate_left
     ·simp only [sP, i64_w, i32_w]
      rfl
     refine take_ (i := 0) (N := some 22) (v := ?_) (a' := ?_) (bs 12 2) rfl rfl (take_ofW HT_.out HW_.out (by kernel_rfl)) (fun _ _ _ h => h) (Or.inl ⟨by rfl, ?_⟩) hHeld ?_ ?_
     rotate_left
     ·rintro w' ⟨s0, s1, s2⟩
      go_simp
      with_reducible rfl
     rotate_left
     ·simp only [sP, i64_w, i32_w]
      rfl
     refine one_ (i := 12) (N := none) (bs 13 1) rfl rfl (one_of HT_.out (by kernel_rfl)) (by decide) (fun K hK => ?_)
     have hs39 : w38.cell? ⟨gb101, 0, none⟩ = some (.int .i64 0) := (blk_cell BK101.out 0).trans rfl
     have hfs39 := blk_frozen BK101.out 0
     have hns39_1 := NB109_101.out
     have hms39_1 := NB101_109.out
     have hs40 : w38.cell? ⟨gb101, 1, none⟩ = some (.int .i64 0) := (blk_cell BK101.out 1).trans rfl
     have hfs40 := blk_frozen BK101.out 1
     have hns40_1 := NB109_101.out
     have hms40_1 := NB101_109.out
     have hs41 : w38.cell? ⟨gb101, 2, none⟩ = some (.slice none 0 0) := (blk_cell BK101.out 2).trans rfl
     have hfs41 := blk_frozen BK101.out 2
     have hns41_1 := NB109_101.out
     have hms41_1 := NB101_109.out
     refine skip_ (w1 := ?_) (by rfl) rfl ?_ ?_
     rotate_left
     ·go_simp
      rfl
     refine hK.out _ _ ⟨((cell_far (p := ⟨gb101, _, none⟩) NB109_101.out _).trans (((cell_far (p := ⟨gb101, _, none⟩) NB109_101.out _).trans (((cell_far (p := ⟨gb101, _, none⟩) NB109_101.out _).trans (hHeld.1)))))), ((cell_far (p := ⟨gb101, _, none⟩) NB109_101.out _).trans (((cell_far (p := ⟨gb101, _, none⟩) NB109_101.out _).trans (((cell_far (p := ⟨gb101, _, none⟩) NB109_101.out _).trans (hHeld.2.1)))))), ((cell_far (p := ⟨gb101, _, none⟩) NB109_101.out _).trans (((cell_far (p := ⟨gb101, _, none⟩) NB109_101.out _).trans (((cell_far (p := ⟨gb101, _, none⟩) NB109_101.out _).trans (hHeld.2.2))))))⟩ (fun hHeld => ?_)
     clear hK K
     refine pure_ (i := 13) (N := some 3) (v := ?_) (a' := ?_) (bs 14 0) rfl rfl (any_of HT_.out (by kernel_rfl)) (fun _ _ _ h => h) (Or.inl ⟨by rfl, ?_⟩) ?_ ?_
     rotate_left
     ·intro w'
      go_simp
      with_reducible rfl
     rotate_left
     ·simp only [sP, i64_w, i32_w]
      rfl
     refine done_ (done_of HT_.out (by kernel_rfl)) ?_
     try go_wp2
     refine bodyPost_ret (results_ct rfl _ _ gb101 58 #[.int .i64 t102, .int .i64 t103, .slice Ao36 t104.length co36] (0, 0) _ rfl (p3 BK101) Try.underlying58 rfl (by kernel_rfl)) rfl ?_
     exact ⟨_, eW, by (with_reducible repeat (first | apply Kd.R_alloc | apply Kd.R_drewN | apply Kd.R_drew)); exact Kd.R_mono (Kd.R_far (p := ⟨gb101, 2, none⟩) (Kd.R_far (p := ⟨gb101, 1, none⟩) (Kd.R_far (p := ⟨gb101, 0, none⟩) (Kd.R_mono HO106.out (fun k_ hk => (⟨hk, hk.1⟩ : _ ∧ k_ ≠ gb101))) (fun _ hk => hk.2) (.int .i64 t102)) (fun _ hk => hk.2) (.int .i64 t103)) (fun _ hk => hk.2) (.slice Ao36 t104.length co36)) (fun _ hk => trivial), pH HB⟩

end Go.Proofs.Ytcjhhdecckcibaa.G

namespace Go.Proofs.Ytcjhhdecckcibaa.G
open Go.RowKit Go.Proofs.YtcjhhdecckcibaaW.PrintWords Go.Proofs.YtcjhhdecckcibaaW.PrintLast Go.Proofs.YtcjhhdecckcibaaW.PrintMore
attribute [local go_sem] max2_int min2_int max_two min_two max_three min_three max_four min_four   -- for this text's walks alone
set_option linter.unusedVariables false
set_option linter.unusedSimpArgs false

namespace Nodes58
mutual
def flT : S58 → Int → List S52 → List S52
 | ⟨k, n, ks⟩, up, l => flL ks (l.length : Int) (l ++ [⟨k, n, up⟩])
def flL : List S58 → Int → List S52 → List S52
 | [], _, l => l
 | x :: xs, k, l => flL xs k (flT x k l)
end
mutual
def szT : S58 → Nat
 | ⟨_, _, ks⟩ => 1 + szL ks
def szL : List S58 → Nat
 | [] => 0
 | x :: xs => szT x + szL xs
end
theorem flT_eq (x : S58) (up : Int) (l : List S52) : flT x up l = flL x.f2 (l.length : Int) (l ++ [⟨x.f0, x.f1, up⟩]) := by cases x; rw [flT]
theorem szT_eq (x : S58) : szT x = 1 + szL x.f2 := by cases x; rw [szT]
theorem flL_cons (x : S58) (xs : List S58) (k : Int) (l : List S52) : flL (x :: xs) k l = flL xs k (flT x k l) := by rw [flL]
theorem flL_nil (k : Int) (l : List S52) : flL [] k l = l := by rw [flL]
theorem szL_cons (x : S58) (xs : List S58) : szL (x :: xs) = szT x + szL xs := by rw [szL]
theorem rd_drop (l : List S58) (i : Nat) (h : i < l.length) : l.drop i = rd_T58 l (i : Int) :: l.drop (i + 1) := by
 rw [List.drop_eq_getElem_cons h]
 congr 1
 unfold rd_T58
 rw [Int.toNat_natCast, List.getD_eq_getElem?_getD, List.getElem?_eq_getElem h]; rfl
theorem rd_mem (l : List S58) (i : Int) (h0 : 0 ≤ i) (h1 : i < l.length) : rd_T58 l i ∈ l := by
 have hlt : i.toNat < l.length := by omega
 have e : rd_T58 l i = l[i.toNat] := by unfold rd_T58; rw [List.getD_eq_getElem?_getD, List.getElem?_eq_getElem hlt]; rfl
 rw [e]; exact List.getElem_mem hlt
theorem len_of : ∀ (N : Nat), (∀ (x : S58) (up : Int) (l : List S52), SizeOf.sizeOf x ≤ N → (flT x up l).length = l.length + szT x) ∧ (∀ (xs : List S58) (k : Int) (l : List S52), SizeOf.sizeOf xs ≤ N → (flL xs k l).length = l.length + szL xs) := by
 intro N
 induction N with
 | zero =>
  refine ⟨fun x up l h => ?_, fun xs k l h => ?_⟩
  ·cases x; simp at h
  ·cases xs <;> simp at h
 | succ N ih =>
  refine ⟨fun x up l h => ?_, fun xs k l h => ?_⟩
  ·cases x with
   | mk k n ks =>
    rw [flT, szT, ih.2 ks _ _ (by simp at h; omega), List.length_append]
    show l.length + 1 + szL ks = _; omega
  ·cases xs with
   | nil => rw [flL, szL]; rfl
   | cons x xs =>
    have h1 : SizeOf.sizeOf x ≤ N := by simp at h; omega
    have h2 : SizeOf.sizeOf xs ≤ N := by simp at h; omega
    rw [flL, szL, ih.2 xs k _ h2, ih.1 x k l h1]; omega
theorem flT_len (x : S58) (up : Int) (l : List S52) : (flT x up l).length = l.length + szT x := (len_of _).1 x up l (Nat.le_refl _)

set_option maxHeartbeats 4000000 in
set_option maxRecDepth 100000 in
theorem node_some (w0 : World) (go gp : Nat) (hgo : w0.heap.size ≤ go) (hgp : w0.heap.size ≤ gp) (hne : gp ≠ go) (a0 a1 up : Int) (ks : List S58) (A : Option Addr) (c : Nat) (l : List S52) (A0 : Option Addr) (c0 : Nat) (w : World) (hC : Kd.C k58 w0 A ks.length ks) (hc : ks.length ≤ c) (hl : l.length + (1 + szL ks) ≤ 200000)
  (hO : Kd.R k52 52 w w0.heap.size (fun _ => True) (.slice A0 l.length c0) l) (hB : Below w0.heap.size w0 w) (hbo : w.heap[go]? = some (.cells #[.slice A0 l.length c0] 25 (0, 0))) (hbp : w.heap[gp]? = some (.cells #[.func (.func 77) #[] #[.pointer (some ⟨go, 0, none⟩), .pointer (some ⟨gp, 0, none⟩)]] 106 (0, 0)))
  (ih : ∀ (j : Nat) (A : Option Addr) (c : Nat) (acc : List S52) (v : Value) (w : World), j < ks.length → (rd_T58 ks (j : Int)).f2.length ≤ c → acc.length + szT (rd_T58 ks (j : Int)) ≤ 200000 → Kd.R k52 52 w w0.heap.size (fun _ => True) v acc → Below w0.heap.size w0 w → w.heap[go]? = some (.cells #[v] 25 (0, 0)) → w.heap[gp]? = some (.cells #[.func (.func 77) #[] #[.pointer (some ⟨go, 0, none⟩), .pointer (some ⟨gp, 0, none⟩)]] 106 (0, 0)) → Kd.C k58 w0 A (rd_T58 ks (j : Int)).f2.length (rd_T58 ks (j : Int)).f2 →
   Calls Try.prog 77 #[.agg #[.int .i64 (rd_T58 ks (j : Int)).f0, .int .i64 (rd_T58 ks (j : Int)).f1, .slice A (rd_T58 ks (j : Int)).f2.length c], .int .i64 (l.length : Int), .pointer (some ⟨go, 0, none⟩), .pointer (some ⟨gp, 0, none⟩)] w fun e w' => ∃ v2, e = .returned (.tuple #[]) ∧ w'.heap[go]? = some (.cells #[v2] 25 (0, 0)) ∧ w'.heap[gp]? = some (.cells #[.func (.func 77) #[] #[.pointer (some ⟨go, 0, none⟩), .pointer (some ⟨gp, 0, none⟩)]] 106 (0, 0)) ∧ Kd.R k52 52 w' w0.heap.size (fun _ => True) v2 (flT (rd_T58 ks (j : Int)) (l.length : Int) acc) ∧ Below w0.heap.size w0 w') :
  Calls Try.prog 77 #[.agg #[.int .i64 a0, .int .i64 a1, .slice A ks.length c], .int .i64 up, .pointer (some ⟨go, 0, none⟩), .pointer (some ⟨gp, 0, none⟩)] w fun e w' => ∃ v2, e = .returned (.tuple #[]) ∧ w'.heap[go]? = some (.cells #[v2] 25 (0, 0)) ∧ w'.heap[gp]? = some (.cells #[.func (.func 77) #[] #[.pointer (some ⟨go, 0, none⟩), .pointer (some ⟨gp, 0, none⟩)]] 106 (0, 0)) ∧ Kd.R k52 52 w' w0.heap.size (fun _ => True) v2 (flL ks (l.length : Int) (l ++ [⟨a0, a1, up⟩])) ∧ Below w0.heap.size w0 w' := by
 have hu58 := Try.underlying58
 have hu25 := Try.underlying25
 have eg := enters_ Try.func77 (by kernel_rfl) rfl
 have HM := aK hC.2.1
 have HC0 := aK hC
 have HL := aK (show l.length ≤ 200000 by omega)
 have HZ := aK hl
 have HO := aK hO
 have HB := aK hB
 have BO := aK hbo
 have BP := aK hbp
 have GO := aK hgo
 have NGO := aK hne
 have NGB : Aside0 (∀ {gb : Nat} {v : Value} {W : World}, W.heap[gb]? = some (.cells #[.int .i64 a0, .int .i64 a1, .slice A ks.length c] 58 (0, 0)) → W.heap[go]? = some (.cells #[v] 25 (0, 0)) → gb ≠ go) := ⟨fun h1 h2 e => by subst e; rw [h1] at h2; simp at h2⟩
 have IH := aK ih
 clear hC hl hO hB ih hbo hbp hgo hgp hne
 go_enter Try.func77, Try.ntmps77
 go_wp2_with (first | ((with_reducible refine gate_dst (N := 4) rfl ?_); refine bE (N := 4) (cs := #[.int .i64 a0, .int .i64 a1, .slice A ks.length c]) (t := 58) ?_; intro gb hg w5 hbox hb; have m0_ := aK (below_step HB.out hb); have m1_ := aK (hbox); have m2_ := aK (Kd.R_below HO.out hb); have m3_ := aK (blk_below (g := go) (o := .cells #[.slice A0 l.length c0] 25 (0, 0)) BO.out hb); have m4_ := aK (blk_below (g := gp) (o := .cells #[.func (.func 77) #[] #[.pointer (some ⟨go, 0, none⟩), .pointer (some ⟨gp, 0, none⟩)]] 106 (0, 0)) BP.out hb); clear BO BP HB HO; have HB := m0_; have BK := m1_; have HO := m2_; have BO := m3_; have BP := m4_; clear m0_ m1_ m2_ m3_ m4_; clear hb hbox hg; have hcz_0 : w5.cell? ⟨gb, 0, none⟩ = some (.int .i64 a0) := (blk_cell BK.out 0).trans rfl; have hcz_1 : w5.cell? ⟨gb, 1, none⟩ = some (.int .i64 a1) := (blk_cell BK.out 1).trans rfl; have hcz_2 : w5.cell? ⟨gb, 2, none⟩ = some (.slice A ks.length c) := (blk_cell BK.out 2).trans rfl; have hfz_0 := blk_frozen BK.out 0; have hfz_1 := blk_frozen BK.out 1; have hfz_2 := blk_frozen BK.out 2; have hczo_0 : w5.cell? ⟨go, 0, none⟩ = some (.slice A0 l.length c0) := (blk_cell BO.out 0).trans rfl; have hfzo_0 := blk_frozen BO.out 0) | ((with_reducible refine gate_builtin (b := .append) (xs := #[.tmp 11, .tmp 18]) rfl ?_); at_builtin; refine Kd.R_append k52 (w0 := w0) w0.heap.size rfl (.tmp 11) (.tmp 18) 25 52 (.agg #[(.int .i64 0), (.int .i64 0), (.int .i64 0)]) 24 rfl Try.underlying25 info52 rfl (by decide) (by omega) (.slice A0 l.length c0) l (⟨a0, a1, up⟩ : S52) [.int .i64 a0, .int .i64 a1, .int .i64 up] (fun _ => True) (fun _ => False) rfl (by first | (go_simp; done) | (go_simp; rfl)) ?aP (fun _ hk => hk.elim) ?aF ?aO ?aB ?aS ?aL ?_; (case aP => exact k52_mkM _ _ _ (⟨a0, a1, up⟩ : S52)); (case aB => exact HB.out); (case aF => exact (fun _ _ => trivial)); (case aO => exact HO.out); (case aS => exact (below_size HB.out)); (case aL => have := HL.out; omega); intro v1 w7 ho hb hg hat; obtain ⟨A3, c3, hv3⟩ := Kd.R_slice ho; obtain ⟨n3, hn3⟩ : ∃ n3, n3 = (l ++ [(⟨a0, a1, up⟩ : S52)]).length := ⟨_, rfl⟩; rw [← hn3] at hv3; subst hv3; clear hn3; have m0_ := aK (hb); have m1_ := aK ((hg.block gb (blk_lt BK.out) (Kd.R_ne HO.out BK.out (by decide))).trans BK.out); have m2_ := aK ((hg.block go (blk_lt BO.out) (Kd.R_ne HO.out BO.out (by decide))).trans BO.out); have m3_ := aK ((hg.block gp (blk_lt BP.out) (Kd.R_ne HO.out BP.out (by decide))).trans BP.out); have m4_ := aK (ho); clear BO BP HB HO; have HB := m0_; have BK := m1_; have BO := m2_; have BP := m3_; have HO := m4_; clear m0_ m1_ m2_ m3_ m4_; clear ho hb hg hat; clear hcz_0 hfz_0 hcz_1 hfz_1 hcz_2 hfz_2 hczo_0 hfzo_0; have hcza_0 : w7.cell? ⟨gb, 0, none⟩ = some (.int .i64 a0) := (blk_cell BK.out 0).trans rfl; have hcza_1 : w7.cell? ⟨gb, 1, none⟩ = some (.int .i64 a1) := (blk_cell BK.out 1).trans rfl; have hcza_2 : w7.cell? ⟨gb, 2, none⟩ = some (.slice A ks.length c) := (blk_cell BK.out 2).trans rfl; have hfza_0 := blk_frozen BK.out 0; have hfza_1 := blk_frozen BK.out 1; have hfza_2 := blk_frozen BK.out 2; have hczp_0 : w7.cell? ⟨go, 0, none⟩ = some (.slice A0 l.length c0) := (blk_cell BO.out 0).trans rfl; have hfzp_0 := blk_frozen BO.out 0; have hnb_ := NGB.out BK.out BO.out; have hnc_ := NGO.out))
 have n0_ : Aside0 (Kd.R k52 52 (w7.setCell ⟨go, 0, none⟩ (.slice A3 n3 c3)) w0.heap.size (fun _ => True) (.slice A3 n3 c3) (l ++ [⟨a0, a1, up⟩])) := ⟨Kd.R_mono (Kd.R_far (p := ⟨go, 0, none⟩) (Kd.R_types HO.out BO.out (by decide)) (fun _ hk => hk.2) (.slice A3 n3 c3)) (fun _ hk => hk.1)⟩
 have n1_ : Aside0 (Below w0.heap.size w0 (w7.setCell ⟨go, 0, none⟩ (.slice A3 n3 c3))) := ⟨below_set HB.out GO.out⟩
 have n2_ : Aside0 ((w7.setCell ⟨go, 0, none⟩ (.slice A3 n3 c3)).heap[go]? = some (.cells #[.slice A3 n3 c3] 25 (0, 0))) := ⟨by refine blk_put (cs := #[.slice A0 l.length c0]) ?_ 0 _ rfl; exact BO.out⟩
 have n3_ : Aside0 ((w7.setCell ⟨go, 0, none⟩ (.slice A3 n3 c3)).heap[gp]? = some (.cells #[.func (.func 77) #[] #[.pointer (some ⟨go, 0, none⟩), .pointer (some ⟨gp, 0, none⟩)]] 106 (0, 0))) := ⟨by refine blk_far ?_ NGO.out _; exact BP.out⟩
 clear HO HB BO BP
 go_loopg [23] (ks.length + 1) (fun kq v23 w' => ∃ (i : Int) (acc : List S52) (v : Value), v23 = .int .i64 i ∧ Aside0 (Kd.R k52 52 w' w0.heap.size (fun _ => True) v acc) ∧ Aside0 (0 ≤ i ∧ i ≤ ks.length ∧ (kq : Int) = ks.length - i + 1) ∧ Aside0 (acc.length + szL (ks.drop i.toNat) ≤ 200000 ∧ flL (ks.drop i.toNat) (l.length : Int) acc = flL ks (l.length : Int) (l ++ [⟨a0, a1, up⟩])) ∧ Aside0 (Below w0.heap.size w0 w') ∧ Aside0 (w'.heap[go]? = some (.cells #[v] 25 (0, 0))) ∧ Aside0 (w'.heap[gp]? = some (.cells #[.func (.func 77) #[] #[.pointer (some ⟨go, 0, none⟩), .pointer (some ⟨gp, 0, none⟩)]] 106 (0, 0))))
 case atStart => exact ⟨0, l ++ [⟨a0, a1, up⟩], .slice A3 n3 c3, rfl, n0_, ⟨by omega, by omega, by omega⟩, ⟨by have := HZ.out; rw [List.length_append, show (0 : Int).toNat = 0 from rfl, List.drop_zero]; show l.length + 1 + _ ≤ _; omega, by rw [show (0 : Int).toNat = 0 from rfl, List.drop_zero]⟩, n1_, n2_, n3_⟩
 case round =>
  clear n0_ n1_ n2_ n3_ BK
  obtain ⟨i, acc, v, rfl, HO0, HA, HF, HB, BO, BP⟩ := hrel
  obtain ⟨A1, c1, rfl⟩ := Kd.R_slice HO0.out
  have HO := HO0
  clear HO0
  by_cases c2 : i < (ks.length : Int)
  ·have cb : decide (i < (ks.length : Int)) = true := decide_eq_true c2
   have cz : decide (0 ≤ i) = true := decide_eq_true HA.out.1
   obtain ⟨j, rfl⟩ : ∃ j : Nat, i = (j : Int) := ⟨i.toNat, by have := HA.out.1; omega⟩
   obtain ⟨ad, A2, c2_, e1, hx0, hx1, hx2, hl2, hi2⟩ := at_T58 (HC0.out) (j : Int) HA.out.1 c2
   cases e1
   simp only [Int.toNat_natCast] at hx0 hx1 hx2
   have HC2 := aK hl2
   have HR2 := aK hi2
   clear hl2 hi2
   replace hx0 := uC HB hx0
   replace hx1 := uC HB hx1
   replace hx2 := uC HB hx2
   have w1 : wrap64 ((j : Int) + 1) = (j : Int) + 1 := by have := HM.out; unfold wrap64; omega
   have W1 := aK w1
   have PI := aK (show j < ks.length by omega)
   have p1 := eq_true HA.out.1
   have q1 := eq_true c2
   clear c2 w1
   have e9 : flL (ks.drop j) (l.length : Int) acc = flL (ks.drop (j + 1)) (l.length : Int) (flT (rd_T58 ks (j : Int)) (l.length : Int) acc) := by rw [rd_drop ks j PI.out, flL_cons]
   have E9 := aK e9
   have e8 : szL (ks.drop j) = szT (rd_T58 ks (j : Int)) + szL (ks.drop (j + 1)) := by rw [rd_drop ks j PI.out, szL_cons]
   have E8 := aK e8
   have CL : Aside0 (acc.length + szT (rd_T58 ks (j : Int)) ≤ 200000) := ⟨by have h := HF.out.1; rw [show ((j : Int)).toNat = j by omega, e8] at h; omega⟩
   clear e9 e8
   obtain ⟨k1, rfl⟩ : ∃ m, gk = m + 1 := ⟨gk - 1, by have := HA.out; have := PI.out; omega⟩
   go_wp2_with ((with_reducible refine gate_dst (N := 8) rfl ?_); refine bE (N := 8) (cs := #[.int .i64 0, .int .i64 0, .slice none 0 0]) (t := 58) ?_; intro g2 hg w9 hbox hb; have hy0 := (hb.cell (World.block_lt_of_cell? _ _ hx0)).trans hx0; have hy1 := (hb.cell (World.block_lt_of_cell? _ _ hx1)).trans hx1; have hy2 := (hb.cell (World.block_lt_of_cell? _ _ hx2)).trans hx2; clear hx0 hx1 hx2; have hx0 := hy0; have hx1 := hy1; have hx2 := hy2; clear hy0 hy1 hy2; have m0_ := aK (below_step HB.out hb); have m1_ := aK (hbox); have m2_ := aK (Kd.R_below HO.out hb); have m3_ := aK (blk_below (g := go) (o := .cells #[.slice A1 acc.length c1] 25 (0, 0)) BO.out hb); have m4_ := aK (blk_below (g := gp) (o := .cells #[.func (.func 77) #[] #[.pointer (some ⟨go, 0, none⟩), .pointer (some ⟨gp, 0, none⟩)]] 106 (0, 0)) BP.out hb); have m5_ := aK ((by rw [hg]; exact below_size HB.out : w0.heap.size ≤ g2)); have m6_ := aK ((by rw [hg]; exact Nat.ne_of_lt (blk_lt BO.out) : go ≠ g2)); have m7_ := aK ((by rw [hg]; exact Nat.ne_of_lt (blk_lt BP.out) : gp ≠ g2)); clear BO BP HB HO; have HB := m0_; have BK2 := m1_; have HO := m2_; have BO := m3_; have BP := m4_; have GE2 := m5_; have N2O := m6_; have N2P := m7_; clear m0_ m1_ m2_ m3_ m4_ m5_ m6_ m7_; clear hb hbox hg; have hn1_ := N2O.out; have hn2_ := N2P.out; have hczb_0 : w9.cell? ⟨g2, 0, none⟩ = some (.int .i64 0) := (blk_cell BK2.out 0).trans rfl; have hczb_1 : w9.cell? ⟨g2, 1, none⟩ = some (.int .i64 0) := (blk_cell BK2.out 1).trans rfl; have hczb_2 : w9.cell? ⟨g2, 2, none⟩ = some (.slice none 0 0) := (blk_cell BK2.out 2).trans rfl; have hfzb_0 := blk_frozen BK2.out 0; have hfzb_1 := blk_frozen BK2.out 1; have hfzb_2 := blk_frozen BK2.out 2; have hczq_0 : w9.cell? ⟨go, 0, none⟩ = some (.slice A1 acc.length c1) := (blk_cell BO.out 0).trans rfl; have hfzq_0 := blk_frozen BO.out 0; have hczr_0 : w9.cell? ⟨gp, 0, none⟩ = some (.func (.func 77) #[] #[.pointer (some ⟨go, 0, none⟩), .pointer (some ⟨gp, 0, none⟩)]) := (blk_cell BP.out 0).trans rfl; have hfzr_0 := blk_frozen BP.out 0)
   refine (IH.out j A2 c2_ acc (.slice A1 acc.length c1) _ PI.out HC2.out (by have := CL.out; omega) (Kd.R_mono (Kd.R_far (p := ⟨g2, 2, none⟩) (Kd.R_far (p := ⟨g2, 1, none⟩) (Kd.R_far (p := ⟨g2, 0, none⟩) (Kd.R_types HO.out BK2.out (by decide)) (fun _ hk => hk.2) (.int .i64 (rd_T58 ks (j : Int)).f0)) (fun _ hk => hk.2) (.int .i64 (rd_T58 ks (j : Int)).f1)) (fun _ hk => hk.2) (.slice A2 (rd_T58 ks (j : Int)).f2.length c2_)) (fun _ hk => hk.1)) (below_set (below_set (below_set HB.out GE2.out) GE2.out) GE2.out) (by refine blk_far ?_ N2O.out _; refine blk_far ?_ N2O.out _; refine blk_far ?_ N2O.out _; exact BO.out) (by refine blk_far ?_ N2P.out _; refine blk_far ?_ N2P.out _; refine blk_far ?_ N2P.out _; exact BP.out) HR2.out).mono ?_
   rintro e w' ⟨v2, rfl, bo2, bp2, ho2, hb2⟩
   have HO2 := aK ho2
   have HB2 := aK hb2
   have BO2 := aK bo2
   have BP2 := aK bp2
   clear HB HO BK2 BO BP ho2 hb2 bo2 bp2
   go_wp2
   go_roundg k1
   case measure => omega
   case rel => exact ⟨(j : Int) + 1, _, v2, by first | rfl | rw [W1.out], HO2, ⟨by have := HA.out; omega, by have := PI.out; omega, by have := HA.out; omega⟩, ⟨by have h := HF.out.1; rw [show ((j : Int)).toNat = j by omega, E8.out] at h; rw [flT_len, show ((j : Int) + 1).toNat = j + 1 by omega]; omega, by rw [← HF.out.2, show ((j : Int) + 1).toNat = j + 1 by omega, show ((j : Int)).toNat = j by omega, E9.out]⟩, HB2, BO2, BP2⟩
  ·have cb : decide (i < (ks.length : Int)) = false := decide_eq_false c2
   have hi : i.toNat = ks.length := by have := HA.out; omega
   have e := HF.out.2
   rw [hi, List.drop_length, flL_nil] at e
   have E := aK e
   clear c2 hi e
   go_wp2
   go_end0
   exact ⟨_, rfl, BO.out, BP.out, by rw [← E.out]; exact HO.out, HB.out⟩

theorem flat_some (w0 : World) (go gp : Nat) (hgo : w0.heap.size ≤ go) (hgp : w0.heap.size ≤ gp) (hne : gp ≠ go) : ∀ (N : Nat) (x : S58) (up : Int) (A : Option Addr) (c : Nat) (l : List S52) (v : Value) (w : World), SizeOf.sizeOf x.f2 ≤ N → x.f2.length ≤ c → l.length + szT x ≤ 200000 → Kd.R k52 52 w w0.heap.size (fun _ => True) v l → Below w0.heap.size w0 w → w.heap[go]? = some (.cells #[v] 25 (0, 0)) → w.heap[gp]? = some (.cells #[.func (.func 77) #[] #[.pointer (some ⟨go, 0, none⟩), .pointer (some ⟨gp, 0, none⟩)]] 106 (0, 0)) → Kd.C k58 w0 A x.f2.length x.f2 →
  Calls Try.prog 77 #[.agg #[.int .i64 x.f0, .int .i64 x.f1, .slice A x.f2.length c], .int .i64 up, .pointer (some ⟨go, 0, none⟩), .pointer (some ⟨gp, 0, none⟩)] w fun e w' => ∃ v2, e = .returned (.tuple #[]) ∧ w'.heap[go]? = some (.cells #[v2] 25 (0, 0)) ∧ w'.heap[gp]? = some (.cells #[.func (.func 77) #[] #[.pointer (some ⟨go, 0, none⟩), .pointer (some ⟨gp, 0, none⟩)]] 106 (0, 0)) ∧ Kd.R k52 52 w' w0.heap.size (fun _ => True) v2 (flT x up l) ∧ Below w0.heap.size w0 w' := by
 intro N
 induction N with
 | zero =>
  intro x up A c l v w hN
  cases h : x.f2 with
  | nil => rw [h] at hN; simp at hN
  | cons y ys => rw [h] at hN; simp at hN
 | succ N ih =>
  intro x up A c l v w hN hc hl hO hB hbo hbp hC
  obtain ⟨A0, c0, rfl⟩ := Kd.R_slice hO
  rw [flT_eq]
  refine node_some w0 go gp hgo hgp hne x.f0 x.f1 up x.f2 A c l A0 c0 w hC hc (by rw [← szT_eq]; exact hl) hO hB hbo hbp fun j A2 c2 acc v2 w2 hj hc2 hacc hO2 hB2 hbo2 hbp2 hC2 => ?_
  refine ih (rd_T58 x.f2 (j : Int)) (l.length : Int) A2 c2 acc v2 w2 ?_ hc2 hacc hO2 hB2 hbo2 hbp2 hC2
  have h1 := List.sizeOf_lt_of_mem (rd_mem x.f2 (j : Int) (by omega) (by omega))
  have h2 : ∀ y : S58, SizeOf.sizeOf y.f2 < SizeOf.sizeOf y := fun y => by cases y; simp; omega
  have h3 := h2 (rd_T58 x.f2 (j : Int))
  omega
end Nodes58

theorem Nodes58.store_func (P : Program) (w : World) (a : Addr) (m : Mode) (fn : Fn) (first captured : Array Value) : (store a (.func fn first captured) m).run P w = stored P w a (.func fn first captured) m := run_store P w a _ m rfl
attribute [local go_sem] Nodes58.store_func
def impl_comb_goodNodes.f (k : Nat) (a0_0 : Int) (a0_1 : Int) (l0_2 : List (S58)) : Option ((List (S52)) × Bool) := (impl_comb_isGood.f k a0_0 a0_1 l0_2).bind fun b => (if b = true then (if Nodes58.szT ⟨a0_0, a0_1, l0_2⟩ ≤ 200000 then (some (Nodes58.flT ⟨a0_0, a0_1, l0_2⟩ (-1) [], true)) else (none)) else (some (([] : List S52), false)))
set_option maxHeartbeats 4000000 in
set_option maxRecDepth 100000 in
theorem impl_comb_goodNodes.calls (k : Nat) (a0_0 : Int) (a0_1 : Int) (A0_2 : Option Addr) (c0_2 : Nat) (l0_2 : List (S58)) (r1 : List (S52)) (r2 : Bool) (w : World) (hr0_2 : Kd.C k58 w A0_2 l0_2.length l0_2) (hc0_2 : l0_2.length ≤ c0_2) (h : impl_comb_goodNodes.f k a0_0 a0_1 l0_2 = some (r1, r2)) :
  Calls Try.prog 54 #[.agg #[.int .i64 a0_0, .int .i64 a0_1, .slice A0_2 l0_2.length c0_2]] w fun e w' => ∃ v0_ : Value, e = .returned (.tuple #[v0_, .bool r2]) ∧ Kd.R k52 52 w' w.heap.size (fun _ => True) v0_ r1 ∧ Below w.heap.size w w' := by
 have hu58 := Try.underlying58
 have hu25 := Try.underlying25
 have eg := enters_ Try.func77 (by kernel_rfl) rfl
 have hmf : ∀ (fn : Fn) (first cap : Array Value) (w : World), (Instr.makeFunc fn first cap).run Try.prog w = .ok (.func fn first cap) w := fun _ _ _ _ => rfl
 have HR0 := aK hr0_2
 have HC0 := aK hc0_2
 clear hr0_2 hc0_2
 have HB := aK (Below.refl w.heap.size w)
 have H : ((impl_comb_isGood.f k a0_0 a0_1 l0_2).bind fun b => (if b = true then (if Nodes58.szT ⟨a0_0, a0_1, l0_2⟩ ≤ 200000 then (some (Nodes58.flT ⟨a0_0, a0_1, l0_2⟩ (-1) [], true)) else (none)) else (some (([] : List S52), false)))) = some (r1, r2) := h
 clear h
 replace H := Option.bind_eq_some_iff.mp H
 obtain ⟨b, HG0, H⟩ := H
 have HG := aK HG0
 clear HG0
 cases b with
 | true =>
  rw [if_pos rfl] at H
  by_cases hz : Nodes58.szT ⟨a0_0, a0_1, l0_2⟩ ≤ 200000
  case neg => rw [if_neg hz] at H; exact absurd H (by simp)
  rw [if_pos hz] at H
  have HZ := aK hz
  clear hz
  simp only [Option.some.injEq, Prod.mk.injEq] at H
  obtain ⟨rfl, rfl⟩ := H
  go_enter Try.func54, Try.ntmps54
  go_wp2_with (first | ((with_reducible refine gate_dst (N := 1) rfl ?_); refine bE (N := 1) (cs := #[.int .i64 a0_0, .int .i64 a0_1, .slice A0_2 l0_2.length c0_2]) (t := 58) ?_; intro gb hg w5 hbox hb; have n0_ := aK (below_step HB.out hb); have BK := aK hbox; clear HB; have HB := n0_; clear n0_; clear hb hbox hg; have hcz_0 : w5.cell? ⟨gb, 0, none⟩ = some (.int .i64 a0_0) := (blk_cell BK.out 0).trans rfl; have hcz_1 : w5.cell? ⟨gb, 1, none⟩ = some (.int .i64 a0_1) := (blk_cell BK.out 1).trans rfl; have hcz_2 : w5.cell? ⟨gb, 2, none⟩ = some (.slice A0_2 l0_2.length c0_2) := (blk_cell BK.out 2).trans rfl; have hfz_0 := blk_frozen BK.out 0; have hfz_1 := blk_frozen BK.out 1; have hfz_2 := blk_frozen BK.out 2) | ((with_reducible refine gate_callee (f := 58) rfl ?_); refine goesL_ (some 7) rfl rfl Try.func58 (by kernel_rfl) rfl #[.agg #[.int .i64 a0_0, .int .i64 a0_1, .slice A0_2 l0_2.length c0_2]] rfl tA ?_; refine (impl_comb_isGood.calls k a0_0 a0_1 _ _ l0_2 true _ (Kd.C_below HR0.out HB.out) HC0.out HG.out).mono ?_; rintro e w7 ⟨rfl, hb⟩; refine ⟨_, rfl, ?_⟩; have n0_ := aK (below_step HB.out hb); have n1_ := aK (blk_below (g := gb) (o := .cells #[.int .i64 a0_0, .int .i64 a0_1, .slice A0_2 l0_2.length c0_2] 58 (0, 0)) BK.out hb); clear HB BK; have HB := n0_; have BK := n1_; clear n0_ n1_; clear hb; clear hcz_0 hcz_1 hcz_2 hfz_0 hfz_1 hfz_2; have hcza_0 : w7.cell? ⟨gb, 0, none⟩ = some (.int .i64 a0_0) := (blk_cell BK.out 0).trans rfl; have hcza_1 : w7.cell? ⟨gb, 1, none⟩ = some (.int .i64 a0_1) := (blk_cell BK.out 1).trans rfl; have hcza_2 : w7.cell? ⟨gb, 2, none⟩ = some (.slice A0_2 l0_2.length c0_2) := (blk_cell BK.out 2).trans rfl; have hfza_0 := blk_frozen BK.out 0; have hfza_1 := blk_frozen BK.out 1; have hfza_2 := blk_frozen BK.out 2) | ((with_reducible refine gate_dst (N := 9) rfl ?_); refine Kd.R_lit k52 _ 52 ?hg (N := 9) ?hd (xs := ([] : List S52)) (inner := []) (ok := fun _ => True) (okp := fun _ => True) ?hr ?hp (fun _ hk => hk) trivial (Below.refl _ _) (Nat.le_refl _) (by simp) ?_; (case hd => rfl); (case hg => rfl); (case hr => go_simp); (case hp => exact (Reps.none _ _)); intro v1 w8 ho hb hg_ hnew_; clear hg_ hnew_; obtain ⟨A1, c1, rfl⟩ := Kd.R_slice ho; have n0_ := aK (Kd.R_lower ho (below_size HB.out)); have n1_ := aK (below_step HB.out hb); have n2_ := aK (blk_below (g := gb) (o := .cells #[.int .i64 a0_0, .int .i64 a0_1, .slice A0_2 l0_2.length c0_2] 58 (0, 0)) BK.out hb); clear HB BK; have HO := n0_; have HB := n1_; have BK := n2_; clear n0_ n1_ n2_; clear hb ho; clear hcza_0 hcza_1 hcza_2 hfza_0 hfza_1 hfza_2) | ((with_reducible refine gate_dst (N := 4) rfl ?_); refine bE (N := 4) (cs := #[.slice none 0 0]) (t := 25) ?_; intro go hg w9 hbox hb; have n0_ := aK (Kd.R_below HO.out hb); have n1_ := aK (below_step HB.out hb); have n2_ := aK (blk_below (g := gb) (o := .cells #[.int .i64 a0_0, .int .i64 a0_1, .slice A0_2 l0_2.length c0_2] 58 (0, 0)) BK.out hb); have n3_ := aK hbox; have n4_ := aK ((by rw [hg]; exact below_size HB.out : w.heap.size ≤ go)); have n5_ := aK ((by rw [hg]; exact Nat.ne_of_lt (blk_lt BK.out) : gb ≠ go)); clear HB BK HO; have HO := n0_; have HB := n1_; have BK := n2_; have BO := n3_; have GO := n4_; have NGB := n5_; clear n0_ n1_ n2_ n3_ n4_ n5_; clear hb hbox hg; have hczo_0 : w9.cell? ⟨go, 0, none⟩ = some (.slice none 0 0) := (blk_cell BO.out 0).trans rfl; have hfzo_0 := blk_frozen BO.out 0) | ((with_reducible refine gate_dst (N := 5) rfl ?_); refine bE (N := 5) (cs := #[.nilFunc]) (t := 106) ?_; intro gp hg w10 hbox hb; have n0_ := aK (Kd.R_below (Kd.R_mono (Kd.R_far (p := ⟨go, 0, none⟩) (Kd.R_types HO.out BO.out (by decide)) (fun _ hk => hk.2) (.slice A1 0 c1)) (fun _ hk => hk.1)) hb); have n1_ := aK (below_step (below_set HB.out GO.out) hb); have n2_ := aK (blk_below (g := gb) (o := .cells #[.int .i64 a0_0, .int .i64 a0_1, .slice A0_2 l0_2.length c0_2] 58 (0, 0)) (blk_far BK.out NGB.out _) hb); have n3_ := aK (blk_below (g := go) (o := .cells #[.slice A1 0 c1] 25 (0, 0)) (blk_put (cs := #[.slice none 0 0]) BO.out 0 (.slice A1 0 c1) rfl) hb); have n4_ := aK hbox; have n5_ := aK ((by rw [hg]; exact below_size (below_set HB.out GO.out) : w.heap.size ≤ gp)); have n6_ := aK ((by rw [hg]; exact Nat.ne_of_gt (blk_lt (o := .cells #[.slice A1 0 c1] 25 (0, 0)) (blk_put (cs := #[.slice none 0 0]) BO.out 0 (.slice A1 0 c1) rfl)) : gp ≠ go)); have n7_ := aK ((by rw [hg]; exact Nat.ne_of_lt (blk_lt (o := .cells #[.int .i64 a0_0, .int .i64 a0_1, .slice A0_2 l0_2.length c0_2] 58 (0, 0)) (blk_far BK.out NGB.out _)) : gb ≠ gp)); clear HB BK HO BO; have HO := n0_; have HB := n1_; have BK := n2_; have BO := n3_; have BP := n4_; have GP := n5_; have NPO := n6_; have NBP := n7_; clear n0_ n1_ n2_ n3_ n4_ n5_ n6_ n7_; clear hb hbox hg; clear hczo_0 hfzo_0; have hq1_ := NBP.out; have hq2_ := NPO.out; have hq3_ := NGB.out; have hczc_0 : w10.cell? ⟨gb, 0, none⟩ = some (.int .i64 a0_0) := (blk_cell BK.out 0).trans rfl; have hczc_1 : w10.cell? ⟨gb, 1, none⟩ = some (.int .i64 a0_1) := (blk_cell BK.out 1).trans rfl; have hczc_2 : w10.cell? ⟨gb, 2, none⟩ = some (.slice A0_2 l0_2.length c0_2) := (blk_cell BK.out 2).trans rfl; have hfzc_0 := blk_frozen BK.out 0; have hfzc_1 := blk_frozen BK.out 1; have hfzc_2 := blk_frozen BK.out 2; have hczd_0 : w10.cell? ⟨go, 0, none⟩ = some (.slice A1 0 c1) := (blk_cell BO.out 0).trans rfl; have hfzd_0 := blk_frozen BO.out 0; have hcze_0 : w10.cell? ⟨gp, 0, none⟩ = some (.nilFunc) := (blk_cell BP.out 0).trans rfl; have hfze_0 := blk_frozen BP.out 0))
  refine (Nodes58.flat_some w go gp GO.out GP.out NPO.out (SizeOf.sizeOf l0_2) (⟨a0_0, a0_1, l0_2⟩ : S58) (-1) A0_2 c0_2 [] (.slice A1 0 c1) _ (Nat.le_refl _) HC0.out (by have := HZ.out; simpa using this) (Kd.R_mono (Kd.R_far (p := ⟨gp, 0, none⟩) (Kd.R_types HO.out BP.out (by decide)) (fun _ hk => hk.2) (.func (.func 77) #[] #[.pointer (some ⟨go, 0, none⟩), .pointer (some ⟨gp, 0, none⟩)])) (fun _ hk => hk.1)) (below_set HB.out GP.out) (blk_far BO.out NPO.out.symm _) (blk_put (cs := #[.nilFunc]) BP.out 0 (.func (.func 77) #[] #[.pointer (some ⟨go, 0, none⟩), .pointer (some ⟨gp, 0, none⟩)]) rfl) HR0.out).mono ?_
  rintro e w' ⟨v2, rfl, bo2, bp2, ho2, hb2⟩
  obtain ⟨A9, c9, hv9⟩ := Kd.R_slice ho2
  obtain ⟨n9, hn9⟩ : ∃ n9, n9 = (Nodes58.flT (⟨a0_0, a0_1, l0_2⟩ : S58) (-1) []).length := ⟨_, rfl⟩
  rw [← hn9] at hv9
  subst hv9
  clear hn9
  have hq_ : w'.cell? ⟨go, 0, none⟩ = some (.slice A9 n9 c9) := (blk_cell bo2 0).trans rfl
  have hf_ := blk_frozen bo2 0
  have HO2 := aK ho2
  have HB2 := aK hb2
  clear ho2 hb2 bo2 bp2
  go_wp2
  go_ret2
  exact ⟨_, rfl, HO2.out, HB2.out⟩
 | false =>
  rw [if_neg (by decide)] at H
  simp only [Option.some.injEq, Prod.mk.injEq] at H
  obtain ⟨rfl, rfl⟩ := H
  go_enter Try.func54, Try.ntmps54
  go_wp2_with (first | ((with_reducible refine gate_dst (N := 1) rfl ?_); refine bE (N := 1) (cs := #[.int .i64 a0_0, .int .i64 a0_1, .slice A0_2 l0_2.length c0_2]) (t := 58) ?_; intro gb hg w5 hbox hb; have n0_ := aK (below_step HB.out hb); have BK := aK hbox; clear HB; have HB := n0_; clear n0_; clear hb hbox hg; have hcz_0 : w5.cell? ⟨gb, 0, none⟩ = some (.int .i64 a0_0) := (blk_cell BK.out 0).trans rfl; have hcz_1 : w5.cell? ⟨gb, 1, none⟩ = some (.int .i64 a0_1) := (blk_cell BK.out 1).trans rfl; have hcz_2 : w5.cell? ⟨gb, 2, none⟩ = some (.slice A0_2 l0_2.length c0_2) := (blk_cell BK.out 2).trans rfl; have hfz_0 := blk_frozen BK.out 0; have hfz_1 := blk_frozen BK.out 1; have hfz_2 := blk_frozen BK.out 2) | ((with_reducible refine gate_callee (f := 58) rfl ?_); refine goesL_ (some 7) rfl rfl Try.func58 (by kernel_rfl) rfl #[.agg #[.int .i64 a0_0, .int .i64 a0_1, .slice A0_2 l0_2.length c0_2]] rfl tA ?_; refine (impl_comb_isGood.calls k a0_0 a0_1 _ _ l0_2 false _ (Kd.C_below HR0.out HB.out) HC0.out HG.out).mono ?_; rintro e w7 ⟨rfl, hb⟩; refine ⟨_, rfl, ?_⟩; have n0_ := aK (below_step HB.out hb); have n1_ := aK (blk_below (g := gb) (o := .cells #[.int .i64 a0_0, .int .i64 a0_1, .slice A0_2 l0_2.length c0_2] 58 (0, 0)) BK.out hb); clear HB BK; have HB := n0_; have BK := n1_; clear n0_ n1_; clear hb; clear hcz_0 hcz_1 hcz_2 hfz_0 hfz_1 hfz_2; have hcza_0 : w7.cell? ⟨gb, 0, none⟩ = some (.int .i64 a0_0) := (blk_cell BK.out 0).trans rfl; have hcza_1 : w7.cell? ⟨gb, 1, none⟩ = some (.int .i64 a0_1) := (blk_cell BK.out 1).trans rfl; have hcza_2 : w7.cell? ⟨gb, 2, none⟩ = some (.slice A0_2 l0_2.length c0_2) := (blk_cell BK.out 2).trans rfl; have hfza_0 := blk_frozen BK.out 0; have hfza_1 := blk_frozen BK.out 1; have hfza_2 := blk_frozen BK.out 2))
  go_ret2
  exact ⟨_, rfl, Kd.R_nil _ _ _ _ _, HB.out⟩
end Go.Proofs.Ytcjhhdecckcibaa.G

namespace Go.Proofs.Ytcjhhdecckcibaa.G
open Go.RowKit Go.Proofs.YtcjhhdecckcibaaW.PrintWords Go.Proofs.YtcjhhdecckcibaaW.PrintLast Go.Proofs.YtcjhhdecckcibaaW.PrintMore
attribute [local go_sem] max2_int min2_int max_two min_two max_three min_three max_four min_four   -- for this text's walks alone
set_option linter.unusedVariables false
set_option linter.unusedSimpArgs false

def impl_combApp.f (a0_0 : Int) (a0_1 : Int) (l0_2 : List (S58)) (a1_0 : Int) (a1_1 : Int) (l1_2 : List (S58)) : Option (Int × Int × (List (S58))) := some (2, 0, (([(⟨a0_0, a0_1, l0_2⟩ : S58), (⟨a1_0, a1_1, l1_2⟩ : S58)] : List (S58))))
set_option maxHeartbeats 8000000 in
set_option maxRecDepth 100000 in
theorem impl_combApp.calls (a0_0 : Int) (a0_1 : Int) (P0_2_ : Nat → Prop) (A0_2 : Option Addr) (c0_2 : Nat) (l0_2 : List (S58)) (a1_0 : Int) (a1_1 : Int) (P1_2_ : Nat → Prop) (A1_2 : Option Addr) (c1_2 : Nat) (l1_2 : List (S58)) (r1 : Int) (r2 : Int) (r3 : List (S58)) (w : World) (hs0_2 : Kd.V k58 58 w w.heap.size (fun k_ => P0_2_ k_) (.slice A0_2 l0_2.length c0_2) l0_2) (hs1_2 : Kd.V k58 58 w w.heap.size (fun k_ => P1_2_ k_) (.slice A1_2 l1_2.length c1_2) l1_2) (h : impl_combApp.f a0_0 a0_1 l0_2 a1_0 a1_1 l1_2 = some (r1, r2, r3)) :
  Calls Try.prog 75 #[.agg #[.int .i64 a0_0, .int .i64 a0_1, .slice A0_2 l0_2.length c0_2], .agg #[.int .i64 a1_0, .int .i64 a1_1, .slice A1_2 l1_2.length c1_2]] w fun e w' => ∃ v2_ : Value, e = .returned (.agg #[.int .i64 r1, .int .i64 r2, v2_]) ∧ Kd.N k58 58 w' w.heap.size (fun k_ => ((P0_2_ k_ ∨ P1_2_ k_) ∨ w.heap.size ≤ k_)) v2_ r3 ∧ Below w.heap.size w w' := by
 have hu58 := Try.underlying58
 have HO0_2 := aK (show Kd.V k58 58 w w.heap.size (fun k_ => ((P0_2_ k_ ∨ P1_2_ k_) ∨ w.heap.size ≤ k_)) (.slice A0_2 l0_2.length c0_2) l0_2 from Kd.V_mono hs0_2 (fun k_ hk => .inl (.inl hk)))
 have HO1_2 := aK (show Kd.V k58 58 w w.heap.size (fun k_ => ((P0_2_ k_ ∨ P1_2_ k_) ∨ w.heap.size ≤ k_)) (.slice A1_2 l1_2.length c1_2) l1_2 from Kd.V_mono hs1_2 (fun k_ hk => .inl (.inr hk)))
 have HB := aK (Below.refl w.heap.size w)
 have H : (some (2, 0, (([(⟨a0_0, a0_1, l0_2⟩ : S58), (⟨a1_0, a1_1, l1_2⟩ : S58)] : List (S58))))) = some (r1, r2, r3) := h
 clear h
 obtain ⟨y104, hy104⟩ : ∃ y_ : List (S58), y_ = (([(⟨a0_0, a0_1, l0_2⟩ : S58), (⟨a1_0, a1_1, l1_2⟩ : S58)] : List (S58))) := ⟨_, rfl⟩
 replace H : (some (2, 0, y104)) = some (r1, r2, r3) := by first | (rw [hy104]; with_reducible exact H) | (have H2_ := (Option.bind_some _ _).symm.trans H; rw [hy104]; with_reducible exact H2_) | (have H2_ := (Option.bind_some _ _).symm.trans H; with_reducible exact H2_) | with_reducible exact H | (rw [hy104]; exact H) | exact H
 have Ny104 := aK hy104
 clear hy104
 simp only [Option.some.injEq, Prod.mk.injEq] at H
 obtain ⟨rfl, rfl, rfl⟩ := H
 go_enter Try.func75, Try.ntmps75
 go_wp2_with (first | ((with_reducible refine gate_dst (N := 2) rfl ?_); refine bE (N := 2) (cs := #[.int .i64 a0_0, .int .i64 a0_1, .slice A0_2 l0_2.length c0_2]) (t := 58) ?_; intro gb101 hg w3 hbox hb; have GW101 := qw HB hg; have GE101 := qw HB hg; replace HO0_2 := qv HO0_2 hg hb; replace HO1_2 := qv HO1_2 hg hb; have BK101 := aK hbox; replace HB := qs HB hb; clear hb hbox hg) | ((with_reducible refine gate_dst (N := 3) rfl ?_); refine bE (N := 3) (cs := #[.int .i64 a1_0, .int .i64 a1_1, .slice A1_2 l1_2.length c1_2]) (t := 58) ?_; intro gb102 hg w4 hbox hb; have GW102 := qw HB hg; have GE102 := qw HB hg; have NB101_102 := ql BK101 hg; have NB102_101 := qg BK101 hg; replace HO0_2 := qv HO0_2 hg hb; replace HO1_2 := qv HO1_2 hg hb; replace BK101 := qb BK101 hb; have BK102 := aK hbox; replace HB := qs HB hb; clear hb hbox hg) | ((with_reducible refine gate_dst (N := 4) rfl ?_); refine bE (N := 4) (cs := #[.int .i64 0, .int .i64 0, .slice none 0 0]) (t := 58) ?_; intro gb103 hg w5 hbox hb; have GW103 := qw HB hg; have GE103 := qw HB hg; have NB101_103 := ql BK101 hg; have NB103_101 := qg BK101 hg; have NB102_103 := ql BK102 hg; have NB103_102 := qg BK102 hg; replace HO0_2 := qv HO0_2 hg hb; replace HO1_2 := qv HO1_2 hg hb; replace BK101 := qb BK101 hb; replace BK102 := qb BK102 hb; have BK103 := aK hbox; replace HB := qs HB hb; clear hb hbox hg; have hnb6 := NB101_102.out; have hnc6 := NB102_101.out; have hnb7 := NB101_103.out; have hnc7 := NB103_101.out; have hcz8_0 := k30 BK101; have hcz8_1 := k31 BK101; have hcz8_2 := k32 BK101; have hfz8_0 := fz BK101 0; have hfz8_1 := fz BK101 1; have hfz8_2 := fz BK101 2; have hnb9 := NB102_103.out; have hnc9 := NB103_102.out; have hcz10_0 := k30 BK102; have hcz10_1 := k31 BK102; have hcz10_2 := k32 BK102; have hfz10_0 := fz BK102 0; have hfz10_1 := fz BK102 1; have hfz10_2 := fz BK102 2) | ((with_reducible refine gate_dst (N := 7) rfl ?_); refine Kd.N_lit k58 _ 58 ?hg (N' := 7) ?hd (xs := ([(⟨a0_0, a0_1, l0_2⟩ : S58), (⟨a1_0, a1_1, l1_2⟩ : S58)] : List (S58))) (inner := [.int .i64 a0_0, .int .i64 a0_1, .slice A0_2 l0_2.length c0_2, .int .i64 a1_0, .int .i64 a1_1, .slice A1_2 l1_2.length c1_2]) (ok := (fun k_ => ((P0_2_ k_ ∨ P1_2_ k_) ∨ w.heap.size ≤ k_) ∧ k_ ≠ gb101 ∧ k_ ≠ gb102 ∧ k_ ≠ gb103)) (okp := (fun k_ => ((P0_2_ k_ ∨ P1_2_ k_) ∨ w.heap.size ≤ k_) ∧ k_ ≠ gb101 ∧ k_ ≠ gb102 ∧ k_ ≠ gb103)) ?hr ?hp (fun _ hk => hk) ((show ∀ k_, w5.heap.size ≤ k_ → (fun k_ => ((P0_2_ k_ ∨ P1_2_ k_) ∨ w.heap.size ≤ k_) ∧ k_ ≠ gb101 ∧ k_ ≠ gb102 ∧ k_ ≠ gb103) k_ from fun k_ hk => ⟨(.inr (Nat.le_trans (below_size (pH HB)) hk)), Kd.freshB BK101.out k_ hk, Kd.freshB BK102.out k_ hk, Kd.freshB BK103.out k_ hk⟩) _ (Nat.le_refl _)) (Below.refl _ _) (Nat.le_refl _) (by simp) ?_; (case hd => rfl); (case hg => rfl); (case hr => go_simp); (case hp => exact (Reps.c3 (show Kd.FK k58 _ _ (⟨a0_0, a0_1, l0_2⟩ : S58) [.int .i64 a0_0, .int .i64 a0_1, .slice A0_2 l0_2.length c0_2] from (k58_mkF _ _ (⟨a0_0, a0_1, l0_2⟩ : S58) (Kd.V_reads' (Kd.V_mono (ok' := (fun k_ => ((P0_2_ k_ ∨ P1_2_ k_) ∨ w.heap.size ≤ k_) ∧ k_ ≠ gb101 ∧ k_ ≠ gb102 ∧ k_ ≠ gb103)) (HO0_2.out) (fun k_ hk => ⟨hk.1.1.1, ⟨hk.1.1.2, ⟨hk.1.2, hk.2⟩⟩⟩))).2.1 (Kd.V_F (Kd.V_mono (ok' := (fun k_ => ((P0_2_ k_ ∨ P1_2_ k_) ∨ w.heap.size ≤ k_) ∧ k_ ≠ gb101 ∧ k_ ≠ gb102 ∧ k_ ≠ gb103)) (HO0_2.out) (fun k_ hk => ⟨hk.1.1.1, ⟨hk.1.1.2, ⟨hk.1.2, hk.2⟩⟩⟩))))) (Reps.c3 (show Kd.FK k58 _ _ (⟨a1_0, a1_1, l1_2⟩ : S58) [.int .i64 a1_0, .int .i64 a1_1, .slice A1_2 l1_2.length c1_2] from (k58_mkF _ _ (⟨a1_0, a1_1, l1_2⟩ : S58) (Kd.V_reads' (Kd.V_mono (ok' := (fun k_ => ((P0_2_ k_ ∨ P1_2_ k_) ∨ w.heap.size ≤ k_) ∧ k_ ≠ gb101 ∧ k_ ≠ gb102 ∧ k_ ≠ gb103)) (HO1_2.out) (fun k_ hk => ⟨hk.1.1.1, ⟨hk.1.1.2, ⟨hk.1.2, hk.2⟩⟩⟩))).2.1 (Kd.V_F (Kd.V_mono (ok' := (fun k_ => ((P0_2_ k_ ∨ P1_2_ k_) ∨ w.heap.size ≤ k_) ∧ k_ ≠ gb101 ∧ k_ ≠ gb102 ∧ k_ ≠ gb103)) (HO1_2.out) (fun k_ hk => ⟨hk.1.1.1, ⟨hk.1.1.2, ⟨hk.1.2, hk.2⟩⟩⟩))))) (Reps.none _ _)))); intro v105 w11 ho12 hb hg_ hnew_; clear hg_ hnew_; (first | rw [← Ny104.out] at ho12 | (simp only [Int.reduceToNat] at ho12; rw [← Ny104.out] at ho12)); have HO106 := aK (Kd.N_lower ho12 (below_size HB.out)); replace HO0_2 := qe HO0_2 (Kd.N_base ho12) hb; replace HO1_2 := qe HO1_2 (Kd.N_base ho12) hb; replace BK101 := qb BK101 hb; replace BK102 := qb BK102 hb; replace BK103 := qb BK103 hb; replace HB := qs HB hb; clear hb ho12; obtain ⟨Ao13, co13, eo13⟩ := Kd.N_slice HO106.out; subst eo13; have hcz14_0 := k30 BK103; have hcz14_1 := k31 BK103; have hcz14_2 := k32 BK103; have hfz14_0 := fz BK103 0; have hfz14_1 := fz BK103 1; have hfz14_2 := fz BK103 2))
 refine bodyPost_ret (results_cell_row rfl _ _ gb103 58 #[.int .i64 2, .int .i64 0, .slice Ao13 y104.length co13] (0, 0) _ rfl (p3 BK103) Try.underlying58 rfl (by kernel_rfl)) rfl ?_
 exact ⟨_, eW, by (with_reducible repeat (first | apply Kd.N_alloc | apply Kd.N_drewN | apply Kd.N_drew)); exact Kd.N_mono (nF3 gb103 (Kd.N_mono HO106.out (fun k_ hk => (⟨hk, hk.2.2.2⟩ : _ ∧ k_ ≠ gb103))) (fun _ hk => hk.2)) (fun _ hk => hk.1.1), pH HB⟩

end Go.Proofs.Ytcjhhdecckcibaa.G

namespace Go.Proofs
open Go.Shelf
def Try.reverse91_ren : Go.Shelf.Ren := ⟨fun | 35 => 91 | n => n, fun | 22 => 56 | 23 => 58 | 3 => 3 | 4 => 4 | 0 => 0 | n => n, fun | n => n⟩
theorem Try.reverse91 : Go.Proofs.SlLaysE0.n35 Try.prog Try.reverse91_ren := {
 mixed := by kernel_rfl
 f35 := ⟨Try.f91.name, by decide, Try.func91.trans (congrArg some (by kernel_rfl))⟩
 t0 := Try.underlying0
 a0 := Try.isAgg0
 z0 := Try.sizeOf0
 v0 := Try.zeroValue0
 t3 := Try.underlying3
 a3 := Try.isAgg3
 z3 := Try.sizeOf3
 v3 := Try.zeroValue3
 t4 := Try.underlying4
 a4 := Try.isAgg4
 z4 := Try.sizeOf4
 v4 := Try.zeroValue4
 t22 := Try.underlying56
 a22 := Try.isAgg56
 z22 := Try.sizeOf56
 v22 := Try.zeroValue56 }
end Go.Proofs
namespace Go.Proofs.Ytcjhhdecckcibaa.G
open Go.RowKit Go.Sort Go.Proofs.YtcjhhdecckcibaaW.PrintWords Go.Proofs.YtcjhhdecckcibaaW.PrintLast Go.Proofs.YtcjhhdecckcibaaW.PrintMore
set_option linter.unusedVariables false

namespace Rev91
abbrev C3 : Type := { l : List Value // l.length = 3 ∧ ∀ v ∈ l, v.oneCell' = true }
instance : Inhabited C3 := ⟨⟨[.bool false, .bool false, .bool false], rfl, by intro v hv; simp at hv; subst hv; rfl⟩⟩
def enc (x : C3) : List Value := x.1
theorem enc_len (x : C3) : (enc x).length = 3 := x.2.1
theorem enc_one (x : C3) : ∀ v ∈ enc x, v.oneCell' = true := x.2.2
abbrev RR : List Value → List Value → Prop := fun x cs => cs = x ∧ cs.length = 3 ∧ ∀ u ∈ cs, u.oneCell' = true

theorem lifted : ∀ (rows : List (List Value)), (∀ r ∈ rows, r.length = 3 ∧ ∀ v ∈ r, v.oneCell' = true) → ∃ d : List C3, d.map enc = rows
  | [], _ => ⟨[], rfl⟩
  | r :: rows, h => by
    obtain ⟨d, hd⟩ := lifted rows (fun r' hr' => h r' (List.mem_cons_of_mem _ hr'))
    exact ⟨⟨r, h r (List.mem_cons_self ..)⟩ :: d, by rw [List.map_cons, hd]; rfl⟩

theorem flat_get (d : List C3) (j t : Nat) (hj : j < d.length) (ht : t < 3) : (flatK enc 3 d.toArray).toList[j * 3 + t]? = (enc d[j])[t]? := by
  have hlt : j * 3 + t < d.length * 3 := by omega
  have hs : (flatK enc 3 d.toArray).size = d.length * 3 := by simp
  have h1 := get_flatK enc 3 d.toArray (j * 3 + t) (by simpa using hlt)
  rw [getElem!_pos _ _ (by rw [hs]; exact hlt)] at h1
  rw [Array.getElem?_toList, Array.getElem?_eq_getElem (by rw [hs]; exact hlt), h1]
  have e1 : (j * 3 + t) / 3 = j := by omega
  have e2 : (j * 3 + t) % 3 = t := by omega
  rw [e1, e2]
  have hl := enc_len d[j]
  have e3 : d.toArray[j]! = d[j] := by rw [getElem!_pos _ _ (by simpa using hj)]; simp
  rw [e3, getElem!_pos _ t (by omega), List.getElem?_eq_getElem (by omega)]

theorem chunk (d : List C3) (j : Nat) (hj : j < d.length) : ((flatK enc 3 d.toArray).toList.drop (j * 3)).take 3 = enc d[j] := by
  apply List.ext_getElem?
  intro t
  by_cases ht : t < 3
  · rw [List.getElem?_take, if_pos ht, List.getElem?_drop, flat_get d j t hj ht]
  · rw [List.getElem?_take, if_neg ht, List.getElem?_eq_none (by rw [enc_len]; omega)]

theorem reps_flat (d : List C3) : Reps RR 3 (d.map enc) (flatK enc 3 d.toArray).toList := by
  refine ⟨by simp, fun j p hj => ?_⟩
  obtain ⟨hlt, he⟩ := List.getElem?_eq_some_iff.1 hj
  have hlt' : j < d.length := by simpa using hlt
  rw [chunk d j hlt']
  rw [List.getElem_map] at he
  subst he
  exact ⟨rfl, enc_len _, enc_one _⟩

theorem inner_eq (d : List C3) (inner : List Value) (h : Reps RR 3 (d.map enc) inner) : inner = (flatK enc 3 d.toArray).toList := by
  apply List.ext_getElem?
  intro t
  have hl : inner.length = d.length * 3 := by rw [h.1]; simp
  by_cases ht : t < d.length * 3
  · have hj : t / 3 < d.length := by omega
    have hm : t % 3 < 3 := by omega
    have e : t / 3 * 3 + t % 3 = t := by omega
    obtain ⟨hc, _, _⟩ := h.2 (t / 3) (enc d[t / 3]) (by rw [List.getElem?_map, List.getElem?_eq_getElem hj]; rfl)
    have h1 := flat_get d (t / 3) (t % 3) hj hm
    rw [e] at h1
    rw [h1, ← hc, List.getElem?_take, if_pos hm, List.getElem?_drop, e]
  · rw [List.getElem?_eq_none (by omega), List.getElem?_eq_none (by simp; omega)]

theorem grown (W : World) (g n : Nat) (d : Array C3) : W.grownBy (putRowK enc 3 (Sort.ahead W n) g 0 d) (some g) where
  os := rfl
  tape := rfl
  output := rfl
  size := by
    show W.heap.size ≤ (W.heap.modify g _).size
    rw [Array.size_modify]; exact Nat.le_refl _
  block := fun k _ hne => by
    show (W.heap.modify g _)[k]? = _
    rw [Array.getElem?_modify, if_neg (fun h => hne (by rw [h]))]

theorem own_after (W : World) (base g n cap : Nat) (cur : Array Value) (d : List C3) (hh : W.heap[g]? = some (.cells cur 58 (0, 0))) (hb : base ≤ g) (hn : d.length ≤ cap) (hcap : cap ≤ maxLen) (hcur : cur.size = cap * 3) :
    (putRowK enc 3 (Sort.ahead W n) g 0 d.toArray).ownsRow base 58 3 (.slice (some ⟨g, 0, none⟩) d.length cap) d.length (flatK enc 3 d.toArray).toList := by
  refine ⟨by simp, .inr ⟨g, cap, putCells id 0 (flatK enc 3 d.toArray) cur, rfl, hb, ?_, hn, hcap, ?_, ?_⟩⟩
  · show (W.heap.modify g _)[g]? = _
    rw [Array.getElem?_modify, if_pos rfl, hh]; rfl
  · unfold putCells
    rw [Array.size_mapIdx, hcur]
  · apply List.ext_getElem?
    intro t
    have hfs : (flatK enc 3 d.toArray).size = d.length * 3 := by simp
    by_cases ht : t < d.length * 3
    · rw [List.getElem?_take, if_pos ht, Array.getElem?_toList, Array.getElem?_toList]
      unfold putCells
      rw [Array.getElem?_mapIdx, Array.getElem?_eq_getElem (by rw [hcur]; omega), Option.map_some, if_pos (by omega), Array.getElem?_eq_getElem (by omega), getElem!_pos _ _ (by omega)]
      simp
    · rw [List.getElem?_take, if_neg ht, List.getElem?_eq_none (by rw [Array.length_toList]; omega)]
end Rev91

def impl_comb_91.f (l : List S58) : Option (List S58) := some l.reverse
set_option maxHeartbeats 1000000 in
theorem impl_comb_91.calls (base : Nat) (ok : Nat → Prop) (A : Option Addr) (c : Nat) (xs : List S58) (W : World) (h : Kd.N k58 58 W base ok (.slice A xs.length c) xs) (hl : xs.length ≤ 9223372036854775807) :
    Calls Try.prog 91 #[.slice A xs.length c] W fun e W' => e = .returned (.tuple #[]) ∧ Kd.N k58 58 W' base ok (.slice A xs.length c) xs.reverse ∧ W.grownBy W' (Value.slice A xs.length c).ownBlock := by
  obtain ⟨h0, rows, hlr, ⟨h1, inner, hown, hreps⟩, hf⟩ := h
  replace hreps : Reps Rev91.RR 3 rows inner := hreps
  rcases hown.2 with ⟨he, hn⟩ | ⟨g, cap, cur, he, hb, hh, hnc, hcap, hcur, htake⟩
  · injection he with hA hlen hc
    subst hA hc
    have hx : xs = [] := List.eq_nil_of_length_eq_zero hlen
    subst hx
    obtain rfl : rows = [] := List.eq_nil_of_length_eq_zero hn
    refine (AnyQ.slices_Reverse_empty Try.reverse91 none 0 W).mono ?_
    rintro e w' ⟨rfl, rfl⟩
    exact ⟨rfl, ⟨h0, [], rfl, ⟨h1, inner, hown, hreps⟩, hf⟩, World.grownBy.refl _ _⟩
  · injection he with hA hlen hc
    subst hA hc
    obtain ⟨d, hd⟩ := Rev91.lifted rows (fun r hr => by
      obtain ⟨j, hj⟩ := List.getElem?_of_mem hr
      obtain ⟨e, h2⟩ := hreps.2 j r hj
      rw [e] at h2
      exact h2)
    subst hd
    have hdl : d.length = xs.length := by rw [← hlr]; simp
    have hin := Rev91.inner_eq d inner hreps
    have hlen3 : (d.map Rev91.enc).length = d.length := by simp
    rw [hlen3] at hnc htake
    replace htake : cur.toList.take (d.length * 3) = inner := htake
    replace hcur : cur.size = c * 3 := hcur
    have hH : HoldsK Rev91.enc 3 W g 0 d.toArray := by
      intro j hj
      have hj' : j < d.length * 3 := by simpa using hj
      refine ⟨?_, blk_frozen hh _⟩
      have h3 : W.cell? ⟨g, 0 + j, none⟩ = cur[j]? := by rw [Nat.zero_add]; exact blk_cell hh j
      rw [h3]
      show cur[j]? = some (flatK Rev91.enc 3 d.toArray)[j]!
      rw [getElem!_pos (flatK Rev91.enc 3 d.toArray) j hj]
      have h2 : (cur.toList.take (d.length * 3))[j]? = (flatK Rev91.enc 3 d.toArray).toList[j]? := by rw [htake, hin]
      rw [List.getElem?_take, if_pos hj', Array.getElem?_toList, Array.getElem?_toList, Array.getElem?_eq_getElem hj] at h2
      exact h2
    have hcon := AnyQ.slices_Reverse Try.reverse91 3 Try.isAgg58 Try.sizeOf58 Rev91.enc Rev91.enc_len Rev91.enc_one g 0 c d.toArray W hH (by simpa using (by omega : d.length ≤ 9223372036854775807))
    have hsz : d.toArray.size = xs.length := by simpa using hdl
    rw [hsz] at hcon
    refine hcon.mono ?_
    rintro e w' ⟨rfl, n, rfl⟩
    have hrev : d.toArray.reverse = d.reverse.toArray := by simp
    rw [hrev]
    have hg := Rev91.grown W g n d.reverse.toArray
    have hoa := Rev91.own_after W base g n c cur d.reverse hh hb (by simpa using hnc) hcap hcur
    have hrl : d.reverse.length = xs.length := by simpa using hdl
    rw [hrl] at hoa
    refine ⟨rfl, ⟨h0, d.reverse.map Rev91.enc, by simp [hdl], ⟨h1, _, ?_, Rev91.reps_flat d.reverse⟩, fun j x cs hx hc => ?_⟩, hg⟩
    · rw [show (d.reverse.map Rev91.enc).length = xs.length by simp [hdl]]; exact hoa
    · obtain ⟨hjl, hje⟩ := List.getElem?_eq_some_iff.1 hx
      obtain ⟨hjl2, hje2⟩ := List.getElem?_eq_some_iff.1 hc
      have hjx : j < xs.length := by simpa using hjl
      have e1 : xs[xs.length - 1 - j]? = some x := by rw [← hje, List.getElem_reverse, List.getElem?_eq_getElem]
      have e2 : (d.map Rev91.enc)[xs.length - 1 - j]? = some cs := by
        rw [← hje2, List.getElem_map, List.getElem_reverse, List.getElem?_map, List.getElem?_eq_getElem (by omega)]
        simp [hdl]
      exact Kd.FK_step (hf _ x cs e1 e2) (fun k hk hlt => hg.block k hlt hk.2)
end Go.Proofs.Ytcjhhdecckcibaa.G

namespace Go.Proofs.Ytcjhhdecckcibaa.G
open Go.RowKit Go.Proofs.YtcjhhdecckcibaaW.PrintWords Go.Proofs.YtcjhhdecckcibaaW.PrintLast Go.Proofs.YtcjhhdecckcibaaW.PrintMore
attribute [local go_sem] max2_int min2_int max_two min_two max_three min_three max_four min_four   -- for this text's walks alone
set_option linter.unusedVariables false
set_option linter.unusedSimpArgs false

theorem Kd.V_away79 {α : Type} {d : Kd α} {e : Nat} {W : World} {base : Nat} {ok : Nat → Prop} {v : Value} {xs : List α} {g : Nat} (h : Kd.V d e W base ok v xs) (hok : ∀ k, ok k → k ≠ g) (h0 : decide (0 < xs.length) = true := by assumption) (hs : 0 < d.sz := by decide) : some g ≠ v.ownBlock := by
 obtain ⟨A, c, rfl, hl, hf⟩ := h
 have hp : 0 < xs.length := of_decide_eq_true h0
 intro hg
 have hC := Kd.F_now hf
 obtain ⟨a, rfl, hcell⟩ := hC.2.2 hp
 have hga : g = a.block := by simpa [Value.ownBlock] using hg
 -- a world in which that block holds nothing
 have key : ∀ (W' : World), d.C W' (some a) xs.length xs → ∃ (n : Nat) (u : Value), W'.cell? (a.add n) = some u := by
  intro W' hC'
  obtain ⟨a', ha', hcell'⟩ := hC'.2.2 hp
  injection ha' with ha'
  subst ha'
  obtain ⟨c0, hc0, _, hcc⟩ := hcell' 0 (xs[0]) (by simp [hp])
  exact ⟨0 * d.sz + 0, c0[0]'(by omega), hcc 0 _ (by simp)⟩
 obtain ⟨n0, u0, hu0⟩ := key W hC
 have hlt : a.block < W.heap.size := by
  have := World.block_lt_of_cell? W _ hu0
  rwa [add_block] at this
 let W' : World := { W with heap := W.heap.setIfInBounds a.block (.pending #[] 0) }
 have hC' : d.C W' (some a) xs.length xs := hf W' (fun k hk _ => by
  have : k ≠ a.block := hga ▸ hok k hk
  show (W.heap.setIfInBounds a.block (.pending #[] 0))[k]? = _
  rw [Array.getElem?_setIfInBounds_ne (Ne.symm this)])
 obtain ⟨n1, u1, hu1⟩ := key W' hC'
 unfold World.cell? at hu1
 rw [add_block] at hu1
 have e : W'.heap[a.block]? = some (.pending #[] 0) := by
  show (W.heap.setIfInBounds a.block (.pending #[] 0))[a.block]? = _
  simp [hlt]
 rw [e] at hu1
 simp at hu1
theorem Kd.V_block {α : Type} {d : Kd α} {e n c : Nat} {W : World} {base : Nat} {ok : Nat → Prop} {ad : Addr} {xs : List α} (h : Kd.V d e W base ok (.slice (some ad) n c) xs) (h0 : decide (0 < xs.length) = true := by assumption) (hs : 0 < d.sz := by decide) : ok ad.block :=
 Classical.byContradiction fun hn => Kd.V_away79 (g := ad.block) h (fun k hk e => hn (e ▸ hk)) h0 hs rfl
theorem Kd.V_lt {α : Type} {d : Kd α} {e n c : Nat} {W : World} {base : Nat} {ok : Nat → Prop} {ad : Addr} {xs : List α} (h : Kd.V d e W base ok (.slice (some ad) n c) xs) (h0 : decide (0 < xs.length) = true := by assumption) (hs : 0 < d.sz := by decide) : ad.block < W.heap.size := by
 obtain ⟨a, ha, hcell⟩ := (Kd.V_reads' h).2.2.2.2 (of_decide_eq_true h0)
 injection ha with ha
 subst ha
 obtain ⟨c0, hc0, _, hcc⟩ := hcell 0 (xs[0]'(of_decide_eq_true h0)) (by simp [of_decide_eq_true h0])
 have hu := hcc 0 (c0[0]'(by omega)) (by simp)
 have := World.block_lt_of_cell? W _ hu
 rwa [add_block] at this
mutual
def impl_comb_redex.l0 : Nat → List (S58) → Int → Int → List (S58) → Option (Int × Int × (List (S58)) × Bool)
 | 0, _, _, _, _ => none
 | k + 1, x4, x107000, x107001, x107002 => if x107000 = 2 then (if 1 < (x107002.length : Int) then (if x4.length < 3518437208883 then (if 0 < (x107002.length : Int) then (impl_comb_redex.l0 k (x4 ++ [(⟨(rd_T58 x107002 1).f0, (rd_T58 x107002 1).f1, (rd_T58 x107002 1).f2⟩ : S58)]) ((rd_T58 x107002 0).f0) ((rd_T58 x107002 0).f1) ((rd_T58 x107002 0).f2)) else (none)) else (none)) else (none)) else ((impl_comb_91.f x4).bind fun t112 => (if x107000 = 5 then (impl_comb_redex.j1 k t112 ((t112.length : Int) == 1) x107000 x107001 x107002) else (impl_comb_redex.j1 k t112 false x107000 x107001 x107002)))
def impl_comb_redex.j1 : Nat → List (S58) → Bool → Int → Int → List (S58) → Option (Int × Int × (List (S58)) × Bool)
 | 0, _, _, _, _, _ => none
 | k + 1, x23, x24, x107000, x107001, x107002 => if x24 = true then (if 0 < (x23.length : Int) then (some ((rd_T58 x23 0).f0, (rd_T58 x23 0).f1, (rd_T58 x23 0).f2, true)) else (none)) else (if x107000 = 4 then (impl_comb_redex.j2 k x23 ((x23.length : Int) == 2) x107000 x107001 x107002) else (impl_comb_redex.j2 k x23 false x107000 x107001 x107002))
def impl_comb_redex.j2 : Nat → List (S58) → Bool → Int → Int → List (S58) → Option (Int × Int × (List (S58)) × Bool)
 | 0, _, _, _, _, _ => none
 | k + 1, x23, x36, x107000, x107001, x107002 => if x36 = true then (if 0 < (x23.length : Int) then (some ((rd_T58 x23 0).f0, (rd_T58 x23 0).f1, (rd_T58 x23 0).f2, true)) else (none)) else (if x107000 = 3 then (impl_comb_redex.j3 k x23 ((x23.length : Int) == 3)) else (impl_comb_redex.j3 k x23 false))
def impl_comb_redex.j3 : Nat → List (S58) → Bool → Option (Int × Int × (List (S58)) × Bool)
 | 0, _, _ => none
 | k + 1, x23, x48 => if x48 = true then (if 0 < (x23.length : Int) then (if 2 < (x23.length : Int) then ((impl_combApp.f ((rd_T58 x23 0).f0) ((rd_T58 x23 0).f1) ((rd_T58 x23 0).f2) ((rd_T58 x23 2).f0) ((rd_T58 x23 2).f1) ((rd_T58 x23 2).f2)).bind fun bt119 => (if 1 < (x23.length : Int) then ((impl_combApp.f ((rd_T58 x23 1).f0) ((rd_T58 x23 1).f1) ((rd_T58 x23 1).f2) ((rd_T58 x23 2).f0) ((rd_T58 x23 2).f1) ((rd_T58 x23 2).f2)).bind fun bt126 => ((impl_combApp.f bt119.1 bt119.2.1 bt119.2.2 bt126.1 bt126.2.1 bt126.2.2).bind fun bt131 => (some (bt131.1, bt131.2.1, bt131.2.2, true)))) else (none))) else (none)) else (none)) else (some (0, 0, ([] : List (S58)), false))
end
def impl_comb_redex.f (k : Nat) (a0_0 : Int) (a0_1 : Int) (l0_2 : List (S58)) : Option (Int × Int × (List (S58)) × Bool) := impl_comb_redex.l0 k (([] : List (S58))) a0_0 a0_1 l0_2
def impl_comb_redex.T3 : Bool × List (List Nat × List Nat) := (true, [([], []), ([], []), ([1], [1]), ([2], [2]), ([3], [3]), ([4], [4]), ([0, 5], [0, 5]), ([], []), ([7], [7]), ([8], [8]), ([9], [9]), ([6, 6, 0, 1, 2, 3, 4, 5, 6], [0, 6]), ([10, 11, 0, 1, 2, 3, 4, 5, 6, 7, 8, 9, 10, 11], [10])])
def impl_comb_redex.B3 : List Nat := [0, 0, 2, 6, 14, 30, 63, 0, 128, 384, 896, 127, 4095]
theorem impl_comb_redex.tab3 : rtab .any (opsOf Try.f79 3) = impl_comb_redex.T3 := by kernel_rfl
theorem impl_comb_redex.bits3 : waitsOk impl_comb_redex.T3.2 impl_comb_redex.B3 = true := by kernel_rfl
def impl_comb_redex.T10 : Bool × List (List Nat × List Nat) := (true, [([], []), ([0], [0]), ([1], [1]), ([], []), ([3], [3]), ([4], [4]), ([2, 5], [2, 5]), ([], []), ([7], [7]), ([8], [8]), ([], []), ([10], [10]), ([11], [11]), ([9, 12, 6], [9, 12]), ([6, 13, 13], [6, 13]), ([14, 14, 0, 1, 2, 3, 4, 5, 6, 7, 8, 9, 10, 11, 12, 13, 14], [14]), ([15, 0, 1, 2, 3, 4, 5, 6, 7, 8, 9, 10, 11, 12, 13, 14, 15], [])])
def impl_comb_redex.B10 : List Nat := [0, 1, 3, 0, 8, 24, 63, 0, 128, 384, 0, 1024, 3072, 8191, 16383, 32767, 65535]
theorem impl_comb_redex.tab10 : rtab .any (opsOf Try.f79 10) = impl_comb_redex.T10 := by kernel_rfl
theorem impl_comb_redex.bits10 : waitsOk impl_comb_redex.T10.2 impl_comb_redex.B10 = true := by kernel_rfl
set_option maxHeartbeats 8000000 in
set_option maxRecDepth 100000 in
theorem impl_comb_redex.calls (k : Nat) (a0_0 : Int) (a0_1 : Int) (P0_2_ : Nat → Prop) (A0_2 : Option Addr) (c0_2 : Nat) (l0_2 : List (S58)) (r1 : Int) (r2 : Int) (r3 : List (S58)) (r4 : Bool) (w : World) (hs0_2 : Kd.V k58 58 w w.heap.size (fun k_ => P0_2_ k_) (.slice A0_2 l0_2.length c0_2) l0_2) (h : impl_comb_redex.f k a0_0 a0_1 l0_2 = some (r1, r2, r3, r4)) :
  Calls Try.prog 79 #[.agg #[.int .i64 a0_0, .int .i64 a0_1, .slice A0_2 l0_2.length c0_2]] w fun e w' => ∃ v2_ : Value, e = .returned (.tuple #[.agg #[.int .i64 r1, .int .i64 r2, v2_], .bool r4]) ∧ Kd.V k58 58 w' w.heap.size (fun k_ => (P0_2_ k_ ∨ w.heap.size ≤ k_)) v2_ r3 ∧ Below w.heap.size w w' := by
 have hu58 := Try.underlying58
 have HO0_2 := aK (show Kd.V k58 58 w w.heap.size (fun k_ => (P0_2_ k_ ∨ w.heap.size ≤ k_)) (.slice A0_2 l0_2.length c0_2) l0_2 from Kd.V_mono hs0_2 (fun k_ hk => .inl hk))
 have HB := aK (Below.refl w.heap.size w)
 have H : (impl_comb_redex.l0 k (([] : List (S58))) a0_0 a0_1 l0_2) = some (r1, r2, r3, r4) := h
 clear h
 obtain ⟨y103, hy103⟩ : ∃ y_ : List (S58), y_ = (([] : List (S58))) := ⟨_, rfl⟩
 replace H : (impl_comb_redex.l0 k y103 a0_0 a0_1 l0_2) = some (r1, r2, r3, r4) := by first | (rw [hy103]; with_reducible exact H) | (have H2_ := (Option.bind_some _ _).symm.trans H; rw [hy103]; with_reducible exact H2_) | (have H2_ := (Option.bind_some _ _).symm.trans H; with_reducible exact H2_) | with_reducible exact H | (rw [hy103]; exact H) | exact H
 have Ny103 := aK hy103
 clear hy103
 have H' := aK H
 clear H
 go_enter Try.func79, Try.ntmps79
 try go_wp2_with (first | ((with_reducible refine gate_dst (N := 1) rfl ?_); (try (refine gate_guard (by rfl) ?_; dsimp only)); refine bE (N := 1) (cs := #[.int .i64 a0_0, .int .i64 a0_1, .slice A0_2 l0_2.length c0_2]) (t := 58) ?_; intro gb101 hg w2 hbox hb; have GW101 := qw HB hg; have GE101 := qw HB hg; replace HO0_2 := qv HO0_2 hg hb; have BK101 := aK hbox; replace HB := qs HB hb; clear hb hbox hg) | ((with_reducible refine gate_dst (N := 2) rfl ?_); (try (refine gate_guard (by rfl) ?_; dsimp only)); refine bE (N := 2) (cs := #[.int .i64 0, .int .i64 0, .slice none 0 0]) (t := 58) ?_; intro gb102 hg w3 hbox hb; have GW102 := qw HB hg; have GE102 := qw HB hg; have NB101_102 := ql BK101 hg; have NB102_101 := qg BK101 hg; replace HO0_2 := qv HO0_2 hg hb; replace BK101 := qb BK101 hb; have BK102 := aK hbox; replace HB := qs HB hb; clear hb hbox hg))
 have n0_ := aK (Kd.V_drew HO0_2.out)
 have n1_ := aK (blk_drew BK101.out)
 have n2_ := aK (blk_drew BK102.out)
 have n3_ := aK (below_drew1 HB.out)
 clear HO0_2
 clear BK101
 clear BK102
 clear HB
 have HO0_2 := n0_
 have BK101 := n1_
 have BK102 := n2_
 have HB := n3_
 clear n0_ n1_ n2_ n3_
 refine start_ (n := 5) (S := fun w' => w'.cell? ⟨gb101, 0, none⟩ = some (.int .i64 a0_0) ∧ w'.cell? ⟨gb101, 1, none⟩ = some (.int .i64 a0_1) ∧ w'.cell? ⟨gb101, 2, none⟩ = some (.slice A0_2 l0_2.length c0_2)) (ds := []) (bs 0 5) (by kernel_rfl) rfl rfl ⟨(blk_cell BK101.out 0).trans rfl, (blk_cell BK101.out 1).trans rfl, (blk_cell BK101.out 2).trans rfl⟩ (fun hHeld => ?_)
 generalize w3.drew = w4 at HO0_2 BK101 BK102 HB hHeld ⊢
 refine take_ (i := 1) (N := some 7) (v := ?_) (a' := ?_) #[false, true, false, false, false] rfl rfl (by kernel_rfl) (fun _ _ _ h => h) (Or.inl ⟨by rfl, ?_⟩) hHeld ?_ ?_
 rotate_left
 ·rintro w' ⟨s0, s1, s2⟩
  go_simp
  with_reducible rfl
 rotate_left
 ·simp only [sP, i64_w, i32_w]
  rfl
 refine join_ (σ := Value × Nat) 2 (bs 3 2) (fun s_ => [(6, s_.1), (5, .pointer (some ⟨s_.2, 0, none⟩))]) (fun s_ w' => (w'.cell? ⟨gb101, 0, none⟩ = some (.int .i64 a0_0) ∧ w'.cell? ⟨gb101, 1, none⟩ = some (.int .i64 a0_1) ∧ w'.cell? ⟨gb101, 2, none⟩ = some (.slice A0_2 l0_2.length c0_2)) ∧ (Kd.V k58 58 w' w.heap.size (fun k_ => (P0_2_ k_ ∨ w.heap.size ≤ k_) ∧ some k_ ≠ (s_.1 : Value).ownBlock ∧ k_ ≠ gb101 ∧ k_ ≠ gb102 ∧ k_ ≠ s_.2) (.slice A0_2 l0_2.length c0_2) l0_2) ∧ (Kd.N k58 58 w' w.heap.size (fun k_ => (P0_2_ k_ ∨ w.heap.size ≤ k_) ∧ k_ ≠ gb101 ∧ k_ ≠ gb102 ∧ k_ ≠ s_.2) s_.1 y103) ∧ (w'.heap[gb101]? = some (.cells #[.int .i64 a0_0, .int .i64 a0_1, .slice A0_2 l0_2.length c0_2] 58 (0, 0))) ∧ (w'.heap[gb102]? = some (.cells #[.int .i64 0, .int .i64 0, .slice none 0 0] 58 (0, 0))) ∧ (w'.heap[s_.2]? = some (.cells #[.int .i64 0, .int .i64 0, .slice none 0 0] 58 (0, 0))) ∧ (w.heap.size ≤ s_.2) ∧ (w.heap.size ≤ s_.2) ∧ (gb101 ≠ s_.2) ∧ (s_.2 ≠ gb101) ∧ (gb102 ≠ s_.2) ∧ (s_.2 ≠ gb102) ∧ (Below w.heap.size w w')) ?_ ?_
 rotate_left
 ·intro hCont
  refine two_ (i := 0) (j := 2) (Ni := some 6) (Nj := some 5) (bs 2 3) #[false, true, true, false, false] rfl rfl rfl rfl (by kernel_rfl) (by decide) (by decide) (fun K hK => ?_) (fun K hK => ?_)
  ·skip
   refine Kd.N_lit_step k58 _ 58 ?hg (N' := 6) ?hd (xs := ([] : List (S58))) (inner := []) (ok := (fun k_ => (P0_2_ k_ ∨ w.heap.size ≤ k_) ∧ k_ ≠ gb101 ∧ k_ ≠ gb102)) (okp := (fun k_ => (P0_2_ k_ ∨ w.heap.size ≤ k_) ∧ k_ ≠ gb101 ∧ k_ ≠ gb102)) ?hr ?hp (fun _ hk => hk) ((show ∀ k_, w4.heap.size ≤ k_ → (fun k_ => (P0_2_ k_ ∨ w.heap.size ≤ k_) ∧ k_ ≠ gb101 ∧ k_ ≠ gb102) k_ from fun k_ hk => ⟨(.inr (Nat.le_trans (below_size (pH HB)) hk)), Kd.freshB BK101.out k_ hk, Kd.freshB BK102.out k_ hk⟩) _ (Nat.le_refl _)) (Below.refl _ _) (Nat.le_refl _) (by simp) ?_; (case hd => rfl); (case hg => rfl); (case hr => go_simp); (case hp => exact (Reps.none _ _))
   intro v104 w5 ho6 hb hg_ hnew_
   clear hg_ hnew_
   (first | rw [← Ny103.out] at ho6 | (simp only [Int.reduceToNat] at ho6; rw [← Ny103.out] at ho6))
   have n0_ := aK (Kd.V_elder' HO0_2.out (Kd.N_base ho6) hb)
   have n1_ := aK (Kd.N_lower ho6 (below_size (pH HB)))
   have n2_ := aK (blk_below BK101.out hb)
   have n3_ := aK (blk_below BK102.out hb)
   have n4_ := aK (below_step (pH HB) hb)
   clear HO0_2
   clear BK101
   clear BK102
   clear HB
   have HO0_2 := n0_
   have HO105 := n1_
   have BK101 := n2_
   have BK102 := n3_
   have HB := n4_
   clear n0_ n1_ n2_ n3_ n4_
   clear hb ho6
   refine hK.out _ _ ⟨(blk_cell BK101.out 0).trans rfl, (blk_cell BK101.out 1).trans rfl, (blk_cell BK101.out 2).trans rfl⟩ (fun hHeld => ?_)
   clear hK K
   refine norm_ (a' := ?_) ?_ ?_
   rotate_left
   ·show Act.put _ (some 6) _ = _
    simp only [sP, i64_w, i32_w]
    rfl
   refine one_ (i := 2) (N := some 5) (bs 3 2) rfl rfl (by kernel_rfl) (by decide) (fun K hK => ?_)
   refine box_step ?hg (N := 5) ?hd (cs := #[.int .i64 0, .int .i64 0, .slice none 0 0]) (t := 58) ?hr ?_; (case hd => rfl); (case hg => rfl); (case hr => go_simp)
   intro gb106 hg w7 hbox hb
   have n0_ := aK (Kd.V_below (Kd.V_elderB HO0_2.out gb106 (Nat.le_of_eq hg.symm)) hb)
   have n1_ := aK (Kd.N_below (Kd.N_elderB HO105.out gb106 (Nat.le_of_eq hg.symm)) hb)
   have n2_ := aK (blk_below BK101.out hb)
   have n3_ := aK (blk_below BK102.out hb)
   have n4_ := aK (below_step (pH HB) hb)
   have n5_ := aK (hbox)
   have n6_ := aK ((by rw [hg]; exact (below_size (pH HB)) : w.heap.size ≤ gb106))
   have n7_ := aK ((by rw [hg]; exact (below_size (pH HB)) : w.heap.size ≤ gb106))
   have n8_ := aK ((by rw [hg]; exact Nat.ne_of_lt (blk_lt BK101.out) : gb101 ≠ gb106))
   have n9_ := aK ((by rw [hg]; exact Nat.ne_of_gt (blk_lt BK101.out) : gb106 ≠ gb101))
   have n10_ := aK ((by rw [hg]; exact Nat.ne_of_lt (blk_lt BK102.out) : gb102 ≠ gb106))
   have n11_ := aK ((by rw [hg]; exact Nat.ne_of_gt (blk_lt BK102.out) : gb106 ≠ gb102))
   clear HO0_2
   clear HO105
   clear BK101
   clear BK102
   clear HB
   have HO0_2 := n0_
   have HO105 := n1_
   have BK101 := n2_
   have BK102 := n3_
   have HB := n4_
   have BK106 := n5_
   have GW106 := n6_
   have GE106 := n7_
   have NB101_106 := n8_
   have NB106_101 := n9_
   have NB102_106 := n10_
   have NB106_102 := n11_
   clear n0_ n1_ n2_ n3_ n4_ n5_ n6_ n7_ n8_ n9_ n10_ n11_
   clear hb hbox hg
   refine hK.out _ _ ⟨(blk_cell BK101.out 0).trans rfl, (blk_cell BK101.out 1).trans rfl, (blk_cell BK101.out 2).trans rfl⟩ (fun hHeld => ?_)
   clear hK K
   refine norm_ (a' := ?_) ?_ ?_
   rotate_left
   ·show Act.put _ (some 5) _ = _
    simp only [sP, i64_w, i32_w]
    rfl
   exact norm_ (by simp only [putAll, Act.put, List.setIfInBounds_toArray, List.set_cons_zero, List.set_cons_succ]) (hCont (v104, gb106) _ ⟨hHeld, (by (with_reducible repeat (first | apply Kd.V_alloc | apply Kd.V_drewN | apply Kd.V_drew)); exact Kd.V_mono HO0_2.out (fun _ hk => ⟨hk.1.1.1.1, ⟨hk.1.2, ⟨hk.1.1.1.2, ⟨hk.1.1.2, hk.2⟩⟩⟩⟩)), (by (with_reducible repeat (first | apply Kd.N_alloc | apply Kd.N_drewN | apply Kd.N_drew)); exact Kd.N_mono HO105.out (fun _ hk => ⟨hk.1.1, ⟨hk.1.2.1, ⟨hk.1.2.2, hk.2⟩⟩⟩)), BK101.out, BK102.out, BK106.out, GW106.out, GE106.out, NB101_106.out, NB106_101.out, NB102_106.out, NB106_102.out, (pH HB)⟩)
  ·skip
   refine box_step ?hg (N := 5) ?hd (cs := #[.int .i64 0, .int .i64 0, .slice none 0 0]) (t := 58) ?hr ?_; (case hd => rfl); (case hg => rfl); (case hr => go_simp)
   intro gb106 hg w5 hbox hb
   have n0_ := aK (Kd.V_below (Kd.V_elderB HO0_2.out gb106 (Nat.le_of_eq hg.symm)) hb)
   have n1_ := aK (blk_below BK101.out hb)
   have n2_ := aK (blk_below BK102.out hb)
   have n3_ := aK (below_step (pH HB) hb)
   have n4_ := aK (hbox)
   have n5_ := aK ((by rw [hg]; exact (below_size (pH HB)) : w.heap.size ≤ gb106))
   have n6_ := aK ((by rw [hg]; exact (below_size (pH HB)) : w.heap.size ≤ gb106))
   have n7_ := aK ((by rw [hg]; exact Nat.ne_of_lt (blk_lt BK101.out) : gb101 ≠ gb106))
   have n8_ := aK ((by rw [hg]; exact Nat.ne_of_gt (blk_lt BK101.out) : gb106 ≠ gb101))
   have n9_ := aK ((by rw [hg]; exact Nat.ne_of_lt (blk_lt BK102.out) : gb102 ≠ gb106))
   have n10_ := aK ((by rw [hg]; exact Nat.ne_of_gt (blk_lt BK102.out) : gb106 ≠ gb102))
   clear HO0_2
   clear BK101
   clear BK102
   clear HB
   have HO0_2 := n0_
   have BK101 := n1_
   have BK102 := n2_
   have HB := n3_
   have BK106 := n4_
   have GW106 := n5_
   have GE106 := n6_
   have NB101_106 := n7_
   have NB106_101 := n8_
   have NB102_106 := n9_
   have NB106_102 := n10_
   clear n0_ n1_ n2_ n3_ n4_ n5_ n6_ n7_ n8_ n9_ n10_
   clear hb hbox hg
   refine hK.out _ _ ⟨(blk_cell BK101.out 0).trans rfl, (blk_cell BK101.out 1).trans rfl, (blk_cell BK101.out 2).trans rfl⟩ (fun hHeld => ?_)
   clear hK K
   refine norm_ (a' := ?_) ?_ ?_
   rotate_left
   ·show Act.put _ (some 5) _ = _
    simp only [sP, i64_w, i32_w]
    rfl
   refine one_ (i := 0) (N := some 6) (bs 3 2) rfl rfl (by kernel_rfl) (by decide) (fun K hK => ?_)
   refine Kd.N_lit_step k58 _ 58 ?hg (N' := 6) ?hd (xs := ([] : List (S58))) (inner := []) (ok := (fun k_ => (P0_2_ k_ ∨ w.heap.size ≤ k_) ∧ k_ ≠ gb101 ∧ k_ ≠ gb102 ∧ k_ ≠ gb106)) (okp := (fun k_ => (P0_2_ k_ ∨ w.heap.size ≤ k_) ∧ k_ ≠ gb101 ∧ k_ ≠ gb102 ∧ k_ ≠ gb106)) ?hr ?hp (fun _ hk => hk) ((show ∀ k_, w5.heap.size ≤ k_ → (fun k_ => (P0_2_ k_ ∨ w.heap.size ≤ k_) ∧ k_ ≠ gb101 ∧ k_ ≠ gb102 ∧ k_ ≠ gb106) k_ from fun k_ hk => ⟨(.inr (Nat.le_trans (below_size (pH HB)) hk)), Kd.freshB BK101.out k_ hk, Kd.freshB BK102.out k_ hk, Kd.freshB BK106.out k_ hk⟩) _ (Nat.le_refl _)) (Below.refl _ _) (Nat.le_refl _) (by simp) ?_; (case hd => rfl); (case hg => rfl); (case hr => go_simp); (case hp => exact (Reps.none _ _))
   intro v104 w6 ho7 hb hg_ hnew_
   clear hg_ hnew_
   (first | rw [← Ny103.out] at ho7 | (simp only [Int.reduceToNat] at ho7; rw [← Ny103.out] at ho7))
   have n0_ := aK (Kd.V_elder' HO0_2.out (Kd.N_base ho7) hb)
   have n1_ := aK (Kd.N_lower ho7 (below_size (pH HB)))
   have n2_ := aK (blk_below BK101.out hb)
   have n3_ := aK (blk_below BK102.out hb)
   have n4_ := aK (blk_below BK106.out hb)
   have n5_ := aK (below_step (pH HB) hb)
   clear HO0_2
   clear BK101
   clear BK102
   clear BK106
   clear HB
   have HO0_2 := n0_
   have HO105 := n1_
   have BK101 := n2_
   have BK102 := n3_
   have BK106 := n4_
   have HB := n5_
   clear n0_ n1_ n2_ n3_ n4_ n5_
   clear hb ho7
   refine hK.out _ _ ⟨(blk_cell BK101.out 0).trans rfl, (blk_cell BK101.out 1).trans rfl, (blk_cell BK101.out 2).trans rfl⟩ (fun hHeld => ?_)
   clear hK K
   refine norm_ (a' := ?_) ?_ ?_
   rotate_left
   ·show Act.put _ (some 6) _ = _
    simp only [sP, i64_w, i32_w]
    rfl
   exact norm_ (by simp only [putAll, Act.put, List.setIfInBounds_toArray, List.set_cons_zero, List.set_cons_succ]) (hCont (v104, gb106) _ ⟨hHeld, (by (with_reducible repeat (first | apply Kd.V_alloc | apply Kd.V_drewN | apply Kd.V_drew)); exact Kd.V_mono HO0_2.out (fun _ hk => ⟨hk.1.1.1.1, ⟨hk.2, ⟨hk.1.1.1.2, ⟨hk.1.1.2, hk.1.2⟩⟩⟩⟩)), HO105.out, BK101.out, BK102.out, BK106.out, GW106.out, GE106.out, NB101_106.out, NB106_101.out, NB102_106.out, NB106_102.out, (pH HB)⟩)
 rintro ⟨v104, gb106⟩ w8 ⟨hS_, h0_, h1_, h2_, h3_, h4_, h5_, h6_, h7_, h8_, h9_, h10_, h11_⟩
 have n0_ : Aside0 (Kd.V k58 58 w8 w.heap.size (fun k_ => (P0_2_ k_ ∨ w.heap.size ≤ k_) ∧ some k_ ≠ (v104 : Value).ownBlock ∧ k_ ≠ gb101 ∧ k_ ≠ gb102 ∧ k_ ≠ gb106) (.slice A0_2 l0_2.length c0_2) l0_2) := ⟨h0_⟩
 have n1_ : Aside0 (Kd.N k58 58 w8 w.heap.size (fun k_ => (P0_2_ k_ ∨ w.heap.size ≤ k_) ∧ k_ ≠ gb101 ∧ k_ ≠ gb102 ∧ k_ ≠ gb106) v104 y103) := ⟨h1_⟩
 have n2_ : Aside0 (w8.heap[gb101]? = some (.cells #[.int .i64 a0_0, .int .i64 a0_1, .slice A0_2 l0_2.length c0_2] 58 (0, 0))) := ⟨h2_⟩
 have n3_ : Aside0 (w8.heap[gb102]? = some (.cells #[.int .i64 0, .int .i64 0, .slice none 0 0] 58 (0, 0))) := ⟨h3_⟩
 have n4_ : Aside0 (w8.heap[gb106]? = some (.cells #[.int .i64 0, .int .i64 0, .slice none 0 0] 58 (0, 0))) := ⟨h4_⟩
 have n5_ : Aside0 (w.heap.size ≤ gb106) := ⟨h5_⟩
 have n6_ : Aside0 (w.heap.size ≤ gb106) := ⟨h6_⟩
 have n7_ : Aside0 (gb101 ≠ gb106) := ⟨h7_⟩
 have n8_ : Aside0 (gb106 ≠ gb101) := ⟨h8_⟩
 have n9_ : Aside0 (gb102 ≠ gb106) := ⟨h9_⟩
 have n10_ : Aside0 (gb106 ≠ gb102) := ⟨h10_⟩
 have n11_ : Aside0 (Below w.heap.size w w8) := ⟨h11_⟩
 clear HO0_2
 clear BK101
 clear BK102
 clear HB
 clear h0_ h1_ h2_ h3_ h4_ h5_ h6_ h7_ h8_ h9_ h10_ h11_
 have HO0_2 := n0_
 have HO105 := n1_
 have BK101 := n2_
 have BK102 := n3_
 have BK106 := n4_
 have GW106 := n5_
 have GE106 := n6_
 have NB101_106 := n7_
 have NB106_101 := n8_
 have NB102_106 := n9_
 have NB106_102 := n10_
 have HB := n11_
 clear n0_ n1_ n2_ n3_ n4_ n5_ n6_ n7_ n8_ n9_ n10_ n11_
 have hHeld : w8.cell? ⟨gb101, 0, none⟩ = some (.int .i64 a0_0) ∧ w8.cell? ⟨gb101, 1, none⟩ = some (.int .i64 a0_1) ∧ w8.cell? ⟨gb101, 2, none⟩ = some (.slice A0_2 l0_2.length c0_2) := hS_
 refine norm_ (a' := ?_) ?_ ?_
 rotate_left
 ·simp only [putAll, Act.put, List.setIfInBounds_toArray, List.set_cons_zero, List.set_cons_succ]
  rfl
 refine pure_ (i := 3) (N := some 4) (v := ?_) (a' := ?_) (bs 4 1) rfl rfl (by kernel_rfl) (fun _ _ _ h => h) (Or.inl ⟨by rfl, ?_⟩) ?_ ?_
 rotate_left
 ·intro w'
  go_simp
  with_reducible rfl
 rotate_left
 ·simp only [sP, i64_w, i32_w]
  rfl
 refine one_ (i := 4) (N := none) (bs 5 0) rfl rfl (by kernel_rfl) (by decide) (fun K hK => ?_)
 have hs9 : w8.cell? ⟨gb106, 0, none⟩ = some (.int .i64 0) := (blk_cell BK106.out 0).trans rfl
 have hfs9 := blk_frozen BK106.out 0
 have hns9_0 := NB101_106.out
 have hns9_1 := NB102_106.out
 have hms9_0 := NB106_101.out
 have hms9_1 := NB106_102.out
 have hs10 : w8.cell? ⟨gb106, 1, none⟩ = some (.int .i64 0) := (blk_cell BK106.out 1).trans rfl
 have hfs10 := blk_frozen BK106.out 1
 have hns10_0 := NB101_106.out
 have hns10_1 := NB102_106.out
 have hms10_0 := NB106_101.out
 have hms10_1 := NB106_102.out
 have hs11 : w8.cell? ⟨gb106, 2, none⟩ = some (.slice none 0 0) := (blk_cell BK106.out 2).trans rfl
 have hfs11 := blk_frozen BK106.out 2
 have hns11_0 := NB101_106.out
 have hns11_1 := NB102_106.out
 have hms11_0 := NB106_101.out
 have hms11_1 := NB106_102.out
 refine skip_ (w1 := ?_) (by rfl) rfl ?_ ?_
 rotate_left
 ·go_simp
  rfl
 refine hK.out _ _ ⟨((cell_far (p := ⟨gb106, _, none⟩) NB101_106.out _).trans (((cell_far (p := ⟨gb106, _, none⟩) NB101_106.out _).trans (((cell_far (p := ⟨gb106, _, none⟩) NB101_106.out _).trans (hHeld.1)))))), ((cell_far (p := ⟨gb106, _, none⟩) NB101_106.out _).trans (((cell_far (p := ⟨gb106, _, none⟩) NB101_106.out _).trans (((cell_far (p := ⟨gb106, _, none⟩) NB101_106.out _).trans (hHeld.2.1)))))), ((cell_far (p := ⟨gb106, _, none⟩) NB101_106.out _).trans (((cell_far (p := ⟨gb106, _, none⟩) NB101_106.out _).trans (((cell_far (p := ⟨gb106, _, none⟩) NB101_106.out _).trans (hHeld.2.2))))))⟩ (fun hHeld => ?_)
 clear hK K
 refine done_ (by kernel_rfl) ?_
 try go_wp2
 go_loopg [4] k (fun kq v4 w' => ∃ (x4_1 : List (S58)) (x107000_1 : Int) (x107001_1 : Int) (x107002_1 : List (S58)) (u107002 : Value), Aside0 (impl_comb_redex.l0 kq x4_1 x107000_1 x107001_1 x107002_1 = some (r1, r2, r3, r4)) ∧ Aside0 (kq ≤ k) ∧ Aside0 (Kd.N k58 58 w' w.heap.size (fun k_ => (P0_2_ k_ ∨ w.heap.size ≤ k_) ∧ k_ ≠ gb101 ∧ k_ ≠ gb102 ∧ k_ ≠ gb106) v4 x4_1) ∧ Aside0 (Kd.V k58 58 w' w.heap.size (fun k_ => (P0_2_ k_ ∨ w.heap.size ≤ k_) ∧ some k_ ≠ (v4 : Value).ownBlock ∧ k_ ≠ gb101 ∧ k_ ≠ gb102 ∧ k_ ≠ gb106) (.slice A0_2 l0_2.length c0_2) l0_2) ∧ Aside0 (Kd.V k58 58 w' w.heap.size (fun k_ => (P0_2_ k_ ∨ w.heap.size ≤ k_) ∧ some k_ ≠ (v4 : Value).ownBlock ∧ k_ ≠ gb101 ∧ k_ ≠ gb102 ∧ k_ ≠ gb106) u107002 x107002_1) ∧ Aside0 (w'.heap[gb101]? = some (.cells #[.int .i64 a0_0, .int .i64 a0_1, (.slice A0_2 l0_2.length c0_2)] 58 (0, 0))) ∧ Aside0 (w'.heap[gb102]? = some (.cells #[.int .i64 0, .int .i64 0, (.slice none 0 0)] 58 (0, 0))) ∧ Aside0 (w'.heap[gb106]? = some (.cells #[.int .i64 x107000_1, .int .i64 x107001_1, u107002] 58 (0, 0))) ∧ Aside0 (Below w.heap.size w w'))
 case atStart => exact ⟨(y103), (a0_0), (a0_1), (l0_2), (.slice A0_2 l0_2.length c0_2), H', ⟨Nat.le_refl _⟩, ⟨by (with_reducible repeat (first | apply Kd.N_alloc | apply Kd.N_drewN | apply Kd.N_drew)); exact Kd.N_mono (nF3 gb106 (Kd.N_mono HO105.out (fun k_ hk => (⟨hk, hk.2.2.2⟩ : _ ∧ k_ ≠ gb106))) (fun _ hk => hk.2)) (fun _ hk => ⟨hk.1.1, ⟨hk.1.2.1, ⟨hk.1.2.2.1, hk.1.2.2.2⟩⟩⟩)⟩, ⟨by (with_reducible repeat (first | apply Kd.V_alloc | apply Kd.V_drewN | apply Kd.V_drew)); exact Kd.V_mono (vF3 gb106 (Kd.V_mono HO0_2.out (fun k_ hk => (⟨hk, hk.2.2.2.2⟩ : _ ∧ k_ ≠ gb106))) (fun _ hk => hk.2)) (fun _ hk => ⟨hk.1.1, ⟨hk.1.2.1, ⟨hk.1.2.2.1, ⟨hk.1.2.2.2.1, hk.1.2.2.2.2⟩⟩⟩⟩)⟩, ⟨by (with_reducible repeat (first | apply Kd.V_alloc | apply Kd.V_drewN | apply Kd.V_drew)); exact Kd.V_mono (vF3 gb106 (Kd.V_mono HO0_2.out (fun k_ hk => (⟨hk, hk.2.2.2.2⟩ : _ ∧ k_ ≠ gb106))) (fun _ hk => hk.2)) (fun _ hk => ⟨hk.1.1, ⟨hk.1.2.1, ⟨hk.1.2.2.1, ⟨hk.1.2.2.2.1, hk.1.2.2.2.2⟩⟩⟩⟩)⟩, ⟨by (repeat first | with_reducible apply zN | with_reducible apply zD | with_reducible apply zA | refine blk_far ?_ NB101_106.out _); exact BK101.out⟩, ⟨by (repeat first | with_reducible apply zN | with_reducible apply zD | with_reducible apply zA | refine blk_far ?_ NB102_106.out _); exact BK102.out⟩, ⟨p3 BK106⟩, ⟨pH HB⟩⟩
 case round =>
  clear H'
  try clear p2
  try clear c7
  obtain ⟨x4_1, x107000_1, x107001_1, x107002_1, u107002, HA, HK1, HO_4, HO_102002, HO_107002, BK101, BK102, BK106, HB⟩ := hrel
  cases gk with
  | zero => exact absurd HA.out (by simp [impl_comb_redex.l0])
  | succ k1 =>
   have H := HA.out
   clear HA
   simp only [impl_comb_redex.l0] at H
   by_cases c12 : x107000_1 = 2
   ·rw [if_pos c12] at H
    have c12b0 : (x107000_1 == 2) = true := beq_iff_eq.mpr c12
    have c12b1 : (x107000_1 != 2) = false := bne_eq_false_iff_eq.mpr c12
    clear c12
    by_cases c13 : 1 < (x107002_1.length : Int)
    ·rw [if_pos c13] at H
     have c13b0 : decide (1 < (x107002_1.length : Int)) = true := decide_eq_true c13
     have c13b1 : decide (1 < x107002_1.length) = true := decide_eq_true (by omega)
     clear c13
     by_cases c14 : x4_1.length < 3518437208883
     ·rw [if_pos c14] at H
      have LMc14 := aK c14
      clear c14
      obtain ⟨y108, hy108⟩ : ∃ y_ : List (S58), y_ = (x4_1 ++ [(⟨(rd_T58 x107002_1 1).f0, (rd_T58 x107002_1 1).f1, (rd_T58 x107002_1 1).f2⟩ : S58)]) := ⟨_, rfl⟩
      replace H : (if 0 < (x107002_1.length : Int) then (impl_comb_redex.l0 k1 y108 ((rd_T58 x107002_1 0).f0) ((rd_T58 x107002_1 0).f1) ((rd_T58 x107002_1 0).f2)) else (none)) = some (r1, r2, r3, r4) := by first | (rw [hy108]; with_reducible exact H) | (have H2_ := (Option.bind_some _ _).symm.trans H; rw [hy108]; with_reducible exact H2_) | (have H2_ := (Option.bind_some _ _).symm.trans H; with_reducible exact H2_) | with_reducible exact H | (rw [hy108]; exact H) | exact H
      have Ny108 := aK hy108
      clear hy108
      by_cases c15 : 0 < (x107002_1.length : Int)
      ·rw [if_pos c15] at H
       have c15b0 : decide (0 < (x107002_1.length : Int)) = true := decide_eq_true c15
       have c15b1 : decide (0 < x107002_1.length) = true := decide_eq_true (by omega)
       clear c15
       have H' := aK H
       clear H
       have hnb16 := NB106_101.out
       have hnc16 := NB101_106.out
       have hnb17 := NB106_102.out
       have hnc17 := NB102_106.out
       have hcz18_0 := k30 BK106
       have hcz18_1 := k31 BK106
       have hcz18_2 := k32 BK106
       have hfz18_0 := fz BK106 0
       have hfz18_1 := fz BK106 1
       have hfz18_2 := fz BK106 2
       try go_wp2
       have n0_ := aK (Kd.N_drew HO_4.out)
       have n1_ := aK (Kd.V_drew HO_102002.out)
       have n2_ := aK (Kd.V_drew HO_107002.out)
       have n3_ := aK (blk_drew BK101.out)
       have n4_ := aK (blk_drew BK102.out)
       have n5_ := aK (blk_drew BK106.out)
       have n6_ := aK (below_drew1 HB.out)
       clear HO_4
       clear HO_102002
       clear HO_107002
       clear BK101
       clear BK102
       clear BK106
       clear HB
       have HO_4 := n0_
       have HO_102002 := n1_
       have HO_107002 := n2_
       have BK101 := n3_
       have BK102 := n4_
       have BK106 := n5_
       have HB := n6_
       clear n0_ n1_ n2_ n3_ n4_ n5_ n6_
       obtain ⟨Ao20, co20, eo20⟩ := Kd.V_slice HO_107002.out
       (first | subst eo20 | (injection eo20 with f1_ f2_ f3_; have f4_ := f1_.symm; have f5_ := f3_.symm; clear f1_ f2_ f3_; subst f4_; subst f5_))
       have p107 : 0 ≤ (1 : Int) := (by omega)
       have q107 : 1 < (x107002_1.length : Int) := dA
       obtain ⟨ad107, A107_2, c107_2, e107, hx107_0, hx107_1, hx107_2, hl107_2, hi107_2⟩ := at_T58 (Kd.V_reads' HO_107002.out).2.2 1 p107 q107
       cases e107
       obtain ⟨ce107, hce107, hMe107, hcc107⟩ := Kd.V_get HO_107002.out z58 1 p107 (by first | exact q107 | exact dA | (have e_ := (Kd.V_reads' HO_107002.out).1; omega))
       obtain ⟨ua107_2, uc107_2, rfl, ul107_2, ge107_2⟩ := k58_openF hMe107
       have hv107_2 := hcc107 2 _ rfl
       rw [add_field _ _ 2 (by omega)] at hv107_2
       replace hv107_2 := Option.some.inj (hv107_2.symm.trans hx107_2)
       injection hv107_2 with hva_ hvn_ hvc_
       rw [hva_] at ge107_2
       rw [hvc_] at ul107_2
       have HL107_2 := aK (show Kd.V k58 58 _ w.heap.size _ _ ((rd_T58 x107002_1 1).f2) from Kd.V_mk ul107_2 ge107_2)
       clear hva_ hvn_ hvc_ ge107_2 ul107_2
       clear hcc107 hce107
       (try simp only [show (1 : Int).toNat = 1 from rfl, Nat.reduceMul, Nat.reduceEqDiff, Go.Addr.add, ↓reduceIte] at hx107_0)
       (try simp only [show (1 : Int).toNat = 1 from rfl, Nat.reduceMul, Nat.reduceEqDiff, Go.Addr.add, ↓reduceIte] at hx107_1)
       (try simp only [show (1 : Int).toNat = 1 from rfl, Nat.reduceMul, Nat.reduceEqDiff, Go.Addr.add, ↓reduceIte] at hx107_2)
       have qi107 : (1 < x107002_1.length) = True := eq_true (by omega)
       (try rw [show ((1 : Int)).toNat = 1 from rfl] at hx107_0)
       (try rw [show 1 * 3 = 3 from rfl] at hx107_0)
       (try rw [show ((1 : Int)).toNat = 1 from rfl] at hx107_1)
       (try rw [show 1 * 3 = 3 from rfl] at hx107_1)
       (try rw [show ((1 : Int)).toNat = 1 from rfl] at hx107_2)
       (try rw [show 1 * 3 = 3 from rfl] at hx107_2)
       have HR107_2 := aK hi107_2
       have HC107_2 := aK hl107_2
       clear hi107_2 hl107_2
       replace p107 := eq_true p107
       replace q107 := eq_true q107
       have p111 : 0 ≤ (0 : Int) := (by omega)
       have q111 : 0 < (x107002_1.length : Int) := dA
       obtain ⟨ad111, A111_2, c111_2, e111, hx111_0, hx111_1, hx111_2, hl111_2, hi111_2⟩ := at_T58 (Kd.V_reads' HO_107002.out).2.2 0 p111 q111
       obtain rfl : ad107 = ad111 := (by injection e111)
       obtain ⟨ce111, hce111, hMe111, hcc111⟩ := Kd.V_get HO_107002.out z58 0 p111 (by first | exact q111 | exact dA | (have e_ := (Kd.V_reads' HO_107002.out).1; omega))
       obtain ⟨ua111_2, uc111_2, rfl, ul111_2, ge111_2⟩ := k58_openF hMe111
       have hv111_2 := hcc111 2 _ rfl
       rw [add_field _ _ 2 (by omega)] at hv111_2
       replace hv111_2 := Option.some.inj (hv111_2.symm.trans hx111_2)
       injection hv111_2 with hva_ hvn_ hvc_
       rw [hva_] at ge111_2
       rw [hvc_] at ul111_2
       have HL111_2 := aK (show Kd.V k58 58 _ w.heap.size _ _ ((rd_T58 x107002_1 0).f2) from Kd.V_mk ul111_2 ge111_2)
       clear hva_ hvn_ hvc_ ge111_2 ul111_2
       clear hcc111 hce111
       have qi111 : (0 < x107002_1.length) = True := eq_true (by omega)
       (try rw [show ((0 : Int)).toNat = 0 from rfl] at hx111_0)
       (try rw [show 0 * 3 = 0 from rfl] at hx111_0)
       (try rw [Addr.add_zero'] at hx111_0)
       (try rw [show ((0 : Int)).toNat = 0 from rfl] at hx111_1)
       (try rw [show 0 * 3 = 0 from rfl] at hx111_1)
       (try rw [Addr.add_zero'] at hx111_1)
       (try rw [show ((0 : Int)).toNat = 0 from rfl] at hx111_2)
       (try rw [show 0 * 3 = 0 from rfl] at hx111_2)
       (try rw [Addr.add_zero'] at hx111_2)
       have HR111_2 := aK hi111_2
       have HC111_2 := aK hl111_2
       clear hi111_2 hl111_2
       replace p111 := eq_true p111
       replace q111 := eq_true q111
       refine start_ (n := 13) (S := fun w' => w'.cell? ⟨gb106, 0, none⟩ = some (.int .i64 x107000_1) ∧ w'.cell? ⟨gb106, 1, none⟩ = some (.int .i64 x107001_1) ∧ w'.cell? ⟨gb106, 2, none⟩ = some (.slice (some ad107) x107002_1.length co20) ∧ w'.cell? ⟨ad107.block, ad107.off + 3, none⟩ = some (.int .i64 ((rd_T58 x107002_1 1).f0)) ∧ w'.cell? ⟨ad107.block, ad107.off + 3 + 1, none⟩ = some (.int .i64 ((rd_T58 x107002_1 1).f1)) ∧ w'.cell? ⟨ad107.block, ad107.off + 3 + 2, none⟩ = some (.slice A107_2 ((rd_T58 x107002_1 1).f2).length c107_2) ∧ w'.cell? ad107 = some (.int .i64 ((rd_T58 x107002_1 0).f0)) ∧ w'.cell? ⟨ad107.block, ad107.off + 1, none⟩ = some (.int .i64 ((rd_T58 x107002_1 0).f1)) ∧ w'.cell? ⟨ad107.block, ad107.off + 2, none⟩ = some (.slice A111_2 ((rd_T58 x107002_1 0).f2).length c111_2)) (ds := [12]) (bs 0 13) (by kernel_rfl) rfl rfl ⟨(blk_cell BK106.out 0).trans rfl, (blk_cell BK106.out 1).trans rfl, (blk_cell BK106.out 2).trans rfl, hx107_0, hx107_1, hx107_2, hx111_0, hx111_1, hx111_2⟩ (fun hHeld => ?_); refine with_tabW impl_comb_redex.tab3 impl_comb_redex.bits3 (fun HT_ HW_ => ?_)
       generalize wr.drew = w19 at HO_4 HO_102002 HO_107002 BK101 BK102 BK106 HB HL107_2 HL111_2 HR107_2 HR111_2 hx107_0 hx107_1 hx107_2 hx111_0 hx111_1 hx111_2 hHeld ⊢
       refine pure_ (i := 0) (N := some 11) (v := ?_) (a' := ?_) (bs 1 12) rfl rfl (any_of HT_.out (by kernel_rfl)) (fun _ _ _ h => h) (Or.inl ⟨by rfl, ?_⟩) ?_ ?_
       rotate_left
       ·intro w'
        go_simp
        with_reducible rfl
       rotate_left
       ·simp only [sP, i64_w, i32_w]
        rfl
       refine pure_ (i := 1) (N := some 12) (v := ?_) (a' := ?_) (bs 2 11) rfl rfl (any_of HT_.out (by kernel_rfl)) (fun _ _ _ h => h) (Or.inl ⟨by rfl, ?_⟩) ?_ ?_
       rotate_left
       ·intro w'
        go_simp
        with_reducible rfl
       rotate_left
       ·simp only [sP, i64_w, i32_w]
        rfl
       refine pure_ (i := 7) (N := some 18) (v := ?_) (a' := ?_) #[true, true, false, false, false, false, false, true, false, false, false, false, false] rfl rfl (any_of HT_.out (by kernel_rfl)) (fun _ _ _ h => h) (Or.inl ⟨by rfl, ?_⟩) ?_ ?_
       rotate_left
       ·intro w'
        go_simp
        with_reducible rfl
       rotate_left
       ·simp only [sP, i64_w, i32_w]
        rfl
       refine take_ (i := 2) (N := some 13) (v := ?_) (a' := ?_) #[true, true, true, false, false, false, false, true, false, false, false, false, false] rfl rfl (take_ofW HT_.out HW_.out (by kernel_rfl)) (fun _ _ _ h => h) (Or.inl ⟨by rfl, ?_⟩) hHeld ?_ ?_
       rotate_left
       ·rintro w' ⟨s0, s1, s2, s3, s4, s5, s6, s7, s8⟩
        go_simp
        with_reducible rfl
       rotate_left
       ·simp only [sP, i64_w, i32_w]
        rfl
       refine pure_ (i := 3) (N := some 14) (v := ?_) (a' := ?_) #[true, true, true, true, false, false, false, true, false, false, false, false, false] rfl rfl (any_of HT_.out (by kernel_rfl)) (fun _ _ _ h => h) (Or.inl ⟨by rfl, ?_⟩) ?_ ?_
       rotate_left
       ·intro w'
        go_simp
        with_reducible rfl
       rotate_left
       ·simp only [sP, i64_w, i32_w]
        rfl
       refine take_ (i := 4) (N := some 15) (v := ?_) (a' := ?_) #[true, true, true, true, true, false, false, true, false, false, false, false, false] rfl rfl (take_ofW HT_.out HW_.out (by kernel_rfl)) (fun _ _ _ h => h) (Or.inl ⟨by rfl, ?_⟩) hHeld ?_ ?_
       rotate_left
       ·rintro w' ⟨s0, s1, s2, s3, s4, s5, s6, s7, s8⟩
        go_simp
        with_reducible rfl
       rotate_left
       ·simp only [sP, i64_w, i32_w]
        rfl
       refine take_ (i := 8) (N := some 19) (v := ?_) (a' := ?_) #[true, true, true, true, true, false, false, true, true, false, false, false, false] rfl rfl (take_ofW HT_.out HW_.out (by kernel_rfl)) (fun _ _ _ h => h) (Or.inl ⟨by rfl, ?_⟩) hHeld ?_ ?_
       rotate_left
       ·rintro w' ⟨s0, s1, s2, s3, s4, s5, s6, s7, s8⟩
        go_simp
        with_reducible rfl
       rotate_left
       ·simp only [sP, i64_w, i32_w]
        rfl
       refine pure_ (i := 9) (N := some 20) (v := ?_) (a' := ?_) #[true, true, true, true, true, false, false, true, true, true, false, false, false] rfl rfl (any_of HT_.out (by kernel_rfl)) (fun _ _ _ h => h) (Or.inl ⟨by rfl, ?_⟩) ?_ ?_
       rotate_left
       ·intro w'
        go_simp
        with_reducible rfl
       rotate_left
       ·simp only [sP, i64_w, i32_w]
        rfl
       refine take_ (i := 10) (N := some 21) (v := ?_) (a' := ?_) #[true, true, true, true, true, false, false, true, true, true, true, false, false] rfl rfl (take_ofW HT_.out HW_.out (by kernel_rfl)) (fun _ _ _ h => h) (Or.inl ⟨by rfl, ?_⟩) hHeld ?_ ?_
       rotate_left
       ·rintro w' ⟨s0, s1, s2, s3, s4, s5, s6, s7, s8⟩
        go_simp
        with_reducible rfl
       rotate_left
       ·simp only [sP, i64_w, i32_w]
        rfl
       refine one_ (i := 5) (N := some 16) #[true, true, true, true, true, true, false, true, true, true, true, false, false] rfl rfl (one_of HT_.out (by kernel_rfl)) (by decide) (fun K hK => ?_)
       refine value_ (w1 := ?_) (v := ?_) (by rfl) rfl ?_ ?_
       rotate_left 2
       ·go_simp
        constructor
        ·rfl
        ·rfl
       refine hK.out _ _ ⟨(blk_cell (blk_alloc BK106.out _) 0).trans rfl, (blk_cell (blk_alloc BK106.out _) 1).trans rfl, (blk_cell (blk_alloc BK106.out _) 2).trans rfl, (World.cell?_alloc_lt _ _ _ (World.block_lt_of_cell? _ _ (hHeld.2.2.2.1))).trans (hHeld.2.2.2.1), (World.cell?_alloc_lt _ _ _ (World.block_lt_of_cell? _ _ (hHeld.2.2.2.2.1))).trans (hHeld.2.2.2.2.1), (World.cell?_alloc_lt _ _ _ (World.block_lt_of_cell? _ _ (hHeld.2.2.2.2.2.1))).trans (hHeld.2.2.2.2.2.1), (World.cell?_alloc_lt _ _ _ (World.block_lt_of_cell? _ _ (hHeld.2.2.2.2.2.2.1))).trans (hHeld.2.2.2.2.2.2.1), (World.cell?_alloc_lt _ _ _ (World.block_lt_of_cell? _ _ (hHeld.2.2.2.2.2.2.2.1))).trans (hHeld.2.2.2.2.2.2.2.1), (World.cell?_alloc_lt _ _ _ (World.block_lt_of_cell? _ _ (hHeld.2.2.2.2.2.2.2.2))).trans (hHeld.2.2.2.2.2.2.2.2)⟩ (fun hHeld => ?_)
       clear hK K
       refine norm_ (a' := ?_) ?_ ?_
       rotate_left
       ·show Act.put _ (some 16) _ = _
        simp only [sP, i64_w, i32_w]
        rfl
       refine one_ (i := 6) (N := some 17) (bs 11 2) rfl rfl (one_of HT_.out (by kernel_rfl)) (by decide) (fun K hK => ?_)
       refine Kd.N_append_step k58 (w0 := w) w.heap.size (by rfl) (.tmp 11) (.tmp 16) 56 58 (.agg #[(.int .i64 0), (.int .i64 0), (.slice none 0 0)]) 40 rfl Try.underlying56 info58 rfl (by decide) (by omega) u4 x4_1 (⟨(rd_T58 x107002_1 1).f0, (rd_T58 x107002_1 1).f1, (rd_T58 x107002_1 1).f2⟩ : S58) [.int .i64 ((rd_T58 x107002_1 1).f0), .int .i64 ((rd_T58 x107002_1 1).f1), .slice A107_2 ((rd_T58 x107002_1 1).f2).length c107_2] (fun k_ => (P0_2_ k_ ∨ w.heap.size ≤ k_) ∧ k_ ≠ gb101 ∧ k_ ≠ gb102 ∧ k_ ≠ gb106) (fun k_ => ((fun k_ => (P0_2_ k_ ∨ w.heap.size ≤ k_) ∧ k_ ≠ gb101 ∧ k_ ≠ gb102 ∧ k_ ≠ gb106)) k_ ∧ some k_ ≠ (u4 : Value).ownBlock) rfl rfl ?aP (fun _ hk => hk) ?aF ?aO ?aB ?aS ?aL ?_
       (case aP => exact (k58_mkF _ _ (⟨(rd_T58 x107002_1 1).f0, (rd_T58 x107002_1 1).f1, (rd_T58 x107002_1 1).f2⟩ : S58) (Kd.V_reads' (Kd.V_mono (ok' := (fun k_ => ((fun k_ => (P0_2_ k_ ∨ w.heap.size ≤ k_) ∧ k_ ≠ gb101 ∧ k_ ≠ gb102 ∧ k_ ≠ gb106)) k_ ∧ some k_ ≠ (u4 : Value).ownBlock)) (HL107_2.out) (fun k_ hk => ⟨⟨hk.1, ⟨hk.2.2.1, ⟨hk.2.2.2.1, hk.2.2.2.2⟩⟩⟩, hk.2.1⟩))).2.1 (Kd.V_F (Kd.V_mono (ok' := (fun k_ => ((fun k_ => (P0_2_ k_ ∨ w.heap.size ≤ k_) ∧ k_ ≠ gb101 ∧ k_ ≠ gb102 ∧ k_ ≠ gb106)) k_ ∧ some k_ ≠ (u4 : Value).ownBlock)) (HL107_2.out) (fun k_ hk => ⟨⟨hk.1, ⟨hk.2.2.1, ⟨hk.2.2.2.1, hk.2.2.2.2⟩⟩⟩, hk.2.1⟩)))))
       (case aB => exact (pH HB))
       (case aF => exact (fun k_ hk => ⟨(.inr (Nat.le_trans (below_size (pH HB)) hk)), Kd.freshB BK101.out k_ hk, Kd.freshB BK102.out k_ hk, Kd.freshB BK106.out k_ hk⟩))
       (case aO => exact HO_4.out)
       (case aS => exact (below_size (pH HB)))
       (case aL => have := LMc14.out; omega)
       intro v109 w21 ho hb hg hat
       have HS3_ := cell_grown hg (by first | exact (hHeld.2.2.2.1) | exact cell_unalloc (hHeld.2.2.2.1) (by first | exact Kd.V_lt HO_102002.out | simpa using Kd.V_lt HO_102002.out | exact Kd.V_lt HO_107002.out | simpa using Kd.V_lt HO_107002.out)) (by first | exact (Kd.V_block HO_102002.out).2.1 | exact (Kd.V_block HO_107002.out).2.1)
       have HS4_ := cell_grown hg (by first | exact (hHeld.2.2.2.2.1) | exact cell_unalloc (hHeld.2.2.2.2.1) (by first | exact Kd.V_lt HO_102002.out | simpa using Kd.V_lt HO_102002.out | exact Kd.V_lt HO_107002.out | simpa using Kd.V_lt HO_107002.out)) (by first | exact (Kd.V_block HO_102002.out).2.1 | exact (Kd.V_block HO_107002.out).2.1)
       have HS5_ := cell_grown hg (by first | exact (hHeld.2.2.2.2.2.1) | exact cell_unalloc (hHeld.2.2.2.2.2.1) (by first | exact Kd.V_lt HO_102002.out | simpa using Kd.V_lt HO_102002.out | exact Kd.V_lt HO_107002.out | simpa using Kd.V_lt HO_107002.out)) (by first | exact (Kd.V_block HO_102002.out).2.1 | exact (Kd.V_block HO_107002.out).2.1)
       have HS6_ := cell_grown hg (by first | exact (hHeld.2.2.2.2.2.2.1) | exact cell_unalloc (hHeld.2.2.2.2.2.2.1) (by first | exact Kd.V_lt HO_102002.out | simpa using Kd.V_lt HO_102002.out | exact Kd.V_lt HO_107002.out | simpa using Kd.V_lt HO_107002.out)) (by first | exact (Kd.V_block HO_102002.out).2.1 | exact (Kd.V_block HO_107002.out).2.1)
       have HS7_ := cell_grown hg (by first | exact (hHeld.2.2.2.2.2.2.2.1) | exact cell_unalloc (hHeld.2.2.2.2.2.2.2.1) (by first | exact Kd.V_lt HO_102002.out | simpa using Kd.V_lt HO_102002.out | exact Kd.V_lt HO_107002.out | simpa using Kd.V_lt HO_107002.out)) (by first | exact (Kd.V_block HO_102002.out).2.1 | exact (Kd.V_block HO_107002.out).2.1)
       have HS8_ := cell_grown hg (by first | exact (hHeld.2.2.2.2.2.2.2.2) | exact cell_unalloc (hHeld.2.2.2.2.2.2.2.2) (by first | exact Kd.V_lt HO_102002.out | simpa using Kd.V_lt HO_102002.out | exact Kd.V_lt HO_107002.out | simpa using Kd.V_lt HO_107002.out)) (by first | exact (Kd.V_block HO_102002.out).2.1 | exact (Kd.V_block HO_107002.out).2.1)
       rw [← Ny108.out] at ho
       have n0_ := aK (Kd.V_afterv (ok := (fun k_ => (P0_2_ k_ ∨ w.heap.size ≤ k_) ∧ k_ ≠ gb101 ∧ k_ ≠ gb102 ∧ k_ ≠ gb106)) (by (with_reducible repeat (first | apply Kd.V_alloc | apply Kd.V_drewN | apply Kd.V_drew)); exact Kd.V_mono HO_102002.out (fun _ hk => ⟨⟨hk.1, ⟨hk.2.2.1, ⟨hk.2.2.2.1, hk.2.2.2.2⟩⟩⟩, hk.2.1⟩)) hg hat)
       have n1_ := aK (Kd.V_afterv (ok := (fun k_ => (P0_2_ k_ ∨ w.heap.size ≤ k_) ∧ k_ ≠ gb101 ∧ k_ ≠ gb102 ∧ k_ ≠ gb106)) (by (with_reducible repeat (first | apply Kd.V_alloc | apply Kd.V_drewN | apply Kd.V_drew)); exact Kd.V_mono HO_107002.out (fun _ hk => ⟨⟨hk.1, ⟨hk.2.2.1, ⟨hk.2.2.2.1, hk.2.2.2.2⟩⟩⟩, hk.2.1⟩)) hg hat)
       have n2_ := aK (blk_grown BK101.out hg (Kd.N_away HO_4.out (fun _ hk => hk.2.1)))
       have n3_ := aK (blk_grown BK102.out hg (Kd.N_away HO_4.out (fun _ hk => hk.2.2.1)))
       have n4_ := aK (blk_grown BK106.out hg (Kd.N_away HO_4.out (fun _ hk => hk.2.2.2)))
       have n5_ := aK (Kd.V_afterv (ok := (fun k_ => (P0_2_ k_ ∨ w.heap.size ≤ k_) ∧ k_ ≠ gb101 ∧ k_ ≠ gb102 ∧ k_ ≠ gb106)) (by (with_reducible repeat (first | apply Kd.V_alloc | apply Kd.V_drewN | apply Kd.V_drew)); exact Kd.V_mono HL107_2.out (fun _ hk => ⟨⟨hk.1, ⟨hk.2.2.1, ⟨hk.2.2.2.1, hk.2.2.2.2⟩⟩⟩, hk.2.1⟩)) hg hat)
       have n6_ := aK (Kd.V_afterv (ok := (fun k_ => (P0_2_ k_ ∨ w.heap.size ≤ k_) ∧ k_ ≠ gb101 ∧ k_ ≠ gb102 ∧ k_ ≠ gb106)) (by (with_reducible repeat (first | apply Kd.V_alloc | apply Kd.V_drewN | apply Kd.V_drew)); exact Kd.V_mono HL111_2.out (fun _ hk => ⟨⟨hk.1, ⟨hk.2.2.1, ⟨hk.2.2.2.1, hk.2.2.2.2⟩⟩⟩, hk.2.1⟩)) hg hat)
       have n7_ := aK (hb)
       have n8_ := aK (ho)
       clear HO_102002
       clear HO_107002
       clear BK101
       clear BK102
       clear BK106
       clear HL107_2
       clear HL111_2
       clear HB
       clear HO_4
       have HO_102002 := n0_
       have HO_107002 := n1_
       have BK101 := n2_
       have BK102 := n3_
       have BK106 := n4_
       have HL107_2 := n5_
       have HL111_2 := n6_
       have HB := n7_
       have HO110 := n8_
       clear n0_ n1_ n2_ n3_ n4_ n5_ n6_ n7_ n8_
       clear ho hb hg hat
       refine hK.out _ _ ⟨(blk_cell BK106.out 0).trans rfl, (blk_cell BK106.out 1).trans rfl, (blk_cell BK106.out 2).trans rfl, HS3_, HS4_, HS5_, HS6_, HS7_, HS8_⟩ (fun hHeld => ?_)
       clear hK K
       refine norm_ (a' := ?_) ?_ ?_
       rotate_left
       ·show Act.put _ (some 17) _ = _
        simp only [sP, i64_w, i32_w]
        rfl
       refine pure_ (i := 11) (N := some 4) (v := ?_) (a' := ?_) (bs 12 1) rfl rfl (any_of HT_.out (by kernel_rfl)) (fun _ _ _ h => h) (Or.inl ⟨by rfl, ?_⟩) ?_ ?_
       rotate_left
       ·intro w'
        go_simp
        with_reducible rfl
       rotate_left
       ·simp only [sP, i64_w, i32_w]
        rfl
       refine last_ (i := 12) (N := none) (bs 13 0) rfl rfl (one_of HT_.out (by kernel_rfl)) (by decide) (fun K hK => ?_)
       have hs22 : w21.cell? ⟨gb106, 0, none⟩ = some (.int .i64 x107000_1) := (blk_cell BK106.out 0).trans rfl
       have hfs22 := blk_frozen BK106.out 0
       have hns22_0 := NB101_106.out
       have hns22_1 := NB102_106.out
       have hms22_0 := NB106_101.out
       have hms22_1 := NB106_102.out
       have hs23 : w21.cell? ⟨gb106, 1, none⟩ = some (.int .i64 x107001_1) := (blk_cell BK106.out 1).trans rfl
       have hfs23 := blk_frozen BK106.out 1
       have hns23_0 := NB101_106.out
       have hns23_1 := NB102_106.out
       have hms23_0 := NB106_101.out
       have hms23_1 := NB106_102.out
       have hs24 : w21.cell? ⟨gb106, 2, none⟩ = some (.slice (some ad107) x107002_1.length co20) := (blk_cell BK106.out 2).trans rfl
       have hfs24 := blk_frozen BK106.out 2
       have hns24_0 := NB101_106.out
       have hns24_1 := NB102_106.out
       have hms24_0 := NB106_101.out
       have hms24_1 := NB106_102.out
       refine skip_ (w1 := ?_) (by rfl) rfl ?_ ?_
       rotate_left
       ·go_simp
        rfl
       refine hK.out _ _ ?_
       clear hK K
       refine done_ (done_of HT_.out (by kernel_rfl)) ?_
       try go_wp2
       go_roundg k1
       case measure => have := HK1.out; omega
       case rel => exact ⟨(y108), ((rd_T58 x107002_1 0).f0), ((rd_T58 x107002_1 0).f1), ((rd_T58 x107002_1 0).f2), (.slice A111_2 ((rd_T58 x107002_1 0).f2).length c111_2), H', ⟨by have := HK1.out; omega⟩, ⟨by (with_reducible repeat (first | apply Kd.N_alloc | apply Kd.N_drewN | apply Kd.N_drew)); exact Kd.N_mono (nF3 gb106 (Kd.N_mono HO110.out (fun k_ hk => (⟨hk, hk.2.2.2⟩ : _ ∧ k_ ≠ gb106))) (fun _ hk => hk.2)) (fun _ hk => ⟨hk.1.1, ⟨hk.1.2.1, ⟨hk.1.2.2.1, hk.1.2.2.2⟩⟩⟩)⟩, ⟨by (with_reducible repeat (first | apply Kd.V_alloc | apply Kd.V_drewN | apply Kd.V_drew)); exact Kd.V_mono (vF3 gb106 (Kd.V_mono HO_102002.out (fun k_ hk => (⟨hk, hk.1.2.2.2⟩ : _ ∧ k_ ≠ gb106))) (fun _ hk => hk.2)) (fun _ hk => ⟨hk.1.1.1, ⟨hk.1.2, ⟨hk.1.1.2.1, ⟨hk.1.1.2.2.1, hk.1.1.2.2.2⟩⟩⟩⟩)⟩, ⟨by (with_reducible repeat (first | apply Kd.V_alloc | apply Kd.V_drewN | apply Kd.V_drew)); exact Kd.V_mono (vF3 gb106 (Kd.V_mono HL111_2.out (fun k_ hk => (⟨hk, hk.1.2.2.2⟩ : _ ∧ k_ ≠ gb106))) (fun _ hk => hk.2)) (fun _ hk => ⟨hk.1.1.1, ⟨hk.1.2, ⟨hk.1.1.2.1, ⟨hk.1.1.2.2.1, hk.1.1.2.2.2⟩⟩⟩⟩)⟩, ⟨by (repeat first | with_reducible apply zN | with_reducible apply zD | with_reducible apply zA | refine blk_far ?_ NB101_106.out _); exact BK101.out⟩, ⟨by (repeat first | with_reducible apply zN | with_reducible apply zD | with_reducible apply zA | refine blk_far ?_ NB102_106.out _); exact BK102.out⟩, ⟨p3 BK106⟩, ⟨pH HB⟩⟩
      ·rw [if_neg c15] at H
       exact absurd H (by simp)
     ·rw [if_neg c14] at H
      exact absurd H (by simp)
    ·rw [if_neg c13] at H
     exact absurd H (by simp)
   ·rw [if_neg c12] at H
    have c12b0 : (x107000_1 == 2) = false := beq_eq_false_iff_ne.mpr c12
    have c12b1 : (x107000_1 != 2) = true := bne_iff_ne.mpr c12
    replace H := Option.bind_eq_some_iff.mp H
    obtain ⟨t112, A250, H⟩ := H
    try dsimp only at H
    have A25 := aK A250
    clear A250
    have HC26 := aK H
    clear H
    have hnb27 := NB106_101.out
    have hnc27 := NB101_106.out
    have hnb28 := NB106_102.out
    have hnc28 := NB102_106.out
    have hcz29_0 := k30 BK106
    have hcz29_1 := k31 BK106
    have hcz29_2 := k32 BK106
    have hfz29_0 := fz BK106 0
    have hfz29_1 := fz BK106 1
    have hfz29_2 := fz BK106 2
    obtain ⟨Ao30, co30, eo30⟩ := Kd.N_slice HO_4.out
    subst eo30
    go_upto_region 5 with (first | ((with_reducible refine gate_callee (f := 91) rfl ?_); refine goesL_ (some 23) rfl rfl Try.func91 (by kernel_rfl) rfl #[.slice Ao30 x4_1.length co30] rfl tA ?_; (with_reducible refine (impl_comb_91.calls w.heap.size (fun k_ => (P0_2_ k_ ∨ w.heap.size ≤ k_) ∧ k_ ≠ gb101 ∧ k_ ≠ gb102 ∧ k_ ≠ gb106) Ao30 co30 x4_1 _ ?side1 ?side2).mono ?_); (case side1 => exact HO_4.out); (case side2 => exact (Kd.V_reads' (Kd.N_V (base' := 0) HO_4.out)).2.2.2.1); rintro e w31 ⟨rfl, hN, hg⟩; refine ⟨_, rfl, ?_⟩; have et_ : x4_1.reverse = t112 := Option.some.inj A25.out; rw [et_] at hN; clear et_; have n1_ := aK (Kd.V_grown HO_102002.out hg (fun _ hk => hk.2.1)); have n2_ := aK (Kd.V_grown HO_107002.out hg (fun _ hk => hk.2.1)); have n4_ := aK (blk_grown BK101.out hg (Kd.N_away HO_4.out (fun _ hk => hk.2.1))); have n5_ := aK (blk_grown BK102.out hg (Kd.N_away HO_4.out (fun _ hk => hk.2.2.1))); have n6_ := aK (blk_grown BK106.out hg (Kd.N_away HO_4.out (fun _ hk => hk.2.2.2))); have n7_ := aK (HB.out.grown hg (below_size HB.out) (Kd.N_base HO_4.out)); generalize hv113 : Value.slice Ao30 x4_1.length co30 = v113 at hN ⊢; clear hv113; have n3_ := aK (Kd.N_V (base' := w.heap.size) hN); clear hN; clear HO_4; clear HO_102002; clear HO_107002; clear BK101; clear BK102; clear BK106; clear HB; have HO_102002 := n1_; have HO_107002 := n2_; have HO114 := n3_; have BK101 := n4_; have BK102 := n5_; have BK106 := n6_; have HB := n7_; clear n1_ n2_ n3_ n4_ n5_ n6_ n7_; (try clear hg)))
    (try simp only [Act.put, List.setIfInBounds_toArray, List.set_cons_zero, List.set_cons_succ])
    go_cut [24] (fun v24 wc => ∃ (kq : Nat) (x24_25 : Bool), v24 = .bool x24_25 ∧ Aside0 (impl_comb_redex.j1 kq t112 x24_25 x107000_1 x107001_1 x107002_1 = some (r1, r2, r3, r4)) ∧ Aside0 (kq ≤ k1) ∧ Aside0 (Kd.V k58 58 wc w.heap.size (fun k_ => (P0_2_ k_ ∨ w.heap.size ≤ k_) ∧ k_ ≠ gb101 ∧ k_ ≠ gb102 ∧ k_ ≠ gb106) v113 t112) ∧ Aside0 (Kd.V k58 58 wc w.heap.size (fun k_ => (P0_2_ k_ ∨ w.heap.size ≤ k_) ∧ k_ ≠ gb101 ∧ k_ ≠ gb102 ∧ k_ ≠ gb106) (.slice A0_2 l0_2.length c0_2) l0_2) ∧ Aside0 (Kd.V k58 58 wc w.heap.size (fun k_ => (P0_2_ k_ ∨ w.heap.size ≤ k_) ∧ k_ ≠ gb101 ∧ k_ ≠ gb102 ∧ k_ ≠ gb106) u107002 x107002_1) ∧ Aside0 (wc.heap[gb101]? = some (.cells #[.int .i64 a0_0, .int .i64 a0_1, (.slice A0_2 l0_2.length c0_2)] 58 (0, 0))) ∧ Aside0 (wc.heap[gb102]? = some (.cells #[.int .i64 0, .int .i64 0, (.slice none 0 0)] 58 (0, 0))) ∧ Aside0 (wc.heap[gb106]? = some (.cells #[.int .i64 x107000_1, .int .i64 x107001_1, u107002] 58 (0, 0))) ∧ Aside0 (Below w.heap.size w wc))
    case first =>
     have H := HC26.out
     clear HC26
     by_cases c32 : x107000_1 = 5
     ·rw [if_pos c32] at H
      have c32b0 : (x107000_1 == 5) = true := beq_iff_eq.mpr c32
      have c32b1 : (x107000_1 != 5) = false := bne_eq_false_iff_eq.mpr c32
      clear c32
      (first | rw [c32b0] | (simp only [i64_w, i32_w]; rw [c32b0]) | skip)
      have H' := aK H
      clear H
      have hnb33 := NB106_101.out
      have hnc33 := NB101_106.out
      have hnb34 := NB106_102.out
      have hnc34 := NB102_106.out
      have hcz35_0 := k30 BK106
      have hcz35_1 := k31 BK106
      have hcz35_2 := k32 BK106
      have hfz35_0 := fz BK106 0
      have hfz35_1 := fz BK106 1
      have hfz35_2 := fz BK106 2
      obtain ⟨Ao36, co36, eo36⟩ := Kd.V_slice HO114.out
      subst eo36
      go_wp2
      go_meet
      case rel => exact ⟨_, (((t112.length : Int) == 1)), rS, H', ⟨by have := HK1.out; first | omega | exact Nat.le_refl _⟩, ⟨by (with_reducible repeat (first | apply Kd.V_alloc | apply Kd.V_drewN | apply Kd.V_drew)); exact HO114.out⟩, ⟨by (with_reducible repeat (first | apply Kd.V_alloc | apply Kd.V_drewN | apply Kd.V_drew)); exact Kd.V_mono HO_102002.out (fun _ hk => ⟨hk.1, ⟨hk.2.2.1, ⟨hk.2.2.2.1, hk.2.2.2.2⟩⟩⟩)⟩, ⟨by (with_reducible repeat (first | apply Kd.V_alloc | apply Kd.V_drewN | apply Kd.V_drew)); exact Kd.V_mono HO_107002.out (fun _ hk => ⟨hk.1, ⟨hk.2.2.1, ⟨hk.2.2.2.1, hk.2.2.2.2⟩⟩⟩)⟩, ⟨pB BK101⟩, ⟨pB BK102⟩, ⟨pB BK106⟩, ⟨pH HB⟩⟩
     ·rw [if_neg c32] at H
      have c32b0 : (x107000_1 == 5) = false := beq_eq_false_iff_ne.mpr c32
      have c32b1 : (x107000_1 != 5) = true := bne_iff_ne.mpr c32
      (first | rw [c32b0] | (simp only [i64_w, i32_w]; rw [c32b0]) | skip)
      have H' := aK H
      clear H
      have hnb37 := NB106_101.out
      have hnc37 := NB101_106.out
      have hnb38 := NB106_102.out
      have hnc38 := NB102_106.out
      have hcz39_0 := k30 BK106
      have hcz39_1 := k31 BK106
      have hcz39_2 := k32 BK106
      have hfz39_0 := fz BK106 0
      have hfz39_1 := fz BK106 1
      have hfz39_2 := fz BK106 2
      go_wp2
      go_meet
      case rel => exact ⟨_, (false), rS, H', ⟨by have := HK1.out; first | omega | exact Nat.le_refl _⟩, ⟨by (with_reducible repeat (first | apply Kd.V_alloc | apply Kd.V_drewN | apply Kd.V_drew)); exact HO114.out⟩, ⟨by (with_reducible repeat (first | apply Kd.V_alloc | apply Kd.V_drewN | apply Kd.V_drew)); exact Kd.V_mono HO_102002.out (fun _ hk => ⟨hk.1, ⟨hk.2.2.1, ⟨hk.2.2.2.1, hk.2.2.2.2⟩⟩⟩)⟩, ⟨by (with_reducible repeat (first | apply Kd.V_alloc | apply Kd.V_drewN | apply Kd.V_drew)); exact Kd.V_mono HO_107002.out (fun _ hk => ⟨hk.1, ⟨hk.2.2.1, ⟨hk.2.2.2.1, hk.2.2.2.2⟩⟩⟩)⟩, ⟨pB BK101⟩, ⟨pB BK102⟩, ⟨pB BK106⟩, ⟨pH HB⟩⟩
    case rest =>
     clear HC26
     try clear c1
     try clear p1
     try clear q1
     try clear hx1
     try clear qi1
     try clear c2
     try clear p2
     try clear c3
     try clear c7
     try clear c9
     try clear c10
     try clear p10
     try clear q10
     try clear hx10
     try clear qi10
     try clear c11
     try clear p11
     try clear q11
     try clear hx11
     try clear qi11
     try clear c12
     try clear c12b0
     try clear c12b1
     try clear c13
     try clear c13b0
     try clear c13b1
     try clear c14
     try clear c15
     try clear c15b0
     try clear c15b1
     try clear c16
     try clear c17
     try clear c27
     try clear c28
     try clear c32
     try clear c32b0
     try clear c32b1
     try clear c33
     try clear c34
     try clear c37
     try clear c38
     try clear hcz18_0
     try clear hcz18_1
     try clear hcz18_2
     try clear hcz29_0
     try clear hcz29_1
     try clear hcz29_2
     try clear hcz35_0
     try clear hcz35_1
     try clear hcz35_2
     try clear hcz39_0
     try clear hcz39_1
     try clear hcz39_2
     try clear hfz18_0
     try clear hfz18_1
     try clear hfz18_2
     try clear hfz29_0
     try clear hfz29_1
     try clear hfz29_2
     try clear hfz35_0
     try clear hfz35_1
     try clear hfz35_2
     try clear hfz39_0
     try clear hfz39_1
     try clear hfz39_2
     try clear hx107_0
     try clear hx107_1
     try clear hx107_2
     try clear hx111_0
     try clear hx111_1
     try clear hx111_2
     try clear p107
     try clear p111
     try clear p2
     try clear q107
     try clear q111
     obtain ⟨kq, x24_25, rfl, HA, HJ25, HO_23, HO_102002, HO_107002, BK101, BK102, BK106, HB⟩ := hcut
     cases kq with
     | zero => exact absurd HA.out (by simp [impl_comb_redex.j1])
     | succ kj25 =>
      have H := HA.out
      clear HA
      simp only [impl_comb_redex.j1] at H
      by_cases c40 : x24_25 = true
      ·subst c40
       rw [if_pos rfl] at H
       by_cases c41 : 0 < (t112.length : Int)
       ·rw [if_pos c41] at H
        have c41b0 : decide (0 < (t112.length : Int)) = true := decide_eq_true c41
        have c41b1 : decide (0 < t112.length) = true := decide_eq_true (by omega)
        clear c41
        simp only [Option.some.injEq, Prod.mk.injEq] at H
        obtain ⟨rfl, rfl, rfl, rfl⟩ := H
        obtain ⟨Ao42, co42, eo42⟩ := Kd.V_slice HO_23.out
        subst eo42
        have p115 : 0 ≤ (0 : Int) := (by omega)
        have q115 : 0 < (t112.length : Int) := dA
        obtain ⟨ad115, A115_2, c115_2, e115, hx115_0, hx115_1, hx115_2, hl115_2, hi115_2⟩ := at_T58 (Kd.V_reads' HO_23.out).2.2 0 p115 q115
        cases e115
        obtain ⟨ce115, hce115, hMe115, hcc115⟩ := Kd.V_get HO_23.out z58 0 p115 (by first | exact q115 | exact dA | (have e_ := (Kd.V_reads' HO_23.out).1; omega))
        obtain ⟨ua115_2, uc115_2, rfl, ul115_2, ge115_2⟩ := k58_openF hMe115
        have hv115_2 := hcc115 2 _ rfl
        rw [add_field _ _ 2 (by omega)] at hv115_2
        replace hv115_2 := Option.some.inj (hv115_2.symm.trans hx115_2)
        injection hv115_2 with hva_ hvn_ hvc_
        rw [hva_] at ge115_2
        rw [hvc_] at ul115_2
        have HL115_2 := aK (show Kd.V k58 58 _ w.heap.size _ _ ((rd_T58 t112 0).f2) from Kd.V_mk ul115_2 ge115_2)
        clear hva_ hvn_ hvc_ ge115_2 ul115_2
        clear hcc115 hce115
        have qi115 : (0 < t112.length) = True := eq_true (by omega)
        (try rw [show ((0 : Int)).toNat = 0 from rfl] at hx115_0)
        (try rw [show 0 * 3 = 0 from rfl] at hx115_0)
        (try rw [Addr.add_zero'] at hx115_0)
        (try rw [show ((0 : Int)).toNat = 0 from rfl] at hx115_1)
        (try rw [show 0 * 3 = 0 from rfl] at hx115_1)
        (try rw [Addr.add_zero'] at hx115_1)
        (try rw [show ((0 : Int)).toNat = 0 from rfl] at hx115_2)
        (try rw [show 0 * 3 = 0 from rfl] at hx115_2)
        (try rw [Addr.add_zero'] at hx115_2)
        have HR115_2 := aK hi115_2
        have HC115_2 := aK hl115_2
        clear hi115_2 hl115_2
        replace p115 := eq_true p115
        replace q115 := eq_true q115
        have hnb43 := NB102_101.out
        have hnc43 := NB101_102.out
        have hnb44 := NB102_106.out
        have hnc44 := NB106_102.out
        have hcz45_0 := k30 BK102
        have hcz45_1 := k31 BK102
        have hcz45_2 := k32 BK102
        have hfz45_0 := fz BK102 0
        have hfz45_1 := fz BK102 1
        have hfz45_2 := fz BK102 2
        go_wp2
        refine bodyPost_ret (results_ct rfl _ _ gb102 58 #[.int .i64 ((rd_T58 t112 0).f0), .int .i64 ((rd_T58 t112 0).f1), .slice A115_2 ((rd_T58 t112 0).f2).length c115_2] (0, 0) _ rfl (p3 BK102) Try.underlying58 rfl (by kernel_rfl)) rfl ?_
        exact ⟨_, eW, by (with_reducible repeat (first | apply Kd.V_alloc | apply Kd.V_drewN | apply Kd.V_drew)); exact Kd.V_mono (vF3 gb102 (Kd.V_mono HL115_2.out (fun k_ hk => (⟨hk, hk.2.2.1⟩ : _ ∧ k_ ≠ gb102))) (fun _ hk => hk.2)) (fun _ hk => hk.1.1), pH HB⟩
       ·rw [if_neg c41] at H
        exact absurd H (by simp)
      ·replace c40 := Bool.eq_false_iff.mpr c40
       subst c40
       rw [if_neg (show ¬ (false = true) by decide)] at H
       have HC46 := aK H
       clear H
       go_upto_region 7 with (fail)
       go_cut [36] (fun v36 wc => ∃ (kq : Nat) (x36_45 : Bool), v36 = .bool x36_45 ∧ Aside0 (impl_comb_redex.j2 kq t112 x36_45 x107000_1 x107001_1 x107002_1 = some (r1, r2, r3, r4)) ∧ Aside0 (kq ≤ kj25) ∧ Aside0 (Kd.V k58 58 wc w.heap.size (fun k_ => (P0_2_ k_ ∨ w.heap.size ≤ k_) ∧ k_ ≠ gb101 ∧ k_ ≠ gb102 ∧ k_ ≠ gb106) v113 t112) ∧ Aside0 (Kd.V k58 58 wc w.heap.size (fun k_ => (P0_2_ k_ ∨ w.heap.size ≤ k_) ∧ k_ ≠ gb101 ∧ k_ ≠ gb102 ∧ k_ ≠ gb106) (.slice A0_2 l0_2.length c0_2) l0_2) ∧ Aside0 (Kd.V k58 58 wc w.heap.size (fun k_ => (P0_2_ k_ ∨ w.heap.size ≤ k_) ∧ k_ ≠ gb101 ∧ k_ ≠ gb102 ∧ k_ ≠ gb106) u107002 x107002_1) ∧ Aside0 (wc.heap[gb101]? = some (.cells #[.int .i64 a0_0, .int .i64 a0_1, (.slice A0_2 l0_2.length c0_2)] 58 (0, 0))) ∧ Aside0 (wc.heap[gb102]? = some (.cells #[.int .i64 0, .int .i64 0, (.slice none 0 0)] 58 (0, 0))) ∧ Aside0 (wc.heap[gb106]? = some (.cells #[.int .i64 x107000_1, .int .i64 x107001_1, u107002] 58 (0, 0))) ∧ Aside0 (Below w.heap.size w wc))
       case first =>
        have H := HC46.out
        clear HC46
        by_cases c47 : x107000_1 = 4
        ·rw [if_pos c47] at H
         have c47b0 : (x107000_1 == 4) = true := beq_iff_eq.mpr c47
         have c47b1 : (x107000_1 != 4) = false := bne_eq_false_iff_eq.mpr c47
         clear c47
         (first | rw [c47b0] | (simp only [i64_w, i32_w]; rw [c47b0]) | skip)
         have H' := aK H
         clear H
         have hnb48 := NB106_101.out
         have hnc48 := NB101_106.out
         have hnb49 := NB106_102.out
         have hnc49 := NB102_106.out
         have hcz50_0 := k30 BK106
         have hcz50_1 := k31 BK106
         have hcz50_2 := k32 BK106
         have hfz50_0 := fz BK106 0
         have hfz50_1 := fz BK106 1
         have hfz50_2 := fz BK106 2
         obtain ⟨Ao51, co51, eo51⟩ := Kd.V_slice HO_23.out
         subst eo51
         go_wp2
         go_meet
         case rel => exact ⟨_, (((t112.length : Int) == 2)), rS, H', ⟨by have := HK1.out; have := HJ25.out; first | omega | exact Nat.le_refl _⟩, ⟨by (with_reducible repeat (first | apply Kd.V_alloc | apply Kd.V_drewN | apply Kd.V_drew)); exact HO_23.out⟩, ⟨by (with_reducible repeat (first | apply Kd.V_alloc | apply Kd.V_drewN | apply Kd.V_drew)); exact HO_102002.out⟩, ⟨by (with_reducible repeat (first | apply Kd.V_alloc | apply Kd.V_drewN | apply Kd.V_drew)); exact HO_107002.out⟩, ⟨pB BK101⟩, ⟨pB BK102⟩, ⟨pB BK106⟩, ⟨pH HB⟩⟩
        ·rw [if_neg c47] at H
         have c47b0 : (x107000_1 == 4) = false := beq_eq_false_iff_ne.mpr c47
         have c47b1 : (x107000_1 != 4) = true := bne_iff_ne.mpr c47
         (first | rw [c47b0] | (simp only [i64_w, i32_w]; rw [c47b0]) | skip)
         have H' := aK H
         clear H
         have hnb52 := NB106_101.out
         have hnc52 := NB101_106.out
         have hnb53 := NB106_102.out
         have hnc53 := NB102_106.out
         have hcz54_0 := k30 BK106
         have hcz54_1 := k31 BK106
         have hcz54_2 := k32 BK106
         have hfz54_0 := fz BK106 0
         have hfz54_1 := fz BK106 1
         have hfz54_2 := fz BK106 2
         go_wp2
         go_meet
         case rel => exact ⟨_, (false), rS, H', ⟨by have := HK1.out; have := HJ25.out; first | omega | exact Nat.le_refl _⟩, ⟨by (with_reducible repeat (first | apply Kd.V_alloc | apply Kd.V_drewN | apply Kd.V_drew)); exact HO_23.out⟩, ⟨by (with_reducible repeat (first | apply Kd.V_alloc | apply Kd.V_drewN | apply Kd.V_drew)); exact HO_102002.out⟩, ⟨by (with_reducible repeat (first | apply Kd.V_alloc | apply Kd.V_drewN | apply Kd.V_drew)); exact HO_107002.out⟩, ⟨pB BK101⟩, ⟨pB BK102⟩, ⟨pB BK106⟩, ⟨pH HB⟩⟩
       case rest =>
        clear HC46
        try clear c1
        try clear p1
        try clear q1
        try clear hx1
        try clear qi1
        try clear c2
        try clear p2
        try clear c3
        try clear c4
        try clear c5
        try clear c7
        try clear c9
        try clear c10
        try clear p10
        try clear q10
        try clear hx10
        try clear qi10
        try clear c11
        try clear p11
        try clear q11
        try clear hx11
        try clear qi11
        try clear c12
        try clear c12b0
        try clear c12b1
        try clear c13
        try clear c13b0
        try clear c13b1
        try clear c14
        try clear c15
        try clear c15b0
        try clear c15b1
        try clear c16
        try clear c17
        try clear c27
        try clear c28
        try clear c32
        try clear c32b0
        try clear c32b1
        try clear c33
        try clear c34
        try clear c37
        try clear c38
        try clear c40
        try clear c41
        try clear c41b0
        try clear c41b1
        try clear c43
        try clear c44
        try clear c47
        try clear c47b0
        try clear c47b1
        try clear c48
        try clear c49
        try clear c52
        try clear c53
        try clear hcz18_0
        try clear hcz18_1
        try clear hcz18_2
        try clear hcz29_0
        try clear hcz29_1
        try clear hcz29_2
        try clear hcz35_0
        try clear hcz35_1
        try clear hcz35_2
        try clear hcz39_0
        try clear hcz39_1
        try clear hcz39_2
        try clear hcz45_0
        try clear hcz45_1
        try clear hcz45_2
        try clear hcz50_0
        try clear hcz50_1
        try clear hcz50_2
        try clear hcz54_0
        try clear hcz54_1
        try clear hcz54_2
        try clear hfz18_0
        try clear hfz18_1
        try clear hfz18_2
        try clear hfz29_0
        try clear hfz29_1
        try clear hfz29_2
        try clear hfz35_0
        try clear hfz35_1
        try clear hfz35_2
        try clear hfz39_0
        try clear hfz39_1
        try clear hfz39_2
        try clear hfz45_0
        try clear hfz45_1
        try clear hfz45_2
        try clear hfz50_0
        try clear hfz50_1
        try clear hfz50_2
        try clear hfz54_0
        try clear hfz54_1
        try clear hfz54_2
        try clear hx107_0
        try clear hx107_1
        try clear hx107_2
        try clear hx111_0
        try clear hx111_1
        try clear hx111_2
        try clear hx115_0
        try clear hx115_1
        try clear hx115_2
        try clear p1
        try clear p10
        try clear p107
        try clear p11
        try clear p111
        try clear p115
        try clear p2
        try clear q1
        try clear q10
        try clear q107
        try clear q11
        try clear q111
        try clear q115
        obtain ⟨kq, x36_45, rfl, HA, HJ45, HO_23, HO_102002, HO_107002, BK101, BK102, BK106, HB⟩ := hcut
        cases kq with
        | zero => exact absurd HA.out (by simp [impl_comb_redex.j2])
        | succ kj45 =>
         have H := HA.out
         clear HA
         simp only [impl_comb_redex.j2] at H
         by_cases c55 : x36_45 = true
         ·subst c55
          rw [if_pos rfl] at H
          by_cases c56 : 0 < (t112.length : Int)
          ·rw [if_pos c56] at H
           have c56b0 : decide (0 < (t112.length : Int)) = true := decide_eq_true c56
           have c56b1 : decide (0 < t112.length) = true := decide_eq_true (by omega)
           clear c56
           simp only [Option.some.injEq, Prod.mk.injEq] at H
           obtain ⟨rfl, rfl, rfl, rfl⟩ := H
           obtain ⟨Ao57, co57, eo57⟩ := Kd.V_slice HO_23.out
           subst eo57
           have p116 : 0 ≤ (0 : Int) := (by omega)
           have q116 : 0 < (t112.length : Int) := dA
           obtain ⟨ad116, A116_2, c116_2, e116, hx116_0, hx116_1, hx116_2, hl116_2, hi116_2⟩ := at_T58 (Kd.V_reads' HO_23.out).2.2 0 p116 q116
           cases e116
           obtain ⟨ce116, hce116, hMe116, hcc116⟩ := Kd.V_get HO_23.out z58 0 p116 (by first | exact q116 | exact dA | (have e_ := (Kd.V_reads' HO_23.out).1; omega))
           obtain ⟨ua116_2, uc116_2, rfl, ul116_2, ge116_2⟩ := k58_openF hMe116
           have hv116_2 := hcc116 2 _ rfl
           rw [add_field _ _ 2 (by omega)] at hv116_2
           replace hv116_2 := Option.some.inj (hv116_2.symm.trans hx116_2)
           injection hv116_2 with hva_ hvn_ hvc_
           rw [hva_] at ge116_2
           rw [hvc_] at ul116_2
           have HL116_2 := aK (show Kd.V k58 58 _ w.heap.size _ _ ((rd_T58 t112 0).f2) from Kd.V_mk ul116_2 ge116_2)
           clear hva_ hvn_ hvc_ ge116_2 ul116_2
           clear hcc116 hce116
           have qi116 : (0 < t112.length) = True := eq_true (by omega)
           (try rw [show ((0 : Int)).toNat = 0 from rfl] at hx116_0)
           (try rw [show 0 * 3 = 0 from rfl] at hx116_0)
           (try rw [Addr.add_zero'] at hx116_0)
           (try rw [show ((0 : Int)).toNat = 0 from rfl] at hx116_1)
           (try rw [show 0 * 3 = 0 from rfl] at hx116_1)
           (try rw [Addr.add_zero'] at hx116_1)
           (try rw [show ((0 : Int)).toNat = 0 from rfl] at hx116_2)
           (try rw [show 0 * 3 = 0 from rfl] at hx116_2)
           (try rw [Addr.add_zero'] at hx116_2)
           have HR116_2 := aK hi116_2
           have HC116_2 := aK hl116_2
           clear hi116_2 hl116_2
           replace p116 := eq_true p116
           replace q116 := eq_true q116
           have hnb58 := NB102_101.out
           have hnc58 := NB101_102.out
           have hnb59 := NB102_106.out
           have hnc59 := NB106_102.out
           have hcz60_0 := k30 BK102
           have hcz60_1 := k31 BK102
           have hcz60_2 := k32 BK102
           have hfz60_0 := fz BK102 0
           have hfz60_1 := fz BK102 1
           have hfz60_2 := fz BK102 2
           go_wp2
           refine bodyPost_ret (results_ct rfl _ _ gb102 58 #[.int .i64 ((rd_T58 t112 0).f0), .int .i64 ((rd_T58 t112 0).f1), .slice A116_2 ((rd_T58 t112 0).f2).length c116_2] (0, 0) _ rfl (p3 BK102) Try.underlying58 rfl (by kernel_rfl)) rfl ?_
           exact ⟨_, eW, by (with_reducible repeat (first | apply Kd.V_alloc | apply Kd.V_drewN | apply Kd.V_drew)); exact Kd.V_mono (vF3 gb102 (Kd.V_mono HL116_2.out (fun k_ hk => (⟨hk, hk.2.2.1⟩ : _ ∧ k_ ≠ gb102))) (fun _ hk => hk.2)) (fun _ hk => hk.1.1), pH HB⟩
          ·rw [if_neg c56] at H
           exact absurd H (by simp)
         ·replace c55 := Bool.eq_false_iff.mpr c55
          subst c55
          rw [if_neg (show ¬ (false = true) by decide)] at H
          have HC61 := aK H
          clear H
          go_upto_region 9 with (fail)
          go_cut [48] (fun v48 wc => ∃ (kq : Nat) (x48_60 : Bool), v48 = .bool x48_60 ∧ Aside0 (impl_comb_redex.j3 kq t112 x48_60 = some (r1, r2, r3, r4)) ∧ Aside0 (kq ≤ kj45) ∧ Aside0 (Kd.V k58 58 wc w.heap.size (fun k_ => (P0_2_ k_ ∨ w.heap.size ≤ k_) ∧ k_ ≠ gb101 ∧ k_ ≠ gb102 ∧ k_ ≠ gb106) v113 t112) ∧ Aside0 (Kd.V k58 58 wc w.heap.size (fun k_ => (P0_2_ k_ ∨ w.heap.size ≤ k_) ∧ k_ ≠ gb101 ∧ k_ ≠ gb102 ∧ k_ ≠ gb106) (.slice A0_2 l0_2.length c0_2) l0_2) ∧ Aside0 (Kd.V k58 58 wc w.heap.size (fun k_ => (P0_2_ k_ ∨ w.heap.size ≤ k_) ∧ k_ ≠ gb101 ∧ k_ ≠ gb102 ∧ k_ ≠ gb106) u107002 x107002_1) ∧ Aside0 (wc.heap[gb101]? = some (.cells #[.int .i64 a0_0, .int .i64 a0_1, (.slice A0_2 l0_2.length c0_2)] 58 (0, 0))) ∧ Aside0 (wc.heap[gb102]? = some (.cells #[.int .i64 0, .int .i64 0, (.slice none 0 0)] 58 (0, 0))) ∧ Aside0 (wc.heap[gb106]? = some (.cells #[.int .i64 x107000_1, .int .i64 x107001_1, u107002] 58 (0, 0))) ∧ Aside0 (Below w.heap.size w wc))
          case first =>
           have H := HC61.out
           clear HC61
           by_cases c62 : x107000_1 = 3
           ·rw [if_pos c62] at H
            have c62b0 : (x107000_1 == 3) = true := beq_iff_eq.mpr c62
            have c62b1 : (x107000_1 != 3) = false := bne_eq_false_iff_eq.mpr c62
            clear c62
            (first | rw [c62b0] | (simp only [i64_w, i32_w]; rw [c62b0]) | skip)
            have H' := aK H
            clear H
            have hnb63 := NB106_101.out
            have hnc63 := NB101_106.out
            have hnb64 := NB106_102.out
            have hnc64 := NB102_106.out
            have hcz65_0 := k30 BK106
            have hcz65_1 := k31 BK106
            have hcz65_2 := k32 BK106
            have hfz65_0 := fz BK106 0
            have hfz65_1 := fz BK106 1
            have hfz65_2 := fz BK106 2
            obtain ⟨Ao66, co66, eo66⟩ := Kd.V_slice HO_23.out
            subst eo66
            go_wp2
            go_meet
            case rel => exact ⟨_, (((t112.length : Int) == 3)), rS, H', ⟨by have := HK1.out; have := HJ25.out; have := HJ45.out; first | omega | exact Nat.le_refl _⟩, ⟨by (with_reducible repeat (first | apply Kd.V_alloc | apply Kd.V_drewN | apply Kd.V_drew)); exact HO_23.out⟩, ⟨by (with_reducible repeat (first | apply Kd.V_alloc | apply Kd.V_drewN | apply Kd.V_drew)); exact HO_102002.out⟩, ⟨by (with_reducible repeat (first | apply Kd.V_alloc | apply Kd.V_drewN | apply Kd.V_drew)); exact HO_107002.out⟩, ⟨pB BK101⟩, ⟨pB BK102⟩, ⟨pB BK106⟩, ⟨pH HB⟩⟩
           ·rw [if_neg c62] at H
            have c62b0 : (x107000_1 == 3) = false := beq_eq_false_iff_ne.mpr c62
            have c62b1 : (x107000_1 != 3) = true := bne_iff_ne.mpr c62
            (first | rw [c62b0] | (simp only [i64_w, i32_w]; rw [c62b0]) | skip)
            have H' := aK H
            clear H
            have hnb67 := NB106_101.out
            have hnc67 := NB101_106.out
            have hnb68 := NB106_102.out
            have hnc68 := NB102_106.out
            have hcz69_0 := k30 BK106
            have hcz69_1 := k31 BK106
            have hcz69_2 := k32 BK106
            have hfz69_0 := fz BK106 0
            have hfz69_1 := fz BK106 1
            have hfz69_2 := fz BK106 2
            go_wp2
            go_meet
            case rel => exact ⟨_, (false), rS, H', ⟨by have := HK1.out; have := HJ25.out; have := HJ45.out; first | omega | exact Nat.le_refl _⟩, ⟨by (with_reducible repeat (first | apply Kd.V_alloc | apply Kd.V_drewN | apply Kd.V_drew)); exact HO_23.out⟩, ⟨by (with_reducible repeat (first | apply Kd.V_alloc | apply Kd.V_drewN | apply Kd.V_drew)); exact HO_102002.out⟩, ⟨by (with_reducible repeat (first | apply Kd.V_alloc | apply Kd.V_drewN | apply Kd.V_drew)); exact HO_107002.out⟩, ⟨pB BK101⟩, ⟨pB BK102⟩, ⟨pB BK106⟩, ⟨pH HB⟩⟩
          case rest =>
           clear HC61
           try clear c1
           try clear p1
           try clear q1
           try clear hx1
           try clear qi1
           try clear c2
           try clear p2
           try clear c3
           try clear c4
           try clear c5
           try clear c6
           try clear c7
           try clear c9
           try clear c10
           try clear p10
           try clear q10
           try clear hx10
           try clear qi10
           try clear c11
           try clear p11
           try clear q11
           try clear hx11
           try clear qi11
           try clear c12
           try clear c12b0
           try clear c12b1
           try clear c13
           try clear c13b0
           try clear c13b1
           try clear c14
           try clear c15
           try clear c15b0
           try clear c15b1
           try clear c16
           try clear c17
           try clear c27
           try clear c28
           try clear c32
           try clear c32b0
           try clear c32b1
           try clear c33
           try clear c34
           try clear c37
           try clear c38
           try clear c40
           try clear c41
           try clear c41b0
           try clear c41b1
           try clear c43
           try clear c44
           try clear c47
           try clear c47b0
           try clear c47b1
           try clear c48
           try clear c49
           try clear c52
           try clear c53
           try clear c55
           try clear c56
           try clear c56b0
           try clear c56b1
           try clear c58
           try clear c59
           try clear c62
           try clear c62b0
           try clear c62b1
           try clear c63
           try clear c64
           try clear c67
           try clear c68
           try clear hcz18_0
           try clear hcz18_1
           try clear hcz18_2
           try clear hcz29_0
           try clear hcz29_1
           try clear hcz29_2
           try clear hcz35_0
           try clear hcz35_1
           try clear hcz35_2
           try clear hcz39_0
           try clear hcz39_1
           try clear hcz39_2
           try clear hcz45_0
           try clear hcz45_1
           try clear hcz45_2
           try clear hcz50_0
           try clear hcz50_1
           try clear hcz50_2
           try clear hcz54_0
           try clear hcz54_1
           try clear hcz54_2
           try clear hcz60_0
           try clear hcz60_1
           try clear hcz60_2
           try clear hcz65_0
           try clear hcz65_1
           try clear hcz65_2
           try clear hcz69_0
           try clear hcz69_1
           try clear hcz69_2
           try clear hfz18_0
           try clear hfz18_1
           try clear hfz18_2
           try clear hfz29_0
           try clear hfz29_1
           try clear hfz29_2
           try clear hfz35_0
           try clear hfz35_1
           try clear hfz35_2
           try clear hfz39_0
           try clear hfz39_1
           try clear hfz39_2
           try clear hfz45_0
           try clear hfz45_1
           try clear hfz45_2
           try clear hfz50_0
           try clear hfz50_1
           try clear hfz50_2
           try clear hfz54_0
           try clear hfz54_1
           try clear hfz54_2
           try clear hfz60_0
           try clear hfz60_1
           try clear hfz60_2
           try clear hfz65_0
           try clear hfz65_1
           try clear hfz65_2
           try clear hfz69_0
           try clear hfz69_1
           try clear hfz69_2
           try clear hx107_0
           try clear hx107_1
           try clear hx107_2
           try clear hx111_0
           try clear hx111_1
           try clear hx111_2
           try clear hx115_0
           try clear hx115_1
           try clear hx115_2
           try clear hx116_0
           try clear hx116_1
           try clear hx116_2
           try clear p1
           try clear p10
           try clear p107
           try clear p11
           try clear p111
           try clear p115
           try clear p116
           try clear p2
           try clear q1
           try clear q10
           try clear q107
           try clear q11
           try clear q111
           try clear q115
           try clear q116
           obtain ⟨kq, x48_60, rfl, HA, HJ60, HO_23, HO_102002, HO_107002, BK101, BK102, BK106, HB⟩ := hcut
           cases kq with
           | zero => exact absurd HA.out (by simp [impl_comb_redex.j3])
           | succ kj60 =>
            have H := HA.out
            clear HA
            simp only [impl_comb_redex.j3] at H
            by_cases c70 : x48_60 = true
            ·subst c70
             rw [if_pos rfl] at H
             by_cases c71 : 0 < (t112.length : Int)
             ·rw [if_pos c71] at H
              have c71b0 : decide (0 < (t112.length : Int)) = true := decide_eq_true c71
              have c71b1 : decide (0 < t112.length) = true := decide_eq_true (by omega)
              clear c71
              by_cases c72 : 2 < (t112.length : Int)
              ·rw [if_pos c72] at H
               have c72b0 : decide (2 < (t112.length : Int)) = true := decide_eq_true c72
               have c72b1 : decide (2 < t112.length) = true := decide_eq_true (by omega)
               clear c72
               replace H := Option.bind_eq_some_iff.mp H
               obtain ⟨⟨t119, t120, t121⟩, A730, H⟩ := H
               try dsimp only at H
               have A73 := aK A730
               clear A730
               by_cases c74 : 1 < (t112.length : Int)
               ·rw [if_pos c74] at H
                have c74b0 : decide (1 < (t112.length : Int)) = true := decide_eq_true c74
                have c74b1 : decide (1 < t112.length) = true := decide_eq_true (by omega)
                clear c74
                replace H := Option.bind_eq_some_iff.mp H
                obtain ⟨⟨t126, t127, t128⟩, A750, H⟩ := H
                try dsimp only at H
                have A75 := aK A750
                clear A750
                replace H := Option.bind_eq_some_iff.mp H
                obtain ⟨⟨t131, t132, t133⟩, A760, H⟩ := H
                try dsimp only at H
                have A76 := aK A760
                clear A760
                simp only [Option.some.injEq, Prod.mk.injEq] at H
                obtain ⟨rfl, rfl, rfl, rfl⟩ := H
                try go_wp2
                have n0_ := aK (Kd.V_drew HO_23.out)
                have n1_ := aK (Kd.V_drew HO_102002.out)
                have n2_ := aK (Kd.V_drew HO_107002.out)
                have n3_ := aK (blk_drew BK101.out)
                have n4_ := aK (blk_drew BK102.out)
                have n5_ := aK (blk_drew BK106.out)
                have n6_ := aK (below_drew1 HB.out)
                clear HO_23
                clear HO_102002
                clear HO_107002
                clear BK101
                clear BK102
                clear BK106
                clear HB
                have HO_23 := n0_
                have HO_102002 := n1_
                have HO_107002 := n2_
                have BK101 := n3_
                have BK102 := n4_
                have BK106 := n5_
                have HB := n6_
                clear n0_ n1_ n2_ n3_ n4_ n5_ n6_
                obtain ⟨Ao78, co78, eo78⟩ := Kd.V_slice HO_23.out
                (first | subst eo78 | (injection eo78 with f1_ f2_ f3_; have f4_ := f1_.symm; have f5_ := f3_.symm; clear f1_ f2_ f3_; subst f4_; subst f5_))
                have p117 : 0 ≤ (0 : Int) := (by omega)
                have q117 : 0 < (t112.length : Int) := dA
                obtain ⟨ad117, A117_2, c117_2, e117, hx117_0, hx117_1, hx117_2, hl117_2, hi117_2⟩ := at_T58 (Kd.V_reads' HO_23.out).2.2 0 p117 q117
                cases e117
                obtain ⟨ce117, hce117, hMe117, hcc117⟩ := Kd.V_get HO_23.out z58 0 p117 (by first | exact q117 | exact dA | (have e_ := (Kd.V_reads' HO_23.out).1; omega))
                obtain ⟨ua117_2, uc117_2, rfl, ul117_2, ge117_2⟩ := k58_openF hMe117
                have hv117_2 := hcc117 2 _ rfl
                rw [add_field _ _ 2 (by omega)] at hv117_2
                replace hv117_2 := Option.some.inj (hv117_2.symm.trans hx117_2)
                injection hv117_2 with hva_ hvn_ hvc_
                rw [hva_] at ge117_2
                rw [hvc_] at ul117_2
                have HL117_2 := aK (show Kd.V k58 58 _ w.heap.size _ _ ((rd_T58 t112 0).f2) from Kd.V_mk ul117_2 ge117_2)
                clear hva_ hvn_ hvc_ ge117_2 ul117_2
                clear hcc117 hce117
                have qi117 : (0 < t112.length) = True := eq_true (by omega)
                (try rw [show ((0 : Int)).toNat = 0 from rfl] at hx117_0)
                (try rw [show 0 * 3 = 0 from rfl] at hx117_0)
                (try rw [Addr.add_zero'] at hx117_0)
                (try rw [show ((0 : Int)).toNat = 0 from rfl] at hx117_1)
                (try rw [show 0 * 3 = 0 from rfl] at hx117_1)
                (try rw [Addr.add_zero'] at hx117_1)
                (try rw [show ((0 : Int)).toNat = 0 from rfl] at hx117_2)
                (try rw [show 0 * 3 = 0 from rfl] at hx117_2)
                (try rw [Addr.add_zero'] at hx117_2)
                have HR117_2 := aK hi117_2
                have HC117_2 := aK hl117_2
                clear hi117_2 hl117_2
                replace p117 := eq_true p117
                replace q117 := eq_true q117
                have p118 : 0 ≤ (2 : Int) := (by omega)
                have q118 : 2 < (t112.length : Int) := dA
                obtain ⟨ad118, A118_2, c118_2, e118, hx118_0, hx118_1, hx118_2, hl118_2, hi118_2⟩ := at_T58 (Kd.V_reads' HO_23.out).2.2 2 p118 q118
                obtain rfl : ad117 = ad118 := (by injection e118)
                obtain ⟨ce118, hce118, hMe118, hcc118⟩ := Kd.V_get HO_23.out z58 2 p118 (by first | exact q118 | exact dA | (have e_ := (Kd.V_reads' HO_23.out).1; omega))
                obtain ⟨ua118_2, uc118_2, rfl, ul118_2, ge118_2⟩ := k58_openF hMe118
                have hv118_2 := hcc118 2 _ rfl
                rw [add_field _ _ 2 (by omega)] at hv118_2
                replace hv118_2 := Option.some.inj (hv118_2.symm.trans hx118_2)
                injection hv118_2 with hva_ hvn_ hvc_
                rw [hva_] at ge118_2
                rw [hvc_] at ul118_2
                have HL118_2 := aK (show Kd.V k58 58 _ w.heap.size _ _ ((rd_T58 t112 2).f2) from Kd.V_mk ul118_2 ge118_2)
                clear hva_ hvn_ hvc_ ge118_2 ul118_2
                clear hcc118 hce118
                (try simp only [show (2 : Int).toNat = 2 from rfl, Nat.reduceMul, Nat.reduceEqDiff, Go.Addr.add, ↓reduceIte] at hx118_0)
                (try simp only [show (2 : Int).toNat = 2 from rfl, Nat.reduceMul, Nat.reduceEqDiff, Go.Addr.add, ↓reduceIte] at hx118_1)
                (try simp only [show (2 : Int).toNat = 2 from rfl, Nat.reduceMul, Nat.reduceEqDiff, Go.Addr.add, ↓reduceIte] at hx118_2)
                have qi118 : (2 < t112.length) = True := eq_true (by omega)
                (try rw [show ((2 : Int)).toNat = 2 from rfl] at hx118_0)
                (try rw [show 2 * 3 = 6 from rfl] at hx118_0)
                (try rw [show ((2 : Int)).toNat = 2 from rfl] at hx118_1)
                (try rw [show 2 * 3 = 6 from rfl] at hx118_1)
                (try rw [show ((2 : Int)).toNat = 2 from rfl] at hx118_2)
                (try rw [show 2 * 3 = 6 from rfl] at hx118_2)
                have HR118_2 := aK hi118_2
                have HC118_2 := aK hl118_2
                clear hi118_2 hl118_2
                replace p118 := eq_true p118
                replace q118 := eq_true q118
                have p124 : 0 ≤ (1 : Int) := (by omega)
                have q124 : 1 < (t112.length : Int) := dA
                obtain ⟨ad124, A124_2, c124_2, e124, hx124_0, hx124_1, hx124_2, hl124_2, hi124_2⟩ := at_T58 (Kd.V_reads' HO_23.out).2.2 1 p124 q124
                obtain rfl : ad117 = ad124 := (by injection e124)
                obtain ⟨ce124, hce124, hMe124, hcc124⟩ := Kd.V_get HO_23.out z58 1 p124 (by first | exact q124 | exact dA | (have e_ := (Kd.V_reads' HO_23.out).1; omega))
                obtain ⟨ua124_2, uc124_2, rfl, ul124_2, ge124_2⟩ := k58_openF hMe124
                have hv124_2 := hcc124 2 _ rfl
                rw [add_field _ _ 2 (by omega)] at hv124_2
                replace hv124_2 := Option.some.inj (hv124_2.symm.trans hx124_2)
                injection hv124_2 with hva_ hvn_ hvc_
                rw [hva_] at ge124_2
                rw [hvc_] at ul124_2
                have HL124_2 := aK (show Kd.V k58 58 _ w.heap.size _ _ ((rd_T58 t112 1).f2) from Kd.V_mk ul124_2 ge124_2)
                clear hva_ hvn_ hvc_ ge124_2 ul124_2
                clear hcc124 hce124
                (try simp only [show (1 : Int).toNat = 1 from rfl, Nat.reduceMul, Nat.reduceEqDiff, Go.Addr.add, ↓reduceIte] at hx124_0)
                (try simp only [show (1 : Int).toNat = 1 from rfl, Nat.reduceMul, Nat.reduceEqDiff, Go.Addr.add, ↓reduceIte] at hx124_1)
                (try simp only [show (1 : Int).toNat = 1 from rfl, Nat.reduceMul, Nat.reduceEqDiff, Go.Addr.add, ↓reduceIte] at hx124_2)
                have qi124 : (1 < t112.length) = True := eq_true (by omega)
                (try rw [show ((1 : Int)).toNat = 1 from rfl] at hx124_0)
                (try rw [show 1 * 3 = 3 from rfl] at hx124_0)
                (try rw [show ((1 : Int)).toNat = 1 from rfl] at hx124_1)
                (try rw [show 1 * 3 = 3 from rfl] at hx124_1)
                (try rw [show ((1 : Int)).toNat = 1 from rfl] at hx124_2)
                (try rw [show 1 * 3 = 3 from rfl] at hx124_2)
                have HR124_2 := aK hi124_2
                have HC124_2 := aK hl124_2
                clear hi124_2 hl124_2
                replace p124 := eq_true p124
                replace q124 := eq_true q124
                have p125 : 0 ≤ (2 : Int) := (by omega)
                have q125 : 2 < (t112.length : Int) := dA
                obtain ⟨ad125, A125_2, c125_2, e125, hx125_0, hx125_1, hx125_2, hl125_2, hi125_2⟩ := at_T58 (Kd.V_reads' HO_23.out).2.2 2 p125 q125
                obtain rfl : ad117 = ad125 := (by injection e125)
                obtain ⟨ce125, hce125, hMe125, hcc125⟩ := Kd.V_get HO_23.out z58 2 p125 (by first | exact q125 | exact dA | (have e_ := (Kd.V_reads' HO_23.out).1; omega))
                obtain ⟨ua125_2, uc125_2, rfl, ul125_2, ge125_2⟩ := k58_openF hMe125
                have hv125_2 := hcc125 2 _ rfl
                rw [add_field _ _ 2 (by omega)] at hv125_2
                replace hv125_2 := Option.some.inj (hv125_2.symm.trans hx125_2)
                injection hv125_2 with hva_ hvn_ hvc_
                rw [hva_] at ge125_2
                rw [hvc_] at ul125_2
                have HL125_2 := aK (show Kd.V k58 58 _ w.heap.size _ _ ((rd_T58 t112 2).f2) from Kd.V_mk ul125_2 ge125_2)
                clear hva_ hvn_ hvc_ ge125_2 ul125_2
                clear hcc125 hce125
                (try simp only [show (2 : Int).toNat = 2 from rfl, Nat.reduceMul, Nat.reduceEqDiff, Go.Addr.add, ↓reduceIte] at hx125_0)
                (try simp only [show (2 : Int).toNat = 2 from rfl, Nat.reduceMul, Nat.reduceEqDiff, Go.Addr.add, ↓reduceIte] at hx125_1)
                (try simp only [show (2 : Int).toNat = 2 from rfl, Nat.reduceMul, Nat.reduceEqDiff, Go.Addr.add, ↓reduceIte] at hx125_2)
                have qi125 : (2 < t112.length) = True := eq_true (by omega)
                (try rw [show ((2 : Int)).toNat = 2 from rfl] at hx125_0)
                (try rw [show 2 * 3 = 6 from rfl] at hx125_0)
                (try rw [show ((2 : Int)).toNat = 2 from rfl] at hx125_1)
                (try rw [show 2 * 3 = 6 from rfl] at hx125_1)
                (try rw [show ((2 : Int)).toNat = 2 from rfl] at hx125_2)
                (try rw [show 2 * 3 = 6 from rfl] at hx125_2)
                have HR125_2 := aK hi125_2
                have HC125_2 := aK hl125_2
                clear hi125_2 hl125_2
                replace p125 := eq_true p125
                replace q125 := eq_true q125
                have ea_ := Option.some.inj (hx118_2.symm.trans hx125_2)
                injection ea_ with ea_ en_ ec_
                subst ea_
                subst ec_
                clear en_
                refine start_ (n := 17) (S := fun w' => w'.cell? ad117 = some (.int .i64 ((rd_T58 t112 0).f0)) ∧ w'.cell? ⟨ad117.block, ad117.off + 1, none⟩ = some (.int .i64 ((rd_T58 t112 0).f1)) ∧ w'.cell? ⟨ad117.block, ad117.off + 2, none⟩ = some (.slice A117_2 ((rd_T58 t112 0).f2).length c117_2) ∧ w'.cell? ⟨ad117.block, ad117.off + 6, none⟩ = some (.int .i64 ((rd_T58 t112 2).f0)) ∧ w'.cell? ⟨ad117.block, ad117.off + 6 + 1, none⟩ = some (.int .i64 ((rd_T58 t112 2).f1)) ∧ w'.cell? ⟨ad117.block, ad117.off + 6 + 2, none⟩ = some (.slice A118_2 ((rd_T58 t112 2).f2).length c118_2) ∧ w'.cell? ⟨ad117.block, ad117.off + 3, none⟩ = some (.int .i64 ((rd_T58 t112 1).f0)) ∧ w'.cell? ⟨ad117.block, ad117.off + 3 + 1, none⟩ = some (.int .i64 ((rd_T58 t112 1).f1)) ∧ w'.cell? ⟨ad117.block, ad117.off + 3 + 2, none⟩ = some (.slice A124_2 ((rd_T58 t112 1).f2).length c124_2) ∧ w'.cell? ⟨ad117.block, ad117.off + 6, none⟩ = some (.int .i64 ((rd_T58 t112 2).f0)) ∧ w'.cell? ⟨ad117.block, ad117.off + 6 + 1, none⟩ = some (.int .i64 ((rd_T58 t112 2).f1)) ∧ w'.cell? ⟨ad117.block, ad117.off + 6 + 2, none⟩ = some (.slice A118_2 ((rd_T58 t112 2).f2).length c118_2)) (ds := []) (bs 0 17) (by kernel_rfl) rfl rfl ⟨hx117_0, hx117_1, hx117_2, hx118_0, hx118_1, hx118_2, hx124_0, hx124_1, hx124_2, hx125_0, hx125_1, hx125_2⟩ (fun hHeld => ?_); refine with_tabW impl_comb_redex.tab10 impl_comb_redex.bits10 (fun HT_ HW_ => ?_)
                generalize wc.drew = w77 at HO_23 HO_102002 HO_107002 BK101 BK102 BK106 HB HL117_2 HL118_2 HL124_2 HL125_2 HR117_2 HR118_2 HR124_2 HR125_2 hx117_0 hx117_1 hx117_2 hx118_0 hx118_1 hx118_2 hx124_0 hx124_1 hx124_2 hx125_0 hx125_1 hx125_2 hHeld ⊢
                refine pure_ (i := 0) (N := some 57) (v := ?_) (a' := ?_) (bs 1 16) rfl rfl (any_of HT_.out (by kernel_rfl)) (fun _ _ _ h => h) (Or.inl ⟨by rfl, ?_⟩) ?_ ?_
                rotate_left
                ·intro w'
                 go_simp
                 with_reducible rfl
                rotate_left
                ·simp only [sP, i64_w, i32_w]
                 rfl
                refine pure_ (i := 1) (N := some 58) (v := ?_) (a' := ?_) (bs 2 15) rfl rfl (any_of HT_.out (by kernel_rfl)) (fun _ _ _ h => h) (Or.inl ⟨by rfl, ?_⟩) ?_ ?_
                rotate_left
                ·intro w'
                 go_simp
                 with_reducible rfl
                rotate_left
                ·simp only [sP, i64_w, i32_w]
                 rfl
                refine pure_ (i := 3) (N := some 60) (v := ?_) (a' := ?_) #[true, true, false, true, false, false, false, false, false, false, false, false, false, false, false, false, false] rfl rfl (any_of HT_.out (by kernel_rfl)) (fun _ _ _ h => h) (Or.inl ⟨by rfl, ?_⟩) ?_ ?_
                rotate_left
                ·intro w'
                 go_simp
                 with_reducible rfl
                rotate_left
                ·simp only [sP, i64_w, i32_w]
                 rfl
                refine pure_ (i := 4) (N := some 61) (v := ?_) (a' := ?_) #[true, true, false, true, true, false, false, false, false, false, false, false, false, false, false, false, false] rfl rfl (any_of HT_.out (by kernel_rfl)) (fun _ _ _ h => h) (Or.inl ⟨by rfl, ?_⟩) ?_ ?_
                rotate_left
                ·intro w'
                 go_simp
                 with_reducible rfl
                rotate_left
                ·simp only [sP, i64_w, i32_w]
                 rfl
                refine pure_ (i := 7) (N := some 64) (v := ?_) (a' := ?_) #[true, true, false, true, true, false, false, true, false, false, false, false, false, false, false, false, false] rfl rfl (any_of HT_.out (by kernel_rfl)) (fun _ _ _ h => h) (Or.inl ⟨by rfl, ?_⟩) ?_ ?_
                rotate_left
                ·intro w'
                 go_simp
                 with_reducible rfl
                rotate_left
                ·simp only [sP, i64_w, i32_w]
                 rfl
                refine pure_ (i := 8) (N := some 65) (v := ?_) (a' := ?_) #[true, true, false, true, true, false, false, true, true, false, false, false, false, false, false, false, false] rfl rfl (any_of HT_.out (by kernel_rfl)) (fun _ _ _ h => h) (Or.inl ⟨by rfl, ?_⟩) ?_ ?_
                rotate_left
                ·intro w'
                 go_simp
                 with_reducible rfl
                rotate_left
                ·simp only [sP, i64_w, i32_w]
                 rfl
                refine pure_ (i := 10) (N := some 67) (v := ?_) (a' := ?_) #[true, true, false, true, true, false, false, true, true, false, true, false, false, false, false, false, false] rfl rfl (any_of HT_.out (by kernel_rfl)) (fun _ _ _ h => h) (Or.inl ⟨by rfl, ?_⟩) ?_ ?_
                rotate_left
                ·intro w'
                 go_simp
                 with_reducible rfl
                rotate_left
                ·simp only [sP, i64_w, i32_w]
                 rfl
                refine pure_ (i := 11) (N := some 68) (v := ?_) (a' := ?_) #[true, true, false, true, true, false, false, true, true, false, true, true, false, false, false, false, false] rfl rfl (any_of HT_.out (by kernel_rfl)) (fun _ _ _ h => h) (Or.inl ⟨by rfl, ?_⟩) ?_ ?_
                rotate_left
                ·intro w'
                 go_simp
                 with_reducible rfl
                rotate_left
                ·simp only [sP, i64_w, i32_w]
                 rfl
                refine take_ (i := 2) (N := some 59) (v := ?_) (a' := ?_) #[true, true, true, true, true, false, false, true, true, false, true, true, false, false, false, false, false] rfl rfl (take_ofW HT_.out HW_.out (by kernel_rfl)) (fun _ _ _ h => h) (Or.inl ⟨by rfl, ?_⟩) hHeld ?_ ?_
                rotate_left
                ·rintro w' ⟨s0, s1, s2, s3, s4, s5, s6, s7, s8, s9, s10, s11⟩
                 go_simp
                 with_reducible rfl
                rotate_left
                ·simp only [sP, i64_w, i32_w]
                 rfl
                refine take_ (i := 5) (N := some 62) (v := ?_) (a' := ?_) #[true, true, true, true, true, true, false, true, true, false, true, true, false, false, false, false, false] rfl rfl (take_ofW HT_.out HW_.out (by kernel_rfl)) (fun _ _ _ h => h) (Or.inl ⟨by rfl, ?_⟩) hHeld ?_ ?_
                rotate_left
                ·rintro w' ⟨s0, s1, s2, s3, s4, s5, s6, s7, s8, s9, s10, s11⟩
                 go_simp
                 with_reducible rfl
                rotate_left
                ·simp only [sP, i64_w, i32_w]
                 rfl
                refine take_ (i := 9) (N := some 66) (v := ?_) (a' := ?_) #[true, true, true, true, true, true, false, true, true, true, true, true, false, false, false, false, false] rfl rfl (take_ofW HT_.out HW_.out (by kernel_rfl)) (fun _ _ _ h => h) (Or.inl ⟨by rfl, ?_⟩) hHeld ?_ ?_
                rotate_left
                ·rintro w' ⟨s0, s1, s2, s3, s4, s5, s6, s7, s8, s9, s10, s11⟩
                 go_simp
                 with_reducible rfl
                rotate_left
                ·simp only [sP, i64_w, i32_w]
                 rfl
                refine take_ (i := 12) (N := some 69) (v := ?_) (a' := ?_) #[true, true, true, true, true, true, false, true, true, true, true, true, true, false, false, false, false] rfl rfl (take_ofW HT_.out HW_.out (by kernel_rfl)) (fun _ _ _ h => h) (Or.inl ⟨by rfl, ?_⟩) hHeld ?_ ?_
                rotate_left
                ·rintro w' ⟨s0, s1, s2, s3, s4, s5, s6, s7, s8, s9, s10, s11⟩
                 go_simp
                 with_reducible rfl
                rotate_left
                ·simp only [sP, i64_w, i32_w]
                 rfl
                refine one_ (i := 6) (N := some 63) (bs 13 4) rfl rfl (one_of HT_.out (by kernel_rfl)) (by decide) (fun K hK => ?_)
                refine goes_ Try.func75 (by kernel_rfl) rfl #[.agg #[.int .i64 ((rd_T58 t112 0).f0), .int .i64 ((rd_T58 t112 0).f1), .slice A117_2 ((rd_T58 t112 0).f2).length c117_2], .agg #[.int .i64 ((rd_T58 t112 2).f0), .int .i64 ((rd_T58 t112 2).f1), .slice A118_2 ((rd_T58 t112 2).f2).length c118_2]] (by rfl) rfl rfl tA ?_
                with_reducible refine (impl_combApp.calls ((rd_T58 t112 0).f0) ((rd_T58 t112 0).f1) (fun k_ => ((P0_2_ k_ ∨ w.heap.size ≤ k_) ∧ (k_ ≠ gb101 ∧ (k_ ≠ gb102 ∧ k_ ≠ gb106)))) _ _ ((rd_T58 t112 0).f2) ((rd_T58 t112 2).f0) ((rd_T58 t112 2).f1) (fun k_ => ((P0_2_ k_ ∨ w.heap.size ≤ k_) ∧ (k_ ≠ gb101 ∧ (k_ ≠ gb102 ∧ k_ ≠ gb106)))) _ _ ((rd_T58 t112 2).f2) t119 t120 t121 _ ?side1 ?side2 A73.out).mono ?_
                (case side1 => exact HL117_2.out)
                (case side2 => exact HL118_2.out)
                rintro e w79 ⟨v122, rfl, ho0, hb⟩
                have HS0_ := (hb.cell (World.block_lt_of_cell? _ _ (hHeld.1))).trans (hHeld.1)
                have HS1_ := (hb.cell (World.block_lt_of_cell? _ _ (hHeld.2.1))).trans (hHeld.2.1)
                have HS2_ := (hb.cell (World.block_lt_of_cell? _ _ (hHeld.2.2.1))).trans (hHeld.2.2.1)
                have HS3_ := (hb.cell (World.block_lt_of_cell? _ _ (hHeld.2.2.2.1))).trans (hHeld.2.2.2.1)
                have HS4_ := (hb.cell (World.block_lt_of_cell? _ _ (hHeld.2.2.2.2.1))).trans (hHeld.2.2.2.2.1)
                have HS5_ := (hb.cell (World.block_lt_of_cell? _ _ (hHeld.2.2.2.2.2.1))).trans (hHeld.2.2.2.2.2.1)
                have HS6_ := (hb.cell (World.block_lt_of_cell? _ _ (hHeld.2.2.2.2.2.2.1))).trans (hHeld.2.2.2.2.2.2.1)
                have HS7_ := (hb.cell (World.block_lt_of_cell? _ _ (hHeld.2.2.2.2.2.2.2.1))).trans (hHeld.2.2.2.2.2.2.2.1)
                have HS8_ := (hb.cell (World.block_lt_of_cell? _ _ (hHeld.2.2.2.2.2.2.2.2.1))).trans (hHeld.2.2.2.2.2.2.2.2.1)
                have HS9_ := (hb.cell (World.block_lt_of_cell? _ _ (hHeld.2.2.2.2.2.2.2.2.2.1))).trans (hHeld.2.2.2.2.2.2.2.2.2.1)
                have HS10_ := (hb.cell (World.block_lt_of_cell? _ _ (hHeld.2.2.2.2.2.2.2.2.2.2.1))).trans (hHeld.2.2.2.2.2.2.2.2.2.2.1)
                have HS11_ := (hb.cell (World.block_lt_of_cell? _ _ (hHeld.2.2.2.2.2.2.2.2.2.2.2))).trans (hHeld.2.2.2.2.2.2.2.2.2.2.2)
                refine ⟨_, rfl, ?_⟩
                have n0_ := aK (Kd.V_elder' HO_23.out (Kd.N_base ho0) hb)
                have n1_ := aK (Kd.V_elder' HO_102002.out (Kd.N_base ho0) hb)
                have n2_ := aK (Kd.V_elder' HO_107002.out (Kd.N_base ho0) hb)
                have n3_ := aK (Kd.V_elder' HL117_2.out (Kd.N_base ho0) hb)
                have n4_ := aK (Kd.V_elder' HL118_2.out (Kd.N_base ho0) hb)
                have n5_ := aK (Kd.V_elder' HL124_2.out (Kd.N_base ho0) hb)
                have n6_ := aK (Kd.V_elder' HL125_2.out (Kd.N_base ho0) hb)
                have n7_ := aK (Kd.N_lower (Kd.N_mono (ok' := fun k_ => (P0_2_ k_ ∨ w.heap.size ≤ k_) ∧ k_ ≠ gb101 ∧ k_ ≠ gb102 ∧ k_ ≠ gb106) ho0 (fun k_ hk_ => ⟨Or.elim hk_ (fun hs_ => Or.elim hs_ (fun hs_ => hs_.1) (fun hs_ => hs_.1)) (fun hn_ => (.inr (Nat.le_trans (below_size (pH HB)) hn_))), Or.elim hk_ (fun hs_ => Or.elim hs_ (fun hs_ => hs_.2.1) (fun hs_ => hs_.2.1)) (fun hn_ => (Kd.freshB BK101.out k_ hn_)), Or.elim hk_ (fun hs_ => Or.elim hs_ (fun hs_ => hs_.2.2.1) (fun hs_ => hs_.2.2.1)) (fun hn_ => (Kd.freshB BK102.out k_ hn_)), Or.elim hk_ (fun hs_ => Or.elim hs_ (fun hs_ => hs_.2.2.2) (fun hs_ => hs_.2.2.2)) (fun hn_ => (Kd.freshB BK106.out k_ hn_))⟩)) (below_size (pH HB)))
                have n8_ := aK (blk_below BK101.out hb)
                have n9_ := aK (blk_below BK102.out hb)
                have n10_ := aK (blk_below BK106.out hb)
                have n11_ := aK (Kd.C_below (by repeat (first | (with_reducible exact HR117_2.out) | (with_reducible refine Kd.C_alloc ?_ _) | (with_reducible refine Kd.C_drewN ?_ _) | (with_reducible refine Kd.C_drew ?_) | exact HR117_2.out)) hb)
                have n12_ := aK (Kd.C_below (by repeat (first | (with_reducible exact HR118_2.out) | (with_reducible refine Kd.C_alloc ?_ _) | (with_reducible refine Kd.C_drewN ?_ _) | (with_reducible refine Kd.C_drew ?_) | exact HR118_2.out)) hb)
                have n13_ := aK (Kd.C_below (by repeat (first | (with_reducible exact HR124_2.out) | (with_reducible refine Kd.C_alloc ?_ _) | (with_reducible refine Kd.C_drewN ?_ _) | (with_reducible refine Kd.C_drew ?_) | exact HR124_2.out)) hb)
                have n14_ := aK (Kd.C_below (by repeat (first | (with_reducible exact HR125_2.out) | (with_reducible refine Kd.C_alloc ?_ _) | (with_reducible refine Kd.C_drewN ?_ _) | (with_reducible refine Kd.C_drew ?_) | exact HR125_2.out)) hb)
                have n15_ := aK (below_step (pH HB) hb)
                clear HO_23
                clear HO_102002
                clear HO_107002
                clear HL117_2
                clear HL118_2
                clear HL124_2
                clear HL125_2
                clear BK101
                clear BK102
                clear BK106
                clear HR117_2
                clear HR118_2
                clear HR124_2
                clear HR125_2
                clear HB
                have HO_23 := n0_
                have HO_102002 := n1_
                have HO_107002 := n2_
                have HL117_2 := n3_
                have HL118_2 := n4_
                have HL124_2 := n5_
                have HL125_2 := n6_
                have HO123 := n7_
                have BK101 := n8_
                have BK102 := n9_
                have BK106 := n10_
                have HR117_2 := n11_
                have HR118_2 := n12_
                have HR124_2 := n13_
                have HR125_2 := n14_
                have HB := n15_
                clear n0_ n1_ n2_ n3_ n4_ n5_ n6_ n7_ n8_ n9_ n10_ n11_ n12_ n13_ n14_ n15_
                (try clear hb)
                (try clear hb2)
                (try clear hk)
                (try clear hi)
                (try clear ho0)
                refine hK.out _ _ ⟨HS0_, HS1_, HS2_, HS3_, HS4_, HS5_, HS6_, HS7_, HS8_, HS9_, HS10_, HS11_⟩ (fun hHeld => ?_)
                clear hK K
                refine norm_ (a' := ?_) ?_ ?_
                rotate_left
                ·show Act.put _ (some 63) _ = _
                 simp only [sP, i64_w, i32_w]
                 rfl
                refine one_ (i := 13) (N := some 70) (bs 14 3) rfl rfl (one_of HT_.out (by kernel_rfl)) (by decide) (fun K hK => ?_)
                refine goes_ Try.func75 (by kernel_rfl) rfl #[.agg #[.int .i64 ((rd_T58 t112 1).f0), .int .i64 ((rd_T58 t112 1).f1), .slice A124_2 ((rd_T58 t112 1).f2).length c124_2], .agg #[.int .i64 ((rd_T58 t112 2).f0), .int .i64 ((rd_T58 t112 2).f1), .slice A118_2 ((rd_T58 t112 2).f2).length c118_2]] (by rfl) rfl rfl tA ?_
                with_reducible refine (impl_combApp.calls ((rd_T58 t112 1).f0) ((rd_T58 t112 1).f1) (fun k_ => (((P0_2_ k_ ∨ w.heap.size ≤ k_) ∧ (k_ ≠ gb101 ∧ (k_ ≠ gb102 ∧ k_ ≠ gb106))) ∧ some k_ ≠ (v122 : Value).ownBlock)) _ _ ((rd_T58 t112 1).f2) ((rd_T58 t112 2).f0) ((rd_T58 t112 2).f1) (fun k_ => (((P0_2_ k_ ∨ w.heap.size ≤ k_) ∧ (k_ ≠ gb101 ∧ (k_ ≠ gb102 ∧ k_ ≠ gb106))) ∧ some k_ ≠ (v122 : Value).ownBlock)) _ _ ((rd_T58 t112 2).f2) t126 t127 t128 _ ?side1 ?side2 A75.out).mono ?_
                (case side1 => exact HL124_2.out)
                (case side2 => exact HL125_2.out)
                rintro e w80 ⟨v129, rfl, ho0, hb⟩
                have HS0_ := (hb.cell (World.block_lt_of_cell? _ _ (hHeld.1))).trans (hHeld.1)
                have HS1_ := (hb.cell (World.block_lt_of_cell? _ _ (hHeld.2.1))).trans (hHeld.2.1)
                have HS2_ := (hb.cell (World.block_lt_of_cell? _ _ (hHeld.2.2.1))).trans (hHeld.2.2.1)
                have HS3_ := (hb.cell (World.block_lt_of_cell? _ _ (hHeld.2.2.2.1))).trans (hHeld.2.2.2.1)
                have HS4_ := (hb.cell (World.block_lt_of_cell? _ _ (hHeld.2.2.2.2.1))).trans (hHeld.2.2.2.2.1)
                have HS5_ := (hb.cell (World.block_lt_of_cell? _ _ (hHeld.2.2.2.2.2.1))).trans (hHeld.2.2.2.2.2.1)
                have HS6_ := (hb.cell (World.block_lt_of_cell? _ _ (hHeld.2.2.2.2.2.2.1))).trans (hHeld.2.2.2.2.2.2.1)
                have HS7_ := (hb.cell (World.block_lt_of_cell? _ _ (hHeld.2.2.2.2.2.2.2.1))).trans (hHeld.2.2.2.2.2.2.2.1)
                have HS8_ := (hb.cell (World.block_lt_of_cell? _ _ (hHeld.2.2.2.2.2.2.2.2.1))).trans (hHeld.2.2.2.2.2.2.2.2.1)
                have HS9_ := (hb.cell (World.block_lt_of_cell? _ _ (hHeld.2.2.2.2.2.2.2.2.2.1))).trans (hHeld.2.2.2.2.2.2.2.2.2.1)
                have HS10_ := (hb.cell (World.block_lt_of_cell? _ _ (hHeld.2.2.2.2.2.2.2.2.2.2.1))).trans (hHeld.2.2.2.2.2.2.2.2.2.2.1)
                have HS11_ := (hb.cell (World.block_lt_of_cell? _ _ (hHeld.2.2.2.2.2.2.2.2.2.2.2))).trans (hHeld.2.2.2.2.2.2.2.2.2.2.2)
                refine ⟨_, rfl, ?_⟩
                have n0_ := aK (Kd.V_elder' HO_23.out (Kd.N_base ho0) hb)
                have n1_ := aK (Kd.V_elder' HO_102002.out (Kd.N_base ho0) hb)
                have n2_ := aK (Kd.V_elder' HO_107002.out (Kd.N_base ho0) hb)
                have n3_ := aK (Kd.V_elder' HL117_2.out (Kd.N_base ho0) hb)
                have n4_ := aK (Kd.V_elder' HL118_2.out (Kd.N_base ho0) hb)
                have n5_ := aK (Kd.V_elder' HL124_2.out (Kd.N_base ho0) hb)
                have n6_ := aK (Kd.V_elder' HL125_2.out (Kd.N_base ho0) hb)
                have n7_ := aK (Kd.N_elder' HO123.out (Kd.N_base ho0) hb)
                have n8_ := aK (Kd.N_lower (Kd.N_mono (ok' := fun k_ => (P0_2_ k_ ∨ w.heap.size ≤ k_) ∧ some k_ ≠ (v122 : Value).ownBlock ∧ k_ ≠ gb101 ∧ k_ ≠ gb102 ∧ k_ ≠ gb106) ho0 (fun k_ hk_ => ⟨Or.elim hk_ (fun hs_ => Or.elim hs_ (fun hs_ => hs_.1.1) (fun hs_ => hs_.1.1)) (fun hn_ => (.inr (Nat.le_trans (below_size (pH HB)) hn_))), Or.elim hk_ (fun hs_ => Or.elim hs_ (fun hs_ => hs_.2) (fun hs_ => hs_.2)) (fun hn_ => (Kd.fresh' (Kd.N_lt HO123.out) k_ hn_)), Or.elim hk_ (fun hs_ => Or.elim hs_ (fun hs_ => hs_.1.2.1) (fun hs_ => hs_.1.2.1)) (fun hn_ => (Kd.freshB BK101.out k_ hn_)), Or.elim hk_ (fun hs_ => Or.elim hs_ (fun hs_ => hs_.1.2.2.1) (fun hs_ => hs_.1.2.2.1)) (fun hn_ => (Kd.freshB BK102.out k_ hn_)), Or.elim hk_ (fun hs_ => Or.elim hs_ (fun hs_ => hs_.1.2.2.2) (fun hs_ => hs_.1.2.2.2)) (fun hn_ => (Kd.freshB BK106.out k_ hn_))⟩)) (below_size (pH HB)))
                have n9_ := aK (blk_below BK101.out hb)
                have n10_ := aK (blk_below BK102.out hb)
                have n11_ := aK (blk_below BK106.out hb)
                have n12_ := aK (Kd.C_below (by repeat (first | (with_reducible exact HR117_2.out) | (with_reducible refine Kd.C_alloc ?_ _) | (with_reducible refine Kd.C_drewN ?_ _) | (with_reducible refine Kd.C_drew ?_) | exact HR117_2.out)) hb)
                have n13_ := aK (Kd.C_below (by repeat (first | (with_reducible exact HR118_2.out) | (with_reducible refine Kd.C_alloc ?_ _) | (with_reducible refine Kd.C_drewN ?_ _) | (with_reducible refine Kd.C_drew ?_) | exact HR118_2.out)) hb)
                have n14_ := aK (Kd.C_below (by repeat (first | (with_reducible exact HR124_2.out) | (with_reducible refine Kd.C_alloc ?_ _) | (with_reducible refine Kd.C_drewN ?_ _) | (with_reducible refine Kd.C_drew ?_) | exact HR124_2.out)) hb)
                have n15_ := aK (Kd.C_below (by repeat (first | (with_reducible exact HR125_2.out) | (with_reducible refine Kd.C_alloc ?_ _) | (with_reducible refine Kd.C_drewN ?_ _) | (with_reducible refine Kd.C_drew ?_) | exact HR125_2.out)) hb)
                have n16_ := aK (below_step (pH HB) hb)
                clear HO_23
                clear HO_102002
                clear HO_107002
                clear HL117_2
                clear HL118_2
                clear HL124_2
                clear HL125_2
                clear HO123
                clear BK101
                clear BK102
                clear BK106
                clear HR117_2
                clear HR118_2
                clear HR124_2
                clear HR125_2
                clear HB
                have HO_23 := n0_
                have HO_102002 := n1_
                have HO_107002 := n2_
                have HL117_2 := n3_
                have HL118_2 := n4_
                have HL124_2 := n5_
                have HL125_2 := n6_
                have HO123 := n7_
                have HO130 := n8_
                have BK101 := n9_
                have BK102 := n10_
                have BK106 := n11_
                have HR117_2 := n12_
                have HR118_2 := n13_
                have HR124_2 := n14_
                have HR125_2 := n15_
                have HB := n16_
                clear n0_ n1_ n2_ n3_ n4_ n5_ n6_ n7_ n8_ n9_ n10_ n11_ n12_ n13_ n14_ n15_ n16_
                (try clear hb)
                (try clear hb2)
                (try clear hk)
                (try clear hi)
                (try clear ho0)
                obtain ⟨Ao81, co81, eo81⟩ := Kd.N_slice HO123.out
                (first | subst eo81 | (injection eo81 with f1_ f2_ f3_; have f4_ := f1_.symm; have f5_ := f3_.symm; clear f1_ f2_ f3_; subst f4_; subst f5_))
                obtain ⟨Ao82, co82, eo82⟩ := Kd.N_slice HO130.out
                (first | subst eo82 | (injection eo82 with f1_ f2_ f3_; have f4_ := f1_.symm; have f5_ := f3_.symm; clear f1_ f2_ f3_; subst f4_; subst f5_))
                refine hK.out _ _ ⟨HS0_, HS1_, HS2_, HS3_, HS4_, HS5_, HS6_, HS7_, HS8_, HS9_, HS10_, HS11_⟩ (fun hHeld => ?_)
                clear hK K
                refine norm_ (a' := ?_) ?_ ?_
                rotate_left
                ·show Act.put _ (some 70) _ = _
                 simp only [sP, i64_w, i32_w]
                 rfl
                refine one_ (i := 14) (N := some 71) (bs 15 2) rfl rfl (one_of HT_.out (by kernel_rfl)) (by decide) (fun K hK => ?_)
                refine goes_ Try.func75 (by kernel_rfl) rfl #[.agg #[.int .i64 t119, .int .i64 t120, .slice Ao81 t121.length co81], .agg #[.int .i64 t126, .int .i64 t127, .slice Ao82 t128.length co82]] (by rfl) rfl rfl tA ?_
                with_reducible refine (impl_combApp.calls t119 t120 (fun k_ => (((P0_2_ k_ ∨ w.heap.size ≤ k_) ∧ (k_ ≠ gb101 ∧ (k_ ≠ gb102 ∧ k_ ≠ gb106))) ∧ some k_ ≠ (.slice Ao82 t128.length co82 : Value).ownBlock)) _ _ t121 t126 t127 (fun k_ => ((P0_2_ k_ ∨ w.heap.size ≤ k_) ∧ (some k_ ≠ (.slice Ao81 t121.length co81 : Value).ownBlock ∧ (k_ ≠ gb101 ∧ (k_ ≠ gb102 ∧ k_ ≠ gb106))))) _ _ t128 t131 t132 t133 _ ?side1 ?side2 A76.out).mono ?_
                (case side1 => exact Kd.N_V (HO123.out))
                (case side2 => exact Kd.N_V (HO130.out))
                rintro e w83 ⟨v134, rfl, ho0, hb⟩
                have HS0_ := (hb.cell (World.block_lt_of_cell? _ _ (hHeld.1))).trans (hHeld.1)
                have HS1_ := (hb.cell (World.block_lt_of_cell? _ _ (hHeld.2.1))).trans (hHeld.2.1)
                have HS2_ := (hb.cell (World.block_lt_of_cell? _ _ (hHeld.2.2.1))).trans (hHeld.2.2.1)
                have HS3_ := (hb.cell (World.block_lt_of_cell? _ _ (hHeld.2.2.2.1))).trans (hHeld.2.2.2.1)
                have HS4_ := (hb.cell (World.block_lt_of_cell? _ _ (hHeld.2.2.2.2.1))).trans (hHeld.2.2.2.2.1)
                have HS5_ := (hb.cell (World.block_lt_of_cell? _ _ (hHeld.2.2.2.2.2.1))).trans (hHeld.2.2.2.2.2.1)
                have HS6_ := (hb.cell (World.block_lt_of_cell? _ _ (hHeld.2.2.2.2.2.2.1))).trans (hHeld.2.2.2.2.2.2.1)
                have HS7_ := (hb.cell (World.block_lt_of_cell? _ _ (hHeld.2.2.2.2.2.2.2.1))).trans (hHeld.2.2.2.2.2.2.2.1)
                have HS8_ := (hb.cell (World.block_lt_of_cell? _ _ (hHeld.2.2.2.2.2.2.2.2.1))).trans (hHeld.2.2.2.2.2.2.2.2.1)
                have HS9_ := (hb.cell (World.block_lt_of_cell? _ _ (hHeld.2.2.2.2.2.2.2.2.2.1))).trans (hHeld.2.2.2.2.2.2.2.2.2.1)
                have HS10_ := (hb.cell (World.block_lt_of_cell? _ _ (hHeld.2.2.2.2.2.2.2.2.2.2.1))).trans (hHeld.2.2.2.2.2.2.2.2.2.2.1)
                have HS11_ := (hb.cell (World.block_lt_of_cell? _ _ (hHeld.2.2.2.2.2.2.2.2.2.2.2))).trans (hHeld.2.2.2.2.2.2.2.2.2.2.2)
                refine ⟨_, rfl, ?_⟩
                have n0_ := aK (Kd.V_elder' HO_23.out (Kd.N_base ho0) hb)
                have n1_ := aK (Kd.V_elder' HO_102002.out (Kd.N_base ho0) hb)
                have n2_ := aK (Kd.V_elder' HO_107002.out (Kd.N_base ho0) hb)
                have n3_ := aK (Kd.V_elder' HL117_2.out (Kd.N_base ho0) hb)
                have n4_ := aK (Kd.V_elder' HL118_2.out (Kd.N_base ho0) hb)
                have n5_ := aK (Kd.V_elder' HL124_2.out (Kd.N_base ho0) hb)
                have n6_ := aK (Kd.V_elder' HL125_2.out (Kd.N_base ho0) hb)
                have n7_ := aK (Kd.N_elder' HO123.out (Kd.N_base ho0) hb)
                have n8_ := aK (Kd.N_elder' HO130.out (Kd.N_base ho0) hb)
                have n9_ := aK (Kd.N_lower (Kd.N_mono (ok' := fun k_ => (P0_2_ k_ ∨ w.heap.size ≤ k_) ∧ k_ ≠ gb101 ∧ k_ ≠ gb102 ∧ k_ ≠ gb106) ho0 (fun k_ hk_ => ⟨Or.elim hk_ (fun hs_ => Or.elim hs_ (fun hs_ => hs_.1.1) (fun hs_ => hs_.1)) (fun hn_ => (.inr (Nat.le_trans (below_size (pH HB)) hn_))), Or.elim hk_ (fun hs_ => Or.elim hs_ (fun hs_ => hs_.1.2.1) (fun hs_ => hs_.2.2.1)) (fun hn_ => (Kd.freshB BK101.out k_ hn_)), Or.elim hk_ (fun hs_ => Or.elim hs_ (fun hs_ => hs_.1.2.2.1) (fun hs_ => hs_.2.2.2.1)) (fun hn_ => (Kd.freshB BK102.out k_ hn_)), Or.elim hk_ (fun hs_ => Or.elim hs_ (fun hs_ => hs_.1.2.2.2) (fun hs_ => hs_.2.2.2.2)) (fun hn_ => (Kd.freshB BK106.out k_ hn_))⟩)) (below_size (pH HB)))
                have n10_ := aK (blk_below BK101.out hb)
                have n11_ := aK (blk_below BK102.out hb)
                have n12_ := aK (blk_below BK106.out hb)
                have n13_ := aK (Kd.C_below (by repeat (first | (with_reducible exact HR117_2.out) | (with_reducible refine Kd.C_alloc ?_ _) | (with_reducible refine Kd.C_drewN ?_ _) | (with_reducible refine Kd.C_drew ?_) | exact HR117_2.out)) hb)
                have n14_ := aK (Kd.C_below (by repeat (first | (with_reducible exact HR118_2.out) | (with_reducible refine Kd.C_alloc ?_ _) | (with_reducible refine Kd.C_drewN ?_ _) | (with_reducible refine Kd.C_drew ?_) | exact HR118_2.out)) hb)
                have n15_ := aK (Kd.C_below (by repeat (first | (with_reducible exact HR124_2.out) | (with_reducible refine Kd.C_alloc ?_ _) | (with_reducible refine Kd.C_drewN ?_ _) | (with_reducible refine Kd.C_drew ?_) | exact HR124_2.out)) hb)
                have n16_ := aK (Kd.C_below (by repeat (first | (with_reducible exact HR125_2.out) | (with_reducible refine Kd.C_alloc ?_ _) | (with_reducible refine Kd.C_drewN ?_ _) | (with_reducible refine Kd.C_drew ?_) | exact HR125_2.out)) hb)
                have n17_ := aK (below_step (pH HB) hb)
                clear HO_23
                clear HO_102002
                clear HO_107002
                clear HL117_2
                clear HL118_2
                clear HL124_2
                clear HL125_2
                clear HO123
                clear HO130
                clear BK101
                clear BK102
                clear BK106
                clear HR117_2
                clear HR118_2
                clear HR124_2
                clear HR125_2
                clear HB
                have HO_23 := n0_
                have HO_102002 := n1_
                have HO_107002 := n2_
                have HL117_2 := n3_
                have HL118_2 := n4_
                have HL124_2 := n5_
                have HL125_2 := n6_
                have HO123 := n7_
                have HO130 := n8_
                have HO135 := n9_
                have BK101 := n10_
                have BK102 := n11_
                have BK106 := n12_
                have HR117_2 := n13_
                have HR118_2 := n14_
                have HR124_2 := n15_
                have HR125_2 := n16_
                have HB := n17_
                clear n0_ n1_ n2_ n3_ n4_ n5_ n6_ n7_ n8_ n9_ n10_ n11_ n12_ n13_ n14_ n15_ n16_ n17_
                (try clear hb)
                (try clear hb2)
                (try clear hk)
                (try clear hi)
                (try clear ho0)
                obtain ⟨Ao86, co86, eo86⟩ := Kd.N_slice HO135.out
                (first | subst eo86 | (injection eo86 with f1_ f2_ f3_; have f4_ := f1_.symm; have f5_ := f3_.symm; clear f1_ f2_ f3_; subst f4_; subst f5_))
                refine hK.out _ _ ⟨HS0_, HS1_, HS2_, HS3_, HS4_, HS5_, HS6_, HS7_, HS8_, HS9_, HS10_, HS11_⟩ (fun hHeld => ?_)
                clear hK K
                refine norm_ (a' := ?_) ?_ ?_
                rotate_left
                ·show Act.put _ (some 71) _ = _
                 simp only [sP, i64_w, i32_w]
                 rfl
                refine one_ (i := 15) (N := none) (bs 16 1) rfl rfl (one_of HT_.out (by kernel_rfl)) (by decide) (fun K hK => ?_)
                have hs84 : w83.cell? ⟨gb102, 0, none⟩ = some (.int .i64 0) := (blk_cell BK102.out 0).trans rfl
                have hfs84 := blk_frozen BK102.out 0
                have hns84_0 := NB101_102.out
                have hns84_2 := NB106_102.out
                have hms84_0 := NB102_101.out
                have hms84_2 := NB102_106.out
                have hs85 : w83.cell? ⟨gb102, 1, none⟩ = some (.int .i64 0) := (blk_cell BK102.out 1).trans rfl
                have hfs85 := blk_frozen BK102.out 1
                have hns85_0 := NB101_102.out
                have hns85_2 := NB106_102.out
                have hms85_0 := NB102_101.out
                have hms85_2 := NB102_106.out
                have hs87 : w83.cell? ⟨gb102, 2, none⟩ = some (.slice none 0 0) := (blk_cell BK102.out 2).trans rfl
                have hfs87 := blk_frozen BK102.out 2
                have hns87_0 := NB101_102.out
                have hns87_2 := NB106_102.out
                have hms87_0 := NB102_101.out
                have hms87_2 := NB102_106.out
                refine skip_ (w1 := ?_) (by rfl) rfl ?_ ?_
                rotate_left
                ·go_simp
                 rfl
                refine hK.out _ _ ⟨((cell_far (p := ⟨gb102, _, none⟩) (by first | exact Kd.own_blk (Kd.V_away79 HO_23.out (fun _ hk => hk.1.1.1.2.2.1)) | (rw [add_block]; exact Kd.own_blk (Kd.V_away79 HO_23.out (fun _ hk => hk.1.1.1.2.2.1))) | (show (Addr.add _ _).block ≠ _; rw [add_block]; exact Kd.own_blk (Kd.V_away79 HO_23.out (fun _ hk => hk.1.1.1.2.2.1))) | (dsimp only; exact Kd.own_blk (Kd.V_away79 HO_23.out (fun _ hk => hk.1.1.1.2.2.1)))) _).trans (((cell_far (p := ⟨gb102, _, none⟩) (by first | exact Kd.own_blk (Kd.V_away79 HO_23.out (fun _ hk => hk.1.1.1.2.2.1)) | (rw [add_block]; exact Kd.own_blk (Kd.V_away79 HO_23.out (fun _ hk => hk.1.1.1.2.2.1))) | (show (Addr.add _ _).block ≠ _; rw [add_block]; exact Kd.own_blk (Kd.V_away79 HO_23.out (fun _ hk => hk.1.1.1.2.2.1))) | (dsimp only; exact Kd.own_blk (Kd.V_away79 HO_23.out (fun _ hk => hk.1.1.1.2.2.1)))) _).trans (((cell_far (p := ⟨gb102, _, none⟩) (by first | exact Kd.own_blk (Kd.V_away79 HO_23.out (fun _ hk => hk.1.1.1.2.2.1)) | (rw [add_block]; exact Kd.own_blk (Kd.V_away79 HO_23.out (fun _ hk => hk.1.1.1.2.2.1))) | (show (Addr.add _ _).block ≠ _; rw [add_block]; exact Kd.own_blk (Kd.V_away79 HO_23.out (fun _ hk => hk.1.1.1.2.2.1))) | (dsimp only; exact Kd.own_blk (Kd.V_away79 HO_23.out (fun _ hk => hk.1.1.1.2.2.1)))) _).trans (hHeld.1)))))), ((cell_far (p := ⟨gb102, _, none⟩) (by first | exact Kd.own_blk (Kd.V_away79 HO_23.out (fun _ hk => hk.1.1.1.2.2.1)) | (rw [add_block]; exact Kd.own_blk (Kd.V_away79 HO_23.out (fun _ hk => hk.1.1.1.2.2.1))) | (show (Addr.add _ _).block ≠ _; rw [add_block]; exact Kd.own_blk (Kd.V_away79 HO_23.out (fun _ hk => hk.1.1.1.2.2.1))) | (dsimp only; exact Kd.own_blk (Kd.V_away79 HO_23.out (fun _ hk => hk.1.1.1.2.2.1)))) _).trans (((cell_far (p := ⟨gb102, _, none⟩) (by first | exact Kd.own_blk (Kd.V_away79 HO_23.out (fun _ hk => hk.1.1.1.2.2.1)) | (rw [add_block]; exact Kd.own_blk (Kd.V_away79 HO_23.out (fun _ hk => hk.1.1.1.2.2.1))) | (show (Addr.add _ _).block ≠ _; rw [add_block]; exact Kd.own_blk (Kd.V_away79 HO_23.out (fun _ hk => hk.1.1.1.2.2.1))) | (dsimp only; exact Kd.own_blk (Kd.V_away79 HO_23.out (fun _ hk => hk.1.1.1.2.2.1)))) _).trans (((cell_far (p := ⟨gb102, _, none⟩) (by first | exact Kd.own_blk (Kd.V_away79 HO_23.out (fun _ hk => hk.1.1.1.2.2.1)) | (rw [add_block]; exact Kd.own_blk (Kd.V_away79 HO_23.out (fun _ hk => hk.1.1.1.2.2.1))) | (show (Addr.add _ _).block ≠ _; rw [add_block]; exact Kd.own_blk (Kd.V_away79 HO_23.out (fun _ hk => hk.1.1.1.2.2.1))) | (dsimp only; exact Kd.own_blk (Kd.V_away79 HO_23.out (fun _ hk => hk.1.1.1.2.2.1)))) _).trans (hHeld.2.1)))))), ((cell_far (p := ⟨gb102, _, none⟩) (by first | exact Kd.own_blk (Kd.V_away79 HO_23.out (fun _ hk => hk.1.1.1.2.2.1)) | (rw [add_block]; exact Kd.own_blk (Kd.V_away79 HO_23.out (fun _ hk => hk.1.1.1.2.2.1))) | (show (Addr.add _ _).block ≠ _; rw [add_block]; exact Kd.own_blk (Kd.V_away79 HO_23.out (fun _ hk => hk.1.1.1.2.2.1))) | (dsimp only; exact Kd.own_blk (Kd.V_away79 HO_23.out (fun _ hk => hk.1.1.1.2.2.1)))) _).trans (((cell_far (p := ⟨gb102, _, none⟩) (by first | exact Kd.own_blk (Kd.V_away79 HO_23.out (fun _ hk => hk.1.1.1.2.2.1)) | (rw [add_block]; exact Kd.own_blk (Kd.V_away79 HO_23.out (fun _ hk => hk.1.1.1.2.2.1))) | (show (Addr.add _ _).block ≠ _; rw [add_block]; exact Kd.own_blk (Kd.V_away79 HO_23.out (fun _ hk => hk.1.1.1.2.2.1))) | (dsimp only; exact Kd.own_blk (Kd.V_away79 HO_23.out (fun _ hk => hk.1.1.1.2.2.1)))) _).trans (((cell_far (p := ⟨gb102, _, none⟩) (by first | exact Kd.own_blk (Kd.V_away79 HO_23.out (fun _ hk => hk.1.1.1.2.2.1)) | (rw [add_block]; exact Kd.own_blk (Kd.V_away79 HO_23.out (fun _ hk => hk.1.1.1.2.2.1))) | (show (Addr.add _ _).block ≠ _; rw [add_block]; exact Kd.own_blk (Kd.V_away79 HO_23.out (fun _ hk => hk.1.1.1.2.2.1))) | (dsimp only; exact Kd.own_blk (Kd.V_away79 HO_23.out (fun _ hk => hk.1.1.1.2.2.1)))) _).trans (hHeld.2.2.1)))))), ((cell_far (p := ⟨gb102, _, none⟩) (by first | exact Kd.own_blk (Kd.V_away79 HO_23.out (fun _ hk => hk.1.1.1.2.2.1)) | (rw [add_block]; exact Kd.own_blk (Kd.V_away79 HO_23.out (fun _ hk => hk.1.1.1.2.2.1))) | (show (Addr.add _ _).block ≠ _; rw [add_block]; exact Kd.own_blk (Kd.V_away79 HO_23.out (fun _ hk => hk.1.1.1.2.2.1))) | (dsimp only; exact Kd.own_blk (Kd.V_away79 HO_23.out (fun _ hk => hk.1.1.1.2.2.1)))) _).trans (((cell_far (p := ⟨gb102, _, none⟩) (by first | exact Kd.own_blk (Kd.V_away79 HO_23.out (fun _ hk => hk.1.1.1.2.2.1)) | (rw [add_block]; exact Kd.own_blk (Kd.V_away79 HO_23.out (fun _ hk => hk.1.1.1.2.2.1))) | (show (Addr.add _ _).block ≠ _; rw [add_block]; exact Kd.own_blk (Kd.V_away79 HO_23.out (fun _ hk => hk.1.1.1.2.2.1))) | (dsimp only; exact Kd.own_blk (Kd.V_away79 HO_23.out (fun _ hk => hk.1.1.1.2.2.1)))) _).trans (((cell_far (p := ⟨gb102, _, none⟩) (by first | exact Kd.own_blk (Kd.V_away79 HO_23.out (fun _ hk => hk.1.1.1.2.2.1)) | (rw [add_block]; exact Kd.own_blk (Kd.V_away79 HO_23.out (fun _ hk => hk.1.1.1.2.2.1))) | (show (Addr.add _ _).block ≠ _; rw [add_block]; exact Kd.own_blk (Kd.V_away79 HO_23.out (fun _ hk => hk.1.1.1.2.2.1))) | (dsimp only; exact Kd.own_blk (Kd.V_away79 HO_23.out (fun _ hk => hk.1.1.1.2.2.1)))) _).trans (hHeld.2.2.2.1)))))), ((cell_far (p := ⟨gb102, _, none⟩) (by first | exact Kd.own_blk (Kd.V_away79 HO_23.out (fun _ hk => hk.1.1.1.2.2.1)) | (rw [add_block]; exact Kd.own_blk (Kd.V_away79 HO_23.out (fun _ hk => hk.1.1.1.2.2.1))) | (show (Addr.add _ _).block ≠ _; rw [add_block]; exact Kd.own_blk (Kd.V_away79 HO_23.out (fun _ hk => hk.1.1.1.2.2.1))) | (dsimp only; exact Kd.own_blk (Kd.V_away79 HO_23.out (fun _ hk => hk.1.1.1.2.2.1)))) _).trans (((cell_far (p := ⟨gb102, _, none⟩) (by first | exact Kd.own_blk (Kd.V_away79 HO_23.out (fun _ hk => hk.1.1.1.2.2.1)) | (rw [add_block]; exact Kd.own_blk (Kd.V_away79 HO_23.out (fun _ hk => hk.1.1.1.2.2.1))) | (show (Addr.add _ _).block ≠ _; rw [add_block]; exact Kd.own_blk (Kd.V_away79 HO_23.out (fun _ hk => hk.1.1.1.2.2.1))) | (dsimp only; exact Kd.own_blk (Kd.V_away79 HO_23.out (fun _ hk => hk.1.1.1.2.2.1)))) _).trans (((cell_far (p := ⟨gb102, _, none⟩) (by first | exact Kd.own_blk (Kd.V_away79 HO_23.out (fun _ hk => hk.1.1.1.2.2.1)) | (rw [add_block]; exact Kd.own_blk (Kd.V_away79 HO_23.out (fun _ hk => hk.1.1.1.2.2.1))) | (show (Addr.add _ _).block ≠ _; rw [add_block]; exact Kd.own_blk (Kd.V_away79 HO_23.out (fun _ hk => hk.1.1.1.2.2.1))) | (dsimp only; exact Kd.own_blk (Kd.V_away79 HO_23.out (fun _ hk => hk.1.1.1.2.2.1)))) _).trans (hHeld.2.2.2.2.1)))))), ((cell_far (p := ⟨gb102, _, none⟩) (by first | exact Kd.own_blk (Kd.V_away79 HO_23.out (fun _ hk => hk.1.1.1.2.2.1)) | (rw [add_block]; exact Kd.own_blk (Kd.V_away79 HO_23.out (fun _ hk => hk.1.1.1.2.2.1))) | (show (Addr.add _ _).block ≠ _; rw [add_block]; exact Kd.own_blk (Kd.V_away79 HO_23.out (fun _ hk => hk.1.1.1.2.2.1))) | (dsimp only; exact Kd.own_blk (Kd.V_away79 HO_23.out (fun _ hk => hk.1.1.1.2.2.1)))) _).trans (((cell_far (p := ⟨gb102, _, none⟩) (by first | exact Kd.own_blk (Kd.V_away79 HO_23.out (fun _ hk => hk.1.1.1.2.2.1)) | (rw [add_block]; exact Kd.own_blk (Kd.V_away79 HO_23.out (fun _ hk => hk.1.1.1.2.2.1))) | (show (Addr.add _ _).block ≠ _; rw [add_block]; exact Kd.own_blk (Kd.V_away79 HO_23.out (fun _ hk => hk.1.1.1.2.2.1))) | (dsimp only; exact Kd.own_blk (Kd.V_away79 HO_23.out (fun _ hk => hk.1.1.1.2.2.1)))) _).trans (((cell_far (p := ⟨gb102, _, none⟩) (by first | exact Kd.own_blk (Kd.V_away79 HO_23.out (fun _ hk => hk.1.1.1.2.2.1)) | (rw [add_block]; exact Kd.own_blk (Kd.V_away79 HO_23.out (fun _ hk => hk.1.1.1.2.2.1))) | (show (Addr.add _ _).block ≠ _; rw [add_block]; exact Kd.own_blk (Kd.V_away79 HO_23.out (fun _ hk => hk.1.1.1.2.2.1))) | (dsimp only; exact Kd.own_blk (Kd.V_away79 HO_23.out (fun _ hk => hk.1.1.1.2.2.1)))) _).trans (hHeld.2.2.2.2.2.1)))))), ((cell_far (p := ⟨gb102, _, none⟩) (by first | exact Kd.own_blk (Kd.V_away79 HO_23.out (fun _ hk => hk.1.1.1.2.2.1)) | (rw [add_block]; exact Kd.own_blk (Kd.V_away79 HO_23.out (fun _ hk => hk.1.1.1.2.2.1))) | (show (Addr.add _ _).block ≠ _; rw [add_block]; exact Kd.own_blk (Kd.V_away79 HO_23.out (fun _ hk => hk.1.1.1.2.2.1))) | (dsimp only; exact Kd.own_blk (Kd.V_away79 HO_23.out (fun _ hk => hk.1.1.1.2.2.1)))) _).trans (((cell_far (p := ⟨gb102, _, none⟩) (by first | exact Kd.own_blk (Kd.V_away79 HO_23.out (fun _ hk => hk.1.1.1.2.2.1)) | (rw [add_block]; exact Kd.own_blk (Kd.V_away79 HO_23.out (fun _ hk => hk.1.1.1.2.2.1))) | (show (Addr.add _ _).block ≠ _; rw [add_block]; exact Kd.own_blk (Kd.V_away79 HO_23.out (fun _ hk => hk.1.1.1.2.2.1))) | (dsimp only; exact Kd.own_blk (Kd.V_away79 HO_23.out (fun _ hk => hk.1.1.1.2.2.1)))) _).trans (((cell_far (p := ⟨gb102, _, none⟩) (by first | exact Kd.own_blk (Kd.V_away79 HO_23.out (fun _ hk => hk.1.1.1.2.2.1)) | (rw [add_block]; exact Kd.own_blk (Kd.V_away79 HO_23.out (fun _ hk => hk.1.1.1.2.2.1))) | (show (Addr.add _ _).block ≠ _; rw [add_block]; exact Kd.own_blk (Kd.V_away79 HO_23.out (fun _ hk => hk.1.1.1.2.2.1))) | (dsimp only; exact Kd.own_blk (Kd.V_away79 HO_23.out (fun _ hk => hk.1.1.1.2.2.1)))) _).trans (hHeld.2.2.2.2.2.2.1)))))), ((cell_far (p := ⟨gb102, _, none⟩) (by first | exact Kd.own_blk (Kd.V_away79 HO_23.out (fun _ hk => hk.1.1.1.2.2.1)) | (rw [add_block]; exact Kd.own_blk (Kd.V_away79 HO_23.out (fun _ hk => hk.1.1.1.2.2.1))) | (show (Addr.add _ _).block ≠ _; rw [add_block]; exact Kd.own_blk (Kd.V_away79 HO_23.out (fun _ hk => hk.1.1.1.2.2.1))) | (dsimp only; exact Kd.own_blk (Kd.V_away79 HO_23.out (fun _ hk => hk.1.1.1.2.2.1)))) _).trans (((cell_far (p := ⟨gb102, _, none⟩) (by first | exact Kd.own_blk (Kd.V_away79 HO_23.out (fun _ hk => hk.1.1.1.2.2.1)) | (rw [add_block]; exact Kd.own_blk (Kd.V_away79 HO_23.out (fun _ hk => hk.1.1.1.2.2.1))) | (show (Addr.add _ _).block ≠ _; rw [add_block]; exact Kd.own_blk (Kd.V_away79 HO_23.out (fun _ hk => hk.1.1.1.2.2.1))) | (dsimp only; exact Kd.own_blk (Kd.V_away79 HO_23.out (fun _ hk => hk.1.1.1.2.2.1)))) _).trans (((cell_far (p := ⟨gb102, _, none⟩) (by first | exact Kd.own_blk (Kd.V_away79 HO_23.out (fun _ hk => hk.1.1.1.2.2.1)) | (rw [add_block]; exact Kd.own_blk (Kd.V_away79 HO_23.out (fun _ hk => hk.1.1.1.2.2.1))) | (show (Addr.add _ _).block ≠ _; rw [add_block]; exact Kd.own_blk (Kd.V_away79 HO_23.out (fun _ hk => hk.1.1.1.2.2.1))) | (dsimp only; exact Kd.own_blk (Kd.V_away79 HO_23.out (fun _ hk => hk.1.1.1.2.2.1)))) _).trans (hHeld.2.2.2.2.2.2.2.1)))))), ((cell_far (p := ⟨gb102, _, none⟩) (by first | exact Kd.own_blk (Kd.V_away79 HO_23.out (fun _ hk => hk.1.1.1.2.2.1)) | (rw [add_block]; exact Kd.own_blk (Kd.V_away79 HO_23.out (fun _ hk => hk.1.1.1.2.2.1))) | (show (Addr.add _ _).block ≠ _; rw [add_block]; exact Kd.own_blk (Kd.V_away79 HO_23.out (fun _ hk => hk.1.1.1.2.2.1))) | (dsimp only; exact Kd.own_blk (Kd.V_away79 HO_23.out (fun _ hk => hk.1.1.1.2.2.1)))) _).trans (((cell_far (p := ⟨gb102, _, none⟩) (by first | exact Kd.own_blk (Kd.V_away79 HO_23.out (fun _ hk => hk.1.1.1.2.2.1)) | (rw [add_block]; exact Kd.own_blk (Kd.V_away79 HO_23.out (fun _ hk => hk.1.1.1.2.2.1))) | (show (Addr.add _ _).block ≠ _; rw [add_block]; exact Kd.own_blk (Kd.V_away79 HO_23.out (fun _ hk => hk.1.1.1.2.2.1))) | (dsimp only; exact Kd.own_blk (Kd.V_away79 HO_23.out (fun _ hk => hk.1.1.1.2.2.1)))) _).trans (((cell_far (p := ⟨gb102, _, none⟩) (by first | exact Kd.own_blk (Kd.V_away79 HO_23.out (fun _ hk => hk.1.1.1.2.2.1)) | (rw [add_block]; exact Kd.own_blk (Kd.V_away79 HO_23.out (fun _ hk => hk.1.1.1.2.2.1))) | (show (Addr.add _ _).block ≠ _; rw [add_block]; exact Kd.own_blk (Kd.V_away79 HO_23.out (fun _ hk => hk.1.1.1.2.2.1))) | (dsimp only; exact Kd.own_blk (Kd.V_away79 HO_23.out (fun _ hk => hk.1.1.1.2.2.1)))) _).trans (hHeld.2.2.2.2.2.2.2.2.1)))))), ((cell_far (p := ⟨gb102, _, none⟩) (by first | exact Kd.own_blk (Kd.V_away79 HO_23.out (fun _ hk => hk.1.1.1.2.2.1)) | (rw [add_block]; exact Kd.own_blk (Kd.V_away79 HO_23.out (fun _ hk => hk.1.1.1.2.2.1))) | (show (Addr.add _ _).block ≠ _; rw [add_block]; exact Kd.own_blk (Kd.V_away79 HO_23.out (fun _ hk => hk.1.1.1.2.2.1))) | (dsimp only; exact Kd.own_blk (Kd.V_away79 HO_23.out (fun _ hk => hk.1.1.1.2.2.1)))) _).trans (((cell_far (p := ⟨gb102, _, none⟩) (by first | exact Kd.own_blk (Kd.V_away79 HO_23.out (fun _ hk => hk.1.1.1.2.2.1)) | (rw [add_block]; exact Kd.own_blk (Kd.V_away79 HO_23.out (fun _ hk => hk.1.1.1.2.2.1))) | (show (Addr.add _ _).block ≠ _; rw [add_block]; exact Kd.own_blk (Kd.V_away79 HO_23.out (fun _ hk => hk.1.1.1.2.2.1))) | (dsimp only; exact Kd.own_blk (Kd.V_away79 HO_23.out (fun _ hk => hk.1.1.1.2.2.1)))) _).trans (((cell_far (p := ⟨gb102, _, none⟩) (by first | exact Kd.own_blk (Kd.V_away79 HO_23.out (fun _ hk => hk.1.1.1.2.2.1)) | (rw [add_block]; exact Kd.own_blk (Kd.V_away79 HO_23.out (fun _ hk => hk.1.1.1.2.2.1))) | (show (Addr.add _ _).block ≠ _; rw [add_block]; exact Kd.own_blk (Kd.V_away79 HO_23.out (fun _ hk => hk.1.1.1.2.2.1))) | (dsimp only; exact Kd.own_blk (Kd.V_away79 HO_23.out (fun _ hk => hk.1.1.1.2.2.1)))) _).trans (hHeld.2.2.2.2.2.2.2.2.2.1)))))), ((cell_far (p := ⟨gb102, _, none⟩) (by first | exact Kd.own_blk (Kd.V_away79 HO_23.out (fun _ hk => hk.1.1.1.2.2.1)) | (rw [add_block]; exact Kd.own_blk (Kd.V_away79 HO_23.out (fun _ hk => hk.1.1.1.2.2.1))) | (show (Addr.add _ _).block ≠ _; rw [add_block]; exact Kd.own_blk (Kd.V_away79 HO_23.out (fun _ hk => hk.1.1.1.2.2.1))) | (dsimp only; exact Kd.own_blk (Kd.V_away79 HO_23.out (fun _ hk => hk.1.1.1.2.2.1)))) _).trans (((cell_far (p := ⟨gb102, _, none⟩) (by first | exact Kd.own_blk (Kd.V_away79 HO_23.out (fun _ hk => hk.1.1.1.2.2.1)) | (rw [add_block]; exact Kd.own_blk (Kd.V_away79 HO_23.out (fun _ hk => hk.1.1.1.2.2.1))) | (show (Addr.add _ _).block ≠ _; rw [add_block]; exact Kd.own_blk (Kd.V_away79 HO_23.out (fun _ hk => hk.1.1.1.2.2.1))) | (dsimp only; exact Kd.own_blk (Kd.V_away79 HO_23.out (fun _ hk => hk.1.1.1.2.2.1)))) _).trans (((cell_far (p := ⟨gb102, _, none⟩) (by first | exact Kd.own_blk (Kd.V_away79 HO_23.out (fun _ hk => hk.1.1.1.2.2.1)) | (rw [add_block]; exact Kd.own_blk (Kd.V_away79 HO_23.out (fun _ hk => hk.1.1.1.2.2.1))) | (show (Addr.add _ _).block ≠ _; rw [add_block]; exact Kd.own_blk (Kd.V_away79 HO_23.out (fun _ hk => hk.1.1.1.2.2.1))) | (dsimp only; exact Kd.own_blk (Kd.V_away79 HO_23.out (fun _ hk => hk.1.1.1.2.2.1)))) _).trans (hHeld.2.2.2.2.2.2.2.2.2.2.1)))))), ((cell_far (p := ⟨gb102, _, none⟩) (by first | exact Kd.own_blk (Kd.V_away79 HO_23.out (fun _ hk => hk.1.1.1.2.2.1)) | (rw [add_block]; exact Kd.own_blk (Kd.V_away79 HO_23.out (fun _ hk => hk.1.1.1.2.2.1))) | (show (Addr.add _ _).block ≠ _; rw [add_block]; exact Kd.own_blk (Kd.V_away79 HO_23.out (fun _ hk => hk.1.1.1.2.2.1))) | (dsimp only; exact Kd.own_blk (Kd.V_away79 HO_23.out (fun _ hk => hk.1.1.1.2.2.1)))) _).trans (((cell_far (p := ⟨gb102, _, none⟩) (by first | exact Kd.own_blk (Kd.V_away79 HO_23.out (fun _ hk => hk.1.1.1.2.2.1)) | (rw [add_block]; exact Kd.own_blk (Kd.V_away79 HO_23.out (fun _ hk => hk.1.1.1.2.2.1))) | (show (Addr.add _ _).block ≠ _; rw [add_block]; exact Kd.own_blk (Kd.V_away79 HO_23.out (fun _ hk => hk.1.1.1.2.2.1))) | (dsimp only; exact Kd.own_blk (Kd.V_away79 HO_23.out (fun _ hk => hk.1.1.1.2.2.1)))) _).trans (((cell_far (p := ⟨gb102, _, none⟩) (by first | exact Kd.own_blk (Kd.V_away79 HO_23.out (fun _ hk => hk.1.1.1.2.2.1)) | (rw [add_block]; exact Kd.own_blk (Kd.V_away79 HO_23.out (fun _ hk => hk.1.1.1.2.2.1))) | (show (Addr.add _ _).block ≠ _; rw [add_block]; exact Kd.own_blk (Kd.V_away79 HO_23.out (fun _ hk => hk.1.1.1.2.2.1))) | (dsimp only; exact Kd.own_blk (Kd.V_away79 HO_23.out (fun _ hk => hk.1.1.1.2.2.1)))) _).trans (hHeld.2.2.2.2.2.2.2.2.2.2.2))))))⟩ (fun hHeld => ?_)
                clear hK K
                refine pure_ (i := 16) (N := some 3) (v := ?_) (a' := ?_) (bs 17 0) rfl rfl (any_of HT_.out (by kernel_rfl)) (fun _ _ _ h => h) (Or.inl ⟨by rfl, ?_⟩) ?_ ?_
                rotate_left
                ·intro w'
                 go_simp
                 with_reducible rfl
                rotate_left
                ·simp only [sP, i64_w, i32_w]
                 rfl
                refine done_ (done_of HT_.out (by kernel_rfl)) ?_
                try go_wp2
                refine bodyPost_ret (results_ct rfl _ _ gb102 58 #[.int .i64 t131, .int .i64 t132, .slice Ao86 t133.length co86] (0, 0) _ rfl (p3 BK102) Try.underlying58 rfl (by kernel_rfl)) rfl ?_
                exact ⟨_, eW, Kd.N_V (by (with_reducible repeat (first | apply Kd.N_alloc | apply Kd.N_drewN | apply Kd.N_drew)); exact Kd.N_mono (nF3 gb102 (Kd.N_mono HO135.out (fun k_ hk => (⟨hk, hk.2.2.1⟩ : _ ∧ k_ ≠ gb102))) (fun _ hk => hk.2)) (fun _ hk => hk.1.1)), pH HB⟩
               ·rw [if_neg c74] at H
                exact absurd H (by simp)
              ·rw [if_neg c72] at H
               exact absurd H (by simp)
             ·rw [if_neg c71] at H
              exact absurd H (by simp)
            ·replace c70 := Bool.eq_false_iff.mpr c70
             subst c70
             rw [if_neg (show ¬ (false = true) by decide)] at H
             simp only [Option.some.injEq, Prod.mk.injEq] at H
             obtain ⟨rfl, rfl, rfl, rfl⟩ := H
             have hnb88 := NB102_101.out
             have hnc88 := NB101_102.out
             have hnb89 := NB102_106.out
             have hnc89 := NB106_102.out
             have hcz90_0 := k30 BK102
             have hcz90_1 := k31 BK102
             have hcz90_2 := k32 BK102
             have hfz90_0 := fz BK102 0
             have hfz90_1 := fz BK102 1
             have hfz90_2 := fz BK102 2
             go_wp2
             refine bodyPost_ret (results_ct rfl _ _ gb102 58 #[.int .i64 0, .int .i64 0, .slice none 0 0] (0, 0) _ rfl (p3 BK102) Try.underlying58 rfl (by kernel_rfl)) rfl ?_
             exact ⟨_, eW, Kd.N_V (by first | exact Kd.R_nil _ _ _ _ _ | exact Kd.N_nil _ _ _ _ _ | exact Kd.V_nil _ _ _ _ _ | exact Kd.Q_nil _ _ _ _ _ | exact Kd.N_nil _ _ _ 0 _), pH HB⟩

end Go.Proofs.Ytcjhhdecckcibaa.G

namespace Go.Proofs.Ytcjhhdecckcibaa.G
open Go.RowKit Go.Proofs.YtcjhhdecckcibaaW.PrintWords Go.Proofs.YtcjhhdecckcibaaW.PrintLast Go.Proofs.YtcjhhdecckcibaaW.PrintMore
attribute [local go_sem] max2_int min2_int max_two min_two max_three min_three max_four min_four   -- for this text's walks alone
set_option linter.unusedVariables false
set_option linter.unusedSimpArgs false

def impl_comb_80.f (l0 : List (S58)) : Option ((List (S58))) := (some (([] : List (S58)) : List (S58))).bind fun y101 => (if y101.length + l0.length < 3518437208883 then (some (y101 ++ l0)) else (none))
set_option maxHeartbeats 8000000 in
set_option maxRecDepth 100000 in
theorem impl_comb_80.calls (P0_ : Nat → Prop) (A0 : Option Addr) (c0 : Nat) (l0 : List (S58)) (r : List (S58)) (w : World) (hs0 : Kd.V k58 58 w w.heap.size (fun k_ => P0_ k_) (.slice A0 l0.length c0) l0) (h : impl_comb_80.f l0 = some r) :
    Calls Try.prog 80 #[.slice A0 l0.length c0] w fun e w' => ∃ v0_ : Value, e = .returned (v0_) ∧ Kd.N k58 58 w' w.heap.size (fun k_ => (P0_ k_ ∨ w.heap.size ≤ k_)) v0_ r ∧ Below w.heap.size w w' := by
  have hnl := fun (W : World) (a : Option Addr) (n c : Nat) => Go.Lib.run_eql_slice_nil (P := Try.prog) W 56 58 a n c 0 0 Try.underlying56
  cases A0 with
  | none =>
    have hl : l0 = [] := by
      cases l0 with
      | nil => rfl
      | cons x xs => obtain ⟨ad, e, _⟩ := (Kd.V_reads' hs0).2.2.2.2 (by simp); cases e
    subst hl
    obtain rfl : [] = r := by simpa [impl_comb_80.f] using h
    go_enter Try.func80, Try.ntmps80
    go_wp2
    go_ret
    exact ⟨_, rfl, Kd.N_nil _ _ _ _ _, Below.refl _ _⟩
  | some ad0 =>
    have HO0 := Aside0.mk (show Kd.V k58 58 w w.heap.size (fun k_ => (P0_ k_ ∨ w.heap.size ≤ k_)) (.slice (some ad0) l0.length c0) l0 from Kd.V_mono hs0 (fun k_ hk => .inl hk))
    have HB := Aside0.mk (Below.refl w.heap.size w)
    have H : ((some (([] : List (S58)) : List (S58))).bind fun y101 => (if y101.length + l0.length < 3518437208883 then (some (y101 ++ l0)) else (none))) = some r := h
    clear h
    obtain ⟨y101, hy101⟩ : ∃ y_ : List (S58), y_ = (([] : List (S58))) := ⟨_, rfl⟩
    replace H : (if y101.length + l0.length < 3518437208883 then (some (y101 ++ l0)) else (none)) = some r := by first | (rw [hy101]; with_reducible exact H) | (have H2_ := (Option.bind_some _ _).symm.trans H; rw [hy101]; with_reducible exact H2_) | (have H2_ := (Option.bind_some _ _).symm.trans H; with_reducible exact H2_) | with_reducible exact H | (rw [hy101]; exact H) | exact H
    have Ny101 := Aside0.mk hy101
    clear hy101
    by_cases c2 : y101.length + l0.length < 3518437208883
    · rw [if_pos c2] at H
      have LMc2 := Aside0.mk c2
      clear c2
      obtain ⟨y104, hy104⟩ : ∃ y_ : List (S58), y_ = (y101 ++ l0) := ⟨_, rfl⟩
      replace H : (some y104) = some r := by first | (rw [hy104]; with_reducible exact H) | (have H2_ := (Option.bind_some _ _).symm.trans H; rw [hy104]; with_reducible exact H2_) | (have H2_ := (Option.bind_some _ _).symm.trans H; with_reducible exact H2_) | with_reducible exact H | (rw [hy104]; exact H) | exact H
      have Ny104 := Aside0.mk hy104
      clear hy104
      obtain rfl := Option.some.inj H
      go_enter Try.func80, Try.ntmps80
      go_wp2_with (first | ((with_reducible refine gate_dst (N := 5) rfl ?_); refine Kd.N_lit k58 _ 58 ?hg (N' := 5) ?hd (xs := ([] : List (S58))) (inner := []) (ok := (fun k_ => (P0_ k_ ∨ w.heap.size ≤ k_))) (okp := (fun k_ => (P0_ k_ ∨ w.heap.size ≤ k_))) ?hr ?hp (fun _ hk => hk) ((show ∀ k_, w.heap.size ≤ k_ → (fun k_ => (P0_ k_ ∨ w.heap.size ≤ k_)) k_ from fun k_ hk => (.inr (Nat.le_trans (below_size (by repeat (first | (with_reducible first | exact HB.out | apply below_alloc | apply pw_below_drewN | apply below_drew1) | exact HB.out))) hk))) _ (Nat.le_refl _)) (Below.refl _ _) (Nat.le_refl _) (by simp) ?_; (case hd => rfl); (case hg => rfl); (case hr => first | (go_simp; done) | (go_simp; rfl)); (case hp => exact (Reps.none _ _)); intro v102 w3 ho4 hb hg_ hnew_; clear hg_ hnew_; (first | rw [← Ny101.out] at ho4 | (simp only [Int.reduceToNat] at ho4; rw [← Ny101.out] at ho4)); have n0_ := Aside0.mk (Kd.V_elder' (by (with_reducible repeat (first | apply Kd.V_alloc | apply Kd.V_drewN | apply Kd.V_drew)); exact HO0.out) (Kd.N_base ho4) hb); have n1_ := Aside0.mk (Kd.N_lower ho4 (below_size (by repeat (first | (with_reducible first | exact HB.out | apply below_alloc | apply pw_below_drewN | apply below_drew1) | exact HB.out)))); have n2_ := Aside0.mk (below_step (by repeat (first | (with_reducible first | exact HB.out | apply below_alloc | apply pw_below_drewN | apply below_drew1) | exact HB.out)) hb); clear HO0; clear HB; have HO0 := n0_; have HO103 := n1_; have HB := n2_; clear n0_ n1_ n2_; clear hb ho4) | ((with_reducible refine gate_builtin (b := .append) (xs := #[.tmp 5, .tmp 6]) rfl ?_); at_builtin; refine Kd.N_append_rows k58 (w0 := w) w.heap.size rfl (.tmp 5) (.tmp 6) 56 58 (.agg #[(.int .i64 0), (.int .i64 0), (.slice none 0 0)]) 40 rfl Try.underlying56 info58 rfl (by decide) (by omega) v102 y101 l0 _ _ _ (fun k_ => (P0_ k_ ∨ w.heap.size ≤ k_)) (fun k_ => ((fun k_ => (P0_ k_ ∨ w.heap.size ≤ k_))) k_ ∧ some k_ ≠ (v102 : Value).ownBlock) rfl rfl ?aO ?aR (fun _ hk => hk) ?aF ?aB ?aS ?aL ?_; (case aR => exact (by skip; exact Kd.V_F (Kd.V_mono (ok' := (fun k_ => ((fun k_ => (P0_ k_ ∨ w.heap.size ≤ k_))) k_ ∧ some k_ ≠ (v102 : Value).ownBlock)) (HO0.out) (fun k_ hk => ⟨hk.1, hk.2⟩)))); (case aB => exact (by repeat (first | (with_reducible first | exact HB.out | apply below_alloc | apply pw_below_drewN | apply below_drew1) | exact HB.out))); (case aF => exact (fun k_ hk => (.inr (Nat.le_trans (below_size (by repeat (first | (with_reducible first | exact HB.out | apply below_alloc | apply pw_below_drewN | apply below_drew1) | exact HB.out))) hk)))); (case aO => exact (by (with_reducible repeat (first | apply Kd.N_alloc | apply Kd.N_drewN | apply Kd.N_drew)); exact HO103.out)); (case aS => exact (below_size (by repeat (first | (with_reducible first | exact HB.out | apply below_alloc | apply pw_below_drewN | apply below_drew1) | exact HB.out)))); (case aL => have := LMc2.out; omega); intro v105 w5 ho hb hg hat; rw [← Ny104.out] at ho; have n0_ := Aside0.mk (Kd.V_afterv (ok := (fun k_ => (P0_ k_ ∨ w.heap.size ≤ k_))) (by (with_reducible repeat (first | apply Kd.V_alloc | apply Kd.V_drewN | apply Kd.V_drew)); exact HO0.out) hg hat); have n1_ := Aside0.mk (hb); have n2_ := Aside0.mk (ho); clear HO0; clear HB; clear HO103; have HO0 := n0_; have HB := n1_; have HO106 := n2_; clear n0_ n1_ n2_; clear ho hb hg hat))
      go_ret
      exact ⟨_, by first | rfl | (simp [errW_none, errW_some] <;> rfl) | (simp [*, errW_none, errW_some] <;> rfl), by (with_reducible repeat (first | apply Kd.N_alloc | apply Kd.N_drewN | apply Kd.N_drew)); exact HO106.out, by repeat (first | (with_reducible first | exact HB.out | apply below_alloc | apply pw_below_drewN | apply below_drew1) | exact HB.out)⟩
    · rw [if_neg c2] at H
      exact absurd H (by simp)
end Go.Proofs.Ytcjhhdecckcibaa.G
