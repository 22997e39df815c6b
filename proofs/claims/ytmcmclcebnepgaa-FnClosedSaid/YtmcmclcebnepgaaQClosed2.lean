/- Part 2 of 5 of the proof that the law FnClosedSaid holds: for every input that can be read the call returns true and leaves its arguments as they were; no condition but those each theorem names. -/
import Derived.Test.YtmcmclcebnepgaaQClosedW1
import Derived.Test.YtmcmclcebnepgaaQClosed1
namespace Go.Proofs.Ytmcmclcebnepgaa.G
open Go.RowKit Go.Proofs.YtmcmclcebnepgaaW.PrintWords Go.Proofs.YtmcmclcebnepgaaW.PrintLast Go.Proofs.YtmcmclcebnepgaaW.PrintMore
attribute [local go_sem] max2_int min2_int max_two min_two max_three min_three max_four min_four   -- for this text's walks alone
set_option linter.unusedVariables false
set_option linter.unusedSimpArgs false

mutual
def impl_termAt.j0 : Nat → List (S70) → Int → Bool → Option (Int × Int × (List (S37)) × Int × Bool)
 | 0, _, _, _ => none
 | k + 1, x0, x1, x42 => if x42 = true then (some (0, 0, ([] : List (S37)), 0, false)) else (if 0 ≤ x1 then (if x1 < (x0.length : Int) then (impl_termAt.l0 k x0 x1 (wrap64 (x1 + 1)) (wrap64 (((rd_T70 x0 x1).f0) - 1)) 0 ((rd_T70 x0 x1).f0) ((rd_T70 x0 x1).f1) ([] : List (S37))) else (none)) else (none))
def impl_termAt.l0 : Nat → List (S70) → Int → Int → Int → Int → Int → Int → List (S37) → Option (Int × Int × (List (S37)) × Int × Bool)
 | 0, _, _, _, _, _, _, _, _ => none
 | k + 1, x0, x1, x10, x59, x60, x108000, x108001, x108002 => if x60 < x59 then ((impl_termAt.f k x0 x10 x1).bind fun bt108 => (if bt108.2.2.2.2 = true then (if x108002.length < 3518437208883 then (impl_termAt.l0 k x0 x1 bt108.2.2.2.1 x59 (wrap64 (x60 + 1)) x108000 x108001 (x108002 ++ [(⟨bt108.1, bt108.2.1, bt108.2.2.1⟩ : S37)])) else (none)) else (some (0, 0, ([] : List (S37)), 0, false)))) else (some (x108000, x108001, x108002, x10, true))
def impl_termAt.f : Nat → List (S70) → Int → Int → Option (Int × Int × (List (S37)) × Int × Bool)
 | 0, _, _, _ => none
 | k + 1, l0, a1, a2 => if a1 = (l0.length : Int) then (impl_termAt.j0 k l0 a1 true) else (if 0 ≤ a1 then (if a1 < (l0.length : Int) then (if ((rd_T70 l0 a1).f2) = a2 then (if ((rd_T70 l0 a1).f0) < 1 then (impl_termAt.j0 k l0 a1 true) else (impl_termAt.j0 k l0 a1 (decide (((rd_T70 l0 a1).f0) > 3)))) else (impl_termAt.j0 k l0 a1 true)) else (none)) else (none))
end
def impl_termAt.T3 : Bool × List (List Nat × List Nat) := (true, [([], []), ([], []), ([0, 1], [0, 1]), ([2], [2]), ([3], [3]), ([], []), ([], []), ([5, 6], [5, 6]), ([7], [7]), ([8], [8]), ([4, 9], [4, 9]), ([], []), ([11], [11]), ([], []), ([13, 10, 0, 1, 2, 3, 4, 5, 6, 7, 8, 9, 10, 13], [10, 13]), ([12, 14, 0, 1, 2, 3, 4, 5, 6, 7, 8, 9, 10, 11, 12, 13, 14], [12])])
def impl_termAt.B3 : List Nat := [0, 0, 3, 7, 15, 0, 0, 96, 224, 480, 1023, 0, 2048, 0, 10239, 32767]
theorem impl_termAt.tab3 : rtab .any (opsOf Try.f19 3) = impl_termAt.T3 := by kernel_rfl
theorem impl_termAt.bits3 : waitsOk impl_termAt.T3.2 impl_termAt.B3 = true := by kernel_rfl
set_option maxHeartbeats 8000000 in
set_option maxRecDepth 100000 in
theorem impl_termAt.calls (k : Nat) : ∀ (A0 : Option Addr) (c0 : Nat) (l0 : List (S70)) (a1 : Int) (a2 : Int) (r1 : Int) (r2 : Int) (r3 : List (S37)) (r4 : Int) (r5 : Bool) (w : World) (hr0 : Kd.C k70 w A0 l0.length l0) (hc0 : l0.length ≤ c0) (h : impl_termAt.f k l0 a1 a2 = some (r1, r2, r3, r4, r5)),
  Calls Try.prog 19 #[.slice A0 l0.length c0, .int .i64 a1, .int .i64 a2] w fun e w' => ∃ v2_ : Value, e = .returned (.tuple #[.agg #[.int .i64 r1, .int .i64 r2, v2_], .int .i64 r4, .bool r5]) ∧ Kd.R k37 37 w' w.heap.size (fun _ => True) v2_ r3 ∧ Below w.heap.size w w' := by
 induction k using Nat.strongRecOn with
 | _ k ih =>
 intro A0 c0 l0 a1 a2 r1 r2 r3 r4 r5 w hr0 hc0 h
 cases k with
 | zero => exact absurd h (by simp [impl_termAt.f])
 | succ k =>
 simp only [impl_termAt.f] at h
 have hu37 := Try.underlying37
 have HR0 := aK hr0
 have HC0 := aK hc0
 clear hr0 hc0
 have HB := aK (Below.refl w.heap.size w)
 have H : (if a1 = (l0.length : Int) then (impl_termAt.j0 k l0 a1 true) else (if 0 ≤ a1 then (if a1 < (l0.length : Int) then (if ((rd_T70 l0 a1).f2) = a2 then (if ((rd_T70 l0 a1).f0) < 1 then (impl_termAt.j0 k l0 a1 true) else (impl_termAt.j0 k l0 a1 (decide (((rd_T70 l0 a1).f0) > 3)))) else (impl_termAt.j0 k l0 a1 true)) else (none)) else (none))) = some (r1, r2, r3, r4, r5) := h
 clear h
 have HC4 := aK H
 clear H
 go_enter Try.func19, Try.ntmps19
 go_upto_region 1 with (first | ((with_reducible refine gate_dst (N := 6) rfl ?_); refine bE (N := 6) (cs := #[.int .i64 0, .int .i64 0, .slice none 0 0]) (t := 37) ?_; intro gb101 hg w5 hbox hb; have GW101 := qw HB hg; have GE101 := qw HB hg; have BK101 := aK hbox; replace HB := qs HB hb; clear hb hbox hg))
 (try simp only [Act.put, List.setIfInBounds_toArray, List.set_cons_zero, List.set_cons_succ])
 go_cut [42] (fun v42 wc => ∃ (kq : Nat) (x42_3 : Bool), v42 = .bool x42_3 ∧ Aside0 (impl_termAt.j0 kq l0 a1 x42_3 = some (r1, r2, r3, r4, r5)) ∧ Aside0 (kq ≤ k) ∧ Aside0 (wc.heap[gb101]? = some (.cells #[.int .i64 0, .int .i64 0, (.slice none 0 0)] 37 (0, 0))) ∧ Aside0 (Below w.heap.size w wc))
 case first =>
  have H := HC4.out
  clear HC4
  by_cases c6 : a1 = (l0.length : Int)
  ·rw [if_pos c6] at H
   have c6b0 : (a1 == (l0.length : Int)) = true := beq_iff_eq.mpr c6
   have c6b1 : (a1 != (l0.length : Int)) = false := bne_eq_false_iff_eq.mpr c6
   clear c6
   (first | rw [c6b0] | (simp only [i64_w, i32_w]; rw [c6b0]) | skip)
   have H' := aK H
   clear H
   go_wp2
   go_meet
   case rel => exact ⟨_, (true), rS, H', ⟨by first | omega | exact Nat.le_refl _⟩, ⟨pB BK101⟩, ⟨pH HB⟩⟩
  ·rw [if_neg c6] at H
   have c6b0 : (a1 == (l0.length : Int)) = false := beq_eq_false_iff_ne.mpr c6
   have c6b1 : (a1 != (l0.length : Int)) = true := bne_iff_ne.mpr c6
   (first | rw [c6b0] | (simp only [i64_w, i32_w]; rw [c6b0]) | skip)
   by_cases c7 : 0 ≤ a1
   ·rw [if_pos c7] at H
    have c7b0 : decide (0 ≤ a1) = true := decide_eq_true c7
    clear c7
    by_cases c8 : a1 < (l0.length : Int)
    ·rw [if_pos c8] at H
     have c8b0 : decide (a1 < (l0.length : Int)) = true := decide_eq_true c8
     clear c8
     by_cases c9 : ((rd_T70 l0 a1).f2) = a2
     ·rw [if_pos c9] at H
      have c9b0 : (((rd_T70 l0 a1).f2) == a2) = true := beq_iff_eq.mpr c9
      have c9b1 : (((rd_T70 l0 a1).f2) != a2) = false := bne_eq_false_iff_eq.mpr c9
      clear c9
      by_cases c10 : ((rd_T70 l0 a1).f0) < 1
      ·rw [if_pos c10] at H
       have c10b0 : decide (((rd_T70 l0 a1).f0) < 1) = true := decide_eq_true c10
       clear c10
       have H' := aK H
       clear H
       have p102 : 0 ≤ (a1 : Int) := dA
       have q102 : a1 < (l0.length : Int) := dA
       obtain ⟨ad102, e102, hx102_0, hx102_1, hx102_2⟩ := at_T70 HR0.out a1 p102 q102
       cases e102
       replace hx102_0 := uC HB hx102_0
       replace hx102_1 := uC HB hx102_1
       replace hx102_2 := uC HB hx102_2
       replace p102 := eq_true p102
       replace q102 := eq_true q102
       have p103 : 0 ≤ (a1 : Int) := dA
       have q103 : a1 < (l0.length : Int) := dA
       obtain ⟨ad103, e103, hx103_0, hx103_1, hx103_2⟩ := at_T70 HR0.out a1 p103 q103
       obtain rfl : ad102 = ad103 := (by injection e103)
       replace hx103_0 := uC HB hx103_0
       replace hx103_1 := uC HB hx103_1
       replace hx103_2 := uC HB hx103_2
       replace p103 := eq_true p103
       replace q103 := eq_true q103
       go_wp2
       go_meet
       case rel => exact ⟨_, (true), rS, H', ⟨by first | omega | exact Nat.le_refl _⟩, ⟨pB BK101⟩, ⟨pH HB⟩⟩
      ·rw [if_neg c10] at H
       have c10b0 : decide (((rd_T70 l0 a1).f0) < 1) = false := decide_eq_false c10
       clear c10
       have H' := aK H
       clear H
       have p102 : 0 ≤ (a1 : Int) := dA
       have q102 : a1 < (l0.length : Int) := dA
       obtain ⟨ad102, e102, hx102_0, hx102_1, hx102_2⟩ := at_T70 HR0.out a1 p102 q102
       cases e102
       replace hx102_0 := uC HB hx102_0
       replace hx102_1 := uC HB hx102_1
       replace hx102_2 := uC HB hx102_2
       replace p102 := eq_true p102
       replace q102 := eq_true q102
       have p103 : 0 ≤ (a1 : Int) := dA
       have q103 : a1 < (l0.length : Int) := dA
       obtain ⟨ad103, e103, hx103_0, hx103_1, hx103_2⟩ := at_T70 HR0.out a1 p103 q103
       obtain rfl : ad102 = ad103 := (by injection e103)
       replace hx103_0 := uC HB hx103_0
       replace hx103_1 := uC HB hx103_1
       replace hx103_2 := uC HB hx103_2
       replace p103 := eq_true p103
       replace q103 := eq_true q103
       have p104 : 0 ≤ (a1 : Int) := dA
       have q104 : a1 < (l0.length : Int) := dA
       obtain ⟨ad104, e104, hx104_0, hx104_1, hx104_2⟩ := at_T70 HR0.out a1 p104 q104
       obtain rfl : ad102 = ad104 := (by injection e104)
       replace hx104_0 := uC HB hx104_0
       replace hx104_1 := uC HB hx104_1
       replace hx104_2 := uC HB hx104_2
       replace p104 := eq_true p104
       replace q104 := eq_true q104
       go_wp2
       go_meet
       case rel => exact ⟨_, (decide (((rd_T70 l0 a1).f0) > 3)), rS, H', ⟨by first | omega | exact Nat.le_refl _⟩, ⟨pB BK101⟩, ⟨pH HB⟩⟩
     ·rw [if_neg c9] at H
      have c9b0 : (((rd_T70 l0 a1).f2) == a2) = false := beq_eq_false_iff_ne.mpr c9
      have c9b1 : (((rd_T70 l0 a1).f2) != a2) = true := bne_iff_ne.mpr c9
      have H' := aK H
      clear H
      have p102 : 0 ≤ (a1 : Int) := dA
      have q102 : a1 < (l0.length : Int) := dA
      obtain ⟨ad102, e102, hx102_0, hx102_1, hx102_2⟩ := at_T70 HR0.out a1 p102 q102
      cases e102
      replace hx102_0 := uC HB hx102_0
      replace hx102_1 := uC HB hx102_1
      replace hx102_2 := uC HB hx102_2
      replace p102 := eq_true p102
      replace q102 := eq_true q102
      go_wp2
      go_meet
      case rel => exact ⟨_, (true), rS, H', ⟨by first | omega | exact Nat.le_refl _⟩, ⟨pB BK101⟩, ⟨pH HB⟩⟩
    ·rw [if_neg c8] at H
     exact absurd H (by simp)
   ·rw [if_neg c7] at H
    exact absurd H (by simp)
 case rest =>
  clear HC4
  try clear c1; try clear p1; try clear q1; try clear hx1; try clear p2; try clear c6; try clear c6b0; try clear c6b1; try clear c7; try clear c7b0; try clear c8; try clear c8b0; try clear c9; try clear c9b0; try clear c9b1; try clear c10; try clear c10b0; try clear p10; try clear q10; try clear hx10; try clear hx102_0; try clear hx102_1; try clear hx102_2; try clear hx103_0; try clear hx103_1; try clear hx103_2; try clear hx104_0; try clear hx104_1; try clear hx104_2; try clear p102; try clear p103; try clear p104; try clear q102; try clear q103; try clear q104
  obtain ⟨kq, x42_3, rfl, HA, HJ3, BK101, HB⟩ := hcut
  cases kq with
  | zero => exact absurd HA.out (by simp [impl_termAt.j0])
  | succ kj3 =>
   have H := HA.out
   clear HA
   simp only [impl_termAt.j0] at H
   by_cases c11 : x42_3 = true
   ·subst c11
    rw [if_pos rfl] at H
    simp only [Option.some.injEq, Prod.mk.injEq] at H
    obtain ⟨rfl, rfl, rfl, rfl, rfl⟩ := H
    obtain ⟨hcz12_0, hcz12_1, hcz12_2, hfz12_0, hfz12_1, hfz12_2⟩ := cA3 BK101
    go_wp2
    refine bodyPost_ret (results_ctt rfl _ _ gb101 37 #[.int .i64 0, .int .i64 0, .slice none 0 0] (0, 0) _ rfl (p3 BK101) Try.underlying37 rfl (by kernel_rfl)) rfl ?_
    exact ⟨_, eW, by first | exact Kd.R_nil _ _ _ _ _ | exact Kd.N_nil _ _ _ _ _ | exact Kd.V_nil _ _ _ _ _ | exact Kd.Q_nil _ _ _ _ _ | exact Kd.S_nil _ _ _ _ _, pH HB⟩
   ·replace c11 := Bool.eq_false_iff.mpr c11
    subst c11
    rw [if_neg (show ¬ (false = true) by decide)] at H
    by_cases c13 : 0 ≤ a1
    ·rw [if_pos c13] at H
     have c13b0 : decide (0 ≤ a1) = true := decide_eq_true c13
     clear c13
     by_cases c14 : a1 < (l0.length : Int)
     ·rw [if_pos c14] at H
      have c14b0 : decide (a1 < (l0.length : Int)) = true := decide_eq_true c14
      clear c14
      have H' := aK H
      clear H
      try go_wp2
      have n0_ := aK (blk_drew BK101.out)
      have n1_ := aK (below_drew1 HB.out)
      clear BK101
      clear HB
      have BK101 := n0_
      have HB := n1_
      clear n0_ n1_
      have p105 : 0 ≤ (a1 : Int) := dA
      have q105 : a1 < (l0.length : Int) := dA
      obtain ⟨ad105, e105, hx105_0, hx105_1, hx105_2⟩ := at_T70 HR0.out a1 p105 q105
      have hw105_2 := hx105_2
      have hw105_1 := hx105_1
      have hw105_0 := hx105_0
      cases e105
      replace hx105_0 := uC HB hx105_0
      replace hx105_1 := uC HB hx105_1
      replace hx105_2 := uC HB hx105_2
      replace p105 := eq_true p105
      replace q105 := eq_true q105
      have p106 : 0 ≤ (a1 : Int) := dA
      have q106 : a1 < (l0.length : Int) := dA
      obtain ⟨ad106, e106, hx106_0, hx106_1, hx106_2⟩ := at_T70 HR0.out a1 p106 q106
      have hw106_2 := hx106_2
      have hw106_1 := hx106_1
      have hw106_0 := hx106_0
      obtain rfl : ad105 = ad106 := (by injection e106)
      replace hx106_0 := uC HB hx106_0
      replace hx106_1 := uC HB hx106_1
      replace hx106_2 := uC HB hx106_2
      replace p106 := eq_true p106
      replace q106 := eq_true q106
      refine start_ (n := 16) (S := fun w' => w'.cell? (ad105.add ((a1).toNat * 3)) = some (.int .i64 ((rd_T70 l0 a1).f0)) ∧ w'.cell? ⟨(ad105.add ((a1).toNat * 3)).block, (ad105.add ((a1).toNat * 3)).off + 1, none⟩ = some (.int .i64 ((rd_T70 l0 a1).f1)) ∧ w'.cell? ⟨(ad105.add ((a1).toNat * 3)).block, (ad105.add ((a1).toNat * 3)).off + 2, none⟩ = some (.int .i64 ((rd_T70 l0 a1).f2)) ∧ w'.cell? (ad105.add ((a1).toNat * 3)) = some (.int .i64 ((rd_T70 l0 a1).f0)) ∧ w'.cell? ⟨(ad105.add ((a1).toNat * 3)).block, (ad105.add ((a1).toNat * 3)).off + 1, none⟩ = some (.int .i64 ((rd_T70 l0 a1).f1)) ∧ w'.cell? ⟨(ad105.add ((a1).toNat * 3)).block, (ad105.add ((a1).toNat * 3)).off + 2, none⟩ = some (.int .i64 ((rd_T70 l0 a1).f2))) (ds := []) (bs 0 16) (by kernel_rfl) rfl rfl ⟨(uC HB hw105_0), (uC HB hw105_1), (uC HB hw105_2), (uC HB hw106_0), (uC HB hw106_1), (uC HB hw106_2)⟩ (fun hHeld => ?_); refine with_tabW impl_termAt.tab3 impl_termAt.bits3 (fun HT_ HW_ => ?_)
      generalize wc.drew = w15 at BK101 HB hx105_0 hx105_1 hx105_2 hx106_0 hx106_1 hx106_2 hHeld ⊢
      refine pure_ (i := 0) (N := some 44) (v := ?_) (a' := ?_) (bs 1 15) rfl rfl (any_of HT_.out (by kernel_rfl)) (fun _ _ _ h => h) (Or.inl ⟨by rfl, ?_⟩) ?_ ?_
      rotate_left
      ·intro w'
       go_simp
       with_reducible rfl
      rotate_left
      ·simp only [sP, i64_w, i32_w]
       rfl
      refine pure_ (i := 1) (N := some 45) (v := ?_) (a' := ?_) (bs 2 14) rfl rfl (any_of HT_.out (by kernel_rfl)) (fun _ _ _ h => h) (Or.inl ⟨by rfl, ?_⟩) ?_ ?_
      rotate_left
      ·intro w'
       go_simp
       with_reducible rfl
      rotate_left
      ·simp only [sP, i64_w, i32_w]
       rfl
      refine pure_ (i := 2) (N := some 46) (v := ?_) (a' := ?_) (bs 3 13) rfl rfl (any_of HT_.out (by kernel_rfl)) (fun _ _ _ h => h) (Or.inl ⟨by rfl, ?_⟩) ?_ ?_
      rotate_left
      ·intro w'
       go_simp
       with_reducible rfl
      rotate_left
      ·simp only [sP, i64_w, i32_w]
       rfl
      refine pure_ (i := 3) (N := some 47) (v := ?_) (a' := ?_) (bs 4 12) rfl rfl (any_of HT_.out (by kernel_rfl)) (fun _ _ _ h => h) (Or.inl ⟨by rfl, ?_⟩) ?_ ?_
      rotate_left
      ·intro w'
       go_simp
       with_reducible rfl
      rotate_left
      ·simp only [sP, i64_w, i32_w]
       rfl
      refine pure_ (i := 5) (N := some 49) (v := ?_) (a' := ?_) #[true, true, true, true, false, true, false, false, false, false, false, false, false, false, false, false] rfl rfl (any_of HT_.out (by kernel_rfl)) (fun _ _ _ h => h) (Or.inl ⟨by rfl, ?_⟩) ?_ ?_
      rotate_left
      ·intro w'
       go_simp
       with_reducible rfl
      rotate_left
      ·simp only [sP, i64_w, i32_w]
       rfl
      refine pure_ (i := 6) (N := some 50) (v := ?_) (a' := ?_) #[true, true, true, true, false, true, true, false, false, false, false, false, false, false, false, false] rfl rfl (any_of HT_.out (by kernel_rfl)) (fun _ _ _ h => h) (Or.inl ⟨by rfl, ?_⟩) ?_ ?_
      rotate_left
      ·intro w'
       go_simp
       with_reducible rfl
      rotate_left
      ·simp only [sP, i64_w, i32_w]
       rfl
      refine pure_ (i := 7) (N := some 51) (v := ?_) (a' := ?_) #[true, true, true, true, false, true, true, true, false, false, false, false, false, false, false, false] rfl rfl (any_of HT_.out (by kernel_rfl)) (fun _ _ _ h => h) (Or.inl ⟨by rfl, ?_⟩) ?_ ?_
      rotate_left
      ·intro w'
       go_simp
       with_reducible rfl
      rotate_left
      ·simp only [sP, i64_w, i32_w]
       rfl
      refine pure_ (i := 8) (N := some 52) (v := ?_) (a' := ?_) #[true, true, true, true, false, true, true, true, true, false, false, false, false, false, false, false] rfl rfl (any_of HT_.out (by kernel_rfl)) (fun _ _ _ h => h) (Or.inl ⟨by rfl, ?_⟩) ?_ ?_
      rotate_left
      ·intro w'
       go_simp
       with_reducible rfl
      rotate_left
      ·simp only [sP, i64_w, i32_w]
       rfl
      refine pure_ (i := 11) (N := some 55) (v := ?_) (a' := ?_) #[true, true, true, true, false, true, true, true, true, false, false, true, false, false, false, false] rfl rfl (any_of HT_.out (by kernel_rfl)) (fun _ _ _ h => h) (Or.inl ⟨by rfl, ?_⟩) ?_ ?_
      rotate_left
      ·intro w'
       go_simp
       with_reducible rfl
      rotate_left
      ·simp only [sP, i64_w, i32_w]
       rfl
      refine pure_ (i := 12) (N := some 56) (v := ?_) (a' := ?_) #[true, true, true, true, false, true, true, true, true, false, false, true, true, false, false, false] rfl rfl (any_of HT_.out (by kernel_rfl)) (fun _ _ _ h => h) (Or.inl ⟨by rfl, ?_⟩) ?_ ?_
      rotate_left
      ·intro w'
       go_simp
       with_reducible rfl
      rotate_left
      ·simp only [sP, i64_w, i32_w]
       rfl
      refine take_ (i := 4) (N := some 48) (v := ?_) (a' := ?_) #[true, true, true, true, true, true, true, true, true, false, false, true, true, false, false, false] rfl rfl (take_ofW HT_.out HW_.out (by kernel_rfl)) (fun _ _ _ h => h) (Or.inl ⟨by rfl, ?_⟩) hHeld ?_ ?_
      rotate_left
      ·rintro w' ⟨s0, s1, s2, s3, s4, s5⟩
       go_simp
       with_reducible rfl
      rotate_left
      ·simp only [sP, i64_w, i32_w]
       rfl
      refine take_ (i := 9) (N := some 53) (v := ?_) (a' := ?_) #[true, true, true, true, true, true, true, true, true, true, false, true, true, false, false, false] rfl rfl (take_ofW HT_.out HW_.out (by kernel_rfl)) (fun _ _ _ h => h) (Or.inl ⟨by rfl, ?_⟩) hHeld ?_ ?_
      rotate_left
      ·rintro w' ⟨s0, s1, s2, s3, s4, s5⟩
       go_simp
       with_reducible rfl
      rotate_left
      ·simp only [sP, i64_w, i32_w]
       rfl
      refine pure_ (i := 10) (N := some 54) (v := ?_) (a' := ?_) (bs 13 3) rfl rfl (any_of HT_.out (by kernel_rfl)) (fun _ _ _ h => h) (Or.inl ⟨by rfl, ?_⟩) ?_ ?_
      rotate_left
      ·intro w'
       go_simp
       with_reducible rfl
      rotate_left
      ·simp only [sP, i64_w, i32_w]
       rfl
      refine one_ (i := 13) (N := some 9) (bs 14 2) rfl rfl (one_of HT_.out (by kernel_rfl)) (by decide) (fun K hK => ?_)
      refine box_step ?hg (N := 9) ?hd (cs := #[.int .i64 0, .int .i64 0, .slice none 0 0]) (t := 37) ?hr ?_; (case hd => rfl); (case hg => rfl); (case hr => go_simp)
      intro gb107 hg w16 hbox hb
      have n0_ := aK (blk_below BK101.out hb)
      have n1_ := aK (below_step (pH HB) hb)
      have n2_ := aK (hbox)
      have n3_ := aK ((by rw [hg]; exact (below_size (pH HB)) : w.heap.size ≤ gb107))
      have n4_ := aK ((by rw [hg]; exact (below_size (pH HB)) : w.heap.size ≤ gb107))
      have n5_ := aK ((by rw [hg]; exact Nat.ne_of_lt (blk_lt BK101.out) : gb101 ≠ gb107))
      have n6_ := aK ((by rw [hg]; exact Nat.ne_of_gt (blk_lt BK101.out) : gb107 ≠ gb101))
      clear BK101
      clear HB
      have BK101 := n0_
      have HB := n1_
      have BK107 := n2_
      have GW107 := n3_
      have GE107 := n4_
      have NB101_107 := n5_
      have NB107_101 := n6_
      clear n0_ n1_ n2_ n3_ n4_ n5_ n6_
      clear hb hbox hg
      refine hK.out _ _ ⟨(uC HB hw105_0), (uC HB hw105_1), (uC HB hw105_2), (uC HB hw106_0), (uC HB hw106_1), (uC HB hw106_2)⟩ (fun hHeld => ?_)
      clear hK K
      refine norm_ (a' := ?_) ?_ ?_
      rotate_left
      ·show Act.put _ (some 9) _ = _
       simp only [sP, i64_w, i32_w]
       rfl
      refine one_ (i := 14) (N := none) (bs 15 1) rfl rfl (one_of HT_.out (by kernel_rfl)) (by decide) (fun K hK => ?_)
      have hs17 : w16.cell? ⟨gb107, 0, none⟩ = some (.int .i64 0) := (blk_cell BK107.out 0).trans rfl
      have hfs17 := blk_frozen BK107.out 0
      have hns17_0 := NB101_107.out
      have hms17_0 := NB107_101.out
      have hs18 : w16.cell? ⟨gb107, 1, none⟩ = some (.int .i64 0) := (blk_cell BK107.out 1).trans rfl
      have hfs18 := blk_frozen BK107.out 1
      have hns18_0 := NB101_107.out
      have hms18_0 := NB107_101.out
      have hs19 : w16.cell? ⟨gb107, 2, none⟩ = some (.slice none 0 0) := (blk_cell BK107.out 2).trans rfl
      have hfs19 := blk_frozen BK107.out 2
      have hns19_0 := NB101_107.out
      have hms19_0 := NB107_101.out
      refine skip_ (w1 := ?_) (by rfl) rfl ?_ ?_
      rotate_left
      ·go_simp
       rfl
      refine hK.out _ _ ⟨(cF3 (nG hw105_0 GW107) (hHeld.1)), (cF3 (nG hw105_1 GW107) (hHeld.2.1)), (cF3 (nG hw105_2 GW107) (hHeld.2.2.1)), (cF3 (nG hw106_0 GW107) (hHeld.2.2.2.1)), (cF3 (nG hw106_1 GW107) (hHeld.2.2.2.2.1)), (cF3 (nG hw106_2 GW107) (hHeld.2.2.2.2.2))⟩ (fun hHeld => ?_)
      clear hK K
      refine pure_ (i := 15) (N := some 10) (v := ?_) (a' := ?_) (bs 16 0) rfl rfl (any_of HT_.out (by kernel_rfl)) (fun _ _ _ h => h) (Or.inl ⟨by rfl, ?_⟩) ?_ ?_
      rotate_left
      ·intro w'
       go_simp
       with_reducible rfl
      rotate_left
      ·simp only [sP, i64_w, i32_w]
       rfl
      refine done_ (done_of HT_.out (by kernel_rfl)) ?_
      have hnb20 := NB107_101.out
      have hnc20 := NB101_107.out
      obtain ⟨hcz21_0, hcz21_1, hcz21_2, hfz21_0, hfz21_1, hfz21_2⟩ := cA3 BK107
      try go_wp2
      go_loopg [10, 60] kj3 (fun kq v10 v60 w' => ∃ (x10_2 : Int) (x60_2 : Int) (x102000_2 : Int) (x102001_2 : Int) (x108002_2 : List (S37)) (u108002 : Value), v10 = .int .i64 x10_2 ∧ v60 = .int .i64 x60_2 ∧ Aside0 (impl_termAt.l0 kq l0 a1 x10_2 (wrap64 (((rd_T70 l0 a1).f0) - 1)) x60_2 ((rd_T70 l0 a1).f0) ((rd_T70 l0 a1).f1) x108002_2 = some (r1, r2, r3, r4, r5)) ∧ Aside0 (kq ≤ kj3) ∧ Aside0 (Kd.R k37 37 w' w.heap.size (fun k_ => k_ ≠ gb101 ∧ k_ ≠ gb107) u108002 x108002_2) ∧ Aside0 (w'.heap[gb101]? = some (.cells #[.int .i64 x102000_2, .int .i64 x102001_2, (.slice none 0 0)] 37 (0, 0))) ∧ Aside0 (w'.heap[gb107]? = some (.cells #[.int .i64 ((rd_T70 l0 a1).f0), .int .i64 ((rd_T70 l0 a1).f1), u108002] 37 (0, 0))) ∧ Aside0 (Below w.heap.size w w'))
      case atStart => exact ⟨(wrap64 (a1 + 1)), (0), (0), (0), (([] : List (S37))), (.slice none 0 0), rS, rS, H', ⟨Nat.le_refl _⟩, ⟨by first | exact Kd.R_nil _ _ _ _ _ | exact Kd.N_nil _ _ _ _ _ | exact Kd.V_nil _ _ _ _ _ | exact Kd.Q_nil _ _ _ _ _ | exact Kd.S_nil _ _ _ _ _⟩, ⟨by (repeat first | with_reducible apply zN | with_reducible apply zD | with_reducible apply zA | refine blk_far ?_ NB101_107.out _); exact BK101.out⟩, ⟨p3 BK107⟩, ⟨pH HB⟩⟩
      case round =>
       clear H'
       try clear c1; try clear p1; try clear q1; try clear hx1; try clear c2; try clear p2; try clear c6; try clear c6b0; try clear c6b1; try clear p6; try clear c7; try clear c7b0; try clear c8; try clear c8b0; try clear c9; try clear c9b0; try clear c9b1; try clear c10; try clear c10b0; try clear p10; try clear q10; try clear hx10; try clear c11; try clear c13; try clear c13b0; try clear c14; try clear c14b0; try clear c19; try clear c20; try clear hx102_0; try clear hx102_1; try clear hx102_2; try clear hx103_0; try clear hx103_1; try clear hx103_2; try clear hx104_0; try clear hx104_1; try clear hx104_2; try clear hx105_0; try clear hx105_1; try clear hx105_2; try clear hx106_0; try clear hx106_1; try clear hx106_2; try clear p1; try clear p10; try clear p102; try clear p103; try clear p104; try clear p105; try clear p106; try clear p2; try clear q1; try clear q10; try clear q102; try clear q103; try clear q104; try clear q105; try clear q106; try clear hcz12_0 hcz12_1 hcz12_2 hfz12_0 hfz12_1 hfz12_2; try clear hcz21_0 hcz21_1 hcz21_2 hfz21_0 hfz21_1 hfz21_2
       obtain ⟨x10_2, x60_2, x102000_2, x102001_2, x108002_2, u108002, rfl, rfl, HA, HK2, HO_108002, BK101, BK107, HB⟩ := hrel
       cases gk with
       | zero => exact absurd HA.out (by simp [impl_termAt.l0])
       | succ k2 =>
        have H := HA.out
        clear HA
        simp only [impl_termAt.l0] at H
        by_cases c22 : x60_2 < (wrap64 (((rd_T70 l0 a1).f0) - 1))
        ·rw [if_pos c22] at H
         have c22b0 : decide (x60_2 < (wrap64 (((rd_T70 l0 a1).f0) - 1))) = true := decide_eq_true c22
         clear c22
         replace H := Option.bind_eq_some_iff.mp H
         obtain ⟨⟨t108, t109, t110, t113, t114⟩, A230, H⟩ := H
         try dsimp only at H
         have A23 := aK A230
         clear A230
         by_cases c24 : t114 = true
         ·subst c24
          rw [if_pos rfl] at H
          by_cases c25 : x108002_2.length < 3518437208883
          ·rw [if_pos c25] at H
           have LMc25 := aK c25
           clear c25
           obtain ⟨y116, hy116⟩ : ∃ y_ : List (S37), y_ = (x108002_2 ++ [(⟨t108, t109, t110⟩ : S37)]) := ⟨_, rfl⟩
           replace H : (impl_termAt.l0 k2 l0 a1 t113 (wrap64 (((rd_T70 l0 a1).f0) - 1)) (wrap64 (x60_2 + 1)) ((rd_T70 l0 a1).f0) ((rd_T70 l0 a1).f1) y116) = some (r1, r2, r3, r4, r5) := by first | (rw [hy116]; with_reducible exact H) | (have H2_ := (Option.bind_some _ _).symm.trans H; rw [hy116]; with_reducible exact H2_) | (have H2_ := (Option.bind_some _ _).symm.trans H; with_reducible exact H2_) | with_reducible exact H | (rw [hy116]; exact H) | exact H
           have Ny116 := aK hy116
           clear hy116
           have H' := aK H
           clear H
           go_wp2_with (first | ((with_reducible refine gate_callee (f := 19) rfl ?_); refine goesL_ (some 66) rfl rfl Try.func19 (by kernel_rfl) rfl #[.slice (some ad105) l0.length c0, .int .i64 x10_2, .int .i64 a1] rfl tA ?_; (with_reducible refine (ih k2 (by have := HJ3.out; have := HK2.out; omega) _ _ l0 x10_2 a1 t108 t109 t110 t113 true _ ?side1 ?side2 A23.out).mono ?_); (case side1 => exact sC (Kd.C_below HR0.out HB.out)); (case side2 => exact HC0.out); rintro e w26 ⟨v111, rfl, ho0, hb⟩; refine ⟨_, rfl, ?_⟩; have n0_ := aK (Kd.R_elder' HO_108002.out (Kd.R_base ho0) hb); have HO112 := aK (Kd.R_lower (Kd.R_newB (Kd.R_newB (Kd.R_new' ho0 (Kd.R_lt HO_108002.out)) BK101.out) BK107.out) (below_size HB.out)); replace BK101 := qb BK101 hb; replace BK107 := qb BK107 hb; clear HO_108002; have HO_108002 := n0_; clear n0_; replace HB := qs HB hb; (try clear hb); (try clear ho0)) | ((with_reducible refine gate_dst (N := 11) rfl ?_); refine bE (N := 11) (cs := #[.int .i64 0, .int .i64 0, .slice none 0 0]) (t := 37) ?_; intro gb115 hg w27 hbox hb; have n0_ := aK (Kd.R_below (Kd.R_elderB HO_108002.out gb115 (Nat.le_of_eq hg.symm)) hb); have n1_ := aK (Kd.R_below (Kd.R_elderB HO112.out gb115 (Nat.le_of_eq hg.symm)) hb); have GW115 := qw HB hg; have GE115 := qw HB hg; have NB101_115 := ql BK101 hg; have NB115_101 := qg BK101 hg; have NB107_115 := ql BK107 hg; have NB115_107 := qg BK107 hg; replace BK101 := qb BK101 hb; replace BK107 := qb BK107 hb; have BK115 := aK hbox; clear HO_108002; have HO_108002 := n0_; clear n0_; clear HO112; have HO112 := n1_; clear n1_; replace HB := qs HB hb; clear hb hbox hg; have hnb28 := NB115_101.out; have hnc28 := NB101_115.out; have hnb29 := NB115_107.out; have hnc29 := NB107_115.out; obtain ⟨hcz30_0, hcz30_1, hcz30_2, hfz30_0, hfz30_1, hfz30_2⟩ := cA3 BK115; obtain ⟨Ao31, co31, eo31⟩ := Kd.R_slice HO112.out; subst eo31) | ((with_reducible refine gate_store (t := 37) (p := 11) rfl ?_); refine store_event (t := 37) (p := 11) (v := ?vo_w32) (w1 := (((w27.setCell ⟨gb115, 0, none⟩ (.int .i64 t108)).setCell ⟨gb115, 1, none⟩ (.int .i64 t109)).setCell ⟨gb115, 2, none⟩ (.slice Ao31 t110.length co31))) ?hg ?ho ?hn ?hr ?_; (case ho => rfl); (case hg => rfl); (case hn => rfl); (case hr => first | (go_simp; done) | (go_simp; rfl)); intro w32 hw; have n0_ : Aside0 (Kd.R k37 37 w32 w.heap.size (fun k_ => some k_ ≠ (.slice Ao31 t110.length co31 : Value).ownBlock ∧ k_ ≠ gb101 ∧ k_ ≠ gb107 ∧ k_ ≠ gb115) u108002 x108002_2) := ⟨(by rw [hw]; exact (by (with_reducible repeat (first | apply Kd.R_alloc | apply Kd.R_drewN | apply Kd.R_drew)); exact Kd.R_mono (Kd.R_far (p := ⟨gb115, 2, none⟩) (Kd.R_far (p := ⟨gb115, 1, none⟩) (Kd.R_far (p := ⟨gb115, 0, none⟩) (Kd.R_mono HO_108002.out (fun k_ hk => (⟨hk, hk.2⟩ : _ ∧ k_ ≠ gb115))) (fun _ hk => hk.2) (.int .i64 t108)) (fun _ hk => hk.2) (.int .i64 t109)) (fun _ hk => hk.2) (.slice Ao31 t110.length co31)) (fun _ hk => ⟨hk.1.1.2, ⟨hk.1.1.1.1, ⟨hk.1.1.1.2, hk.1.2⟩⟩⟩)))⟩; have n1_ : Aside0 (Kd.R k37 37 w32 w.heap.size (fun k_ => some k_ ≠ (u108002 : Value).ownBlock ∧ k_ ≠ gb101 ∧ k_ ≠ gb107 ∧ k_ ≠ gb115) (.slice Ao31 t110.length co31) t110) := ⟨(by rw [hw]; exact (by (with_reducible repeat (first | apply Kd.R_alloc | apply Kd.R_drewN | apply Kd.R_drew)); exact Kd.R_mono (Kd.R_far (p := ⟨gb115, 2, none⟩) (Kd.R_far (p := ⟨gb115, 1, none⟩) (Kd.R_far (p := ⟨gb115, 0, none⟩) (Kd.R_mono HO112.out (fun k_ hk => (⟨hk, hk.2⟩ : _ ∧ k_ ≠ gb115))) (fun _ hk => hk.2) (.int .i64 t108)) (fun _ hk => hk.2) (.int .i64 t109)) (fun _ hk => hk.2) (.slice Ao31 t110.length co31)) (fun _ hk => ⟨hk.1.1.1.1.2, ⟨hk.1.1.1.2, ⟨hk.1.1.2, hk.1.2⟩⟩⟩)))⟩; have n2_ : Aside0 (w32.heap[gb101]? = some (.cells #[.int .i64 x102000_2, .int .i64 x102001_2, .slice none 0 0] 37 (0, 0))) := ⟨(by rw [hw]; exact (by (repeat first | with_reducible apply zN | with_reducible apply zD | with_reducible apply zA | refine blk_far ?_ NB101_115.out _); exact BK101.out))⟩; have n3_ : Aside0 (w32.heap[gb107]? = some (.cells #[.int .i64 ((rd_T70 l0 a1).f0), .int .i64 ((rd_T70 l0 a1).f1), u108002] 37 (0, 0))) := ⟨(by rw [hw]; exact (by (repeat first | with_reducible apply zN | with_reducible apply zD | with_reducible apply zA | refine blk_far ?_ NB107_115.out _); exact BK107.out))⟩; have n4_ : Aside0 (w32.heap[gb115]? = some (.cells #[.int .i64 t108, .int .i64 t109, .slice Ao31 t110.length co31] 37 (0, 0))) := ⟨(by rw [hw]; exact (p3 BK115))⟩; have n5_ : Aside0 (Below w.heap.size w w32) := ⟨(by rw [hw]; exact (pH HB))⟩; clear hw; clear HO_108002; clear HO112; clear BK101; clear BK107; clear BK115; clear HB; have HO_108002 := n0_; have HO112 := n1_; have BK101 := n2_; have BK107 := n3_; have BK115 := n4_; have HB := n5_; clear n0_ n1_ n2_ n3_ n4_ n5_; have hnb33 := NB107_101.out; have hnc33 := NB101_107.out; obtain ⟨hcz34_0, hcz34_1, hcz34_2, hfz34_0, hfz34_1, hfz34_2⟩ := cA3 BK107; obtain ⟨hcz35_0, hcz35_1, hcz35_2, hfz35_0, hfz35_1, hfz35_2⟩ := cA3 BK115) | ((with_reducible refine gate_builtin (b := .append) (xs := #[.tmp 74, .tmp 76]) rfl ?_); at_builtin; refine Kd.R_append k37 (w0 := w) w.heap.size rfl (.tmp 74) (.tmp 76) 35 37 (.agg #[(.int .i64 0), (.int .i64 0), (.slice none 0 0)]) 40 rfl Try.underlying35 info37 rfl (by decide) (by omega) u108002 x108002_2 (⟨t108, t109, t110⟩ : S37) [.int .i64 t108, .int .i64 t109, .slice Ao31 t110.length co31] (fun k_ => k_ ≠ gb101 ∧ k_ ≠ gb107 ∧ k_ ≠ gb115) (fun k_ => ((fun k_ => k_ ≠ gb101 ∧ k_ ≠ gb107 ∧ k_ ≠ gb115)) k_ ∧ some k_ ≠ (u108002 : Value).ownBlock) rfl rfl ?aP (fun _ hk => hk) ?aF ?aO ?aB ?aS ?aL ?_; (case aP => exact k37_mkM _ _ _ (⟨t108, t109, t110⟩ : S37) (Kd.R_mono (HO112.out) (fun k_ hk => ⟨⟨hk.2.1, ⟨hk.2.2.1, hk.2.2.2⟩⟩, hk.1⟩))); (case aB => exact (pH HB)); (case aF => exact (fun k_ hk => ⟨Kd.freshB BK101.out k_ hk, Kd.freshB BK107.out k_ hk, Kd.freshB BK115.out k_ hk⟩)); (case aO => exact (by (with_reducible repeat (first | apply Kd.R_alloc | apply Kd.R_drewN | apply Kd.R_drew)); exact Kd.R_mono HO_108002.out (fun _ hk => ⟨hk.2.1, ⟨hk.2.2.1, hk.2.2.2⟩⟩))); (case aS => exact (below_size (pH HB))); (case aL => have := LMc25.out; omega); intro v117 w36 ho hb hg hat; rw [← Ny116.out] at ho; have n0_ := aK (blk_grown BK101.out hg (Kd.R_away HO_108002.out (fun _ hk => hk.2.1))); have n1_ := aK (blk_grown BK107.out hg (Kd.R_away HO_108002.out (fun _ hk => hk.2.2.1))); have n2_ := aK (blk_grown BK115.out hg (Kd.R_away HO_108002.out (fun _ hk => hk.2.2.2))); have n3_ := aK (hb); have HO118 := aK (ho); clear BK101; have BK101 := n0_; clear n0_; clear BK107; have BK107 := n1_; clear n1_; clear BK115; have BK115 := n2_; clear n2_; clear HB; have HB := n3_; clear n3_; clear HO_108002; clear HO112; clear ho hb hg hat; obtain ⟨Ao37, co37, eo37⟩ := Kd.R_slice HO118.out; subst eo37; obtain ⟨hcz38_0, hcz38_1, hcz38_2, hfz38_0, hfz38_1, hfz38_2⟩ := cA3 BK107))
           go_roundg k2
           case measure => have := HJ3.out; have := HK2.out; omega
           case rel => exact ⟨(t113), (wrap64 (x60_2 + 1)), (x102000_2), (x102001_2), (y116), (.slice Ao37 y116.length co37), rS, rS, H', ⟨by have := HJ3.out; have := HK2.out; omega⟩, ⟨by (with_reducible repeat (first | apply Kd.R_alloc | apply Kd.R_drewN | apply Kd.R_drew)); exact Kd.R_mono (Kd.R_far (p := ⟨gb107, 2, none⟩) (Kd.R_mono HO118.out (fun k_ hk => (⟨hk, hk.2.1⟩ : _ ∧ k_ ≠ gb107))) (fun _ hk => hk.2) (.slice Ao37 y116.length co37)) (fun _ hk => ⟨hk.1.1, hk.1.2.1⟩)⟩, ⟨by (repeat first | with_reducible apply zN | with_reducible apply zD | with_reducible apply zA | refine blk_far ?_ NB101_107.out _); exact BK101.out⟩, ⟨by (with_reducible repeat first | apply zN | apply zD | apply zA); refine blk_put (cs := #[.int .i64 ((rd_T70 l0 a1).f0), .int .i64 ((rd_T70 l0 a1).f1), u108002]) ?_ 2 _ rfl; (with_reducible repeat first | apply zN | apply zD | apply zA); exact BK107.out⟩, ⟨pH HB⟩⟩
          ·rw [if_neg c25] at H
           exact absurd H (by simp)
         ·replace c24 := Bool.eq_false_iff.mpr c24
          subst c24
          rw [if_neg (show ¬ (false = true) by decide)] at H
          simp only [Option.some.injEq, Prod.mk.injEq] at H
          obtain ⟨rfl, rfl, rfl, rfl, rfl⟩ := H
          go_wp2_with (first | ((with_reducible refine gate_callee (f := 19) rfl ?_); refine goesL_ (some 66) rfl rfl Try.func19 (by kernel_rfl) rfl #[.slice (some ad105) l0.length c0, .int .i64 x10_2, .int .i64 a1] rfl tA ?_; (with_reducible refine (ih k2 (by have := HJ3.out; have := HK2.out; omega) _ _ l0 x10_2 a1 t108 t109 t110 t113 false _ ?side1 ?side2 A23.out).mono ?_); (case side1 => exact sC (Kd.C_below HR0.out HB.out)); (case side2 => exact HC0.out); rintro e w39 ⟨v111, rfl, ho0, hb⟩; refine ⟨_, rfl, ?_⟩; have n0_ := aK (Kd.R_elder' HO_108002.out (Kd.R_base ho0) hb); have HO112 := aK (Kd.R_lower (Kd.R_newB (Kd.R_newB (Kd.R_new' ho0 (Kd.R_lt HO_108002.out)) BK101.out) BK107.out) (below_size HB.out)); replace BK101 := qb BK101 hb; replace BK107 := qb BK107 hb; clear HO_108002; have HO_108002 := n0_; clear n0_; replace HB := qs HB hb; (try clear hb); (try clear ho0)) | ((with_reducible refine gate_dst (N := 11) rfl ?_); refine bE (N := 11) (cs := #[.int .i64 0, .int .i64 0, .slice none 0 0]) (t := 37) ?_; intro gb115 hg w40 hbox hb; have n0_ := aK (Kd.R_below (Kd.R_elderB HO_108002.out gb115 (Nat.le_of_eq hg.symm)) hb); have n1_ := aK (Kd.R_below (Kd.R_elderB HO112.out gb115 (Nat.le_of_eq hg.symm)) hb); have GW115 := qw HB hg; have GE115 := qw HB hg; have NB101_115 := ql BK101 hg; have NB115_101 := qg BK101 hg; have NB107_115 := ql BK107 hg; have NB115_107 := qg BK107 hg; replace BK101 := qb BK101 hb; replace BK107 := qb BK107 hb; have BK115 := aK hbox; clear HO_108002; have HO_108002 := n0_; clear n0_; clear HO112; have HO112 := n1_; clear n1_; replace HB := qs HB hb; clear hb hbox hg; have hnb41 := NB115_101.out; have hnc41 := NB101_115.out; have hnb42 := NB115_107.out; have hnc42 := NB107_115.out; obtain ⟨hcz43_0, hcz43_1, hcz43_2, hfz43_0, hfz43_1, hfz43_2⟩ := cA3 BK115; obtain ⟨Ao44, co44, eo44⟩ := Kd.R_slice HO112.out; subst eo44; have hnb45 := NB101_107.out; have hnc45 := NB107_101.out; obtain ⟨hcz46_0, hcz46_1, hcz46_2, hfz46_0, hfz46_1, hfz46_2⟩ := cA3 BK101))
          refine bodyPost_ret (results_ctt rfl _ _ gb101 37 #[.int .i64 0, .int .i64 0, .slice none 0 0] (0, 0) _ rfl (by (with_reducible repeat first | apply zN | apply zD | apply zA); refine blk_put (cs := #[.int .i64 0, .int .i64 0, .slice none 0 0]) ?_ 2 _ rfl; (with_reducible repeat first | apply zN | apply zD | apply zA); refine blk_put (cs := #[.int .i64 0, .int .i64 x102001_2, .slice none 0 0]) ?_ 1 _ rfl; (with_reducible repeat first | apply zN | apply zD | apply zA); refine blk_put (cs := #[.int .i64 x102000_2, .int .i64 x102001_2, .slice none 0 0]) ?_ 0 _ rfl; (repeat first | with_reducible apply zN | with_reducible apply zD | with_reducible apply zA | refine blk_far ?_ NB101_115.out _); exact BK101.out) Try.underlying37 rfl (by kernel_rfl)) rfl ?_
          exact ⟨_, eW, by first | exact Kd.R_nil _ _ _ _ _ | exact Kd.N_nil _ _ _ _ _ | exact Kd.V_nil _ _ _ _ _ | exact Kd.Q_nil _ _ _ _ _ | exact Kd.S_nil _ _ _ _ _, pH HB⟩
        ·rw [if_neg c22] at H
         have c22b0 : decide (x60_2 < (wrap64 (((rd_T70 l0 a1).f0) - 1))) = false := decide_eq_false c22
         clear c22
         simp only [Option.some.injEq, Prod.mk.injEq] at H
         obtain ⟨rfl, rfl, rfl, rfl, rfl⟩ := H
         have hnb47 := NB107_101.out
         have hnc47 := NB101_107.out
         obtain ⟨hcz48_0, hcz48_1, hcz48_2, hfz48_0, hfz48_1, hfz48_2⟩ := cA3 BK107
         obtain ⟨hcz49_0, hcz49_1, hcz49_2, hfz49_0, hfz49_1, hfz49_2⟩ := cA3 BK101
         obtain ⟨Ao50, co50, eo50⟩ := Kd.R_slice HO_108002.out
         subst eo50
         go_wp2
         refine bodyPost_ret (results_ctt rfl _ _ gb101 37 #[.int .i64 ((rd_T70 l0 a1).f0), .int .i64 ((rd_T70 l0 a1).f1), .slice Ao50 x108002_2.length co50] (0, 0) _ rfl (p3 BK101) Try.underlying37 rfl (by kernel_rfl)) rfl ?_
         exact ⟨_, eW, by (with_reducible repeat (first | apply Kd.R_alloc | apply Kd.R_drewN | apply Kd.R_drew)); exact Kd.R_mono (Kd.R_far (p := ⟨gb101, 2, none⟩) (Kd.R_far (p := ⟨gb101, 1, none⟩) (Kd.R_far (p := ⟨gb101, 0, none⟩) (Kd.R_mono HO_108002.out (fun k_ hk => (⟨hk, hk.1⟩ : _ ∧ k_ ≠ gb101))) (fun _ hk => hk.2) (.int .i64 ((rd_T70 l0 a1).f0))) (fun _ hk => hk.2) (.int .i64 ((rd_T70 l0 a1).f1))) (fun _ hk => hk.2) (.slice Ao50 x108002_2.length co50)) (fun _ hk => trivial), pH HB⟩
     ·rw [if_neg c14] at H
      exact absurd H (by simp)
    ·rw [if_neg c13] at H
     exact absurd H (by simp)


mutual
def impl_term_size.l0 : Nat → Int → List (S37) → Int → Int → Option (Int)
 | 0, _, _, _, _ => none
 | k + 1, x3, x7, x8, x9 => if x9 < x8 then (if 0 ≤ x9 then (if x9 < (x7.length : Int) then ((impl_term_size.f k ((rd_T37 x7 x9).f0) ((rd_T37 x7 x9).f1) ((rd_T37 x7 x9).f2)).bind fun t104 => (impl_term_size.l0 k (wrap64 (x3 + t104)) x7 x8 (wrap64 (x9 + 1)))) else (none)) else (none)) else (some x3)
def impl_term_size.f : Nat → Int → Int → List (S37) → Option (Int)
 | 0, _, _, _ => none
 | k + 1, a0_0, a0_1, l0_2 => impl_term_size.l0 k 1 l0_2 (l0_2.length : Int) 0
end
set_option maxHeartbeats 8000000 in
set_option maxRecDepth 100000 in
theorem impl_term_size.calls (k : Nat) : ∀ (a0_0 : Int) (a0_1 : Int) (A0_2 : Option Addr) (c0_2 : Nat) (l0_2 : List (S37)) (r : Int) (w : World) (hr0_2 : Kd.C k37 w A0_2 l0_2.length l0_2) (hc0_2 : l0_2.length ≤ c0_2) (h : impl_term_size.f k a0_0 a0_1 l0_2 = some r),
  Calls Try.prog 42 #[.agg #[.int .i64 a0_0, .int .i64 a0_1, .slice A0_2 l0_2.length c0_2]] w fun e w' => e = .returned (.int .i64 r) ∧ Below w.heap.size w w' := by
 induction k using Nat.strongRecOn with
 | _ k ih =>
 intro a0_0 a0_1 A0_2 c0_2 l0_2 r w hr0_2 hc0_2 h
 cases k with
 | zero => exact absurd h (by simp [impl_term_size.f])
 | succ k =>
 simp only [impl_term_size.f] at h
 have hu37 := Try.underlying37
 have HR0_2 := aK hr0_2
 have HC0_2 := aK hc0_2
 clear hr0_2 hc0_2
 have HB := aK (Below.refl w.heap.size w)
 have H : (impl_term_size.l0 k 1 l0_2 (l0_2.length : Int) 0) = some r := h
 clear h
 have H' := aK H
 clear H
 go_enter Try.func42, Try.ntmps42
 go_wp2_with (first | ((with_reducible refine gate_dst (N := 1) rfl ?_); refine bE (N := 1) (cs := #[.int .i64 a0_0, .int .i64 a0_1, .slice A0_2 l0_2.length c0_2]) (t := 37) ?_; intro gb101 hg w2 hbox hb; have GW101 := qw HB hg; have GE101 := qw HB hg; have BK101 := aK hbox; replace HB := qs HB hb; clear hb hbox hg; obtain ⟨hcz3_0, hcz3_1, hcz3_2, hfz3_0, hfz3_1, hfz3_2⟩ := cA3 BK101))
 go_loopg [3, 9] k (fun kq v3 v9 w' => ∃ (x3_1 : Int) (x9_1 : Int), v3 = .int .i64 x3_1 ∧ v9 = .int .i64 x9_1 ∧ Aside0 (impl_term_size.l0 kq x3_1 l0_2 (l0_2.length : Int) x9_1 = some r) ∧ Aside0 (kq ≤ k) ∧ Aside0 (w'.heap[gb101]? = some (.cells #[.int .i64 a0_0, .int .i64 a0_1, (.slice A0_2 l0_2.length c0_2)] 37 (0, 0))) ∧ Aside0 (Below w.heap.size w w'))
 case atStart => exact ⟨(1), (0), rS, rS, H', ⟨Nat.le_refl _⟩, ⟨pB BK101⟩, ⟨pH HB⟩⟩
 case round =>
  clear H'
  try clear p2; try clear hcz3_0 hcz3_1 hcz3_2 hfz3_0 hfz3_1 hfz3_2
  obtain ⟨x3_1, x9_1, rfl, rfl, HA, HK1, BK101, HB⟩ := hrel
  cases gk with
  | zero => exact absurd HA.out (by simp [impl_term_size.l0])
  | succ k1 =>
   have H := HA.out
   clear HA
   simp only [impl_term_size.l0] at H
   by_cases c4 : x9_1 < (l0_2.length : Int)
   ·rw [if_pos c4] at H
    have c4b0 : decide (x9_1 < (l0_2.length : Int)) = true := decide_eq_true c4
    clear c4
    by_cases c5 : 0 ≤ x9_1
    ·rw [if_pos c5] at H
     have c5b0 : decide (0 ≤ x9_1) = true := decide_eq_true c5
     clear c5
     by_cases c6 : x9_1 < (l0_2.length : Int)
     ·rw [if_pos c6] at H
      have c6b0 : decide (x9_1 < (l0_2.length : Int)) = true := decide_eq_true c6
      clear c6
      replace H := Option.bind_eq_some_iff.mp H
      obtain ⟨t104, A70, H⟩ := H
      try dsimp only at H
      have A7 := aK A70
      clear A70
      have H' := aK H
      clear H
      have p102 : 0 ≤ (x9_1 : Int) := dA
      have q102 : x9_1 < (l0_2.length : Int) := dA
      obtain ⟨ad102, A102_2, c102_2, e102, hx102_0, hx102_1, hx102_2, hl102_2, hi102_2⟩ := at_T37 HR0_2.out x9_1 p102 q102
      cases e102
      replace hx102_0 := uC HB hx102_0
      replace hx102_1 := uC HB hx102_1
      replace hx102_2 := uC HB hx102_2
      have HR102_2 := aK hi102_2
      have HC102_2 := aK hl102_2
      clear hi102_2 hl102_2
      replace p102 := eq_true p102
      replace q102 := eq_true q102
      go_wp2_with (first | ((with_reducible refine gate_dst (N := 5) rfl ?_); refine bE (N := 5) (cs := #[.int .i64 0, .int .i64 0, .slice none 0 0]) (t := 37) ?_; intro gb103 hg w8 hbox hb; have GW103 := qw HB hg; have GE103 := qw HB hg; have NB101_103 := ql BK101 hg; have NB103_101 := qg BK101 hg; replace BK101 := qb BK101 hb; have BK103 := aK hbox; replace HB := qs HB hb; clear hb hbox hg; have hnb9 := NB103_101.out; have hnc9 := NB101_103.out; obtain ⟨hcz10_0, hcz10_1, hcz10_2, hfz10_0, hfz10_1, hfz10_2⟩ := cA3 BK103) | ((with_reducible refine gate_callee (f := 42) rfl ?_); refine goesL_ (some 15) rfl rfl Try.func42 (by kernel_rfl) rfl #[.agg #[.int .i64 ((rd_T37 l0_2 x9_1).f0), .int .i64 ((rd_T37 l0_2 x9_1).f1), .slice A102_2 ((rd_T37 l0_2 x9_1).f2).length c102_2]] rfl tA ?_; (with_reducible refine (ih k1 (by have := HK1.out; omega) ((rd_T37 l0_2 x9_1).f0) ((rd_T37 l0_2 x9_1).f1) _ _ ((rd_T37 l0_2 x9_1).f2) t104 _ ?side1 ?side2 A7.out).mono ?_); (case side1 => exact Kd.C_below HR102_2.out (pH HB)); (case side2 => exact HC102_2.out); rintro e w11 ⟨rfl, hb⟩; refine ⟨_, rfl, ?_⟩; have n0_ := aK (blk_below (g := gb101) (o := .cells #[.int .i64 a0_0, .int .i64 a0_1, .slice (some ad102) l0_2.length c0_2] 37 (0, 0)) (by (repeat first | with_reducible apply zN | with_reducible apply zD | with_reducible apply zA | refine blk_far ?_ NB101_103.out _); exact BK101.out) hb); have n1_ := aK (blk_below (g := gb103) (o := .cells #[.int .i64 ((rd_T37 l0_2 x9_1).f0), .int .i64 ((rd_T37 l0_2 x9_1).f1), .slice A102_2 ((rd_T37 l0_2 x9_1).f2).length c102_2] 37 (0, 0)) (p3 BK103) hb); have n2_ := aK (below_step (pH HB) hb); clear BK101; clear BK103; clear HB; have BK101 := n0_; have BK103 := n1_; have HB := n2_; clear n0_ n1_ n2_; (try clear hb)))
      go_roundg k1
      case measure => have := HK1.out; omega
      case rel => exact ⟨(wrap64 (x3_1 + t104)), (wrap64 (x9_1 + 1)), rS, rS, H', ⟨by have := HK1.out; omega⟩, ⟨pB BK101⟩, ⟨pH HB⟩⟩
     ·rw [if_neg c6] at H
      exact absurd H (by simp)
    ·rw [if_neg c5] at H
     exact absurd H (by simp)
   ·rw [if_neg c4] at H
    have c4b0 : decide (x9_1 < (l0_2.length : Int)) = false := decide_eq_false c4
    clear c4
    obtain rfl := Option.some.inj H
    go_wp2
    go_ret
    exact ⟨eW, pH HB⟩


mutual
def impl_term_depth.l0 : Nat → Int → List (S37) → Int → Int → Option (Int)
 | 0, _, _, _, _ => none
 | k + 1, x3, x7, x8, x9 => if x9 < x8 then (if 0 ≤ x9 then (if x9 < (x7.length : Int) then ((impl_term_depth.f k ((rd_T37 x7 x9).f0) ((rd_T37 x7 x9).f1) ((rd_T37 x7 x9).f2)).bind fun t104 => (impl_term_depth.l0 k (mx x3 t104) x7 x8 (wrap64 (x9 + 1)))) else (none)) else (none)) else (some (wrap64 (x3 + 1)))
def impl_term_depth.f : Nat → Int → Int → List (S37) → Option (Int)
 | 0, _, _, _ => none
 | k + 1, a0_0, a0_1, l0_2 => impl_term_depth.l0 k 0 l0_2 (l0_2.length : Int) 0
end
set_option maxHeartbeats 8000000 in
set_option maxRecDepth 100000 in
theorem impl_term_depth.calls (k : Nat) : ∀ (a0_0 : Int) (a0_1 : Int) (A0_2 : Option Addr) (c0_2 : Nat) (l0_2 : List (S37)) (r : Int) (w : World) (hr0_2 : Kd.C k37 w A0_2 l0_2.length l0_2) (hc0_2 : l0_2.length ≤ c0_2) (h : impl_term_depth.f k a0_0 a0_1 l0_2 = some r),
  Calls Try.prog 43 #[.agg #[.int .i64 a0_0, .int .i64 a0_1, .slice A0_2 l0_2.length c0_2]] w fun e w' => e = .returned (.int .i64 r) ∧ Below w.heap.size w w' := by
 induction k using Nat.strongRecOn with
 | _ k ih =>
 intro a0_0 a0_1 A0_2 c0_2 l0_2 r w hr0_2 hc0_2 h
 cases k with
 | zero => exact absurd h (by simp [impl_term_depth.f])
 | succ k =>
 simp only [impl_term_depth.f] at h
 have hu37 := Try.underlying37
 have HR0_2 := aK hr0_2
 have HC0_2 := aK hc0_2
 clear hr0_2 hc0_2
 have HB := aK (Below.refl w.heap.size w)
 have H : (impl_term_depth.l0 k 0 l0_2 (l0_2.length : Int) 0) = some r := h
 clear h
 have H' := aK H
 clear H
 go_enter Try.func43, Try.ntmps43
 go_wp2_with (first | ((with_reducible refine gate_dst (N := 1) rfl ?_); refine bE (N := 1) (cs := #[.int .i64 a0_0, .int .i64 a0_1, .slice A0_2 l0_2.length c0_2]) (t := 37) ?_; intro gb101 hg w2 hbox hb; have GW101 := qw HB hg; have GE101 := qw HB hg; have BK101 := aK hbox; replace HB := qs HB hb; clear hb hbox hg; obtain ⟨hcz3_0, hcz3_1, hcz3_2, hfz3_0, hfz3_1, hfz3_2⟩ := cA3 BK101))
 go_loopg [3, 9] k (fun kq v3 v9 w' => ∃ (x3_1 : Int) (x9_1 : Int), v3 = .int .i64 x3_1 ∧ v9 = .int .i64 x9_1 ∧ Aside0 (impl_term_depth.l0 kq x3_1 l0_2 (l0_2.length : Int) x9_1 = some r) ∧ Aside0 (kq ≤ k) ∧ Aside0 (w'.heap[gb101]? = some (.cells #[.int .i64 a0_0, .int .i64 a0_1, (.slice A0_2 l0_2.length c0_2)] 37 (0, 0))) ∧ Aside0 (Below w.heap.size w w'))
 case atStart => exact ⟨(0), (0), rS, rS, H', ⟨Nat.le_refl _⟩, ⟨pB BK101⟩, ⟨pH HB⟩⟩
 case round =>
  clear H'
  try clear p2; try clear hcz3_0 hcz3_1 hcz3_2 hfz3_0 hfz3_1 hfz3_2
  obtain ⟨x3_1, x9_1, rfl, rfl, HA, HK1, BK101, HB⟩ := hrel
  cases gk with
  | zero => exact absurd HA.out (by simp [impl_term_depth.l0])
  | succ k1 =>
   have H := HA.out
   clear HA
   simp only [impl_term_depth.l0] at H
   by_cases c4 : x9_1 < (l0_2.length : Int)
   ·rw [if_pos c4] at H
    have c4b0 : decide (x9_1 < (l0_2.length : Int)) = true := decide_eq_true c4
    clear c4
    by_cases c5 : 0 ≤ x9_1
    ·rw [if_pos c5] at H
     have c5b0 : decide (0 ≤ x9_1) = true := decide_eq_true c5
     clear c5
     by_cases c6 : x9_1 < (l0_2.length : Int)
     ·rw [if_pos c6] at H
      have c6b0 : decide (x9_1 < (l0_2.length : Int)) = true := decide_eq_true c6
      clear c6
      replace H := Option.bind_eq_some_iff.mp H
      obtain ⟨t104, A70, H⟩ := H
      try dsimp only at H
      have A7 := aK A70
      clear A70
      obtain ⟨ji8, hji8⟩ : ∃ j_ : Int, (mx x3_1 t104) = j_ := ⟨_, rfl⟩
      replace H : (impl_term_depth.l0 k1 ji8 l0_2 (l0_2.length : Int) (wrap64 (x9_1 + 1))) = some r := by first | (rw [hji8] at H; exact H) | (simp only [hji8] at H ⊢; exact H)
      (try rw [hji8] at A7)
      have hji8_ : (if x3_1 < t104 then t104 else x3_1) = ji8 := hji8
      have H' := aK H
      clear H
      have p102 : 0 ≤ (x9_1 : Int) := dA
      have q102 : x9_1 < (l0_2.length : Int) := dA
      obtain ⟨ad102, A102_2, c102_2, e102, hx102_0, hx102_1, hx102_2, hl102_2, hi102_2⟩ := at_T37 HR0_2.out x9_1 p102 q102
      cases e102
      replace hx102_0 := uC HB hx102_0
      replace hx102_1 := uC HB hx102_1
      replace hx102_2 := uC HB hx102_2
      have HR102_2 := aK hi102_2
      have HC102_2 := aK hl102_2
      clear hi102_2 hl102_2
      replace p102 := eq_true p102
      replace q102 := eq_true q102
      go_wp2_with (first | ((with_reducible refine gate_dst (N := 5) rfl ?_); refine bE (N := 5) (cs := #[.int .i64 0, .int .i64 0, .slice none 0 0]) (t := 37) ?_; intro gb103 hg w9 hbox hb; have GW103 := qw HB hg; have GE103 := qw HB hg; have NB101_103 := ql BK101 hg; have NB103_101 := qg BK101 hg; replace BK101 := qb BK101 hb; have BK103 := aK hbox; replace HB := qs HB hb; clear hb hbox hg; have hnb10 := NB103_101.out; have hnc10 := NB101_103.out; obtain ⟨hcz11_0, hcz11_1, hcz11_2, hfz11_0, hfz11_1, hfz11_2⟩ := cA3 BK103) | ((with_reducible refine gate_callee (f := 43) rfl ?_); refine goesL_ (some 15) rfl rfl Try.func43 (by kernel_rfl) rfl #[.agg #[.int .i64 ((rd_T37 l0_2 x9_1).f0), .int .i64 ((rd_T37 l0_2 x9_1).f1), .slice A102_2 ((rd_T37 l0_2 x9_1).f2).length c102_2]] rfl tA ?_; (with_reducible refine (ih k1 (by have := HK1.out; omega) ((rd_T37 l0_2 x9_1).f0) ((rd_T37 l0_2 x9_1).f1) _ _ ((rd_T37 l0_2 x9_1).f2) t104 _ ?side1 ?side2 A7.out).mono ?_); (case side1 => exact Kd.C_below HR102_2.out (pH HB)); (case side2 => exact HC102_2.out); rintro e w12 ⟨rfl, hb⟩; refine ⟨_, rfl, ?_⟩; have n0_ := aK (blk_below (g := gb101) (o := .cells #[.int .i64 a0_0, .int .i64 a0_1, .slice (some ad102) l0_2.length c0_2] 37 (0, 0)) (by (repeat first | with_reducible apply zN | with_reducible apply zD | with_reducible apply zA | refine blk_far ?_ NB101_103.out _); exact BK101.out) hb); have n1_ := aK (blk_below (g := gb103) (o := .cells #[.int .i64 ((rd_T37 l0_2 x9_1).f0), .int .i64 ((rd_T37 l0_2 x9_1).f1), .slice A102_2 ((rd_T37 l0_2 x9_1).f2).length c102_2] 37 (0, 0)) (p3 BK103) hb); have n2_ := aK (below_step (pH HB) hb); clear BK101; clear BK103; clear HB; have BK101 := n0_; have BK103 := n1_; have HB := n2_; clear n0_ n1_ n2_; (try clear hb)))
      go_roundg k1
      case measure => have := HK1.out; omega
      case rel => exact ⟨(ji8), (wrap64 (x9_1 + 1)), (by first | rfl | (simp; done) | (simp only [← hji8] <;> (first | rfl | simp)) | (simp [*]; done)), rS, H', ⟨by have := HK1.out; omega⟩, ⟨pB BK101⟩, ⟨pH HB⟩⟩
     ·rw [if_neg c6] at H
      exact absurd H (by simp)
    ·rw [if_neg c5] at H
     exact absurd H (by simp)
   ·rw [if_neg c4] at H
    have c4b0 : decide (x9_1 < (l0_2.length : Int)) = false := decide_eq_false c4
    clear c4
    obtain rfl := Option.some.inj H
    go_wp2
    go_ret
    exact ⟨eW, pH HB⟩


namespace Are37
def Tells (g : Nat) (lb : Array Value) (p : S37 → Bool) (l : List S37) (w : World) : Prop :=
 ∀ (W : World) (x : S37) (A : Option Addr) (c : Nat), x ∈ l → Below w.heap.size w W → Kd.C k37 W A x.f2.length x.f2 → x.f2.length ≤ c → Calls Try.prog g (#[.agg #[.int .i64 x.f0, .int .i64 x.f1, .slice A x.f2.length c]] ++ lb) W fun e w' => e = .returned (.bool (p x)) ∧ Below W.heap.size W w'

theorem rd_mem (l : List S37) (i : Int) (h0 : 0 ≤ i) (h1 : i < l.length) : rd_T37 l i ∈ l := by
 have hlt : i.toNat < l.length := by omega
 have e : rd_T37 l i = l[i.toNat] := by unfold rd_T37; rw [List.getD_eq_getElem?_getD, List.getElem?_eq_getElem hlt]; rfl
 rw [e]; exact List.getElem_mem hlt
theorem any_take_succ (p : S37 → Bool) (l : List S37) (i : Int) (h0 : 0 ≤ i) (h1 : i < l.length) (h : (l.take i.toNat).any p = false) (hx : p (rd_T37 l i) = false) : (l.take (i + 1).toNat).any p = false := by
 have hlt : i.toNat < l.length := by omega
 rw [show (i + 1).toNat = i.toNat + 1 by omega, List.take_succ_eq_append_getElem hlt, List.any_append, h]
 have e : rd_T37 l i = l[i.toNat] := by unfold rd_T37; rw [List.getD_eq_getElem?_getD, List.getElem?_eq_getElem hlt]; rfl
 rw [← e]; simp [hx]
theorem any_at (p : S37 → Bool) (l : List S37) (i : Int) (h0 : 0 ≤ i) (h1 : i < l.length) (hx : p (rd_T37 l i) = true) : l.any p = true := by
 rw [List.any_eq_true]
 exact ⟨_, rd_mem l i h0 h1, hx⟩

set_option maxHeartbeats 1000000 in
set_option maxRecDepth 100000 in
theorem index_some (g : Nat) (lb : Array Value) (p : S37 → Bool) (A0 : Option Addr) (c0 : Nat) (l0 : List S37) (w : World) (hr0 : Kd.C k37 w A0 l0.length l0)
  (eg : ∀ (args : Array Value) (w : World), (callFunc g args).run Try.prog w = .ok (.enter g args) w) (hp : Tells g lb p l0 w) :
  Calls Try.prog 76 #[.slice A0 l0.length c0, .func (.func g) #[] lb] w fun e w' => (∃ r : Int, e = .returned (.int .i64 r) ∧ decide (0 ≤ r) = l0.any p) ∧ Below w.heap.size w w' := by
 have hu68 := Try.underlying37
 have HR0 := aK hr0
 have HL := aK hr0.2.1
 clear hr0
 have HP := aK hp
 clear hp
 have HB := aK (Below.refl w.heap.size w)
 go_enter Try.func76, Try.ntmps76
 go_wp2
 go_loopg [8] (l0.length + 1) (fun kq v8 w' => ∃ (i : Int), v8 = .int .i64 i ∧ Aside0 (0 ≤ i ∧ i ≤ l0.length ∧ (kq : Int) = l0.length - i + 1 ∧ (l0.take i.toNat).any p = false) ∧ Aside0 (Below w.heap.size w w'))
 case atStart => exact ⟨0, rfl, ⟨by omega, by omega, by omega, by simp⟩, HB⟩
 case round =>
  clear HB
  obtain ⟨i, rfl, HA, HB1⟩ := hrel
  by_cases c : i < (l0.length : Int)
  ·have cb : decide (i < (l0.length : Int)) = true := decide_eq_true c
   have cz : decide (0 ≤ i) = true := decide_eq_true HA.out.1
   obtain ⟨ad, A2, c2, e1, hx0, hx1, hx2, hl2, hi2⟩ := at_T37 (Kd.C_below HR0.out HB1.out) i HA.out.1 c
   cases e1
   have HC2 := aK hl2
   have HR2 := aK hi2
   clear hl2 hi2
   have p1 := eq_true HA.out.1
   have q1 := eq_true c
   have w1 : wrap64 (i + 1) = i + 1 := by have := HA.out.1; have := HA.out.2.1; have := HL.out; unfold wrap64; omega
   have W1 := aK w1
   have Cc := aK c
   clear c w1
   go_wp2_with fail
   refine (HP.out _ (rd_T37 l0 i) A2 c2 (rd_mem l0 i HA.out.1 Cc.out) HB1.out HR2.out HC2.out).mono ?_
   rintro e w' ⟨rfl, hb⟩
   have HB2 := aK (below_step HB1.out hb)
   clear hb
   by_cases hpx : p (rd_T37 l0 i) = true
   ·have HX := aK hpx
    go_wp2
    go_ret
    exact ⟨⟨i, rfl, by rw [any_at p l0 i HA.out.1 Cc.out HX.out]; exact decide_eq_true HA.out.1⟩, HB2.out⟩
   ·replace hpx := Bool.eq_false_iff.mpr hpx
    have HX := aK hpx
    obtain ⟨k1, rfl⟩ : ∃ m, gk = m + 1 := ⟨gk - 1, by have := HA.out; omega⟩
    go_wp2
    go_roundg k1
    case measure => omega
    case rel => exact ⟨i + 1, by first | rfl | rw [W1.out], ⟨by have := HA.out; omega, by have := HA.out; have := Cc.out; omega, by have := HA.out; omega, any_take_succ p l0 i HA.out.1 Cc.out HA.out.2.2.2 HX.out⟩, HB2⟩
  ·have cb : decide (i < (l0.length : Int)) = false := decide_eq_false c
   have Cc := aK c
   clear c
   go_wp2
   go_ret
   refine ⟨⟨-1, rfl, ?_⟩, HB1.out⟩
   have h := HA.out.2.2.2
   rw [List.take_of_length_le (by have := HA.out; have := Cc.out; omega)] at h
   rw [h]; rfl

set_option maxHeartbeats 1000000 in
set_option maxRecDepth 100000 in
theorem contains_some (g : Nat) (lb : Array Value) (p : S37 → Bool) (A0 : Option Addr) (c0 : Nat) (l0 : List S37) (w : World) (hr0 : Kd.C k37 w A0 l0.length l0)
  (eg : ∀ (args : Array Value) (w : World), (callFunc g args).run Try.prog w = .ok (.enter g args) w) (hp : Tells g lb p l0 w) :
  Calls Try.prog 60 #[.slice A0 l0.length c0, .func (.func g) #[] lb] w fun e w' => e = .returned (.bool (l0.any p)) ∧ Below w.heap.size w w' := by
 go_enter Try.func60, Try.ntmps60
 go_wp2_with fail
 refine (index_some g lb p A0 c0 l0 _ hr0 eg hp).mono ?_
 rintro e w' ⟨⟨r, rfl, hr⟩, hb⟩
 have HR := aK hr
 clear hr
 go_wp2
 go_ret
 exact ⟨by rw [← HR.out]; rfl, hb⟩

def nodeOk (k n : Int) : Bool := decide (0 ≤ n) && decide (n ≤ 99) && (decide (k = 1) || decide (n = 0))
mutual
def okT : S37 → Bool
 | ⟨k, n, l⟩ => nodeOk k n && okL l
def okL : List S37 → Bool
 | [] => true
 | x :: l => okT x && okL l
end
theorem okL_all (l : List S37) : okL l = l.all okT := by
 induction l with
 | nil => rw [okL]; rfl
 | cons x l ih => rw [okL, ih]; rfl
theorem any_not (l : List S37) : (l.any fun x => !okT x) = !okL l := by
 rw [okL_all]
 induction l with
 | nil => rfl
 | cons x l ih => simp only [List.any_cons, List.all_cons, ih, Bool.not_and]
theorem okT_eq (x : S37) : okT x = (nodeOk x.f0 x.f1 && okL x.f2) := by cases x; rw [okT]

set_option maxHeartbeats 1000000 in
set_option maxRecDepth 100000 in
theorem lit_some (x : S37) (A : Option Addr) (c : Nat) (W : World) (hr : Kd.C k37 W A x.f2.length x.f2) (hc : x.f2.length ≤ c)
  (ih : ∀ (w : World), Kd.C k37 w A x.f2.length x.f2 → Calls Try.prog 44 #[.agg #[.int .i64 x.f0, .int .i64 x.f1, .slice A x.f2.length c]] w fun e w' => e = .returned (.bool (okT x)) ∧ Below w.heap.size w w') :
  Calls Try.prog 61 #[.agg #[.int .i64 x.f0, .int .i64 x.f1, .slice A x.f2.length c]] W fun e w' => e = .returned (.bool (!okT x)) ∧ Below W.heap.size W w' := by
 have hu68 := Try.underlying37
 have HR0 := aK hr
 clear hr
 have HI := aK ih
 clear ih
 have HB := aK (Below.refl W.heap.size W)
 go_enter Try.func61, Try.ntmps61
 go_wp2_with (first | ((with_reducible refine gate_dst (N := 1) rfl ?_); refine bE (N := 1) (cs := #[.int .i64 x.f0, .int .i64 x.f1, .slice A x.f2.length c]) (t := 37) ?_; intro gb hg w5 hbox hb; have n0_ := aK (below_step HB.out hb); have BK := aK hbox; clear HB; have HB := n0_; clear n0_; clear hb hbox hg; have hcz_0 : w5.cell? ⟨gb, 0, none⟩ = some (.int .i64 x.f0) := (blk_cell BK.out 0).trans rfl; have hcz_1 : w5.cell? ⟨gb, 1, none⟩ = some (.int .i64 x.f1) := (blk_cell BK.out 1).trans rfl; have hcz_2 : w5.cell? ⟨gb, 2, none⟩ = some (.slice A x.f2.length c) := (blk_cell BK.out 2).trans rfl; have hfz_0 := blk_frozen BK.out 0; have hfz_1 := blk_frozen BK.out 1; have hfz_2 := blk_frozen BK.out 2) | ((with_reducible refine gate_callee (f := 44) rfl ?_); refine goesL_ (some 4) rfl rfl Try.func44 (by kernel_rfl) rfl #[.agg #[.int .i64 x.f0, .int .i64 x.f1, .slice A x.f2.length c]] rfl tA ?_; refine (HI.out _ (Kd.C_below HR0.out HB.out)).mono ?_; rintro e w7 ⟨rfl, hb⟩; refine ⟨_, rfl, ?_⟩; have n1_ := aK (below_step HB.out hb); clear BK HB; have HB := n1_; clear n1_; clear hb))
 go_ret
 exact ⟨rfl, pH HB⟩

set_option maxHeartbeats 2000000 in
set_option maxRecDepth 100000 in
theorem node_bad (a0 a1 : Int) (A : Option Addr) (c : Nat) (l : List S37) (w : World) (h : nodeOk a0 a1 = false) :
  Calls Try.prog 44 #[.agg #[.int .i64 a0, .int .i64 a1, .slice A l.length c]] w fun e w' => e = .returned (.bool false) ∧ Below w.heap.size w w' := by
 have hu68 := Try.underlying37
 have HB := aK (Below.refl w.heap.size w)
 unfold nodeOk at h
 by_cases c1 : a1 < 0
 ·have cb1 : decide (a1 < 0) = true := decide_eq_true c1
  clear h c1
  go_enter Try.func44, Try.ntmps44
  go_wp2_with ((with_reducible refine gate_dst (N := 1) rfl ?_); refine bE (N := 1) (cs := #[.int .i64 a0, .int .i64 a1, .slice A l.length c]) (t := 37) ?_; intro gb hg w5 hbox hb; have n0_ := aK (below_step HB.out hb); have BK := aK hbox; clear HB; have HB := n0_; clear n0_; clear hb hbox hg; have hcz_0 : w5.cell? ⟨gb, 0, none⟩ = some (.int .i64 a0) := (blk_cell BK.out 0).trans rfl; have hcz_1 : w5.cell? ⟨gb, 1, none⟩ = some (.int .i64 a1) := (blk_cell BK.out 1).trans rfl; have hcz_2 : w5.cell? ⟨gb, 2, none⟩ = some (.slice A l.length c) := (blk_cell BK.out 2).trans rfl; have hfz_0 := blk_frozen BK.out 0; have hfz_1 := blk_frozen BK.out 1; have hfz_2 := blk_frozen BK.out 2)
  go_ret
  exact ⟨rfl, HB.out⟩
 ·have cb1 : decide (a1 < 0) = false := decide_eq_false c1
  by_cases c2 : a1 > 99
  ·have cb2 : decide (a1 > 99) = true := decide_eq_true c2
   clear h c1 c2
   go_enter Try.func44, Try.ntmps44
   go_wp2_with ((with_reducible refine gate_dst (N := 1) rfl ?_); refine bE (N := 1) (cs := #[.int .i64 a0, .int .i64 a1, .slice A l.length c]) (t := 37) ?_; intro gb hg w5 hbox hb; have n0_ := aK (below_step HB.out hb); have BK := aK hbox; clear HB; have HB := n0_; clear n0_; clear hb hbox hg; have hcz_0 : w5.cell? ⟨gb, 0, none⟩ = some (.int .i64 a0) := (blk_cell BK.out 0).trans rfl; have hcz_1 : w5.cell? ⟨gb, 1, none⟩ = some (.int .i64 a1) := (blk_cell BK.out 1).trans rfl; have hcz_2 : w5.cell? ⟨gb, 2, none⟩ = some (.slice A l.length c) := (blk_cell BK.out 2).trans rfl; have hfz_0 := blk_frozen BK.out 0; have hfz_1 := blk_frozen BK.out 1; have hfz_2 := blk_frozen BK.out 2)
   go_ret
   exact ⟨rfl, HB.out⟩
  ·have cb2 : decide (a1 > 99) = false := decide_eq_false c2
   have h3 : a0 ≠ 1 ∧ a1 ≠ 0 := by
    rw [decide_eq_true (show 0 ≤ a1 by omega), decide_eq_true (show a1 ≤ 99 by omega)] at h
    simp at h
    exact h
   obtain ⟨h3, h4⟩ := h3
   replace h3 : (a0 != 1) = true := bne_iff_ne.mpr h3
   replace h4 : (a1 != 0) = true := bne_iff_ne.mpr h4
   clear h c1 c2
   go_enter Try.func44, Try.ntmps44
   go_wp2_with ((with_reducible refine gate_dst (N := 1) rfl ?_); refine bE (N := 1) (cs := #[.int .i64 a0, .int .i64 a1, .slice A l.length c]) (t := 37) ?_; intro gb hg w5 hbox hb; have n0_ := aK (below_step HB.out hb); have BK := aK hbox; clear HB; have HB := n0_; clear n0_; clear hb hbox hg; have hcz_0 : w5.cell? ⟨gb, 0, none⟩ = some (.int .i64 a0) := (blk_cell BK.out 0).trans rfl; have hcz_1 : w5.cell? ⟨gb, 1, none⟩ = some (.int .i64 a1) := (blk_cell BK.out 1).trans rfl; have hcz_2 : w5.cell? ⟨gb, 2, none⟩ = some (.slice A l.length c) := (blk_cell BK.out 2).trans rfl; have hfz_0 := blk_frozen BK.out 0; have hfz_1 := blk_frozen BK.out 1; have hfz_2 := blk_frozen BK.out 2)
   go_ret
   exact ⟨rfl, HB.out⟩
set_option maxHeartbeats 2000000 in
set_option maxRecDepth 100000 in
theorem node_good (a0 a1 : Int) (A : Option Addr) (c : Nat) (l : List S37) (w : World) (hr : Kd.C k37 w A l.length l) (hc : l.length ≤ c) (h : nodeOk a0 a1 = true)
  (ih : ∀ x ∈ l, ∀ (A : Option Addr) (c : Nat) (w : World), x.f2.length ≤ c → Kd.C k37 w A x.f2.length x.f2 → Calls Try.prog 44 #[.agg #[.int .i64 x.f0, .int .i64 x.f1, .slice A x.f2.length c]] w fun e w' => e = .returned (.bool (okT x)) ∧ Below w.heap.size w w') :
  Calls Try.prog 44 #[.agg #[.int .i64 a0, .int .i64 a1, .slice A l.length c]] w fun e w' => e = .returned (.bool (okL l)) ∧ Below w.heap.size w w' := by
 have hu68 := Try.underlying37
 have HR0 := aK hr
 clear hr
 have eg := enters_ Try.func61 (by kernel_rfl) rfl
 have EG := aK eg
 clear eg
 have HT : ∀ W, Below w.heap.size w W → Tells 61 #[] (fun x => !okT x) l W := by
  intro W hW W2 x A2 c2 hx hb hC hl
  have := lit_some x A2 c2 W2 hC hl (fun w3 h3 => ih x hx A2 c2 w3 hl h3)
  simpa using this
 have HI := aK HT
 clear HT ih
 have HB := aK (Below.refl w.heap.size w)
 have h1 : 0 ≤ a1 ∧ a1 ≤ 99 ∧ (a0 = 1 ∨ a1 = 0) := by
  unfold nodeOk at h
  simp at h
  omega
 clear h
 have cb1 : decide (a1 < 0) = false := decide_eq_false (by omega)
 have cb2 : decide (a1 > 99) = false := decide_eq_false (by omega)
 have key : (a0 = 1) ∨ (a0 ≠ 1 ∧ a1 = 0) := by omega
 clear h1
 rcases key with rfl | ⟨h3, rfl⟩
 ·go_enter Try.func44, Try.ntmps44
  go_wp2_with (first | ((with_reducible refine gate_dst (N := 1) rfl ?_); refine bE (N := 1) (cs := #[.int .i64 1, .int .i64 a1, .slice A l.length c]) (t := 37) ?_; intro gb hg w5 hbox hb; have n0_ := aK (below_step HB.out hb); have BK := aK hbox; clear HB; have HB := n0_; clear n0_; clear hb hbox hg; have hcz_0 : w5.cell? ⟨gb, 0, none⟩ = some (.int .i64 1) := (blk_cell BK.out 0).trans rfl; have hcz_1 : w5.cell? ⟨gb, 1, none⟩ = some (.int .i64 a1) := (blk_cell BK.out 1).trans rfl; have hcz_2 : w5.cell? ⟨gb, 2, none⟩ = some (.slice A l.length c) := (blk_cell BK.out 2).trans rfl; have hfz_0 := blk_frozen BK.out 0; have hfz_1 := blk_frozen BK.out 1; have hfz_2 := blk_frozen BK.out 2) | ((with_reducible refine gate_callee (f := 60) rfl ?_); refine goesL_ (some 23) rfl rfl Try.func60 (by kernel_rfl) rfl #[.slice A l.length c, .func (.func 61) #[] #[]] rfl tA ?_; refine (contains_some 61 #[] (fun x => !okT x) A c l _ (Kd.C_below HR0.out HB.out) EG.out (HI.out _ HB.out)).mono ?_; rintro e w7 ⟨rfl, hb⟩; refine ⟨_, rfl, ?_⟩; have n1_ := aK (below_step HB.out hb); clear BK HB; have HB := n1_; clear n1_; clear hb))
  go_ret
  exact ⟨by rw [any_not, Bool.not_not]; rfl, HB.out⟩
 ·clear cb1 cb2
  replace h3 : (a0 != 1) = true := bne_iff_ne.mpr h3
  go_enter Try.func44, Try.ntmps44
  go_wp2_with (first | ((with_reducible refine gate_dst (N := 1) rfl ?_); refine bE (N := 1) (cs := #[.int .i64 a0, .int .i64 0, .slice A l.length c]) (t := 37) ?_; intro gb hg w5 hbox hb; have n0_ := aK (below_step HB.out hb); have BK := aK hbox; clear HB; have HB := n0_; clear n0_; clear hb hbox hg; have hcz_0 : w5.cell? ⟨gb, 0, none⟩ = some (.int .i64 a0) := (blk_cell BK.out 0).trans rfl; have hcz_1 : w5.cell? ⟨gb, 1, none⟩ = some (.int .i64 0) := (blk_cell BK.out 1).trans rfl; have hcz_2 : w5.cell? ⟨gb, 2, none⟩ = some (.slice A l.length c) := (blk_cell BK.out 2).trans rfl; have hfz_0 := blk_frozen BK.out 0; have hfz_1 := blk_frozen BK.out 1; have hfz_2 := blk_frozen BK.out 2) | ((with_reducible refine gate_callee (f := 60) rfl ?_); refine goesL_ (some 23) rfl rfl Try.func60 (by kernel_rfl) rfl #[.slice A l.length c, .func (.func 61) #[] #[]] rfl tA ?_; refine (contains_some 61 #[] (fun x => !okT x) A c l _ (Kd.C_below HR0.out HB.out) EG.out (HI.out _ HB.out)).mono ?_; rintro e w7 ⟨rfl, hb⟩; refine ⟨_, rfl, ?_⟩; have n1_ := aK (below_step HB.out hb); clear BK HB; have HB := n1_; clear n1_; clear hb))
  go_ret
  exact ⟨by rw [any_not, Bool.not_not]; rfl, HB.out⟩

theorem all_some : ∀ (N : Nat) (a0 a1 : Int) (l : List S37) (A : Option Addr) (c : Nat) (w : World), SizeOf.sizeOf l ≤ N → l.length ≤ c → Kd.C k37 w A l.length l →
  Calls Try.prog 44 #[.agg #[.int .i64 a0, .int .i64 a1, .slice A l.length c]] w fun e w' => e = .returned (.bool (nodeOk a0 a1 && okL l)) ∧ Below w.heap.size w w' := by
 intro N
 induction N with
 | zero =>
  intro a0 a1 l A c w hN
  cases l with
  | nil => simp at hN
  | cons x l => simp at hN
 | succ N ih =>
  intro a0 a1 l A c w hN hl hC
  by_cases h : nodeOk a0 a1 = true
  ·rw [h, Bool.true_and]
   refine node_good a0 a1 A c l w hC hl h fun x hx A2 c2 w2 hl2 hC2 => ?_
   rw [okT_eq]
   refine ih x.f0 x.f1 x.f2 A2 c2 w2 ?_ hl2 hC2
   have h1 := List.sizeOf_lt_of_mem hx
   have h2 : SizeOf.sizeOf x.f2 < SizeOf.sizeOf x := by cases x; simp; omega
   omega
  ·replace h := Bool.eq_false_iff.mpr h
   rw [h, Bool.false_and]
   exact node_bad a0 a1 A c l w h
end Are37

def impl_term_areNumbers.f (k : Nat) (a0_0 : Int) (a0_1 : Int) (l0_2 : List (S37)) : Option (Bool) := some (Are37.nodeOk a0_0 a0_1 && Are37.okL l0_2)
theorem impl_term_areNumbers.calls (k : Nat) (a0_0 : Int) (a0_1 : Int) (A0_2 : Option Addr) (c0_2 : Nat) (l0_2 : List (S37)) (r : Bool) (w : World) (hr0_2 : Kd.C k37 w A0_2 l0_2.length l0_2) (hc0_2 : l0_2.length ≤ c0_2) (h : impl_term_areNumbers.f k a0_0 a0_1 l0_2 = some r) :
  Calls Try.prog 44 #[.agg #[.int .i64 a0_0, .int .i64 a0_1, .slice A0_2 l0_2.length c0_2]] w fun e w' => e = .returned (.bool r) ∧ Below w.heap.size w w' := by
 obtain rfl := Option.some.inj h
 exact Are37.all_some (SizeOf.sizeOf l0_2) a0_0 a0_1 l0_2 A0_2 c0_2 w (Nat.le_refl _) hc0_2 hr0_2

def impl_term_isGood.f (k : Nat) (a0_0 : Int) (a0_1 : Int) (l0_2 : List (S37)) : Option (Bool) := (impl_term_size.f k a0_0 a0_1 l0_2).bind fun t102 => (if t102 ≤ 150 then ((impl_term_depth.f k a0_0 a0_1 l0_2).bind fun t103 => (if t103 ≤ 40 then ((impl_term_areNumbers.f k a0_0 a0_1 l0_2).bind fun t104 => (some t104)) else (some false))) else (some false))
set_option maxHeartbeats 8000000 in
set_option maxRecDepth 100000 in
theorem impl_term_isGood.calls (k : Nat) (a0_0 : Int) (a0_1 : Int) (A0_2 : Option Addr) (c0_2 : Nat) (l0_2 : List (S37)) (r : Bool) (w : World) (hr0_2 : Kd.C k37 w A0_2 l0_2.length l0_2) (hc0_2 : l0_2.length ≤ c0_2) (h : impl_term_isGood.f k a0_0 a0_1 l0_2 = some r) :
  Calls Try.prog 20 #[.agg #[.int .i64 a0_0, .int .i64 a0_1, .slice A0_2 l0_2.length c0_2]] w fun e w' => e = .returned (.bool r) ∧ Below w.heap.size w w' := by
 have hu37 := Try.underlying37
 have HR0_2 := aK hr0_2
 have HC0_2 := aK hc0_2
 clear hr0_2 hc0_2
 have HB := aK (Below.refl w.heap.size w)
 have H : ((impl_term_size.f k a0_0 a0_1 l0_2).bind fun t102 => (if t102 ≤ 150 then ((impl_term_depth.f k a0_0 a0_1 l0_2).bind fun t103 => (if t103 ≤ 40 then ((impl_term_areNumbers.f k a0_0 a0_1 l0_2).bind fun t104 => (some t104)) else (some false))) else (some false))) = some r := h
 clear h
 replace H := Option.bind_eq_some_iff.mp H
 obtain ⟨t102, A20, H⟩ := H
 try dsimp only at H
 have A2 := aK A20
 clear A20
 by_cases c3 : t102 ≤ 150
 ·rw [if_pos c3] at H
  have c3b0 : decide (t102 ≤ 150) = true := decide_eq_true c3
  clear c3
  replace H := Option.bind_eq_some_iff.mp H
  obtain ⟨t103, A40, H⟩ := H
  try dsimp only at H
  have A4 := aK A40
  clear A40
  by_cases c5 : t103 ≤ 40
  ·rw [if_pos c5] at H
   have c5b0 : decide (t103 ≤ 40) = true := decide_eq_true c5
   clear c5
   replace H := Option.bind_eq_some_iff.mp H
   obtain ⟨t104, A60, H⟩ := H
   try dsimp only at H
   have A6 := aK A60
   clear A60
   obtain rfl := Option.some.inj H
   go_enter Try.func20, Try.ntmps20
   go_wp2_with (first | ((with_reducible refine gate_dst (N := 1) rfl ?_); refine bE (N := 1) (cs := #[.int .i64 a0_0, .int .i64 a0_1, .slice A0_2 l0_2.length c0_2]) (t := 37) ?_; intro gb101 hg w7 hbox hb; have GW101 := qw HB hg; have GE101 := qw HB hg; have BK101 := aK hbox; replace HB := qs HB hb; clear hb hbox hg; obtain ⟨hcz8_0, hcz8_1, hcz8_2, hfz8_0, hfz8_1, hfz8_2⟩ := cA3 BK101) | ((with_reducible refine gate_callee (f := 42) rfl ?_); refine goesL_ (some 4) rfl rfl Try.func42 (by kernel_rfl) rfl #[.agg #[.int .i64 a0_0, .int .i64 a0_1, .slice A0_2 l0_2.length c0_2]] rfl tA ?_; (with_reducible refine (impl_term_size.calls k a0_0 a0_1 _ _ l0_2 t102 _ ?side1 ?side2 A2.out).mono ?_); (case side1 => exact sC (Kd.C_below HR0_2.out HB.out)); (case side2 => exact HC0_2.out); rintro e w9 ⟨rfl, hb⟩; refine ⟨_, rfl, ?_⟩; replace BK101 := qb BK101 hb; replace HB := qs HB hb; (try clear hb); obtain ⟨hcz10_0, hcz10_1, hcz10_2, hfz10_0, hfz10_1, hfz10_2⟩ := cA3 BK101) | (go_at_call 43; (with_reducible refine (impl_term_depth.calls k a0_0 a0_1 _ _ l0_2 t103 _ ?side1 ?side2 A4.out).mono ?_); (case side1 => exact sC (Kd.C_below HR0_2.out HB.out)); (case side2 => exact HC0_2.out); rintro e w11 ⟨rfl, hb⟩; replace BK101 := qb BK101 hb; replace HB := qs HB hb; (try clear hb); obtain ⟨hcz12_0, hcz12_1, hcz12_2, hfz12_0, hfz12_1, hfz12_2⟩ := cA3 BK101) | (go_at_call 44; (with_reducible refine (impl_term_areNumbers.calls k a0_0 a0_1 _ _ l0_2 t104 _ ?side1 ?side2 A6.out).mono ?_); (case side1 => exact sC (Kd.C_below HR0_2.out HB.out)); (case side2 => exact HC0_2.out); rintro e w13 ⟨rfl, hb⟩; replace BK101 := qb BK101 hb; replace HB := qs HB hb; (try clear hb)))
   go_ret
   exact ⟨eW, pH HB⟩
  ·rw [if_neg c5] at H
   have c5b0 : decide (t103 ≤ 40) = false := decide_eq_false c5
   clear c5
   obtain rfl := Option.some.inj H
   go_enter Try.func20, Try.ntmps20
   go_wp2_with (first | ((with_reducible refine gate_dst (N := 1) rfl ?_); refine bE (N := 1) (cs := #[.int .i64 a0_0, .int .i64 a0_1, .slice A0_2 l0_2.length c0_2]) (t := 37) ?_; intro gb101 hg w14 hbox hb; have GW101 := qw HB hg; have GE101 := qw HB hg; have BK101 := aK hbox; replace HB := qs HB hb; clear hb hbox hg; obtain ⟨hcz15_0, hcz15_1, hcz15_2, hfz15_0, hfz15_1, hfz15_2⟩ := cA3 BK101) | ((with_reducible refine gate_callee (f := 42) rfl ?_); refine goesL_ (some 4) rfl rfl Try.func42 (by kernel_rfl) rfl #[.agg #[.int .i64 a0_0, .int .i64 a0_1, .slice A0_2 l0_2.length c0_2]] rfl tA ?_; (with_reducible refine (impl_term_size.calls k a0_0 a0_1 _ _ l0_2 t102 _ ?side1 ?side2 A2.out).mono ?_); (case side1 => exact sC (Kd.C_below HR0_2.out HB.out)); (case side2 => exact HC0_2.out); rintro e w16 ⟨rfl, hb⟩; refine ⟨_, rfl, ?_⟩; replace BK101 := qb BK101 hb; replace HB := qs HB hb; (try clear hb); obtain ⟨hcz17_0, hcz17_1, hcz17_2, hfz17_0, hfz17_1, hfz17_2⟩ := cA3 BK101) | (go_at_call 43; (with_reducible refine (impl_term_depth.calls k a0_0 a0_1 _ _ l0_2 t103 _ ?side1 ?side2 A4.out).mono ?_); (case side1 => exact sC (Kd.C_below HR0_2.out HB.out)); (case side2 => exact HC0_2.out); rintro e w18 ⟨rfl, hb⟩; replace BK101 := qb BK101 hb; replace HB := qs HB hb; (try clear hb)))
   go_ret
   exact ⟨eW, pH HB⟩
 ·rw [if_neg c3] at H
  have c3b0 : decide (t102 ≤ 150) = false := decide_eq_false c3
  clear c3
  obtain rfl := Option.some.inj H
  go_enter Try.func20, Try.ntmps20
  go_wp2_with (first | ((with_reducible refine gate_dst (N := 1) rfl ?_); refine bE (N := 1) (cs := #[.int .i64 a0_0, .int .i64 a0_1, .slice A0_2 l0_2.length c0_2]) (t := 37) ?_; intro gb101 hg w19 hbox hb; have GW101 := qw HB hg; have GE101 := qw HB hg; have BK101 := aK hbox; replace HB := qs HB hb; clear hb hbox hg; obtain ⟨hcz20_0, hcz20_1, hcz20_2, hfz20_0, hfz20_1, hfz20_2⟩ := cA3 BK101) | ((with_reducible refine gate_callee (f := 42) rfl ?_); refine goesL_ (some 4) rfl rfl Try.func42 (by kernel_rfl) rfl #[.agg #[.int .i64 a0_0, .int .i64 a0_1, .slice A0_2 l0_2.length c0_2]] rfl tA ?_; (with_reducible refine (impl_term_size.calls k a0_0 a0_1 _ _ l0_2 t102 _ ?side1 ?side2 A2.out).mono ?_); (case side1 => exact sC (Kd.C_below HR0_2.out HB.out)); (case side2 => exact HC0_2.out); rintro e w21 ⟨rfl, hb⟩; refine ⟨_, rfl, ?_⟩; replace BK101 := qb BK101 hb; replace HB := qs HB hb; (try clear hb)))
  go_ret
  exact ⟨eW, pH HB⟩


def impl_termOf.j0 : Nat → List (S70) → Bool → Option (Int × Int × (List (S37)) × Bool)
 | 0, _, _ => none
 | k + 1, x0, x14 => if x14 = true then (some (0, 0, ([] : List (S37)), false)) else ((impl_termAt.f k x0 0 (-1)).bind fun bt102 => (if bt102.2.2.2.2 = true then (if bt102.2.2.2.1 = (x0.length : Int) then ((impl_term_isGood.f k bt102.1 bt102.2.1 bt102.2.2.1).bind fun t110 => (some (bt102.1, bt102.2.1, bt102.2.2.1, t110))) else (some (bt102.1, bt102.2.1, bt102.2.2.1, false))) else (some (bt102.1, bt102.2.1, bt102.2.2.1, false))))
def impl_termOf.f (k : Nat) (l0 : List (S70)) : Option (Int × Int × (List (S37)) × Bool) := if (l0.length : Int) < 1 then (impl_termOf.j0 k l0 true) else (impl_termOf.j0 k l0 (decide ((l0.length : Int) > 150)))
def impl_termOf.T4 : Bool × List (List Nat × List Nat) := (true, [([], []), ([], []), ([1], [1]), ([2], [2]), ([2], [2]), ([4, 2], [2, 4]), ([3, 5, 2], [2, 3, 5]), ([2, 6], [2, 6]), ([7, 2], [7]), ([8], [8]), ([9, 8, 8], [8, 9]), ([8, 10], [8, 10]), ([0, 10, 0], [0]), ([11, 12, 0, 1, 2, 3, 4, 5, 6, 7, 8, 9, 10, 11, 12], [11])])
def impl_termOf.B4 : List Nat := [0, 0, 2, 6, 6, 22, 62, 126, 254, 510, 1022, 2046, 2047, 8191]
theorem impl_termOf.tab4 : rtab .any (opsOf Try.f10 4) = impl_termOf.T4 := by kernel_rfl
theorem impl_termOf.bits4 : waitsOk impl_termOf.T4.2 impl_termOf.B4 = true := by kernel_rfl
set_option maxHeartbeats 8000000 in
set_option maxRecDepth 100000 in
theorem impl_termOf.calls (k : Nat) (A0 : Option Addr) (c0 : Nat) (l0 : List (S70)) (r1 : Int) (r2 : Int) (r3 : List (S37)) (r4 : Bool) (w : World) (hr0 : Kd.C k70 w A0 l0.length l0) (hc0 : l0.length ≤ c0) (h : impl_termOf.f k l0 = some (r1, r2, r3, r4)) :
  Calls Try.prog 10 #[.slice A0 l0.length c0] w fun e w' => ∃ v2_ : Value, e = .returned (.tuple #[.agg #[.int .i64 r1, .int .i64 r2, v2_], .bool r4]) ∧ Kd.R k37 37 w' w.heap.size (fun _ => True) v2_ r3 ∧ Below w.heap.size w w' := by
 have hu37 := Try.underlying37
 have HR0 := aK hr0
 have HC0 := aK hc0
 clear hr0 hc0
 have HB := aK (Below.refl w.heap.size w)
 have H : (if (l0.length : Int) < 1 then (impl_termOf.j0 k l0 true) else (impl_termOf.j0 k l0 (decide ((l0.length : Int) > 150)))) = some (r1, r2, r3, r4) := h
 clear h
 have HC2 := aK H
 clear H
 go_enter Try.func10, Try.ntmps10
 go_upto_region 1 with (first | ((with_reducible refine gate_dst (N := 2) rfl ?_); (try (refine gate_guard (by rfl) ?_; dsimp only)); refine bE (N := 2) (cs := #[.int .i64 0, .int .i64 0, .slice none 0 0]) (t := 37) ?_; intro gb101 hg w3 hbox hb; have GW101 := qw HB hg; have GE101 := qw HB hg; have BK101 := aK hbox; replace HB := qs HB hb; clear hb hbox hg))
 (try simp only [Act.put, List.setIfInBounds_toArray, List.set_cons_zero, List.set_cons_succ])
 go_cut [14] (fun v14 wc => ∃ (kq : Nat) (x14_1 : Bool), v14 = .bool x14_1 ∧ Aside0 (impl_termOf.j0 kq l0 x14_1 = some (r1, r2, r3, r4)) ∧ Aside0 (kq ≤ k) ∧ Aside0 (wc.heap[gb101]? = some (.cells #[.int .i64 0, .int .i64 0, (.slice none 0 0)] 37 (0, 0))) ∧ Aside0 (Below w.heap.size w wc))
 case first =>
  have H := HC2.out
  clear HC2
  by_cases c4 : (l0.length : Int) < 1
  ·rw [if_pos c4] at H
   have c4b0 : decide ((l0.length : Int) < 1) = true := decide_eq_true c4
   have c4b1 : decide (l0.length < 1) = true := decide_eq_true (by omega)
   clear c4
   (first | rw [c4b0] | (simp only [i64_w, i32_w]; rw [c4b0]) | skip)
   have H' := aK H
   clear H
   go_wp2
   go_meet
   case rel => exact ⟨_, (true), rS, H', ⟨by first | omega | exact Nat.le_refl _⟩, ⟨pB BK101⟩, ⟨pH HB⟩⟩
  ·rw [if_neg c4] at H
   have c4b0 : decide ((l0.length : Int) < 1) = false := decide_eq_false c4
   have c4b1 : decide (l0.length < 1) = false := decide_eq_false (by omega)
   clear c4
   (first | rw [c4b0] | (simp only [i64_w, i32_w]; rw [c4b0]) | skip)
   have H' := aK H
   clear H
   go_wp2
   go_meet
   case rel => exact ⟨_, (decide ((l0.length : Int) > 150)), rS, H', ⟨by first | omega | exact Nat.le_refl _⟩, ⟨pB BK101⟩, ⟨pH HB⟩⟩
 case rest =>
  clear HC2
  try clear c1; try clear p2; try clear c4; try clear c4b0; try clear c4b1
  obtain ⟨kq, x14_1, rfl, HA, HJ1, BK101, HB⟩ := hcut
  cases kq with
  | zero => exact absurd HA.out (by simp [impl_termOf.j0])
  | succ kj1 =>
   have H := HA.out
   clear HA
   simp only [impl_termOf.j0] at H
   by_cases c5 : x14_1 = true
   ·subst c5
    rw [if_pos rfl] at H
    simp only [Option.some.injEq, Prod.mk.injEq] at H
    obtain ⟨rfl, rfl, rfl, rfl⟩ := H
    obtain ⟨hcz6_0, hcz6_1, hcz6_2, hfz6_0, hfz6_1, hfz6_2⟩ := cA3 BK101
    go_wp2
    refine bodyPost_ret (results_ct rfl _ _ gb101 37 #[.int .i64 0, .int .i64 0, .slice none 0 0] (0, 0) _ rfl (p3 BK101) Try.underlying37 rfl (by kernel_rfl)) rfl ?_
    exact ⟨_, eW, by first | exact Kd.R_nil _ _ _ _ _ | exact Kd.N_nil _ _ _ _ _ | exact Kd.V_nil _ _ _ _ _ | exact Kd.Q_nil _ _ _ _ _ | exact Kd.S_nil _ _ _ _ _, pH HB⟩
   ·replace c5 := Bool.eq_false_iff.mpr c5
    subst c5
    rw [if_neg (show ¬ (false = true) by decide)] at H
    replace H := Option.bind_eq_some_iff.mp H
    obtain ⟨⟨t102, t103, t104, t107, t108⟩, A70, H⟩ := H
    try dsimp only at H
    have A7 := aK A70
    clear A70
    by_cases c8 : t108 = true
    ·subst c8
     rw [if_pos rfl] at H
     by_cases c9 : t107 = (l0.length : Int)
     ·rw [if_pos c9] at H
      have c9b0 : (t107 == (l0.length : Int)) = true := beq_iff_eq.mpr c9
      have c9b1 : (t107 != (l0.length : Int)) = false := bne_eq_false_iff_eq.mpr c9
      clear c9
      replace H := Option.bind_eq_some_iff.mp H
      obtain ⟨t110, A100, H⟩ := H
      try dsimp only at H
      have A10 := aK A100
      clear A100
      simp only [Option.some.injEq, Prod.mk.injEq] at H
      obtain ⟨rfl, rfl, rfl, rfl⟩ := H
      try go_wp2_with (first | ((with_reducible refine gate_callee (f := 19) rfl ?_); refine goesL_ (some 18) rfl rfl Try.func19 (by kernel_rfl) rfl #[.slice A0 l0.length c0, .int .i64 0, .int .i64 (-1)] rfl tA ?_; (with_reducible refine (impl_termAt.calls kj1 _ _ l0 0 (-1) t102 t103 t104 t107 true _ ?side1 ?side2 A7.out).mono ?_); (case side1 => exact sC (Kd.C_below HR0.out HB.out)); (case side2 => exact HC0.out); rintro e w11 ⟨v105, rfl, ho0, hb⟩; refine ⟨_, rfl, ?_⟩; have HO106 := aK (Kd.R_lower (Kd.R_newB ho0 BK101.out) (below_size HB.out)); replace BK101 := qb BK101 hb; replace HB := qs HB hb; (try clear hb); (try clear ho0)) | ((with_reducible refine gate_dst (N := 4) rfl ?_); (try (refine gate_guard (by rfl) ?_; dsimp only)); refine bE (N := 4) (cs := #[.int .i64 0, .int .i64 0, .slice none 0 0]) (t := 37) ?_; intro gb109 hg w12 hbox hb; have n0_ := aK (Kd.R_below (Kd.R_elderB HO106.out gb109 (Nat.le_of_eq hg.symm)) hb); have GW109 := qw HB hg; have GE109 := qw HB hg; have NB101_109 := ql BK101 hg; have NB109_101 := qg BK101 hg; replace BK101 := qb BK101 hb; have BK109 := aK hbox; clear HO106; have HO106 := n0_; clear n0_; replace HB := qs HB hb; clear hb hbox hg; have hnb13 := NB109_101.out; have hnc13 := NB101_109.out; obtain ⟨hcz14_0, hcz14_1, hcz14_2, hfz14_0, hfz14_1, hfz14_2⟩ := cA3 BK109; obtain ⟨Ao15, co15, eo15⟩ := Kd.R_slice HO106.out; subst eo15))
      have n0_ : Aside0 (Kd.R k37 37 (((w12.setCell ⟨gb109, 0, none⟩ (.int .i64 t102)).setCell ⟨gb109, 1, none⟩ (.int .i64 t103)).setCell ⟨gb109, 2, none⟩ (.slice Ao15 t104.length co15)) w.heap.size (fun k_ => k_ ≠ gb101 ∧ k_ ≠ gb109) (.slice Ao15 t104.length co15) t104) := ⟨by (with_reducible repeat (first | apply Kd.R_alloc | apply Kd.R_drewN | apply Kd.R_drew)); exact Kd.R_mono (Kd.R_far (p := ⟨gb109, 2, none⟩) (Kd.R_far (p := ⟨gb109, 1, none⟩) (Kd.R_far (p := ⟨gb109, 0, none⟩) (Kd.R_mono HO106.out (fun k_ hk => (⟨hk, hk.2⟩ : _ ∧ k_ ≠ gb109))) (fun _ hk => hk.2) (.int .i64 t102)) (fun _ hk => hk.2) (.int .i64 t103)) (fun _ hk => hk.2) (.slice Ao15 t104.length co15)) (fun _ hk => ⟨hk.1.1.2, hk.1.2⟩)⟩
      have n1_ : Aside0 ((((w12.setCell ⟨gb109, 0, none⟩ (.int .i64 t102)).setCell ⟨gb109, 1, none⟩ (.int .i64 t103)).setCell ⟨gb109, 2, none⟩ (.slice Ao15 t104.length co15)).heap[gb101]? = some (.cells #[.int .i64 0, .int .i64 0, .slice none 0 0] 37 (0, 0))) := ⟨by (repeat first | with_reducible apply zN | with_reducible apply zD | with_reducible apply zA | refine blk_far ?_ NB101_109.out _); exact BK101.out⟩
      have n2_ : Aside0 ((((w12.setCell ⟨gb109, 0, none⟩ (.int .i64 t102)).setCell ⟨gb109, 1, none⟩ (.int .i64 t103)).setCell ⟨gb109, 2, none⟩ (.slice Ao15 t104.length co15)).heap[gb109]? = some (.cells #[.int .i64 t102, .int .i64 t103, .slice Ao15 t104.length co15] 37 (0, 0))) := ⟨p3 BK109⟩
      have n3_ : Aside0 (Below w.heap.size w (((w12.setCell ⟨gb109, 0, none⟩ (.int .i64 t102)).setCell ⟨gb109, 1, none⟩ (.int .i64 t103)).setCell ⟨gb109, 2, none⟩ (.slice Ao15 t104.length co15))) := ⟨pH HB⟩
      (try clear HO106)
      (try clear BK101)
      (try clear BK109)
      (try clear HB)
      generalize (((w12.setCell ⟨gb109, 0, none⟩ (.int .i64 t102)).setCell ⟨gb109, 1, none⟩ (.int .i64 t103)).setCell ⟨gb109, 2, none⟩ (.slice Ao15 t104.length co15)) = w16 at n0_ n1_ n2_ n3_ ⊢
      have HO106 := n0_
      have BK101 := n1_
      have BK109 := n2_
      have HB := n3_
      clear n0_ n1_ n2_ n3_
      have n0_ := aK (Kd.R_drew HO106.out)
      have n1_ := aK (blk_drew BK101.out)
      have n2_ := aK (blk_drew BK109.out)
      have n3_ := aK (below_drew1 HB.out)
      clear HO106
      clear BK101
      clear BK109
      clear HB
      have HO106 := n0_
      have BK101 := n1_
      have BK109 := n2_
      have HB := n3_
      clear n0_ n1_ n2_ n3_
      refine start_ (n := 14) (S := fun w' => w'.cell? ⟨gb109, 0, none⟩ = some (.int .i64 t102) ∧ w'.cell? ⟨gb109, 1, none⟩ = some (.int .i64 t103) ∧ w'.cell? ⟨gb109, 2, none⟩ = some (.slice Ao15 t104.length co15)) (ds := []) (bs 0 14) (by kernel_rfl) rfl rfl ⟨(blk_cell BK109.out 0).trans rfl, (blk_cell BK109.out 1).trans rfl, (blk_cell BK109.out 2).trans rfl⟩ (fun hHeld => ?_); refine with_tabW impl_termOf.tab4 impl_termOf.bits4 (fun HT_ HW_ => ?_)
      generalize w16.drew = w17 at HO106 BK101 BK109 HB hHeld ⊢
      refine pure_ (i := 1) (N := some 23) (v := ?_) (a' := ?_) #[false, true, false, false, false, false, false, false, false, false, false, false, false, false] rfl rfl (any_of HT_.out (by kernel_rfl)) (fun _ _ _ h => h) (Or.inl ⟨by rfl, ?_⟩) ?_ ?_
      rotate_left
      ·intro w'
       go_simp
       with_reducible rfl
      rotate_left
      ·simp only [sP, i64_w, i32_w]
       rfl
      refine pure_ (i := 2) (N := some 24) (v := ?_) (a' := ?_) #[false, true, true, false, false, false, false, false, false, false, false, false, false, false] rfl rfl (any_of HT_.out (by kernel_rfl)) (fun _ _ _ h => h) (Or.inl ⟨by rfl, ?_⟩) ?_ ?_
      rotate_left
      ·intro w'
       go_simp
       with_reducible rfl
      rotate_left
      ·simp only [sP, i64_w, i32_w]
       rfl
      refine pure_ (i := 3) (N := some 25) (v := ?_) (a' := ?_) #[false, true, true, true, false, false, false, false, false, false, false, false, false, false] rfl rfl (any_of HT_.out (by kernel_rfl)) (fun _ _ _ h => h) (Or.inl ⟨by rfl, ?_⟩) ?_ ?_
      rotate_left
      ·intro w'
       go_simp
       with_reducible rfl
      rotate_left
      ·simp only [sP, i64_w, i32_w]
       rfl
      refine pure_ (i := 4) (N := some 26) (v := ?_) (a' := ?_) #[false, true, true, true, true, false, false, false, false, false, false, false, false, false] rfl rfl (any_of HT_.out (by kernel_rfl)) (fun _ _ _ h => h) (Or.inl ⟨by rfl, ?_⟩) ?_ ?_
      rotate_left
      ·intro w'
       go_simp
       with_reducible rfl
      rotate_left
      ·simp only [sP, i64_w, i32_w]
       rfl
      refine pure_ (i := 5) (N := some 27) (v := ?_) (a' := ?_) #[false, true, true, true, true, true, false, false, false, false, false, false, false, false] rfl rfl (any_of HT_.out (by kernel_rfl)) (fun _ _ _ h => h) (Or.inl ⟨by rfl, ?_⟩) ?_ ?_
      rotate_left
      ·intro w'
       go_simp
       with_reducible rfl
      rotate_left
      ·simp only [sP, i64_w, i32_w]
       rfl
      refine pure_ (i := 6) (N := some 28) (v := ?_) (a' := ?_) #[false, true, true, true, true, true, true, false, false, false, false, false, false, false] rfl rfl (any_of HT_.out (by kernel_rfl)) (fun _ _ _ h => h) (Or.inl ⟨by rfl, ?_⟩) ?_ ?_
      rotate_left
      ·intro w'
       go_simp
       with_reducible rfl
      rotate_left
      ·simp only [sP, i64_w, i32_w]
       rfl
      refine pure_ (i := 7) (N := some 29) (v := ?_) (a' := ?_) #[false, true, true, true, true, true, true, true, false, false, false, false, false, false] rfl rfl (any_of HT_.out (by kernel_rfl)) (fun _ _ _ h => h) (Or.inl ⟨by rfl, ?_⟩) ?_ ?_
      rotate_left
      ·intro w'
       go_simp
       with_reducible rfl
      rotate_left
      ·simp only [sP, i64_w, i32_w]
       rfl
      refine pure_ (i := 8) (N := some 30) (v := ?_) (a' := ?_) #[false, true, true, true, true, true, true, true, true, false, false, false, false, false] rfl rfl (any_of HT_.out (by kernel_rfl)) (fun _ _ _ h => h) (Or.inl ⟨by rfl, ?_⟩) ?_ ?_
      rotate_left
      ·intro w'
       go_simp
       with_reducible rfl
      rotate_left
      ·simp only [sP, i64_w, i32_w]
       rfl
      refine take_ (i := 0) (N := some 22) (v := ?_) (a' := ?_) (bs 9 5) rfl rfl (take_ofW HT_.out HW_.out (by kernel_rfl)) (fun _ _ _ h => h) (Or.inl ⟨by rfl, ?_⟩) hHeld ?_ ?_
      rotate_left
      ·rintro w' ⟨s0, s1, s2⟩
       go_simp
       with_reducible rfl
      rotate_left
      ·simp only [sP, i64_w, i32_w]
       rfl
      refine take_ (i := 9) (N := some 31) (v := ?_) (a' := ?_) (bs 10 4) rfl rfl (take_ofW HT_.out HW_.out (by kernel_rfl)) (fun _ _ _ h => h) (Or.inl ⟨by rfl, ?_⟩) hHeld ?_ ?_
      rotate_left
      ·rintro w' ⟨s0, s1, s2⟩
       go_simp
       with_reducible rfl
      rotate_left
      ·simp only [sP, i64_w, i32_w]
       rfl
      refine one_ (i := 10) (N := some 32) (bs 11 3) rfl rfl (one_of HT_.out (by kernel_rfl)) (by decide) (fun K hK => ?_)
      refine goes_ Try.func20 (by kernel_rfl) rfl #[.agg #[.int .i64 t102, .int .i64 t103, .slice Ao15 t104.length co15]] (by rfl) rfl rfl tA ?_
      with_reducible refine (impl_term_isGood.calls kj1 t102 t103 _ _ t104 t110 _ ?side1 ?side2 A10.out).mono ?_
      (case side1 => exact sC ((Kd.R_reads' HO106.out).2.2))
      (case side2 => exact (Kd.R_reads' HO106.out).2.1)
      rintro e w18 ⟨rfl, hb⟩
      refine ⟨_, rfl, ?_⟩
      have n0_ := aK (Kd.R_below HO106.out hb)
      have n1_ := aK (blk_below BK101.out hb)
      have n2_ := aK (blk_below BK109.out hb)
      have n3_ := aK (below_step (pH HB) hb)
      clear HO106
      clear BK101
      clear BK109
      clear HB
      have HO106 := n0_
      have BK101 := n1_
      have BK109 := n2_
      have HB := n3_
      clear n0_ n1_ n2_ n3_
      (try clear hb)
      (try clear hb2)
      (try clear hk)
      (try clear hi)
      refine hK.out _ _ ⟨(blk_cell BK109.out 0).trans rfl, (blk_cell BK109.out 1).trans rfl, (blk_cell BK109.out 2).trans rfl⟩ (fun hHeld => ?_)
      clear hK K
      refine norm_ (a' := ?_) ?_ ?_
      rotate_left
      ·show Act.put _ (some 32) _ = _
       simp only [sP, i64_w, i32_w]
       rfl
      refine pure_ (i := 11) (N := some 33) (v := ?_) (a' := ?_) (bs 12 2) rfl rfl (any_of HT_.out (by kernel_rfl)) (fun _ _ _ h => h) (Or.inl ⟨by rfl, ?_⟩) ?_ ?_
      rotate_left
      ·intro w'
       go_simp
       with_reducible rfl
      rotate_left
      ·simp only [sP, i64_w, i32_w]
       rfl
      refine one_ (i := 12) (N := none) (bs 13 1) rfl rfl (one_of HT_.out (by kernel_rfl)) (by decide) (fun K hK => ?_)
      have hs19 : w18.cell? ⟨gb101, 0, none⟩ = some (.int .i64 0) := (blk_cell BK101.out 0).trans rfl
      have hfs19 := blk_frozen BK101.out 0
      have hns19_1 := NB109_101.out
      have hms19_1 := NB101_109.out
      have hs20 : w18.cell? ⟨gb101, 1, none⟩ = some (.int .i64 0) := (blk_cell BK101.out 1).trans rfl
      have hfs20 := blk_frozen BK101.out 1
      have hns20_1 := NB109_101.out
      have hms20_1 := NB101_109.out
      have hs21 : w18.cell? ⟨gb101, 2, none⟩ = some (.slice none 0 0) := (blk_cell BK101.out 2).trans rfl
      have hfs21 := blk_frozen BK101.out 2
      have hns21_1 := NB109_101.out
      have hms21_1 := NB101_109.out
      refine skip_ (w1 := ?_) (by rfl) rfl ?_ ?_
      rotate_left
      ·go_simp
       rfl
      refine hK.out _ _ ⟨(cF3 NB109_101.out (hHeld.1)), (cF3 NB109_101.out (hHeld.2.1)), (cF3 NB109_101.out (hHeld.2.2))⟩ (fun hHeld => ?_)
      clear hK K
      refine pure_ (i := 13) (N := some 3) (v := ?_) (a' := ?_) (bs 14 0) rfl rfl (any_of HT_.out (by kernel_rfl)) (fun _ _ _ h => h) (Or.inl ⟨by rfl, ?_⟩) ?_ ?_
      rotate_left
      ·intro w'
       go_simp
       with_reducible rfl
      rotate_left
      ·simp only [sP, i64_w, i32_w]
       rfl
      refine done_ (done_of HT_.out (by kernel_rfl)) ?_
      try go_wp2
      refine bodyPost_ret (results_ct rfl _ _ gb101 37 #[.int .i64 t102, .int .i64 t103, .slice Ao15 t104.length co15] (0, 0) _ rfl (p3 BK101) Try.underlying37 rfl (by kernel_rfl)) rfl ?_
      exact ⟨_, eW, by (with_reducible repeat (first | apply Kd.R_alloc | apply Kd.R_drewN | apply Kd.R_drew)); exact Kd.R_mono (Kd.R_far (p := ⟨gb101, 2, none⟩) (Kd.R_far (p := ⟨gb101, 1, none⟩) (Kd.R_far (p := ⟨gb101, 0, none⟩) (Kd.R_mono HO106.out (fun k_ hk => (⟨hk, hk.1⟩ : _ ∧ k_ ≠ gb101))) (fun _ hk => hk.2) (.int .i64 t102)) (fun _ hk => hk.2) (.int .i64 t103)) (fun _ hk => hk.2) (.slice Ao15 t104.length co15)) (fun _ hk => trivial), pH HB⟩
     ·rw [if_neg c9] at H
      have c9b0 : (t107 == (l0.length : Int)) = false := beq_eq_false_iff_ne.mpr c9
      have c9b1 : (t107 != (l0.length : Int)) = true := bne_iff_ne.mpr c9
      simp only [Option.some.injEq, Prod.mk.injEq] at H
      obtain ⟨rfl, rfl, rfl, rfl⟩ := H
      try go_wp2_with (first | ((with_reducible refine gate_callee (f := 19) rfl ?_); refine goesL_ (some 18) rfl rfl Try.func19 (by kernel_rfl) rfl #[.slice A0 l0.length c0, .int .i64 0, .int .i64 (-1)] rfl tA ?_; (with_reducible refine (impl_termAt.calls kj1 _ _ l0 0 (-1) t102 t103 t104 t107 true _ ?side1 ?side2 A7.out).mono ?_); (case side1 => exact sC (Kd.C_below HR0.out HB.out)); (case side2 => exact HC0.out); rintro e w22 ⟨v105, rfl, ho0, hb⟩; refine ⟨_, rfl, ?_⟩; have HO106 := aK (Kd.R_lower (Kd.R_newB ho0 BK101.out) (below_size HB.out)); replace BK101 := qb BK101 hb; replace HB := qs HB hb; (try clear hb); (try clear ho0)) | ((with_reducible refine gate_dst (N := 4) rfl ?_); (try (refine gate_guard (by rfl) ?_; dsimp only)); refine bE (N := 4) (cs := #[.int .i64 0, .int .i64 0, .slice none 0 0]) (t := 37) ?_; intro gb109 hg w23 hbox hb; have n0_ := aK (Kd.R_below (Kd.R_elderB HO106.out gb109 (Nat.le_of_eq hg.symm)) hb); have GW109 := qw HB hg; have GE109 := qw HB hg; have NB101_109 := ql BK101 hg; have NB109_101 := qg BK101 hg; replace BK101 := qb BK101 hb; have BK109 := aK hbox; clear HO106; have HO106 := n0_; clear n0_; replace HB := qs HB hb; clear hb hbox hg; have hnb24 := NB109_101.out; have hnc24 := NB101_109.out; obtain ⟨hcz25_0, hcz25_1, hcz25_2, hfz25_0, hfz25_1, hfz25_2⟩ := cA3 BK109; obtain ⟨Ao26, co26, eo26⟩ := Kd.R_slice HO106.out; subst eo26))
      have n0_ : Aside0 (Kd.R k37 37 (((w23.setCell ⟨gb109, 0, none⟩ (.int .i64 t102)).setCell ⟨gb109, 1, none⟩ (.int .i64 t103)).setCell ⟨gb109, 2, none⟩ (.slice Ao26 t104.length co26)) w.heap.size (fun k_ => k_ ≠ gb101 ∧ k_ ≠ gb109) (.slice Ao26 t104.length co26) t104) := ⟨by (with_reducible repeat (first | apply Kd.R_alloc | apply Kd.R_drewN | apply Kd.R_drew)); exact Kd.R_mono (Kd.R_far (p := ⟨gb109, 2, none⟩) (Kd.R_far (p := ⟨gb109, 1, none⟩) (Kd.R_far (p := ⟨gb109, 0, none⟩) (Kd.R_mono HO106.out (fun k_ hk => (⟨hk, hk.2⟩ : _ ∧ k_ ≠ gb109))) (fun _ hk => hk.2) (.int .i64 t102)) (fun _ hk => hk.2) (.int .i64 t103)) (fun _ hk => hk.2) (.slice Ao26 t104.length co26)) (fun _ hk => ⟨hk.1.1.2, hk.1.2⟩)⟩
      have n1_ : Aside0 ((((w23.setCell ⟨gb109, 0, none⟩ (.int .i64 t102)).setCell ⟨gb109, 1, none⟩ (.int .i64 t103)).setCell ⟨gb109, 2, none⟩ (.slice Ao26 t104.length co26)).heap[gb101]? = some (.cells #[.int .i64 0, .int .i64 0, .slice none 0 0] 37 (0, 0))) := ⟨by (repeat first | with_reducible apply zN | with_reducible apply zD | with_reducible apply zA | refine blk_far ?_ NB101_109.out _); exact BK101.out⟩
      have n2_ : Aside0 ((((w23.setCell ⟨gb109, 0, none⟩ (.int .i64 t102)).setCell ⟨gb109, 1, none⟩ (.int .i64 t103)).setCell ⟨gb109, 2, none⟩ (.slice Ao26 t104.length co26)).heap[gb109]? = some (.cells #[.int .i64 t102, .int .i64 t103, .slice Ao26 t104.length co26] 37 (0, 0))) := ⟨p3 BK109⟩
      have n3_ : Aside0 (Below w.heap.size w (((w23.setCell ⟨gb109, 0, none⟩ (.int .i64 t102)).setCell ⟨gb109, 1, none⟩ (.int .i64 t103)).setCell ⟨gb109, 2, none⟩ (.slice Ao26 t104.length co26))) := ⟨pH HB⟩
      (try clear HO106)
      (try clear BK101)
      (try clear BK109)
      (try clear HB)
      generalize (((w23.setCell ⟨gb109, 0, none⟩ (.int .i64 t102)).setCell ⟨gb109, 1, none⟩ (.int .i64 t103)).setCell ⟨gb109, 2, none⟩ (.slice Ao26 t104.length co26)) = w27 at n0_ n1_ n2_ n3_ ⊢
      have HO106 := n0_
      have BK101 := n1_
      have BK109 := n2_
      have HB := n3_
      clear n0_ n1_ n2_ n3_
      have n0_ := aK (Kd.R_drew HO106.out)
      have n1_ := aK (blk_drew BK101.out)
      have n2_ := aK (blk_drew BK109.out)
      have n3_ := aK (below_drew1 HB.out)
      clear HO106
      clear BK101
      clear BK109
      clear HB
      have HO106 := n0_
      have BK101 := n1_
      have BK109 := n2_
      have HB := n3_
      clear n0_ n1_ n2_ n3_
      refine start_ (n := 14) (S := fun w' => w'.cell? ⟨gb109, 0, none⟩ = some (.int .i64 t102) ∧ w'.cell? ⟨gb109, 1, none⟩ = some (.int .i64 t103) ∧ w'.cell? ⟨gb109, 2, none⟩ = some (.slice Ao26 t104.length co26)) (ds := []) (bs 0 14) (by kernel_rfl) rfl rfl ⟨(blk_cell BK109.out 0).trans rfl, (blk_cell BK109.out 1).trans rfl, (blk_cell BK109.out 2).trans rfl⟩ (fun hHeld => ?_); refine with_tabW impl_termOf.tab4 impl_termOf.bits4 (fun HT_ HW_ => ?_)
      generalize w27.drew = w28 at HO106 BK101 BK109 HB hHeld ⊢
      refine pure_ (i := 1) (N := some 23) (v := ?_) (a' := ?_) #[false, true, false, false, false, false, false, false, false, false, false, false, false, false] rfl rfl (any_of HT_.out (by kernel_rfl)) (fun _ _ _ h => h) (Or.inl ⟨by rfl, ?_⟩) ?_ ?_
      rotate_left
      ·intro w'
       go_simp
       with_reducible rfl
      rotate_left
      ·simp only [sP, i64_w, i32_w]
       rfl
      refine pure_ (i := 2) (N := some 24) (v := ?_) (a' := ?_) #[false, true, true, false, false, false, false, false, false, false, false, false, false, false] rfl rfl (any_of HT_.out (by kernel_rfl)) (fun _ _ _ h => h) (Or.inl ⟨by rfl, ?_⟩) ?_ ?_
      rotate_left
      ·intro w'
       go_simp
       with_reducible rfl
      rotate_left
      ·simp only [sP, i64_w, i32_w]
       rfl
      refine pure_ (i := 3) (N := some 25) (v := ?_) (a' := ?_) #[false, true, true, true, false, false, false, false, false, false, false, false, false, false] rfl rfl (any_of HT_.out (by kernel_rfl)) (fun _ _ _ h => h) (Or.inl ⟨by rfl, ?_⟩) ?_ ?_
      rotate_left
      ·intro w'
       go_simp
       with_reducible rfl
      rotate_left
      ·simp only [sP, i64_w, i32_w]
       rfl
      refine pure_ (i := 4) (N := some 26) (v := ?_) (a' := ?_) #[false, true, true, true, true, false, false, false, false, false, false, false, false, false] rfl rfl (any_of HT_.out (by kernel_rfl)) (fun _ _ _ h => h) (Or.inl ⟨by rfl, ?_⟩) ?_ ?_
      rotate_left
      ·intro w'
       go_simp
       with_reducible rfl
      rotate_left
      ·simp only [sP, i64_w, i32_w]
       rfl
      refine pure_ (i := 5) (N := some 27) (v := ?_) (a' := ?_) #[false, true, true, true, true, true, false, false, false, false, false, false, false, false] rfl rfl (any_of HT_.out (by kernel_rfl)) (fun _ _ _ h => h) (Or.inl ⟨by rfl, ?_⟩) ?_ ?_
      rotate_left
      ·intro w'
       go_simp
       with_reducible rfl
      rotate_left
      ·simp only [sP, i64_w, i32_w]
       rfl
      refine pure_ (i := 6) (N := some 28) (v := ?_) (a' := ?_) #[false, true, true, true, true, true, true, false, false, false, false, false, false, false] rfl rfl (any_of HT_.out (by kernel_rfl)) (fun _ _ _ h => h) (Or.inl ⟨by rfl, ?_⟩) ?_ ?_
      rotate_left
      ·intro w'
       go_simp
       with_reducible rfl
      rotate_left
      ·simp only [sP, i64_w, i32_w]
       rfl
      refine pure_ (i := 7) (N := some 29) (v := ?_) (a' := ?_) #[false, true, true, true, true, true, true, true, false, false, false, false, false, false] rfl rfl (any_of HT_.out (by kernel_rfl)) (fun _ _ _ h => h) (Or.inl ⟨by rfl, ?_⟩) ?_ ?_
      rotate_left
      ·intro w'
       go_simp
       with_reducible rfl
      rotate_left
      ·simp only [sP, i64_w, i32_w]
       rfl
      refine pure_ (i := 8) (N := some 30) (v := ?_) (a' := ?_) #[false, true, true, true, true, true, true, true, true, false, false, false, false, false] rfl rfl (any_of HT_.out (by kernel_rfl)) (fun _ _ _ h => h) (Or.inl ⟨by rfl, ?_⟩) ?_ ?_
      rotate_left
      ·intro w'
       go_simp
       with_reducible rfl
      rotate_left
      ·simp only [sP, i64_w, i32_w]
       rfl
      refine pure_ (i := 9) (N := some 31) (v := undef) (a' := ?_) #[false, true, true, true, true, true, true, true, true, true, false, false, false, false] rfl rfl (any_of HT_.out (by kernel_rfl)) (fun _ _ _ h => h) (Or.inr ⟨by rfl, rfl⟩) ?_ ?_
      rotate_left
      ·simp only [sP, i64_w, i32_w]
       rfl
      refine pure_ (i := 10) (N := some 32) (v := undef) (a' := ?_) #[false, true, true, true, true, true, true, true, true, true, true, false, false, false] rfl rfl (any_of HT_.out (by kernel_rfl)) (fun _ _ _ h => h) (Or.inr ⟨by rfl, rfl⟩) ?_ ?_
      rotate_left
      ·simp only [sP, i64_w, i32_w]
       rfl
      refine pure_ (i := 11) (N := some 33) (v := ?_) (a' := ?_) #[false, true, true, true, true, true, true, true, true, true, true, true, false, false] rfl rfl (any_of HT_.out (by kernel_rfl)) (fun _ _ _ h => h) (Or.inl ⟨by rfl, ?_⟩) ?_ ?_
      rotate_left
      ·intro w'
       go_simp
       with_reducible rfl
      rotate_left
      ·simp only [sP, i64_w, i32_w]
       rfl
      refine take_ (i := 0) (N := some 22) (v := ?_) (a' := ?_) (bs 12 2) rfl rfl (take_ofW HT_.out HW_.out (by kernel_rfl)) (fun _ _ _ h => h) (Or.inl ⟨by rfl, ?_⟩) hHeld ?_ ?_
      rotate_left
      ·rintro w' ⟨s0, s1, s2⟩
       go_simp
       with_reducible rfl
      rotate_left
      ·simp only [sP, i64_w, i32_w]
       rfl
      refine one_ (i := 12) (N := none) (bs 13 1) rfl rfl (one_of HT_.out (by kernel_rfl)) (by decide) (fun K hK => ?_)
      have hs29 : w28.cell? ⟨gb101, 0, none⟩ = some (.int .i64 0) := (blk_cell BK101.out 0).trans rfl
      have hfs29 := blk_frozen BK101.out 0
      have hns29_1 := NB109_101.out
      have hms29_1 := NB101_109.out
      have hs30 : w28.cell? ⟨gb101, 1, none⟩ = some (.int .i64 0) := (blk_cell BK101.out 1).trans rfl
      have hfs30 := blk_frozen BK101.out 1
      have hns30_1 := NB109_101.out
      have hms30_1 := NB101_109.out
      have hs31 : w28.cell? ⟨gb101, 2, none⟩ = some (.slice none 0 0) := (blk_cell BK101.out 2).trans rfl
      have hfs31 := blk_frozen BK101.out 2
      have hns31_1 := NB109_101.out
      have hms31_1 := NB101_109.out
      refine skip_ (w1 := ?_) (by rfl) rfl ?_ ?_
      rotate_left
      ·go_simp
       rfl
      refine hK.out _ _ ⟨(cF3 NB109_101.out (hHeld.1)), (cF3 NB109_101.out (hHeld.2.1)), (cF3 NB109_101.out (hHeld.2.2))⟩ (fun hHeld => ?_)
      clear hK K
      refine pure_ (i := 13) (N := some 3) (v := ?_) (a' := ?_) (bs 14 0) rfl rfl (any_of HT_.out (by kernel_rfl)) (fun _ _ _ h => h) (Or.inl ⟨by rfl, ?_⟩) ?_ ?_
      rotate_left
      ·intro w'
       go_simp
       with_reducible rfl
      rotate_left
      ·simp only [sP, i64_w, i32_w]
       rfl
      refine done_ (done_of HT_.out (by kernel_rfl)) ?_
      try go_wp2
      refine bodyPost_ret (results_ct rfl _ _ gb101 37 #[.int .i64 t102, .int .i64 t103, .slice Ao26 t104.length co26] (0, 0) _ rfl (p3 BK101) Try.underlying37 rfl (by kernel_rfl)) rfl ?_
      exact ⟨_, eW, by (with_reducible repeat (first | apply Kd.R_alloc | apply Kd.R_drewN | apply Kd.R_drew)); exact Kd.R_mono (Kd.R_far (p := ⟨gb101, 2, none⟩) (Kd.R_far (p := ⟨gb101, 1, none⟩) (Kd.R_far (p := ⟨gb101, 0, none⟩) (Kd.R_mono HO106.out (fun k_ hk => (⟨hk, hk.1⟩ : _ ∧ k_ ≠ gb101))) (fun _ hk => hk.2) (.int .i64 t102)) (fun _ hk => hk.2) (.int .i64 t103)) (fun _ hk => hk.2) (.slice Ao26 t104.length co26)) (fun _ hk => trivial), pH HB⟩
    ·replace c8 := Bool.eq_false_iff.mpr c8
     subst c8
     rw [if_neg (show ¬ (false = true) by decide)] at H
     simp only [Option.some.injEq, Prod.mk.injEq] at H
     obtain ⟨rfl, rfl, rfl, rfl⟩ := H
     try go_wp2_with (first | ((with_reducible refine gate_callee (f := 19) rfl ?_); refine goesL_ (some 18) rfl rfl Try.func19 (by kernel_rfl) rfl #[.slice A0 l0.length c0, .int .i64 0, .int .i64 (-1)] rfl tA ?_; (with_reducible refine (impl_termAt.calls kj1 _ _ l0 0 (-1) t102 t103 t104 t107 false _ ?side1 ?side2 A7.out).mono ?_); (case side1 => exact sC (Kd.C_below HR0.out HB.out)); (case side2 => exact HC0.out); rintro e w32 ⟨v105, rfl, ho0, hb⟩; refine ⟨_, rfl, ?_⟩; have HO106 := aK (Kd.R_lower (Kd.R_newB ho0 BK101.out) (below_size HB.out)); replace BK101 := qb BK101 hb; replace HB := qs HB hb; (try clear hb); (try clear ho0)) | ((with_reducible refine gate_dst (N := 4) rfl ?_); (try (refine gate_guard (by rfl) ?_; dsimp only)); refine bE (N := 4) (cs := #[.int .i64 0, .int .i64 0, .slice none 0 0]) (t := 37) ?_; intro gb109 hg w33 hbox hb; have n0_ := aK (Kd.R_below (Kd.R_elderB HO106.out gb109 (Nat.le_of_eq hg.symm)) hb); have GW109 := qw HB hg; have GE109 := qw HB hg; have NB101_109 := ql BK101 hg; have NB109_101 := qg BK101 hg; replace BK101 := qb BK101 hb; have BK109 := aK hbox; clear HO106; have HO106 := n0_; clear n0_; replace HB := qs HB hb; clear hb hbox hg; have hnb34 := NB109_101.out; have hnc34 := NB101_109.out; obtain ⟨hcz35_0, hcz35_1, hcz35_2, hfz35_0, hfz35_1, hfz35_2⟩ := cA3 BK109; obtain ⟨Ao36, co36, eo36⟩ := Kd.R_slice HO106.out; subst eo36))
     have n0_ : Aside0 (Kd.R k37 37 (((w33.setCell ⟨gb109, 0, none⟩ (.int .i64 t102)).setCell ⟨gb109, 1, none⟩ (.int .i64 t103)).setCell ⟨gb109, 2, none⟩ (.slice Ao36 t104.length co36)) w.heap.size (fun k_ => k_ ≠ gb101 ∧ k_ ≠ gb109) (.slice Ao36 t104.length co36) t104) := ⟨by (with_reducible repeat (first | apply Kd.R_alloc | apply Kd.R_drewN | apply Kd.R_drew)); exact Kd.R_mono (Kd.R_far (p := ⟨gb109, 2, none⟩) (Kd.R_far (p := ⟨gb109, 1, none⟩) (Kd.R_far (p := ⟨gb109, 0, none⟩) (Kd.R_mono HO106.out (fun k_ hk => (⟨hk, hk.2⟩ : _ ∧ k_ ≠ gb109))) (fun _ hk => hk.2) (.int .i64 t102)) (fun _ hk => hk.2) (.int .i64 t103)) (fun _ hk => hk.2) (.slice Ao36 t104.length co36)) (fun _ hk => ⟨hk.1.1.2, hk.1.2⟩)⟩
     have n1_ : Aside0 ((((w33.setCell ⟨gb109, 0, none⟩ (.int .i64 t102)).setCell ⟨gb109, 1, none⟩ (.int .i64 t103)).setCell ⟨gb109, 2, none⟩ (.slice Ao36 t104.length co36)).heap[gb101]? = some (.cells #[.int .i64 0, .int .i64 0, .slice none 0 0] 37 (0, 0))) := ⟨by (repeat first | with_reducible apply zN | with_reducible apply zD | with_reducible apply zA | refine blk_far ?_ NB101_109.out _); exact BK101.out⟩
     have n2_ : Aside0 ((((w33.setCell ⟨gb109, 0, none⟩ (.int .i64 t102)).setCell ⟨gb109, 1, none⟩ (.int .i64 t103)).setCell ⟨gb109, 2, none⟩ (.slice Ao36 t104.length co36)).heap[gb109]? = some (.cells #[.int .i64 t102, .int .i64 t103, .slice Ao36 t104.length co36] 37 (0, 0))) := ⟨p3 BK109⟩
     have n3_ : Aside0 (Below w.heap.size w (((w33.setCell ⟨gb109, 0, none⟩ (.int .i64 t102)).setCell ⟨gb109, 1, none⟩ (.int .i64 t103)).setCell ⟨gb109, 2, none⟩ (.slice Ao36 t104.length co36))) := ⟨pH HB⟩
     (try clear HO106)
     (try clear BK101)
     (try clear BK109)
     (try clear HB)
     generalize (((w33.setCell ⟨gb109, 0, none⟩ (.int .i64 t102)).setCell ⟨gb109, 1, none⟩ (.int .i64 t103)).setCell ⟨gb109, 2, none⟩ (.slice Ao36 t104.length co36)) = w37 at n0_ n1_ n2_ n3_ ⊢
     have HO106 := n0_
     have BK101 := n1_
     have BK109 := n2_
     have HB := n3_
     clear n0_ n1_ n2_ n3_
     have n0_ := aK (Kd.R_drew HO106.out)
     have n1_ := aK (blk_drew BK101.out)
     have n2_ := aK (blk_drew BK109.out)
     have n3_ := aK (below_drew1 HB.out)
     clear HO106
     clear BK101
     clear BK109
     clear HB
     have HO106 := n0_
     have BK101 := n1_
     have BK109 := n2_
     have HB := n3_
     clear n0_ n1_ n2_ n3_
     refine start_ (n := 14) (S := fun w' => w'.cell? ⟨gb109, 0, none⟩ = some (.int .i64 t102) ∧ w'.cell? ⟨gb109, 1, none⟩ = some (.int .i64 t103) ∧ w'.cell? ⟨gb109, 2, none⟩ = some (.slice Ao36 t104.length co36)) (ds := []) (bs 0 14) (by kernel_rfl) rfl rfl ⟨(blk_cell BK109.out 0).trans rfl, (blk_cell BK109.out 1).trans rfl, (blk_cell BK109.out 2).trans rfl⟩ (fun hHeld => ?_); refine with_tabW impl_termOf.tab4 impl_termOf.bits4 (fun HT_ HW_ => ?_)
     generalize w37.drew = w38 at HO106 BK101 BK109 HB hHeld ⊢
     refine pure_ (i := 1) (N := some 23) (v := ?_) (a' := ?_) #[false, true, false, false, false, false, false, false, false, false, false, false, false, false] rfl rfl (any_of HT_.out (by kernel_rfl)) (fun _ _ _ h => h) (Or.inl ⟨by rfl, ?_⟩) ?_ ?_
     rotate_left
     ·intro w'
      go_simp
      with_reducible rfl
     rotate_left
     ·simp only [sP, i64_w, i32_w]
      rfl
     refine pure_ (i := 2) (N := some 24) (v := ?_) (a' := ?_) #[false, true, true, false, false, false, false, false, false, false, false, false, false, false] rfl rfl (any_of HT_.out (by kernel_rfl)) (fun _ _ _ h => h) (Or.inl ⟨by rfl, ?_⟩) ?_ ?_
     rotate_left
     ·intro w'
      go_simp
      with_reducible rfl
     rotate_left
     ·simp only [sP, i64_w, i32_w]
      rfl
     refine pure_ (i := 3) (N := some 25) (v := undef) (a' := ?_) #[false, true, true, true, false, false, false, false, false, false, false, false, false, false] rfl rfl (any_of HT_.out (by kernel_rfl)) (fun _ _ _ h => h) (Or.inr ⟨by rfl, rfl⟩) ?_ ?_
     rotate_left
     ·simp only [sP, i64_w, i32_w]
      rfl
     refine pure_ (i := 4) (N := some 26) (v := undef) (a' := ?_) #[false, true, true, true, true, false, false, false, false, false, false, false, false, false] rfl rfl (any_of HT_.out (by kernel_rfl)) (fun _ _ _ h => h) (Or.inr ⟨by rfl, rfl⟩) ?_ ?_
     rotate_left
     ·simp only [sP, i64_w, i32_w]
      rfl
     refine pure_ (i := 5) (N := some 27) (v := undef) (a' := ?_) #[false, true, true, true, true, true, false, false, false, false, false, false, false, false] rfl rfl (any_of HT_.out (by kernel_rfl)) (fun _ _ _ h => h) (Or.inr ⟨by rfl, rfl⟩) ?_ ?_
     rotate_left
     ·simp only [sP, i64_w, i32_w]
      rfl
     refine pure_ (i := 6) (N := some 28) (v := undef) (a' := ?_) #[false, true, true, true, true, true, true, false, false, false, false, false, false, false] rfl rfl (any_of HT_.out (by kernel_rfl)) (fun _ _ _ h => h) (Or.inr ⟨by rfl, rfl⟩) ?_ ?_
     rotate_left
     ·simp only [sP, i64_w, i32_w]
      rfl
     refine pure_ (i := 7) (N := some 29) (v := ?_) (a' := ?_) #[false, true, true, true, true, true, true, true, false, false, false, false, false, false] rfl rfl (any_of HT_.out (by kernel_rfl)) (fun _ _ _ h => h) (Or.inl ⟨by rfl, ?_⟩) ?_ ?_
     rotate_left
     ·intro w'
      go_simp
      with_reducible rfl
     rotate_left
     ·simp only [sP, i64_w, i32_w]
      rfl
     refine pure_ (i := 8) (N := some 30) (v := ?_) (a' := ?_) #[false, true, true, true, true, true, true, true, true, false, false, false, false, false] rfl rfl (any_of HT_.out (by kernel_rfl)) (fun _ _ _ h => h) (Or.inl ⟨by rfl, ?_⟩) ?_ ?_
     rotate_left
     ·intro w'
      go_simp
      with_reducible rfl
     rotate_left
     ·simp only [sP, i64_w, i32_w]
      rfl
     refine pure_ (i := 9) (N := some 31) (v := undef) (a' := ?_) #[false, true, true, true, true, true, true, true, true, true, false, false, false, false] rfl rfl (any_of HT_.out (by kernel_rfl)) (fun _ _ _ h => h) (Or.inr ⟨by rfl, rfl⟩) ?_ ?_
     rotate_left
     ·simp only [sP, i64_w, i32_w]
      rfl
     refine pure_ (i := 10) (N := some 32) (v := undef) (a' := ?_) #[false, true, true, true, true, true, true, true, true, true, true, false, false, false] rfl rfl (any_of HT_.out (by kernel_rfl)) (fun _ _ _ h => h) (Or.inr ⟨by rfl, rfl⟩) ?_ ?_
     rotate_left
     ·simp only [sP, i64_w, i32_w]
      rfl
     refine pure_ (i := 11) (N := some 33) (v := ?_) (a' := ?_) #[false, true, true, true, true, true, true, true, true, true, true, true, false, false] rfl rfl (any_of HT_.out (by kernel_rfl)) (fun _ _ _ h => h) (Or.inl ⟨by rfl, ?_⟩) ?_ ?_
     rotate_left
     ·intro w'
      go_simp
      with_reducible rfl
     rotate_left
     ·simp only [sP, i64_w, i32_w]
      rfl
     refine take_ (i := 0) (N := some 22) (v := ?_) (a' := ?_) (bs 12 2) rfl rfl (take_ofW HT_.out HW_.out (by kernel_rfl)) (fun _ _ _ h => h) (Or.inl ⟨by rfl, ?_⟩) hHeld ?_ ?_
     rotate_left
     ·rintro w' ⟨s0, s1, s2⟩
      go_simp
      with_reducible rfl
     rotate_left
     ·simp only [sP, i64_w, i32_w]
      rfl
     refine one_ (i := 12) (N := none) (bs 13 1) rfl rfl (one_of HT_.out (by kernel_rfl)) (by decide) (fun K hK => ?_)
     have hs39 : w38.cell? ⟨gb101, 0, none⟩ = some (.int .i64 0) := (blk_cell BK101.out 0).trans rfl
     have hfs39 := blk_frozen BK101.out 0
     have hns39_1 := NB109_101.out
     have hms39_1 := NB101_109.out
     have hs40 : w38.cell? ⟨gb101, 1, none⟩ = some (.int .i64 0) := (blk_cell BK101.out 1).trans rfl
     have hfs40 := blk_frozen BK101.out 1
     have hns40_1 := NB109_101.out
     have hms40_1 := NB101_109.out
     have hs41 : w38.cell? ⟨gb101, 2, none⟩ = some (.slice none 0 0) := (blk_cell BK101.out 2).trans rfl
     have hfs41 := blk_frozen BK101.out 2
     have hns41_1 := NB109_101.out
     have hms41_1 := NB101_109.out
     refine skip_ (w1 := ?_) (by rfl) rfl ?_ ?_
     rotate_left
     ·go_simp
      rfl
     refine hK.out _ _ ⟨(cF3 NB109_101.out (hHeld.1)), (cF3 NB109_101.out (hHeld.2.1)), (cF3 NB109_101.out (hHeld.2.2))⟩ (fun hHeld => ?_)
     clear hK K
     refine pure_ (i := 13) (N := some 3) (v := ?_) (a' := ?_) (bs 14 0) rfl rfl (any_of HT_.out (by kernel_rfl)) (fun _ _ _ h => h) (Or.inl ⟨by rfl, ?_⟩) ?_ ?_
     rotate_left
     ·intro w'
      go_simp
      with_reducible rfl
     rotate_left
     ·simp only [sP, i64_w, i32_w]
      rfl
     refine done_ (done_of HT_.out (by kernel_rfl)) ?_
     try go_wp2
     refine bodyPost_ret (results_ct rfl _ _ gb101 37 #[.int .i64 t102, .int .i64 t103, .slice Ao36 t104.length co36] (0, 0) _ rfl (p3 BK101) Try.underlying37 rfl (by kernel_rfl)) rfl ?_
     exact ⟨_, eW, by (with_reducible repeat (first | apply Kd.R_alloc | apply Kd.R_drewN | apply Kd.R_drew)); exact Kd.R_mono (Kd.R_far (p := ⟨gb101, 2, none⟩) (Kd.R_far (p := ⟨gb101, 1, none⟩) (Kd.R_far (p := ⟨gb101, 0, none⟩) (Kd.R_mono HO106.out (fun k_ hk => (⟨hk, hk.1⟩ : _ ∧ k_ ≠ gb101))) (fun _ hk => hk.2) (.int .i64 t102)) (fun _ hk => hk.2) (.int .i64 t103)) (fun _ hk => hk.2) (.slice Ao36 t104.length co36)) (fun _ hk => trivial), pH HB⟩


def impl_combVar.f (a0 : Int) : Option (Int × Int × (List (S42))) := some (1, a0, ([] : List (S42)))
set_option maxHeartbeats 8000000 in
set_option maxRecDepth 100000 in
theorem impl_combVar.calls (a0 : Int) (r1 : Int) (r2 : Int) (r3 : List (S42)) (w : World) (h : impl_combVar.f a0 = some (r1, r2, r3)) :
  Calls Try.prog 21 #[.int .i64 a0] w fun e w' => ∃ v2_ : Value, e = .returned (.agg #[.int .i64 r1, .int .i64 r2, v2_]) ∧ Kd.R k42 42 w' w.heap.size (fun _ => True) v2_ r3 ∧ Below w.heap.size w w' := by
 have hu42 := Try.underlying42
 have HB := aK (Below.refl w.heap.size w)
 have H : (some (1, a0, ([] : List (S42)))) = some (r1, r2, r3) := h
 clear h
 simp only [Option.some.injEq, Prod.mk.injEq] at H
 obtain ⟨rfl, rfl, rfl⟩ := H
 go_enter Try.func21, Try.ntmps21
 go_wp2_with (first | ((with_reducible refine gate_dst (N := 2) rfl ?_); refine bE (N := 2) (cs := #[.int .i64 0, .int .i64 0, .slice none 0 0]) (t := 42) ?_; intro gb101 hg w2 hbox hb; have GW101 := qw HB hg; have GE101 := qw HB hg; have BK101 := aK hbox; replace HB := qs HB hb; clear hb hbox hg; obtain ⟨hcz3_0, hcz3_1, hcz3_2, hfz3_0, hfz3_1, hfz3_2⟩ := cA3 BK101))
 refine bodyPost_ret (results_cell_row rfl _ _ gb101 42 #[.int .i64 1, .int .i64 a0, .slice none 0 0] (0, 0) _ rfl (p3 BK101) Try.underlying42 rfl (by kernel_rfl)) rfl ?_
 exact ⟨_, eW, by first | exact Kd.R_nil _ _ _ _ _ | exact Kd.N_nil _ _ _ _ _ | exact Kd.V_nil _ _ _ _ _ | exact Kd.Q_nil _ _ _ _ _ | exact Kd.S_nil _ _ _ _ _, pH HB⟩


def impl_combApp.f (a0_0 : Int) (a0_1 : Int) (l0_2 : List (S42)) (a1_0 : Int) (a1_1 : Int) (l1_2 : List (S42)) : Option (Int × Int × (List (S42))) := some (2, 0, (([(⟨a0_0, a0_1, l0_2⟩ : S42), (⟨a1_0, a1_1, l1_2⟩ : S42)] : List (S42))))
set_option maxHeartbeats 8000000 in
set_option maxRecDepth 100000 in
theorem impl_combApp.calls (a0_0 : Int) (a0_1 : Int) (P0_2_ : Nat → Prop) (A0_2 : Option Addr) (c0_2 : Nat) (l0_2 : List (S42)) (a1_0 : Int) (a1_1 : Int) (P1_2_ : Nat → Prop) (A1_2 : Option Addr) (c1_2 : Nat) (l1_2 : List (S42)) (r1 : Int) (r2 : Int) (r3 : List (S42)) (w : World) (hs0_2 : Kd.V k42 42 w w.heap.size (fun k_ => P0_2_ k_) (.slice A0_2 l0_2.length c0_2) l0_2) (hs1_2 : Kd.V k42 42 w w.heap.size (fun k_ => P1_2_ k_) (.slice A1_2 l1_2.length c1_2) l1_2) (h : impl_combApp.f a0_0 a0_1 l0_2 a1_0 a1_1 l1_2 = some (r1, r2, r3)) :
  Calls Try.prog 24 #[.agg #[.int .i64 a0_0, .int .i64 a0_1, .slice A0_2 l0_2.length c0_2], .agg #[.int .i64 a1_0, .int .i64 a1_1, .slice A1_2 l1_2.length c1_2]] w fun e w' => ∃ v2_ : Value, e = .returned (.agg #[.int .i64 r1, .int .i64 r2, v2_]) ∧ Kd.N k42 42 w' w.heap.size (fun k_ => ((P0_2_ k_ ∨ P1_2_ k_) ∨ w.heap.size ≤ k_)) v2_ r3 ∧ Below w.heap.size w w' := by
 have hu42 := Try.underlying42
 have HO0_2 := aK (show Kd.V k42 42 w w.heap.size (fun k_ => ((P0_2_ k_ ∨ P1_2_ k_) ∨ w.heap.size ≤ k_)) (.slice A0_2 l0_2.length c0_2) l0_2 from Kd.V_mono hs0_2 (fun k_ hk => .inl (.inl hk)))
 have HO1_2 := aK (show Kd.V k42 42 w w.heap.size (fun k_ => ((P0_2_ k_ ∨ P1_2_ k_) ∨ w.heap.size ≤ k_)) (.slice A1_2 l1_2.length c1_2) l1_2 from Kd.V_mono hs1_2 (fun k_ hk => .inl (.inr hk)))
 have HB := aK (Below.refl w.heap.size w)
 have H : (some (2, 0, (([(⟨a0_0, a0_1, l0_2⟩ : S42), (⟨a1_0, a1_1, l1_2⟩ : S42)] : List (S42))))) = some (r1, r2, r3) := h
 clear h
 obtain ⟨y104, hy104⟩ : ∃ y_ : List (S42), y_ = (([(⟨a0_0, a0_1, l0_2⟩ : S42), (⟨a1_0, a1_1, l1_2⟩ : S42)] : List (S42))) := ⟨_, rfl⟩
 replace H : (some (2, 0, y104)) = some (r1, r2, r3) := by first | (rw [hy104]; with_reducible exact H) | (have H2_ := (Option.bind_some _ _).symm.trans H; rw [hy104]; with_reducible exact H2_) | (have H2_ := (Option.bind_some _ _).symm.trans H; with_reducible exact H2_) | with_reducible exact H | (rw [hy104]; exact H) | exact H
 have Ny104 := aK hy104
 clear hy104
 simp only [Option.some.injEq, Prod.mk.injEq] at H
 obtain ⟨rfl, rfl, rfl⟩ := H
 go_enter Try.func24, Try.ntmps24
 go_wp2_with (first | ((with_reducible refine gate_dst (N := 2) rfl ?_); refine bE (N := 2) (cs := #[.int .i64 a0_0, .int .i64 a0_1, .slice A0_2 l0_2.length c0_2]) (t := 42) ?_; intro gb101 hg w3 hbox hb; have GW101 := qw HB hg; have GE101 := qw HB hg; replace HO0_2 := qv HO0_2 hg hb; replace HO1_2 := qv HO1_2 hg hb; have BK101 := aK hbox; replace HB := qs HB hb; clear hb hbox hg) | ((with_reducible refine gate_dst (N := 3) rfl ?_); refine bE (N := 3) (cs := #[.int .i64 a1_0, .int .i64 a1_1, .slice A1_2 l1_2.length c1_2]) (t := 42) ?_; intro gb102 hg w4 hbox hb; have GW102 := qw HB hg; have GE102 := qw HB hg; have NB101_102 := ql BK101 hg; have NB102_101 := qg BK101 hg; replace HO0_2 := qv HO0_2 hg hb; replace HO1_2 := qv HO1_2 hg hb; replace BK101 := qb BK101 hb; have BK102 := aK hbox; replace HB := qs HB hb; clear hb hbox hg) | ((with_reducible refine gate_dst (N := 4) rfl ?_); refine bE (N := 4) (cs := #[.int .i64 0, .int .i64 0, .slice none 0 0]) (t := 42) ?_; intro gb103 hg w5 hbox hb; have GW103 := qw HB hg; have GE103 := qw HB hg; have NB101_103 := ql BK101 hg; have NB103_101 := qg BK101 hg; have NB102_103 := ql BK102 hg; have NB103_102 := qg BK102 hg; replace HO0_2 := qv HO0_2 hg hb; replace HO1_2 := qv HO1_2 hg hb; replace BK101 := qb BK101 hb; replace BK102 := qb BK102 hb; have BK103 := aK hbox; replace HB := qs HB hb; clear hb hbox hg; have hnb6 := NB101_102.out; have hnc6 := NB102_101.out; have hnb7 := NB101_103.out; have hnc7 := NB103_101.out; obtain ⟨hcz8_0, hcz8_1, hcz8_2, hfz8_0, hfz8_1, hfz8_2⟩ := cA3 BK101; have hnb9 := NB102_103.out; have hnc9 := NB103_102.out; obtain ⟨hcz10_0, hcz10_1, hcz10_2, hfz10_0, hfz10_1, hfz10_2⟩ := cA3 BK102) | ((with_reducible refine gate_dst (N := 7) rfl ?_); refine Kd.N_lit k42 _ 42 ?hg (N' := 7) ?hd (xs := ([(⟨a0_0, a0_1, l0_2⟩ : S42), (⟨a1_0, a1_1, l1_2⟩ : S42)] : List (S42))) (inner := [.int .i64 a0_0, .int .i64 a0_1, .slice A0_2 l0_2.length c0_2, .int .i64 a1_0, .int .i64 a1_1, .slice A1_2 l1_2.length c1_2]) (ok := (fun k_ => ((P0_2_ k_ ∨ P1_2_ k_) ∨ w.heap.size ≤ k_) ∧ k_ ≠ gb101 ∧ k_ ≠ gb102 ∧ k_ ≠ gb103)) (okp := (fun k_ => ((P0_2_ k_ ∨ P1_2_ k_) ∨ w.heap.size ≤ k_) ∧ k_ ≠ gb101 ∧ k_ ≠ gb102 ∧ k_ ≠ gb103)) ?hr ?hp (fun _ hk => hk) ((show ∀ k_, w5.heap.size ≤ k_ → (fun k_ => ((P0_2_ k_ ∨ P1_2_ k_) ∨ w.heap.size ≤ k_) ∧ k_ ≠ gb101 ∧ k_ ≠ gb102 ∧ k_ ≠ gb103) k_ from fun k_ hk => ⟨(.inr (Nat.le_trans (below_size (pH HB)) hk)), Kd.freshB BK101.out k_ hk, Kd.freshB BK102.out k_ hk, Kd.freshB BK103.out k_ hk⟩) _ (Nat.le_refl _)) (Below.refl _ _) (Nat.le_refl _) (by simp) ?_; (case hd => rfl); (case hg => rfl); (case hr => go_simp); (case hp => exact (Reps.c3 (show Kd.FK k42 _ _ (⟨a0_0, a0_1, l0_2⟩ : S42) [.int .i64 a0_0, .int .i64 a0_1, .slice A0_2 l0_2.length c0_2] from (k42_mkF _ _ (⟨a0_0, a0_1, l0_2⟩ : S42) (Kd.V_reads' (Kd.V_mono (ok' := (fun k_ => ((P0_2_ k_ ∨ P1_2_ k_) ∨ w.heap.size ≤ k_) ∧ k_ ≠ gb101 ∧ k_ ≠ gb102 ∧ k_ ≠ gb103)) (HO0_2.out) (fun k_ hk => ⟨hk.1.1.1, ⟨hk.1.1.2, ⟨hk.1.2, hk.2⟩⟩⟩))).2.1 (Kd.V_F (Kd.V_mono (ok' := (fun k_ => ((P0_2_ k_ ∨ P1_2_ k_) ∨ w.heap.size ≤ k_) ∧ k_ ≠ gb101 ∧ k_ ≠ gb102 ∧ k_ ≠ gb103)) (HO0_2.out) (fun k_ hk => ⟨hk.1.1.1, ⟨hk.1.1.2, ⟨hk.1.2, hk.2⟩⟩⟩))))) (Reps.c3 (show Kd.FK k42 _ _ (⟨a1_0, a1_1, l1_2⟩ : S42) [.int .i64 a1_0, .int .i64 a1_1, .slice A1_2 l1_2.length c1_2] from (k42_mkF _ _ (⟨a1_0, a1_1, l1_2⟩ : S42) (Kd.V_reads' (Kd.V_mono (ok' := (fun k_ => ((P0_2_ k_ ∨ P1_2_ k_) ∨ w.heap.size ≤ k_) ∧ k_ ≠ gb101 ∧ k_ ≠ gb102 ∧ k_ ≠ gb103)) (HO1_2.out) (fun k_ hk => ⟨hk.1.1.1, ⟨hk.1.1.2, ⟨hk.1.2, hk.2⟩⟩⟩))).2.1 (Kd.V_F (Kd.V_mono (ok' := (fun k_ => ((P0_2_ k_ ∨ P1_2_ k_) ∨ w.heap.size ≤ k_) ∧ k_ ≠ gb101 ∧ k_ ≠ gb102 ∧ k_ ≠ gb103)) (HO1_2.out) (fun k_ hk => ⟨hk.1.1.1, ⟨hk.1.1.2, ⟨hk.1.2, hk.2⟩⟩⟩))))) (Reps.none _ _)))); intro v105 w11 ho12 hb hg_ hnew_; clear hg_ hnew_; (first | rw [← Ny104.out] at ho12 | (simp only [Int.reduceToNat] at ho12; rw [← Ny104.out] at ho12)); have HO106 := aK (Kd.N_lower ho12 (below_size HB.out)); replace HO0_2 := qe HO0_2 (Kd.N_base ho12) hb; replace HO1_2 := qe HO1_2 (Kd.N_base ho12) hb; replace BK101 := qb BK101 hb; replace BK102 := qb BK102 hb; replace BK103 := qb BK103 hb; replace HB := qs HB hb; clear hb ho12; obtain ⟨Ao13, co13, eo13⟩ := Kd.N_slice HO106.out; subst eo13; obtain ⟨hcz14_0, hcz14_1, hcz14_2, hfz14_0, hfz14_1, hfz14_2⟩ := cA3 BK103))
 refine bodyPost_ret (results_cell_row rfl _ _ gb103 42 #[.int .i64 2, .int .i64 0, .slice Ao13 y104.length co13] (0, 0) _ rfl (p3 BK103) Try.underlying42 rfl (by kernel_rfl)) rfl ?_
 exact ⟨_, eW, by (with_reducible repeat (first | apply Kd.N_alloc | apply Kd.N_drewN | apply Kd.N_drew)); exact Kd.N_mono (nF3 gb103 (Kd.N_mono HO106.out (fun k_ hk => (⟨hk, hk.2.2.2⟩ : _ ∧ k_ ≠ gb103))) (fun _ hk => hk.2)) (fun _ hk => hk.1.1), pH HB⟩


namespace Has42
def Tells (g : Nat) (lb : Array Value) (p : S42 → Bool) (l : List S42) (w : World) : Prop :=
 ∀ (W : World) (x : S42) (A : Option Addr) (c : Nat), x ∈ l → Below w.heap.size w W → Kd.C k42 W A x.f2.length x.f2 → x.f2.length ≤ c → Calls Try.prog g (#[.agg #[.int .i64 x.f0, .int .i64 x.f1, .slice A x.f2.length c]] ++ lb) W fun e w' => e = .returned (.bool (p x)) ∧ Below W.heap.size W w'

theorem rd_mem (l : List S42) (i : Int) (h0 : 0 ≤ i) (h1 : i < l.length) : rd_T42 l i ∈ l := by
 have hlt : i.toNat < l.length := by omega
 have e : rd_T42 l i = l[i.toNat] := by unfold rd_T42; rw [List.getD_eq_getElem?_getD, List.getElem?_eq_getElem hlt]; rfl
 rw [e]; exact List.getElem_mem hlt
theorem any_take_succ (p : S42 → Bool) (l : List S42) (i : Int) (h0 : 0 ≤ i) (h1 : i < l.length) (h : (l.take i.toNat).any p = false) (hx : p (rd_T42 l i) = false) : (l.take (i + 1).toNat).any p = false := by
 have hlt : i.toNat < l.length := by omega
 rw [show (i + 1).toNat = i.toNat + 1 by omega, List.take_succ_eq_append_getElem hlt, List.any_append, h]
 have e : rd_T42 l i = l[i.toNat] := by unfold rd_T42; rw [List.getD_eq_getElem?_getD, List.getElem?_eq_getElem hlt]; rfl
 rw [← e]; simp [hx]
theorem any_at (p : S42 → Bool) (l : List S42) (i : Int) (h0 : 0 ≤ i) (h1 : i < l.length) (hx : p (rd_T42 l i) = true) : l.any p = true := by
 rw [List.any_eq_true]
 exact ⟨_, rd_mem l i h0 h1, hx⟩

set_option maxHeartbeats 1000000 in
set_option maxRecDepth 100000 in
theorem index_some (g : Nat) (lb : Array Value) (p : S42 → Bool) (A0 : Option Addr) (c0 : Nat) (l0 : List S42) (w : World) (hr0 : Kd.C k42 w A0 l0.length l0)
  (eg : ∀ (args : Array Value) (w : World), (callFunc g args).run Try.prog w = .ok (.enter g args) w) (hp : Tells g lb p l0 w) :
  Calls Try.prog 77 #[.slice A0 l0.length c0, .func (.func g) #[] lb] w fun e w' => (∃ r : Int, e = .returned (.int .i64 r) ∧ decide (0 ≤ r) = l0.any p) ∧ Below w.heap.size w w' := by
 have hu58 := Try.underlying42
 have HR0 := aK hr0
 have HL := aK hr0.2.1
 clear hr0
 have HP := aK hp
 clear hp
 have HB := aK (Below.refl w.heap.size w)
 go_enter Try.func77, Try.ntmps77
 go_wp2
 go_loopg [8] (l0.length + 1) (fun kq v8 w' => ∃ (i : Int), v8 = .int .i64 i ∧ Aside0 (0 ≤ i ∧ i ≤ l0.length ∧ (kq : Int) = l0.length - i + 1 ∧ (l0.take i.toNat).any p = false) ∧ Aside0 (Below w.heap.size w w'))
 case atStart => exact ⟨0, rfl, ⟨by omega, by omega, by omega, by simp⟩, HB⟩
 case round =>
  clear HB
  obtain ⟨i, rfl, HA, HB1⟩ := hrel
  by_cases c : i < (l0.length : Int)
  ·have cb : decide (i < (l0.length : Int)) = true := decide_eq_true c
   have cz : decide (0 ≤ i) = true := decide_eq_true HA.out.1
   obtain ⟨ad, A2, c2, e1, hx0, hx1, hx2, hl2, hi2⟩ := at_T42 (Kd.C_below HR0.out HB1.out) i HA.out.1 c
   cases e1
   have HC2 := aK hl2
   have HR2 := aK hi2
   clear hl2 hi2
   have p1 := eq_true HA.out.1
   have q1 := eq_true c
   have w1 : wrap64 (i + 1) = i + 1 := by have := HA.out.1; have := HA.out.2.1; have := HL.out; unfold wrap64; omega
   have W1 := aK w1
   have Cc := aK c
   clear c w1
   go_wp2_with fail
   refine (HP.out _ (rd_T42 l0 i) A2 c2 (rd_mem l0 i HA.out.1 Cc.out) HB1.out HR2.out HC2.out).mono ?_
   rintro e w' ⟨rfl, hb⟩
   have HB2 := aK (below_step HB1.out hb)
   clear hb
   by_cases hpx : p (rd_T42 l0 i) = true
   ·have HX := aK hpx
    go_wp2
    go_ret
    exact ⟨⟨i, rfl, by rw [any_at p l0 i HA.out.1 Cc.out HX.out]; exact decide_eq_true HA.out.1⟩, HB2.out⟩
   ·replace hpx := Bool.eq_false_iff.mpr hpx
    have HX := aK hpx
    obtain ⟨k1, rfl⟩ : ∃ m, gk = m + 1 := ⟨gk - 1, by have := HA.out; omega⟩
    go_wp2
    go_roundg k1
    case measure => omega
    case rel => exact ⟨i + 1, by first | rfl | rw [W1.out], ⟨by have := HA.out; omega, by have := HA.out; have := Cc.out; omega, by have := HA.out; omega, any_take_succ p l0 i HA.out.1 Cc.out HA.out.2.2.2 HX.out⟩, HB2⟩
  ·have cb : decide (i < (l0.length : Int)) = false := decide_eq_false c
   have Cc := aK c
   clear c
   go_wp2
   go_ret
   refine ⟨⟨-1, rfl, ?_⟩, HB1.out⟩
   have h := HA.out.2.2.2
   rw [List.take_of_length_le (by have := HA.out; have := Cc.out; omega)] at h
   rw [h]; rfl

set_option maxHeartbeats 1000000 in
set_option maxRecDepth 100000 in
theorem contains_some (g : Nat) (lb : Array Value) (p : S42 → Bool) (A0 : Option Addr) (c0 : Nat) (l0 : List S42) (w : World) (hr0 : Kd.C k42 w A0 l0.length l0)
  (eg : ∀ (args : Array Value) (w : World), (callFunc g args).run Try.prog w = .ok (.enter g args) w) (hp : Tells g lb p l0 w) :
  Calls Try.prog 62 #[.slice A0 l0.length c0, .func (.func g) #[] lb] w fun e w' => e = .returned (.bool (l0.any p)) ∧ Below w.heap.size w w' := by
 go_enter Try.func62, Try.ntmps62
 go_wp2_with fail
 refine (index_some g lb p A0 c0 l0 _ hr0 eg hp).mono ?_
 rintro e w' ⟨⟨r, rfl, hr⟩, hb⟩
 have HR := aK hr
 clear hr
 go_wp2
 go_ret
 exact ⟨by rw [← HR.out]; rfl, hb⟩

mutual
def hasT (x : Int) : S42 → Bool
 | ⟨k, n, l⟩ => (decide (k = 1) && decide (n = x)) || hasL x l
def hasL (x : Int) : List S42 → Bool
 | [] => false
 | y :: l => hasT x y || hasL x l
end
theorem hasL_any (x : Int) (l : List S42) : hasL x l = l.any (hasT x) := by
 induction l with
 | nil => rw [hasL]; rfl
 | cons y l ih => rw [hasL, ih]; rfl
theorem hasT_eq (x : Int) (y : S42) : hasT x y = ((decide (y.f0 = 1) && decide (y.f1 = x)) || hasL x y.f2) := by cases y; rw [hasT]

set_option maxHeartbeats 1000000 in
set_option maxRecDepth 100000 in
theorem lit_some (x : Int) (p : Addr) (y : S42) (A : Option Addr) (c : Nat) (W : World) (hr : Kd.C k42 W A y.f2.length y.f2) (hc : y.f2.length ≤ c) (hcx : W.cell? p = some (.int .i64 x))
  (ih : ∀ (w : World), Kd.C k42 w A y.f2.length y.f2 → Calls Try.prog 45 #[.agg #[.int .i64 y.f0, .int .i64 y.f1, .slice A y.f2.length c], .int .i64 x] w fun e w' => e = .returned (.bool (hasT x y)) ∧ Below w.heap.size w w') :
  Calls Try.prog 63 #[.agg #[.int .i64 y.f0, .int .i64 y.f1, .slice A y.f2.length c], .pointer (some p)] W fun e w' => e = .returned (.bool (hasT x y)) ∧ Below W.heap.size W w' := by
 have hu58 := Try.underlying42
 have HR0 := aK hr
 clear hr
 have HI := aK ih
 clear ih
 have HB := aK (Below.refl W.heap.size W)
 go_enter Try.func63, Try.ntmps63
 go_wp2_with (first | ((with_reducible refine gate_dst (N := 2) rfl ?_); refine bE (N := 2) (cs := #[.int .i64 y.f0, .int .i64 y.f1, .slice A y.f2.length c]) (t := 42) ?_; intro gb hg w5 hbox hb; have n0_ := aK (below_step HB.out hb); have n1_ := aK (hbox); have hcx2 := (hb.cell (World.block_lt_of_cell? _ _ hcx)).trans hcx; clear HB; have HB := n0_; have BK := n1_; clear n0_ n1_; clear hb hbox hg; have hcz_0 : w5.cell? ⟨gb, 0, none⟩ = some (.int .i64 y.f0) := (blk_cell BK.out 0).trans rfl; have hcz_1 : w5.cell? ⟨gb, 1, none⟩ = some (.int .i64 y.f1) := (blk_cell BK.out 1).trans rfl; have hcz_2 : w5.cell? ⟨gb, 2, none⟩ = some (.slice A y.f2.length c) := (blk_cell BK.out 2).trans rfl; have hfz_0 := blk_frozen BK.out 0; have hfz_1 := blk_frozen BK.out 1; have hfz_2 := blk_frozen BK.out 2) | ((with_reducible refine gate_callee (f := 45) rfl ?_); refine goesL_ (some 6) rfl rfl Try.func45 (by kernel_rfl) rfl #[.agg #[.int .i64 y.f0, .int .i64 y.f1, .slice A y.f2.length c], .int .i64 x] rfl tA ?_; refine (HI.out _ (Kd.C_below HR0.out HB.out)).mono ?_; rintro e w7 ⟨rfl, hb⟩; refine ⟨_, rfl, ?_⟩; have n1_ := aK (below_step HB.out hb); clear BK HB; have HB := n1_; clear n1_; clear hb))
 go_ret
 exact ⟨rfl, pH HB⟩

set_option maxHeartbeats 2000000 in
set_option maxRecDepth 100000 in
theorem node_is (a0 a1 x : Int) (A : Option Addr) (c : Nat) (l : List S42) (w : World) (hk : a0 = 1) (hn : a1 = x) :
  Calls Try.prog 45 #[.agg #[.int .i64 a0, .int .i64 a1, .slice A l.length c], .int .i64 x] w fun e w' => e = .returned (.bool true) ∧ Below w.heap.size w w' := by
 subst hk; subst hn
 have hu58 := Try.underlying42
 have HB := aK (Below.refl w.heap.size w)
 go_enter Try.func45, Try.ntmps45
 go_wp2_with (first | ((with_reducible refine gate_dst (N := 2) rfl ?_); refine bE (N := 2) (cs := #[.int .i64 1, .int .i64 a1, .slice A l.length c]) (t := 42) ?_; intro gb hg w5 hbox hb; have n0_ := aK (below_step HB.out hb); have BK := aK hbox; clear HB; have HB := n0_; clear n0_; clear hb hbox hg; have hcz_0 : w5.cell? ⟨gb, 0, none⟩ = some (.int .i64 1) := (blk_cell BK.out 0).trans rfl; have hcz_1 : w5.cell? ⟨gb, 1, none⟩ = some (.int .i64 a1) := (blk_cell BK.out 1).trans rfl; have hcz_2 : w5.cell? ⟨gb, 2, none⟩ = some (.slice A l.length c) := (blk_cell BK.out 2).trans rfl; have hfz_0 := blk_frozen BK.out 0; have hfz_1 := blk_frozen BK.out 1; have hfz_2 := blk_frozen BK.out 2) | ((with_reducible refine gate_dst (N := 3) rfl ?_); refine bE (N := 3) (cs := #[.int .i64 a1]) (t := 3) ?_; intro g2 hg w6 hbox hb; have n0_ := aK (below_step HB.out hb); have n1_ := aK (hbox); have n2_ := aK (blk_below (g := gb) (o := .cells #[.int .i64 1, .int .i64 a1, .slice A l.length c] 42 (0, 0)) (pB BK) hb); clear HB BK; have HB := n0_; have BX := n1_; have BK := n2_; clear n0_ n1_ n2_; clear hb hbox hg; clear hcz_0 hfz_0 hcz_1 hfz_1 hcz_2 hfz_2; have hcza_0 : w6.cell? ⟨gb, 0, none⟩ = some (.int .i64 1) := (blk_cell BK.out 0).trans rfl; have hcza_1 : w6.cell? ⟨gb, 1, none⟩ = some (.int .i64 a1) := (blk_cell BK.out 1).trans rfl; have hcza_2 : w6.cell? ⟨gb, 2, none⟩ = some (.slice A l.length c) := (blk_cell BK.out 2).trans rfl; have hfza_0 := blk_frozen BK.out 0; have hfza_1 := blk_frozen BK.out 1; have hfza_2 := blk_frozen BK.out 2; have hczb_0 : w6.cell? ⟨g2, 0, none⟩ = some (.int .i64 a1) := (blk_cell BX.out 0).trans rfl; have hfzb_0 := blk_frozen BX.out 0))
 go_ret
 exact ⟨rfl, HB.out⟩

set_option maxHeartbeats 2000000 in
set_option maxRecDepth 100000 in
theorem node_not (a0 a1 x : Int) (A : Option Addr) (c : Nat) (l : List S42) (w : World) (hr : Kd.C k42 w A l.length l) (hc : l.length ≤ c) (h : ¬ (a0 = 1 ∧ a1 = x))
  (ih : ∀ y ∈ l, ∀ (A : Option Addr) (c : Nat) (w : World), y.f2.length ≤ c → Kd.C k42 w A y.f2.length y.f2 → Calls Try.prog 45 #[.agg #[.int .i64 y.f0, .int .i64 y.f1, .slice A y.f2.length c], .int .i64 x] w fun e w' => e = .returned (.bool (hasT x y)) ∧ Below w.heap.size w w') :
  Calls Try.prog 45 #[.agg #[.int .i64 a0, .int .i64 a1, .slice A l.length c], .int .i64 x] w fun e w' => e = .returned (.bool (hasL x l)) ∧ Below w.heap.size w w' := by
 have hu58 := Try.underlying42
 have HR0 := aK hr
 clear hr
 have eg := enters_ Try.func63 (by kernel_rfl) rfl
 have EG := aK eg
 clear eg
 have hmf : ∀ (fn : Fn) (first cap : Array Value) (w : World), (Instr.makeFunc fn first cap).run Try.prog w = .ok (.func fn first cap) w := fun _ _ _ _ => rfl
 have HT : ∀ (W : World) (g : Nat), Below w.heap.size w W → W.cell? ⟨g, 0, none⟩ = some (.int .i64 x) → Tells 63 #[.pointer (some ⟨g, 0, none⟩)] (fun y => hasT x y) l W := by
  intro W g hW hg W2 y A2 c2 hy hb hC hl
  have := lit_some x ⟨g, 0, none⟩ y A2 c2 W2 hC hl ((hb.cell (World.block_lt_of_cell? _ _ hg)).trans hg) (fun w3 h3 => ih y hy A2 c2 w3 hl h3)
  simpa using this
 have HI := aK HT
 clear HT ih
 have HB := aK (Below.refl w.heap.size w)
 by_cases hk : a0 = 1
 ·have hn : (a1 == x) = false := by simp; intro e; exact h ⟨hk, e⟩
  have hn2 : ¬ a1 = x := fun e => h ⟨hk, e⟩
  subst hk
  clear h
  go_enter Try.func45, Try.ntmps45
  go_wp2_with (first | ((with_reducible refine gate_dst (N := 2) rfl ?_); refine bE (N := 2) (cs := #[.int .i64 1, .int .i64 a1, .slice A l.length c]) (t := 42) ?_; intro gb hg w5 hbox hb; have n0_ := aK (below_step HB.out hb); have BK := aK hbox; clear HB; have HB := n0_; clear n0_; clear hb hbox hg; have hcz_0 : w5.cell? ⟨gb, 0, none⟩ = some (.int .i64 1) := (blk_cell BK.out 0).trans rfl; have hcz_1 : w5.cell? ⟨gb, 1, none⟩ = some (.int .i64 a1) := (blk_cell BK.out 1).trans rfl; have hcz_2 : w5.cell? ⟨gb, 2, none⟩ = some (.slice A l.length c) := (blk_cell BK.out 2).trans rfl; have hfz_0 := blk_frozen BK.out 0; have hfz_1 := blk_frozen BK.out 1; have hfz_2 := blk_frozen BK.out 2) | ((with_reducible refine gate_dst (N := 3) rfl ?_); refine bE (N := 3) (cs := #[.int .i64 x]) (t := 3) ?_; intro g2 hg w6 hbox hb; have n0_ := aK (below_step HB.out hb); have n1_ := aK (hbox); have n2_ := aK (blk_below (g := gb) (o := .cells #[.int .i64 1, .int .i64 a1, .slice A l.length c] 42 (0, 0)) (pB BK) hb); clear HB BK; have HB := n0_; have BX := n1_; have BK := n2_; clear n0_ n1_ n2_; clear hb hbox hg; clear hcz_0 hfz_0 hcz_1 hfz_1 hcz_2 hfz_2; have hcza_0 : w6.cell? ⟨gb, 0, none⟩ = some (.int .i64 1) := (blk_cell BK.out 0).trans rfl; have hcza_1 : w6.cell? ⟨gb, 1, none⟩ = some (.int .i64 a1) := (blk_cell BK.out 1).trans rfl; have hcza_2 : w6.cell? ⟨gb, 2, none⟩ = some (.slice A l.length c) := (blk_cell BK.out 2).trans rfl; have hfza_0 := blk_frozen BK.out 0; have hfza_1 := blk_frozen BK.out 1; have hfza_2 := blk_frozen BK.out 2; have hczb_0 : w6.cell? ⟨g2, 0, none⟩ = some (.int .i64 x) := (blk_cell BX.out 0).trans rfl; have hfzb_0 := blk_frozen BX.out 0) | (go_at_call 62; refine (contains_some 63 #[.pointer (some ⟨g2, 0, none⟩)] (fun y => hasT x y) A c l _ (Kd.C_below HR0.out HB.out) EG.out (HI.out _ g2 HB.out ((blk_cell BX.out 0).trans rfl))).mono ?_; rintro e w7 ⟨rfl, hb⟩; have n1_ := aK (below_step HB.out hb); clear BK HB BX; have HB := n1_; clear n1_; clear hb))
  go_ret
  exact ⟨by rw [hasL_any]; rfl, HB.out⟩
 ·have hk2 : (a0 == 1) = false := by simpa using hk
  clear h
  go_enter Try.func45, Try.ntmps45
  go_wp2_with (first | ((with_reducible refine gate_dst (N := 2) rfl ?_); refine bE (N := 2) (cs := #[.int .i64 a0, .int .i64 a1, .slice A l.length c]) (t := 42) ?_; intro gb hg w5 hbox hb; have n0_ := aK (below_step HB.out hb); have BK := aK hbox; clear HB; have HB := n0_; clear n0_; clear hb hbox hg; have hcz_0 : w5.cell? ⟨gb, 0, none⟩ = some (.int .i64 a0) := (blk_cell BK.out 0).trans rfl; have hcz_1 : w5.cell? ⟨gb, 1, none⟩ = some (.int .i64 a1) := (blk_cell BK.out 1).trans rfl; have hcz_2 : w5.cell? ⟨gb, 2, none⟩ = some (.slice A l.length c) := (blk_cell BK.out 2).trans rfl; have hfz_0 := blk_frozen BK.out 0; have hfz_1 := blk_frozen BK.out 1; have hfz_2 := blk_frozen BK.out 2) | ((with_reducible refine gate_dst (N := 3) rfl ?_); refine bE (N := 3) (cs := #[.int .i64 x]) (t := 3) ?_; intro g2 hg w6 hbox hb; have n0_ := aK (below_step HB.out hb); have n1_ := aK (hbox); have n2_ := aK (blk_below (g := gb) (o := .cells #[.int .i64 a0, .int .i64 a1, .slice A l.length c] 42 (0, 0)) (pB BK) hb); clear HB BK; have HB := n0_; have BX := n1_; have BK := n2_; clear n0_ n1_ n2_; clear hb hbox hg; clear hcz_0 hfz_0 hcz_1 hfz_1 hcz_2 hfz_2; have hcza_0 : w6.cell? ⟨gb, 0, none⟩ = some (.int .i64 a0) := (blk_cell BK.out 0).trans rfl; have hcza_1 : w6.cell? ⟨gb, 1, none⟩ = some (.int .i64 a1) := (blk_cell BK.out 1).trans rfl; have hcza_2 : w6.cell? ⟨gb, 2, none⟩ = some (.slice A l.length c) := (blk_cell BK.out 2).trans rfl; have hfza_0 := blk_frozen BK.out 0; have hfza_1 := blk_frozen BK.out 1; have hfza_2 := blk_frozen BK.out 2; have hczb_0 : w6.cell? ⟨g2, 0, none⟩ = some (.int .i64 x) := (blk_cell BX.out 0).trans rfl; have hfzb_0 := blk_frozen BX.out 0) | (go_at_call 62; refine (contains_some 63 #[.pointer (some ⟨g2, 0, none⟩)] (fun y => hasT x y) A c l _ (Kd.C_below HR0.out HB.out) EG.out (HI.out _ g2 HB.out ((blk_cell BX.out 0).trans rfl))).mono ?_; rintro e w7 ⟨rfl, hb⟩; have n1_ := aK (below_step HB.out hb); clear BK HB BX; have HB := n1_; clear n1_; clear hb))
  go_ret
  exact ⟨by rw [hasL_any]; rfl, HB.out⟩

theorem all_some (x : Int) : ∀ (N : Nat) (a0 a1 : Int) (l : List S42) (A : Option Addr) (c : Nat) (w : World), SizeOf.sizeOf l ≤ N → l.length ≤ c → Kd.C k42 w A l.length l →
  Calls Try.prog 45 #[.agg #[.int .i64 a0, .int .i64 a1, .slice A l.length c], .int .i64 x] w fun e w' => e = .returned (.bool ((decide (a0 = 1) && decide (a1 = x)) || hasL x l)) ∧ Below w.heap.size w w' := by
 intro N
 induction N with
 | zero =>
  intro a0 a1 l A c w hN
  cases l with
  | nil => simp at hN
  | cons y l => simp at hN
 | succ N ih =>
  intro a0 a1 l A c w hN hl hC
  by_cases h : a0 = 1 ∧ a1 = x
  ·rw [decide_eq_true h.1, decide_eq_true h.2]
   exact node_is a0 a1 x A c l w h.1 h.2
  ·have e : (decide (a0 = 1) && decide (a1 = x)) = false := by
    rw [Bool.eq_false_iff]; intro h2; simp at h2; exact h h2
   rw [e, Bool.false_or]
   refine node_not a0 a1 x A c l w hC hl h fun y hy A2 c2 w2 hl2 hC2 => ?_
   rw [hasT_eq]
   refine ih y.f0 y.f1 y.f2 A2 c2 w2 ?_ hl2 hC2
   have h1 := List.sizeOf_lt_of_mem hy
   have h2 : SizeOf.sizeOf y.f2 < SizeOf.sizeOf y := by cases y; simp; omega
   omega
end Has42

def impl_comb_has.f (k : Nat) (a0_0 : Int) (a0_1 : Int) (l0_2 : List (S42)) (a1 : Int) : Option (Bool) := some ((decide (a0_0 = 1) && decide (a0_1 = a1)) || Has42.hasL a1 l0_2)
theorem impl_comb_has.calls (k : Nat) (a0_0 : Int) (a0_1 : Int) (A0_2 : Option Addr) (c0_2 : Nat) (l0_2 : List (S42)) (a1 : Int) (r : Bool) (w : World) (hr0_2 : Kd.C k42 w A0_2 l0_2.length l0_2) (hc0_2 : l0_2.length ≤ c0_2) (h : impl_comb_has.f k a0_0 a0_1 l0_2 a1 = some r) :
  Calls Try.prog 45 #[.agg #[.int .i64 a0_0, .int .i64 a0_1, .slice A0_2 l0_2.length c0_2], .int .i64 a1] w fun e w' => e = .returned (.bool r) ∧ Below w.heap.size w w' := by
 obtain rfl := Option.some.inj h
 exact Has42.all_some a1 (SizeOf.sizeOf l0_2) a0_0 a0_1 l0_2 A0_2 c0_2 w (Nat.le_refl _) hc0_2 hr0_2

def impl_combOf.f (a0 : Int) : Option (Int × Int × (List (S42))) := some (a0, 0, ([] : List (S42)))
set_option maxHeartbeats 8000000 in
set_option maxRecDepth 100000 in
theorem impl_combOf.calls (a0 : Int) (r1 : Int) (r2 : Int) (r3 : List (S42)) (w : World) (h : impl_combOf.f a0 = some (r1, r2, r3)) :
  Calls Try.prog 46 #[.int .i64 a0] w fun e w' => ∃ v2_ : Value, e = .returned (.agg #[.int .i64 r1, .int .i64 r2, v2_]) ∧ Kd.R k42 42 w' w.heap.size (fun _ => True) v2_ r3 ∧ Below w.heap.size w w' := by
 have hu42 := Try.underlying42
 have HB := aK (Below.refl w.heap.size w)
 have H : (some (a0, 0, ([] : List (S42)))) = some (r1, r2, r3) := h
 clear h
 simp only [Option.some.injEq, Prod.mk.injEq] at H
 obtain ⟨rfl, rfl, rfl⟩ := H
 go_enter Try.func46, Try.ntmps46
 go_wp2_with (first | ((with_reducible refine gate_dst (N := 2) rfl ?_); refine bE (N := 2) (cs := #[.int .i64 0, .int .i64 0, .slice none 0 0]) (t := 42) ?_; intro gb101 hg w2 hbox hb; have GW101 := qw HB hg; have GE101 := qw HB hg; have BK101 := aK hbox; replace HB := qs HB hb; clear hb hbox hg; obtain ⟨hcz3_0, hcz3_1, hcz3_2, hfz3_0, hfz3_1, hfz3_2⟩ := cA3 BK101))
 refine bodyPost_ret (results_cell_row rfl _ _ gb101 42 #[.int .i64 a0, .int .i64 0, .slice none 0 0] (0, 0) _ rfl (p3 BK101) Try.underlying42 rfl (by kernel_rfl)) rfl ?_
 exact ⟨_, eW, by first | exact Kd.R_nil _ _ _ _ _ | exact Kd.N_nil _ _ _ _ _ | exact Kd.V_nil _ _ _ _ _ | exact Kd.Q_nil _ _ _ _ _ | exact Kd.S_nil _ _ _ _ _, pH HB⟩


theorem Kd.V_away {α : Type} {d : Kd α} {e : Nat} {W : World} {base : Nat} {ok : Nat → Prop} {v : Value} {xs : List α} {g : Nat} (h : Kd.V d e W base ok v xs) (hok : ∀ k, ok k → k ≠ g) (h0 : decide (0 < xs.length) = true := by assumption) (hs : 0 < d.sz := by decide) : some g ≠ v.ownBlock := by
 obtain ⟨A, c, rfl, hl, hf⟩ := h
 have hp : 0 < xs.length := of_decide_eq_true h0
 intro hg
 have hC := Kd.F_now hf
 obtain ⟨a, rfl, hcell⟩ := hC.2.2 hp
 have hga : g = a.block := by simpa [Value.ownBlock] using hg
 -- a world in which that block holds nothing
 have key : ∀ (W' : World), d.C W' (some a) xs.length xs → ∃ (n : Nat) (u : Value), W'.cell? (a.add n) = some u := by
  intro W' hC'
  obtain ⟨a', ha', hcell'⟩ := hC'.2.2 hp
  injection ha' with ha'
  subst ha'
  obtain ⟨c0, hc0, _, hcc⟩ := hcell' 0 (xs[0]) (by simp [hp])
  exact ⟨0 * d.sz + 0, c0[0]'(by omega), hcc 0 _ (by simp)⟩
 obtain ⟨n0, u0, hu0⟩ := key W hC
 have hlt : a.block < W.heap.size := by
  have := World.block_lt_of_cell? W _ hu0
  rwa [add_block] at this
 let W' : World := { W with heap := W.heap.setIfInBounds a.block (.pending #[] 0) }
 have hC' : d.C W' (some a) xs.length xs := hf W' (fun k hk _ => by
  have : k ≠ a.block := hga ▸ hok k hk
  show (W.heap.setIfInBounds a.block (.pending #[] 0))[k]? = _
  rw [Array.getElem?_setIfInBounds_ne (Ne.symm this)])
 obtain ⟨n1, u1, hu1⟩ := key W' hC'
 unfold World.cell? at hu1
 rw [add_block] at hu1
 have e : W'.heap[a.block]? = some (.pending #[] 0) := by
  show (W.heap.setIfInBounds a.block (.pending #[] 0))[a.block]? = _
  simp [hlt]
 rw [e] at hu1
 simp at hu1
mutual
def impl_comb_abstract.j0 : Nat → Int → Bool → Int → Int → List (S42) → Int → Int → List (S42) → Option (Int × Int × (List (S42)))
 | 0, _, _, _, _, _, _, _, _ => none
 | k + 1, x1, x42, x122000, x122001, x122002, x123000, x123001, x123002 => if x42 = true then (some (x122000, x122001, x122002)) else ((impl_combOf.f 3).bind fun bt124 => ((impl_comb_abstract.f k x122000 x122001 x122002 x1).bind fun bt129 => ((impl_combApp.f bt124.1 bt124.2.1 bt124.2.2 bt129.1 bt129.2.1 bt129.2.2).bind fun bt134 => ((impl_comb_abstract.f k x123000 x123001 x123002 x1).bind fun bt139 => ((impl_combApp.f bt134.1 bt134.2.1 bt134.2.2 bt139.1 bt139.2.1 bt139.2.2).bind fun bt144 => (some (bt144.1, bt144.2.1, bt144.2.2)))))))
def impl_comb_abstract.f : Nat → Int → Int → List (S42) → Int → Option (Int × Int × (List (S42)))
 | 0, _, _, _, _ => none
 | k + 1, a0_0, a0_1, l0_2, a1 => (impl_comb_has.f k a0_0 a0_1 l0_2 a1).bind fun t103 => (if t103 = true then (if a0_0 = 1 then ((impl_combOf.f 5).bind fun bt104 => (some (bt104.1, bt104.2.1, bt104.2.2))) else (if 0 < (l0_2.length : Int) then (if 1 < (l0_2.length : Int) then (if ((rd_T42 l0_2 1).f0) = 1 then (if ((rd_T42 l0_2 1).f1) = a1 then ((impl_comb_has.f k ((rd_T42 l0_2 0).f0) ((rd_T42 l0_2 0).f1) ((rd_T42 l0_2 0).f2) a1).bind fun t123 => (impl_comb_abstract.j0 k a1 (!t123) ((rd_T42 l0_2 0).f0) ((rd_T42 l0_2 0).f1) ((rd_T42 l0_2 0).f2) ((rd_T42 l0_2 1).f0) ((rd_T42 l0_2 1).f1) ((rd_T42 l0_2 1).f2))) else (impl_comb_abstract.j0 k a1 false ((rd_T42 l0_2 0).f0) ((rd_T42 l0_2 0).f1) ((rd_T42 l0_2 0).f2) ((rd_T42 l0_2 1).f0) ((rd_T42 l0_2 1).f1) ((rd_T42 l0_2 1).f2))) else (impl_comb_abstract.j0 k a1 false ((rd_T42 l0_2 0).f0) ((rd_T42 l0_2 0).f1) ((rd_T42 l0_2 0).f2) ((rd_T42 l0_2 1).f0) ((rd_T42 l0_2 1).f1) ((rd_T42 l0_2 1).f2))) else (none)) else (none))) else ((impl_combOf.f 4).bind fun bt109 => ((impl_combApp.f bt109.1 bt109.2.1 bt109.2.2 a0_0 a0_1 l0_2).bind fun bt114 => (some (bt114.1, bt114.2.1, bt114.2.2)))))
end
def impl_comb_abstract.T5 : Bool × List (List Nat × List Nat) := (true, [([], []), ([0], [0]), ([1], [1]), ([2], [2]), ([], []), ([4], [4]), ([5], [5]), ([6], [6]), ([], []), ([], []), ([8, 3, 0, 1, 2, 3, 8, 9], [3, 8]), ([9, 7, 10, 0, 1, 2, 3, 4, 5, 6, 7, 8, 9, 10], [7, 9])])
def impl_comb_abstract.B5 : List Nat := [0, 1, 3, 7, 0, 16, 48, 112, 0, 0, 783, 2047]
theorem impl_comb_abstract.tab5 : rtab .any (opsOf Try.f22 5) = impl_comb_abstract.T5 := by kernel_rfl
theorem impl_comb_abstract.bits5 : waitsOk impl_comb_abstract.T5.2 impl_comb_abstract.B5 = true := by kernel_rfl
def impl_comb_abstract.T8 : Bool × List (List Nat × List Nat) := (true, [([], []), ([], []), ([], []), ([1, 2, 0], [1, 2]), ([0, 3, 3], [0, 3]), ([], []), ([], []), ([5, 6, 4], [5, 6]), ([4, 7, 7], [4, 7]), ([8, 8, 0, 1, 2, 3, 4, 5, 6, 7, 8], [8])])
def impl_comb_abstract.B8 : List Nat := [0, 0, 0, 7, 15, 0, 0, 127, 255, 511]
theorem impl_comb_abstract.tab8 : rtab .any (opsOf Try.f22 8) = impl_comb_abstract.T8 := by kernel_rfl
theorem impl_comb_abstract.bits8 : waitsOk impl_comb_abstract.T8.2 impl_comb_abstract.B8 = true := by kernel_rfl
set_option maxHeartbeats 8000000 in
set_option maxRecDepth 100000 in
theorem impl_comb_abstract.calls (k : Nat) : ∀ (a0_0 : Int) (a0_1 : Int) (P0_2_ : Nat → Prop) (A0_2 : Option Addr) (c0_2 : Nat) (l0_2 : List (S42)) (a1 : Int) (r1 : Int) (r2 : Int) (r3 : List (S42)) (w : World) (hs0_2 : Kd.V k42 42 w w.heap.size (fun k_ => P0_2_ k_) (.slice A0_2 l0_2.length c0_2) l0_2) (h : impl_comb_abstract.f k a0_0 a0_1 l0_2 a1 = some (r1, r2, r3)),
  Calls Try.prog 22 #[.agg #[.int .i64 a0_0, .int .i64 a0_1, .slice A0_2 l0_2.length c0_2], .int .i64 a1] w fun e w' => ∃ v2_ : Value, e = .returned (.agg #[.int .i64 r1, .int .i64 r2, v2_]) ∧ Kd.V k42 42 w' w.heap.size (fun k_ => (P0_2_ k_ ∨ w.heap.size ≤ k_)) v2_ r3 ∧ Below w.heap.size w w' := by
 induction k using Nat.strongRecOn with
 | _ k ih =>
 intro a0_0 a0_1 P0_2_ A0_2 c0_2 l0_2 a1 r1 r2 r3 w hs0_2 h
 cases k with
 | zero => exact absurd h (by simp [impl_comb_abstract.f])
 | succ k =>
 simp only [impl_comb_abstract.f] at h
 have hu42 := Try.underlying42
 have HO0_2 := aK (show Kd.V k42 42 w w.heap.size (fun k_ => (P0_2_ k_ ∨ w.heap.size ≤ k_)) (.slice A0_2 l0_2.length c0_2) l0_2 from Kd.V_mono hs0_2 (fun k_ hk => .inl hk))
 have HB := aK (Below.refl w.heap.size w)
 have H : ((impl_comb_has.f k a0_0 a0_1 l0_2 a1).bind fun t103 => (if t103 = true then (if a0_0 = 1 then ((impl_combOf.f 5).bind fun bt104 => (some (bt104.1, bt104.2.1, bt104.2.2))) else (if 0 < (l0_2.length : Int) then (if 1 < (l0_2.length : Int) then (if ((rd_T42 l0_2 1).f0) = 1 then (if ((rd_T42 l0_2 1).f1) = a1 then ((impl_comb_has.f k ((rd_T42 l0_2 0).f0) ((rd_T42 l0_2 0).f1) ((rd_T42 l0_2 0).f2) a1).bind fun t123 => (impl_comb_abstract.j0 k a1 (!t123) ((rd_T42 l0_2 0).f0) ((rd_T42 l0_2 0).f1) ((rd_T42 l0_2 0).f2) ((rd_T42 l0_2 1).f0) ((rd_T42 l0_2 1).f1) ((rd_T42 l0_2 1).f2))) else (impl_comb_abstract.j0 k a1 false ((rd_T42 l0_2 0).f0) ((rd_T42 l0_2 0).f1) ((rd_T42 l0_2 0).f2) ((rd_T42 l0_2 1).f0) ((rd_T42 l0_2 1).f1) ((rd_T42 l0_2 1).f2))) else (impl_comb_abstract.j0 k a1 false ((rd_T42 l0_2 0).f0) ((rd_T42 l0_2 0).f1) ((rd_T42 l0_2 0).f2) ((rd_T42 l0_2 1).f0) ((rd_T42 l0_2 1).f1) ((rd_T42 l0_2 1).f2))) else (none)) else (none))) else ((impl_combOf.f 4).bind fun bt109 => ((impl_combApp.f bt109.1 bt109.2.1 bt109.2.2 a0_0 a0_1 l0_2).bind fun bt114 => (some (bt114.1, bt114.2.1, bt114.2.2)))))) = some (r1, r2, r3) := h
 clear h
 replace H := Option.bind_eq_some_iff.mp H
 obtain ⟨t103, A30, H⟩ := H
 try dsimp only at H
 have A3 := aK A30
 clear A30
 by_cases c4 : t103 = true
 ·subst c4
  rw [if_pos rfl] at H
  by_cases c5 : a0_0 = 1
  ·rw [if_pos c5] at H
   have c5b0 : (a0_0 == 1) = true := beq_iff_eq.mpr c5
   have c5b1 : (a0_0 != 1) = false := bne_eq_false_iff_eq.mpr c5
   clear c5
   replace H := Option.bind_eq_some_iff.mp H
   obtain ⟨⟨t104, t105, t106⟩, A60, H⟩ := H
   try dsimp only at H
   have A6 := aK A60
   clear A60
   simp only [Option.some.injEq, Prod.mk.injEq] at H
   obtain ⟨rfl, rfl, rfl⟩ := H
   go_enter Try.func22, Try.ntmps22
   go_wp2_with (first | ((with_reducible refine gate_dst (N := 2) rfl ?_); refine bE (N := 2) (cs := #[.int .i64 a0_0, .int .i64 a0_1, .slice A0_2 l0_2.length c0_2]) (t := 42) ?_; intro gb101 hg w7 hbox hb; have GW101 := qw HB hg; have GE101 := qw HB hg; replace HO0_2 := qv HO0_2 hg hb; have BK101 := aK hbox; replace HB := qs HB hb; clear hb hbox hg) | ((with_reducible refine gate_dst (N := 4) rfl ?_); refine bE (N := 4) (cs := #[.int .i64 0, .int .i64 0, .slice none 0 0]) (t := 42) ?_; intro gb102 hg w8 hbox hb; have GW102 := qw HB hg; have GE102 := qw HB hg; have NB101_102 := ql BK101 hg; have NB102_101 := qg BK101 hg; replace HO0_2 := qv HO0_2 hg hb; replace BK101 := qb BK101 hb; have BK102 := aK hbox; replace HB := qs HB hb; clear hb hbox hg; have hnb9 := NB101_102.out; have hnc9 := NB102_101.out; obtain ⟨hcz10_0, hcz10_1, hcz10_2, hfz10_0, hfz10_1, hfz10_2⟩ := cA3 BK101) | ((with_reducible refine gate_callee (f := 45) rfl ?_); refine goesL_ (some 10) rfl rfl Try.func45 (by kernel_rfl) rfl #[.agg #[.int .i64 a0_0, .int .i64 a0_1, .slice A0_2 l0_2.length c0_2], .int .i64 a1] rfl tA ?_; (with_reducible refine (impl_comb_has.calls k a0_0 a0_1 _ _ l0_2 a1 true _ ?side1 ?side2 A3.out).mono ?_); (case side1 => exact sC ((Kd.V_reads' HO0_2.out).2.2)); (case side2 => exact (Kd.V_reads' HO0_2.out).2.1); rintro e w11 ⟨rfl, hb⟩; refine ⟨_, rfl, ?_⟩; have n0_ := aK (Kd.V_below HO0_2.out hb); replace BK101 := qb BK101 hb; replace BK102 := qb BK102 hb; clear HO0_2; have HO0_2 := n0_; clear n0_; replace HB := qs HB hb; (try clear hb); obtain ⟨hcz12_0, hcz12_1, hcz12_2, hfz12_0, hfz12_1, hfz12_2⟩ := cA3 BK101) | ((with_reducible refine gate_callee (f := 46) rfl ?_); refine goesL_ (some 19) rfl rfl Try.func46 (by kernel_rfl) rfl #[.int .i64 5] rfl tA ?_; (with_reducible refine (impl_combOf.calls 5 t104 t105 t106 _ A6.out).mono ?_); rintro e w13 ⟨v107, rfl, ho0, hb⟩; refine ⟨_, rfl, ?_⟩; have HO108 := aK (Kd.N_lower (Kd.N_mono (ok' := fun k_ => (P0_2_ k_ ∨ w.heap.size ≤ k_) ∧ k_ ≠ gb101 ∧ k_ ≠ gb102) (Kd.R_N (Kd.R_bound ho0)) (fun k_ hk_ => ⟨(.inr (Nat.le_trans (below_size HB.out) hk_.2.1)), (Kd.freshB BK101.out k_ hk_.2.1), (Kd.freshB BK102.out k_ hk_.2.1)⟩)) (below_size HB.out)); replace HO0_2 := qe HO0_2 (by first | exact Kd.N_base ho0 | exact Kd.R_base ho0) hb; replace BK101 := qb BK101 hb; replace BK102 := qb BK102 hb; replace HB := qs HB hb; (try clear hb); (try clear ho0); obtain ⟨hcz14_0, hcz14_1, hcz14_2, hfz14_0, hfz14_1, hfz14_2⟩ := cA3 BK102; obtain ⟨Ao15, co15, eo15⟩ := Kd.N_slice HO108.out; subst eo15))
   refine bodyPost_ret (results_cell_row rfl _ _ gb102 42 #[.int .i64 t104, .int .i64 t105, .slice Ao15 t106.length co15] (0, 0) _ rfl (p3 BK102) Try.underlying42 rfl (by kernel_rfl)) rfl ?_
   exact ⟨_, eW, Kd.N_V (by (with_reducible repeat (first | apply Kd.N_alloc | apply Kd.N_drewN | apply Kd.N_drew)); exact Kd.N_mono (nF3 gb102 (Kd.N_mono HO108.out (fun k_ hk => (⟨hk, hk.2.2⟩ : _ ∧ k_ ≠ gb102))) (fun _ hk => hk.2)) (fun _ hk => hk.1.1)), pH HB⟩
  ·rw [if_neg c5] at H
   have c5b0 : (a0_0 == 1) = false := beq_eq_false_iff_ne.mpr c5
   have c5b1 : (a0_0 != 1) = true := bne_iff_ne.mpr c5
   by_cases c16 : 0 < (l0_2.length : Int)
   ·rw [if_pos c16] at H
    have c16b0 : decide (0 < (l0_2.length : Int)) = true := decide_eq_true c16
    have c16b1 : decide (0 < l0_2.length) = true := decide_eq_true (by omega)
    clear c16
    by_cases c17 : 1 < (l0_2.length : Int)
    ·rw [if_pos c17] at H
     have c17b0 : decide (1 < (l0_2.length : Int)) = true := decide_eq_true c17
     have c17b1 : decide (1 < l0_2.length) = true := decide_eq_true (by omega)
     clear c17
     have HC18 := aK H
     clear H
     go_enter Try.func22, Try.ntmps22
     try go_wp2_with (first | ((with_reducible refine gate_dst (N := 2) rfl ?_); refine bE (N := 2) (cs := #[.int .i64 a0_0, .int .i64 a0_1, .slice A0_2 l0_2.length c0_2]) (t := 42) ?_; intro gb101 hg w19 hbox hb; have GW101 := qw HB hg; have GE101 := qw HB hg; replace HO0_2 := qv HO0_2 hg hb; have BK101 := aK hbox; replace HB := qs HB hb; clear hb hbox hg) | ((with_reducible refine gate_dst (N := 4) rfl ?_); refine bE (N := 4) (cs := #[.int .i64 0, .int .i64 0, .slice none 0 0]) (t := 42) ?_; intro gb102 hg w20 hbox hb; have GW102 := qw HB hg; have GE102 := qw HB hg; have NB101_102 := ql BK101 hg; have NB102_101 := qg BK101 hg; replace HO0_2 := qv HO0_2 hg hb; replace BK101 := qb BK101 hb; have BK102 := aK hbox; replace HB := qs HB hb; clear hb hbox hg; have hnb21 := NB101_102.out; have hnc21 := NB102_101.out; obtain ⟨hcz22_0, hcz22_1, hcz22_2, hfz22_0, hfz22_1, hfz22_2⟩ := cA3 BK101) | ((with_reducible refine gate_callee (f := 45) rfl ?_); refine goesL_ (some 10) rfl rfl Try.func45 (by kernel_rfl) rfl #[.agg #[.int .i64 a0_0, .int .i64 a0_1, .slice A0_2 l0_2.length c0_2], .int .i64 a1] rfl tA ?_; (with_reducible refine (impl_comb_has.calls k a0_0 a0_1 _ _ l0_2 a1 true _ ?side1 ?side2 A3.out).mono ?_); (case side1 => exact sC ((Kd.V_reads' HO0_2.out).2.2)); (case side2 => exact (Kd.V_reads' HO0_2.out).2.1); rintro e w23 ⟨rfl, hb⟩; refine ⟨_, rfl, ?_⟩; have n0_ := aK (Kd.V_below HO0_2.out hb); replace BK101 := qb BK101 hb; replace BK102 := qb BK102 hb; clear HO0_2; have HO0_2 := n0_; clear n0_; replace HB := qs HB hb; (try clear hb); obtain ⟨hcz24_0, hcz24_1, hcz24_2, hfz24_0, hfz24_1, hfz24_2⟩ := cA3 BK101))
     have n0_ := aK (Kd.V_drew HO0_2.out)
     have n1_ := aK (blk_drew BK101.out)
     have n2_ := aK (blk_drew BK102.out)
     have n3_ := aK (below_drew1 HB.out)
     clear HO0_2
     clear BK101
     clear BK102
     clear HB
     have HO0_2 := n0_
     have BK101 := n1_
     have BK102 := n2_
     have HB := n3_
     clear n0_ n1_ n2_ n3_
     have p119 : 0 ≤ (0 : Int) := (by omega)
     have q119 : 0 < (l0_2.length : Int) := dA
     obtain ⟨ad119, A119_2, c119_2, e119, hx119_0, hx119_1, hx119_2, hl119_2, hi119_2⟩ := at_T42 (Kd.V_reads' HO0_2.out).2.2 0 p119 q119
     cases e119
     obtain ⟨ce119, hce119, hMe119, hcc119⟩ := Kd.V_get HO0_2.out z42 0 p119 (by first | exact q119 | exact dA | (have e_ := (Kd.V_reads' HO0_2.out).1; omega))
     obtain ⟨ua119_2, uc119_2, rfl, ul119_2, ge119_2⟩ := k42_openF hMe119
     have hv119_2 := hcc119 2 _ rfl
     rw [add_field _ _ 2 (by omega)] at hv119_2
     replace hv119_2 := Option.some.inj (hv119_2.symm.trans hx119_2)
     injection hv119_2 with hva_ hvn_ hvc_
     rw [hva_] at ge119_2
     rw [hvc_] at ul119_2
     have HL119_2 := aK (show Kd.V k42 42 _ w.heap.size _ _ ((rd_T42 l0_2 0).f2) from Kd.V_mk ul119_2 ge119_2)
     clear hva_ hvn_ hvc_ ge119_2 ul119_2
     clear hcc119 hce119
     have qi119 : (0 < l0_2.length) = True := eq_true (by omega)
     (try rw [show ((0 : Int)).toNat = 0 from rfl] at hx119_0)
     (try rw [show 0 * 3 = 0 from rfl] at hx119_0)
     (try rw [Addr.add_zero'] at hx119_0)
     (try rw [show ((0 : Int)).toNat = 0 from rfl] at hx119_1)
     (try rw [show 0 * 3 = 0 from rfl] at hx119_1)
     (try rw [Addr.add_zero'] at hx119_1)
     (try rw [show ((0 : Int)).toNat = 0 from rfl] at hx119_2)
     (try rw [show 0 * 3 = 0 from rfl] at hx119_2)
     (try rw [Addr.add_zero'] at hx119_2)
     have HR119_2 := aK hi119_2
     have HC119_2 := aK hl119_2
     clear hi119_2 hl119_2
     replace p119 := eq_true p119
     replace q119 := eq_true q119
     have p120 : 0 ≤ (1 : Int) := (by omega)
     have q120 : 1 < (l0_2.length : Int) := dA
     obtain ⟨ad120, A120_2, c120_2, e120, hx120_0, hx120_1, hx120_2, hl120_2, hi120_2⟩ := at_T42 (Kd.V_reads' HO0_2.out).2.2 1 p120 q120
     obtain rfl : ad119 = ad120 := (by injection e120)
     obtain ⟨ce120, hce120, hMe120, hcc120⟩ := Kd.V_get HO0_2.out z42 1 p120 (by first | exact q120 | exact dA | (have e_ := (Kd.V_reads' HO0_2.out).1; omega))
     obtain ⟨ua120_2, uc120_2, rfl, ul120_2, ge120_2⟩ := k42_openF hMe120
     have hv120_2 := hcc120 2 _ rfl
     rw [add_field _ _ 2 (by omega)] at hv120_2
     replace hv120_2 := Option.some.inj (hv120_2.symm.trans hx120_2)
     injection hv120_2 with hva_ hvn_ hvc_
     rw [hva_] at ge120_2
     rw [hvc_] at ul120_2
     have HL120_2 := aK (show Kd.V k42 42 _ w.heap.size _ _ ((rd_T42 l0_2 1).f2) from Kd.V_mk ul120_2 ge120_2)
     clear hva_ hvn_ hvc_ ge120_2 ul120_2
     clear hcc120 hce120
     (try simp only [show (1 : Int).toNat = 1 from rfl, Nat.reduceMul, Nat.reduceEqDiff, Go.Addr.add, ↓reduceIte] at hx120_0)
     (try simp only [show (1 : Int).toNat = 1 from rfl, Nat.reduceMul, Nat.reduceEqDiff, Go.Addr.add, ↓reduceIte] at hx120_1)
     (try simp only [show (1 : Int).toNat = 1 from rfl, Nat.reduceMul, Nat.reduceEqDiff, Go.Addr.add, ↓reduceIte] at hx120_2)
     have qi120 : (1 < l0_2.length) = True := eq_true (by omega)
     (try rw [show ((1 : Int)).toNat = 1 from rfl] at hx120_0)
     (try rw [show 1 * 3 = 3 from rfl] at hx120_0)
     (try rw [show ((1 : Int)).toNat = 1 from rfl] at hx120_1)
     (try rw [show 1 * 3 = 3 from rfl] at hx120_1)
     (try rw [show ((1 : Int)).toNat = 1 from rfl] at hx120_2)
     (try rw [show 1 * 3 = 3 from rfl] at hx120_2)
     have HR120_2 := aK hi120_2
     have HC120_2 := aK hl120_2
     clear hi120_2 hl120_2
     replace p120 := eq_true p120
     replace q120 := eq_true q120
     refine start_ (n := 12) (S := fun w' => w'.cell? ⟨gb101, 0, none⟩ = some (.int .i64 a0_0) ∧ w'.cell? ⟨gb101, 1, none⟩ = some (.int .i64 a0_1) ∧ w'.cell? ⟨gb101, 2, none⟩ = some (.slice (some ad119) l0_2.length c0_2) ∧ w'.cell? ad119 = some (.int .i64 ((rd_T42 l0_2 0).f0)) ∧ w'.cell? ⟨ad119.block, ad119.off + 1, none⟩ = some (.int .i64 ((rd_T42 l0_2 0).f1)) ∧ w'.cell? ⟨ad119.block, ad119.off + 2, none⟩ = some (.slice A119_2 ((rd_T42 l0_2 0).f2).length c119_2) ∧ w'.cell? ⟨ad119.block, ad119.off + 3, none⟩ = some (.int .i64 ((rd_T42 l0_2 1).f0)) ∧ w'.cell? ⟨ad119.block, ad119.off + 3 + 1, none⟩ = some (.int .i64 ((rd_T42 l0_2 1).f1)) ∧ w'.cell? ⟨ad119.block, ad119.off + 3 + 2, none⟩ = some (.slice A120_2 ((rd_T42 l0_2 1).f2).length c120_2)) (ds := []) (bs 0 12) (by kernel_rfl) rfl rfl ⟨(blk_cell BK101.out 0).trans rfl, (blk_cell BK101.out 1).trans rfl, (blk_cell BK101.out 2).trans rfl, hx119_0, hx119_1, hx119_2, hx120_0, hx120_1, hx120_2⟩ (fun hHeld => ?_); refine with_tabW impl_comb_abstract.tab5 impl_comb_abstract.bits5 (fun HT_ HW_ => ?_)
     generalize w23.drew = w25 at HO0_2 BK101 BK102 HB HL119_2 HL120_2 HR119_2 HR120_2 hx119_0 hx119_1 hx119_2 hx120_0 hx120_1 hx120_2 hHeld ⊢
     refine pure_ (i := 0) (N := some 20) (v := ?_) (a' := ?_) (bs 1 11) rfl rfl (any_of HT_.out (by kernel_rfl)) (fun _ _ _ h => h) (Or.inl ⟨by rfl, ?_⟩) ?_ ?_
     rotate_left
     ·intro w'
      go_simp
      with_reducible rfl
     rotate_left
     ·simp only [sP, i64_w, i32_w]
      rfl
     refine pure_ (i := 4) (N := some 24) (v := ?_) (a' := ?_) #[true, false, false, false, true, false, false, false, false, false, false, false] rfl rfl (any_of HT_.out (by kernel_rfl)) (fun _ _ _ h => h) (Or.inl ⟨by rfl, ?_⟩) ?_ ?_
     rotate_left
     ·intro w'
      go_simp
      with_reducible rfl
     rotate_left
     ·simp only [sP, i64_w, i32_w]
      rfl
     refine take_ (i := 1) (N := some 21) (v := ?_) (a' := ?_) #[true, true, false, false, true, false, false, false, false, false, false, false] rfl rfl (take_ofW HT_.out HW_.out (by kernel_rfl)) (fun _ _ _ h => h) (Or.inl ⟨by rfl, ?_⟩) hHeld ?_ ?_
     rotate_left
     ·rintro w' ⟨s0, s1, s2, s3, s4, s5, s6, s7, s8⟩
      go_simp
      with_reducible rfl
     rotate_left
     ·simp only [sP, i64_w, i32_w]
      rfl
     refine pure_ (i := 2) (N := some 22) (v := ?_) (a' := ?_) #[true, true, true, false, true, false, false, false, false, false, false, false] rfl rfl (any_of HT_.out (by kernel_rfl)) (fun _ _ _ h => h) (Or.inl ⟨by rfl, ?_⟩) ?_ ?_
     rotate_left
     ·intro w'
      go_simp
      with_reducible rfl
     rotate_left
     ·simp only [sP, i64_w, i32_w]
      rfl
     refine take_ (i := 3) (N := some 23) (v := ?_) (a' := ?_) (bs 5 7) rfl rfl (take_ofW HT_.out HW_.out (by kernel_rfl)) (fun _ _ _ h => h) (Or.inl ⟨by rfl, ?_⟩) hHeld ?_ ?_
     rotate_left
     ·rintro w' ⟨s0, s1, s2, s3, s4, s5, s6, s7, s8⟩
      go_simp
      with_reducible rfl
     rotate_left
     ·simp only [sP, i64_w, i32_w]
      rfl
     refine take_ (i := 5) (N := some 25) (v := ?_) (a' := ?_) (bs 6 6) rfl rfl (take_ofW HT_.out HW_.out (by kernel_rfl)) (fun _ _ _ h => h) (Or.inl ⟨by rfl, ?_⟩) hHeld ?_ ?_
     rotate_left
     ·rintro w' ⟨s0, s1, s2, s3, s4, s5, s6, s7, s8⟩
      go_simp
      with_reducible rfl
     rotate_left
     ·simp only [sP, i64_w, i32_w]
      rfl
     refine pure_ (i := 6) (N := some 26) (v := ?_) (a' := ?_) (bs 7 5) rfl rfl (any_of HT_.out (by kernel_rfl)) (fun _ _ _ h => h) (Or.inl ⟨by rfl, ?_⟩) ?_ ?_
     rotate_left
     ·intro w'
      go_simp
      with_reducible rfl
     rotate_left
     ·simp only [sP, i64_w, i32_w]
      rfl
     refine take_ (i := 7) (N := some 27) (v := ?_) (a' := ?_) (bs 8 4) rfl rfl (take_ofW HT_.out HW_.out (by kernel_rfl)) (fun _ _ _ h => h) (Or.inl ⟨by rfl, ?_⟩) hHeld ?_ ?_
     rotate_left
     ·rintro w' ⟨s0, s1, s2, s3, s4, s5, s6, s7, s8⟩
      go_simp
      with_reducible rfl
     rotate_left
     ·simp only [sP, i64_w, i32_w]
      rfl
     refine join_ (σ := Nat × Nat) 2 (bs 10 2) (fun s_ => [(5, .pointer (some ⟨s_.1, 0, none⟩)), (6, .pointer (some ⟨s_.2, 0, none⟩))]) (fun s_ w' => (w'.cell? ⟨gb101, 0, none⟩ = some (.int .i64 a0_0) ∧ w'.cell? ⟨gb101, 1, none⟩ = some (.int .i64 a0_1) ∧ w'.cell? ⟨gb101, 2, none⟩ = some (.slice (some ad119) l0_2.length c0_2) ∧ w'.cell? ad119 = some (.int .i64 ((rd_T42 l0_2 0).f0)) ∧ w'.cell? ⟨ad119.block, ad119.off + 1, none⟩ = some (.int .i64 ((rd_T42 l0_2 0).f1)) ∧ w'.cell? ⟨ad119.block, ad119.off + 2, none⟩ = some (.slice A119_2 ((rd_T42 l0_2 0).f2).length c119_2) ∧ w'.cell? ⟨ad119.block, ad119.off + 3, none⟩ = some (.int .i64 ((rd_T42 l0_2 1).f0)) ∧ w'.cell? ⟨ad119.block, ad119.off + 3 + 1, none⟩ = some (.int .i64 ((rd_T42 l0_2 1).f1)) ∧ w'.cell? ⟨ad119.block, ad119.off + 3 + 2, none⟩ = some (.slice A120_2 ((rd_T42 l0_2 1).f2).length c120_2)) ∧ (Kd.V k42 42 w' w.heap.size (fun k_ => (P0_2_ k_ ∨ w.heap.size ≤ k_) ∧ k_ ≠ gb101 ∧ k_ ≠ gb102 ∧ k_ ≠ s_.1 ∧ k_ ≠ s_.2) (.slice A119_2 ((rd_T42 l0_2 0).f2).length c119_2) ((rd_T42 l0_2 0).f2)) ∧ (Kd.V k42 42 w' w.heap.size (fun k_ => (P0_2_ k_ ∨ w.heap.size ≤ k_) ∧ k_ ≠ gb101 ∧ k_ ≠ gb102 ∧ k_ ≠ s_.1 ∧ k_ ≠ s_.2) (.slice A120_2 ((rd_T42 l0_2 1).f2).length c120_2) ((rd_T42 l0_2 1).f2)) ∧ (Kd.V k42 42 w' w.heap.size (fun k_ => (P0_2_ k_ ∨ w.heap.size ≤ k_) ∧ k_ ≠ gb101 ∧ k_ ≠ gb102 ∧ k_ ≠ s_.1 ∧ k_ ≠ s_.2) (.slice (some ad119) l0_2.length c0_2) l0_2) ∧ (w'.heap[gb101]? = some (.cells #[.int .i64 a0_0, .int .i64 a0_1, .slice (some ad119) l0_2.length c0_2] 42 (0, 0))) ∧ (w'.heap[gb102]? = some (.cells #[.int .i64 0, .int .i64 0, .slice none 0 0] 42 (0, 0))) ∧ (w'.heap[s_.1]? = some (.cells #[.int .i64 0, .int .i64 0, .slice none 0 0] 42 (0, 0))) ∧ (w'.heap[s_.2]? = some (.cells #[.int .i64 0, .int .i64 0, .slice none 0 0] 42 (0, 0))) ∧ (w.heap.size ≤ s_.1) ∧ (w.heap.size ≤ s_.1) ∧ (gb101 ≠ s_.1) ∧ (s_.1 ≠ gb101) ∧ (gb102 ≠ s_.1) ∧ (s_.1 ≠ gb102) ∧ (s_.2 ≠ s_.1) ∧ (s_.1 ≠ s_.2) ∧ (w.heap.size ≤ s_.2) ∧ (w.heap.size ≤ s_.2) ∧ (gb101 ≠ s_.2) ∧ (s_.2 ≠ gb101) ∧ (gb102 ≠ s_.2) ∧ (s_.2 ≠ gb102) ∧ (Below w.heap.size w w')) ?_ ?_
     rotate_left
     ·intro hCont
      refine two_ (i := 8) (j := 9) (Ni := some 5) (Nj := some 6) (bs 9 3) #[true, true, true, true, true, true, true, true, false, true, false, false] rfl rfl rfl rfl (two_of HT_.out (by kernel_rfl)) (by decide) (by decide) (fun K hK => ?_) (fun K hK => ?_)
      ·skip
       refine box_step ?hg (N := 5) ?hd (cs := #[.int .i64 0, .int .i64 0, .slice none 0 0]) (t := 42) ?hr ?_; (case hd => rfl); (case hg => rfl); (case hr => go_simp)
       intro gb121 hg w26 hbox hb
       have HS3_ := (hb.cell (World.block_lt_of_cell? _ _ (hHeld.2.2.2.1))).trans (hHeld.2.2.2.1)
       have HS4_ := (hb.cell (World.block_lt_of_cell? _ _ (hHeld.2.2.2.2.1))).trans (hHeld.2.2.2.2.1)
       have HS5_ := (hb.cell (World.block_lt_of_cell? _ _ (hHeld.2.2.2.2.2.1))).trans (hHeld.2.2.2.2.2.1)
       have HS6_ := (hb.cell (World.block_lt_of_cell? _ _ (hHeld.2.2.2.2.2.2.1))).trans (hHeld.2.2.2.2.2.2.1)
       have HS7_ := (hb.cell (World.block_lt_of_cell? _ _ (hHeld.2.2.2.2.2.2.2.1))).trans (hHeld.2.2.2.2.2.2.2.1)
       have HS8_ := (hb.cell (World.block_lt_of_cell? _ _ (hHeld.2.2.2.2.2.2.2.2))).trans (hHeld.2.2.2.2.2.2.2.2)
       have n0_ := aK (Kd.V_below (Kd.V_elderB HO0_2.out gb121 (Nat.le_of_eq hg.symm)) hb)
       have n1_ := aK (Kd.V_below (Kd.V_elderB HL119_2.out gb121 (Nat.le_of_eq hg.symm)) hb)
       have n2_ := aK (Kd.V_below (Kd.V_elderB HL120_2.out gb121 (Nat.le_of_eq hg.symm)) hb)
       have n3_ := aK (blk_below BK101.out hb)
       have n4_ := aK (blk_below BK102.out hb)
       have n5_ := aK (Kd.C_below (vC HL119_2.out) hb)
       have n6_ := aK (Kd.C_below (vC HL120_2.out) hb)
       have n7_ := aK (below_step (pH HB) hb)
       have n8_ := aK (hbox)
       have n9_ := aK ((by rw [hg]; exact (below_size (pH HB)) : w.heap.size ≤ gb121))
       have n10_ := aK ((by rw [hg]; exact (below_size (pH HB)) : w.heap.size ≤ gb121))
       have n11_ := aK ((by rw [hg]; exact Nat.ne_of_lt (blk_lt BK101.out) : gb101 ≠ gb121))
       have n12_ := aK ((by rw [hg]; exact Nat.ne_of_gt (blk_lt BK101.out) : gb121 ≠ gb101))
       have n13_ := aK ((by rw [hg]; exact Nat.ne_of_lt (blk_lt BK102.out) : gb102 ≠ gb121))
       have n14_ := aK ((by rw [hg]; exact Nat.ne_of_gt (blk_lt BK102.out) : gb121 ≠ gb102))
       clear HO0_2
       clear HL119_2
       clear HL120_2
       clear BK101
       clear BK102
       clear HR119_2
       clear HR120_2
       clear HB
       have HO0_2 := n0_
       have HL119_2 := n1_
       have HL120_2 := n2_
       have BK101 := n3_
       have BK102 := n4_
       have HR119_2 := n5_
       have HR120_2 := n6_
       have HB := n7_
       have BK121 := n8_
       have GW121 := n9_
       have GE121 := n10_
       have NB101_121 := n11_
       have NB121_101 := n12_
       have NB102_121 := n13_
       have NB121_102 := n14_
       clear n0_ n1_ n2_ n3_ n4_ n5_ n6_ n7_ n8_ n9_ n10_ n11_ n12_ n13_ n14_
       clear hb hbox hg
       refine hK.out _ _ ⟨(blk_cell BK101.out 0).trans rfl, (blk_cell BK101.out 1).trans rfl, (blk_cell BK101.out 2).trans rfl, HS3_, HS4_, HS5_, HS6_, HS7_, HS8_⟩ (fun hHeld => ?_)
       clear hK K
       refine norm_ (a' := ?_) ?_ ?_
       rotate_left
       ·show Act.put _ (some 5) _ = _
        simp only [sP, i64_w, i32_w]
        rfl
       refine one_ (i := 9) (N := some 6) (bs 10 2) rfl rfl (one_of HT_.out (by kernel_rfl)) (by decide) (fun K hK => ?_)
       refine box_step ?hg (N := 6) ?hd (cs := #[.int .i64 0, .int .i64 0, .slice none 0 0]) (t := 42) ?hr ?_; (case hd => rfl); (case hg => rfl); (case hr => go_simp)
       intro gb122 hg w27 hbox hb
       have HS3_ := (hb.cell (World.block_lt_of_cell? _ _ (hHeld.2.2.2.1))).trans (hHeld.2.2.2.1)
       have HS4_ := (hb.cell (World.block_lt_of_cell? _ _ (hHeld.2.2.2.2.1))).trans (hHeld.2.2.2.2.1)
       have HS5_ := (hb.cell (World.block_lt_of_cell? _ _ (hHeld.2.2.2.2.2.1))).trans (hHeld.2.2.2.2.2.1)
       have HS6_ := (hb.cell (World.block_lt_of_cell? _ _ (hHeld.2.2.2.2.2.2.1))).trans (hHeld.2.2.2.2.2.2.1)
       have HS7_ := (hb.cell (World.block_lt_of_cell? _ _ (hHeld.2.2.2.2.2.2.2.1))).trans (hHeld.2.2.2.2.2.2.2.1)
       have HS8_ := (hb.cell (World.block_lt_of_cell? _ _ (hHeld.2.2.2.2.2.2.2.2))).trans (hHeld.2.2.2.2.2.2.2.2)
       have n0_ := aK (Kd.V_below (Kd.V_elderB HO0_2.out gb122 (Nat.le_of_eq hg.symm)) hb)
       have n1_ := aK (Kd.V_below (Kd.V_elderB HL119_2.out gb122 (Nat.le_of_eq hg.symm)) hb)
       have n2_ := aK (Kd.V_below (Kd.V_elderB HL120_2.out gb122 (Nat.le_of_eq hg.symm)) hb)
       have n3_ := aK (blk_below BK101.out hb)
       have n4_ := aK (blk_below BK102.out hb)
       have n5_ := aK (Kd.C_below (vC HL119_2.out) hb)
       have n6_ := aK (Kd.C_below (vC HL120_2.out) hb)
       have n7_ := aK (blk_below BK121.out hb)
       have n8_ := aK (below_step (pH HB) hb)
       have n9_ := aK (hbox)
       have n10_ := aK ((by rw [hg]; exact (below_size (pH HB)) : w.heap.size ≤ gb122))
       have n11_ := aK ((by rw [hg]; exact (below_size (pH HB)) : w.heap.size ≤ gb122))
       have n12_ := aK ((by rw [hg]; exact Nat.ne_of_lt (blk_lt BK101.out) : gb101 ≠ gb122))
       have n13_ := aK ((by rw [hg]; exact Nat.ne_of_gt (blk_lt BK101.out) : gb122 ≠ gb101))
       have n14_ := aK ((by rw [hg]; exact Nat.ne_of_lt (blk_lt BK102.out) : gb102 ≠ gb122))
       have n15_ := aK ((by rw [hg]; exact Nat.ne_of_gt (blk_lt BK102.out) : gb122 ≠ gb102))
       have n16_ := aK ((by rw [hg]; exact Nat.ne_of_lt (blk_lt BK121.out) : gb121 ≠ gb122))
       have n17_ := aK ((by rw [hg]; exact Nat.ne_of_gt (blk_lt BK121.out) : gb122 ≠ gb121))
       clear HO0_2
       clear HL119_2
       clear HL120_2
       clear BK101
       clear BK102
       clear HR119_2
       clear HR120_2
       clear BK121
       clear HB
       have HO0_2 := n0_
       have HL119_2 := n1_
       have HL120_2 := n2_
       have BK101 := n3_
       have BK102 := n4_
       have HR119_2 := n5_
       have HR120_2 := n6_
       have BK121 := n7_
       have HB := n8_
       have BK122 := n9_
       have GW122 := n10_
       have GE122 := n11_
       have NB101_122 := n12_
       have NB122_101 := n13_
       have NB102_122 := n14_
       have NB122_102 := n15_
       have NB121_122 := n16_
       have NB122_121 := n17_
       clear n0_ n1_ n2_ n3_ n4_ n5_ n6_ n7_ n8_ n9_ n10_ n11_ n12_ n13_ n14_ n15_ n16_ n17_
       clear hb hbox hg
       refine hK.out _ _ ⟨(blk_cell BK101.out 0).trans rfl, (blk_cell BK101.out 1).trans rfl, (blk_cell BK101.out 2).trans rfl, HS3_, HS4_, HS5_, HS6_, HS7_, HS8_⟩ (fun hHeld => ?_)
       clear hK K
       refine norm_ (a' := ?_) ?_ ?_
       rotate_left
       ·show Act.put _ (some 6) _ = _
        simp only [sP, i64_w, i32_w]
        rfl
       exact norm_ (by simp only [putAll, Act.put, List.setIfInBounds_toArray, List.set_cons_zero, List.set_cons_succ]) (hCont (gb121, gb122) _ ⟨hHeld, (by (with_reducible repeat (first | apply Kd.V_alloc | apply Kd.V_drewN | apply Kd.V_drew)); exact Kd.V_mono HL119_2.out (fun _ hk => ⟨hk.1.1.1.1, ⟨hk.1.1.1.2, ⟨hk.1.1.2, ⟨hk.1.2, hk.2⟩⟩⟩⟩)), (by (with_reducible repeat (first | apply Kd.V_alloc | apply Kd.V_drewN | apply Kd.V_drew)); exact Kd.V_mono HL120_2.out (fun _ hk => ⟨hk.1.1.1.1, ⟨hk.1.1.1.2, ⟨hk.1.1.2, ⟨hk.1.2, hk.2⟩⟩⟩⟩)), (by (with_reducible repeat (first | apply Kd.V_alloc | apply Kd.V_drewN | apply Kd.V_drew)); exact Kd.V_mono HO0_2.out (fun _ hk => ⟨hk.1.1.1.1, ⟨hk.1.1.1.2, ⟨hk.1.1.2, ⟨hk.1.2, hk.2⟩⟩⟩⟩)), BK101.out, BK102.out, BK121.out, BK122.out, GW121.out, GE121.out, NB101_121.out, NB121_101.out, NB102_121.out, NB121_102.out, NB122_121.out, NB121_122.out, GW122.out, GE122.out, NB101_122.out, NB122_101.out, NB102_122.out, NB122_102.out, (pH HB)⟩)
      ·skip
       refine box_step ?hg (N := 6) ?hd (cs := #[.int .i64 0, .int .i64 0, .slice none 0 0]) (t := 42) ?hr ?_; (case hd => rfl); (case hg => rfl); (case hr => go_simp)
       intro gb122 hg w26 hbox hb
       have HS3_ := (hb.cell (World.block_lt_of_cell? _ _ (hHeld.2.2.2.1))).trans (hHeld.2.2.2.1)
       have HS4_ := (hb.cell (World.block_lt_of_cell? _ _ (hHeld.2.2.2.2.1))).trans (hHeld.2.2.2.2.1)
       have HS5_ := (hb.cell (World.block_lt_of_cell? _ _ (hHeld.2.2.2.2.2.1))).trans (hHeld.2.2.2.2.2.1)
       have HS6_ := (hb.cell (World.block_lt_of_cell? _ _ (hHeld.2.2.2.2.2.2.1))).trans (hHeld.2.2.2.2.2.2.1)
       have HS7_ := (hb.cell (World.block_lt_of_cell? _ _ (hHeld.2.2.2.2.2.2.2.1))).trans (hHeld.2.2.2.2.2.2.2.1)
       have HS8_ := (hb.cell (World.block_lt_of_cell? _ _ (hHeld.2.2.2.2.2.2.2.2))).trans (hHeld.2.2.2.2.2.2.2.2)
       have n0_ := aK (Kd.V_below (Kd.V_elderB HO0_2.out gb122 (Nat.le_of_eq hg.symm)) hb)
       have n1_ := aK (Kd.V_below (Kd.V_elderB HL119_2.out gb122 (Nat.le_of_eq hg.symm)) hb)
       have n2_ := aK (Kd.V_below (Kd.V_elderB HL120_2.out gb122 (Nat.le_of_eq hg.symm)) hb)
       have n3_ := aK (blk_below BK101.out hb)
       have n4_ := aK (blk_below BK102.out hb)
       have n5_ := aK (Kd.C_below (vC HL119_2.out) hb)
       have n6_ := aK (Kd.C_below (vC HL120_2.out) hb)
       have n7_ := aK (below_step (pH HB) hb)
       have n8_ := aK (hbox)
       have n9_ := aK ((by rw [hg]; exact (below_size (pH HB)) : w.heap.size ≤ gb122))
       have n10_ := aK ((by rw [hg]; exact (below_size (pH HB)) : w.heap.size ≤ gb122))
       have n11_ := aK ((by rw [hg]; exact Nat.ne_of_lt (blk_lt BK101.out) : gb101 ≠ gb122))
       have n12_ := aK ((by rw [hg]; exact Nat.ne_of_gt (blk_lt BK101.out) : gb122 ≠ gb101))
       have n13_ := aK ((by rw [hg]; exact Nat.ne_of_lt (blk_lt BK102.out) : gb102 ≠ gb122))
       have n14_ := aK ((by rw [hg]; exact Nat.ne_of_gt (blk_lt BK102.out) : gb122 ≠ gb102))
       clear HO0_2
       clear HL119_2
       clear HL120_2
       clear BK101
       clear BK102
       clear HR119_2
       clear HR120_2
       clear HB
       have HO0_2 := n0_
       have HL119_2 := n1_
       have HL120_2 := n2_
       have BK101 := n3_
       have BK102 := n4_
       have HR119_2 := n5_
       have HR120_2 := n6_
       have HB := n7_
       have BK122 := n8_
       have GW122 := n9_
       have GE122 := n10_
       have NB101_122 := n11_
       have NB122_101 := n12_
       have NB102_122 := n13_
       have NB122_102 := n14_
       clear n0_ n1_ n2_ n3_ n4_ n5_ n6_ n7_ n8_ n9_ n10_ n11_ n12_ n13_ n14_
       clear hb hbox hg
       refine hK.out _ _ ⟨(blk_cell BK101.out 0).trans rfl, (blk_cell BK101.out 1).trans rfl, (blk_cell BK101.out 2).trans rfl, HS3_, HS4_, HS5_, HS6_, HS7_, HS8_⟩ (fun hHeld => ?_)
       clear hK K
       refine norm_ (a' := ?_) ?_ ?_
       rotate_left
       ·show Act.put _ (some 6) _ = _
        simp only [sP, i64_w, i32_w]
        rfl
       refine one_ (i := 8) (N := some 5) (bs 10 2) rfl rfl (one_of HT_.out (by kernel_rfl)) (by decide) (fun K hK => ?_)
       refine box_step ?hg (N := 5) ?hd (cs := #[.int .i64 0, .int .i64 0, .slice none 0 0]) (t := 42) ?hr ?_; (case hd => rfl); (case hg => rfl); (case hr => go_simp)
       intro gb121 hg w27 hbox hb
       have HS3_ := (hb.cell (World.block_lt_of_cell? _ _ (hHeld.2.2.2.1))).trans (hHeld.2.2.2.1)
       have HS4_ := (hb.cell (World.block_lt_of_cell? _ _ (hHeld.2.2.2.2.1))).trans (hHeld.2.2.2.2.1)
       have HS5_ := (hb.cell (World.block_lt_of_cell? _ _ (hHeld.2.2.2.2.2.1))).trans (hHeld.2.2.2.2.2.1)
       have HS6_ := (hb.cell (World.block_lt_of_cell? _ _ (hHeld.2.2.2.2.2.2.1))).trans (hHeld.2.2.2.2.2.2.1)
       have HS7_ := (hb.cell (World.block_lt_of_cell? _ _ (hHeld.2.2.2.2.2.2.2.1))).trans (hHeld.2.2.2.2.2.2.2.1)
       have HS8_ := (hb.cell (World.block_lt_of_cell? _ _ (hHeld.2.2.2.2.2.2.2.2))).trans (hHeld.2.2.2.2.2.2.2.2)
       have n0_ := aK (Kd.V_below (Kd.V_elderB HO0_2.out gb121 (Nat.le_of_eq hg.symm)) hb)
       have n1_ := aK (Kd.V_below (Kd.V_elderB HL119_2.out gb121 (Nat.le_of_eq hg.symm)) hb)
       have n2_ := aK (Kd.V_below (Kd.V_elderB HL120_2.out gb121 (Nat.le_of_eq hg.symm)) hb)
       have n3_ := aK (blk_below BK101.out hb)
       have n4_ := aK (blk_below BK102.out hb)
       have n5_ := aK (Kd.C_below (vC HL119_2.out) hb)
       have n6_ := aK (Kd.C_below (vC HL120_2.out) hb)
       have n7_ := aK (blk_below BK122.out hb)
       have n8_ := aK (below_step (pH HB) hb)
       have n9_ := aK (hbox)
       have n10_ := aK ((by rw [hg]; exact (below_size (pH HB)) : w.heap.size ≤ gb121))
       have n11_ := aK ((by rw [hg]; exact (below_size (pH HB)) : w.heap.size ≤ gb121))
       have n12_ := aK ((by rw [hg]; exact Nat.ne_of_lt (blk_lt BK101.out) : gb101 ≠ gb121))
       have n13_ := aK ((by rw [hg]; exact Nat.ne_of_gt (blk_lt BK101.out) : gb121 ≠ gb101))
       have n14_ := aK ((by rw [hg]; exact Nat.ne_of_lt (blk_lt BK102.out) : gb102 ≠ gb121))
       have n15_ := aK ((by rw [hg]; exact Nat.ne_of_gt (blk_lt BK102.out) : gb121 ≠ gb102))
       have n16_ := aK ((by rw [hg]; exact Nat.ne_of_lt (blk_lt BK122.out) : gb122 ≠ gb121))
       have n17_ := aK ((by rw [hg]; exact Nat.ne_of_gt (blk_lt BK122.out) : gb121 ≠ gb122))
       clear HO0_2
       clear HL119_2
       clear HL120_2
       clear BK101
       clear BK102
       clear HR119_2
       clear HR120_2
       clear BK122
       clear HB
       have HO0_2 := n0_
       have HL119_2 := n1_
       have HL120_2 := n2_
       have BK101 := n3_
       have BK102 := n4_
       have HR119_2 := n5_
       have HR120_2 := n6_
       have BK122 := n7_
       have HB := n8_
       have BK121 := n9_
       have GW121 := n10_
       have GE121 := n11_
       have NB101_121 := n12_
       have NB121_101 := n13_
       have NB102_121 := n14_
       have NB121_102 := n15_
       have NB122_121 := n16_
       have NB121_122 := n17_
       clear n0_ n1_ n2_ n3_ n4_ n5_ n6_ n7_ n8_ n9_ n10_ n11_ n12_ n13_ n14_ n15_ n16_ n17_
       clear hb hbox hg
       refine hK.out _ _ ⟨(blk_cell BK101.out 0).trans rfl, (blk_cell BK101.out 1).trans rfl, (blk_cell BK101.out 2).trans rfl, HS3_, HS4_, HS5_, HS6_, HS7_, HS8_⟩ (fun hHeld => ?_)
       clear hK K
       refine norm_ (a' := ?_) ?_ ?_
       rotate_left
       ·show Act.put _ (some 5) _ = _
        simp only [sP, i64_w, i32_w]
        rfl
       exact norm_ (by simp only [putAll, Act.put, List.setIfInBounds_toArray, List.set_cons_zero, List.set_cons_succ]) (hCont (gb121, gb122) _ ⟨hHeld, (by (with_reducible repeat (first | apply Kd.V_alloc | apply Kd.V_drewN | apply Kd.V_drew)); exact Kd.V_mono HL119_2.out (fun _ hk => ⟨hk.1.1.1.1, ⟨hk.1.1.1.2, ⟨hk.1.1.2, ⟨hk.2, hk.1.2⟩⟩⟩⟩)), (by (with_reducible repeat (first | apply Kd.V_alloc | apply Kd.V_drewN | apply Kd.V_drew)); exact Kd.V_mono HL120_2.out (fun _ hk => ⟨hk.1.1.1.1, ⟨hk.1.1.1.2, ⟨hk.1.1.2, ⟨hk.2, hk.1.2⟩⟩⟩⟩)), (by (with_reducible repeat (first | apply Kd.V_alloc | apply Kd.V_drewN | apply Kd.V_drew)); exact Kd.V_mono HO0_2.out (fun _ hk => ⟨hk.1.1.1.1, ⟨hk.1.1.1.2, ⟨hk.1.1.2, ⟨hk.2, hk.1.2⟩⟩⟩⟩)), BK101.out, BK102.out, BK121.out, BK122.out, GW121.out, GE121.out, NB101_121.out, NB121_101.out, NB102_121.out, NB121_102.out, NB122_121.out, NB121_122.out, GW122.out, GE122.out, NB101_122.out, NB122_101.out, NB102_122.out, NB122_102.out, (pH HB)⟩)
     rintro ⟨gb121, gb122⟩ w28 ⟨hS_, h0_, h1_, h2_, h3_, h4_, h5_, h6_, h7_, h8_, h9_, h10_, h11_, h12_, h13_, h14_, h15_, h16_, h17_, h18_, h19_, h20_, h21_⟩
     have n0_ : Aside0 (Kd.V k42 42 w28 w.heap.size (fun k_ => (P0_2_ k_ ∨ w.heap.size ≤ k_) ∧ k_ ≠ gb101 ∧ k_ ≠ gb102 ∧ k_ ≠ gb121 ∧ k_ ≠ gb122) (.slice A119_2 ((rd_T42 l0_2 0).f2).length c119_2) ((rd_T42 l0_2 0).f2)) := ⟨h0_⟩
     have n1_ : Aside0 (Kd.V k42 42 w28 w.heap.size (fun k_ => (P0_2_ k_ ∨ w.heap.size ≤ k_) ∧ k_ ≠ gb101 ∧ k_ ≠ gb102 ∧ k_ ≠ gb121 ∧ k_ ≠ gb122) (.slice A120_2 ((rd_T42 l0_2 1).f2).length c120_2) ((rd_T42 l0_2 1).f2)) := ⟨h1_⟩
     have n2_ : Aside0 (Kd.V k42 42 w28 w.heap.size (fun k_ => (P0_2_ k_ ∨ w.heap.size ≤ k_) ∧ k_ ≠ gb101 ∧ k_ ≠ gb102 ∧ k_ ≠ gb121 ∧ k_ ≠ gb122) (.slice (some ad119) l0_2.length c0_2) l0_2) := ⟨h2_⟩
     have n3_ : Aside0 (w28.heap[gb101]? = some (.cells #[.int .i64 a0_0, .int .i64 a0_1, .slice (some ad119) l0_2.length c0_2] 42 (0, 0))) := ⟨h3_⟩
     have n4_ : Aside0 (w28.heap[gb102]? = some (.cells #[.int .i64 0, .int .i64 0, .slice none 0 0] 42 (0, 0))) := ⟨h4_⟩
     have n5_ : Aside0 (w28.heap[gb121]? = some (.cells #[.int .i64 0, .int .i64 0, .slice none 0 0] 42 (0, 0))) := ⟨h5_⟩
     have n6_ : Aside0 (w28.heap[gb122]? = some (.cells #[.int .i64 0, .int .i64 0, .slice none 0 0] 42 (0, 0))) := ⟨h6_⟩
     have n7_ : Aside0 (w.heap.size ≤ gb121) := ⟨h7_⟩
     have n8_ : Aside0 (w.heap.size ≤ gb121) := ⟨h8_⟩
     have n9_ : Aside0 (gb101 ≠ gb121) := ⟨h9_⟩
     have n10_ : Aside0 (gb121 ≠ gb101) := ⟨h10_⟩
     have n11_ : Aside0 (gb102 ≠ gb121) := ⟨h11_⟩
     have n12_ : Aside0 (gb121 ≠ gb102) := ⟨h12_⟩
     have n13_ : Aside0 (gb122 ≠ gb121) := ⟨h13_⟩
     have n14_ : Aside0 (gb121 ≠ gb122) := ⟨h14_⟩
     have n15_ : Aside0 (w.heap.size ≤ gb122) := ⟨h15_⟩
     have n16_ : Aside0 (w.heap.size ≤ gb122) := ⟨h16_⟩
     have n17_ : Aside0 (gb101 ≠ gb122) := ⟨h17_⟩
     have n18_ : Aside0 (gb122 ≠ gb101) := ⟨h18_⟩
     have n19_ : Aside0 (gb102 ≠ gb122) := ⟨h19_⟩
     have n20_ : Aside0 (gb122 ≠ gb102) := ⟨h20_⟩
     have n21_ : Aside0 (Below w.heap.size w w28) := ⟨h21_⟩
     clear HO0_2
     clear BK101
     clear BK102
     clear HB
     clear h0_ h1_ h2_ h3_ h4_ h5_ h6_ h7_ h8_ h9_ h10_ h11_ h12_ h13_ h14_ h15_ h16_ h17_ h18_ h19_ h20_ h21_
     have HL119_2 := n0_
     have HL120_2 := n1_
     have HO0_2 := n2_
     have BK101 := n3_
     have BK102 := n4_
     have BK121 := n5_
     have BK122 := n6_
     have GW121 := n7_
     have GE121 := n8_
     have NB101_121 := n9_
     have NB121_101 := n10_
     have NB102_121 := n11_
     have NB121_102 := n12_
     have NB122_121 := n13_
     have NB121_122 := n14_
     have GW122 := n15_
     have GE122 := n16_
     have NB101_122 := n17_
     have NB122_101 := n18_
     have NB102_122 := n19_
     have NB122_102 := n20_
     have HB := n21_
     clear n0_ n1_ n2_ n3_ n4_ n5_ n6_ n7_ n8_ n9_ n10_ n11_ n12_ n13_ n14_ n15_ n16_ n17_ n18_ n19_ n20_ n21_
     have hHeld : w28.cell? ⟨gb101, 0, none⟩ = some (.int .i64 a0_0) ∧ w28.cell? ⟨gb101, 1, none⟩ = some (.int .i64 a0_1) ∧ w28.cell? ⟨gb101, 2, none⟩ = some (.slice (some ad119) l0_2.length c0_2) ∧ w28.cell? ad119 = some (.int .i64 ((rd_T42 l0_2 0).f0)) ∧ w28.cell? ⟨ad119.block, ad119.off + 1, none⟩ = some (.int .i64 ((rd_T42 l0_2 0).f1)) ∧ w28.cell? ⟨ad119.block, ad119.off + 2, none⟩ = some (.slice A119_2 ((rd_T42 l0_2 0).f2).length c119_2) ∧ w28.cell? ⟨ad119.block, ad119.off + 3, none⟩ = some (.int .i64 ((rd_T42 l0_2 1).f0)) ∧ w28.cell? ⟨ad119.block, ad119.off + 3 + 1, none⟩ = some (.int .i64 ((rd_T42 l0_2 1).f1)) ∧ w28.cell? ⟨ad119.block, ad119.off + 3 + 2, none⟩ = some (.slice A120_2 ((rd_T42 l0_2 1).f2).length c120_2) := hS_
     refine norm_ (a' := ?_) ?_ ?_
     rotate_left
     ·simp only [putAll, Act.put, List.setIfInBounds_toArray, List.set_cons_zero, List.set_cons_succ]
      rfl
     refine one_ (i := 10) (N := none) (bs 11 1) rfl rfl (one_of HT_.out (by kernel_rfl)) (by decide) (fun K hK => ?_)
     have hs29 : w28.cell? ⟨gb121, 0, none⟩ = some (.int .i64 0) := (blk_cell BK121.out 0).trans rfl
     have hfs29 := blk_frozen BK121.out 0
     have hns29_0 := NB101_121.out
     have hns29_1 := NB102_121.out
     have hns29_3 := NB122_121.out
     have hms29_0 := NB121_101.out
     have hms29_1 := NB121_102.out
     have hms29_3 := NB121_122.out
     have hs30 : w28.cell? ⟨gb121, 1, none⟩ = some (.int .i64 0) := (blk_cell BK121.out 1).trans rfl
     have hfs30 := blk_frozen BK121.out 1
     have hns30_0 := NB101_121.out
     have hns30_1 := NB102_121.out
     have hns30_3 := NB122_121.out
     have hms30_0 := NB121_101.out
     have hms30_1 := NB121_102.out
     have hms30_3 := NB121_122.out
     have hs31 : w28.cell? ⟨gb121, 2, none⟩ = some (.slice none 0 0) := (blk_cell BK121.out 2).trans rfl
     have hfs31 := blk_frozen BK121.out 2
     have hns31_0 := NB101_121.out
     have hns31_1 := NB102_121.out
     have hns31_3 := NB122_121.out
     have hms31_0 := NB121_101.out
     have hms31_1 := NB121_102.out
     have hms31_3 := NB121_122.out
     refine skip_ (w1 := ?_) (by rfl) rfl ?_ ?_
     rotate_left
     ·go_simp
      rfl
     refine hK.out _ _ ⟨(cF3 NB101_121.out (hHeld.1)), (cF3 NB101_121.out (hHeld.2.1)), (cF3 NB101_121.out (hHeld.2.2.1)), (cF3 (cB (Kd.own_blk (Kd.V_away HO0_2.out (fun _ hk => hk.2.2.2.1)))) (hHeld.2.2.2.1)), (cF3 (cB (Kd.own_blk (Kd.V_away HO0_2.out (fun _ hk => hk.2.2.2.1)))) (hHeld.2.2.2.2.1)), (cF3 (cB (Kd.own_blk (Kd.V_away HO0_2.out (fun _ hk => hk.2.2.2.1)))) (hHeld.2.2.2.2.2.1)), (cF3 (cB (Kd.own_blk (Kd.V_away HO0_2.out (fun _ hk => hk.2.2.2.1)))) (hHeld.2.2.2.2.2.2.1)), (cF3 (cB (Kd.own_blk (Kd.V_away HO0_2.out (fun _ hk => hk.2.2.2.1)))) (hHeld.2.2.2.2.2.2.2.1)), (cF3 (cB (Kd.own_blk (Kd.V_away HO0_2.out (fun _ hk => hk.2.2.2.1)))) (hHeld.2.2.2.2.2.2.2.2))⟩ (fun hHeld => ?_)
     clear hK K
     refine one_ (i := 11) (N := none) (bs 12 0) rfl rfl (one_of HT_.out (by kernel_rfl)) (by decide) (fun K hK => ?_)
     have hs32 : w28.cell? ⟨gb122, 0, none⟩ = some (.int .i64 0) := (blk_cell BK122.out 0).trans rfl
     have hfs32 := blk_frozen BK122.out 0
     have hns32_0 := NB101_122.out
     have hns32_1 := NB102_122.out
     have hns32_2 := NB121_122.out
     have hms32_0 := NB122_101.out
     have hms32_1 := NB122_102.out
     have hms32_2 := NB122_121.out
     have hs33 : w28.cell? ⟨gb122, 1, none⟩ = some (.int .i64 0) := (blk_cell BK122.out 1).trans rfl
     have hfs33 := blk_frozen BK122.out 1
     have hns33_0 := NB101_122.out
     have hns33_1 := NB102_122.out
     have hns33_2 := NB121_122.out
     have hms33_0 := NB122_101.out
     have hms33_1 := NB122_102.out
     have hms33_2 := NB122_121.out
     have hs34 : w28.cell? ⟨gb122, 2, none⟩ = some (.slice none 0 0) := (blk_cell BK122.out 2).trans rfl
     have hfs34 := blk_frozen BK122.out 2
     have hns34_0 := NB101_122.out
     have hns34_1 := NB102_122.out
     have hns34_2 := NB121_122.out
     have hms34_0 := NB122_101.out
     have hms34_1 := NB122_102.out
     have hms34_2 := NB122_121.out
     refine skip_ (w1 := ?_) (by rfl) rfl ?_ ?_
     rotate_left
     ·go_simp
      rfl
     refine hK.out _ _ ⟨(cF3 NB101_122.out (hHeld.1)), (cF3 NB101_122.out (hHeld.2.1)), (cF3 NB101_122.out (hHeld.2.2.1)), (cF3 (cB (Kd.own_blk (Kd.V_away HO0_2.out (fun _ hk => hk.2.2.2.2)))) (hHeld.2.2.2.1)), (cF3 (cB (Kd.own_blk (Kd.V_away HO0_2.out (fun _ hk => hk.2.2.2.2)))) (hHeld.2.2.2.2.1)), (cF3 (cB (Kd.own_blk (Kd.V_away HO0_2.out (fun _ hk => hk.2.2.2.2)))) (hHeld.2.2.2.2.2.1)), (cF3 (cB (Kd.own_blk (Kd.V_away HO0_2.out (fun _ hk => hk.2.2.2.2)))) (hHeld.2.2.2.2.2.2.1)), (cF3 (cB (Kd.own_blk (Kd.V_away HO0_2.out (fun _ hk => hk.2.2.2.2)))) (hHeld.2.2.2.2.2.2.2.1)), (cF3 (cB (Kd.own_blk (Kd.V_away HO0_2.out (fun _ hk => hk.2.2.2.2)))) (hHeld.2.2.2.2.2.2.2.2))⟩ (fun hHeld => ?_)
     clear hK K
     refine done_ (done_of HT_.out (by kernel_rfl)) ?_
     go_upto_region 6 with (fail)
     go_cut [42] (fun v42 wc => ∃ (kq : Nat) (x42_17 : Bool), v42 = .bool x42_17 ∧ Aside0 (impl_comb_abstract.j0 kq a1 x42_17 ((rd_T42 l0_2 0).f0) ((rd_T42 l0_2 0).f1) ((rd_T42 l0_2 0).f2) ((rd_T42 l0_2 1).f0) ((rd_T42 l0_2 1).f1) ((rd_T42 l0_2 1).f2) = some (r1, r2, r3)) ∧ Aside0 (kq ≤ k) ∧ Aside0 (Kd.V k42 42 wc w.heap.size (fun k_ => (P0_2_ k_ ∨ w.heap.size ≤ k_) ∧ k_ ≠ gb101 ∧ k_ ≠ gb102 ∧ k_ ≠ gb121 ∧ k_ ≠ gb122) (.slice (some ad119) l0_2.length c0_2) l0_2) ∧ Aside0 (Kd.V k42 42 wc w.heap.size (fun k_ => (P0_2_ k_ ∨ w.heap.size ≤ k_) ∧ k_ ≠ gb101 ∧ k_ ≠ gb102 ∧ k_ ≠ gb121 ∧ k_ ≠ gb122) (.slice A119_2 ((rd_T42 l0_2 0).f2).length c119_2) ((rd_T42 l0_2 0).f2)) ∧ Aside0 (Kd.V k42 42 wc w.heap.size (fun k_ => (P0_2_ k_ ∨ w.heap.size ≤ k_) ∧ k_ ≠ gb101 ∧ k_ ≠ gb102 ∧ k_ ≠ gb121 ∧ k_ ≠ gb122) (.slice A120_2 ((rd_T42 l0_2 1).f2).length c120_2) ((rd_T42 l0_2 1).f2)) ∧ Aside0 (wc.heap[gb101]? = some (.cells #[.int .i64 a0_0, .int .i64 a0_1, (.slice (some ad119) l0_2.length c0_2)] 42 (0, 0))) ∧ Aside0 (wc.heap[gb102]? = some (.cells #[.int .i64 0, .int .i64 0, (.slice none 0 0)] 42 (0, 0))) ∧ Aside0 (wc.heap[gb121]? = some (.cells #[.int .i64 ((rd_T42 l0_2 0).f0), .int .i64 ((rd_T42 l0_2 0).f1), (.slice A119_2 ((rd_T42 l0_2 0).f2).length c119_2)] 42 (0, 0))) ∧ Aside0 (wc.heap[gb122]? = some (.cells #[.int .i64 ((rd_T42 l0_2 1).f0), .int .i64 ((rd_T42 l0_2 1).f1), (.slice A120_2 ((rd_T42 l0_2 1).f2).length c120_2)] 42 (0, 0))) ∧ Aside0 (Below w.heap.size w wc))
     case first =>
      have H := HC18.out
      clear HC18
      by_cases c35 : ((rd_T42 l0_2 1).f0) = 1
      ·rw [if_pos c35] at H
       have c35b0 : (((rd_T42 l0_2 1).f0) == 1) = true := beq_iff_eq.mpr c35
       have c35b1 : (((rd_T42 l0_2 1).f0) != 1) = false := bne_eq_false_iff_eq.mpr c35
       clear c35
       (first | rw [c35b0] | (simp only [i64_w, i32_w]; rw [c35b0]) | skip)
       by_cases c36 : ((rd_T42 l0_2 1).f1) = a1
       ·rw [if_pos c36] at H
        have c36b0 : (((rd_T42 l0_2 1).f1) == a1) = true := beq_iff_eq.mpr c36
        have c36b1 : (((rd_T42 l0_2 1).f1) != a1) = false := bne_eq_false_iff_eq.mpr c36
        clear c36
        replace H := Option.bind_eq_some_iff.mp H
        obtain ⟨t123, A370, H⟩ := H
        try dsimp only at H
        have A37 := aK A370
        clear A370
        have H' := aK H
        clear H
        have hnb38 := NB122_101.out
        have hnc38 := NB101_122.out
        have hnb39 := NB122_102.out
        have hnc39 := NB102_122.out
        have hnb40 := NB122_121.out
        have hnc40 := NB121_122.out
        obtain ⟨hcz41_0, hcz41_1, hcz41_2, hfz41_0, hfz41_1, hfz41_2⟩ := cA3 BK122
        have hnb42 := NB121_101.out
        have hnc42 := NB101_121.out
        have hnb43 := NB121_102.out
        have hnc43 := NB102_121.out
        obtain ⟨hcz44_0, hcz44_1, hcz44_2, hfz44_0, hfz44_1, hfz44_2⟩ := cA3 BK121
        go_wp2_with (first | (go_at_call 45; (with_reducible refine (impl_comb_has.calls k ((rd_T42 l0_2 0).f0) ((rd_T42 l0_2 0).f1) _ _ ((rd_T42 l0_2 0).f2) a1 t123 _ ?side1 ?side2 A37.out).mono ?_); (case side1 => repeat (first | exact ((Kd.V_reads' (by (with_reducible repeat (first | apply Kd.V_alloc | apply Kd.V_drewN | apply Kd.V_drew)); exact (Kd.V_mono (Kd.V_mono (vF3 gb122 (vF3 gb121 (Kd.V_mono (Kd.V_mono HL119_2.out (fun k_ hk => (⟨hk, hk.2.2.2.1⟩ : _ ∧ k_ ≠ gb121))) (fun k_ hk => (⟨hk, hk.1.2.2.2.2⟩ : _ ∧ k_ ≠ gb122))) (fun _ hk => hk.1.2)) (fun _ hk => hk.2)) (fun _ h_ => h_.1)) (fun _ h_ => h_.1)))).2.2) | (with_reducible refine Kd.C_alloc ?_ _) | (with_reducible refine Kd.C_drewN ?_ _) | (with_reducible refine Kd.C_drew ?_))); (case side2 => exact HC119_2.out); rintro e w45 ⟨rfl, hb⟩; have n0_ := aK (Kd.V_below (by (with_reducible repeat (first | apply Kd.V_alloc | apply Kd.V_drewN | apply Kd.V_drew)); exact (Kd.V_mono (Kd.V_mono (vF3 gb122 (vF3 gb121 (Kd.V_mono (Kd.V_mono HO0_2.out (fun k_ hk => (⟨hk, hk.2.2.2.1⟩ : _ ∧ k_ ≠ gb121))) (fun k_ hk => (⟨hk, hk.1.2.2.2.2⟩ : _ ∧ k_ ≠ gb122))) (fun _ hk => hk.1.2)) (fun _ hk => hk.2)) (fun _ h_ => h_.1)) (fun _ h_ => h_.1))) hb); have n1_ := aK (Kd.V_below (by (with_reducible repeat (first | apply Kd.V_alloc | apply Kd.V_drewN | apply Kd.V_drew)); exact (Kd.V_mono (Kd.V_mono (vF3 gb122 (vF3 gb121 (Kd.V_mono (Kd.V_mono HL119_2.out (fun k_ hk => (⟨hk, hk.2.2.2.1⟩ : _ ∧ k_ ≠ gb121))) (fun k_ hk => (⟨hk, hk.1.2.2.2.2⟩ : _ ∧ k_ ≠ gb122))) (fun _ hk => hk.1.2)) (fun _ hk => hk.2)) (fun _ h_ => h_.1)) (fun _ h_ => h_.1))) hb); have n2_ := aK (Kd.V_below (by (with_reducible repeat (first | apply Kd.V_alloc | apply Kd.V_drewN | apply Kd.V_drew)); exact (Kd.V_mono (Kd.V_mono (vF3 gb122 (vF3 gb121 (Kd.V_mono (Kd.V_mono HL120_2.out (fun k_ hk => (⟨hk, hk.2.2.2.1⟩ : _ ∧ k_ ≠ gb121))) (fun k_ hk => (⟨hk, hk.1.2.2.2.2⟩ : _ ∧ k_ ≠ gb122))) (fun _ hk => hk.1.2)) (fun _ hk => hk.2)) (fun _ h_ => h_.1)) (fun _ h_ => h_.1))) hb); have n3_ := aK (blk_below (g := gb101) (o := .cells #[.int .i64 a0_0, .int .i64 a0_1, .slice (some ad119) l0_2.length c0_2] 42 (0, 0)) (by (repeat first | with_reducible apply zN | with_reducible apply zD | with_reducible apply zA | refine blk_far ?_ NB101_122.out _ | refine blk_far ?_ NB101_121.out _); exact BK101.out) hb); have n4_ := aK (blk_below (g := gb102) (o := .cells #[.int .i64 0, .int .i64 0, .slice none 0 0] 42 (0, 0)) (by (repeat first | with_reducible apply zN | with_reducible apply zD | with_reducible apply zA | refine blk_far ?_ NB102_122.out _ | refine blk_far ?_ NB102_121.out _); exact BK102.out) hb); have n5_ := aK (blk_below (g := gb121) (o := .cells #[.int .i64 ((rd_T42 l0_2 0).f0), .int .i64 ((rd_T42 l0_2 0).f1), .slice A119_2 ((rd_T42 l0_2 0).f2).length c119_2] 42 (0, 0)) (by (repeat first | with_reducible apply zN | with_reducible apply zD | with_reducible apply zA | refine blk_far ?_ NB121_122.out _); refine blk_put (cs := #[.int .i64 ((rd_T42 l0_2 0).f0), .int .i64 ((rd_T42 l0_2 0).f1), .slice none 0 0]) ?_ 2 _ rfl; (with_reducible repeat first | apply zN | apply zD | apply zA); refine blk_put (cs := #[.int .i64 ((rd_T42 l0_2 0).f0), .int .i64 0, .slice none 0 0]) ?_ 1 _ rfl; (with_reducible repeat first | apply zN | apply zD | apply zA); refine blk_put (cs := #[.int .i64 0, .int .i64 0, .slice none 0 0]) ?_ 0 _ rfl; (with_reducible repeat first | apply zN | apply zD | apply zA); exact BK121.out) hb); have n6_ := aK (blk_below (g := gb122) (o := .cells #[.int .i64 ((rd_T42 l0_2 1).f0), .int .i64 ((rd_T42 l0_2 1).f1), .slice A120_2 ((rd_T42 l0_2 1).f2).length c120_2] 42 (0, 0)) (by (with_reducible repeat first | apply zN | apply zD | apply zA); refine blk_put (cs := #[.int .i64 ((rd_T42 l0_2 1).f0), .int .i64 ((rd_T42 l0_2 1).f1), .slice none 0 0]) ?_ 2 _ rfl; (with_reducible repeat first | apply zN | apply zD | apply zA); refine blk_put (cs := #[.int .i64 ((rd_T42 l0_2 1).f0), .int .i64 0, .slice none 0 0]) ?_ 1 _ rfl; (with_reducible repeat first | apply zN | apply zD | apply zA); refine blk_put (cs := #[.int .i64 0, .int .i64 0, .slice none 0 0]) ?_ 0 _ rfl; (repeat first | with_reducible apply zN | with_reducible apply zD | with_reducible apply zA | refine blk_far ?_ NB122_121.out _); exact BK122.out) hb); have n7_ := aK (below_step (pH HB) hb); clear HO0_2; clear HL119_2; clear HL120_2; clear BK101; clear BK102; clear BK121; clear BK122; clear HB; have HO0_2 := n0_; have HL119_2 := n1_; have HL120_2 := n2_; have BK101 := n3_; have BK102 := n4_; have BK121 := n5_; have BK122 := n6_; have HB := n7_; clear n0_ n1_ n2_ n3_ n4_ n5_ n6_ n7_; (try clear hb)))
        go_meet
        case rel => exact ⟨_, (!t123), rS, H', ⟨by first | omega | exact Nat.le_refl _⟩, ⟨by (with_reducible repeat (first | apply Kd.V_alloc | apply Kd.V_drewN | apply Kd.V_drew)); exact HO0_2.out⟩, ⟨by (with_reducible repeat (first | apply Kd.V_alloc | apply Kd.V_drewN | apply Kd.V_drew)); exact HL119_2.out⟩, ⟨by (with_reducible repeat (first | apply Kd.V_alloc | apply Kd.V_drewN | apply Kd.V_drew)); exact HL120_2.out⟩, ⟨pB BK101⟩, ⟨pB BK102⟩, ⟨pB BK121⟩, ⟨pB BK122⟩, ⟨pH HB⟩⟩
       ·rw [if_neg c36] at H
        have c36b0 : (((rd_T42 l0_2 1).f1) == a1) = false := beq_eq_false_iff_ne.mpr c36
        have c36b1 : (((rd_T42 l0_2 1).f1) != a1) = true := bne_iff_ne.mpr c36
        have H' := aK H
        clear H
        have hnb46 := NB122_101.out
        have hnc46 := NB101_122.out
        have hnb47 := NB122_102.out
        have hnc47 := NB102_122.out
        have hnb48 := NB122_121.out
        have hnc48 := NB121_122.out
        obtain ⟨hcz49_0, hcz49_1, hcz49_2, hfz49_0, hfz49_1, hfz49_2⟩ := cA3 BK122
        go_wp2
        go_meet
        case rel => exact ⟨_, (false), rS, H', ⟨by first | omega | exact Nat.le_refl _⟩, ⟨by (with_reducible repeat (first | apply Kd.V_alloc | apply Kd.V_drewN | apply Kd.V_drew)); exact Kd.V_mono (vF3 gb122 (vF3 gb121 (Kd.V_mono (Kd.V_mono HO0_2.out (fun k_ hk => (⟨hk, hk.2.2.2.1⟩ : _ ∧ k_ ≠ gb121))) (fun k_ hk => (⟨hk, hk.1.2.2.2.2⟩ : _ ∧ k_ ≠ gb122))) (fun _ hk => hk.1.2)) (fun _ hk => hk.2)) (fun _ hk => ⟨hk.1.1.1, ⟨hk.1.1.2.1, ⟨hk.1.1.2.2.1, ⟨hk.1.1.2.2.2.1, hk.1.1.2.2.2.2⟩⟩⟩⟩)⟩, ⟨by (with_reducible repeat (first | apply Kd.V_alloc | apply Kd.V_drewN | apply Kd.V_drew)); exact Kd.V_mono (vF3 gb122 (vF3 gb121 (Kd.V_mono (Kd.V_mono HL119_2.out (fun k_ hk => (⟨hk, hk.2.2.2.1⟩ : _ ∧ k_ ≠ gb121))) (fun k_ hk => (⟨hk, hk.1.2.2.2.2⟩ : _ ∧ k_ ≠ gb122))) (fun _ hk => hk.1.2)) (fun _ hk => hk.2)) (fun _ hk => ⟨hk.1.1.1, ⟨hk.1.1.2.1, ⟨hk.1.1.2.2.1, ⟨hk.1.1.2.2.2.1, hk.1.1.2.2.2.2⟩⟩⟩⟩)⟩, ⟨by (with_reducible repeat (first | apply Kd.V_alloc | apply Kd.V_drewN | apply Kd.V_drew)); exact Kd.V_mono (vF3 gb122 (vF3 gb121 (Kd.V_mono (Kd.V_mono HL120_2.out (fun k_ hk => (⟨hk, hk.2.2.2.1⟩ : _ ∧ k_ ≠ gb121))) (fun k_ hk => (⟨hk, hk.1.2.2.2.2⟩ : _ ∧ k_ ≠ gb122))) (fun _ hk => hk.1.2)) (fun _ hk => hk.2)) (fun _ hk => ⟨hk.1.1.1, ⟨hk.1.1.2.1, ⟨hk.1.1.2.2.1, ⟨hk.1.1.2.2.2.1, hk.1.1.2.2.2.2⟩⟩⟩⟩)⟩, ⟨by (repeat first | with_reducible apply zN | with_reducible apply zD | with_reducible apply zA | refine blk_far ?_ NB101_122.out _ | refine blk_far ?_ NB101_121.out _); exact BK101.out⟩, ⟨by (repeat first | with_reducible apply zN | with_reducible apply zD | with_reducible apply zA | refine blk_far ?_ NB102_122.out _ | refine blk_far ?_ NB102_121.out _); exact BK102.out⟩, ⟨by (repeat first | with_reducible apply zN | with_reducible apply zD | with_reducible apply zA | refine blk_far ?_ NB121_122.out _); refine blk_put (cs := #[.int .i64 ((rd_T42 l0_2 0).f0), .int .i64 ((rd_T42 l0_2 0).f1), .slice none 0 0]) ?_ 2 _ rfl; (with_reducible repeat first | apply zN | apply zD | apply zA); refine blk_put (cs := #[.int .i64 ((rd_T42 l0_2 0).f0), .int .i64 0, .slice none 0 0]) ?_ 1 _ rfl; (with_reducible repeat first | apply zN | apply zD | apply zA); refine blk_put (cs := #[.int .i64 0, .int .i64 0, .slice none 0 0]) ?_ 0 _ rfl; (with_reducible repeat first | apply zN | apply zD | apply zA); exact BK121.out⟩, ⟨by (with_reducible repeat first | apply zN | apply zD | apply zA); refine blk_put (cs := #[.int .i64 ((rd_T42 l0_2 1).f0), .int .i64 ((rd_T42 l0_2 1).f1), .slice none 0 0]) ?_ 2 _ rfl; (with_reducible repeat first | apply zN | apply zD | apply zA); refine blk_put (cs := #[.int .i64 ((rd_T42 l0_2 1).f0), .int .i64 0, .slice none 0 0]) ?_ 1 _ rfl; (with_reducible repeat first | apply zN | apply zD | apply zA); refine blk_put (cs := #[.int .i64 0, .int .i64 0, .slice none 0 0]) ?_ 0 _ rfl; (repeat first | with_reducible apply zN | with_reducible apply zD | with_reducible apply zA | refine blk_far ?_ NB122_121.out _); exact BK122.out⟩, ⟨pH HB⟩⟩
      ·rw [if_neg c35] at H
       have c35b0 : (((rd_T42 l0_2 1).f0) == 1) = false := beq_eq_false_iff_ne.mpr c35
       have c35b1 : (((rd_T42 l0_2 1).f0) != 1) = true := bne_iff_ne.mpr c35
       (first | rw [c35b0] | (simp only [i64_w, i32_w]; rw [c35b0]) | skip)
       have H' := aK H
       clear H
       have hnb50 := NB122_101.out
       have hnc50 := NB101_122.out
       have hnb51 := NB122_102.out
       have hnc51 := NB102_122.out
       have hnb52 := NB122_121.out
       have hnc52 := NB121_122.out
       obtain ⟨hcz53_0, hcz53_1, hcz53_2, hfz53_0, hfz53_1, hfz53_2⟩ := cA3 BK122
       go_wp2
       go_meet
       case rel => exact ⟨_, (false), rS, H', ⟨by first | omega | exact Nat.le_refl _⟩, ⟨by (with_reducible repeat (first | apply Kd.V_alloc | apply Kd.V_drewN | apply Kd.V_drew)); exact Kd.V_mono (vF3 gb122 (vF3 gb121 (Kd.V_mono (Kd.V_mono HO0_2.out (fun k_ hk => (⟨hk, hk.2.2.2.1⟩ : _ ∧ k_ ≠ gb121))) (fun k_ hk => (⟨hk, hk.1.2.2.2.2⟩ : _ ∧ k_ ≠ gb122))) (fun _ hk => hk.1.2)) (fun _ hk => hk.2)) (fun _ hk => ⟨hk.1.1.1, ⟨hk.1.1.2.1, ⟨hk.1.1.2.2.1, ⟨hk.1.1.2.2.2.1, hk.1.1.2.2.2.2⟩⟩⟩⟩)⟩, ⟨by (with_reducible repeat (first | apply Kd.V_alloc | apply Kd.V_drewN | apply Kd.V_drew)); exact Kd.V_mono (vF3 gb122 (vF3 gb121 (Kd.V_mono (Kd.V_mono HL119_2.out (fun k_ hk => (⟨hk, hk.2.2.2.1⟩ : _ ∧ k_ ≠ gb121))) (fun k_ hk => (⟨hk, hk.1.2.2.2.2⟩ : _ ∧ k_ ≠ gb122))) (fun _ hk => hk.1.2)) (fun _ hk => hk.2)) (fun _ hk => ⟨hk.1.1.1, ⟨hk.1.1.2.1, ⟨hk.1.1.2.2.1, ⟨hk.1.1.2.2.2.1, hk.1.1.2.2.2.2⟩⟩⟩⟩)⟩, ⟨by (with_reducible repeat (first | apply Kd.V_alloc | apply Kd.V_drewN | apply Kd.V_drew)); exact Kd.V_mono (vF3 gb122 (vF3 gb121 (Kd.V_mono (Kd.V_mono HL120_2.out (fun k_ hk => (⟨hk, hk.2.2.2.1⟩ : _ ∧ k_ ≠ gb121))) (fun k_ hk => (⟨hk, hk.1.2.2.2.2⟩ : _ ∧ k_ ≠ gb122))) (fun _ hk => hk.1.2)) (fun _ hk => hk.2)) (fun _ hk => ⟨hk.1.1.1, ⟨hk.1.1.2.1, ⟨hk.1.1.2.2.1, ⟨hk.1.1.2.2.2.1, hk.1.1.2.2.2.2⟩⟩⟩⟩)⟩, ⟨by (repeat first | with_reducible apply zN | with_reducible apply zD | with_reducible apply zA | refine blk_far ?_ NB101_122.out _ | refine blk_far ?_ NB101_121.out _); exact BK101.out⟩, ⟨by (repeat first | with_reducible apply zN | with_reducible apply zD | with_reducible apply zA | refine blk_far ?_ NB102_122.out _ | refine blk_far ?_ NB102_121.out _); exact BK102.out⟩, ⟨by (repeat first | with_reducible apply zN | with_reducible apply zD | with_reducible apply zA | refine blk_far ?_ NB121_122.out _); refine blk_put (cs := #[.int .i64 ((rd_T42 l0_2 0).f0), .int .i64 ((rd_T42 l0_2 0).f1), .slice none 0 0]) ?_ 2 _ rfl; (with_reducible repeat first | apply zN | apply zD | apply zA); refine blk_put (cs := #[.int .i64 ((rd_T42 l0_2 0).f0), .int .i64 0, .slice none 0 0]) ?_ 1 _ rfl; (with_reducible repeat first | apply zN | apply zD | apply zA); refine blk_put (cs := #[.int .i64 0, .int .i64 0, .slice none 0 0]) ?_ 0 _ rfl; (with_reducible repeat first | apply zN | apply zD | apply zA); exact BK121.out⟩, ⟨by (with_reducible repeat first | apply zN | apply zD | apply zA); refine blk_put (cs := #[.int .i64 ((rd_T42 l0_2 1).f0), .int .i64 ((rd_T42 l0_2 1).f1), .slice none 0 0]) ?_ 2 _ rfl; (with_reducible repeat first | apply zN | apply zD | apply zA); refine blk_put (cs := #[.int .i64 ((rd_T42 l0_2 1).f0), .int .i64 0, .slice none 0 0]) ?_ 1 _ rfl; (with_reducible repeat first | apply zN | apply zD | apply zA); refine blk_put (cs := #[.int .i64 0, .int .i64 0, .slice none 0 0]) ?_ 0 _ rfl; (repeat first | with_reducible apply zN | with_reducible apply zD | with_reducible apply zA | refine blk_far ?_ NB122_121.out _); exact BK122.out⟩, ⟨pH HB⟩⟩
     case rest =>
      clear HC18
      try clear c1; try clear p1; try clear q1; try clear hx1; try clear qi1; try clear c2; try clear p2; try clear c3; try clear c4; try clear c5; try clear c11; try clear p11; try clear q11; try clear hx11; try clear qi11; try clear c12; try clear p12; try clear q12; try clear hx12; try clear qi12; try clear c17; try clear c17b0; try clear c17b1; try clear c21; try clear c22; try clear c35; try clear c35b0; try clear c35b1; try clear c36; try clear c36b0; try clear c36b1; try clear c38; try clear c39; try clear c40; try clear c42; try clear c43; try clear c45; try clear c46; try clear c47; try clear c48; try clear c50; try clear c51; try clear c52; try clear hx119_0; try clear hx119_1; try clear hx119_2; try clear hx120_0; try clear hx120_1; try clear hx120_2; try clear p119; try clear p120; try clear q119; try clear q120; try clear hcz22_0 hcz22_1 hcz22_2 hfz22_0 hfz22_1 hfz22_2; try clear hcz24_0 hcz24_1 hcz24_2 hfz24_0 hfz24_1 hfz24_2; try clear hcz41_0 hcz41_1 hcz41_2 hfz41_0 hfz41_1 hfz41_2; try clear hcz44_0 hcz44_1 hcz44_2 hfz44_0 hfz44_1 hfz44_2; try clear hcz49_0 hcz49_1 hcz49_2 hfz49_0 hfz49_1 hfz49_2; try clear hcz53_0 hcz53_1 hcz53_2 hfz53_0 hfz53_1 hfz53_2
      obtain ⟨kq, x42_17, rfl, HA, HJ17, HO_102002, HO_122002, HO_123002, BK101, BK102, BK121, BK122, HB⟩ := hcut
      cases kq with
      | zero => exact absurd HA.out (by simp [impl_comb_abstract.j0])
      | succ kj17 =>
       have H := HA.out
       clear HA
       simp only [impl_comb_abstract.j0] at H
       by_cases c54 : x42_17 = true
       ·subst c54
        rw [if_pos rfl] at H
        simp only [Option.some.injEq, Prod.mk.injEq] at H
        obtain ⟨rfl, rfl, rfl⟩ := H
        have hnb55 := NB121_101.out
        have hnc55 := NB101_121.out
        have hnb56 := NB121_102.out
        have hnc56 := NB102_121.out
        have hnb57 := NB121_122.out
        have hnc57 := NB122_121.out
        obtain ⟨hcz58_0, hcz58_1, hcz58_2, hfz58_0, hfz58_1, hfz58_2⟩ := cA3 BK121
        have hnb59 := NB102_101.out
        have hnc59 := NB101_102.out
        have hnb60 := NB102_122.out
        have hnc60 := NB122_102.out
        obtain ⟨hcz61_0, hcz61_1, hcz61_2, hfz61_0, hfz61_1, hfz61_2⟩ := cA3 BK102
        go_wp2
        refine bodyPost_ret (results_cell_row rfl _ _ gb102 42 #[.int .i64 ((rd_T42 l0_2 0).f0), .int .i64 ((rd_T42 l0_2 0).f1), .slice A119_2 ((rd_T42 l0_2 0).f2).length c119_2] (0, 0) _ rfl (p3 BK102) Try.underlying42 rfl (by kernel_rfl)) rfl ?_
        exact ⟨_, eW, by (with_reducible repeat (first | apply Kd.V_alloc | apply Kd.V_drewN | apply Kd.V_drew)); exact Kd.V_mono (vF3 gb102 (Kd.V_mono HO_122002.out (fun k_ hk => (⟨hk, hk.2.2.1⟩ : _ ∧ k_ ≠ gb102))) (fun _ hk => hk.2)) (fun _ hk => hk.1.1), pH HB⟩
       ·replace c54 := Bool.eq_false_iff.mpr c54
        subst c54
        rw [if_neg (show ¬ (false = true) by decide)] at H
        replace H := Option.bind_eq_some_iff.mp H
        obtain ⟨⟨t124, t125, t126⟩, A620, H⟩ := H
        try dsimp only at H
        have A62 := aK A620
        clear A620
        replace H := Option.bind_eq_some_iff.mp H
        obtain ⟨⟨t129, t130, t131⟩, A630, H⟩ := H
        try dsimp only at H
        have A63 := aK A630
        clear A630
        replace H := Option.bind_eq_some_iff.mp H
        obtain ⟨⟨t134, t135, t136⟩, A640, H⟩ := H
        try dsimp only at H
        have A64 := aK A640
        clear A640
        replace H := Option.bind_eq_some_iff.mp H
        obtain ⟨⟨t139, t140, t141⟩, A650, H⟩ := H
        try dsimp only at H
        have A65 := aK A650
        clear A650
        replace H := Option.bind_eq_some_iff.mp H
        obtain ⟨⟨t144, t145, t146⟩, A660, H⟩ := H
        try dsimp only at H
        have A66 := aK A660
        clear A660
        simp only [Option.some.injEq, Prod.mk.injEq] at H
        obtain ⟨rfl, rfl, rfl⟩ := H
        try go_wp2
        have n0_ := aK (Kd.V_drew HO_102002.out)
        have n1_ := aK (Kd.V_drew HO_122002.out)
        have n2_ := aK (Kd.V_drew HO_123002.out)
        have n3_ := aK (blk_drew BK101.out)
        have n4_ := aK (blk_drew BK102.out)
        have n5_ := aK (blk_drew BK121.out)
        have n6_ := aK (blk_drew BK122.out)
        have n7_ := aK (below_drew1 HB.out)
        clear HO_102002
        clear HO_122002
        clear HO_123002
        clear BK101
        clear BK102
        clear BK121
        clear BK122
        clear HB
        have HO_102002 := n0_
        have HO_122002 := n1_
        have HO_123002 := n2_
        have BK101 := n3_
        have BK102 := n4_
        have BK121 := n5_
        have BK122 := n6_
        have HB := n7_
        clear n0_ n1_ n2_ n3_ n4_ n5_ n6_ n7_
        refine start_ (n := 10) (S := fun w' => w'.cell? ⟨gb121, 0, none⟩ = some (.int .i64 ((rd_T42 l0_2 0).f0)) ∧ w'.cell? ⟨gb121, 1, none⟩ = some (.int .i64 ((rd_T42 l0_2 0).f1)) ∧ w'.cell? ⟨gb121, 2, none⟩ = some (.slice A119_2 ((rd_T42 l0_2 0).f2).length c119_2) ∧ w'.cell? ⟨gb122, 0, none⟩ = some (.int .i64 ((rd_T42 l0_2 1).f0)) ∧ w'.cell? ⟨gb122, 1, none⟩ = some (.int .i64 ((rd_T42 l0_2 1).f1)) ∧ w'.cell? ⟨gb122, 2, none⟩ = some (.slice A120_2 ((rd_T42 l0_2 1).f2).length c120_2)) (ds := []) (bs 0 10) (by kernel_rfl) rfl rfl ⟨(blk_cell BK121.out 0).trans rfl, (blk_cell BK121.out 1).trans rfl, (blk_cell BK121.out 2).trans rfl, (blk_cell BK122.out 0).trans rfl, (blk_cell BK122.out 1).trans rfl, (blk_cell BK122.out 2).trans rfl⟩ (fun hHeld => ?_); refine with_tabW impl_comb_abstract.tab8 impl_comb_abstract.bits8 (fun HT_ HW_ => ?_)
        generalize wc.drew = w67 at HO_102002 HO_122002 HO_123002 BK101 BK102 BK121 BK122 HB hHeld ⊢
        refine pure_ (i := 2) (N := some 46) (v := ?_) (a' := ?_) #[false, false, true, false, false, false, false, false, false, false] rfl rfl (any_of HT_.out (by kernel_rfl)) (fun _ _ _ h => h) (Or.inl ⟨by rfl, ?_⟩) ?_ ?_
        rotate_left
        ·intro w'
         go_simp
         with_reducible rfl
        rotate_left
        ·simp only [sP, i64_w, i32_w]
         rfl
        refine pure_ (i := 6) (N := some 50) (v := ?_) (a' := ?_) #[false, false, true, false, false, false, true, false, false, false] rfl rfl (any_of HT_.out (by kernel_rfl)) (fun _ _ _ h => h) (Or.inl ⟨by rfl, ?_⟩) ?_ ?_
        rotate_left
        ·intro w'
         go_simp
         with_reducible rfl
        rotate_left
        ·simp only [sP, i64_w, i32_w]
         rfl
        refine take_ (i := 1) (N := some 45) (v := ?_) (a' := ?_) #[false, true, true, false, false, false, true, false, false, false] rfl rfl (take_ofW HT_.out HW_.out (by kernel_rfl)) (fun _ _ _ h => h) (Or.inl ⟨by rfl, ?_⟩) hHeld ?_ ?_
        rotate_left
        ·rintro w' ⟨s0, s1, s2, s3, s4, s5⟩
         go_simp
         with_reducible rfl
        rotate_left
        ·simp only [sP, i64_w, i32_w]
         rfl
        refine take_ (i := 5) (N := some 49) (v := ?_) (a' := ?_) #[false, true, true, false, false, true, true, false, false, false] rfl rfl (take_ofW HT_.out HW_.out (by kernel_rfl)) (fun _ _ _ h => h) (Or.inl ⟨by rfl, ?_⟩) hHeld ?_ ?_
        rotate_left
        ·rintro w' ⟨s0, s1, s2, s3, s4, s5⟩
         go_simp
         with_reducible rfl
        rotate_left
        ·simp only [sP, i64_w, i32_w]
         rfl
        refine one_ (i := 0) (N := some 44) #[true, true, true, false, false, true, true, false, false, false] rfl rfl (one_of HT_.out (by kernel_rfl)) (by decide) (fun K hK => ?_)
        refine goes_ Try.func46 (by kernel_rfl) rfl #[.int .i64 3] (by rfl) rfl rfl tA ?_
        with_reducible refine (impl_combOf.calls 3 t124 t125 t126 _ A62.out).mono ?_
        rintro e w68 ⟨v127, rfl, ho0, hb⟩
        refine ⟨_, rfl, ?_⟩
        have n0_ := aK (Kd.V_elder' HO_102002.out (by first | exact Kd.N_base ho0 | exact Kd.R_base ho0) hb)
        have n1_ := aK (Kd.V_elder' HO_122002.out (by first | exact Kd.N_base ho0 | exact Kd.R_base ho0) hb)
        have n2_ := aK (Kd.V_elder' HO_123002.out (by first | exact Kd.N_base ho0 | exact Kd.R_base ho0) hb)
        have n3_ := aK (Kd.N_lower (Kd.N_mono (ok' := fun k_ => (P0_2_ k_ ∨ w.heap.size ≤ k_) ∧ k_ ≠ gb101 ∧ k_ ≠ gb102 ∧ k_ ≠ gb121 ∧ k_ ≠ gb122) (Kd.R_N (Kd.R_bound ho0)) (fun k_ hk_ => ⟨(.inr (Nat.le_trans (below_size (pH HB)) hk_.2.1)), (Kd.freshB BK101.out k_ hk_.2.1), (Kd.freshB BK102.out k_ hk_.2.1), (Kd.freshB BK121.out k_ hk_.2.1), (Kd.freshB BK122.out k_ hk_.2.1)⟩)) (below_size (pH HB)))
        have n4_ := aK (blk_below BK101.out hb)
        have n5_ := aK (blk_below BK102.out hb)
        have n6_ := aK (blk_below BK121.out hb)
        have n7_ := aK (blk_below BK122.out hb)
        have n8_ := aK (below_step (pH HB) hb)
        clear HO_102002
        clear HO_122002
        clear HO_123002
        clear BK101
        clear BK102
        clear BK121
        clear BK122
        clear HB
        have HO_102002 := n0_
        have HO_122002 := n1_
        have HO_123002 := n2_
        have HO128 := n3_
        have BK101 := n4_
        have BK102 := n5_
        have BK121 := n6_
        have BK122 := n7_
        have HB := n8_
        clear n0_ n1_ n2_ n3_ n4_ n5_ n6_ n7_ n8_
        (try clear hb)
        (try clear hb2)
        (try clear hk)
        (try clear hi)
        (try clear ho0)
        refine hK.out _ _ ⟨(blk_cell BK121.out 0).trans rfl, (blk_cell BK121.out 1).trans rfl, (blk_cell BK121.out 2).trans rfl, (blk_cell BK122.out 0).trans rfl, (blk_cell BK122.out 1).trans rfl, (blk_cell BK122.out 2).trans rfl⟩ (fun hHeld => ?_)
        clear hK K
        refine norm_ (a' := ?_) ?_ ?_
        rotate_left
        ·show Act.put _ (some 44) _ = _
         simp only [sP, i64_w, i32_w]
         rfl
        refine one_ (i := 3) (N := some 47) #[true, true, true, true, false, true, true, false, false, false] rfl rfl (one_of HT_.out (by kernel_rfl)) (by decide) (fun K hK => ?_)
        refine goes_ Try.func22 (by kernel_rfl) rfl #[.agg #[.int .i64 ((rd_T42 l0_2 0).f0), .int .i64 ((rd_T42 l0_2 0).f1), .slice A119_2 ((rd_T42 l0_2 0).f2).length c119_2], .int .i64 a1] (by rfl) rfl rfl tA ?_
        with_reducible refine (ih kj17 (by have := HJ17.out; omega) ((rd_T42 l0_2 0).f0) ((rd_T42 l0_2 0).f1) (fun k_ => (((P0_2_ k_ ∨ w.heap.size ≤ k_) ∧ (k_ ≠ gb101 ∧ (k_ ≠ gb102 ∧ (k_ ≠ gb121 ∧ k_ ≠ gb122)))) ∧ some k_ ≠ (v127 : Value).ownBlock)) _ _ ((rd_T42 l0_2 0).f2) a1 t129 t130 t131 _ ?side1 A63.out).mono ?_
        (case side1 => exact HO_122002.out)
        rintro e w69 ⟨v132, rfl, ho0, hb⟩
        refine ⟨_, rfl, ?_⟩
        have n0_ := aK (Kd.V_below HO_102002.out hb)
        have n1_ := aK (Kd.V_below HO_122002.out hb)
        have n2_ := aK (Kd.V_below HO_123002.out hb)
        have n3_ := aK (Kd.N_below HO128.out hb)
        have n4_ := aK (Kd.V_lower (Kd.V_mono (ok' := fun k_ => (P0_2_ k_ ∨ w.heap.size ≤ k_) ∧ some k_ ≠ (v127 : Value).ownBlock ∧ k_ ≠ gb101 ∧ k_ ≠ gb102 ∧ k_ ≠ gb121 ∧ k_ ≠ gb122) ho0 (fun k_ hk_ => ⟨Or.elim hk_ (fun hs_ => hs_.1.1) (fun hn_ => (.inr (Nat.le_trans (below_size (pH HB)) hn_))), Or.elim hk_ (fun hs_ => hs_.2) (fun hn_ => (Kd.fresh' (Kd.N_lt HO128.out) k_ hn_)), Or.elim hk_ (fun hs_ => hs_.1.2.1) (fun hn_ => (Kd.freshB BK101.out k_ hn_)), Or.elim hk_ (fun hs_ => hs_.1.2.2.1) (fun hn_ => (Kd.freshB BK102.out k_ hn_)), Or.elim hk_ (fun hs_ => hs_.1.2.2.2.1) (fun hn_ => (Kd.freshB BK121.out k_ hn_)), Or.elim hk_ (fun hs_ => hs_.1.2.2.2.2) (fun hn_ => (Kd.freshB BK122.out k_ hn_))⟩)) (below_size (pH HB)))
        have n5_ := aK (blk_below BK101.out hb)
        have n6_ := aK (blk_below BK102.out hb)
        have n7_ := aK (blk_below BK121.out hb)
        have n8_ := aK (blk_below BK122.out hb)
        have n9_ := aK (below_step (pH HB) hb)
        clear HO_102002
        clear HO_122002
        clear HO_123002
        clear HO128
        clear BK101
        clear BK102
        clear BK121
        clear BK122
        clear HB
        have HO_102002 := n0_
        have HO_122002 := n1_
        have HO_123002 := n2_
        have HO128 := n3_
        have HO133 := n4_
        have BK101 := n5_
        have BK102 := n6_
        have BK121 := n7_
        have BK122 := n8_
        have HB := n9_
        clear n0_ n1_ n2_ n3_ n4_ n5_ n6_ n7_ n8_ n9_
        (try clear hb)
        (try clear hb2)
        (try clear hk)
        (try clear hi)
        (try clear ho0)
        obtain ⟨Ao70, co70, eo70⟩ := Kd.N_slice HO128.out
        (first | subst eo70 | (injection eo70 with f1_ f2_ f3_; have f4_ := f1_.symm; have f5_ := f3_.symm; clear f1_ f2_ f3_; subst f4_; subst f5_))
        obtain ⟨Ao71, co71, eo71⟩ := Kd.V_slice HO133.out
        (first | subst eo71 | (injection eo71 with f1_ f2_ f3_; have f4_ := f1_.symm; have f5_ := f3_.symm; clear f1_ f2_ f3_; subst f4_; subst f5_))
        refine hK.out _ _ ⟨(blk_cell BK121.out 0).trans rfl, (blk_cell BK121.out 1).trans rfl, (blk_cell BK121.out 2).trans rfl, (blk_cell BK122.out 0).trans rfl, (blk_cell BK122.out 1).trans rfl, (blk_cell BK122.out 2).trans rfl⟩ (fun hHeld => ?_)
        clear hK K
        refine norm_ (a' := ?_) ?_ ?_
        rotate_left
        ·show Act.put _ (some 47) _ = _
         simp only [sP, i64_w, i32_w]
         rfl
        refine one_ (i := 4) (N := some 48) (bs 7 3) rfl rfl (one_of HT_.out (by kernel_rfl)) (by decide) (fun K hK => ?_)
        refine goes_ Try.func24 (by kernel_rfl) rfl #[.agg #[.int .i64 t124, .int .i64 t125, .slice Ao70 t126.length co70], .agg #[.int .i64 t129, .int .i64 t130, .slice Ao71 t131.length co71]] (by rfl) rfl rfl tA ?_
        with_reducible refine (impl_combApp.calls t124 t125 (fun k_ => ((P0_2_ k_ ∨ w.heap.size ≤ k_) ∧ (k_ ≠ gb101 ∧ (k_ ≠ gb102 ∧ (k_ ≠ gb121 ∧ k_ ≠ gb122))))) _ _ t126 t129 t130 (fun k_ => ((P0_2_ k_ ∨ w.heap.size ≤ k_) ∧ (some k_ ≠ (.slice Ao70 t126.length co70 : Value).ownBlock ∧ (k_ ≠ gb101 ∧ (k_ ≠ gb102 ∧ (k_ ≠ gb121 ∧ k_ ≠ gb122)))))) _ _ t131 t134 t135 t136 _ ?side1 ?side2 A64.out).mono ?_
        (case side1 => exact Kd.N_V (HO128.out))
        (case side2 => exact HO133.out)
        rintro e w72 ⟨v137, rfl, ho0, hb⟩
        refine ⟨_, rfl, ?_⟩
        have n0_ := aK (Kd.V_elder' HO_102002.out (by first | exact Kd.N_base ho0 | exact Kd.R_base ho0) hb)
        have n1_ := aK (Kd.V_elder' HO_122002.out (by first | exact Kd.N_base ho0 | exact Kd.R_base ho0) hb)
        have n2_ := aK (Kd.V_elder' HO_123002.out (by first | exact Kd.N_base ho0 | exact Kd.R_base ho0) hb)
        have n3_ := aK (Kd.N_elder' HO128.out (by first | exact Kd.N_base ho0 | exact Kd.R_base ho0) hb)
        have n4_ := aK (Kd.V_elder' HO133.out (by first | exact Kd.N_base ho0 | exact Kd.R_base ho0) hb)
        have n5_ := aK (Kd.N_lower (Kd.N_mono (ok' := fun k_ => (P0_2_ k_ ∨ w.heap.size ≤ k_) ∧ k_ ≠ gb101 ∧ k_ ≠ gb102 ∧ k_ ≠ gb121 ∧ k_ ≠ gb122) ho0 (fun k_ hk_ => ⟨Or.elim hk_ (fun hs_ => Or.elim hs_ (fun hs_ => hs_.1) (fun hs_ => hs_.1)) (fun hn_ => (.inr (Nat.le_trans (below_size (pH HB)) hn_))), Or.elim hk_ (fun hs_ => Or.elim hs_ (fun hs_ => hs_.2.1) (fun hs_ => hs_.2.2.1)) (fun hn_ => (Kd.freshB BK101.out k_ hn_)), Or.elim hk_ (fun hs_ => Or.elim hs_ (fun hs_ => hs_.2.2.1) (fun hs_ => hs_.2.2.2.1)) (fun hn_ => (Kd.freshB BK102.out k_ hn_)), Or.elim hk_ (fun hs_ => Or.elim hs_ (fun hs_ => hs_.2.2.2.1) (fun hs_ => hs_.2.2.2.2.1)) (fun hn_ => (Kd.freshB BK121.out k_ hn_)), Or.elim hk_ (fun hs_ => Or.elim hs_ (fun hs_ => hs_.2.2.2.2) (fun hs_ => hs_.2.2.2.2.2)) (fun hn_ => (Kd.freshB BK122.out k_ hn_))⟩)) (below_size (pH HB)))
        have n6_ := aK (blk_below BK101.out hb)
        have n7_ := aK (blk_below BK102.out hb)
        have n8_ := aK (blk_below BK121.out hb)
        have n9_ := aK (blk_below BK122.out hb)
        have n10_ := aK (below_step (pH HB) hb)
        clear HO_102002
        clear HO_122002
        clear HO_123002
        clear HO128
        clear HO133
        clear BK101
        clear BK102
        clear BK121
        clear BK122
        clear HB
        have HO_102002 := n0_
        have HO_122002 := n1_
        have HO_123002 := n2_
        have HO128 := n3_
        have HO133 := n4_
        have HO138 := n5_
        have BK101 := n6_
        have BK102 := n7_
        have BK121 := n8_
        have BK122 := n9_
        have HB := n10_
        clear n0_ n1_ n2_ n3_ n4_ n5_ n6_ n7_ n8_ n9_ n10_
        (try clear hb)
        (try clear hb2)
        (try clear hk)
        (try clear hi)
        (try clear ho0)
        refine hK.out _ _ ⟨(blk_cell BK121.out 0).trans rfl, (blk_cell BK121.out 1).trans rfl, (blk_cell BK121.out 2).trans rfl, (blk_cell BK122.out 0).trans rfl, (blk_cell BK122.out 1).trans rfl, (blk_cell BK122.out 2).trans rfl⟩ (fun hHeld => ?_)
        clear hK K
        refine norm_ (a' := ?_) ?_ ?_
        rotate_left
        ·show Act.put _ (some 48) _ = _
         simp only [sP, i64_w, i32_w]
         rfl
        refine one_ (i := 7) (N := some 51) (bs 8 2) rfl rfl (one_of HT_.out (by kernel_rfl)) (by decide) (fun K hK => ?_)
        refine goes_ Try.func22 (by kernel_rfl) rfl #[.agg #[.int .i64 ((rd_T42 l0_2 1).f0), .int .i64 ((rd_T42 l0_2 1).f1), .slice A120_2 ((rd_T42 l0_2 1).f2).length c120_2], .int .i64 a1] (by rfl) rfl rfl tA ?_
        with_reducible refine (ih kj17 (by have := HJ17.out; omega) ((rd_T42 l0_2 1).f0) ((rd_T42 l0_2 1).f1) (fun k_ => ((((P0_2_ k_ ∨ w.heap.size ≤ k_) ∧ (k_ ≠ gb101 ∧ (k_ ≠ gb102 ∧ (k_ ≠ gb121 ∧ k_ ≠ gb122)))) ∧ some k_ ≠ (.slice Ao70 t126.length co70 : Value).ownBlock) ∧ some k_ ≠ (v137 : Value).ownBlock)) _ _ ((rd_T42 l0_2 1).f2) a1 t139 t140 t141 _ ?side1 A65.out).mono ?_
        (case side1 => exact HO_123002.out)
        rintro e w73 ⟨v142, rfl, ho0, hb⟩
        refine ⟨_, rfl, ?_⟩
        have n0_ := aK (Kd.V_below HO_102002.out hb)
        have n1_ := aK (Kd.V_below HO_122002.out hb)
        have n2_ := aK (Kd.V_below HO_123002.out hb)
        have n3_ := aK (Kd.N_below HO128.out hb)
        have n4_ := aK (Kd.V_below HO133.out hb)
        have n5_ := aK (Kd.N_below HO138.out hb)
        have n6_ := aK (Kd.V_lower (Kd.V_mono (ok' := fun k_ => (P0_2_ k_ ∨ w.heap.size ≤ k_) ∧ some k_ ≠ (.slice Ao70 t126.length co70 : Value).ownBlock ∧ some k_ ≠ (v137 : Value).ownBlock ∧ k_ ≠ gb101 ∧ k_ ≠ gb102 ∧ k_ ≠ gb121 ∧ k_ ≠ gb122) ho0 (fun k_ hk_ => ⟨Or.elim hk_ (fun hs_ => hs_.1.1.1) (fun hn_ => (.inr (Nat.le_trans (below_size (pH HB)) hn_))), Or.elim hk_ (fun hs_ => hs_.1.2) (fun hn_ => (Kd.fresh' (Kd.N_lt HO128.out) k_ hn_)), Or.elim hk_ (fun hs_ => hs_.2) (fun hn_ => (Kd.fresh' (Kd.N_lt HO138.out) k_ hn_)), Or.elim hk_ (fun hs_ => hs_.1.1.2.1) (fun hn_ => (Kd.freshB BK101.out k_ hn_)), Or.elim hk_ (fun hs_ => hs_.1.1.2.2.1) (fun hn_ => (Kd.freshB BK102.out k_ hn_)), Or.elim hk_ (fun hs_ => hs_.1.1.2.2.2.1) (fun hn_ => (Kd.freshB BK121.out k_ hn_)), Or.elim hk_ (fun hs_ => hs_.1.1.2.2.2.2) (fun hn_ => (Kd.freshB BK122.out k_ hn_))⟩)) (below_size (pH HB)))
        have n7_ := aK (blk_below BK101.out hb)
        have n8_ := aK (blk_below BK102.out hb)
        have n9_ := aK (blk_below BK121.out hb)
        have n10_ := aK (blk_below BK122.out hb)
        have n11_ := aK (below_step (pH HB) hb)
        clear HO_102002
        clear HO_122002
        clear HO_123002
        clear HO128
        clear HO133
        clear HO138
        clear BK101
        clear BK102
        clear BK121
        clear BK122
        clear HB
        have HO_102002 := n0_
        have HO_122002 := n1_
        have HO_123002 := n2_
        have HO128 := n3_
        have HO133 := n4_
        have HO138 := n5_
        have HO143 := n6_
        have BK101 := n7_
        have BK102 := n8_
        have BK121 := n9_
        have BK122 := n10_
        have HB := n11_
        clear n0_ n1_ n2_ n3_ n4_ n5_ n6_ n7_ n8_ n9_ n10_ n11_
        (try clear hb)
        (try clear hb2)
        (try clear hk)
        (try clear hi)
        (try clear ho0)
        obtain ⟨Ao74, co74, eo74⟩ := Kd.N_slice HO138.out
        (first | subst eo74 | (injection eo74 with f1_ f2_ f3_; have f4_ := f1_.symm; have f5_ := f3_.symm; clear f1_ f2_ f3_; subst f4_; subst f5_))
        obtain ⟨Ao75, co75, eo75⟩ := Kd.V_slice HO143.out
        (first | subst eo75 | (injection eo75 with f1_ f2_ f3_; have f4_ := f1_.symm; have f5_ := f3_.symm; clear f1_ f2_ f3_; subst f4_; subst f5_))
        refine hK.out _ _ ⟨(blk_cell BK121.out 0).trans rfl, (blk_cell BK121.out 1).trans rfl, (blk_cell BK121.out 2).trans rfl, (blk_cell BK122.out 0).trans rfl, (blk_cell BK122.out 1).trans rfl, (blk_cell BK122.out 2).trans rfl⟩ (fun hHeld => ?_)
        clear hK K
        refine norm_ (a' := ?_) ?_ ?_
        rotate_left
        ·show Act.put _ (some 51) _ = _
         simp only [sP, i64_w, i32_w]
         rfl
        refine one_ (i := 8) (N := some 52) (bs 9 1) rfl rfl (one_of HT_.out (by kernel_rfl)) (by decide) (fun K hK => ?_)
        refine goes_ Try.func24 (by kernel_rfl) rfl #[.agg #[.int .i64 t134, .int .i64 t135, .slice Ao74 t136.length co74], .agg #[.int .i64 t139, .int .i64 t140, .slice Ao75 t141.length co75]] (by rfl) rfl rfl tA ?_
        with_reducible refine (impl_combApp.calls t134 t135 (fun k_ => ((P0_2_ k_ ∨ w.heap.size ≤ k_) ∧ (k_ ≠ gb101 ∧ (k_ ≠ gb102 ∧ (k_ ≠ gb121 ∧ k_ ≠ gb122))))) _ _ t136 t139 t140 (fun k_ => ((P0_2_ k_ ∨ w.heap.size ≤ k_) ∧ (some k_ ≠ (.slice Ao70 t126.length co70 : Value).ownBlock ∧ (some k_ ≠ (.slice Ao74 t136.length co74 : Value).ownBlock ∧ (k_ ≠ gb101 ∧ (k_ ≠ gb102 ∧ (k_ ≠ gb121 ∧ k_ ≠ gb122))))))) _ _ t141 t144 t145 t146 _ ?side1 ?side2 A66.out).mono ?_
        (case side1 => exact Kd.N_V (HO138.out))
        (case side2 => exact HO143.out)
        rintro e w76 ⟨v147, rfl, ho0, hb⟩
        refine ⟨_, rfl, ?_⟩
        have n0_ := aK (Kd.V_elder' HO_102002.out (by first | exact Kd.N_base ho0 | exact Kd.R_base ho0) hb)
        have n1_ := aK (Kd.V_elder' HO_122002.out (by first | exact Kd.N_base ho0 | exact Kd.R_base ho0) hb)
        have n2_ := aK (Kd.V_elder' HO_123002.out (by first | exact Kd.N_base ho0 | exact Kd.R_base ho0) hb)
        have n3_ := aK (Kd.N_elder' HO128.out (by first | exact Kd.N_base ho0 | exact Kd.R_base ho0) hb)
        have n4_ := aK (Kd.V_elder' HO133.out (by first | exact Kd.N_base ho0 | exact Kd.R_base ho0) hb)
        have n5_ := aK (Kd.N_elder' HO138.out (by first | exact Kd.N_base ho0 | exact Kd.R_base ho0) hb)
        have n6_ := aK (Kd.V_elder' HO143.out (by first | exact Kd.N_base ho0 | exact Kd.R_base ho0) hb)
        have n7_ := aK (Kd.N_lower (Kd.N_mono (ok' := fun k_ => (P0_2_ k_ ∨ w.heap.size ≤ k_) ∧ k_ ≠ gb101 ∧ k_ ≠ gb102 ∧ k_ ≠ gb121 ∧ k_ ≠ gb122) ho0 (fun k_ hk_ => ⟨Or.elim hk_ (fun hs_ => Or.elim hs_ (fun hs_ => hs_.1) (fun hs_ => hs_.1)) (fun hn_ => (.inr (Nat.le_trans (below_size (pH HB)) hn_))), Or.elim hk_ (fun hs_ => Or.elim hs_ (fun hs_ => hs_.2.1) (fun hs_ => hs_.2.2.2.1)) (fun hn_ => (Kd.freshB BK101.out k_ hn_)), Or.elim hk_ (fun hs_ => Or.elim hs_ (fun hs_ => hs_.2.2.1) (fun hs_ => hs_.2.2.2.2.1)) (fun hn_ => (Kd.freshB BK102.out k_ hn_)), Or.elim hk_ (fun hs_ => Or.elim hs_ (fun hs_ => hs_.2.2.2.1) (fun hs_ => hs_.2.2.2.2.2.1)) (fun hn_ => (Kd.freshB BK121.out k_ hn_)), Or.elim hk_ (fun hs_ => Or.elim hs_ (fun hs_ => hs_.2.2.2.2) (fun hs_ => hs_.2.2.2.2.2.2)) (fun hn_ => (Kd.freshB BK122.out k_ hn_))⟩)) (below_size (pH HB)))
        have n8_ := aK (blk_below BK101.out hb)
        have n9_ := aK (blk_below BK102.out hb)
        have n10_ := aK (blk_below BK121.out hb)
        have n11_ := aK (blk_below BK122.out hb)
        have n12_ := aK (below_step (pH HB) hb)
        clear HO_102002
        clear HO_122002
        clear HO_123002
        clear HO128
        clear HO133
        clear HO138
        clear HO143
        clear BK101
        clear BK102
        clear BK121
        clear BK122
        clear HB
        have HO_102002 := n0_
        have HO_122002 := n1_
        have HO_123002 := n2_
        have HO128 := n3_
        have HO133 := n4_
        have HO138 := n5_
        have HO143 := n6_
        have HO148 := n7_
        have BK101 := n8_
        have BK102 := n9_
        have BK121 := n10_
        have BK122 := n11_
        have HB := n12_
        clear n0_ n1_ n2_ n3_ n4_ n5_ n6_ n7_ n8_ n9_ n10_ n11_ n12_
        (try clear hb)
        (try clear hb2)
        (try clear hk)
        (try clear hi)
        (try clear ho0)
        obtain ⟨Ao79, co79, eo79⟩ := Kd.N_slice HO148.out
        (first | subst eo79 | (injection eo79 with f1_ f2_ f3_; have f4_ := f1_.symm; have f5_ := f3_.symm; clear f1_ f2_ f3_; subst f4_; subst f5_))
        refine hK.out _ _ ⟨(blk_cell BK121.out 0).trans rfl, (blk_cell BK121.out 1).trans rfl, (blk_cell BK121.out 2).trans rfl, (blk_cell BK122.out 0).trans rfl, (blk_cell BK122.out 1).trans rfl, (blk_cell BK122.out 2).trans rfl⟩ (fun hHeld => ?_)
        clear hK K
        refine norm_ (a' := ?_) ?_ ?_
        rotate_left
        ·show Act.put _ (some 52) _ = _
         simp only [sP, i64_w, i32_w]
         rfl
        refine one_ (i := 9) (N := none) (bs 10 0) rfl rfl (one_of HT_.out (by kernel_rfl)) (by decide) (fun K hK => ?_)
        have hs77 : w76.cell? ⟨gb102, 0, none⟩ = some (.int .i64 0) := (blk_cell BK102.out 0).trans rfl
        have hfs77 := blk_frozen BK102.out 0
        have hns77_0 := NB101_102.out
        have hns77_2 := NB121_102.out
        have hns77_3 := NB122_102.out
        have hms77_0 := NB102_101.out
        have hms77_2 := NB102_121.out
        have hms77_3 := NB102_122.out
        have hs78 : w76.cell? ⟨gb102, 1, none⟩ = some (.int .i64 0) := (blk_cell BK102.out 1).trans rfl
        have hfs78 := blk_frozen BK102.out 1
        have hns78_0 := NB101_102.out
        have hns78_2 := NB121_102.out
        have hns78_3 := NB122_102.out
        have hms78_0 := NB102_101.out
        have hms78_2 := NB102_121.out
        have hms78_3 := NB102_122.out
        have hs80 : w76.cell? ⟨gb102, 2, none⟩ = some (.slice none 0 0) := (blk_cell BK102.out 2).trans rfl
        have hfs80 := blk_frozen BK102.out 2
        have hns80_0 := NB101_102.out
        have hns80_2 := NB121_102.out
        have hns80_3 := NB122_102.out
        have hms80_0 := NB102_101.out
        have hms80_2 := NB102_121.out
        have hms80_3 := NB102_122.out
        refine skip_ (w1 := ?_) (by rfl) rfl ?_ ?_
        rotate_left
        ·go_simp
         rfl
        refine hK.out _ _ ⟨(cF3 NB121_102.out (hHeld.1)), (cF3 NB121_102.out (hHeld.2.1)), (cF3 NB121_102.out (hHeld.2.2.1)), (cF3 NB122_102.out (hHeld.2.2.2.1)), (cF3 NB122_102.out (hHeld.2.2.2.2.1)), (cF3 NB122_102.out (hHeld.2.2.2.2.2))⟩ (fun hHeld => ?_)
        clear hK K
        refine done_ (done_of HT_.out (by kernel_rfl)) ?_
        try go_wp2
        refine bodyPost_ret (results_cell_row rfl _ _ gb102 42 #[.int .i64 t144, .int .i64 t145, .slice Ao79 t146.length co79] (0, 0) _ rfl (p3 BK102) Try.underlying42 rfl (by kernel_rfl)) rfl ?_
        exact ⟨_, eW, Kd.N_V (by (with_reducible repeat (first | apply Kd.N_alloc | apply Kd.N_drewN | apply Kd.N_drew)); exact Kd.N_mono (nF3 gb102 (Kd.N_mono HO148.out (fun k_ hk => (⟨hk, hk.2.2.1⟩ : _ ∧ k_ ≠ gb102))) (fun _ hk => hk.2)) (fun _ hk => hk.1.1)), pH HB⟩
    ·rw [if_neg c17] at H
     exact absurd H (by simp)
   ·rw [if_neg c16] at H
    exact absurd H (by simp)
 ·replace c4 := Bool.eq_false_iff.mpr c4
  subst c4
  rw [if_neg (show ¬ (false = true) by decide)] at H
  replace H := Option.bind_eq_some_iff.mp H
  obtain ⟨⟨t109, t110, t111⟩, A810, H⟩ := H
  try dsimp only at H
  have A81 := aK A810
  clear A810
  replace H := Option.bind_eq_some_iff.mp H
  obtain ⟨⟨t114, t115, t116⟩, A820, H⟩ := H
  try dsimp only at H
  have A82 := aK A820
  clear A820
  simp only [Option.some.injEq, Prod.mk.injEq] at H
  obtain ⟨rfl, rfl, rfl⟩ := H
  go_enter Try.func22, Try.ntmps22
  try go_wp2_with (first | ((with_reducible refine gate_dst (N := 2) rfl ?_); refine bE (N := 2) (cs := #[.int .i64 a0_0, .int .i64 a0_1, .slice A0_2 l0_2.length c0_2]) (t := 42) ?_; intro gb101 hg w83 hbox hb; have GW101 := qw HB hg; have GE101 := qw HB hg; replace HO0_2 := qv HO0_2 hg hb; have BK101 := aK hbox; replace HB := qs HB hb; clear hb hbox hg) | ((with_reducible refine gate_dst (N := 4) rfl ?_); refine bE (N := 4) (cs := #[.int .i64 0, .int .i64 0, .slice none 0 0]) (t := 42) ?_; intro gb102 hg w84 hbox hb; have GW102 := qw HB hg; have GE102 := qw HB hg; have NB101_102 := ql BK101 hg; have NB102_101 := qg BK101 hg; replace HO0_2 := qv HO0_2 hg hb; replace BK101 := qb BK101 hb; have BK102 := aK hbox; replace HB := qs HB hb; clear hb hbox hg; have hnb85 := NB101_102.out; have hnc85 := NB102_101.out; obtain ⟨hcz86_0, hcz86_1, hcz86_2, hfz86_0, hfz86_1, hfz86_2⟩ := cA3 BK101) | ((with_reducible refine gate_callee (f := 45) rfl ?_); refine goesL_ (some 10) rfl rfl Try.func45 (by kernel_rfl) rfl #[.agg #[.int .i64 a0_0, .int .i64 a0_1, .slice A0_2 l0_2.length c0_2], .int .i64 a1] rfl tA ?_; (with_reducible refine (impl_comb_has.calls k a0_0 a0_1 _ _ l0_2 a1 false _ ?side1 ?side2 A3.out).mono ?_); (case side1 => exact sC ((Kd.V_reads' HO0_2.out).2.2)); (case side2 => exact (Kd.V_reads' HO0_2.out).2.1); rintro e w87 ⟨rfl, hb⟩; refine ⟨_, rfl, ?_⟩; have n0_ := aK (Kd.V_below HO0_2.out hb); replace BK101 := qb BK101 hb; replace BK102 := qb BK102 hb; clear HO0_2; have HO0_2 := n0_; clear n0_; replace HB := qs HB hb; (try clear hb)))
  have n0_ := aK (Kd.V_drew HO0_2.out)
  have n1_ := aK (blk_drew BK101.out)
  have n2_ := aK (blk_drew BK102.out)
  have n3_ := aK (below_drew1 HB.out)
  clear HO0_2
  clear BK101
  clear BK102
  clear HB
  have HO0_2 := n0_
  have BK101 := n1_
  have BK102 := n2_
  have HB := n3_
  clear n0_ n1_ n2_ n3_
  refine start_ (n := 4) (S := fun w' => w'.cell? ⟨gb101, 0, none⟩ = some (.int .i64 a0_0) ∧ w'.cell? ⟨gb101, 1, none⟩ = some (.int .i64 a0_1) ∧ w'.cell? ⟨gb101, 2, none⟩ = some (.slice A0_2 l0_2.length c0_2)) (ds := []) (bs 0 4) (by kernel_rfl) rfl rfl ⟨(blk_cell BK101.out 0).trans rfl, (blk_cell BK101.out 1).trans rfl, (blk_cell BK101.out 2).trans rfl⟩ (fun hHeld => ?_)
  generalize w87.drew = w88 at HO0_2 BK101 BK102 HB hHeld ⊢
  refine take_ (i := 1) (N := some 13) (v := ?_) (a' := ?_) #[false, true, false, false] rfl rfl (by kernel_rfl) (fun _ _ _ h => h) (Or.inl ⟨by rfl, ?_⟩) hHeld ?_ ?_
  rotate_left
  ·rintro w' ⟨s0, s1, s2⟩
   go_simp
   with_reducible rfl
  rotate_left
  ·simp only [sP, i64_w, i32_w]
   rfl
  refine one_ (i := 0) (N := some 12) (bs 2 2) rfl rfl (by kernel_rfl) (by decide) (fun K hK => ?_)
  refine goes_ Try.func46 (by kernel_rfl) rfl #[.int .i64 4] (by rfl) rfl rfl tA ?_
  with_reducible refine (impl_combOf.calls 4 t109 t110 t111 _ A81.out).mono ?_
  rintro e w89 ⟨v112, rfl, ho0, hb⟩
  refine ⟨_, rfl, ?_⟩
  have n0_ := aK (Kd.V_elder' HO0_2.out (by first | exact Kd.N_base ho0 | exact Kd.R_base ho0) hb)
  have n1_ := aK (Kd.N_lower (Kd.N_mono (ok' := fun k_ => (P0_2_ k_ ∨ w.heap.size ≤ k_) ∧ k_ ≠ gb101 ∧ k_ ≠ gb102) (Kd.R_N (Kd.R_bound ho0)) (fun k_ hk_ => ⟨(.inr (Nat.le_trans (below_size (pH HB)) hk_.2.1)), (Kd.freshB BK101.out k_ hk_.2.1), (Kd.freshB BK102.out k_ hk_.2.1)⟩)) (below_size (pH HB)))
  have n2_ := aK (blk_below BK101.out hb)
  have n3_ := aK (blk_below BK102.out hb)
  have n4_ := aK (below_step (pH HB) hb)
  clear HO0_2
  clear BK101
  clear BK102
  clear HB
  have HO0_2 := n0_
  have HO113 := n1_
  have BK101 := n2_
  have BK102 := n3_
  have HB := n4_
  clear n0_ n1_ n2_ n3_ n4_
  (try clear hb)
  (try clear hb2)
  (try clear hk)
  (try clear hi)
  (try clear ho0)
  obtain ⟨Ao90, co90, eo90⟩ := Kd.N_slice HO113.out
  (first | subst eo90 | (injection eo90 with f1_ f2_ f3_; have f4_ := f1_.symm; have f5_ := f3_.symm; clear f1_ f2_ f3_; subst f4_; subst f5_))
  refine hK.out _ _ ⟨(blk_cell BK101.out 0).trans rfl, (blk_cell BK101.out 1).trans rfl, (blk_cell BK101.out 2).trans rfl⟩ (fun hHeld => ?_)
  clear hK K
  refine norm_ (a' := ?_) ?_ ?_
  rotate_left
  ·show Act.put _ (some 12) _ = _
   simp only [sP, i64_w, i32_w]
   rfl
  refine one_ (i := 2) (N := some 14) (bs 3 1) rfl rfl (by kernel_rfl) (by decide) (fun K hK => ?_)
  refine goes_ Try.func24 (by kernel_rfl) rfl #[.agg #[.int .i64 t109, .int .i64 t110, .slice Ao90 t111.length co90], .agg #[.int .i64 a0_0, .int .i64 a0_1, .slice A0_2 l0_2.length c0_2]] (by rfl) rfl rfl tA ?_
  with_reducible refine (impl_combApp.calls t109 t110 (fun k_ => ((P0_2_ k_ ∨ w.heap.size ≤ k_) ∧ (k_ ≠ gb101 ∧ k_ ≠ gb102))) _ _ t111 a0_0 a0_1 (fun k_ => ((((P0_2_ k_ ∨ w.heap.size ≤ k_) ∧ k_ ≠ gb101) ∧ k_ ≠ gb102) ∧ some k_ ≠ (.slice Ao90 t111.length co90 : Value).ownBlock)) _ _ l0_2 t114 t115 t116 _ ?side1 ?side2 A82.out).mono ?_
  (case side1 => exact Kd.N_V (HO113.out))
  (case side2 => exact HO0_2.out)
  rintro e w91 ⟨v117, rfl, ho0, hb⟩
  refine ⟨_, rfl, ?_⟩
  have n0_ := aK (Kd.V_elder' HO0_2.out (by first | exact Kd.N_base ho0 | exact Kd.R_base ho0) hb)
  have n1_ := aK (Kd.N_elder' HO113.out (by first | exact Kd.N_base ho0 | exact Kd.R_base ho0) hb)
  have n2_ := aK (Kd.N_lower (Kd.N_mono (ok' := fun k_ => (P0_2_ k_ ∨ w.heap.size ≤ k_) ∧ k_ ≠ gb101 ∧ k_ ≠ gb102) ho0 (fun k_ hk_ => ⟨Or.elim hk_ (fun hs_ => Or.elim hs_ (fun hs_ => hs_.1) (fun hs_ => hs_.1.1.1)) (fun hn_ => (.inr (Nat.le_trans (below_size (pH HB)) hn_))), Or.elim hk_ (fun hs_ => Or.elim hs_ (fun hs_ => hs_.2.1) (fun hs_ => hs_.1.1.2)) (fun hn_ => (Kd.freshB BK101.out k_ hn_)), Or.elim hk_ (fun hs_ => Or.elim hs_ (fun hs_ => hs_.2.2) (fun hs_ => hs_.1.2)) (fun hn_ => (Kd.freshB BK102.out k_ hn_))⟩)) (below_size (pH HB)))
  have n3_ := aK (blk_below BK101.out hb)
  have n4_ := aK (blk_below BK102.out hb)
  have n5_ := aK (below_step (pH HB) hb)
  clear HO0_2
  clear HO113
  clear BK101
  clear BK102
  clear HB
  have HO0_2 := n0_
  have HO113 := n1_
  have HO118 := n2_
  have BK101 := n3_
  have BK102 := n4_
  have HB := n5_
  clear n0_ n1_ n2_ n3_ n4_ n5_
  (try clear hb)
  (try clear hb2)
  (try clear hk)
  (try clear hi)
  (try clear ho0)
  obtain ⟨Ao94, co94, eo94⟩ := Kd.N_slice HO118.out
  (first | subst eo94 | (injection eo94 with f1_ f2_ f3_; have f4_ := f1_.symm; have f5_ := f3_.symm; clear f1_ f2_ f3_; subst f4_; subst f5_))
  refine hK.out _ _ ⟨(blk_cell BK101.out 0).trans rfl, (blk_cell BK101.out 1).trans rfl, (blk_cell BK101.out 2).trans rfl⟩ (fun hHeld => ?_)
  clear hK K
  refine norm_ (a' := ?_) ?_ ?_
  rotate_left
  ·show Act.put _ (some 14) _ = _
   simp only [sP, i64_w, i32_w]
   rfl
  refine one_ (i := 3) (N := none) (bs 4 0) rfl rfl (by kernel_rfl) (by decide) (fun K hK => ?_)
  have hs92 : w91.cell? ⟨gb102, 0, none⟩ = some (.int .i64 0) := (blk_cell BK102.out 0).trans rfl
  have hfs92 := blk_frozen BK102.out 0
  have hns92_0 := NB101_102.out
  have hms92_0 := NB102_101.out
  have hs93 : w91.cell? ⟨gb102, 1, none⟩ = some (.int .i64 0) := (blk_cell BK102.out 1).trans rfl
  have hfs93 := blk_frozen BK102.out 1
  have hns93_0 := NB101_102.out
  have hms93_0 := NB102_101.out
  have hs95 : w91.cell? ⟨gb102, 2, none⟩ = some (.slice none 0 0) := (blk_cell BK102.out 2).trans rfl
  have hfs95 := blk_frozen BK102.out 2
  have hns95_0 := NB101_102.out
  have hms95_0 := NB102_101.out
  refine skip_ (w1 := ?_) (by rfl) rfl ?_ ?_
  rotate_left
  ·go_simp
   rfl
  refine hK.out _ _ ⟨(cF3 NB101_102.out (hHeld.1)), (cF3 NB101_102.out (hHeld.2.1)), (cF3 NB101_102.out (hHeld.2.2))⟩ (fun hHeld => ?_)
  clear hK K
  refine done_ (by kernel_rfl) ?_
  try go_wp2
  refine bodyPost_ret (results_cell_row rfl _ _ gb102 42 #[.int .i64 t114, .int .i64 t115, .slice Ao94 t116.length co94] (0, 0) _ rfl (p3 BK102) Try.underlying42 rfl (by kernel_rfl)) rfl ?_
  exact ⟨_, eW, Kd.N_V (by (with_reducible repeat (first | apply Kd.N_alloc | apply Kd.N_drewN | apply Kd.N_drew)); exact Kd.N_mono (nF3 gb102 (Kd.N_mono HO118.out (fun k_ hk => (⟨hk, hk.2.2⟩ : _ ∧ k_ ≠ gb102))) (fun _ hk => hk.2)) (fun _ hk => hk.1.1)), pH HB⟩


mutual
def impl_comb_measure.j0 : Nat → Int → Int → Bool → Int → Int → List (S42) → Option (Int × Int × Bool)
 | 0, _, _, _, _, _, _ => none
 | k + 1, x5, x6, x7, x102000, x102001, x102002 => impl_comb_measure.l0 k x5 x6 x7 x102002 (x102002.length : Int) 0
def impl_comb_measure.l0 : Nat → Int → Int → Bool → List (S42) → Int → Int → Option (Int × Int × Bool)
 | 0, _, _, _, _, _, _ => none
 | k + 1, x5, x6, x7, x32, x33, x34 => if x34 < x33 then (if 0 ≤ x34 then (if x34 < (x32.length : Int) then ((impl_comb_measure.f k ((rd_T42 x32 x34).f0) ((rd_T42 x32 x34).f1) ((rd_T42 x32 x34).f2)).bind fun bt104 => (if x7 = true then (impl_comb_measure.l0 k (wrap64 (x5 + bt104.1)) (mx x6 bt104.2.1) bt104.2.2 x32 x33 (wrap64 (x34 + 1))) else (impl_comb_measure.l0 k (wrap64 (x5 + bt104.1)) (mx x6 bt104.2.1) false x32 x33 (wrap64 (x34 + 1))))) else (none)) else (none)) else (some (x5, wrap64 (x6 + 1), x7))
def impl_comb_measure.f : Nat → Int → Int → List (S42) → Option (Int × Int × Bool)
 | 0, _, _, _ => none
 | k + 1, a0_0, a0_1, l0_2 => if a0_1 ≥ 0 then (if a0_1 ≤ 999 then (if a0_0 = 1 then (impl_comb_measure.j0 k 1 0 true a0_0 a0_1 l0_2) else (impl_comb_measure.j0 k 1 0 (a0_1 == 0) a0_0 a0_1 l0_2)) else (impl_comb_measure.j0 k 1 0 false a0_0 a0_1 l0_2)) else (impl_comb_measure.j0 k 1 0 false a0_0 a0_1 l0_2)
end
set_option maxHeartbeats 8000000 in
set_option maxRecDepth 100000 in
theorem impl_comb_measure.calls (k : Nat) : ∀ (a0_0 : Int) (a0_1 : Int) (A0_2 : Option Addr) (c0_2 : Nat) (l0_2 : List (S42)) (r1 : Int) (r2 : Int) (r3 : Bool) (w : World) (hr0_2 : Kd.C k42 w A0_2 l0_2.length l0_2) (hc0_2 : l0_2.length ≤ c0_2) (h : impl_comb_measure.f k a0_0 a0_1 l0_2 = some (r1, r2, r3)),
  Calls Try.prog 47 #[.agg #[.int .i64 a0_0, .int .i64 a0_1, .slice A0_2 l0_2.length c0_2]] w fun e w' => e = .returned (.tuple #[.int .i64 r1, .int .i64 r2, .bool r3]) ∧ Below w.heap.size w w' := by
 induction k using Nat.strongRecOn with
 | _ k ih =>
 intro a0_0 a0_1 A0_2 c0_2 l0_2 r1 r2 r3 w hr0_2 hc0_2 h
 cases k with
 | zero => exact absurd h (by simp [impl_comb_measure.f])
 | succ k =>
 simp only [impl_comb_measure.f] at h
 have hu42 := Try.underlying42
 have HR0_2 := aK hr0_2
 have HC0_2 := aK hc0_2
 clear hr0_2 hc0_2
 have HB := aK (Below.refl w.heap.size w)
 have H : (if a0_1 ≥ 0 then (if a0_1 ≤ 999 then (if a0_0 = 1 then (impl_comb_measure.j0 k 1 0 true a0_0 a0_1 l0_2) else (impl_comb_measure.j0 k 1 0 (a0_1 == 0) a0_0 a0_1 l0_2)) else (impl_comb_measure.j0 k 1 0 false a0_0 a0_1 l0_2)) else (impl_comb_measure.j0 k 1 0 false a0_0 a0_1 l0_2)) = some (r1, r2, r3) := h
 clear h
 have HC2 := aK H
 clear H
 go_enter Try.func47, Try.ntmps47
 go_upto_region 2 with (first | ((with_reducible refine gate_dst (N := 1) rfl ?_); refine bE (N := 1) (cs := #[.int .i64 a0_0, .int .i64 a0_1, .slice A0_2 l0_2.length c0_2]) (t := 42) ?_; intro gb101 hg w3 hbox hb; have GW101 := qw HB hg; have GE101 := qw HB hg; have BK101 := aK hbox; replace HB := qs HB hb; clear hb hbox hg))
 (try simp only [Act.put, List.setIfInBounds_toArray, List.set_cons_zero, List.set_cons_succ])
 go_cut [7] (fun v7 wc => ∃ (kq : Nat) (x7_1 : Bool), v7 = .bool x7_1 ∧ Aside0 (impl_comb_measure.j0 kq 1 0 x7_1 a0_0 a0_1 l0_2 = some (r1, r2, r3)) ∧ Aside0 (kq ≤ k) ∧ Aside0 (wc.heap[gb101]? = some (.cells #[.int .i64 a0_0, .int .i64 a0_1, (.slice A0_2 l0_2.length c0_2)] 42 (0, 0))) ∧ Aside0 (Below w.heap.size w wc))
 case first =>
  have H := HC2.out
  clear HC2
  by_cases c4 : a0_1 ≥ 0
  ·rw [if_pos c4] at H
   have c4b0 : decide (0 ≤ a0_1) = true := decide_eq_true c4
   clear c4
   (first | rw [c4b0] | (simp only [i64_w, i32_w]; rw [c4b0]) | skip)
   by_cases c5 : a0_1 ≤ 999
   ·rw [if_pos c5] at H
    have c5b0 : decide (a0_1 ≤ 999) = true := decide_eq_true c5
    clear c5
    by_cases c6 : a0_0 = 1
    ·rw [if_pos c6] at H
     have c6b0 : (a0_0 == 1) = true := beq_iff_eq.mpr c6
     have c6b1 : (a0_0 != 1) = false := bne_eq_false_iff_eq.mpr c6
     clear c6
     have H' := aK H
     clear H
     obtain ⟨hcz7_0, hcz7_1, hcz7_2, hfz7_0, hfz7_1, hfz7_2⟩ := cA3 BK101
     go_wp2
     go_meet
     case rel => exact ⟨_, (true), rS, H', ⟨by first | omega | exact Nat.le_refl _⟩, ⟨pB BK101⟩, ⟨pH HB⟩⟩
    ·rw [if_neg c6] at H
     have c6b0 : (a0_0 == 1) = false := beq_eq_false_iff_ne.mpr c6
     have c6b1 : (a0_0 != 1) = true := bne_iff_ne.mpr c6
     have H' := aK H
     clear H
     obtain ⟨hcz8_0, hcz8_1, hcz8_2, hfz8_0, hfz8_1, hfz8_2⟩ := cA3 BK101
     go_wp2
     go_meet
     case rel => exact ⟨_, ((a0_1 == 0)), rS, H', ⟨by first | omega | exact Nat.le_refl _⟩, ⟨pB BK101⟩, ⟨pH HB⟩⟩
   ·rw [if_neg c5] at H
    have c5b0 : decide (a0_1 ≤ 999) = false := decide_eq_false c5
    clear c5
    have H' := aK H
    clear H
    obtain ⟨hcz9_0, hcz9_1, hcz9_2, hfz9_0, hfz9_1, hfz9_2⟩ := cA3 BK101
    go_wp2
    go_meet
    case rel => exact ⟨_, (false), rS, H', ⟨by first | omega | exact Nat.le_refl _⟩, ⟨pB BK101⟩, ⟨pH HB⟩⟩
  ·rw [if_neg c4] at H
   have c4b0 : decide (0 ≤ a0_1) = false := decide_eq_false c4
   clear c4
   (first | rw [c4b0] | (simp only [i64_w, i32_w]; rw [c4b0]) | skip)
   have H' := aK H
   clear H
   obtain ⟨hcz10_0, hcz10_1, hcz10_2, hfz10_0, hfz10_1, hfz10_2⟩ := cA3 BK101
   go_wp2
   go_meet
   case rel => exact ⟨_, (false), rS, H', ⟨by first | omega | exact Nat.le_refl _⟩, ⟨pB BK101⟩, ⟨pH HB⟩⟩
 case rest =>
  clear HC2
  try clear p2; try clear c4; try clear c4b0; try clear c5; try clear c5b0; try clear c6; try clear c6b0; try clear c6b1; try clear hcz10_0 hcz10_1 hcz10_2 hfz10_0 hfz10_1 hfz10_2; try clear hcz7_0 hcz7_1 hcz7_2 hfz7_0 hfz7_1 hfz7_2; try clear hcz8_0 hcz8_1 hcz8_2 hfz8_0 hfz8_1 hfz8_2; try clear hcz9_0 hcz9_1 hcz9_2 hfz9_0 hfz9_1 hfz9_2
  obtain ⟨kq, x7_1, rfl, HA, HJ1, BK101, HB⟩ := hcut
  cases kq with
  | zero => exact absurd HA.out (by simp [impl_comb_measure.j0])
  | succ kj1 =>
   have H := HA.out
   clear HA
   simp only [impl_comb_measure.j0] at H
   have H' := aK H
   clear H
   obtain ⟨hcz11_0, hcz11_1, hcz11_2, hfz11_0, hfz11_1, hfz11_2⟩ := cA3 BK101
   go_wp2
   go_loopg [5, 6, 7, 34] kj1 (fun kq v5 v6 v7 v34 w' => ∃ (x5_2 : Int) (x6_2 : Int) (x7_2 : Bool) (x34_2 : Int), v5 = .int .i64 x5_2 ∧ v6 = .int .i64 x6_2 ∧ v7 = .bool x7_2 ∧ v34 = .int .i64 x34_2 ∧ Aside0 (impl_comb_measure.l0 kq x5_2 x6_2 x7_2 l0_2 (l0_2.length : Int) x34_2 = some (r1, r2, r3)) ∧ Aside0 (kq ≤ kj1) ∧ Aside0 (w'.heap[gb101]? = some (.cells #[.int .i64 a0_0, .int .i64 a0_1, (.slice A0_2 l0_2.length c0_2)] 42 (0, 0))) ∧ Aside0 (Below w.heap.size w w'))
   case atStart => exact ⟨(1), (0), (x7_1), (0), rS, rS, rS, rS, H', ⟨Nat.le_refl _⟩, ⟨pB BK101⟩, ⟨pH HB⟩⟩
   case round =>
    clear H'
    try clear p2; try clear c4; try clear c4b0; try clear c5; try clear c5b0; try clear c6; try clear c6b0; try clear c6b1; try clear p2; try clear hcz10_0 hcz10_1 hcz10_2 hfz10_0 hfz10_1 hfz10_2; try clear hcz11_0 hcz11_1 hcz11_2 hfz11_0 hfz11_1 hfz11_2; try clear hcz7_0 hcz7_1 hcz7_2 hfz7_0 hfz7_1 hfz7_2; try clear hcz8_0 hcz8_1 hcz8_2 hfz8_0 hfz8_1 hfz8_2; try clear hcz9_0 hcz9_1 hcz9_2 hfz9_0 hfz9_1 hfz9_2
    obtain ⟨x5_2, x6_2, x7_2, x34_2, rfl, rfl, rfl, rfl, HA, HK2, BK101, HB⟩ := hrel
    cases gk with
    | zero => exact absurd HA.out (by simp [impl_comb_measure.l0])
    | succ k2 =>
     have H := HA.out
     clear HA
     simp only [impl_comb_measure.l0] at H
     by_cases c12 : x34_2 < (l0_2.length : Int)
     ·rw [if_pos c12] at H
      have c12b0 : decide (x34_2 < (l0_2.length : Int)) = true := decide_eq_true c12
      clear c12
      by_cases c13 : 0 ≤ x34_2
      ·rw [if_pos c13] at H
       have c13b0 : decide (0 ≤ x34_2) = true := decide_eq_true c13
       clear c13
       by_cases c14 : x34_2 < (l0_2.length : Int)
       ·rw [if_pos c14] at H
        have c14b0 : decide (x34_2 < (l0_2.length : Int)) = true := decide_eq_true c14
        clear c14
        replace H := Option.bind_eq_some_iff.mp H
        obtain ⟨⟨t104, t105, t106⟩, A150, H⟩ := H
        try dsimp only at H
        have A15 := aK A150
        clear A150
        obtain ⟨ji16, hji16⟩ : ∃ j_ : Int, (mx x6_2 t105) = j_ := ⟨_, rfl⟩
        replace H : (if x7_2 = true then (impl_comb_measure.l0 k2 (wrap64 (x5_2 + t104)) ji16 t106 l0_2 (l0_2.length : Int) (wrap64 (x34_2 + 1))) else (impl_comb_measure.l0 k2 (wrap64 (x5_2 + t104)) ji16 false l0_2 (l0_2.length : Int) (wrap64 (x34_2 + 1)))) = some (r1, r2, r3) := by first | (rw [hji16] at H; exact H) | (simp only [hji16] at H ⊢; exact H)
        (try rw [hji16] at A15)
        have hji16_ : (if x6_2 < t105 then t105 else x6_2) = ji16 := hji16
        by_cases c17 : x7_2 = true
        ·subst c17
         rw [if_pos rfl] at H
         have H' := aK H
         clear H
         have p102 : 0 ≤ (x34_2 : Int) := dA
         have q102 : x34_2 < (l0_2.length : Int) := dA
         obtain ⟨ad102, A102_2, c102_2, e102, hx102_0, hx102_1, hx102_2, hl102_2, hi102_2⟩ := at_T42 HR0_2.out x34_2 p102 q102
         cases e102
         replace hx102_0 := uC HB hx102_0
         replace hx102_1 := uC HB hx102_1
         replace hx102_2 := uC HB hx102_2
         have HR102_2 := aK hi102_2
         have HC102_2 := aK hl102_2
         clear hi102_2 hl102_2
         replace p102 := eq_true p102
         replace q102 := eq_true q102
         go_wp2_with (first | ((with_reducible refine gate_dst (N := 9) rfl ?_); refine bE (N := 9) (cs := #[.int .i64 0, .int .i64 0, .slice none 0 0]) (t := 42) ?_; intro gb103 hg w18 hbox hb; have GW103 := qw HB hg; have GE103 := qw HB hg; have NB101_103 := ql BK101 hg; have NB103_101 := qg BK101 hg; replace BK101 := qb BK101 hb; have BK103 := aK hbox; replace HB := qs HB hb; clear hb hbox hg; have hnb19 := NB103_101.out; have hnc19 := NB101_103.out; obtain ⟨hcz20_0, hcz20_1, hcz20_2, hfz20_0, hfz20_1, hfz20_2⟩ := cA3 BK103) | ((with_reducible refine gate_callee (f := 47) rfl ?_); refine goesL_ (some 40) rfl rfl Try.func47 (by kernel_rfl) rfl #[.agg #[.int .i64 ((rd_T42 l0_2 x34_2).f0), .int .i64 ((rd_T42 l0_2 x34_2).f1), .slice A102_2 ((rd_T42 l0_2 x34_2).f2).length c102_2]] rfl tA ?_; (with_reducible refine (ih k2 (by have := HJ1.out; have := HK2.out; omega) ((rd_T42 l0_2 x34_2).f0) ((rd_T42 l0_2 x34_2).f1) _ _ ((rd_T42 l0_2 x34_2).f2) t104 t105 t106 _ ?side1 ?side2 A15.out).mono ?_); (case side1 => exact Kd.C_below HR102_2.out (pH HB)); (case side2 => exact HC102_2.out); rintro e w21 ⟨rfl, hb⟩; refine ⟨_, rfl, ?_⟩; have n0_ := aK (blk_below (g := gb101) (o := .cells #[.int .i64 a0_0, .int .i64 a0_1, .slice (some ad102) l0_2.length c0_2] 42 (0, 0)) (by (repeat first | with_reducible apply zN | with_reducible apply zD | with_reducible apply zA | refine blk_far ?_ NB101_103.out _); exact BK101.out) hb); have n1_ := aK (blk_below (g := gb103) (o := .cells #[.int .i64 ((rd_T42 l0_2 x34_2).f0), .int .i64 ((rd_T42 l0_2 x34_2).f1), .slice A102_2 ((rd_T42 l0_2 x34_2).f2).length c102_2] 42 (0, 0)) (p3 BK103) hb); have n2_ := aK (below_step (pH HB) hb); clear BK101; clear BK103; clear HB; have BK101 := n0_; have BK103 := n1_; have HB := n2_; clear n0_ n1_ n2_; (try clear hb)))
         go_roundg k2
         case measure => have := HJ1.out; have := HK2.out; omega
         case rel => exact ⟨(wrap64 (x5_2 + t104)), (ji16), (t106), (wrap64 (x34_2 + 1)), rS, (by first | rfl | (simp; done) | (simp only [← hji16] <;> (first | rfl | simp)) | (simp [*]; done)), rS, rS, H', ⟨by have := HJ1.out; have := HK2.out; omega⟩, ⟨pB BK101⟩, ⟨pH HB⟩⟩
        ·replace c17 := Bool.eq_false_iff.mpr c17
         subst c17
         rw [if_neg (show ¬ (false = true) by decide)] at H
         have H' := aK H
         clear H
         have p102 : 0 ≤ (x34_2 : Int) := dA
         have q102 : x34_2 < (l0_2.length : Int) := dA
         obtain ⟨ad102, A102_2, c102_2, e102, hx102_0, hx102_1, hx102_2, hl102_2, hi102_2⟩ := at_T42 HR0_2.out x34_2 p102 q102
         cases e102
         replace hx102_0 := uC HB hx102_0
         replace hx102_1 := uC HB hx102_1
         replace hx102_2 := uC HB hx102_2
         have HR102_2 := aK hi102_2
         have HC102_2 := aK hl102_2
         clear hi102_2 hl102_2
         replace p102 := eq_true p102
         replace q102 := eq_true q102
         go_wp2_with (first | ((with_reducible refine gate_dst (N := 9) rfl ?_); refine bE (N := 9) (cs := #[.int .i64 0, .int .i64 0, .slice none 0 0]) (t := 42) ?_; intro gb103 hg w22 hbox hb; have GW103 := qw HB hg; have GE103 := qw HB hg; have NB101_103 := ql BK101 hg; have NB103_101 := qg BK101 hg; replace BK101 := qb BK101 hb; have BK103 := aK hbox; replace HB := qs HB hb; clear hb hbox hg; have hnb23 := NB103_101.out; have hnc23 := NB101_103.out; obtain ⟨hcz24_0, hcz24_1, hcz24_2, hfz24_0, hfz24_1, hfz24_2⟩ := cA3 BK103) | ((with_reducible refine gate_callee (f := 47) rfl ?_); refine goesL_ (some 40) rfl rfl Try.func47 (by kernel_rfl) rfl #[.agg #[.int .i64 ((rd_T42 l0_2 x34_2).f0), .int .i64 ((rd_T42 l0_2 x34_2).f1), .slice A102_2 ((rd_T42 l0_2 x34_2).f2).length c102_2]] rfl tA ?_; (with_reducible refine (ih k2 (by have := HJ1.out; have := HK2.out; omega) ((rd_T42 l0_2 x34_2).f0) ((rd_T42 l0_2 x34_2).f1) _ _ ((rd_T42 l0_2 x34_2).f2) t104 t105 t106 _ ?side1 ?side2 A15.out).mono ?_); (case side1 => exact Kd.C_below HR102_2.out (pH HB)); (case side2 => exact HC102_2.out); rintro e w25 ⟨rfl, hb⟩; refine ⟨_, rfl, ?_⟩; have n0_ := aK (blk_below (g := gb101) (o := .cells #[.int .i64 a0_0, .int .i64 a0_1, .slice (some ad102) l0_2.length c0_2] 42 (0, 0)) (by (repeat first | with_reducible apply zN | with_reducible apply zD | with_reducible apply zA | refine blk_far ?_ NB101_103.out _); exact BK101.out) hb); have n1_ := aK (blk_below (g := gb103) (o := .cells #[.int .i64 ((rd_T42 l0_2 x34_2).f0), .int .i64 ((rd_T42 l0_2 x34_2).f1), .slice A102_2 ((rd_T42 l0_2 x34_2).f2).length c102_2] 42 (0, 0)) (p3 BK103) hb); have n2_ := aK (below_step (pH HB) hb); clear BK101; clear BK103; clear HB; have BK101 := n0_; have BK103 := n1_; have HB := n2_; clear n0_ n1_ n2_; (try clear hb)))
         go_roundg k2
         case measure => have := HJ1.out; have := HK2.out; omega
         case rel => exact ⟨(wrap64 (x5_2 + t104)), (ji16), (false), (wrap64 (x34_2 + 1)), rS, (by first | rfl | (simp; done) | (simp only [← hji16] <;> (first | rfl | simp)) | (simp [*]; done)), rS, rS, H', ⟨by have := HJ1.out; have := HK2.out; omega⟩, ⟨pB BK101⟩, ⟨pH HB⟩⟩
       ·rw [if_neg c14] at H
        exact absurd H (by simp)
      ·rw [if_neg c13] at H
       exact absurd H (by simp)
     ·rw [if_neg c12] at H
      have c12b0 : decide (x34_2 < (l0_2.length : Int)) = false := decide_eq_false c12
      clear c12
      simp only [Option.some.injEq, Prod.mk.injEq] at H
      obtain ⟨rfl, rfl, rfl⟩ := H
      go_wp2
      go_ret3
      exact ⟨eW, pH HB⟩


def impl_comb_isGood.f (k : Nat) (a0_0 : Int) (a0_1 : Int) (l0_2 : List (S42)) : Option (Bool) := (impl_comb_measure.f k a0_0 a0_1 l0_2).bind fun bt102 => (if bt102.2.2 = true then (if bt102.1 ≤ 200 then (some (decide (bt102.2.1 ≤ 60))) else (some false)) else (some false))
set_option maxHeartbeats 8000000 in
set_option maxRecDepth 100000 in
theorem impl_comb_isGood.calls (k : Nat) (a0_0 : Int) (a0_1 : Int) (A0_2 : Option Addr) (c0_2 : Nat) (l0_2 : List (S42)) (r : Bool) (w : World) (hr0_2 : Kd.C k42 w A0_2 l0_2.length l0_2) (hc0_2 : l0_2.length ≤ c0_2) (h : impl_comb_isGood.f k a0_0 a0_1 l0_2 = some r) :
  Calls Try.prog 23 #[.agg #[.int .i64 a0_0, .int .i64 a0_1, .slice A0_2 l0_2.length c0_2]] w fun e w' => e = .returned (.bool r) ∧ Below w.heap.size w w' := by
 have hu42 := Try.underlying42
 have HR0_2 := aK hr0_2
 have HC0_2 := aK hc0_2
 clear hr0_2 hc0_2
 have HB := aK (Below.refl w.heap.size w)
 have H : ((impl_comb_measure.f k a0_0 a0_1 l0_2).bind fun bt102 => (if bt102.2.2 = true then (if bt102.1 ≤ 200 then (some (decide (bt102.2.1 ≤ 60))) else (some false)) else (some false))) = some r := h
 clear h
 replace H := Option.bind_eq_some_iff.mp H
 obtain ⟨⟨t102, t103, t104⟩, A20, H⟩ := H
 try dsimp only at H
 have A2 := aK A20
 clear A20
 by_cases c3 : t104 = true
 ·subst c3
  rw [if_pos rfl] at H
  by_cases c4 : t102 ≤ 200
  ·rw [if_pos c4] at H
   have c4b0 : decide (t102 ≤ 200) = true := decide_eq_true c4
   clear c4
   obtain rfl := Option.some.inj H
   go_enter Try.func23, Try.ntmps23
   go_wp2_with (first | ((with_reducible refine gate_dst (N := 1) rfl ?_); refine bE (N := 1) (cs := #[.int .i64 a0_0, .int .i64 a0_1, .slice A0_2 l0_2.length c0_2]) (t := 42) ?_; intro gb101 hg w5 hbox hb; have GW101 := qw HB hg; have GE101 := qw HB hg; have BK101 := aK hbox; replace HB := qs HB hb; clear hb hbox hg; obtain ⟨hcz6_0, hcz6_1, hcz6_2, hfz6_0, hfz6_1, hfz6_2⟩ := cA3 BK101) | ((with_reducible refine gate_callee (f := 47) rfl ?_); refine goesL_ (some 8) rfl rfl Try.func47 (by kernel_rfl) rfl #[.agg #[.int .i64 a0_0, .int .i64 a0_1, .slice A0_2 l0_2.length c0_2]] rfl tA ?_; (with_reducible refine (impl_comb_measure.calls k a0_0 a0_1 _ _ l0_2 t102 t103 true _ ?side1 ?side2 A2.out).mono ?_); (case side1 => exact sC (Kd.C_below HR0_2.out HB.out)); (case side2 => exact HC0_2.out); rintro e w7 ⟨rfl, hb⟩; refine ⟨_, rfl, ?_⟩; replace BK101 := qb BK101 hb; replace HB := qs HB hb; (try clear hb)))
   go_ret
   exact ⟨eW, pH HB⟩
  ·rw [if_neg c4] at H
   have c4b0 : decide (t102 ≤ 200) = false := decide_eq_false c4
   clear c4
   obtain rfl := Option.some.inj H
   go_enter Try.func23, Try.ntmps23
   go_wp2_with (first | ((with_reducible refine gate_dst (N := 1) rfl ?_); refine bE (N := 1) (cs := #[.int .i64 a0_0, .int .i64 a0_1, .slice A0_2 l0_2.length c0_2]) (t := 42) ?_; intro gb101 hg w8 hbox hb; have GW101 := qw HB hg; have GE101 := qw HB hg; have BK101 := aK hbox; replace HB := qs HB hb; clear hb hbox hg; obtain ⟨hcz9_0, hcz9_1, hcz9_2, hfz9_0, hfz9_1, hfz9_2⟩ := cA3 BK101) | ((with_reducible refine gate_callee (f := 47) rfl ?_); refine goesL_ (some 8) rfl rfl Try.func47 (by kernel_rfl) rfl #[.agg #[.int .i64 a0_0, .int .i64 a0_1, .slice A0_2 l0_2.length c0_2]] rfl tA ?_; (with_reducible refine (impl_comb_measure.calls k a0_0 a0_1 _ _ l0_2 t102 t103 true _ ?side1 ?side2 A2.out).mono ?_); (case side1 => exact sC (Kd.C_below HR0_2.out HB.out)); (case side2 => exact HC0_2.out); rintro e w10 ⟨rfl, hb⟩; refine ⟨_, rfl, ?_⟩; replace BK101 := qb BK101 hb; replace HB := qs HB hb; (try clear hb)))
   go_ret
   exact ⟨eW, pH HB⟩
 ·replace c3 := Bool.eq_false_iff.mpr c3
  subst c3
  rw [if_neg (show ¬ (false = true) by decide)] at H
  obtain rfl := Option.some.inj H
  go_enter Try.func23, Try.ntmps23
  go_wp2_with (first | ((with_reducible refine gate_dst (N := 1) rfl ?_); refine bE (N := 1) (cs := #[.int .i64 a0_0, .int .i64 a0_1, .slice A0_2 l0_2.length c0_2]) (t := 42) ?_; intro gb101 hg w11 hbox hb; have GW101 := qw HB hg; have GE101 := qw HB hg; have BK101 := aK hbox; replace HB := qs HB hb; clear hb hbox hg; obtain ⟨hcz12_0, hcz12_1, hcz12_2, hfz12_0, hfz12_1, hfz12_2⟩ := cA3 BK101) | ((with_reducible refine gate_callee (f := 47) rfl ?_); refine goesL_ (some 8) rfl rfl Try.func47 (by kernel_rfl) rfl #[.agg #[.int .i64 a0_0, .int .i64 a0_1, .slice A0_2 l0_2.length c0_2]] rfl tA ?_; (with_reducible refine (impl_comb_measure.calls k a0_0 a0_1 _ _ l0_2 t102 t103 false _ ?side1 ?side2 A2.out).mono ?_); (case side1 => exact sC (Kd.C_below HR0_2.out HB.out)); (case side2 => exact HC0_2.out); rintro e w13 ⟨rfl, hb⟩; refine ⟨_, rfl, ?_⟩; replace BK101 := qb BK101 hb; replace HB := qs HB hb; (try clear hb)))
  go_ret
  exact ⟨eW, pH HB⟩

end Go.Proofs.Ytmcmclcebnepgaa.G
