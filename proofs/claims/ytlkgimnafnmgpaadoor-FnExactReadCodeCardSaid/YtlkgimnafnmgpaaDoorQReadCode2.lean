/- Part 2 of 2 of the proof that the law FnExactReadCodeCardSaid holds: for every input that can be read the call returns true and leaves its arguments as they were; no condition but those each theorem names. -/
import Derived.Lib.ItoaNum
import Derived.Lib.AtoiAll
import Derived.Lib.IndexMore
import Derived.Lib.CutLaws
import Derived.Lib.Split
import Derived.Test.YtlkgimnafnmgpaaDoorRows
import Derived.Test.YtlkgimnafnmgpaaDoorCards
import Derived.Test.YtlkgimnafnmgpaaDoorTie
import Derived.WalkKit
import Derived.ProofKit
import Derived.OpenShut
import Derived.ShutString
import Derived.ChangeOld
import Derived.Below
import Derived.SizedLaws
import Derived.LaidMore
import Derived.Lib.LaidTab
import Derived.Stop.LaidErr
import Derived.MakeChecks
import Derived.HandedShaped
import Derived.LaidLaws
import Derived.Lay
import Derived.SevenTiedAt
import Derived.Stop.Joined
import Derived.Test.YtlkgimnafnmgpaaDoorQReadCodeW1
import Derived.Test.YtlkgimnafnmgpaaDoorQReadCode1
namespace Go.Proofs.YtlkgimnafnmgpaaDoor.G
open Go.RowKit Go.Proofs.YtlkgimnafnmgpaaDoorW.PrintWords Go.Proofs.YtlkgimnafnmgpaaDoorW.PrintLast Go.Proofs.YtlkgimnafnmgpaaDoorW.PrintMore
attribute [local go_sem] max2_int min2_int max_two min_two max_three min_three max_four min_four   -- for this text's walks alone
set_option linter.unusedVariables false
set_option linter.unusedSimpArgs false

def laws_heldInstrS.l0 : Nat → List (S37) → Int → Int → Option (Int)
  | 0, _, _, _ => none
  | k + 1, x0, x1, x5 => if x5 < (x0.length : Int) then (if 0 ≤ x5 then (if ((rd_T37 x0 x5).f0) = x1 then (if ((rd_T37 x0 x5).f1) = (wrap64 (x1 + 1)) then ((laws_markText.f k (wrap64 ((wrap64 (x1 + 1)) + 1))).bind fun t104 => (if ((rd_T37 x0 x5).f2).toList = t104.toList then (laws_heldInstrS.l0 k x0 (wrap64 ((wrap64 ((wrap64 (x1 + 1)) + 1)) + 1)) (wrap64 (x5 + 1))) else (some (-1)))) else (some (-1))) else (some (-1))) else (none)) else (some x1)
def laws_heldInstrS.f (k : Nat) (l0 : List (S37)) (a1 : Int) : Option (Int) := laws_heldInstrS.l0 k l0 a1 0
def laws_heldInstrS.T10 : Bool × List (List Nat × List Nat) := (true, [([], []), ([], []), ([0, 1], [0, 1]), ([2], [2]), ([3], [3]), ([], []), ([5], [5]), ([4, 6], [4, 6])])
def laws_heldInstrS.B10 : List Nat := [0, 0, 3, 7, 15, 0, 32, 127]
theorem laws_heldInstrS.tab10 : rtab .any (opsOf Tryd.f13 10) = laws_heldInstrS.T10 := by kernel_rfl
theorem laws_heldInstrS.bits10 : waitsOk laws_heldInstrS.T10.2 laws_heldInstrS.B10 = true := by kernel_rfl
set_option maxHeartbeats 8000000 in
set_option maxRecDepth 100000 in
theorem laws_heldInstrS.calls (k : Nat) (A0 : Option Addr) (c0 : Nat) (l0 : List (S37)) (a1 : Int) (r : Int) (w : World) (hr0 : Kd.C k37 w A0 l0.length l0) (hc0 : l0.length ≤ c0) (h : laws_heldInstrS.f k l0 a1 = some r) :
    Calls Tryd.prog 13 #[.slice A0 l0.length c0, .int .i64 a1] w fun e w' => e = .returned (.int .i64 r) ∧ Below w.heap.size w w' := by
  have HR0 := Aside0.mk hr0
  have HC0 := Aside0.mk hc0
  clear hr0 hc0
  have HB := Aside0.mk (Below.refl w.heap.size w)
  have H : (laws_heldInstrS.l0 k l0 a1 0) = some r := h
  clear h
  have H' := Aside0.mk H
  clear H
  go_enter Tryd.func13, Tryd.ntmps13
  go_wp2
  go_loopg [1, 5] k (fun kq v1 v5 w' => ∃ (x1_1 : Int) (x5_1 : Int), v1 = .int .i64 x1_1 ∧ v5 = .int .i64 x5_1 ∧ Aside0 (laws_heldInstrS.l0 kq l0 x1_1 x5_1 = some r) ∧ Aside0 (kq ≤ k) ∧ Aside0 (Below w.heap.size w w'))
  case atStart => exact ⟨(a1), (0), (by first | rfl | (simp; done) | (simp [*]; done)), (by first | rfl | (simp; done) | (simp [*]; done)), H', ⟨Nat.le_refl _⟩, ⟨by repeat (first | (with_reducible first | exact HB.out | apply below_alloc | apply pw_below_drewN | apply below_drew1) | exact HB.out)⟩⟩
  case round =>
    clear H'
    try clear c1
    try clear p2
    obtain ⟨x1_1, x5_1, rfl, rfl, HA, HK1, HB⟩ := hrel
    cases gk with
    | zero => exact absurd HA.out (by simp [laws_heldInstrS.l0])
    | succ k1 =>
      have H := HA.out
      clear HA
      simp only [laws_heldInstrS.l0] at H
      by_cases c3 : x5_1 < (l0.length : Int)
      · rw [if_pos c3] at H
        have c3b0 : decide (x5_1 < (l0.length : Int)) = true := decide_eq_true c3
        clear c3
        by_cases c4 : 0 ≤ x5_1
        · rw [if_pos c4] at H
          have c4b0 : decide (0 ≤ x5_1) = true := decide_eq_true c4
          clear c4
          by_cases c5 : ((rd_T37 l0 x5_1).f0) = x1_1
          · rw [if_pos c5] at H
            have c5b0 : (((rd_T37 l0 x5_1).f0) == x1_1) = true := beq_iff_eq.mpr c5
            have c5b1 : (((rd_T37 l0 x5_1).f0) != x1_1) = false := bne_eq_false_iff_eq.mpr c5
            clear c5
            by_cases c6 : ((rd_T37 l0 x5_1).f1) = (wrap64 (x1_1 + 1))
            · rw [if_pos c6] at H
              have c6b0 : (((rd_T37 l0 x5_1).f1) == (wrap64 (x1_1 + 1))) = true := beq_iff_eq.mpr c6
              have c6b1 : (((rd_T37 l0 x5_1).f1) != (wrap64 (x1_1 + 1))) = false := bne_eq_false_iff_eq.mpr c6
              clear c6
              replace H := Option.bind_eq_some_iff.mp H
              obtain ⟨t104, A70, H⟩ := H
              replace H : (if ((rd_T37 l0 x5_1).f2).toList = t104.toList then (laws_heldInstrS.l0 k1 l0 (wrap64 ((wrap64 ((wrap64 (x1_1 + 1)) + 1)) + 1)) (wrap64 (x5_1 + 1))) else (some (-1))) = some r := H
              have A7 := Aside0.mk A70
              clear A70
              by_cases c8 : ((rd_T37 l0 x5_1).f2).toList = t104.toList
              · rw [if_pos c8] at H
                have c8b0 : (((rd_T37 l0 x5_1).f2).toList == t104.toList) = true := beq_iff_eq.mpr c8
                have c8b1 : (((rd_T37 l0 x5_1).f2).toList != t104.toList) = false := bne_eq_false_iff_eq.mpr c8
                clear c8
                have H' := Aside0.mk H
                clear H
                have p101 : 0 ≤ (x5_1 : Int) := of_decide_eq_true (by first | (with_reducible assumption) | assumption)
                have q101 : x5_1 < (l0.length : Int) := of_decide_eq_true (by first | (with_reducible assumption) | assumption)
                obtain ⟨ad101, e101, hx101_0, hx101_1, hx101_2⟩ := at_T37 HR0.out x5_1 p101 q101
                cases e101
                replace hx101_0 := (HB.out.cell (World.block_lt_of_cell? w _ hx101_0)).trans hx101_0
                replace hx101_1 := (HB.out.cell (World.block_lt_of_cell? w _ hx101_1)).trans hx101_1
                replace hx101_2 := (HB.out.cell (World.block_lt_of_cell? w _ hx101_2)).trans hx101_2
                replace p101 := eq_true p101
                replace q101 := eq_true q101
                have p102 : 0 ≤ (x5_1 : Int) := of_decide_eq_true (by first | (with_reducible assumption) | assumption)
                have q102 : x5_1 < (l0.length : Int) := of_decide_eq_true (by first | (with_reducible assumption) | assumption)
                obtain ⟨ad102, e102, hx102_0, hx102_1, hx102_2⟩ := at_T37 HR0.out x5_1 p102 q102
                obtain rfl : ad101 = ad102 := (by injection e102)
                replace hx102_0 := (HB.out.cell (World.block_lt_of_cell? w _ hx102_0)).trans hx102_0
                replace hx102_1 := (HB.out.cell (World.block_lt_of_cell? w _ hx102_1)).trans hx102_1
                replace hx102_2 := (HB.out.cell (World.block_lt_of_cell? w _ hx102_2)).trans hx102_2
                replace p102 := eq_true p102
                replace q102 := eq_true q102
                try go_wp2
                have n0_ := Aside0.mk (below_drew1 HB.out)
                clear HB
                have HB := n0_
                clear n0_
                have p103 : 0 ≤ (x5_1 : Int) := of_decide_eq_true (by first | (with_reducible assumption) | assumption)
                have q103 : x5_1 < (l0.length : Int) := of_decide_eq_true (by first | (with_reducible assumption) | assumption)
                obtain ⟨ad103, e103, hx103_0, hx103_1, hx103_2⟩ := at_T37 HR0.out x5_1 p103 q103
                have hw103_2 := hx103_2
                have hw103_1 := hx103_1
                have hw103_0 := hx103_0
                obtain rfl : ad101 = ad103 := (by injection e103)
                replace hx103_0 := (HB.out.cell (World.block_lt_of_cell? w _ hx103_0)).trans hx103_0
                replace hx103_1 := (HB.out.cell (World.block_lt_of_cell? w _ hx103_1)).trans hx103_1
                replace hx103_2 := (HB.out.cell (World.block_lt_of_cell? w _ hx103_2)).trans hx103_2
                replace p103 := eq_true p103
                replace q103 := eq_true q103
                refine start_ (n := 8) (S := fun w' => w'.cell? (ad101.add ((x5_1).toNat * 3)) = some (.int .i64 ((rd_T37 l0 x5_1).f0)) ∧ w'.cell? ⟨(ad101.add ((x5_1).toNat * 3)).block, (ad101.add ((x5_1).toNat * 3)).off + 1, none⟩ = some (.int .i64 ((rd_T37 l0 x5_1).f1)) ∧ w'.cell? ⟨(ad101.add ((x5_1).toNat * 3)).block, (ad101.add ((x5_1).toNat * 3)).off + 2, none⟩ = some (.string ((rd_T37 l0 x5_1).f2))) (ds := []) #[false, false, false, false, false, false, false, false] (by kernel_rfl) rfl rfl ⟨((HB.out.cell (World.block_lt_of_cell? w _ hw103_0)).trans hw103_0), ((HB.out.cell (World.block_lt_of_cell? w _ hw103_1)).trans hw103_1), ((HB.out.cell (World.block_lt_of_cell? w _ hw103_2)).trans hw103_2)⟩ (fun hHeld => ?_); refine with_tabW laws_heldInstrS.tab10 laws_heldInstrS.bits10 (fun HT_ HW_ => ?_)
                generalize wr.drew = w9 at HB hx103_0 hx103_1 hx103_2 hHeld ⊢
                refine pure_ (i := 0) (N := some 30) (v := ?_) (a' := ?_) #[true, false, false, false, false, false, false, false] rfl rfl (any_of HT_.out (by kernel_rfl)) (fun _ _ _ h => h) (Or.inl ⟨by rfl, ?_⟩) ?_ ?_
                rotate_left
                · intro w'
                  go_simp
                  with_reducible rfl
                rotate_left
                · simp only [Act.put, List.setIfInBounds_toArray, List.set_cons_zero, List.set_cons_succ, i64_w, i32_w]
                  rfl
                refine pure_ (i := 1) (N := some 31) (v := ?_) (a' := ?_) #[true, true, false, false, false, false, false, false] rfl rfl (any_of HT_.out (by kernel_rfl)) (fun _ _ _ h => h) (Or.inl ⟨by rfl, ?_⟩) ?_ ?_
                rotate_left
                · intro w'
                  go_simp
                  with_reducible rfl
                rotate_left
                · simp only [Act.put, List.setIfInBounds_toArray, List.set_cons_zero, List.set_cons_succ, i64_w, i32_w]
                  rfl
                refine pure_ (i := 2) (N := some 32) (v := ?_) (a' := ?_) #[true, true, true, false, false, false, false, false] rfl rfl (any_of HT_.out (by kernel_rfl)) (fun _ _ _ h => h) (Or.inl ⟨by rfl, ?_⟩) ?_ ?_
                rotate_left
                · intro w'
                  go_simp
                  with_reducible rfl
                rotate_left
                · simp only [Act.put, List.setIfInBounds_toArray, List.set_cons_zero, List.set_cons_succ, i64_w, i32_w]
                  rfl
                refine pure_ (i := 3) (N := some 33) (v := ?_) (a' := ?_) #[true, true, true, true, false, false, false, false] rfl rfl (any_of HT_.out (by kernel_rfl)) (fun _ _ _ h => h) (Or.inl ⟨by rfl, ?_⟩) ?_ ?_
                rotate_left
                · intro w'
                  go_simp
                  with_reducible rfl
                rotate_left
                · simp only [Act.put, List.setIfInBounds_toArray, List.set_cons_zero, List.set_cons_succ, i64_w, i32_w]
                  rfl
                refine pure_ (i := 5) (N := some 35) (v := ?_) (a' := ?_) #[true, true, true, true, false, true, false, false] rfl rfl (any_of HT_.out (by kernel_rfl)) (fun _ _ _ h => h) (Or.inl ⟨by rfl, ?_⟩) ?_ ?_
                rotate_left
                · intro w'
                  go_simp
                  with_reducible rfl
                rotate_left
                · simp only [Act.put, List.setIfInBounds_toArray, List.set_cons_zero, List.set_cons_succ, i64_w, i32_w]
                  rfl
                refine take_ (i := 4) (N := some 34) (v := ?_) (a' := ?_) #[true, true, true, true, true, true, false, false] rfl rfl (take_ofW HT_.out HW_.out (by kernel_rfl)) (fun _ _ _ h => h) (Or.inl ⟨by rfl, ?_⟩) hHeld ?_ ?_
                rotate_left
                · rintro w' ⟨s0, s1, s2⟩
                  go_simp
                  with_reducible rfl
                rotate_left
                · simp only [Act.put, List.setIfInBounds_toArray, List.set_cons_zero, List.set_cons_succ, i64_w, i32_w]
                  rfl
                refine one_ (i := 6) (N := some 36) #[true, true, true, true, true, true, true, false] rfl rfl (one_of HT_.out (by kernel_rfl)) (by decide) (fun K hK => ?_)
                refine goes_ Tryd.func30 (by kernel_rfl) rfl #[.int .i64 (wrap64 ((wrap64 (x1_1 + 1)) + 1))] (by rfl) rfl rfl (by (try simp only [List.map_toArray, List.map_cons, List.map_nil]); first | done | rfl | (simp only [List.length_drop, List.length_take]; rfl)) ?_
                with_reducible refine (laws_markText.calls k1 (wrap64 ((wrap64 (x1_1 + 1)) + 1)) t104 _ A7.out).mono ?_
                rintro e w10 ⟨rfl, hb⟩
                refine ⟨_, rfl, ?_⟩
                have n0_ := Aside0.mk (below_step (by repeat (first | (with_reducible first | exact HB.out | apply below_alloc | apply pw_below_drewN | apply below_drew1) | exact HB.out)) hb)
                clear HB
                have HB := n0_
                clear n0_
                (try clear hb)
                (try clear hb2)
                (try clear hk)
                (try clear hi)
                refine hK.out _ _ ⟨((HB.out.cell (World.block_lt_of_cell? w _ hw103_0)).trans hw103_0), ((HB.out.cell (World.block_lt_of_cell? w _ hw103_1)).trans hw103_1), ((HB.out.cell (World.block_lt_of_cell? w _ hw103_2)).trans hw103_2)⟩ (fun hHeld => ?_)
                clear hK K
                refine norm_ (a' := ?_) ?_ ?_
                rotate_left
                · show Act.put _ (some 36) _ = _
                  simp only [Act.put, List.setIfInBounds_toArray, List.set_cons_zero, List.set_cons_succ, i64_w, i32_w]
                  rfl
                refine pure_ (i := 7) (N := some 37) (v := ?_) (a' := ?_) #[true, true, true, true, true, true, true, true] rfl rfl (any_of HT_.out (by kernel_rfl)) (fun _ _ _ h => h) (Or.inl ⟨by rfl, ?_⟩) ?_ ?_
                rotate_left
                · intro w'
                  go_simp
                  with_reducible rfl
                rotate_left
                · simp only [Act.put, List.setIfInBounds_toArray, List.set_cons_zero, List.set_cons_succ, i64_w, i32_w]
                  rfl
                refine done_ (done_of HT_.out (by kernel_rfl)) ?_
                try go_wp2
                go_roundg k1
                case measure => have := HK1.out; omega
                case rel => exact ⟨(wrap64 ((wrap64 ((wrap64 (x1_1 + 1)) + 1)) + 1)), (wrap64 (x5_1 + 1)), (by first | rfl | (simp; done) | (simp [*]; done)), (by first | rfl | (simp; done) | (simp [*]; done)), H', ⟨by have := HK1.out; omega⟩, ⟨by repeat (first | (with_reducible first | exact HB.out | apply below_alloc | apply pw_below_drewN | apply below_drew1) | exact HB.out)⟩⟩
              · rw [if_neg c8] at H
                have c8b0 : (((rd_T37 l0 x5_1).f2).toList == t104.toList) = false := beq_eq_false_iff_ne.mpr c8
                have c8b1 : (((rd_T37 l0 x5_1).f2).toList != t104.toList) = true := bne_iff_ne.mpr c8
                obtain rfl := Option.some.inj H
                have p101 : 0 ≤ (x5_1 : Int) := of_decide_eq_true (by first | (with_reducible assumption) | assumption)
                have q101 : x5_1 < (l0.length : Int) := of_decide_eq_true (by first | (with_reducible assumption) | assumption)
                obtain ⟨ad101, e101, hx101_0, hx101_1, hx101_2⟩ := at_T37 HR0.out x5_1 p101 q101
                cases e101
                replace hx101_0 := (HB.out.cell (World.block_lt_of_cell? w _ hx101_0)).trans hx101_0
                replace hx101_1 := (HB.out.cell (World.block_lt_of_cell? w _ hx101_1)).trans hx101_1
                replace hx101_2 := (HB.out.cell (World.block_lt_of_cell? w _ hx101_2)).trans hx101_2
                replace p101 := eq_true p101
                replace q101 := eq_true q101
                have p102 : 0 ≤ (x5_1 : Int) := of_decide_eq_true (by first | (with_reducible assumption) | assumption)
                have q102 : x5_1 < (l0.length : Int) := of_decide_eq_true (by first | (with_reducible assumption) | assumption)
                obtain ⟨ad102, e102, hx102_0, hx102_1, hx102_2⟩ := at_T37 HR0.out x5_1 p102 q102
                obtain rfl : ad101 = ad102 := (by injection e102)
                replace hx102_0 := (HB.out.cell (World.block_lt_of_cell? w _ hx102_0)).trans hx102_0
                replace hx102_1 := (HB.out.cell (World.block_lt_of_cell? w _ hx102_1)).trans hx102_1
                replace hx102_2 := (HB.out.cell (World.block_lt_of_cell? w _ hx102_2)).trans hx102_2
                replace p102 := eq_true p102
                replace q102 := eq_true q102
                try go_wp2
                have n0_ := Aside0.mk (below_drew1 HB.out)
                clear HB
                have HB := n0_
                clear n0_
                have p103 : 0 ≤ (x5_1 : Int) := of_decide_eq_true (by first | (with_reducible assumption) | assumption)
                have q103 : x5_1 < (l0.length : Int) := of_decide_eq_true (by first | (with_reducible assumption) | assumption)
                obtain ⟨ad103, e103, hx103_0, hx103_1, hx103_2⟩ := at_T37 HR0.out x5_1 p103 q103
                have hw103_2 := hx103_2
                have hw103_1 := hx103_1
                have hw103_0 := hx103_0
                obtain rfl : ad101 = ad103 := (by injection e103)
                replace hx103_0 := (HB.out.cell (World.block_lt_of_cell? w _ hx103_0)).trans hx103_0
                replace hx103_1 := (HB.out.cell (World.block_lt_of_cell? w _ hx103_1)).trans hx103_1
                replace hx103_2 := (HB.out.cell (World.block_lt_of_cell? w _ hx103_2)).trans hx103_2
                replace p103 := eq_true p103
                replace q103 := eq_true q103
                refine start_ (n := 8) (S := fun w' => w'.cell? (ad101.add ((x5_1).toNat * 3)) = some (.int .i64 ((rd_T37 l0 x5_1).f0)) ∧ w'.cell? ⟨(ad101.add ((x5_1).toNat * 3)).block, (ad101.add ((x5_1).toNat * 3)).off + 1, none⟩ = some (.int .i64 ((rd_T37 l0 x5_1).f1)) ∧ w'.cell? ⟨(ad101.add ((x5_1).toNat * 3)).block, (ad101.add ((x5_1).toNat * 3)).off + 2, none⟩ = some (.string ((rd_T37 l0 x5_1).f2))) (ds := []) #[false, false, false, false, false, false, false, false] (by kernel_rfl) rfl rfl ⟨((HB.out.cell (World.block_lt_of_cell? w _ hw103_0)).trans hw103_0), ((HB.out.cell (World.block_lt_of_cell? w _ hw103_1)).trans hw103_1), ((HB.out.cell (World.block_lt_of_cell? w _ hw103_2)).trans hw103_2)⟩ (fun hHeld => ?_); refine with_tabW laws_heldInstrS.tab10 laws_heldInstrS.bits10 (fun HT_ HW_ => ?_)
                generalize wr.drew = w11 at HB hx103_0 hx103_1 hx103_2 hHeld ⊢
                refine pure_ (i := 0) (N := some 30) (v := ?_) (a' := ?_) #[true, false, false, false, false, false, false, false] rfl rfl (any_of HT_.out (by kernel_rfl)) (fun _ _ _ h => h) (Or.inl ⟨by rfl, ?_⟩) ?_ ?_
                rotate_left
                · intro w'
                  go_simp
                  with_reducible rfl
                rotate_left
                · simp only [Act.put, List.setIfInBounds_toArray, List.set_cons_zero, List.set_cons_succ, i64_w, i32_w]
                  rfl
                refine pure_ (i := 1) (N := some 31) (v := ?_) (a' := ?_) #[true, true, false, false, false, false, false, false] rfl rfl (any_of HT_.out (by kernel_rfl)) (fun _ _ _ h => h) (Or.inl ⟨by rfl, ?_⟩) ?_ ?_
                rotate_left
                · intro w'
                  go_simp
                  with_reducible rfl
                rotate_left
                · simp only [Act.put, List.setIfInBounds_toArray, List.set_cons_zero, List.set_cons_succ, i64_w, i32_w]
                  rfl
                refine pure_ (i := 2) (N := some 32) (v := ?_) (a' := ?_) #[true, true, true, false, false, false, false, false] rfl rfl (any_of HT_.out (by kernel_rfl)) (fun _ _ _ h => h) (Or.inl ⟨by rfl, ?_⟩) ?_ ?_
                rotate_left
                · intro w'
                  go_simp
                  with_reducible rfl
                rotate_left
                · simp only [Act.put, List.setIfInBounds_toArray, List.set_cons_zero, List.set_cons_succ, i64_w, i32_w]
                  rfl
                refine pure_ (i := 3) (N := some 33) (v := ?_) (a' := ?_) #[true, true, true, true, false, false, false, false] rfl rfl (any_of HT_.out (by kernel_rfl)) (fun _ _ _ h => h) (Or.inl ⟨by rfl, ?_⟩) ?_ ?_
                rotate_left
                · intro w'
                  go_simp
                  with_reducible rfl
                rotate_left
                · simp only [Act.put, List.setIfInBounds_toArray, List.set_cons_zero, List.set_cons_succ, i64_w, i32_w]
                  rfl
                refine pure_ (i := 5) (N := some 35) (v := ?_) (a' := ?_) #[true, true, true, true, false, true, false, false] rfl rfl (any_of HT_.out (by kernel_rfl)) (fun _ _ _ h => h) (Or.inl ⟨by rfl, ?_⟩) ?_ ?_
                rotate_left
                · intro w'
                  go_simp
                  with_reducible rfl
                rotate_left
                · simp only [Act.put, List.setIfInBounds_toArray, List.set_cons_zero, List.set_cons_succ, i64_w, i32_w]
                  rfl
                refine take_ (i := 4) (N := some 34) (v := ?_) (a' := ?_) #[true, true, true, true, true, true, false, false] rfl rfl (take_ofW HT_.out HW_.out (by kernel_rfl)) (fun _ _ _ h => h) (Or.inl ⟨by rfl, ?_⟩) hHeld ?_ ?_
                rotate_left
                · rintro w' ⟨s0, s1, s2⟩
                  go_simp
                  with_reducible rfl
                rotate_left
                · simp only [Act.put, List.setIfInBounds_toArray, List.set_cons_zero, List.set_cons_succ, i64_w, i32_w]
                  rfl
                refine one_ (i := 6) (N := some 36) #[true, true, true, true, true, true, true, false] rfl rfl (one_of HT_.out (by kernel_rfl)) (by decide) (fun K hK => ?_)
                refine goes_ Tryd.func30 (by kernel_rfl) rfl #[.int .i64 (wrap64 ((wrap64 (x1_1 + 1)) + 1))] (by rfl) rfl rfl (by (try simp only [List.map_toArray, List.map_cons, List.map_nil]); first | done | rfl | (simp only [List.length_drop, List.length_take]; rfl)) ?_
                with_reducible refine (laws_markText.calls k1 (wrap64 ((wrap64 (x1_1 + 1)) + 1)) t104 _ A7.out).mono ?_
                rintro e w12 ⟨rfl, hb⟩
                refine ⟨_, rfl, ?_⟩
                have n0_ := Aside0.mk (below_step (by repeat (first | (with_reducible first | exact HB.out | apply below_alloc | apply pw_below_drewN | apply below_drew1) | exact HB.out)) hb)
                clear HB
                have HB := n0_
                clear n0_
                (try clear hb)
                (try clear hb2)
                (try clear hk)
                (try clear hi)
                refine hK.out _ _ ⟨((HB.out.cell (World.block_lt_of_cell? w _ hw103_0)).trans hw103_0), ((HB.out.cell (World.block_lt_of_cell? w _ hw103_1)).trans hw103_1), ((HB.out.cell (World.block_lt_of_cell? w _ hw103_2)).trans hw103_2)⟩ (fun hHeld => ?_)
                clear hK K
                refine norm_ (a' := ?_) ?_ ?_
                rotate_left
                · show Act.put _ (some 36) _ = _
                  simp only [Act.put, List.setIfInBounds_toArray, List.set_cons_zero, List.set_cons_succ, i64_w, i32_w]
                  rfl
                refine pure_ (i := 7) (N := some 37) (v := ?_) (a' := ?_) #[true, true, true, true, true, true, true, true] rfl rfl (any_of HT_.out (by kernel_rfl)) (fun _ _ _ h => h) (Or.inl ⟨by rfl, ?_⟩) ?_ ?_
                rotate_left
                · intro w'
                  go_simp
                  with_reducible rfl
                rotate_left
                · simp only [Act.put, List.setIfInBounds_toArray, List.set_cons_zero, List.set_cons_succ, i64_w, i32_w]
                  rfl
                refine done_ (done_of HT_.out (by kernel_rfl)) ?_
                try go_wp2
                go_ret
                exact ⟨by first | rfl | (simp [errW_none, errW_some] <;> rfl) | (simp [*, errW_none, errW_some] <;> rfl), by repeat (first | (with_reducible first | exact HB.out | apply below_alloc | apply pw_below_drewN | apply below_drew1) | exact HB.out)⟩
            · rw [if_neg c6] at H
              have c6b0 : (((rd_T37 l0 x5_1).f1) == (wrap64 (x1_1 + 1))) = false := beq_eq_false_iff_ne.mpr c6
              have c6b1 : (((rd_T37 l0 x5_1).f1) != (wrap64 (x1_1 + 1))) = true := bne_iff_ne.mpr c6
              obtain rfl := Option.some.inj H
              have p101 : 0 ≤ (x5_1 : Int) := of_decide_eq_true (by first | (with_reducible assumption) | assumption)
              have q101 : x5_1 < (l0.length : Int) := of_decide_eq_true (by first | (with_reducible assumption) | assumption)
              obtain ⟨ad101, e101, hx101_0, hx101_1, hx101_2⟩ := at_T37 HR0.out x5_1 p101 q101
              cases e101
              replace hx101_0 := (HB.out.cell (World.block_lt_of_cell? w _ hx101_0)).trans hx101_0
              replace hx101_1 := (HB.out.cell (World.block_lt_of_cell? w _ hx101_1)).trans hx101_1
              replace hx101_2 := (HB.out.cell (World.block_lt_of_cell? w _ hx101_2)).trans hx101_2
              replace p101 := eq_true p101
              replace q101 := eq_true q101
              have p102 : 0 ≤ (x5_1 : Int) := of_decide_eq_true (by first | (with_reducible assumption) | assumption)
              have q102 : x5_1 < (l0.length : Int) := of_decide_eq_true (by first | (with_reducible assumption) | assumption)
              obtain ⟨ad102, e102, hx102_0, hx102_1, hx102_2⟩ := at_T37 HR0.out x5_1 p102 q102
              obtain rfl : ad101 = ad102 := (by injection e102)
              replace hx102_0 := (HB.out.cell (World.block_lt_of_cell? w _ hx102_0)).trans hx102_0
              replace hx102_1 := (HB.out.cell (World.block_lt_of_cell? w _ hx102_1)).trans hx102_1
              replace hx102_2 := (HB.out.cell (World.block_lt_of_cell? w _ hx102_2)).trans hx102_2
              replace p102 := eq_true p102
              replace q102 := eq_true q102
              go_wp2
              go_ret
              exact ⟨by first | rfl | (simp [errW_none, errW_some] <;> rfl) | (simp [*, errW_none, errW_some] <;> rfl), by repeat (first | (with_reducible first | exact HB.out | apply below_alloc | apply pw_below_drewN | apply below_drew1) | exact HB.out)⟩
          · rw [if_neg c5] at H
            have c5b0 : (((rd_T37 l0 x5_1).f0) == x1_1) = false := beq_eq_false_iff_ne.mpr c5
            have c5b1 : (((rd_T37 l0 x5_1).f0) != x1_1) = true := bne_iff_ne.mpr c5
            obtain rfl := Option.some.inj H
            have p101 : 0 ≤ (x5_1 : Int) := of_decide_eq_true (by first | (with_reducible assumption) | assumption)
            have q101 : x5_1 < (l0.length : Int) := of_decide_eq_true (by first | (with_reducible assumption) | assumption)
            obtain ⟨ad101, e101, hx101_0, hx101_1, hx101_2⟩ := at_T37 HR0.out x5_1 p101 q101
            cases e101
            replace hx101_0 := (HB.out.cell (World.block_lt_of_cell? w _ hx101_0)).trans hx101_0
            replace hx101_1 := (HB.out.cell (World.block_lt_of_cell? w _ hx101_1)).trans hx101_1
            replace hx101_2 := (HB.out.cell (World.block_lt_of_cell? w _ hx101_2)).trans hx101_2
            replace p101 := eq_true p101
            replace q101 := eq_true q101
            go_wp2
            go_ret
            exact ⟨by first | rfl | (simp [errW_none, errW_some] <;> rfl) | (simp [*, errW_none, errW_some] <;> rfl), by repeat (first | (with_reducible first | exact HB.out | apply below_alloc | apply pw_below_drewN | apply below_drew1) | exact HB.out)⟩
        · rw [if_neg c4] at H
          exact absurd H (by simp)
      · rw [if_neg c3] at H
        have c3b0 : decide (x5_1 < (l0.length : Int)) = false := decide_eq_false c3
        clear c3
        obtain rfl := Option.some.inj H
        go_wp2
        go_ret
        exact ⟨by first | rfl | (simp [errW_none, errW_some] <;> rfl) | (simp [*, errW_none, errW_some] <;> rfl), by repeat (first | (with_reducible first | exact HB.out | apply below_alloc | apply pw_below_drewN | apply below_drew1) | exact HB.out)⟩

end Go.Proofs.YtlkgimnafnmgpaaDoor.G

namespace Go.Proofs.YtlkgimnafnmgpaaDoor.G
open Go.RowKit Go.Proofs.YtlkgimnafnmgpaaDoorW.PrintWords Go.Proofs.YtlkgimnafnmgpaaDoorW.PrintLast Go.Proofs.YtlkgimnafnmgpaaDoorW.PrintMore
attribute [local go_sem] max2_int min2_int max_two min_two max_three min_three max_four min_four   -- for this text's walks alone
set_option linter.unusedVariables false
set_option linter.unusedSimpArgs false

def laws_eqInstr.f (a0_0 : Int) (a0_1 : Int) (a0_2 : ByteArray) (a1_0 : Int) (a1_1 : Int) (a1_2 : ByteArray) : Option (Bool) := if a0_0 = a1_0 then (if a0_1 = a1_1 then (if a0_2.toList = a1_2.toList then (some true) else (some false)) else (some false)) else (some false)
set_option maxHeartbeats 8000000 in
set_option maxRecDepth 100000 in
theorem laws_eqInstr.calls (a0_0 : Int) (a0_1 : Int) (a0_2 : ByteArray) (a1_0 : Int) (a1_1 : Int) (a1_2 : ByteArray) (r : Bool) (w : World) (h : laws_eqInstr.f a0_0 a0_1 a0_2 a1_0 a1_1 a1_2 = some r) :
    Calls Tryd.prog 25 #[.agg #[.int .i64 a0_0, .int .i64 a0_1, .string a0_2], .agg #[.int .i64 a1_0, .int .i64 a1_1, .string a1_2]] w fun e w' => e = .returned (.bool r) ∧ Below w.heap.size w w' := by
  have hu37 := Tryd.underlying37
  have HB := Aside0.mk (Below.refl w.heap.size w)
  have H : (if a0_0 = a1_0 then (if a0_1 = a1_1 then (if a0_2.toList = a1_2.toList then (some true) else (some false)) else (some false)) else (some false)) = some r := h
  clear h
  by_cases c3 : a0_0 = a1_0
  · rw [if_pos c3] at H
    have c3b0 : (a0_0 == a1_0) = true := beq_iff_eq.mpr c3
    have c3b1 : (a0_0 != a1_0) = false := bne_eq_false_iff_eq.mpr c3
    clear c3
    by_cases c4 : a0_1 = a1_1
    · rw [if_pos c4] at H
      have c4b0 : (a0_1 == a1_1) = true := beq_iff_eq.mpr c4
      have c4b1 : (a0_1 != a1_1) = false := bne_eq_false_iff_eq.mpr c4
      clear c4
      by_cases c5 : a0_2.toList = a1_2.toList
      · rw [if_pos c5] at H
        have c5b0 : (a0_2.toList == a1_2.toList) = true := beq_iff_eq.mpr c5
        have c5b1 : (a0_2.toList != a1_2.toList) = false := bne_eq_false_iff_eq.mpr c5
        clear c5
        obtain rfl := Option.some.inj H
        go_enter Tryd.func25, Tryd.ntmps25
        go_wp2_with (first | ((with_reducible refine gate_dst (N := 2) rfl ?_); refine box_event ?hg (N := 2) ?hd (cs := #[.int .i64 a0_0, .int .i64 a0_1, .string a0_2]) (t := 37) ?hr ?_; (case hd => rfl); (case hg => rfl); (case hr => first | (go_simp; done) | (go_simp; rfl)); intro gb101 hg w6 hbox hb; have n0_ := Aside0.mk (below_step (by repeat (first | (with_reducible first | exact HB.out | apply below_alloc | apply pw_below_drewN | apply below_drew1) | exact HB.out)) hb); have n1_ := Aside0.mk (hbox); have n2_ := Aside0.mk ((by rw [hg]; exact (below_size (by repeat (first | (with_reducible first | exact HB.out | apply below_alloc | apply pw_below_drewN | apply below_drew1) | exact HB.out))) : w.heap.size ≤ gb101)); have n3_ := Aside0.mk ((by rw [hg]; exact (below_size (by repeat (first | (with_reducible first | exact HB.out | apply below_alloc | apply pw_below_drewN | apply below_drew1) | exact HB.out))) : w.heap.size ≤ gb101)); clear HB; have HB := n0_; have BK101 := n1_; have GW101 := n2_; have GE101 := n3_; clear n0_ n1_ n2_ n3_; clear hb hbox hg) | ((with_reducible refine gate_dst (N := 3) rfl ?_); refine box_event ?hg (N := 3) ?hd (cs := #[.int .i64 a1_0, .int .i64 a1_1, .string a1_2]) (t := 37) ?hr ?_; (case hd => rfl); (case hg => rfl); (case hr => first | (go_simp; done) | (go_simp; rfl)); intro gb102 hg w7 hbox hb; have n0_ := Aside0.mk (blk_below (g := gb101) (o := .cells #[.int .i64 a0_0, .int .i64 a0_1, .string a0_2] 37 (0, 0)) (by (with_reducible repeat (first | refine blk_drewN ?_ _ | refine blk_drew ?_ | refine blk_alloc ?_ _)); exact BK101.out) hb); have n1_ := Aside0.mk (below_step (by repeat (first | (with_reducible first | exact HB.out | apply below_alloc | apply pw_below_drewN | apply below_drew1 | refine below_set ?_ GE101.out) | exact HB.out)) hb); have n2_ := Aside0.mk (hbox); have n3_ := Aside0.mk ((by rw [hg]; exact (below_size (by repeat (first | (with_reducible first | exact HB.out | apply below_alloc | apply pw_below_drewN | apply below_drew1 | refine below_set ?_ GE101.out) | exact HB.out))) : w.heap.size ≤ gb102)); have n4_ := Aside0.mk ((by rw [hg]; exact (below_size (by repeat (first | (with_reducible first | exact HB.out | apply below_alloc | apply pw_below_drewN | apply below_drew1 | refine below_set ?_ GE101.out) | exact HB.out))) : w.heap.size ≤ gb102)); have n5_ := Aside0.mk ((by rw [hg]; exact Nat.ne_of_lt (blk_lt (g := gb101) (o := .cells #[.int .i64 a0_0, .int .i64 a0_1, .string a0_2] 37 (0, 0)) (by (with_reducible repeat (first | refine blk_drewN ?_ _ | refine blk_drew ?_ | refine blk_alloc ?_ _)); exact BK101.out)) : gb101 ≠ gb102)); have n6_ := Aside0.mk ((by rw [hg]; exact Nat.ne_of_gt (blk_lt (g := gb101) (o := .cells #[.int .i64 a0_0, .int .i64 a0_1, .string a0_2] 37 (0, 0)) (by (with_reducible repeat (first | refine blk_drewN ?_ _ | refine blk_drew ?_ | refine blk_alloc ?_ _)); exact BK101.out)) : gb102 ≠ gb101)); clear BK101; clear HB; have BK101 := n0_; have HB := n1_; have BK102 := n2_; have GW102 := n3_; have GE102 := n4_; have NB101_102 := n5_; have NB102_101 := n6_; clear n0_ n1_ n2_ n3_ n4_ n5_ n6_; clear hb hbox hg; have hnb8 := NB101_102.out; have hnc8 := NB102_101.out; have hcz9_0 : w7.cell? ⟨gb101, 0, none⟩ = some (.int .i64 a0_0) := (blk_cell BK101.out 0).trans rfl; have hcz9_1 : w7.cell? ⟨gb101, 1, none⟩ = some (.int .i64 a0_1) := (blk_cell BK101.out 1).trans rfl; have hcz9_2 : w7.cell? ⟨gb101, 2, none⟩ = some (.string a0_2) := (blk_cell BK101.out 2).trans rfl; have hfz9_0 := blk_frozen BK101.out 0; have hfz9_1 := blk_frozen BK101.out 1; have hfz9_2 := blk_frozen BK101.out 2; have hcz10_0 : w7.cell? ⟨gb102, 0, none⟩ = some (.int .i64 a1_0) := (blk_cell BK102.out 0).trans rfl; have hcz10_1 : w7.cell? ⟨gb102, 1, none⟩ = some (.int .i64 a1_1) := (blk_cell BK102.out 1).trans rfl; have hcz10_2 : w7.cell? ⟨gb102, 2, none⟩ = some (.string a1_2) := (blk_cell BK102.out 2).trans rfl; have hfz10_0 := blk_frozen BK102.out 0; have hfz10_1 := blk_frozen BK102.out 1; have hfz10_2 := blk_frozen BK102.out 2))
        go_ret
        exact ⟨by first | rfl | (simp [errW_none, errW_some] <;> rfl) | (simp [*, errW_none, errW_some] <;> rfl), by repeat (first | (with_reducible first | exact HB.out | apply below_alloc | apply pw_below_drewN | apply below_drew1 | refine below_set ?_ GE101.out | refine below_set ?_ GE102.out) | exact HB.out)⟩
      · rw [if_neg c5] at H
        have c5b0 : (a0_2.toList == a1_2.toList) = false := beq_eq_false_iff_ne.mpr c5
        have c5b1 : (a0_2.toList != a1_2.toList) = true := bne_iff_ne.mpr c5
        obtain rfl := Option.some.inj H
        go_enter Tryd.func25, Tryd.ntmps25
        go_wp2_with (first | ((with_reducible refine gate_dst (N := 2) rfl ?_); refine box_event ?hg (N := 2) ?hd (cs := #[.int .i64 a0_0, .int .i64 a0_1, .string a0_2]) (t := 37) ?hr ?_; (case hd => rfl); (case hg => rfl); (case hr => first | (go_simp; done) | (go_simp; rfl)); intro gb101 hg w11 hbox hb; have n0_ := Aside0.mk (below_step (by repeat (first | (with_reducible first | exact HB.out | apply below_alloc | apply pw_below_drewN | apply below_drew1) | exact HB.out)) hb); have n1_ := Aside0.mk (hbox); have n2_ := Aside0.mk ((by rw [hg]; exact (below_size (by repeat (first | (with_reducible first | exact HB.out | apply below_alloc | apply pw_below_drewN | apply below_drew1) | exact HB.out))) : w.heap.size ≤ gb101)); have n3_ := Aside0.mk ((by rw [hg]; exact (below_size (by repeat (first | (with_reducible first | exact HB.out | apply below_alloc | apply pw_below_drewN | apply below_drew1) | exact HB.out))) : w.heap.size ≤ gb101)); clear HB; have HB := n0_; have BK101 := n1_; have GW101 := n2_; have GE101 := n3_; clear n0_ n1_ n2_ n3_; clear hb hbox hg) | ((with_reducible refine gate_dst (N := 3) rfl ?_); refine box_event ?hg (N := 3) ?hd (cs := #[.int .i64 a1_0, .int .i64 a1_1, .string a1_2]) (t := 37) ?hr ?_; (case hd => rfl); (case hg => rfl); (case hr => first | (go_simp; done) | (go_simp; rfl)); intro gb102 hg w12 hbox hb; have n0_ := Aside0.mk (blk_below (g := gb101) (o := .cells #[.int .i64 a0_0, .int .i64 a0_1, .string a0_2] 37 (0, 0)) (by (with_reducible repeat (first | refine blk_drewN ?_ _ | refine blk_drew ?_ | refine blk_alloc ?_ _)); exact BK101.out) hb); have n1_ := Aside0.mk (below_step (by repeat (first | (with_reducible first | exact HB.out | apply below_alloc | apply pw_below_drewN | apply below_drew1 | refine below_set ?_ GE101.out) | exact HB.out)) hb); have n2_ := Aside0.mk (hbox); have n3_ := Aside0.mk ((by rw [hg]; exact (below_size (by repeat (first | (with_reducible first | exact HB.out | apply below_alloc | apply pw_below_drewN | apply below_drew1 | refine below_set ?_ GE101.out) | exact HB.out))) : w.heap.size ≤ gb102)); have n4_ := Aside0.mk ((by rw [hg]; exact (below_size (by repeat (first | (with_reducible first | exact HB.out | apply below_alloc | apply pw_below_drewN | apply below_drew1 | refine below_set ?_ GE101.out) | exact HB.out))) : w.heap.size ≤ gb102)); have n5_ := Aside0.mk ((by rw [hg]; exact Nat.ne_of_lt (blk_lt (g := gb101) (o := .cells #[.int .i64 a0_0, .int .i64 a0_1, .string a0_2] 37 (0, 0)) (by (with_reducible repeat (first | refine blk_drewN ?_ _ | refine blk_drew ?_ | refine blk_alloc ?_ _)); exact BK101.out)) : gb101 ≠ gb102)); have n6_ := Aside0.mk ((by rw [hg]; exact Nat.ne_of_gt (blk_lt (g := gb101) (o := .cells #[.int .i64 a0_0, .int .i64 a0_1, .string a0_2] 37 (0, 0)) (by (with_reducible repeat (first | refine blk_drewN ?_ _ | refine blk_drew ?_ | refine blk_alloc ?_ _)); exact BK101.out)) : gb102 ≠ gb101)); clear BK101; clear HB; have BK101 := n0_; have HB := n1_; have BK102 := n2_; have GW102 := n3_; have GE102 := n4_; have NB101_102 := n5_; have NB102_101 := n6_; clear n0_ n1_ n2_ n3_ n4_ n5_ n6_; clear hb hbox hg; have hnb13 := NB101_102.out; have hnc13 := NB102_101.out; have hcz14_0 : w12.cell? ⟨gb101, 0, none⟩ = some (.int .i64 a0_0) := (blk_cell BK101.out 0).trans rfl; have hcz14_1 : w12.cell? ⟨gb101, 1, none⟩ = some (.int .i64 a0_1) := (blk_cell BK101.out 1).trans rfl; have hcz14_2 : w12.cell? ⟨gb101, 2, none⟩ = some (.string a0_2) := (blk_cell BK101.out 2).trans rfl; have hfz14_0 := blk_frozen BK101.out 0; have hfz14_1 := blk_frozen BK101.out 1; have hfz14_2 := blk_frozen BK101.out 2; have hcz15_0 : w12.cell? ⟨gb102, 0, none⟩ = some (.int .i64 a1_0) := (blk_cell BK102.out 0).trans rfl; have hcz15_1 : w12.cell? ⟨gb102, 1, none⟩ = some (.int .i64 a1_1) := (blk_cell BK102.out 1).trans rfl; have hcz15_2 : w12.cell? ⟨gb102, 2, none⟩ = some (.string a1_2) := (blk_cell BK102.out 2).trans rfl; have hfz15_0 := blk_frozen BK102.out 0; have hfz15_1 := blk_frozen BK102.out 1; have hfz15_2 := blk_frozen BK102.out 2))
        go_ret
        exact ⟨by first | rfl | (simp [errW_none, errW_some] <;> rfl) | (simp [*, errW_none, errW_some] <;> rfl), by repeat (first | (with_reducible first | exact HB.out | apply below_alloc | apply pw_below_drewN | apply below_drew1 | refine below_set ?_ GE101.out | refine below_set ?_ GE102.out) | exact HB.out)⟩
    · rw [if_neg c4] at H
      have c4b0 : (a0_1 == a1_1) = false := beq_eq_false_iff_ne.mpr c4
      have c4b1 : (a0_1 != a1_1) = true := bne_iff_ne.mpr c4
      obtain rfl := Option.some.inj H
      go_enter Tryd.func25, Tryd.ntmps25
      go_wp2_with (first | ((with_reducible refine gate_dst (N := 2) rfl ?_); refine box_event ?hg (N := 2) ?hd (cs := #[.int .i64 a0_0, .int .i64 a0_1, .string a0_2]) (t := 37) ?hr ?_; (case hd => rfl); (case hg => rfl); (case hr => first | (go_simp; done) | (go_simp; rfl)); intro gb101 hg w16 hbox hb; have n0_ := Aside0.mk (below_step (by repeat (first | (with_reducible first | exact HB.out | apply below_alloc | apply pw_below_drewN | apply below_drew1) | exact HB.out)) hb); have n1_ := Aside0.mk (hbox); have n2_ := Aside0.mk ((by rw [hg]; exact (below_size (by repeat (first | (with_reducible first | exact HB.out | apply below_alloc | apply pw_below_drewN | apply below_drew1) | exact HB.out))) : w.heap.size ≤ gb101)); have n3_ := Aside0.mk ((by rw [hg]; exact (below_size (by repeat (first | (with_reducible first | exact HB.out | apply below_alloc | apply pw_below_drewN | apply below_drew1) | exact HB.out))) : w.heap.size ≤ gb101)); clear HB; have HB := n0_; have BK101 := n1_; have GW101 := n2_; have GE101 := n3_; clear n0_ n1_ n2_ n3_; clear hb hbox hg) | ((with_reducible refine gate_dst (N := 3) rfl ?_); refine box_event ?hg (N := 3) ?hd (cs := #[.int .i64 a1_0, .int .i64 a1_1, .string a1_2]) (t := 37) ?hr ?_; (case hd => rfl); (case hg => rfl); (case hr => first | (go_simp; done) | (go_simp; rfl)); intro gb102 hg w17 hbox hb; have n0_ := Aside0.mk (blk_below (g := gb101) (o := .cells #[.int .i64 a0_0, .int .i64 a0_1, .string a0_2] 37 (0, 0)) (by (with_reducible repeat (first | refine blk_drewN ?_ _ | refine blk_drew ?_ | refine blk_alloc ?_ _)); exact BK101.out) hb); have n1_ := Aside0.mk (below_step (by repeat (first | (with_reducible first | exact HB.out | apply below_alloc | apply pw_below_drewN | apply below_drew1 | refine below_set ?_ GE101.out) | exact HB.out)) hb); have n2_ := Aside0.mk (hbox); have n3_ := Aside0.mk ((by rw [hg]; exact (below_size (by repeat (first | (with_reducible first | exact HB.out | apply below_alloc | apply pw_below_drewN | apply below_drew1 | refine below_set ?_ GE101.out) | exact HB.out))) : w.heap.size ≤ gb102)); have n4_ := Aside0.mk ((by rw [hg]; exact (below_size (by repeat (first | (with_reducible first | exact HB.out | apply below_alloc | apply pw_below_drewN | apply below_drew1 | refine below_set ?_ GE101.out) | exact HB.out))) : w.heap.size ≤ gb102)); have n5_ := Aside0.mk ((by rw [hg]; exact Nat.ne_of_lt (blk_lt (g := gb101) (o := .cells #[.int .i64 a0_0, .int .i64 a0_1, .string a0_2] 37 (0, 0)) (by (with_reducible repeat (first | refine blk_drewN ?_ _ | refine blk_drew ?_ | refine blk_alloc ?_ _)); exact BK101.out)) : gb101 ≠ gb102)); have n6_ := Aside0.mk ((by rw [hg]; exact Nat.ne_of_gt (blk_lt (g := gb101) (o := .cells #[.int .i64 a0_0, .int .i64 a0_1, .string a0_2] 37 (0, 0)) (by (with_reducible repeat (first | refine blk_drewN ?_ _ | refine blk_drew ?_ | refine blk_alloc ?_ _)); exact BK101.out)) : gb102 ≠ gb101)); clear BK101; clear HB; have BK101 := n0_; have HB := n1_; have BK102 := n2_; have GW102 := n3_; have GE102 := n4_; have NB101_102 := n5_; have NB102_101 := n6_; clear n0_ n1_ n2_ n3_ n4_ n5_ n6_; clear hb hbox hg; have hnb18 := NB101_102.out; have hnc18 := NB102_101.out; have hcz19_0 : w17.cell? ⟨gb101, 0, none⟩ = some (.int .i64 a0_0) := (blk_cell BK101.out 0).trans rfl; have hcz19_1 : w17.cell? ⟨gb101, 1, none⟩ = some (.int .i64 a0_1) := (blk_cell BK101.out 1).trans rfl; have hcz19_2 : w17.cell? ⟨gb101, 2, none⟩ = some (.string a0_2) := (blk_cell BK101.out 2).trans rfl; have hfz19_0 := blk_frozen BK101.out 0; have hfz19_1 := blk_frozen BK101.out 1; have hfz19_2 := blk_frozen BK101.out 2; have hcz20_0 : w17.cell? ⟨gb102, 0, none⟩ = some (.int .i64 a1_0) := (blk_cell BK102.out 0).trans rfl; have hcz20_1 : w17.cell? ⟨gb102, 1, none⟩ = some (.int .i64 a1_1) := (blk_cell BK102.out 1).trans rfl; have hcz20_2 : w17.cell? ⟨gb102, 2, none⟩ = some (.string a1_2) := (blk_cell BK102.out 2).trans rfl; have hfz20_0 := blk_frozen BK102.out 0; have hfz20_1 := blk_frozen BK102.out 1; have hfz20_2 := blk_frozen BK102.out 2))
      go_ret
      exact ⟨by first | rfl | (simp [errW_none, errW_some] <;> rfl) | (simp [*, errW_none, errW_some] <;> rfl), by repeat (first | (with_reducible first | exact HB.out | apply below_alloc | apply pw_below_drewN | apply below_drew1 | refine below_set ?_ GE101.out | refine below_set ?_ GE102.out) | exact HB.out)⟩
  · rw [if_neg c3] at H
    have c3b0 : (a0_0 == a1_0) = false := beq_eq_false_iff_ne.mpr c3
    have c3b1 : (a0_0 != a1_0) = true := bne_iff_ne.mpr c3
    obtain rfl := Option.some.inj H
    go_enter Tryd.func25, Tryd.ntmps25
    go_wp2_with (first | ((with_reducible refine gate_dst (N := 2) rfl ?_); refine box_event ?hg (N := 2) ?hd (cs := #[.int .i64 a0_0, .int .i64 a0_1, .string a0_2]) (t := 37) ?hr ?_; (case hd => rfl); (case hg => rfl); (case hr => first | (go_simp; done) | (go_simp; rfl)); intro gb101 hg w21 hbox hb; have n0_ := Aside0.mk (below_step (by repeat (first | (with_reducible first | exact HB.out | apply below_alloc | apply pw_below_drewN | apply below_drew1) | exact HB.out)) hb); have n1_ := Aside0.mk (hbox); have n2_ := Aside0.mk ((by rw [hg]; exact (below_size (by repeat (first | (with_reducible first | exact HB.out | apply below_alloc | apply pw_below_drewN | apply below_drew1) | exact HB.out))) : w.heap.size ≤ gb101)); have n3_ := Aside0.mk ((by rw [hg]; exact (below_size (by repeat (first | (with_reducible first | exact HB.out | apply below_alloc | apply pw_below_drewN | apply below_drew1) | exact HB.out))) : w.heap.size ≤ gb101)); clear HB; have HB := n0_; have BK101 := n1_; have GW101 := n2_; have GE101 := n3_; clear n0_ n1_ n2_ n3_; clear hb hbox hg) | ((with_reducible refine gate_dst (N := 3) rfl ?_); refine box_event ?hg (N := 3) ?hd (cs := #[.int .i64 a1_0, .int .i64 a1_1, .string a1_2]) (t := 37) ?hr ?_; (case hd => rfl); (case hg => rfl); (case hr => first | (go_simp; done) | (go_simp; rfl)); intro gb102 hg w22 hbox hb; have n0_ := Aside0.mk (blk_below (g := gb101) (o := .cells #[.int .i64 a0_0, .int .i64 a0_1, .string a0_2] 37 (0, 0)) (by (with_reducible repeat (first | refine blk_drewN ?_ _ | refine blk_drew ?_ | refine blk_alloc ?_ _)); exact BK101.out) hb); have n1_ := Aside0.mk (below_step (by repeat (first | (with_reducible first | exact HB.out | apply below_alloc | apply pw_below_drewN | apply below_drew1 | refine below_set ?_ GE101.out) | exact HB.out)) hb); have n2_ := Aside0.mk (hbox); have n3_ := Aside0.mk ((by rw [hg]; exact (below_size (by repeat (first | (with_reducible first | exact HB.out | apply below_alloc | apply pw_below_drewN | apply below_drew1 | refine below_set ?_ GE101.out) | exact HB.out))) : w.heap.size ≤ gb102)); have n4_ := Aside0.mk ((by rw [hg]; exact (below_size (by repeat (first | (with_reducible first | exact HB.out | apply below_alloc | apply pw_below_drewN | apply below_drew1 | refine below_set ?_ GE101.out) | exact HB.out))) : w.heap.size ≤ gb102)); have n5_ := Aside0.mk ((by rw [hg]; exact Nat.ne_of_lt (blk_lt (g := gb101) (o := .cells #[.int .i64 a0_0, .int .i64 a0_1, .string a0_2] 37 (0, 0)) (by (with_reducible repeat (first | refine blk_drewN ?_ _ | refine blk_drew ?_ | refine blk_alloc ?_ _)); exact BK101.out)) : gb101 ≠ gb102)); have n6_ := Aside0.mk ((by rw [hg]; exact Nat.ne_of_gt (blk_lt (g := gb101) (o := .cells #[.int .i64 a0_0, .int .i64 a0_1, .string a0_2] 37 (0, 0)) (by (with_reducible repeat (first | refine blk_drewN ?_ _ | refine blk_drew ?_ | refine blk_alloc ?_ _)); exact BK101.out)) : gb102 ≠ gb101)); clear BK101; clear HB; have BK101 := n0_; have HB := n1_; have BK102 := n2_; have GW102 := n3_; have GE102 := n4_; have NB101_102 := n5_; have NB102_101 := n6_; clear n0_ n1_ n2_ n3_ n4_ n5_ n6_; clear hb hbox hg; have hnb23 := NB101_102.out; have hnc23 := NB102_101.out; have hcz24_0 : w22.cell? ⟨gb101, 0, none⟩ = some (.int .i64 a0_0) := (blk_cell BK101.out 0).trans rfl; have hcz24_1 : w22.cell? ⟨gb101, 1, none⟩ = some (.int .i64 a0_1) := (blk_cell BK101.out 1).trans rfl; have hcz24_2 : w22.cell? ⟨gb101, 2, none⟩ = some (.string a0_2) := (blk_cell BK101.out 2).trans rfl; have hfz24_0 := blk_frozen BK101.out 0; have hfz24_1 := blk_frozen BK101.out 1; have hfz24_2 := blk_frozen BK101.out 2; have hcz25_0 : w22.cell? ⟨gb102, 0, none⟩ = some (.int .i64 a1_0) := (blk_cell BK102.out 0).trans rfl; have hcz25_1 : w22.cell? ⟨gb102, 1, none⟩ = some (.int .i64 a1_1) := (blk_cell BK102.out 1).trans rfl; have hcz25_2 : w22.cell? ⟨gb102, 2, none⟩ = some (.string a1_2) := (blk_cell BK102.out 2).trans rfl; have hfz25_0 := blk_frozen BK102.out 0; have hfz25_1 := blk_frozen BK102.out 1; have hfz25_2 := blk_frozen BK102.out 2))
    go_ret
    exact ⟨by first | rfl | (simp [errW_none, errW_some] <;> rfl) | (simp [*, errW_none, errW_some] <;> rfl), by repeat (first | (with_reducible first | exact HB.out | apply below_alloc | apply pw_below_drewN | apply below_drew1 | refine below_set ?_ GE101.out | refine below_set ?_ GE102.out) | exact HB.out)⟩

end Go.Proofs.YtlkgimnafnmgpaaDoor.G

namespace Go.Proofs.YtlkgimnafnmgpaaDoor.G
open Go.RowKit Go.Proofs.YtlkgimnafnmgpaaDoorW.PrintWords Go.Proofs.YtlkgimnafnmgpaaDoorW.PrintLast Go.Proofs.YtlkgimnafnmgpaaDoorW.PrintMore
attribute [local go_sem] max2_int min2_int max_two min_two max_three min_three max_four min_four   -- for this text's walks alone
set_option linter.unusedVariables false
set_option linter.unusedSimpArgs false

def laws_eqInstrS.l0 : Nat → List (S37) → List (S37) → Int → Option (Bool)
  | 0, _, _, _ => none
  | k + 1, x0, x1, x5 => if x5 < (x0.length : Int) then (if 0 ≤ x5 then (if x5 < (x1.length : Int) then ((laws_eqInstr.f ((rd_T37 x0 x5).f0) ((rd_T37 x0 x5).f1) ((rd_T37 x0 x5).f2) ((rd_T37 x1 x5).f0) ((rd_T37 x1 x5).f1) ((rd_T37 x1 x5).f2)).bind fun t103 => (if t103 = true then (laws_eqInstrS.l0 k x0 x1 (wrap64 (x5 + 1))) else (some false))) else (none)) else (none)) else (some true)
def laws_eqInstrS.f (k : Nat) (l0 : List (S37)) (l1 : List (S37)) : Option (Bool) := if (l0.length : Int) = (l1.length : Int) then (laws_eqInstrS.l0 k l0 l1 0) else (some false)
def laws_eqInstrS.T6 : Bool × List (List Nat × List Nat) := (true, [([], []), ([], []), ([0, 1], [0, 1]), ([2], [2]), ([], []), ([], []), ([4, 5], [4, 5]), ([6], [6]), ([3, 7], [3, 7]), ([8], [8])])
def laws_eqInstrS.B6 : List Nat := [0, 0, 3, 7, 0, 0, 48, 112, 255, 511]
theorem laws_eqInstrS.tab6 : rtab .any (opsOf Tryd.f9 6) = laws_eqInstrS.T6 := by kernel_rfl
theorem laws_eqInstrS.bits6 : waitsOk laws_eqInstrS.T6.2 laws_eqInstrS.B6 = true := by kernel_rfl
set_option maxHeartbeats 8000000 in
set_option maxRecDepth 100000 in
theorem laws_eqInstrS.calls (k : Nat) (A0 : Option Addr) (c0 : Nat) (l0 : List (S37)) (A1 : Option Addr) (c1 : Nat) (l1 : List (S37)) (r : Bool) (w : World) (hr0 : Kd.C k37 w A0 l0.length l0) (hc0 : l0.length ≤ c0) (hr1 : Kd.C k37 w A1 l1.length l1) (hc1 : l1.length ≤ c1) (h : laws_eqInstrS.f k l0 l1 = some r) :
    Calls Tryd.prog 9 #[.slice A0 l0.length c0, .slice A1 l1.length c1] w fun e w' => e = .returned (.bool r) ∧ Below w.heap.size w w' := by
  have hu37 := Tryd.underlying37
  have HR0 := Aside0.mk hr0
  have HC0 := Aside0.mk hc0
  clear hr0 hc0
  have HR1 := Aside0.mk hr1
  have HC1 := Aside0.mk hc1
  clear hr1 hc1
  have HB := Aside0.mk (Below.refl w.heap.size w)
  have H : (if (l0.length : Int) = (l1.length : Int) then (laws_eqInstrS.l0 k l0 l1 0) else (some false)) = some r := h
  clear h
  by_cases c3 : (l0.length : Int) = (l1.length : Int)
  · rw [if_pos c3] at H
    have c3b0 : ((l0.length : Int) == (l1.length : Int)) = true := beq_iff_eq.mpr c3
    have c3b1 : ((l0.length : Int) != (l1.length : Int)) = false := bne_eq_false_iff_eq.mpr c3
    have c3b2 : (l0.length == l1.length) = true := by first | simpa using c3 | (simp at c3 ⊢; omega)
    clear c3
    have H' := Aside0.mk H
    clear H
    go_enter Tryd.func9, Tryd.ntmps9
    go_wp2
    go_loopg [5] k (fun kq v5 w' => ∃ (x5_1 : Int), v5 = .int .i64 x5_1 ∧ Aside0 (laws_eqInstrS.l0 kq l0 l1 x5_1 = some r) ∧ Aside0 (kq ≤ k) ∧ Aside0 (Below w.heap.size w w'))
    case atStart => exact ⟨(0), (by first | rfl | (simp; done) | (simp [*]; done)), H', ⟨Nat.le_refl _⟩, ⟨by repeat (first | (with_reducible first | exact HB.out | apply below_alloc | apply pw_below_drewN | apply below_drew1) | exact HB.out)⟩⟩
    case round =>
      clear H'
      try clear c1
      try clear p2
      try clear c3
      try clear c3b0
      try clear c3b1
      try clear c3b2
      obtain ⟨x5_1, rfl, HA, HK1, HB⟩ := hrel
      cases gk with
      | zero => exact absurd HA.out (by simp [laws_eqInstrS.l0])
      | succ k1 =>
        have H := HA.out
        clear HA
        simp only [laws_eqInstrS.l0] at H
        by_cases c4 : x5_1 < (l0.length : Int)
        · rw [if_pos c4] at H
          have c4b0 : decide (x5_1 < (l0.length : Int)) = true := decide_eq_true c4
          clear c4
          by_cases c5 : 0 ≤ x5_1
          · rw [if_pos c5] at H
            have c5b0 : decide (0 ≤ x5_1) = true := decide_eq_true c5
            clear c5
            by_cases c6 : x5_1 < (l1.length : Int)
            · rw [if_pos c6] at H
              have c6b0 : decide (x5_1 < (l1.length : Int)) = true := decide_eq_true c6
              clear c6
              replace H := Option.bind_eq_some_iff.mp H
              obtain ⟨t103, A70, H⟩ := H
              replace H : (if t103 = true then (laws_eqInstrS.l0 k1 l0 l1 (wrap64 (x5_1 + 1))) else (some false)) = some r := H
              have A7 := Aside0.mk A70
              clear A70
              by_cases c8 : t103 = true
              · subst c8
                have H1 : (laws_eqInstrS.l0 k1 l0 l1 (wrap64 (x5_1 + 1))) = some r := by rw [if_pos rfl] at H; exact H
                clear H
                have H := H1
                clear H1
                have H' := Aside0.mk H
                clear H
                try go_wp2
                have n0_ := Aside0.mk (below_drew1 HB.out)
                clear HB
                have HB := n0_
                clear n0_
                have p101 : 0 ≤ (x5_1 : Int) := of_decide_eq_true (by first | (with_reducible assumption) | assumption)
                have q101 : x5_1 < (l0.length : Int) := of_decide_eq_true (by first | (with_reducible assumption) | assumption)
                obtain ⟨ad101, e101, hx101_0, hx101_1, hx101_2⟩ := at_T37 HR0.out x5_1 p101 q101
                have hw101_2 := hx101_2
                have hw101_1 := hx101_1
                have hw101_0 := hx101_0
                cases e101
                replace hx101_0 := (HB.out.cell (World.block_lt_of_cell? w _ hx101_0)).trans hx101_0
                replace hx101_1 := (HB.out.cell (World.block_lt_of_cell? w _ hx101_1)).trans hx101_1
                replace hx101_2 := (HB.out.cell (World.block_lt_of_cell? w _ hx101_2)).trans hx101_2
                replace p101 := eq_true p101
                replace q101 := eq_true q101
                have p102 : 0 ≤ (x5_1 : Int) := of_decide_eq_true (by first | (with_reducible assumption) | assumption)
                have q102 : x5_1 < (l1.length : Int) := of_decide_eq_true (by first | (with_reducible assumption) | assumption)
                obtain ⟨ad102, e102, hx102_0, hx102_1, hx102_2⟩ := at_T37 HR1.out x5_1 p102 q102
                have hw102_2 := hx102_2
                have hw102_1 := hx102_1
                have hw102_0 := hx102_0
                cases e102
                replace hx102_0 := (HB.out.cell (World.block_lt_of_cell? w _ hx102_0)).trans hx102_0
                replace hx102_1 := (HB.out.cell (World.block_lt_of_cell? w _ hx102_1)).trans hx102_1
                replace hx102_2 := (HB.out.cell (World.block_lt_of_cell? w _ hx102_2)).trans hx102_2
                replace p102 := eq_true p102
                replace q102 := eq_true q102
                refine start_ (n := 10) (S := fun w' => w'.cell? (ad101.add ((x5_1).toNat * 3)) = some (.int .i64 ((rd_T37 l0 x5_1).f0)) ∧ w'.cell? ⟨(ad101.add ((x5_1).toNat * 3)).block, (ad101.add ((x5_1).toNat * 3)).off + 1, none⟩ = some (.int .i64 ((rd_T37 l0 x5_1).f1)) ∧ w'.cell? ⟨(ad101.add ((x5_1).toNat * 3)).block, (ad101.add ((x5_1).toNat * 3)).off + 2, none⟩ = some (.string ((rd_T37 l0 x5_1).f2)) ∧ w'.cell? (ad102.add ((x5_1).toNat * 3)) = some (.int .i64 ((rd_T37 l1 x5_1).f0)) ∧ w'.cell? ⟨(ad102.add ((x5_1).toNat * 3)).block, (ad102.add ((x5_1).toNat * 3)).off + 1, none⟩ = some (.int .i64 ((rd_T37 l1 x5_1).f1)) ∧ w'.cell? ⟨(ad102.add ((x5_1).toNat * 3)).block, (ad102.add ((x5_1).toNat * 3)).off + 2, none⟩ = some (.string ((rd_T37 l1 x5_1).f2))) (ds := []) #[false, false, false, false, false, false, false, false, false, false] (by kernel_rfl) rfl rfl ⟨((HB.out.cell (World.block_lt_of_cell? w _ hw101_0)).trans hw101_0), ((HB.out.cell (World.block_lt_of_cell? w _ hw101_1)).trans hw101_1), ((HB.out.cell (World.block_lt_of_cell? w _ hw101_2)).trans hw101_2), ((HB.out.cell (World.block_lt_of_cell? w _ hw102_0)).trans hw102_0), ((HB.out.cell (World.block_lt_of_cell? w _ hw102_1)).trans hw102_1), ((HB.out.cell (World.block_lt_of_cell? w _ hw102_2)).trans hw102_2)⟩ (fun hHeld => ?_); refine with_tabW laws_eqInstrS.tab6 laws_eqInstrS.bits6 (fun HT_ HW_ => ?_)
                generalize wr.drew = w9 at HB hx101_0 hx101_1 hx101_2 hx102_0 hx102_1 hx102_2 hHeld ⊢
                refine pure_ (i := 0) (N := some 17) (v := ?_) (a' := ?_) #[true, false, false, false, false, false, false, false, false, false] rfl rfl (any_of HT_.out (by kernel_rfl)) (fun _ _ _ h => h) (Or.inl ⟨by rfl, ?_⟩) ?_ ?_
                rotate_left
                · intro w'
                  go_simp
                  with_reducible rfl
                rotate_left
                · simp only [Act.put, List.setIfInBounds_toArray, List.set_cons_zero, List.set_cons_succ, i64_w, i32_w]
                  rfl
                refine pure_ (i := 1) (N := some 18) (v := ?_) (a' := ?_) #[true, true, false, false, false, false, false, false, false, false] rfl rfl (any_of HT_.out (by kernel_rfl)) (fun _ _ _ h => h) (Or.inl ⟨by rfl, ?_⟩) ?_ ?_
                rotate_left
                · intro w'
                  go_simp
                  with_reducible rfl
                rotate_left
                · simp only [Act.put, List.setIfInBounds_toArray, List.set_cons_zero, List.set_cons_succ, i64_w, i32_w]
                  rfl
                refine pure_ (i := 2) (N := some 19) (v := ?_) (a' := ?_) #[true, true, true, false, false, false, false, false, false, false] rfl rfl (any_of HT_.out (by kernel_rfl)) (fun _ _ _ h => h) (Or.inl ⟨by rfl, ?_⟩) ?_ ?_
                rotate_left
                · intro w'
                  go_simp
                  with_reducible rfl
                rotate_left
                · simp only [Act.put, List.setIfInBounds_toArray, List.set_cons_zero, List.set_cons_succ, i64_w, i32_w]
                  rfl
                refine pure_ (i := 4) (N := some 21) (v := ?_) (a' := ?_) #[true, true, true, false, true, false, false, false, false, false] rfl rfl (any_of HT_.out (by kernel_rfl)) (fun _ _ _ h => h) (Or.inl ⟨by rfl, ?_⟩) ?_ ?_
                rotate_left
                · intro w'
                  go_simp
                  with_reducible rfl
                rotate_left
                · simp only [Act.put, List.setIfInBounds_toArray, List.set_cons_zero, List.set_cons_succ, i64_w, i32_w]
                  rfl
                refine pure_ (i := 5) (N := some 22) (v := ?_) (a' := ?_) #[true, true, true, false, true, true, false, false, false, false] rfl rfl (any_of HT_.out (by kernel_rfl)) (fun _ _ _ h => h) (Or.inl ⟨by rfl, ?_⟩) ?_ ?_
                rotate_left
                · intro w'
                  go_simp
                  with_reducible rfl
                rotate_left
                · simp only [Act.put, List.setIfInBounds_toArray, List.set_cons_zero, List.set_cons_succ, i64_w, i32_w]
                  rfl
                refine pure_ (i := 6) (N := some 23) (v := ?_) (a' := ?_) #[true, true, true, false, true, true, true, false, false, false] rfl rfl (any_of HT_.out (by kernel_rfl)) (fun _ _ _ h => h) (Or.inl ⟨by rfl, ?_⟩) ?_ ?_
                rotate_left
                · intro w'
                  go_simp
                  with_reducible rfl
                rotate_left
                · simp only [Act.put, List.setIfInBounds_toArray, List.set_cons_zero, List.set_cons_succ, i64_w, i32_w]
                  rfl
                refine take_ (i := 3) (N := some 20) (v := ?_) (a' := ?_) #[true, true, true, true, true, true, true, false, false, false] rfl rfl (take_ofW HT_.out HW_.out (by kernel_rfl)) (fun _ _ _ h => h) (Or.inl ⟨by rfl, ?_⟩) hHeld ?_ ?_
                rotate_left
                · rintro w' ⟨s0, s1, s2, s3, s4, s5⟩
                  go_simp
                  with_reducible rfl
                rotate_left
                · simp only [Act.put, List.setIfInBounds_toArray, List.set_cons_zero, List.set_cons_succ, i64_w, i32_w]
                  rfl
                refine take_ (i := 7) (N := some 24) (v := ?_) (a' := ?_) #[true, true, true, true, true, true, true, true, false, false] rfl rfl (take_ofW HT_.out HW_.out (by kernel_rfl)) (fun _ _ _ h => h) (Or.inl ⟨by rfl, ?_⟩) hHeld ?_ ?_
                rotate_left
                · rintro w' ⟨s0, s1, s2, s3, s4, s5⟩
                  go_simp
                  with_reducible rfl
                rotate_left
                · simp only [Act.put, List.setIfInBounds_toArray, List.set_cons_zero, List.set_cons_succ, i64_w, i32_w]
                  rfl
                refine one_ (i := 8) (N := some 25) #[true, true, true, true, true, true, true, true, true, false] rfl rfl (one_of HT_.out (by kernel_rfl)) (by decide) (fun K hK => ?_)
                refine goes_ Tryd.func25 (by kernel_rfl) rfl #[.agg #[.int .i64 ((rd_T37 l0 x5_1).f0), .int .i64 ((rd_T37 l0 x5_1).f1), .string ((rd_T37 l0 x5_1).f2)], .agg #[.int .i64 ((rd_T37 l1 x5_1).f0), .int .i64 ((rd_T37 l1 x5_1).f1), .string ((rd_T37 l1 x5_1).f2)]] (by rfl) rfl rfl (by (try simp only [List.map_toArray, List.map_cons, List.map_nil]); first | done | rfl | (simp only [List.length_drop, List.length_take]; rfl)) ?_
                with_reducible refine (laws_eqInstr.calls ((rd_T37 l0 x5_1).f0) ((rd_T37 l0 x5_1).f1) ((rd_T37 l0 x5_1).f2) ((rd_T37 l1 x5_1).f0) ((rd_T37 l1 x5_1).f1) ((rd_T37 l1 x5_1).f2) true _ A7.out).mono ?_
                rintro e w10 ⟨rfl, hb⟩
                refine ⟨_, rfl, ?_⟩
                have n0_ := Aside0.mk (below_step (by repeat (first | (with_reducible first | exact HB.out | apply below_alloc | apply pw_below_drewN | apply below_drew1) | exact HB.out)) hb)
                clear HB
                have HB := n0_
                clear n0_
                (try clear hb)
                (try clear hb2)
                (try clear hk)
                (try clear hi)
                refine hK.out _ _ ⟨((HB.out.cell (World.block_lt_of_cell? w _ hw101_0)).trans hw101_0), ((HB.out.cell (World.block_lt_of_cell? w _ hw101_1)).trans hw101_1), ((HB.out.cell (World.block_lt_of_cell? w _ hw101_2)).trans hw101_2), ((HB.out.cell (World.block_lt_of_cell? w _ hw102_0)).trans hw102_0), ((HB.out.cell (World.block_lt_of_cell? w _ hw102_1)).trans hw102_1), ((HB.out.cell (World.block_lt_of_cell? w _ hw102_2)).trans hw102_2)⟩ (fun hHeld => ?_)
                clear hK K
                refine norm_ (a' := ?_) ?_ ?_
                rotate_left
                · show Act.put _ (some 25) _ = _
                  simp only [Act.put, List.setIfInBounds_toArray, List.set_cons_zero, List.set_cons_succ, i64_w, i32_w]
                  rfl
                refine pure_ (i := 9) (N := some 26) (v := ?_) (a' := ?_) #[true, true, true, true, true, true, true, true, true, true] rfl rfl (any_of HT_.out (by kernel_rfl)) (fun _ _ _ h => h) (Or.inl ⟨by rfl, ?_⟩) ?_ ?_
                rotate_left
                · intro w'
                  go_simp
                  with_reducible rfl
                rotate_left
                · simp only [Act.put, List.setIfInBounds_toArray, List.set_cons_zero, List.set_cons_succ, i64_w, i32_w]
                  rfl
                refine done_ (done_of HT_.out (by kernel_rfl)) ?_
                try go_wp2
                go_roundg k1
                case measure => have := HK1.out; omega
                case rel => exact ⟨(wrap64 (x5_1 + 1)), (by first | rfl | (simp; done) | (simp [*]; done)), H', ⟨by have := HK1.out; omega⟩, ⟨by repeat (first | (with_reducible first | exact HB.out | apply below_alloc | apply pw_below_drewN | apply below_drew1) | exact HB.out)⟩⟩
              · replace c8 := Bool.eq_false_iff.mpr c8
                subst c8
                have H1 : (some false) = some r := by rw [if_neg (show ¬ (false = true) by decide)] at H; exact H
                clear H
                have H := H1
                clear H1
                obtain rfl := Option.some.inj H
                try go_wp2
                have n0_ := Aside0.mk (below_drew1 HB.out)
                clear HB
                have HB := n0_
                clear n0_
                have p101 : 0 ≤ (x5_1 : Int) := of_decide_eq_true (by first | (with_reducible assumption) | assumption)
                have q101 : x5_1 < (l0.length : Int) := of_decide_eq_true (by first | (with_reducible assumption) | assumption)
                obtain ⟨ad101, e101, hx101_0, hx101_1, hx101_2⟩ := at_T37 HR0.out x5_1 p101 q101
                have hw101_2 := hx101_2
                have hw101_1 := hx101_1
                have hw101_0 := hx101_0
                cases e101
                replace hx101_0 := (HB.out.cell (World.block_lt_of_cell? w _ hx101_0)).trans hx101_0
                replace hx101_1 := (HB.out.cell (World.block_lt_of_cell? w _ hx101_1)).trans hx101_1
                replace hx101_2 := (HB.out.cell (World.block_lt_of_cell? w _ hx101_2)).trans hx101_2
                replace p101 := eq_true p101
                replace q101 := eq_true q101
                have p102 : 0 ≤ (x5_1 : Int) := of_decide_eq_true (by first | (with_reducible assumption) | assumption)
                have q102 : x5_1 < (l1.length : Int) := of_decide_eq_true (by first | (with_reducible assumption) | assumption)
                obtain ⟨ad102, e102, hx102_0, hx102_1, hx102_2⟩ := at_T37 HR1.out x5_1 p102 q102
                have hw102_2 := hx102_2
                have hw102_1 := hx102_1
                have hw102_0 := hx102_0
                cases e102
                replace hx102_0 := (HB.out.cell (World.block_lt_of_cell? w _ hx102_0)).trans hx102_0
                replace hx102_1 := (HB.out.cell (World.block_lt_of_cell? w _ hx102_1)).trans hx102_1
                replace hx102_2 := (HB.out.cell (World.block_lt_of_cell? w _ hx102_2)).trans hx102_2
                replace p102 := eq_true p102
                replace q102 := eq_true q102
                refine start_ (n := 10) (S := fun w' => w'.cell? (ad101.add ((x5_1).toNat * 3)) = some (.int .i64 ((rd_T37 l0 x5_1).f0)) ∧ w'.cell? ⟨(ad101.add ((x5_1).toNat * 3)).block, (ad101.add ((x5_1).toNat * 3)).off + 1, none⟩ = some (.int .i64 ((rd_T37 l0 x5_1).f1)) ∧ w'.cell? ⟨(ad101.add ((x5_1).toNat * 3)).block, (ad101.add ((x5_1).toNat * 3)).off + 2, none⟩ = some (.string ((rd_T37 l0 x5_1).f2)) ∧ w'.cell? (ad102.add ((x5_1).toNat * 3)) = some (.int .i64 ((rd_T37 l1 x5_1).f0)) ∧ w'.cell? ⟨(ad102.add ((x5_1).toNat * 3)).block, (ad102.add ((x5_1).toNat * 3)).off + 1, none⟩ = some (.int .i64 ((rd_T37 l1 x5_1).f1)) ∧ w'.cell? ⟨(ad102.add ((x5_1).toNat * 3)).block, (ad102.add ((x5_1).toNat * 3)).off + 2, none⟩ = some (.string ((rd_T37 l1 x5_1).f2))) (ds := []) #[false, false, false, false, false, false, false, false, false, false] (by kernel_rfl) rfl rfl ⟨((HB.out.cell (World.block_lt_of_cell? w _ hw101_0)).trans hw101_0), ((HB.out.cell (World.block_lt_of_cell? w _ hw101_1)).trans hw101_1), ((HB.out.cell (World.block_lt_of_cell? w _ hw101_2)).trans hw101_2), ((HB.out.cell (World.block_lt_of_cell? w _ hw102_0)).trans hw102_0), ((HB.out.cell (World.block_lt_of_cell? w _ hw102_1)).trans hw102_1), ((HB.out.cell (World.block_lt_of_cell? w _ hw102_2)).trans hw102_2)⟩ (fun hHeld => ?_); refine with_tabW laws_eqInstrS.tab6 laws_eqInstrS.bits6 (fun HT_ HW_ => ?_)
                generalize wr.drew = w11 at HB hx101_0 hx101_1 hx101_2 hx102_0 hx102_1 hx102_2 hHeld ⊢
                refine pure_ (i := 0) (N := some 17) (v := ?_) (a' := ?_) #[true, false, false, false, false, false, false, false, false, false] rfl rfl (any_of HT_.out (by kernel_rfl)) (fun _ _ _ h => h) (Or.inl ⟨by rfl, ?_⟩) ?_ ?_
                rotate_left
                · intro w'
                  go_simp
                  with_reducible rfl
                rotate_left
                · simp only [Act.put, List.setIfInBounds_toArray, List.set_cons_zero, List.set_cons_succ, i64_w, i32_w]
                  rfl
                refine pure_ (i := 1) (N := some 18) (v := ?_) (a' := ?_) #[true, true, false, false, false, false, false, false, false, false] rfl rfl (any_of HT_.out (by kernel_rfl)) (fun _ _ _ h => h) (Or.inl ⟨by rfl, ?_⟩) ?_ ?_
                rotate_left
                · intro w'
                  go_simp
                  with_reducible rfl
                rotate_left
                · simp only [Act.put, List.setIfInBounds_toArray, List.set_cons_zero, List.set_cons_succ, i64_w, i32_w]
                  rfl
                refine pure_ (i := 2) (N := some 19) (v := ?_) (a' := ?_) #[true, true, true, false, false, false, false, false, false, false] rfl rfl (any_of HT_.out (by kernel_rfl)) (fun _ _ _ h => h) (Or.inl ⟨by rfl, ?_⟩) ?_ ?_
                rotate_left
                · intro w'
                  go_simp
                  with_reducible rfl
                rotate_left
                · simp only [Act.put, List.setIfInBounds_toArray, List.set_cons_zero, List.set_cons_succ, i64_w, i32_w]
                  rfl
                refine pure_ (i := 4) (N := some 21) (v := ?_) (a' := ?_) #[true, true, true, false, true, false, false, false, false, false] rfl rfl (any_of HT_.out (by kernel_rfl)) (fun _ _ _ h => h) (Or.inl ⟨by rfl, ?_⟩) ?_ ?_
                rotate_left
                · intro w'
                  go_simp
                  with_reducible rfl
                rotate_left
                · simp only [Act.put, List.setIfInBounds_toArray, List.set_cons_zero, List.set_cons_succ, i64_w, i32_w]
                  rfl
                refine pure_ (i := 5) (N := some 22) (v := ?_) (a' := ?_) #[true, true, true, false, true, true, false, false, false, false] rfl rfl (any_of HT_.out (by kernel_rfl)) (fun _ _ _ h => h) (Or.inl ⟨by rfl, ?_⟩) ?_ ?_
                rotate_left
                · intro w'
                  go_simp
                  with_reducible rfl
                rotate_left
                · simp only [Act.put, List.setIfInBounds_toArray, List.set_cons_zero, List.set_cons_succ, i64_w, i32_w]
                  rfl
                refine pure_ (i := 6) (N := some 23) (v := ?_) (a' := ?_) #[true, true, true, false, true, true, true, false, false, false] rfl rfl (any_of HT_.out (by kernel_rfl)) (fun _ _ _ h => h) (Or.inl ⟨by rfl, ?_⟩) ?_ ?_
                rotate_left
                · intro w'
                  go_simp
                  with_reducible rfl
                rotate_left
                · simp only [Act.put, List.setIfInBounds_toArray, List.set_cons_zero, List.set_cons_succ, i64_w, i32_w]
                  rfl
                refine take_ (i := 3) (N := some 20) (v := ?_) (a' := ?_) #[true, true, true, true, true, true, true, false, false, false] rfl rfl (take_ofW HT_.out HW_.out (by kernel_rfl)) (fun _ _ _ h => h) (Or.inl ⟨by rfl, ?_⟩) hHeld ?_ ?_
                rotate_left
                · rintro w' ⟨s0, s1, s2, s3, s4, s5⟩
                  go_simp
                  with_reducible rfl
                rotate_left
                · simp only [Act.put, List.setIfInBounds_toArray, List.set_cons_zero, List.set_cons_succ, i64_w, i32_w]
                  rfl
                refine take_ (i := 7) (N := some 24) (v := ?_) (a' := ?_) #[true, true, true, true, true, true, true, true, false, false] rfl rfl (take_ofW HT_.out HW_.out (by kernel_rfl)) (fun _ _ _ h => h) (Or.inl ⟨by rfl, ?_⟩) hHeld ?_ ?_
                rotate_left
                · rintro w' ⟨s0, s1, s2, s3, s4, s5⟩
                  go_simp
                  with_reducible rfl
                rotate_left
                · simp only [Act.put, List.setIfInBounds_toArray, List.set_cons_zero, List.set_cons_succ, i64_w, i32_w]
                  rfl
                refine one_ (i := 8) (N := some 25) #[true, true, true, true, true, true, true, true, true, false] rfl rfl (one_of HT_.out (by kernel_rfl)) (by decide) (fun K hK => ?_)
                refine goes_ Tryd.func25 (by kernel_rfl) rfl #[.agg #[.int .i64 ((rd_T37 l0 x5_1).f0), .int .i64 ((rd_T37 l0 x5_1).f1), .string ((rd_T37 l0 x5_1).f2)], .agg #[.int .i64 ((rd_T37 l1 x5_1).f0), .int .i64 ((rd_T37 l1 x5_1).f1), .string ((rd_T37 l1 x5_1).f2)]] (by rfl) rfl rfl (by (try simp only [List.map_toArray, List.map_cons, List.map_nil]); first | done | rfl | (simp only [List.length_drop, List.length_take]; rfl)) ?_
                with_reducible refine (laws_eqInstr.calls ((rd_T37 l0 x5_1).f0) ((rd_T37 l0 x5_1).f1) ((rd_T37 l0 x5_1).f2) ((rd_T37 l1 x5_1).f0) ((rd_T37 l1 x5_1).f1) ((rd_T37 l1 x5_1).f2) false _ A7.out).mono ?_
                rintro e w12 ⟨rfl, hb⟩
                refine ⟨_, rfl, ?_⟩
                have n0_ := Aside0.mk (below_step (by repeat (first | (with_reducible first | exact HB.out | apply below_alloc | apply pw_below_drewN | apply below_drew1) | exact HB.out)) hb)
                clear HB
                have HB := n0_
                clear n0_
                (try clear hb)
                (try clear hb2)
                (try clear hk)
                (try clear hi)
                refine hK.out _ _ ⟨((HB.out.cell (World.block_lt_of_cell? w _ hw101_0)).trans hw101_0), ((HB.out.cell (World.block_lt_of_cell? w _ hw101_1)).trans hw101_1), ((HB.out.cell (World.block_lt_of_cell? w _ hw101_2)).trans hw101_2), ((HB.out.cell (World.block_lt_of_cell? w _ hw102_0)).trans hw102_0), ((HB.out.cell (World.block_lt_of_cell? w _ hw102_1)).trans hw102_1), ((HB.out.cell (World.block_lt_of_cell? w _ hw102_2)).trans hw102_2)⟩ (fun hHeld => ?_)
                clear hK K
                refine norm_ (a' := ?_) ?_ ?_
                rotate_left
                · show Act.put _ (some 25) _ = _
                  simp only [Act.put, List.setIfInBounds_toArray, List.set_cons_zero, List.set_cons_succ, i64_w, i32_w]
                  rfl
                refine pure_ (i := 9) (N := some 26) (v := ?_) (a' := ?_) #[true, true, true, true, true, true, true, true, true, true] rfl rfl (any_of HT_.out (by kernel_rfl)) (fun _ _ _ h => h) (Or.inl ⟨by rfl, ?_⟩) ?_ ?_
                rotate_left
                · intro w'
                  go_simp
                  with_reducible rfl
                rotate_left
                · simp only [Act.put, List.setIfInBounds_toArray, List.set_cons_zero, List.set_cons_succ, i64_w, i32_w]
                  rfl
                refine done_ (done_of HT_.out (by kernel_rfl)) ?_
                try go_wp2
                go_ret
                exact ⟨by first | rfl | (simp [errW_none, errW_some] <;> rfl) | (simp [*, errW_none, errW_some] <;> rfl), by repeat (first | (with_reducible first | exact HB.out | apply below_alloc | apply pw_below_drewN | apply below_drew1) | exact HB.out)⟩
            · rw [if_neg c6] at H
              exact absurd H (by simp)
          · rw [if_neg c5] at H
            exact absurd H (by simp)
        · rw [if_neg c4] at H
          have c4b0 : decide (x5_1 < (l0.length : Int)) = false := decide_eq_false c4
          clear c4
          obtain rfl := Option.some.inj H
          go_wp2
          go_ret
          exact ⟨by first | rfl | (simp [errW_none, errW_some] <;> rfl) | (simp [*, errW_none, errW_some] <;> rfl), by repeat (first | (with_reducible first | exact HB.out | apply below_alloc | apply pw_below_drewN | apply below_drew1) | exact HB.out)⟩
  · rw [if_neg c3] at H
    have c3b0 : ((l0.length : Int) == (l1.length : Int)) = false := beq_eq_false_iff_ne.mpr c3
    have c3b1 : ((l0.length : Int) != (l1.length : Int)) = true := bne_iff_ne.mpr c3
    have c3b2 : (l0.length == l1.length) = false := by first | simpa using c3 | (simp at c3 ⊢; omega)
    obtain rfl := Option.some.inj H
    go_enter Tryd.func9, Tryd.ntmps9
    go_wp2
    go_ret
    exact ⟨by first | rfl | (simp [errW_none, errW_some] <;> rfl) | (simp [*, errW_none, errW_some] <;> rfl), by repeat (first | (with_reducible first | exact HB.out | apply below_alloc | apply pw_below_drewN | apply below_drew1) | exact HB.out)⟩

end Go.Proofs.YtlkgimnafnmgpaaDoor.G

namespace Go.Proofs.YtlkgimnafnmgpaaDoor.G
open Go.RowKit Go.Proofs.YtlkgimnafnmgpaaDoorW.PrintWords Go.Proofs.YtlkgimnafnmgpaaDoorW.PrintLast Go.Proofs.YtlkgimnafnmgpaaDoorW.PrintMore
attribute [local go_sem] max2_int min2_int max_two min_two max_three min_three max_four min_four   -- for this text's walks alone
set_option linter.unusedVariables false
set_option linter.unusedSimpArgs false

mutual
def laws_FnExactReadCode.j0 : Nat → ByteArray → List (S37) → Bool → List (S37) → Bool → Option (Bool)
  | 0, _, _, _, _, _ => none
  | k + 1, x0, x3, x4, x5, x32 => if x32 = true then (some false) else ((laws_markInstrS.f k x5 1).bind fun bt110 => ((laws_heldInstrS.f k bt110.2 1).bind fun t112 => (if t112 < 0 then (some false) else (if t112 = bt110.1 then ((impl_ReadCode.f k x0).bind fun bt113 => ((laws_eqInstrS.f k bt113.1 x3).bind fun t117 => (if t117 = true then (laws_FnExactReadCode.j1 k bt110.2 bt110.1 (bt113.2 != x4)) else (laws_FnExactReadCode.j1 k bt110.2 bt110.1 true)))) else (some false)))))
def laws_FnExactReadCode.j1 : Nat → List (S37) → Int → Bool → Option (Bool)
  | 0, _, _, _ => none
  | k + 1, x5, x7, x57 => if x57 = true then (some false) else ((laws_heldInstrS.f k x5 1).bind fun t118 => (if t118 < 0 then (some false) else (if t118 = x7 then (some true) else (some false))))
end
def laws_FnExactReadCode.f (k : Nat) (a0 : ByteArray) : Option (Bool) := if (a0.size : Int) > 1048576 then (some true) else ((spec_ReadCode.f k a0).bind fun bt101 => ((impl_ReadCode.f k a0).bind fun bt105 => ((laws_eqInstrS.f k bt105.1 bt101.1).bind fun t109 => (if t109 = true then (laws_FnExactReadCode.j0 k a0 bt101.1 bt101.2 bt105.1 (bt105.2 != bt101.2)) else (laws_FnExactReadCode.j0 k a0 bt101.1 bt101.2 bt105.1 true)))))
set_option maxHeartbeats 8000000 in
set_option maxRecDepth 100000 in
theorem laws_FnExactReadCode.calls (k : Nat) (a0 : ByteArray) (r : Bool) (w : World) (h : laws_FnExactReadCode.f k a0 = some r) (hE : Met w) :
    Calls Tryd.prog 4 #[.string a0] w fun e w' => e = .returned (.bool r) ∧ Below w.heap.size w w' := by
  have HB := Aside0.mk (Below.refl w.heap.size w)
  have HE := Aside0.mk hE
  clear hE
  have H : (if (a0.size : Int) > 1048576 then (some true) else ((spec_ReadCode.f k a0).bind fun bt101 => ((impl_ReadCode.f k a0).bind fun bt105 => ((laws_eqInstrS.f k bt105.1 bt101.1).bind fun t109 => (if t109 = true then (laws_FnExactReadCode.j0 k a0 bt101.1 bt101.2 bt105.1 (bt105.2 != bt101.2)) else (laws_FnExactReadCode.j0 k a0 bt101.1 bt101.2 bt105.1 true)))))) = some r := h
  clear h
  by_cases c2 : (a0.size : Int) > 1048576
  · rw [if_pos c2] at H
    have c2b0 : decide (1048576 < (a0.size : Int)) = true := decide_eq_true c2
    have c2b1 : decide (1048576 < a0.size) = true := decide_eq_true (by omega)
    clear c2
    obtain rfl := Option.some.inj H
    go_enter Tryd.func4, Tryd.ntmps4
    go_wp2
    go_ret
    exact ⟨by first | rfl | (simp [errW_none, errW_some] <;> rfl) | (simp [*, errW_none, errW_some] <;> rfl), by repeat (first | (with_reducible first | exact HB.out | apply below_alloc | apply pw_below_drewN | apply below_drew1) | exact HB.out)⟩
  · rw [if_neg c2] at H
    have c2b0 : decide (1048576 < (a0.size : Int)) = false := decide_eq_false c2
    have c2b1 : decide (1048576 < a0.size) = false := decide_eq_false (by omega)
    clear c2
    replace H := Option.bind_eq_some_iff.mp H
    obtain ⟨⟨t101, t102⟩, A30, H⟩ := H
    replace H : ((impl_ReadCode.f k a0).bind fun bt105 => ((laws_eqInstrS.f k bt105.1 t101).bind fun t109 => (if t109 = true then (laws_FnExactReadCode.j0 k a0 t101 t102 bt105.1 (bt105.2 != t102)) else (laws_FnExactReadCode.j0 k a0 t101 t102 bt105.1 true)))) = some r := H
    have A3 := Aside0.mk A30
    clear A30
    replace H := Option.bind_eq_some_iff.mp H
    obtain ⟨⟨t105, t106⟩, A40, H⟩ := H
    replace H : ((laws_eqInstrS.f k t105 t101).bind fun t109 => (if t109 = true then (laws_FnExactReadCode.j0 k a0 t101 t102 t105 (t106 != t102)) else (laws_FnExactReadCode.j0 k a0 t101 t102 t105 true))) = some r := H
    have A4 := Aside0.mk A40
    clear A40
    have HC5 := Aside0.mk H
    clear H
    go_enter Tryd.func4, Tryd.ntmps4
    go_upto_region 5 with (first | ((with_reducible refine gate_callee (f := 10) rfl ?_); refine goesL_ (some 16) rfl rfl Tryd.func10 (by kernel_rfl) rfl #[.string a0] rfl (by (try simp only [List.map_toArray, List.map_cons, List.map_nil]); first | done | rfl | (simp only [List.length_drop, List.length_take]; rfl)) ?_; (with_reducible refine (spec_ReadCode.calls k a0 t101 t102 _ A3.out).mono ?_); rintro e w6 ⟨v103, rfl, ho0, hb⟩; refine ⟨_, rfl, ?_⟩; have n0_ := Aside0.mk (Kd.R_lower ho0 (below_size (by repeat (first | (with_reducible first | exact HB.out | apply below_alloc | apply pw_below_drewN | apply below_drew1) | exact HB.out)))); have n1_ := Aside0.mk (below_step (by repeat (first | (with_reducible first | exact HB.out | apply below_alloc | apply pw_below_drewN | apply below_drew1) | exact HB.out)) hb); clear HB; have HO104 := n0_; have HB := n1_; clear n0_ n1_; (try clear hb); (try clear hb2); (try clear hk); (try clear hi); (try clear ho0)) | ((with_reducible refine gate_callee (f := 11) rfl ?_); refine goesL_ (some 21) rfl rfl Tryd.func11 (by kernel_rfl) rfl #[.string a0] rfl (by (try simp only [List.map_toArray, List.map_cons, List.map_nil]); first | done | rfl | (simp only [List.length_drop, List.length_take]; rfl)) ?_; (with_reducible refine (impl_ReadCode.calls k a0 t105 t106 _ A4.out (HE.out.below (by repeat (first | (with_reducible first | exact HB.out | apply below_alloc | apply pw_below_drewN | apply below_drew1) | exact HB.out)))).mono ?_); rintro e w7 ⟨v107, rfl, ho0, hb⟩; refine ⟨_, rfl, ?_⟩; have n0_ := Aside0.mk (Kd.R_elder' (by (with_reducible repeat (first | apply Kd.R_alloc | apply Kd.R_drewN | apply Kd.R_drew)); exact HO104.out) (Kd.R_base ho0) hb); have n1_ := Aside0.mk (Kd.R_lower (Kd.R_new' ho0 (Kd.R_lt (by (with_reducible repeat (first | apply Kd.R_alloc | apply Kd.R_drewN | apply Kd.R_drew)); exact HO104.out))) (below_size (by repeat (first | (with_reducible first | exact HB.out | apply below_alloc | apply pw_below_drewN | apply below_drew1) | exact HB.out)))); have n2_ := Aside0.mk (below_step (by repeat (first | (with_reducible first | exact HB.out | apply below_alloc | apply pw_below_drewN | apply below_drew1) | exact HB.out)) hb); clear HO104; clear HB; have HO104 := n0_; have HO108 := n1_; have HB := n2_; clear n0_ n1_ n2_; (try clear hb); (try clear hb2); (try clear hk); (try clear hi); (try clear ho0)))
    (try simp only [Act.put, List.setIfInBounds_toArray, List.set_cons_zero, List.set_cons_succ])
    go_cut [32] (fun v32 wc => ∃ (kq : Nat) (x32_4 : Bool), v32 = .bool x32_4 ∧ Aside0 (laws_FnExactReadCode.j0 kq a0 t101 t102 t105 x32_4 = some r) ∧ Aside0 (kq ≤ k) ∧ Aside0 (Kd.R k37 37 wc w.heap.size (fun k_ => some k_ ≠ (v107 : Value).ownBlock) v103 t101) ∧ Aside0 (Kd.R k37 37 wc w.heap.size (fun k_ => some k_ ≠ (v103 : Value).ownBlock) v107 t105) ∧ Aside0 (Below w.heap.size w wc))
    case first =>
      have H := HC5.out
      clear HC5
      replace H := Option.bind_eq_some_iff.mp H
      obtain ⟨t109, A80, H⟩ := H
      replace H : (if t109 = true then (laws_FnExactReadCode.j0 k a0 t101 t102 t105 (t106 != t102)) else (laws_FnExactReadCode.j0 k a0 t101 t102 t105 true)) = some r := H
      have A8 := Aside0.mk A80
      clear A80
      by_cases c9 : t109 = true
      · subst c9
        have H1 : (laws_FnExactReadCode.j0 k a0 t101 t102 t105 (t106 != t102)) = some r := by rw [if_pos rfl] at H; exact H
        clear H
        have H := H1
        clear H1
        have H' := Aside0.mk H
        clear H
        obtain ⟨Ao10, co10, eo10⟩ := Kd.R_slice HO108.out
        subst eo10
        obtain ⟨Ao11, co11, eo11⟩ := Kd.R_slice HO104.out
        subst eo11
        go_wp2_with (first | ((with_reducible refine gate_callee (f := 9) rfl ?_); refine goesL_ (some 26) rfl rfl Tryd.func9 (by kernel_rfl) rfl #[.slice Ao10 t105.length co10, .slice Ao11 t101.length co11] rfl (by (try simp only [List.map_toArray, List.map_cons, List.map_nil]); first | done | rfl | (simp only [List.length_drop, List.length_take]; rfl)) ?_; (with_reducible refine (laws_eqInstrS.calls k _ _ t105 _ _ t101 true _ ?side1 ?side2 ?side3 ?side4 A8.out).mono ?_); (case side1 => repeat (first | exact (Kd.R_reads' HO108.out).2.2 | (with_reducible refine Kd.C_alloc ?_ _) | (with_reducible refine Kd.C_drewN ?_ _) | (with_reducible refine Kd.C_drew ?_))); (case side2 => exact (Kd.R_reads' HO108.out).2.1); (case side3 => repeat (first | exact (Kd.R_reads' HO104.out).2.2 | (with_reducible refine Kd.C_alloc ?_ _) | (with_reducible refine Kd.C_drewN ?_ _) | (with_reducible refine Kd.C_drew ?_))); (case side4 => exact (Kd.R_reads' HO104.out).2.1); rintro e w12 ⟨rfl, hb⟩; refine ⟨_, rfl, ?_⟩; have n0_ := Aside0.mk (Kd.R_below (by (with_reducible repeat (first | apply Kd.R_alloc | apply Kd.R_drewN | apply Kd.R_drew)); exact HO104.out) hb); have n1_ := Aside0.mk (Kd.R_below (by (with_reducible repeat (first | apply Kd.R_alloc | apply Kd.R_drewN | apply Kd.R_drew)); exact HO108.out) hb); have n2_ := Aside0.mk (below_step (by repeat (first | (with_reducible first | exact HB.out | apply below_alloc | apply pw_below_drewN | apply below_drew1) | exact HB.out)) hb); clear HO104; clear HO108; clear HB; have HO104 := n0_; have HO108 := n1_; have HB := n2_; clear n0_ n1_ n2_; (try clear hb); (try clear hb2); (try clear hk); (try clear hi)))
        go_meet
        case rel => exact ⟨_, ((t106 != t102)), (by first | rfl | (simp; done) | (simp [*]; done)), H', ⟨by first | omega | exact Nat.le_refl _⟩, ⟨by (with_reducible repeat (first | apply Kd.R_alloc | apply Kd.R_drewN | apply Kd.R_drew)); exact Kd.R_mono HO104.out (fun _ hk => hk.2)⟩, ⟨by (with_reducible repeat (first | apply Kd.R_alloc | apply Kd.R_drewN | apply Kd.R_drew)); exact Kd.R_mono HO108.out (fun _ hk => hk.2)⟩, ⟨by repeat (first | (with_reducible first | exact HB.out | apply below_alloc | apply pw_below_drewN | apply below_drew1) | exact HB.out)⟩⟩
      · replace c9 := Bool.eq_false_iff.mpr c9
        subst c9
        have H1 : (laws_FnExactReadCode.j0 k a0 t101 t102 t105 true) = some r := by rw [if_neg (show ¬ (false = true) by decide)] at H; exact H
        clear H
        have H := H1
        clear H1
        have H' := Aside0.mk H
        clear H
        obtain ⟨Ao13, co13, eo13⟩ := Kd.R_slice HO108.out
        subst eo13
        obtain ⟨Ao14, co14, eo14⟩ := Kd.R_slice HO104.out
        subst eo14
        go_wp2_with (first | ((with_reducible refine gate_callee (f := 9) rfl ?_); refine goesL_ (some 26) rfl rfl Tryd.func9 (by kernel_rfl) rfl #[.slice Ao13 t105.length co13, .slice Ao14 t101.length co14] rfl (by (try simp only [List.map_toArray, List.map_cons, List.map_nil]); first | done | rfl | (simp only [List.length_drop, List.length_take]; rfl)) ?_; (with_reducible refine (laws_eqInstrS.calls k _ _ t105 _ _ t101 false _ ?side1 ?side2 ?side3 ?side4 A8.out).mono ?_); (case side1 => repeat (first | exact (Kd.R_reads' HO108.out).2.2 | (with_reducible refine Kd.C_alloc ?_ _) | (with_reducible refine Kd.C_drewN ?_ _) | (with_reducible refine Kd.C_drew ?_))); (case side2 => exact (Kd.R_reads' HO108.out).2.1); (case side3 => repeat (first | exact (Kd.R_reads' HO104.out).2.2 | (with_reducible refine Kd.C_alloc ?_ _) | (with_reducible refine Kd.C_drewN ?_ _) | (with_reducible refine Kd.C_drew ?_))); (case side4 => exact (Kd.R_reads' HO104.out).2.1); rintro e w15 ⟨rfl, hb⟩; refine ⟨_, rfl, ?_⟩; have n0_ := Aside0.mk (Kd.R_below (by (with_reducible repeat (first | apply Kd.R_alloc | apply Kd.R_drewN | apply Kd.R_drew)); exact HO104.out) hb); have n1_ := Aside0.mk (Kd.R_below (by (with_reducible repeat (first | apply Kd.R_alloc | apply Kd.R_drewN | apply Kd.R_drew)); exact HO108.out) hb); have n2_ := Aside0.mk (below_step (by repeat (first | (with_reducible first | exact HB.out | apply below_alloc | apply pw_below_drewN | apply below_drew1) | exact HB.out)) hb); clear HO104; clear HO108; clear HB; have HO104 := n0_; have HO108 := n1_; have HB := n2_; clear n0_ n1_ n2_; (try clear hb); (try clear hb2); (try clear hk); (try clear hi)))
        go_meet
        case rel => exact ⟨_, (true), (by first | rfl | (simp; done) | (simp [*]; done)), H', ⟨by first | omega | exact Nat.le_refl _⟩, ⟨by (with_reducible repeat (first | apply Kd.R_alloc | apply Kd.R_drewN | apply Kd.R_drew)); exact Kd.R_mono HO104.out (fun _ hk => hk.2)⟩, ⟨by (with_reducible repeat (first | apply Kd.R_alloc | apply Kd.R_drewN | apply Kd.R_drew)); exact Kd.R_mono HO108.out (fun _ hk => hk.2)⟩, ⟨by repeat (first | (with_reducible first | exact HB.out | apply below_alloc | apply pw_below_drewN | apply below_drew1) | exact HB.out)⟩⟩
    case rest =>
      clear HC5
      try clear c1
      try clear c2
      try clear c2b0
      try clear c2b1
      try clear p2
      try clear c4
      try clear c9
      try clear c10
      try clear c11
      obtain ⟨kq, x32_4, rfl, HA, HJ4, HO_3, HO_5, HB⟩ := hcut
      cases kq with
      | zero => exact absurd HA.out (by simp [laws_FnExactReadCode.j0])
      | succ kj4 =>
        have H := HA.out
        clear HA
        simp only [laws_FnExactReadCode.j0] at H
        by_cases c16 : x32_4 = true
        · subst c16
          have H1 : (some false) = some r := by rw [if_pos rfl] at H; exact H
          clear H
          have H := H1
          clear H1
          obtain rfl := Option.some.inj H
          go_wp2
          go_ret
          exact ⟨by first | rfl | (simp [errW_none, errW_some] <;> rfl) | (simp [*, errW_none, errW_some] <;> rfl), by repeat (first | (with_reducible first | exact HB.out | apply below_alloc | apply pw_below_drewN | apply below_drew1) | exact HB.out)⟩
        · replace c16 := Bool.eq_false_iff.mpr c16
          subst c16
          have H1 : ((laws_markInstrS.f kj4 t105 1).bind fun bt110 => ((laws_heldInstrS.f kj4 bt110.2 1).bind fun t112 => (if t112 < 0 then (some false) else (if t112 = bt110.1 then ((impl_ReadCode.f kj4 a0).bind fun bt113 => ((laws_eqInstrS.f kj4 bt113.1 t101).bind fun t117 => (if t117 = true then (laws_FnExactReadCode.j1 kj4 bt110.2 bt110.1 (bt113.2 != t102)) else (laws_FnExactReadCode.j1 kj4 bt110.2 bt110.1 true)))) else (some false))))) = some r := by rw [if_neg (show ¬ (false = true) by decide)] at H; exact H
          clear H
          have H := H1
          clear H1
          replace H := Option.bind_eq_some_iff.mp H
          obtain ⟨⟨t110, t111⟩, A170, H⟩ := H
          replace H : ((laws_heldInstrS.f kj4 t111 1).bind fun t112 => (if t112 < 0 then (some false) else (if t112 = t110 then ((impl_ReadCode.f kj4 a0).bind fun bt113 => ((laws_eqInstrS.f kj4 bt113.1 t101).bind fun t117 => (if t117 = true then (laws_FnExactReadCode.j1 kj4 t111 t110 (bt113.2 != t102)) else (laws_FnExactReadCode.j1 kj4 t111 t110 true)))) else (some false)))) = some r := H
          have A17 := Aside0.mk A170
          clear A170
          replace H := Option.bind_eq_some_iff.mp H
          obtain ⟨t112, A180, H⟩ := H
          replace H : (if t112 < 0 then (some false) else (if t112 = t110 then ((impl_ReadCode.f kj4 a0).bind fun bt113 => ((laws_eqInstrS.f kj4 bt113.1 t101).bind fun t117 => (if t117 = true then (laws_FnExactReadCode.j1 kj4 t111 t110 (bt113.2 != t102)) else (laws_FnExactReadCode.j1 kj4 t111 t110 true)))) else (some false))) = some r := H
          have A18 := Aside0.mk A180
          clear A180
          by_cases c19 : t112 < 0
          · rw [if_pos c19] at H
            have c19b0 : decide (t112 < 0) = true := decide_eq_true c19
            clear c19
            obtain rfl := Option.some.inj H
            obtain ⟨Ao20, co20, eo20⟩ := Kd.R_slice HO_5.out
            subst eo20
            go_wp2_with (first | ((with_reducible refine gate_callee (f := 12) rfl ?_); refine goesL_ (some 35) rfl rfl Tryd.func12 (by kernel_rfl) rfl #[.slice Ao20 t105.length co20, .int .i64 1] rfl (by (try simp only [List.map_toArray, List.map_cons, List.map_nil]); first | done | rfl | (simp only [List.length_drop, List.length_take]; rfl)) ?_; (with_reducible refine (laws_markInstrS.calls kj4 (fun k_ => some k_ = (.slice Ao20 t105.length co20 : Value).ownBlock) (.slice Ao20 t105.length co20) t105 1 t110 t111 w _ ?side1 ?side2 A17.out).mono ?_); (case side1 => repeat (first | (with_reducible first | exact HB.out | apply below_alloc | apply pw_below_drewN | apply below_drew1) | exact HB.out)); (case side2 => exact Kd.R_tight rfl HO_5.out); rintro e w21 ⟨rfl, hy0, hb, hkp⟩; refine ⟨_, rfl, ?_⟩; have n0_ := Aside0.mk (Kd.R_mono (ok' := fun k_ => some k_ ≠ (.slice Ao20 t105.length co20 : Value).ownBlock) (Kd.R_keptB (HO_3.out) hkp (fun k_ hk_ hs_ => (hk_) hs_)) (fun k_ hk_ => hk_.1)); have n1_ := Aside0.mk (Kd.R_reok rfl hy0 (fun k_ e_ => HO_5.out.1 k_ e_)); have n2_ := Aside0.mk (hb); clear HO_3; clear HO_5; clear HB; have HO_3 := n0_; have HO_5 := n1_; have HB := n2_; clear n0_ n1_ n2_; (try clear hb); (try clear hkp); (try clear hy0)) | ((with_reducible refine gate_callee (f := 13) rfl ?_); refine goesL_ (some 38) rfl rfl Tryd.func13 (by kernel_rfl) rfl #[.slice Ao20 t111.length co20, .int .i64 1] rfl (by (try simp only [List.map_toArray, List.map_cons, List.map_nil]); first | done | (rw [show t111.length = t105.length from (Kd.R_reads' HO_5.out).1.symm] <;> rfl) | rfl | (simp only [List.length_drop, List.length_take]; rfl)) ?_; (with_reducible refine (laws_heldInstrS.calls kj4 _ _ t111 1 t112 _ ?side1 ?side2 A18.out).mono ?_); (case side1 => repeat (first | exact (Kd.R_reads' HO_5.out).2.2 | (with_reducible refine Kd.C_alloc ?_ _) | (with_reducible refine Kd.C_drewN ?_ _) | (with_reducible refine Kd.C_drew ?_))); (case side2 => rw [show t111.length = t105.length from (Kd.R_reads' HO_5.out).1.symm]; exact (Kd.R_reads' HO_5.out).2.1); rintro e w22 ⟨rfl, hb⟩; refine ⟨_, rfl, ?_⟩; have n0_ := Aside0.mk (Kd.R_below (by (with_reducible repeat (first | apply Kd.R_alloc | apply Kd.R_drewN | apply Kd.R_drew)); exact HO_3.out) hb); have n1_ := Aside0.mk (Kd.R_below (by (with_reducible repeat (first | apply Kd.R_alloc | apply Kd.R_drewN | apply Kd.R_drew)); exact HO_5.out) hb); have n2_ := Aside0.mk (below_step (by repeat (first | (with_reducible first | exact HB.out | apply below_alloc | apply pw_below_drewN | apply below_drew1) | exact HB.out)) hb); clear HO_3; clear HO_5; clear HB; have HO_3 := n0_; have HO_5 := n1_; have HB := n2_; clear n0_ n1_ n2_; (try clear hb); (try clear hb2); (try clear hk); (try clear hi)))
            go_ret
            exact ⟨by first | rfl | (simp [errW_none, errW_some] <;> rfl) | (simp [*, errW_none, errW_some] <;> rfl), by repeat (first | (with_reducible first | exact HB.out | apply below_alloc | apply pw_below_drewN | apply below_drew1) | exact HB.out)⟩
          · rw [if_neg c19] at H
            have c19b0 : decide (t112 < 0) = false := decide_eq_false c19
            clear c19
            by_cases c23 : t112 = t110
            · rw [if_pos c23] at H
              have c23b0 : (t112 == t110) = true := beq_iff_eq.mpr c23
              have c23b1 : (t112 != t110) = false := bne_eq_false_iff_eq.mpr c23
              clear c23
              replace H := Option.bind_eq_some_iff.mp H
              obtain ⟨⟨t113, t114⟩, A240, H⟩ := H
              replace H : ((laws_eqInstrS.f kj4 t113 t101).bind fun t117 => (if t117 = true then (laws_FnExactReadCode.j1 kj4 t111 t110 (t114 != t102)) else (laws_FnExactReadCode.j1 kj4 t111 t110 true))) = some r := H
              have A24 := Aside0.mk A240
              clear A240
              have HC25 := Aside0.mk H
              clear H
              obtain ⟨Ao26, co26, eo26⟩ := Kd.R_slice HO_5.out
              subst eo26
              go_upto_region 16 with (first | ((with_reducible refine gate_callee (f := 12) rfl ?_); refine goesL_ (some 35) rfl rfl Tryd.func12 (by kernel_rfl) rfl #[.slice Ao26 t105.length co26, .int .i64 1] rfl (by (try simp only [List.map_toArray, List.map_cons, List.map_nil]); first | done | rfl | (simp only [List.length_drop, List.length_take]; rfl)) ?_; (with_reducible refine (laws_markInstrS.calls kj4 (fun k_ => some k_ = (.slice Ao26 t105.length co26 : Value).ownBlock) (.slice Ao26 t105.length co26) t105 1 t110 t111 w _ ?side1 ?side2 A17.out).mono ?_); (case side1 => repeat (first | (with_reducible first | exact HB.out | apply below_alloc | apply pw_below_drewN | apply below_drew1) | exact HB.out)); (case side2 => exact Kd.R_tight rfl HO_5.out); rintro e w27 ⟨rfl, hy0, hb, hkp⟩; refine ⟨_, rfl, ?_⟩; have n0_ := Aside0.mk (Kd.R_mono (ok' := fun k_ => some k_ ≠ (.slice Ao26 t105.length co26 : Value).ownBlock) (Kd.R_keptB (HO_3.out) hkp (fun k_ hk_ hs_ => (hk_) hs_)) (fun k_ hk_ => hk_.1)); have n1_ := Aside0.mk (Kd.R_reok rfl hy0 (fun k_ e_ => HO_5.out.1 k_ e_)); have n2_ := Aside0.mk (hb); clear HO_3; clear HO_5; clear HB; have HO_3 := n0_; have HO_5 := n1_; have HB := n2_; clear n0_ n1_ n2_; (try clear hb); (try clear hkp); (try clear hy0)) | ((with_reducible refine gate_callee (f := 13) rfl ?_); refine goesL_ (some 38) rfl rfl Tryd.func13 (by kernel_rfl) rfl #[.slice Ao26 t111.length co26, .int .i64 1] rfl (by (try simp only [List.map_toArray, List.map_cons, List.map_nil]); first | done | (rw [show t111.length = t105.length from (Kd.R_reads' HO_5.out).1.symm] <;> rfl) | rfl | (simp only [List.length_drop, List.length_take]; rfl)) ?_; (with_reducible refine (laws_heldInstrS.calls kj4 _ _ t111 1 t112 _ ?side1 ?side2 A18.out).mono ?_); (case side1 => repeat (first | exact (Kd.R_reads' HO_5.out).2.2 | (with_reducible refine Kd.C_alloc ?_ _) | (with_reducible refine Kd.C_drewN ?_ _) | (with_reducible refine Kd.C_drew ?_))); (case side2 => rw [show t111.length = t105.length from (Kd.R_reads' HO_5.out).1.symm]; exact (Kd.R_reads' HO_5.out).2.1); rintro e w28 ⟨rfl, hb⟩; refine ⟨_, rfl, ?_⟩; have n0_ := Aside0.mk (Kd.R_below (by (with_reducible repeat (first | apply Kd.R_alloc | apply Kd.R_drewN | apply Kd.R_drew)); exact HO_3.out) hb); have n1_ := Aside0.mk (Kd.R_below (by (with_reducible repeat (first | apply Kd.R_alloc | apply Kd.R_drewN | apply Kd.R_drew)); exact HO_5.out) hb); have n2_ := Aside0.mk (below_step (by repeat (first | (with_reducible first | exact HB.out | apply below_alloc | apply pw_below_drewN | apply below_drew1) | exact HB.out)) hb); clear HO_3; clear HO_5; clear HB; have HO_3 := n0_; have HO_5 := n1_; have HB := n2_; clear n0_ n1_ n2_; (try clear hb); (try clear hb2); (try clear hk); (try clear hi)) | ((with_reducible refine gate_callee (f := 11) rfl ?_); refine goesL_ (some 46) rfl rfl Tryd.func11 (by kernel_rfl) rfl #[.string a0] rfl (by (try simp only [List.map_toArray, List.map_cons, List.map_nil]); first | done | rfl | (simp only [List.length_drop, List.length_take]; rfl)) ?_; (with_reducible refine (impl_ReadCode.calls kj4 a0 t113 t114 _ A24.out (HE.out.below (by repeat (first | (with_reducible first | exact HB.out | apply below_alloc | apply pw_below_drewN | apply below_drew1) | exact HB.out)))).mono ?_); rintro e w29 ⟨v115, rfl, ho0, hb⟩; refine ⟨_, rfl, ?_⟩; have n0_ := Aside0.mk (Kd.R_elder' (by (with_reducible repeat (first | apply Kd.R_alloc | apply Kd.R_drewN | apply Kd.R_drew)); exact HO_3.out) (Kd.R_base ho0) hb); have n1_ := Aside0.mk (Kd.R_elder' (by (with_reducible repeat (first | apply Kd.R_alloc | apply Kd.R_drewN | apply Kd.R_drew)); exact HO_5.out) (Kd.R_base ho0) hb); have n2_ := Aside0.mk (Kd.R_lower (Kd.R_new' (Kd.R_new' ho0 (Kd.R_lt (by (with_reducible repeat (first | apply Kd.R_alloc | apply Kd.R_drewN | apply Kd.R_drew)); exact HO_3.out))) (Kd.R_lt (by (with_reducible repeat (first | apply Kd.R_alloc | apply Kd.R_drewN | apply Kd.R_drew)); exact HO_5.out))) (below_size (by repeat (first | (with_reducible first | exact HB.out | apply below_alloc | apply pw_below_drewN | apply below_drew1) | exact HB.out)))); have n3_ := Aside0.mk (below_step (by repeat (first | (with_reducible first | exact HB.out | apply below_alloc | apply pw_below_drewN | apply below_drew1) | exact HB.out)) hb); clear HO_3; clear HO_5; clear HB; have HO_3 := n0_; have HO_5 := n1_; have HO116 := n2_; have HB := n3_; clear n0_ n1_ n2_ n3_; (try clear hb); (try clear hb2); (try clear hk); (try clear hi); (try clear ho0)))
              (try simp only [Act.put, List.setIfInBounds_toArray, List.set_cons_zero, List.set_cons_succ])
              go_cut [57] (fun v57 wc => ∃ (kq : Nat) (x57_24 : Bool), v57 = .bool x57_24 ∧ Aside0 (laws_FnExactReadCode.j1 kq t111 t110 x57_24 = some r) ∧ Aside0 (kq ≤ kj4) ∧ Aside0 (Kd.R k37 37 wc w.heap.size (fun _ => True) (.slice Ao26 t105.length co26) t111) ∧ Aside0 (Below w.heap.size w wc))
              case first =>
                have H := HC25.out
                clear HC25
                replace H := Option.bind_eq_some_iff.mp H
                obtain ⟨t117, A300, H⟩ := H
                replace H : (if t117 = true then (laws_FnExactReadCode.j1 kj4 t111 t110 (t114 != t102)) else (laws_FnExactReadCode.j1 kj4 t111 t110 true)) = some r := H
                have A30 := Aside0.mk A300
                clear A300
                by_cases c31 : t117 = true
                · subst c31
                  have H1 : (laws_FnExactReadCode.j1 kj4 t111 t110 (t114 != t102)) = some r := by rw [if_pos rfl] at H; exact H
                  clear H
                  have H := H1
                  clear H1
                  have H' := Aside0.mk H
                  clear H
                  obtain ⟨Ao32, co32, eo32⟩ := Kd.R_slice HO116.out
                  subst eo32
                  obtain ⟨Ao33, co33, eo33⟩ := Kd.R_slice HO_3.out
                  subst eo33
                  go_wp2_with (first | ((with_reducible refine gate_callee (f := 9) rfl ?_); refine goesL_ (some 51) rfl rfl Tryd.func9 (by kernel_rfl) rfl #[.slice Ao32 t113.length co32, .slice Ao33 t101.length co33] rfl (by (try simp only [List.map_toArray, List.map_cons, List.map_nil]); first | done | rfl | (simp only [List.length_drop, List.length_take]; rfl)) ?_; (with_reducible refine (laws_eqInstrS.calls kj4 _ _ t113 _ _ t101 true _ ?side1 ?side2 ?side3 ?side4 A30.out).mono ?_); (case side1 => repeat (first | exact (Kd.R_reads' HO116.out).2.2 | (with_reducible refine Kd.C_alloc ?_ _) | (with_reducible refine Kd.C_drewN ?_ _) | (with_reducible refine Kd.C_drew ?_))); (case side2 => exact (Kd.R_reads' HO116.out).2.1); (case side3 => repeat (first | exact (Kd.R_reads' HO_3.out).2.2 | (with_reducible refine Kd.C_alloc ?_ _) | (with_reducible refine Kd.C_drewN ?_ _) | (with_reducible refine Kd.C_drew ?_))); (case side4 => exact (Kd.R_reads' HO_3.out).2.1); rintro e w34 ⟨rfl, hb⟩; refine ⟨_, rfl, ?_⟩; have n0_ := Aside0.mk (Kd.R_below (by (with_reducible repeat (first | apply Kd.R_alloc | apply Kd.R_drewN | apply Kd.R_drew)); exact HO_3.out) hb); have n1_ := Aside0.mk (Kd.R_below (by (with_reducible repeat (first | apply Kd.R_alloc | apply Kd.R_drewN | apply Kd.R_drew)); exact HO_5.out) hb); have n2_ := Aside0.mk (Kd.R_below (by (with_reducible repeat (first | apply Kd.R_alloc | apply Kd.R_drewN | apply Kd.R_drew)); exact HO116.out) hb); have n3_ := Aside0.mk (below_step (by repeat (first | (with_reducible first | exact HB.out | apply below_alloc | apply pw_below_drewN | apply below_drew1) | exact HB.out)) hb); clear HO_3; clear HO_5; clear HO116; clear HB; have HO_3 := n0_; have HO_5 := n1_; have HO116 := n2_; have HB := n3_; clear n0_ n1_ n2_ n3_; (try clear hb); (try clear hb2); (try clear hk); (try clear hi)))
                  go_meet
                  case rel => exact ⟨_, ((t114 != t102)), (by first | rfl | (simp; done) | (simp [*]; done)), H', ⟨by have := HJ4.out; first | omega | exact Nat.le_refl _⟩, ⟨by (with_reducible repeat (first | apply Kd.R_alloc | apply Kd.R_drewN | apply Kd.R_drew)); exact Kd.R_mono HO_5.out (fun _ hk => trivial)⟩, ⟨by repeat (first | (with_reducible first | exact HB.out | apply below_alloc | apply pw_below_drewN | apply below_drew1) | exact HB.out)⟩⟩
                · replace c31 := Bool.eq_false_iff.mpr c31
                  subst c31
                  have H1 : (laws_FnExactReadCode.j1 kj4 t111 t110 true) = some r := by rw [if_neg (show ¬ (false = true) by decide)] at H; exact H
                  clear H
                  have H := H1
                  clear H1
                  have H' := Aside0.mk H
                  clear H
                  obtain ⟨Ao35, co35, eo35⟩ := Kd.R_slice HO116.out
                  subst eo35
                  obtain ⟨Ao36, co36, eo36⟩ := Kd.R_slice HO_3.out
                  subst eo36
                  go_wp2_with (first | ((with_reducible refine gate_callee (f := 9) rfl ?_); refine goesL_ (some 51) rfl rfl Tryd.func9 (by kernel_rfl) rfl #[.slice Ao35 t113.length co35, .slice Ao36 t101.length co36] rfl (by (try simp only [List.map_toArray, List.map_cons, List.map_nil]); first | done | rfl | (simp only [List.length_drop, List.length_take]; rfl)) ?_; (with_reducible refine (laws_eqInstrS.calls kj4 _ _ t113 _ _ t101 false _ ?side1 ?side2 ?side3 ?side4 A30.out).mono ?_); (case side1 => repeat (first | exact (Kd.R_reads' HO116.out).2.2 | (with_reducible refine Kd.C_alloc ?_ _) | (with_reducible refine Kd.C_drewN ?_ _) | (with_reducible refine Kd.C_drew ?_))); (case side2 => exact (Kd.R_reads' HO116.out).2.1); (case side3 => repeat (first | exact (Kd.R_reads' HO_3.out).2.2 | (with_reducible refine Kd.C_alloc ?_ _) | (with_reducible refine Kd.C_drewN ?_ _) | (with_reducible refine Kd.C_drew ?_))); (case side4 => exact (Kd.R_reads' HO_3.out).2.1); rintro e w37 ⟨rfl, hb⟩; refine ⟨_, rfl, ?_⟩; have n0_ := Aside0.mk (Kd.R_below (by (with_reducible repeat (first | apply Kd.R_alloc | apply Kd.R_drewN | apply Kd.R_drew)); exact HO_3.out) hb); have n1_ := Aside0.mk (Kd.R_below (by (with_reducible repeat (first | apply Kd.R_alloc | apply Kd.R_drewN | apply Kd.R_drew)); exact HO_5.out) hb); have n2_ := Aside0.mk (Kd.R_below (by (with_reducible repeat (first | apply Kd.R_alloc | apply Kd.R_drewN | apply Kd.R_drew)); exact HO116.out) hb); have n3_ := Aside0.mk (below_step (by repeat (first | (with_reducible first | exact HB.out | apply below_alloc | apply pw_below_drewN | apply below_drew1) | exact HB.out)) hb); clear HO_3; clear HO_5; clear HO116; clear HB; have HO_3 := n0_; have HO_5 := n1_; have HO116 := n2_; have HB := n3_; clear n0_ n1_ n2_ n3_; (try clear hb); (try clear hb2); (try clear hk); (try clear hi)))
                  go_meet
                  case rel => exact ⟨_, (true), (by first | rfl | (simp; done) | (simp [*]; done)), H', ⟨by have := HJ4.out; first | omega | exact Nat.le_refl _⟩, ⟨by (with_reducible repeat (first | apply Kd.R_alloc | apply Kd.R_drewN | apply Kd.R_drew)); exact Kd.R_mono HO_5.out (fun _ hk => trivial)⟩, ⟨by repeat (first | (with_reducible first | exact HB.out | apply below_alloc | apply pw_below_drewN | apply below_drew1) | exact HB.out)⟩⟩
              case rest =>
                clear HC25
                try clear c1
                try clear c2
                try clear c2b0
                try clear c2b1
                try clear p2
                try clear c3
                try clear c4
                try clear c9
                try clear c10
                try clear c11
                try clear c12
                try clear c13
                try clear c16
                try clear c19
                try clear c19b0
                try clear c23
                try clear c23b0
                try clear c23b1
                try clear c31
                try clear p2
                obtain ⟨kq, x57_24, rfl, HA, HJ24, HO_5, HB⟩ := hcut
                have hl5_24 := (Kd.R_reads' HO_5.out).1
                rw [hl5_24] at HO_5
                (try simp only [hl5_24])
                cases kq with
                | zero => exact absurd HA.out (by simp [laws_FnExactReadCode.j1])
                | succ kj24 =>
                  have H := HA.out
                  clear HA
                  simp only [laws_FnExactReadCode.j1] at H
                  by_cases c38 : x57_24 = true
                  · subst c38
                    have H1 : (some false) = some r := by rw [if_pos rfl] at H; exact H
                    clear H
                    have H := H1
                    clear H1
                    obtain rfl := Option.some.inj H
                    go_wp2
                    go_ret
                    exact ⟨by first | rfl | (simp [errW_none, errW_some] <;> rfl) | (simp [*, errW_none, errW_some] <;> rfl), by repeat (first | (with_reducible first | exact HB.out | apply below_alloc | apply pw_below_drewN | apply below_drew1) | exact HB.out)⟩
                  · replace c38 := Bool.eq_false_iff.mpr c38
                    subst c38
                    have H1 : ((laws_heldInstrS.f kj24 t111 1).bind fun t118 => (if t118 < 0 then (some false) else (if t118 = t110 then (some true) else (some false)))) = some r := by rw [if_neg (show ¬ (false = true) by decide)] at H; exact H
                    clear H
                    have H := H1
                    clear H1
                    replace H := Option.bind_eq_some_iff.mp H
                    obtain ⟨t118, A390, H⟩ := H
                    replace H : (if t118 < 0 then (some false) else (if t118 = t110 then (some true) else (some false))) = some r := H
                    have A39 := Aside0.mk A390
                    clear A390
                    by_cases c40 : t118 < 0
                    · rw [if_pos c40] at H
                      have c40b0 : decide (t118 < 0) = true := decide_eq_true c40
                      clear c40
                      obtain rfl := Option.some.inj H
                      go_wp2_with (first | ((with_reducible refine gate_callee (f := 13) rfl ?_); refine goesL_ (some 60) rfl rfl Tryd.func13 (by kernel_rfl) rfl #[.slice Ao26 t111.length co26, .int .i64 1] rfl (by (try simp only [List.map_toArray, List.map_cons, List.map_nil]); first | done | rfl | (simp only [List.length_drop, List.length_take]; rfl)) ?_; (with_reducible refine (laws_heldInstrS.calls kj24 _ _ t111 1 t118 _ ?side1 ?side2 A39.out).mono ?_); (case side1 => repeat (first | exact (Kd.R_reads' HO_5.out).2.2 | (with_reducible refine Kd.C_alloc ?_ _) | (with_reducible refine Kd.C_drewN ?_ _) | (with_reducible refine Kd.C_drew ?_))); (case side2 => exact (Kd.R_reads' HO_5.out).2.1); rintro e w41 ⟨rfl, hb⟩; refine ⟨_, rfl, ?_⟩; have n0_ := Aside0.mk (Kd.R_below (by (with_reducible repeat (first | apply Kd.R_alloc | apply Kd.R_drewN | apply Kd.R_drew)); exact HO_5.out) hb); have n1_ := Aside0.mk (below_step (by repeat (first | (with_reducible first | exact HB.out | apply below_alloc | apply pw_below_drewN | apply below_drew1) | exact HB.out)) hb); clear HO_5; clear HB; have HO_5 := n0_; have HB := n1_; clear n0_ n1_; (try clear hb); (try clear hb2); (try clear hk); (try clear hi)))
                      go_ret
                      exact ⟨by first | rfl | (simp [errW_none, errW_some] <;> rfl) | (simp [*, errW_none, errW_some] <;> rfl), by repeat (first | (with_reducible first | exact HB.out | apply below_alloc | apply pw_below_drewN | apply below_drew1) | exact HB.out)⟩
                    · rw [if_neg c40] at H
                      have c40b0 : decide (t118 < 0) = false := decide_eq_false c40
                      clear c40
                      by_cases c42 : t118 = t110
                      · rw [if_pos c42] at H
                        have c42b0 : (t118 == t110) = true := beq_iff_eq.mpr c42
                        have c42b1 : (t118 != t110) = false := bne_eq_false_iff_eq.mpr c42
                        clear c42
                        obtain rfl := Option.some.inj H
                        go_wp2_with (first | ((with_reducible refine gate_callee (f := 13) rfl ?_); refine goesL_ (some 60) rfl rfl Tryd.func13 (by kernel_rfl) rfl #[.slice Ao26 t111.length co26, .int .i64 1] rfl (by (try simp only [List.map_toArray, List.map_cons, List.map_nil]); first | done | rfl | (simp only [List.length_drop, List.length_take]; rfl)) ?_; (with_reducible refine (laws_heldInstrS.calls kj24 _ _ t111 1 t118 _ ?side1 ?side2 A39.out).mono ?_); (case side1 => repeat (first | exact (Kd.R_reads' HO_5.out).2.2 | (with_reducible refine Kd.C_alloc ?_ _) | (with_reducible refine Kd.C_drewN ?_ _) | (with_reducible refine Kd.C_drew ?_))); (case side2 => exact (Kd.R_reads' HO_5.out).2.1); rintro e w43 ⟨rfl, hb⟩; refine ⟨_, rfl, ?_⟩; have n0_ := Aside0.mk (Kd.R_below (by (with_reducible repeat (first | apply Kd.R_alloc | apply Kd.R_drewN | apply Kd.R_drew)); exact HO_5.out) hb); have n1_ := Aside0.mk (below_step (by repeat (first | (with_reducible first | exact HB.out | apply below_alloc | apply pw_below_drewN | apply below_drew1) | exact HB.out)) hb); clear HO_5; clear HB; have HO_5 := n0_; have HB := n1_; clear n0_ n1_; (try clear hb); (try clear hb2); (try clear hk); (try clear hi)))
                        go_ret
                        exact ⟨by first | rfl | (simp [errW_none, errW_some] <;> rfl) | (simp [*, errW_none, errW_some] <;> rfl), by repeat (first | (with_reducible first | exact HB.out | apply below_alloc | apply pw_below_drewN | apply below_drew1) | exact HB.out)⟩
                      · rw [if_neg c42] at H
                        have c42b0 : (t118 == t110) = false := beq_eq_false_iff_ne.mpr c42
                        have c42b1 : (t118 != t110) = true := bne_iff_ne.mpr c42
                        obtain rfl := Option.some.inj H
                        go_wp2_with (first | ((with_reducible refine gate_callee (f := 13) rfl ?_); refine goesL_ (some 60) rfl rfl Tryd.func13 (by kernel_rfl) rfl #[.slice Ao26 t111.length co26, .int .i64 1] rfl (by (try simp only [List.map_toArray, List.map_cons, List.map_nil]); first | done | rfl | (simp only [List.length_drop, List.length_take]; rfl)) ?_; (with_reducible refine (laws_heldInstrS.calls kj24 _ _ t111 1 t118 _ ?side1 ?side2 A39.out).mono ?_); (case side1 => repeat (first | exact (Kd.R_reads' HO_5.out).2.2 | (with_reducible refine Kd.C_alloc ?_ _) | (with_reducible refine Kd.C_drewN ?_ _) | (with_reducible refine Kd.C_drew ?_))); (case side2 => exact (Kd.R_reads' HO_5.out).2.1); rintro e w44 ⟨rfl, hb⟩; refine ⟨_, rfl, ?_⟩; have n0_ := Aside0.mk (Kd.R_below (by (with_reducible repeat (first | apply Kd.R_alloc | apply Kd.R_drewN | apply Kd.R_drew)); exact HO_5.out) hb); have n1_ := Aside0.mk (below_step (by repeat (first | (with_reducible first | exact HB.out | apply below_alloc | apply pw_below_drewN | apply below_drew1) | exact HB.out)) hb); clear HO_5; clear HB; have HO_5 := n0_; have HB := n1_; clear n0_ n1_; (try clear hb); (try clear hb2); (try clear hk); (try clear hi)))
                        go_ret
                        exact ⟨by first | rfl | (simp [errW_none, errW_some] <;> rfl) | (simp [*, errW_none, errW_some] <;> rfl), by repeat (first | (with_reducible first | exact HB.out | apply below_alloc | apply pw_below_drewN | apply below_drew1) | exact HB.out)⟩
            · rw [if_neg c23] at H
              have c23b0 : (t112 == t110) = false := beq_eq_false_iff_ne.mpr c23
              have c23b1 : (t112 != t110) = true := bne_iff_ne.mpr c23
              obtain rfl := Option.some.inj H
              obtain ⟨Ao45, co45, eo45⟩ := Kd.R_slice HO_5.out
              subst eo45
              go_wp2_with (first | ((with_reducible refine gate_callee (f := 12) rfl ?_); refine goesL_ (some 35) rfl rfl Tryd.func12 (by kernel_rfl) rfl #[.slice Ao45 t105.length co45, .int .i64 1] rfl (by (try simp only [List.map_toArray, List.map_cons, List.map_nil]); first | done | rfl | (simp only [List.length_drop, List.length_take]; rfl)) ?_; (with_reducible refine (laws_markInstrS.calls kj4 (fun k_ => some k_ = (.slice Ao45 t105.length co45 : Value).ownBlock) (.slice Ao45 t105.length co45) t105 1 t110 t111 w _ ?side1 ?side2 A17.out).mono ?_); (case side1 => repeat (first | (with_reducible first | exact HB.out | apply below_alloc | apply pw_below_drewN | apply below_drew1) | exact HB.out)); (case side2 => exact Kd.R_tight rfl HO_5.out); rintro e w46 ⟨rfl, hy0, hb, hkp⟩; refine ⟨_, rfl, ?_⟩; have n0_ := Aside0.mk (Kd.R_mono (ok' := fun k_ => some k_ ≠ (.slice Ao45 t105.length co45 : Value).ownBlock) (Kd.R_keptB (HO_3.out) hkp (fun k_ hk_ hs_ => (hk_) hs_)) (fun k_ hk_ => hk_.1)); have n1_ := Aside0.mk (Kd.R_reok rfl hy0 (fun k_ e_ => HO_5.out.1 k_ e_)); have n2_ := Aside0.mk (hb); clear HO_3; clear HO_5; clear HB; have HO_3 := n0_; have HO_5 := n1_; have HB := n2_; clear n0_ n1_ n2_; (try clear hb); (try clear hkp); (try clear hy0)) | ((with_reducible refine gate_callee (f := 13) rfl ?_); refine goesL_ (some 38) rfl rfl Tryd.func13 (by kernel_rfl) rfl #[.slice Ao45 t111.length co45, .int .i64 1] rfl (by (try simp only [List.map_toArray, List.map_cons, List.map_nil]); first | done | (rw [show t111.length = t105.length from (Kd.R_reads' HO_5.out).1.symm] <;> rfl) | rfl | (simp only [List.length_drop, List.length_take]; rfl)) ?_; (with_reducible refine (laws_heldInstrS.calls kj4 _ _ t111 1 t112 _ ?side1 ?side2 A18.out).mono ?_); (case side1 => repeat (first | exact (Kd.R_reads' HO_5.out).2.2 | (with_reducible refine Kd.C_alloc ?_ _) | (with_reducible refine Kd.C_drewN ?_ _) | (with_reducible refine Kd.C_drew ?_))); (case side2 => rw [show t111.length = t105.length from (Kd.R_reads' HO_5.out).1.symm]; exact (Kd.R_reads' HO_5.out).2.1); rintro e w47 ⟨rfl, hb⟩; refine ⟨_, rfl, ?_⟩; have n0_ := Aside0.mk (Kd.R_below (by (with_reducible repeat (first | apply Kd.R_alloc | apply Kd.R_drewN | apply Kd.R_drew)); exact HO_3.out) hb); have n1_ := Aside0.mk (Kd.R_below (by (with_reducible repeat (first | apply Kd.R_alloc | apply Kd.R_drewN | apply Kd.R_drew)); exact HO_5.out) hb); have n2_ := Aside0.mk (below_step (by repeat (first | (with_reducible first | exact HB.out | apply below_alloc | apply pw_below_drewN | apply below_drew1) | exact HB.out)) hb); clear HO_3; clear HO_5; clear HB; have HO_3 := n0_; have HO_5 := n1_; have HB := n2_; clear n0_ n1_ n2_; (try clear hb); (try clear hb2); (try clear hk); (try clear hi)))
              go_ret
              exact ⟨by first | rfl | (simp [errW_none, errW_some] <;> rfl) | (simp [*, errW_none, errW_some] <;> rfl), by repeat (first | (with_reducible first | exact HB.out | apply below_alloc | apply pw_below_drewN | apply below_drew1) | exact HB.out)⟩

def laws_FnExactReadCode.Pure : Prop := ∀ (a0 : ByteArray), a0.size ≤ 140737488351232 → ∃ k, laws_FnExactReadCode.f k a0 = some true

end Go.Proofs.YtlkgimnafnmgpaaDoor.G

namespace Go.Proofs.YtlkgimnafnmgpaaDoor.EvL
open Go.RowKit Go.Proofs.YtlkgimnafnmgpaaDoorW.PrintWords
set_option linter.unusedVariables false

theorem w64 {x : Int} (h1 : -9223372036854775808 ≤ x) (h2 : x ≤ 9223372036854775807) : wrap64 x = x := by unfold wrap64; omega
theorem Ev.of_eq {α : Type} {g : Nat → Option α} {r r' : α} (h : Ev g r) (e : r = r') : Ev g r' := e ▸ h
theorem Ev.ite_pos {α : Type} {c : Prop} [Decidable c] {g f : Nat → Option α} {r : α} (hc : c) (h : Ev g r) : Ev (fun k => if c then g k else f k) r := Ev.congr (fun k => if_pos hc) h
theorem Ev.ite_neg {α : Type} {c : Prop} [Decidable c] {g f : Nat → Option α} {r : α} (hc : ¬ c) (h : Ev f r) : Ev (fun k => if c then g k else f k) r := Ev.congr (fun k => if_neg hc) h
theorem Ev.succ {α : Type} {g : Nat → Option α} {r : α} (h : Ev (fun k => g (k + 1)) r) : Ev g r := Ev.step (fun k => rfl) h
theorem ev_all (F : Nat → Int → Option Bool) (n : Nat) (p : Nat → Bool) (hs : ∀ (k i : Nat), i < n → F (k + 1) i = if p i = true then F k ((i + 1 : Nat) : Int) else some false) (he : ∀ k, F (k + 1) n = some true) :
    ∀ (d i : Nat), i + d = n → Ev (fun k => F k i) ((List.range d).all fun j => p (i + j)) := by
  intro d
  induction d with
  | zero => intro i hi; obtain rfl : i = n := by omega
            exact Ev.step he (Ev.now _)
  | succ d ih =>
    intro i hi
    have e : ((List.range (d + 1)).all fun j => p (i + j)) = (p i && (List.range d).all fun j => p (i + 1 + j)) := by
      rw [List.range_succ_eq_map, List.all_cons, List.all_map, Nat.add_zero]
      congr 1; congr 1; funext j; show p (i + (j + 1)) = _; congr 1; omega
    rw [e]
    by_cases hp : p i = true
    · refine Ev.step (fun k => (hs k i (by omega)).trans (if_pos hp)) ?_
      rw [hp, Bool.true_and]
      exact ih (i + 1) (by omega)
    · refine Ev.step (fun k => (hs k i (by omega)).trans (if_neg hp)) ?_
      rw [Bool.eq_false_iff.mpr hp, Bool.false_and]
      exact Ev.now _

end Go.Proofs.YtlkgimnafnmgpaaDoor.EvL

namespace Go.Proofs.YtlkgimnafnmgpaaDoor.TxtL
open Go.RowKit Go.Proofs.YtlkgimnafnmgpaaDoor.EvL Go.Proofs.YtlkgimnafnmgpaaDoorW.PrintWords
set_option linter.unusedVariables false
set_option linter.unusedSimpArgs false

def B (l : List UInt8) : ByteArray := ⟨l.toArray⟩
theorem B_list (l : List UInt8) : (B l).data.toList = l := rfl
theorem B_of (s : ByteArray) : B s.data.toList = s := rfl
theorem B_size (l : List UInt8) : (B l).size = l.length := by show l.toArray.size = _; simp
theorem len (s : ByteArray) : s.data.toList.length = s.size := by rw [Array.length_toList]; rfl
theorem B_append (a b : List UInt8) : B a ++ B b = B (a ++ b) := by
  apply ByteArray.ext
  simp [B]
theorem data_inj {s t : ByteArray} (h : s.data.toList = t.data.toList) : s = t := by rw [← B_of s, ← B_of t, h]
theorem loop_eq (s : ByteArray) : ∀ (n i : Nat) (r : List UInt8), s.size - i = n → ByteArray.toList.loop s i r = r.reverse ++ s.data.toList.drop i := by
  intro n
  induction n with
  | zero =>
    intro i r h
    rw [ByteArray.toList.loop, if_neg (by omega), List.drop_eq_nil_of_le (by rw [len]; omega), List.append_nil]
  | succ n ih =>
    intro i r h
    have hi : i < s.size := by omega
    rw [ByteArray.toList.loop, if_pos hi, ih (i + 1) _ (by omega), List.drop_eq_getElem_cons (show i < s.data.toList.length by rw [len]; exact hi)]
    have e : s.get! i = s.data.toList[i]'(by rw [len]; exact hi) := by
      show s.data[i]! = _
      rw [getElem!_pos s.data i hi]
      exact (Array.getElem_toList _).symm
    rw [List.reverse_cons, List.append_assoc, List.singleton_append, e]
theorem toList_eq (s : ByteArray) : s.toList = s.data.toList := by
  show ByteArray.toList.loop s 0 [] = _
  rw [loop_eq s s.size 0 [] (by omega)]; rfl
theorem toList_B (l : List UInt8) : (B l).toList = l := toList_eq _
theorem bt_B (l : List UInt8) (i : Nat) (h : i < l.length) : bt (B l) (i : Int) = ((l[i]).toNat : Int) := by
  rw [← bt_at (B l) i (by rw [Int.toNat_natCast, B_size]; exact h)]
  rfl
theorem ext_take (l : List UInt8) (n : Nat) : (B l).extract 0 n = B (l.take n) := data_inj (by rw [Lib.extract_from_zero]; rfl)
theorem ext_drop (l : List UInt8) (n m : Nat) (h : m = l.length) : (B l).extract n m = B (l.drop n) := by
  subst h
  apply ByteArray.ext
  simp [B]
  exact List.take_of_length_le (by rw [List.length_drop]; omega)

def cut1 (b : UInt8) : List UInt8 → List UInt8 × List UInt8 × Bool
  | [] => ([], [], false)
  | c :: l => if c = b then ([], l, true) else (c :: (cut1 b l).1, (cut1 b l).2.1, (cut1 b l).2.2)
theorem cut1_app (b : UInt8) (v : List UInt8) : ∀ u : List UInt8, b ∉ u → cut1 b (u ++ b :: v) = (u, v, true)
  | [], _ => by simp [cut1]
  | c :: u, h => by
    have h1 : ¬ c = b := fun e => h (by simp [e])
    have h2 : b ∉ u := fun e => h (by simp [e])
    rw [List.cons_append, cut1, if_neg h1, cut1_app b v u h2]
theorem cut1_no (b : UInt8) : ∀ u : List UInt8, b ∉ u → cut1 b u = (u, [], false)
  | [], _ => rfl
  | c :: u, h => by
    have h1 : ¬ c = b := fun e => h (by simp [e])
    have h2 : b ∉ u := fun e => h (by simp [e])
    rw [cut1, if_neg h1, cut1_no b u h2]
theorem cut1_cases (b : UInt8) : ∀ l : List UInt8, (b ∉ l ∧ cut1 b l = (l, [], false)) ∨ (∃ u v, l = u ++ b :: v ∧ b ∉ u ∧ cut1 b l = (u, v, true))
  | [] => .inl ⟨by simp, rfl⟩
  | c :: l => by
    by_cases h : c = b
    · subst h; exact .inr ⟨[], l, rfl, by simp, by simp [cut1]⟩
    · rcases cut1_cases b l with ⟨h1, h2⟩ | ⟨u, v, rfl, h1, h2⟩
      · refine .inl ⟨by simp only [List.mem_cons, not_or]; exact ⟨fun e => h e.symm, h1⟩, ?_⟩
        rw [cut1, if_neg h, h2]
      · refine .inr ⟨c :: u, v, rfl, by simp only [List.mem_cons, not_or]; exact ⟨fun e => h e.symm, h1⟩, ?_⟩
        rw [cut1, if_neg h, h2]
theorem cut1_found {b : UInt8} {l : List UInt8} (h : (cut1 b l).2.2 = true) : ∃ u v, l = u ++ b :: v ∧ b ∉ u ∧ cut1 b l = (u, v, true) := by
  rcases cut1_cases b l with ⟨_, h2⟩ | h2
  · rw [h2] at h; cases h
  · exact h2
theorem index_one (b : UInt8) : ∀ l : List UInt8, (b ∉ l → Lib.index l [b] = -1) ∧ (∀ u v, l = u ++ b :: v → b ∉ u → Lib.index l [b] = (u.length : Int))
  | [] => ⟨fun _ => rfl, fun u v h _ => by cases u <;> cases h⟩
  | c :: l => by
    obtain ⟨i1, i2⟩ := index_one b l
    constructor
    · intro h
      have h1 : ¬ b = c := fun e => h (by simp [e])
      have hp : ([b].isPrefixOf (c :: l)) = false := by simp [List.isPrefixOf, h1]
      unfold Lib.index
      rw [hp, i1 (fun e => h (by simp [e]))]; rfl
    · intro u v h hu
      cases u with
      | nil =>
        simp only [List.nil_append, List.cons.injEq] at h
        obtain ⟨rfl, rfl⟩ := h
        unfold Lib.index
        rw [if_pos (by simp [List.isPrefixOf])]; rfl
      | cons a u =>
        simp only [List.cons_append, List.cons.injEq] at h
        obtain ⟨rfl, rfl⟩ := h
        have h1 : ¬ b = c := fun e => hu (by simp [e])
        have hp : ([b].isPrefixOf (c :: (u ++ b :: v))) = false := by simp [List.isPrefixOf, h1]
        unfold Lib.index
        rw [hp, i2 u v rfl (fun e => hu (by simp [e]))]
        have : ((u.length : Int) == -1) = false := by rw [beq_eq_false_iff_ne]; omega
        rw [this]; simp
theorem lib_cut (b : UInt8) (l : List UInt8) : Lib.cut l [b] = cut1 b l := by
  rcases cut1_cases b l with ⟨h1, h2⟩ | ⟨u, v, h, h1, h2⟩
  · rw [h2]; unfold Lib.cut; rw [(index_one b l).1 h1]; rfl
  · rw [h2]; unfold Lib.cut; rw [(index_one b l).2 u v h h1, if_pos (by omega), Int.toNat_natCast]
    subst h
    congr 1
    · simp
    · congr 1
      rw [List.length_singleton, List.drop_append, List.drop_eq_nil_of_le (by omega)]
      rw [show u.length + 1 - u.length = 1 by omega]; rfl

def isD (c : UInt8) : Prop := 48 ≤ c.toNat ∧ c.toNat ≤ 57
instance (c : UInt8) : Decidable (isD c) := by unfold isD; exact inferInstance
def stepD (a : Nat) (c : UInt8) : Nat := a * 10 + (c.toNat - 48)
def valF (a : Nat) (l : List UInt8) : Nat := l.foldl stepD a
theorem valF_cons (a : Nat) (c : UInt8) (l : List UInt8) : valF a (c :: l) = valF (a * 10 + (c.toNat - 48)) l := by unfold valF; rw [List.foldl_cons, stepD]
theorem valF_one (a : Nat) (c : UInt8) : valF a [c] = a * 10 + (c.toNat - 48) := by unfold valF; rw [List.foldl_cons, List.foldl_nil, stepD]
theorem valF_app (l m : List UInt8) (a : Nat) : valF a (l ++ m) = valF (valF a l) m := List.foldl_append
theorem head_app {α : Type} {l : List α} (m : List α) (h : l ≠ []) : (l ++ m).head? = l.head? := by
  cases l with
  | nil => exact absurd rfl h
  | cons a l => rfl
theorem valF_ge : ∀ (l : List UInt8) (a : Nat), a ≤ valF a l
  | [], a => Nat.le_refl _
  | c :: l, a => by rw [valF_cons]; exact Nat.le_trans (by omega) (valF_ge l _)
theorem digit_ofNat (i : Nat) (h : i < 10) : (UInt8.ofNat (48 + i)).toNat = 48 + i := by
  rw [UInt8.toNat_ofNat']; omega
def Numeral (l : List UInt8) : Prop := (∀ c ∈ l, isD c) ∧ l ≠ [] ∧ (l.head? ≠ some 48 ∨ l.length = 1)
theorem dec_numeral : ∀ (n : Nat), Numeral (Lib.decDigits n) ∧ valF 0 (Lib.decDigits n) = n ∧ (1 ≤ n → (Lib.decDigits n).head? ≠ some 48) := by
  intro n
  induction n using Nat.strongRecOn with
  | _ n ih =>
    by_cases h : n < 10
    · have hd := digit_ofNat n h
      rw [Lib.decDigits_one h]
      refine ⟨⟨?_, by simp, .inr rfl⟩, ?_, ?_⟩
      · intro c hc
        rw [List.mem_singleton] at hc
        rw [hc]; unfold isD; rw [hd]; omega
      · rw [valF_one, hd]; omega
      · intro h1 e
        have e2 : UInt8.ofNat (48 + n) = 48 := by simpa using e
        have e3 := congrArg UInt8.toNat e2
        rw [hd] at e3
        have : (48 : UInt8).toNat = 48 := rfl
        omega
    · have e : Lib.decDigits n = Lib.decDigits (n / 10) ++ [UInt8.ofNat (48 + n % 10)] := by rw [Lib.decDigits, dif_neg h]
      obtain ⟨⟨h1, h2, _⟩, h4, h5⟩ := ih (n / 10) (by omega)
      have hd := digit_ofNat (n % 10) (by omega)
      have hh : (Lib.decDigits n).head? ≠ some 48 := by
        rw [e, head_app _ h2]
        exact h5 (by omega)
      refine ⟨⟨?_, by rw [e]; simp, .inl hh⟩, ?_, fun _ => hh⟩
      · intro c hc
        rw [e, List.mem_append, List.mem_singleton] at hc
        rcases hc with hc | hc
        · exact h1 c hc
        · rw [hc]; unfold isD; rw [hd]; omega
      · rw [e, valF_app, h4, valF_one, hd]; omega
theorem val_of_dec (n : Nat) : valF 0 (Lib.decDigits n) = n := (dec_numeral n).2.1
theorem dec_inj {m n : Nat} (h : Lib.decDigits m = Lib.decDigits n) : m = n := by rw [← val_of_dec m, h, val_of_dec]
theorem ofNat_toNat (c : UInt8) : UInt8.ofNat c.toNat = c := by simp
theorem digit_back (c : UInt8) (h : isD c) : UInt8.ofNat (48 + (c.toNat - 48)) = c := by
  unfold isD at h
  rw [show 48 + (c.toNat - 48) = c.toNat by omega]; exact ofNat_toNat c
theorem head_pos {c : UInt8} {l : List UInt8} (hc : isD c) (h : c ≠ 48) : 1 ≤ valF 0 (c :: l) := by
  rw [valF_cons]
  refine Nat.le_trans ?_ (valF_ge l _)
  have : c.toNat ≠ 48 := fun e => h (UInt8.toNat_inj.mp e)
  unfold isD at hc; omega
theorem dec_val_rev : ∀ (m : List UInt8), Numeral m.reverse → Lib.decDigits (valF 0 m.reverse) = m.reverse
  | [], h => absurd rfl h.2.1
  | c :: m, h => by
    obtain ⟨h1, h2, h3⟩ := h
    rw [List.reverse_cons] at *
    have hc : isD c := h1 c (by simp)
    cases m with
    | nil =>
      show Lib.decDigits (valF 0 [c]) = [c]
      rw [valF_one]
      have : c.toNat - 48 < 10 := by unfold isD at hc; omega
      rw [Lib.decDigits_one (by omega), Nat.zero_mul, Nat.zero_add, digit_back c hc]
    | cons d m =>
      have hne : (d :: m).reverse ≠ [] := by simp
      have hh : ((d :: m).reverse).head? ≠ some 48 := by
        rcases h3 with h3 | h3
        · rwa [head_app _ hne] at h3
        · simp at h3
      have ih := dec_val_rev (d :: m) ⟨fun x hx => h1 x (List.mem_append_left _ hx), hne, .inl hh⟩
      have hp : 1 ≤ valF 0 (d :: m).reverse := by
        cases hr : (d :: m).reverse with
        | nil => exact absurd hr hne
        | cons a r =>
          refine head_pos (h1 a (by rw [hr]; simp)) (fun e => hh (by rw [hr, e]; rfl))
      rw [valF_app, valF_one]
      have h9 : c.toNat - 48 < 10 := by unfold isD at hc; omega
      rw [Lib.decDigits, dif_neg (by omega), show (valF 0 (d :: m).reverse * 10 + (c.toNat - 48)) / 10 = valF 0 (d :: m).reverse by omega, show (valF 0 (d :: m).reverse * 10 + (c.toNat - 48)) % 10 = c.toNat - 48 by omega, ih, digit_back c hc]
theorem dec_val {l : List UInt8} (h : Numeral l) : Lib.decDigits (valF 0 l) = l := by
  have := dec_val_rev l.reverse (by rw [List.reverse_reverse]; exact h)
  rwa [List.reverse_reverse] at this
theorem parse_ok : ∀ (l : List UInt8) (a : Nat), (∀ c ∈ l, isD c) → valF a l ≤ 1000000000000000000 → Lib.parseUint10 a l = .ok (valF a l)
  | [], a, _, _ => rfl
  | c :: l, a, h, hv => by
    have hc : isD c := h c (by simp)
    rw [valF_cons] at hv
    have hg := valF_ge l (a * 10 + (c.toNat - 48))
    unfold Lib.parseUint10
    rw [if_pos (show 48 ≤ c.toNat ∧ c.toNat ≤ 57 from hc), if_neg (by omega), if_neg (by omega), parse_ok l _ (fun x hx => h x (by simp [hx])) hv, valF_cons]
theorem atoi_dec (n : Nat) (hn : n ≤ 1000000000000000000) : Lib.atoiAll (Lib.decDigits n) = .ok (n : Int) := by
  obtain ⟨⟨h1, h2, _⟩, h4, _⟩ := dec_numeral n
  have hp := parse_ok (Lib.decDigits n) 0 h1 (by rw [h4]; exact hn)
  rw [h4] at hp
  revert h1 h2 hp
  generalize Lib.decDigits n = l
  intro h1 h2 hp
  cases l with
  | nil => exact absurd rfl h2
  | cons c r =>
    have hc : isD c := h1 c (by simp)
    unfold isD at hc
    unfold Lib.atoiAll
    have hs : ¬ (c.toNat = 43 ∨ c.toNat = 45) := by omega
    have hs2 : ¬ c.toNat = 45 := by omega
    simp only [if_neg hs]
    unfold Lib.parseMag
    rw [if_neg (by simp), hp]
    simp only [hs2, not_false_eq_true, true_and, false_and, if_false]
    rw [if_neg (by omega)]
theorem numeral_no {l : List UInt8} (h : ∀ c ∈ l, isD c) (b : UInt8) (hb : ¬ isD b) : b ∉ l := fun hm => hb (h b hm)
theorem dec_no (n : Nat) (b : UInt8) (hb : ¬ isD b) : b ∉ Lib.decDigits n := numeral_no (dec_numeral n).1.1 b hb

theorem pieces3 (l : List UInt8) :
    ((cut1 32 l).2.2 = true ∧ (cut1 32 (cut1 32 l).2.1).2.2 = true → Lib.splitB ⟨#[32]⟩ 0 (min 3 (l.length + 1) - 1) (B l) = [B (cut1 32 l).1, B (cut1 32 (cut1 32 l).2.1).1, B (cut1 32 (cut1 32 l).2.1).2.1]) ∧
    (¬ ((cut1 32 l).2.2 = true ∧ (cut1 32 (cut1 32 l).2.1).2.2 = true) → (Lib.splitB ⟨#[32]⟩ 0 (min 3 (l.length + 1) - 1) (B l)).length ≠ 3) := by
  have e32 : (⟨#[32]⟩ : ByteArray).size = 1 := rfl
  have hix : ∀ m : List UInt8, Lib.indexB (B m) ⟨#[32]⟩ = Lib.index m [32] := fun m => rfl
  rcases cut1_cases 32 l with ⟨h1, h2⟩ | ⟨u, v, rfl, h1, h2⟩
  · rw [h2]
    refine ⟨fun h => absurd h.1 (by simp), fun _ => ?_⟩
    rw [Lib.splitB_miss _ _ _ _ (by rw [hix]; exact (index_one 32 l).1 h1), List.length_singleton]; decide
  · rw [h2]
    have hi : Lib.indexB (B (u ++ 32 :: v)) ⟨#[32]⟩ = (u.length : Int) := by rw [hix]; exact (index_one 32 _).2 u v rfl h1
    have x1 : (B (u ++ 32 :: v)).extract 0 (u.length + 0) = B u := by rw [ext_take]; simp
    have x2 : (B (u ++ 32 :: v)).extract (u.length + (⟨#[32]⟩ : ByteArray).size) (B (u ++ 32 :: v)).size = B v := by
      rw [ext_drop _ _ _ (B_size _), e32, List.drop_append, List.drop_eq_nil_of_le (by omega), show u.length + 1 - u.length = 1 by omega]; rfl
    have hl : (u ++ 32 :: v).length = u.length + 1 + v.length := by simp; omega
    rcases cut1_cases 32 v with ⟨g1, g2⟩ | ⟨b, t, rfl, g1, g2⟩
    · simp only [g2]
      refine ⟨fun h => absurd h.2 (by simp), fun _ => ?_⟩
      obtain ⟨k, hk⟩ : ∃ k, min 3 ((u ++ 32 :: v).length + 1) - 1 = k + 1 := ⟨min 3 ((u ++ 32 :: v).length + 1) - 2, by omega⟩
      rw [hk, Lib.splitB_hit _ _ _ _ u.length hi, x2, Lib.splitB_miss _ _ _ _ (by rw [hix]; exact (index_one 32 v).1 g1), List.length_cons, List.length_singleton]
      decide
    · simp only [g2]
      refine ⟨fun _ => ?_, fun h => absurd ⟨trivial, trivial⟩ h⟩
      have hk : min 3 ((u ++ 32 :: (b ++ 32 :: t)).length + 1) - 1 = 1 + 1 := by
        have : (b ++ 32 :: t).length = b.length + 1 + t.length := by simp; omega
        omega
      have hi2 : Lib.indexB (B (b ++ 32 :: t)) ⟨#[32]⟩ = (b.length : Int) := by rw [hix]; exact (index_one 32 _).2 b t rfl g1
      have y1 : (B (b ++ 32 :: t)).extract 0 (b.length + 0) = B b := by rw [ext_take]; simp
      have y2 : (B (b ++ 32 :: t)).extract (b.length + (⟨#[32]⟩ : ByteArray).size) (B (b ++ 32 :: t)).size = B t := by
        rw [ext_drop _ _ _ (B_size _), e32, List.drop_append, List.drop_eq_nil_of_le (by omega), show b.length + 1 - b.length = 1 by omega]; rfl
      rw [hk, Lib.splitB_hit _ _ _ _ u.length hi, x1, x2, Lib.splitB_hit _ _ _ _ b.length hi2, y1, y2, Lib.splitB_zero]
end Go.Proofs.YtlkgimnafnmgpaaDoor.TxtL

namespace Go.Proofs.YtlkgimnafnmgpaaDoor.CodeL
open Go.RowKit Go.Proofs.YtlkgimnafnmgpaaDoor.G Go.Proofs.YtlkgimnafnmgpaaDoor.EvL Go.Proofs.YtlkgimnafnmgpaaDoor.TxtL Go.Proofs.YtlkgimnafnmgpaaDoorW.PrintWords Go.Proofs.YtlkgimnafnmgpaaDoorW.PrintLast
set_option linter.unusedVariables false
set_option linter.unusedSimpArgs false
set_option linter.unusedSectionVars false

theorem rd37 (l : List S37) (i : Nat) : rd_T37 l (i : Int) = l.getD i z37 := by unfold rd_T37; rw [Int.toNat_natCast]
theorem next (i n : Nat) (h : i < n) (hn : n ≤ 9223372036854775807) : wrap64 ((i : Int) + 1) = ((i + 1 : Nat) : Int) := w64 (by omega) (by omega)
theorem mem_getD {α : Type} (l : List α) (z : α) (i : Nat) (h : i < l.length) : l.getD i z ∈ l := by
  rw [List.getD_eq_getElem?_getD, List.getElem?_eq_getElem h]; exact List.getElem_mem h

theorem eqInstrs (l : List S37) (hl : l.length ≤ 9223372036854775807) : Ev (fun k => laws_eqInstrS.f k l l) true := by
  unfold laws_eqInstrS.f
  refine Ev.ite_pos rfl ?_
  have h := ev_all (fun k i => laws_eqInstrS.l0 k l l i) l.length (fun _ => true) (fun k i hi => by
    simp only [laws_eqInstrS.l0, laws_eqInstr.f]
    rw [if_pos (by omega), if_pos (by omega), if_pos (by omega), if_pos trivial, if_pos trivial, if_pos trivial, next i l.length hi hl]
    rfl) (fun k => by simp only [laws_eqInstrS.l0]; rw [if_neg (by omega)]) l.length 0 (by omega)
  exact Ev.of_eq h (by simp)

theorem contains_ten (l : List UInt8) : Lib.contains l [10] = decide ((10 : UInt8) ∈ l) := by
  unfold Lib.contains
  refine decide_eq_decide.mpr ?_
  rcases cut1_cases 10 l with ⟨h1, _⟩ | ⟨u, v, h, h1, _⟩
  · rw [(index_one 10 l).1 h1]; exact ⟨fun h => absurd h (by decide), fun h => absurd h h1⟩
  · rw [(index_one 10 l).2 u v h h1, h]; exact ⟨fun _ => by simp, fun _ => by omega⟩
theorem digit_all : ∀ i : Fin 10, strOfNums (([(wrap64 (48 + (i.val : Int))) % 256] : List Int)) = ⟨([UInt8.ofNat (48 + i.val)] : List UInt8).toArray⟩ := by decide +kernel
theorem digit (n : Int) (h0 : 0 ≤ n) (h1 : n < 10) : strOfNums (([(wrap64 (48 + n)) % 256] : List Int)) = ⟨([UInt8.ofNat (48 + n.toNat)] : List UInt8).toArray⟩ := by
  have h := digit_all ⟨n.toNat, by omega⟩
  have e : (((⟨n.toNat, by omega⟩ : Fin 10).val : Nat) : Int) = n := by show ((n.toNat : Nat) : Int) = n; omega
  rw [e] at h
  exact h
theorem low_ev (n : Int) (h0 : 0 ≤ n) (h1 : n < 10) : Ev (fun k => spec_l1Num.f k n) ⟨(Lib.decDigits n.toNat).toArray⟩ := by
  refine Ev.step (f := fun _ => some ⟨(Lib.decDigits n.toNat).toArray⟩) (fun k => ?_) (Ev.now _)
  simp only [spec_l1Num.f]
  rw [if_neg (by omega), if_pos h1, digit n h0 h1, Lib.decDigits_one (by omega)]
theorem up_ev (n : Int) (h0 : 10 ≤ n) (h1 : n ≤ 100000) (hl : (Lib.decDigits (n / 10).toNat).length ≤ 100) (h : Ev (fun k => spec_l1Num.f k (n / 10)) ⟨(Lib.decDigits (n / 10).toNat).toArray⟩) : Ev (fun k => spec_l1Num.f k n) ⟨(Lib.decDigits n.toNat).toArray⟩ := by
  have e : Int.tdiv n 10 = n / 10 := Int.tdiv_eq_ediv_of_nonneg (by omega)
  have e2 : wrap64 (Int.tdiv n 10) = n / 10 := by rw [e]; exact w64 (by omega) (by omega)
  have e3 : Int.tmod n 10 = n % 10 := Int.tmod_eq_emod_of_nonneg (by omega)
  have e4 := digit (n % 10) (by omega) (by omega)
  have e5 : Lib.decDigits n.toNat = Lib.decDigits (n / 10).toNat ++ [UInt8.ofNat (48 + (n % 10).toNat)] := by
    rw [Lib.decDigits, dif_neg (by omega), show n.toNat / 10 = (n / 10).toNat by omega, show n.toNat % 10 = (n % 10).toNat by omega]
  refine Ev.step (f := fun k => (spec_l1Num.f k (n / 10)).bind fun t105 => (if t105.size + (⟨([UInt8.ofNat (48 + (n % 10).toNat)] : List UInt8).toArray⟩ : ByteArray).size ≤ 9223372036854775807 then (some (t105 ++ (⟨([UInt8.ofNat (48 + (n % 10).toNat)] : List UInt8).toArray⟩ : ByteArray))) else (none))) (fun k => ?_) (Ev.bind h (Ev.ite_pos ?_ (Ev.of_eq (Ev.now _) ?_)))
  · simp only [spec_l1Num.f]
    rw [if_neg (by omega), if_neg (by omega), e2, e3]
    simp only [Option.bind_some, e4]
  · show (Lib.decDigits (n / 10).toNat).toArray.size + 1 ≤ _
    simp; omega
  · rw [e5]
    apply ByteArray.ext
    simp
theorem num_ev : ∀ (m : Nat) (n : Int), 0 ≤ n → n < 10 ^ (m + 1) → n ≤ 100000 → m ≤ 20 → Ev (fun k => spec_l1Num.f k n) ⟨(Lib.decDigits n.toNat).toArray⟩ ∧ (Lib.decDigits n.toNat).length ≤ m + 1 := by
  intro m
  induction m with
  | zero =>
    intro n h0 h1 h2 hm
    have h1' : n < 10 := by simpa using h1
    exact ⟨low_ev n h0 h1', by rw [Lib.decDigits_one (by omega)]; simp⟩
  | succ m ih =>
    intro n h0 h1 h2 hm
    by_cases c : n < 10
    · exact ⟨low_ev n h0 c, by rw [Lib.decDigits_one (by omega)]; simp⟩
    · have hp : (10 : Int) ^ (m + 1 + 1) = 10 ^ (m + 1) * 10 := Int.pow_succ ..
      obtain ⟨hE, hl⟩ := ih (n / 10) (by omega) (by rw [hp] at h1; omega) (by omega) (by omega)
      refine ⟨up_ev n (by omega) h2 (by omega) hE, ?_⟩
      rw [Lib.decDigits, dif_neg (by omega), show n.toNat / 10 = (n / 10).toNat by omega]
      simp; omega
theorem num (n : Int) (h0 : 0 ≤ n) (h1 : n ≤ 100000) : Ev (fun k => spec_l1Num.f k n) ⟨(Lib.decDigits n.toNat).toArray⟩ ∧ (Lib.decDigits n.toNat).length ≤ 6 :=
  num_ev 5 n h0 (by have : (10 : Int) ^ (5 + 1) = 1000000 := by decide
                    omega) h1 (by decide)

theorem l1In_eq (a b c : Int) : spec_l1In.f a b c = some (decide (b ≤ a ∧ a ≤ c)) := by
  unfold spec_l1In.f
  by_cases h : a ≥ b
  · rw [if_pos h]; congr 1; exact decide_eq_decide.mpr ⟨fun h2 => ⟨h, h2⟩, fun h2 => h2.2⟩
  · rw [if_neg h, decide_eq_false (fun h2 => h h2.1)]

theorem cutAt (l : List UInt8) (hl : l.length ≤ 9223372036854775807) (b : UInt8) (bi : Int) (hb : bi = (b.toNat : Int)) : ∀ (d i : Nat), i + d = l.length → b ∉ l.take i → Ev (fun k => spec_l2Cut.l0 k (B l) bi i) (B (cut1 b l).1, B (cut1 b l).2.1, (cut1 b l).2.2) := by
  intro d
  have hsz : (B l).size = l.length := B_size l
  induction d with
  | zero =>
    intro i hi hno
    have hno' : b ∉ l := by rwa [List.take_of_length_le (by omega)] at hno
    have c1 : ¬ (i : Int) < (((B l).size : Nat) : Int) := by rw [hsz]; omega
    rw [cut1_no b l hno']
    refine Ev.step (f := fun _ => some (B l, (⟨#[]⟩ : ByteArray), false)) (fun k => ?_) (Ev.now _)
    rw [spec_l2Cut.l0, if_neg c1]
  | succ d ih =>
    intro i hi hno
    have hlt : i < l.length := by omega
    have c1 : (i : Int) < (((B l).size : Nat) : Int) := by rw [hsz]; omega
    have c0 : 0 ≤ (i : Int) := by omega
    have hw := next i l.length hlt hl
    have hbt := bt_B l i hlt
    by_cases c : l[i] = b
    · have hsplit : l = l.take i ++ b :: l.drop (i + 1) := by
        rw [← c, ← List.drop_eq_getElem_cons hlt, List.take_append_drop]
      have hcut : cut1 b l = (l.take i, l.drop (i + 1), true) := by
        have := cut1_app b (l.drop (i + 1)) (l.take i) hno
        rwa [← hsplit] at this
      rw [hcut]
      have e1 : bt (B l) (i : Int) = bi := by rw [hbt, c, hb]
      have c2 : (i : Int) ≤ (((B l).size : Nat) : Int) := by omega
      have c3 : 0 ≤ ((i + 1 : Nat) : Int) := by omega
      have c4 : ((i + 1 : Nat) : Int) ≤ (((B l).size : Nat) : Int) := by rw [hsz]; omega
      refine Ev.step (f := fun _ => some (B (l.take i), B (l.drop (i + 1)), true)) (fun k => ?_) (Ev.now _)
      rw [spec_l2Cut.l0, if_pos c1, if_pos c0, if_pos e1, hw, if_pos c2, if_pos c3, if_pos c4, Int.toNat_natCast, Int.toNat_natCast, ext_take, ext_drop _ _ _ hsz]
    · have e1 : ¬ bt (B l) (i : Int) = bi := by
        rw [hbt, hb]
        intro e
        exact c (UInt8.toNat_inj.mp (by omega))
      refine Ev.step (fun k => ?_) (ih (i + 1) (by omega) ?_)
      · rw [spec_l2Cut.l0, if_pos c1, if_pos c0, if_neg e1, hw]
      · rw [List.take_succ_eq_append_getElem hlt, List.mem_append, List.mem_singleton]
        rintro (h | h)
        · exact hno h
        · exact c h.symm
theorem l2Cut_ev (l : List UInt8) (hl : l.length ≤ 9223372036854775807) (b : UInt8) (bi : Int) (hb : bi = (b.toNat : Int)) : Ev (fun k => spec_l2Cut.f k (B l) bi) (B (cut1 b l).1, B (cut1 b l).2.1, (cut1 b l).2.2) :=
  cutAt l hl b bi hb l.length 0 (by omega) (by simp)
theorem cut_ten (s : ByteArray) (hs : s.size ≤ 9223372036854775807) : ∃ a b, Ev (fun k => spec_l2Cut.f k s 10) (a, b, Lib.contains s.data.toList [10]) := by
  have h := l2Cut_ev s.data.toList (by rw [len]; exact hs) 10 10 rfl
  refine ⟨B (cut1 10 s.data.toList).1, B (cut1 10 s.data.toList).2.1, Ev.of_eq h ?_⟩
  congr 2
  rw [contains_ten]
  rcases cut1_cases 10 s.data.toList with ⟨h1, h2⟩ | ⟨u, v, e, h1, h2⟩
  · rw [h2, decide_eq_false h1]
  · rw [h2, decide_eq_true (by rw [e]; simp)]

instance (l : List UInt8) : Decidable (Numeral l) := by unfold Numeral; exact inferInstance
theorem digitsAt (l : List UInt8) (hl : l.length ≤ 9223372036854775807) : ∀ (d i : Nat), i + d = l.length → Ev (fun k => spec_l1Digits.l0 k (B l) i) (decide ((∀ c ∈ l.drop i, isD c) ∧ l ≠ [] ∧ (l.head? ≠ some 48 ∨ l.length = 1))) := by
  intro d
  have hsz : (B l).size = l.length := B_size l
  induction d with
  | zero =>
    intro i hi
    have c1 : ¬ (i : Int) < (((B l).size : Nat) : Int) := by rw [hsz]; omega
    rw [List.drop_eq_nil_of_le (show l.length ≤ i by omega)]
    cases l with
    | nil =>
      have c2 : ¬ (((B ([] : List UInt8)).size : Nat) : Int) > 0 := by rw [hsz]; simp
      refine Ev.step (f := fun _ => some false) (fun k => ?_) (Ev.of_eq (Ev.now _) (by simp))
      rw [spec_l1Digits.l0, if_neg c1, if_neg c2]
    | cons c r =>
      have c2 : (((B (c :: r)).size : Nat) : Int) > 0 := by rw [hsz, List.length_cons]; omega
      have c3 : 0 < (((B (c :: r)).size : Nat) : Int) := c2
      have hbt : bt (B (c :: r)) 0 = (c.toNat : Int) := bt_B (c :: r) 0 (by simp)
      by_cases hc : c = 48
      · have e1 : bt (B (c :: r)) 0 = 48 := by rw [hbt, hc]; rfl
        refine Ev.step (f := fun _ => some ((((B (c :: r)).size : Nat) : Int) == 1)) (fun k => ?_) (Ev.of_eq (Ev.now _) ?_)
        · rw [spec_l1Digits.l0, if_neg c1, if_pos c2, if_pos c3, if_pos e1]
        · rw [hsz, hc, Bool.eq_iff_iff, beq_iff_eq, decide_eq_true_iff]
          simp only [List.not_mem_nil, false_imp_iff, implies_true, ne_eq, reduceCtorEq, not_false_eq_true, List.head?_cons, not_true_eq_false, false_or, true_and]
          omega
      · have e1 : ¬ bt (B (c :: r)) 0 = 48 := by
          rw [hbt]
          intro e
          exact hc (UInt8.toNat_inj.mp (by show c.toNat = 48; omega))
        refine Ev.step (f := fun _ => some true) (fun k => ?_) (Ev.of_eq (Ev.now _) ?_)
        · rw [spec_l1Digits.l0, if_neg c1, if_pos c2, if_pos c3, if_neg e1]
        · rw [eq_comm, decide_eq_true_iff]
          exact ⟨by simp, by simp, .inl (by simp [hc])⟩
  | succ d ih =>
    intro i hi
    have hlt : i < l.length := by omega
    have c1 : (i : Int) < (((B l).size : Nat) : Int) := by rw [hsz]; omega
    have c0 : 0 ≤ (i : Int) := by omega
    have hw := next i l.length hlt hl
    have hbt := bt_B l i hlt
    rw [List.drop_eq_getElem_cons hlt]
    by_cases h1 : bt (B l) (i : Int) < 48
    · refine Ev.step (f := fun _ => some false) (fun k => ?_) (Ev.of_eq (Ev.now _) ?_)
      · rw [spec_l1Digits.l0, if_pos c1, if_pos c0, if_pos h1]
      · rw [eq_comm, decide_eq_false_iff_not]
        rintro ⟨h, _⟩
        have := h l[i] List.mem_cons_self
        unfold isD at this; omega
    by_cases h2 : bt (B l) (i : Int) > 57
    · refine Ev.step (f := fun _ => some false) (fun k => ?_) (Ev.of_eq (Ev.now _) ?_)
      · rw [spec_l1Digits.l0, if_pos c1, if_pos c0, if_neg h1, if_pos h2]
      · rw [eq_comm, decide_eq_false_iff_not]
        rintro ⟨h, _⟩
        have := h l[i] List.mem_cons_self
        unfold isD at this; omega
    refine Ev.step (fun k => ?_) (Ev.of_eq (ih (i + 1) (by omega)) ?_)
    · rw [spec_l1Digits.l0, if_pos c1, if_pos c0, if_neg h1, if_neg h2, hw]
    · have hD : isD l[i] := by unfold isD; omega
      exact decide_eq_decide.mpr ⟨fun h => ⟨fun c hc => by
        rcases List.mem_cons.mp hc with rfl | hc
        · exact hD
        · exact h.1 c hc, h.2⟩, fun h => ⟨fun c hc => h.1 c (List.mem_cons_of_mem _ hc), h.2⟩⟩
theorem digits_ev (l : List UInt8) (hl : l.length ≤ 9223372036854775807) : Ev (fun k => spec_l1Digits.f k (B l)) (decide (Numeral l)) := by
  have h := digitsAt l hl l.length 0 (by omega)
  rw [List.drop_zero] at h
  exact h
theorem num_step (a v P : Nat) (h : a < P) (hP : P ≤ 1000000) (hv : v ≤ 9) (x : Int) (hx : x = (v : Int) + 48) : a * 10 + v < P * 10 ∧ wrap64 (wrap64 (10 * (a : Int)) + (x - 48) % 256) = ((a * 10 + v : Nat) : Int) := by
  refine ⟨by omega, ?_⟩
  have e1 : (x - 48) % 256 = (v : Int) := by omega
  have e2 : wrap64 (10 * (a : Int)) = 10 * (a : Int) := w64 (by omega) (by omega)
  rw [e1, e2, w64 (by omega) (by omega)]; omega
theorem numAt (l : List UInt8) (hl : l.length ≤ 6) (hd : ∀ c ∈ l, isD c) : ∀ (d i a : Nat), i + d = l.length → a < 10 ^ i → Ev (fun k => spec_l6Number.l0 k (B l) a i) ((valF a (l.drop i) : Nat) : Int) := by
  intro d
  have hsz : (B l).size = l.length := B_size l
  induction d with
  | zero =>
    intro i a hi ha
    have c1 : ¬ (i : Int) < (((B l).size : Nat) : Int) := by rw [hsz]; omega
    rw [List.drop_eq_nil_of_le (show l.length ≤ i by omega)]
    refine Ev.step (f := fun _ => some (a : Int)) (fun k => ?_) (Ev.now _)
    rw [spec_l6Number.l0, if_neg c1]
  | succ d ih =>
    intro i a hi ha
    have hlt : i < l.length := by omega
    have c1 : (i : Int) < (((B l).size : Nat) : Int) := by rw [hsz]; omega
    have c0 : 0 ≤ (i : Int) := by omega
    have hw := next i l.length hlt (by omega)
    have hbt := bt_B l i hlt
    have hD : isD l[i] := hd _ (List.getElem_mem hlt)
    unfold isD at hD
    have hp : 10 ^ i ≤ 1000000 := Nat.le_trans (Nat.pow_le_pow_right (by omega) (show i ≤ 6 by omega)) (by decide)
    rw [List.drop_eq_getElem_cons hlt, valF_cons]
    obtain ⟨v, hv⟩ : ∃ v, v = (l[i]).toNat - 48 := ⟨_, rfl⟩
    rw [← hv]
    obtain ⟨q1, q2⟩ := num_step a v (10 ^ i) ha hp (by omega) (bt (B l) (i : Int)) (by rw [hbt]; omega)
    refine Ev.step (f := fun k => spec_l6Number.l0 k (B l) ((a * 10 + v : Nat) : Int) ((i + 1 : Nat) : Int)) (fun k => ?_) (ih (i + 1) (a * 10 + v) (by omega) (by rw [Nat.pow_succ]; exact q1))
    rw [spec_l6Number.l0, if_pos c1, if_pos c0, q2, hw]
def numOf (l : List UInt8) : Int := if l.length ≤ 6 ∧ Numeral l then ((valF 0 l : Nat) : Int) else -1
theorem number_ev (l : List UInt8) (hl : l.length ≤ 9223372036854775807) : Ev (fun k => spec_l6Number.f k (B l)) (numOf l) := by
  have hsz : (B l).size = l.length := B_size l
  unfold numOf
  have bad : Ev (fun k => spec_l6Number.j0 k (B l) true) (-1) := Ev.step (f := fun _ => some (-1)) (fun k => by rw [spec_l6Number.j0, if_pos rfl]) (Ev.now _)
  by_cases h6 : (((B l).size : Nat) : Int) > 6
  · have h6' : ¬ (l.length ≤ 6 ∧ Numeral l) := by rw [hsz] at h6; omega
    rw [if_neg h6']
    exact Ev.congr (fun k => by unfold spec_l6Number.f; rw [if_pos h6]) bad
  · have hl6 : l.length ≤ 6 := by rw [hsz] at h6; omega
    refine Ev.congr (f := fun k => (spec_l1Digits.f k (B l)).bind fun t101 => spec_l6Number.j0 k (B l) (!t101)) (fun k => by unfold spec_l6Number.f; rw [if_neg h6]) ?_
    refine Ev.bind (digits_ev l hl) ?_
    by_cases hN : Numeral l
    · rw [if_pos ⟨hl6, hN⟩, decide_eq_true hN]
      refine Ev.step (fun k => ?_) (numAt l hl6 hN.1 l.length 0 0 (by omega) (by decide))
      rw [spec_l6Number.j0, if_neg (by decide)]; rfl
    · rw [if_neg (fun h => hN h.2), decide_eq_false hN]
      exact bad
theorem numOf_dec (n : Nat) (h : n ≤ 100000) : numOf (Lib.decDigits n) = (n : Int) := by
  have hl := (num n (by omega) (by omega)).2
  rw [Int.toNat_natCast] at hl
  unfold numOf
  rw [if_pos ⟨hl, (dec_numeral n).1⟩, val_of_dec]
theorem numOf_back {l : List UInt8} (h : 0 ≤ numOf l) : Lib.decDigits (numOf l).toNat = l := by
  unfold numOf at *
  by_cases c : l.length ≤ 6 ∧ Numeral l
  · rw [if_pos c, Int.toNat_natCast]; exact dec_val c.2
  · rw [if_neg c] at h; omega

theorem ok_of {x : S37} (h : Ins.okI x = true) : 1 ≤ x.f0 ∧ x.f0 ≤ 13 ∧ 0 ≤ x.f1 ∧ x.f1 ≤ 100000 ∧ x.f2.size ≤ 1500 ∧ Lib.contains x.f2.data.toList [10] = false := by
  unfold Ins.okI at h
  simp only [Bool.and_eq_true, decide_eq_true_eq, Bool.not_eq_true'] at h
  obtain ⟨⟨⟨⟨⟨h1, h2⟩, h3⟩, h4⟩, h5⟩, h6⟩ := h
  exact ⟨h1, h2, h3, h4, h5, h6⟩
def dec (n : Int) : ByteArray := ⟨(Lib.decDigits n.toNat).toArray⟩
theorem dec_size (n : Int) (h0 : 0 ≤ n) (h1 : n ≤ 100000) : (dec n).size ≤ 6 := by
  have h := (num n h0 h1).2
  show (Lib.decDigits n.toNat).toArray.size ≤ 6
  simpa using h

theorem l6_step (K : Nat) (acc : ByteArray) (l : List S37) (i : Nat) (c1 : (i : Int) < (l.length : Int)) (a b L : ByteArray)
    (h0 : spec_l1Num.f K (rd_T37 l i).f0 = some a) (h1 : spec_l1Num.f K (rd_T37 l i).f1 = some b)
    (s1 : a.size + 1 ≤ 9223372036854775807) (s2 : (a ++ (⟨#[32]⟩ : ByteArray)).size + b.size ≤ 9223372036854775807)
    (s3 : ((a ++ (⟨#[32]⟩ : ByteArray)) ++ b).size + 1 ≤ 9223372036854775807)
    (s4 : (((a ++ (⟨#[32]⟩ : ByteArray)) ++ b) ++ (⟨#[32]⟩ : ByteArray)).size + ((rd_T37 l i).f2).size ≤ 9223372036854775807)
    (s5 : ((((a ++ (⟨#[32]⟩ : ByteArray)) ++ b) ++ (⟨#[32]⟩ : ByteArray)) ++ ((rd_T37 l i).f2)).size + 1 ≤ 9223372036854775807)
    (hL : (((((a ++ (⟨#[32]⟩ : ByteArray)) ++ b) ++ (⟨#[32]⟩ : ByteArray)) ++ ((rd_T37 l i).f2)) ++ (⟨#[10]⟩ : ByteArray)) = L)
    (s6 : acc.size + L.size ≤ 9223372036854775807) (hn : wrap64 ((i : Int) + 1) = ((i + 1 : Nat) : Int)) (z0 : 0 ≤ (i : Int)) :
    spec_l6Text.l0 (K + 1) acc l (l.length : Int) i = spec_l6Text.l0 K (acc ++ L) l (l.length : Int) ((i + 1 : Nat) : Int) := by
  subst hL
  rw [spec_l6Text.l0, if_pos c1, if_pos z0, if_pos c1, h0, Option.bind_some, if_pos s1, h1, Option.bind_some, if_pos s2, if_pos s3, if_pos s4, if_pos s5, if_pos s6, hn]
theorem ct_step (K : Nat) (acc : ByteArray) (l : List S37) (i : Nat) (c1 : (i : Int) < (l.length : Int)) (a b L : ByteArray)
    (h0 : strconv_Itoa_23.f (rd_T37 l i).f0 = some a) (h1 : strconv_Itoa_23.f (rd_T37 l i).f1 = some b)
    (s1 : a.size + 1 ≤ 9223372036854775807) (s2 : (a ++ (⟨#[32]⟩ : ByteArray)).size + b.size ≤ 9223372036854775807)
    (s3 : ((a ++ (⟨#[32]⟩ : ByteArray)) ++ b).size + 1 ≤ 9223372036854775807)
    (s4 : (((a ++ (⟨#[32]⟩ : ByteArray)) ++ b) ++ (⟨#[32]⟩ : ByteArray)).size + ((rd_T37 l i).f2).size ≤ 9223372036854775807)
    (s5 : ((((a ++ (⟨#[32]⟩ : ByteArray)) ++ b) ++ (⟨#[32]⟩ : ByteArray)) ++ ((rd_T37 l i).f2)).size + 1 ≤ 9223372036854775807)
    (hL : (((((a ++ (⟨#[32]⟩ : ByteArray)) ++ b) ++ (⟨#[32]⟩ : ByteArray)) ++ ((rd_T37 l i).f2)) ++ (⟨#[10]⟩ : ByteArray)) = L)
    (hW : strings_Builder_WriteString.f acc L = some (acc ++ L)) (hn : wrap64 ((i : Int) + 1) = ((i + 1 : Nat) : Int)) (z0 : 0 ≤ (i : Int)) :
    impl_CodeText.l0 (K + 1) acc l (l.length : Int) i = impl_CodeText.l0 K (acc ++ L) l (l.length : Int) ((i + 1 : Nat) : Int) := by
  subst hL
  rw [impl_CodeText.l0, if_pos c1, if_pos z0, if_pos c1, h0, Option.bind_some, if_pos s1, h1, Option.bind_some, if_pos s2, if_pos s3, if_pos s4, if_pos s5, hW, Option.bind_some, hn]
theorem lineSize (a b c : ByteArray) (ha : a.size ≤ 6) (hb : b.size ≤ 6) (hc : c.size ≤ 1500) :
    a.size + 1 ≤ 9223372036854775807 ∧ (a ++ (⟨#[32]⟩ : ByteArray)).size + b.size ≤ 9223372036854775807 ∧ ((a ++ (⟨#[32]⟩ : ByteArray)) ++ b).size + 1 ≤ 9223372036854775807 ∧
    (((a ++ (⟨#[32]⟩ : ByteArray)) ++ b) ++ (⟨#[32]⟩ : ByteArray)).size + c.size ≤ 9223372036854775807 ∧
    ((((a ++ (⟨#[32]⟩ : ByteArray)) ++ b) ++ (⟨#[32]⟩ : ByteArray)) ++ c).size + 1 ≤ 9223372036854775807 ∧
    (((((a ++ (⟨#[32]⟩ : ByteArray)) ++ b) ++ (⟨#[32]⟩ : ByteArray)) ++ c) ++ (⟨#[10]⟩ : ByteArray)).size ≤ 1600 := by
  have e1 : (⟨#[32]⟩ : ByteArray).size = 1 := rfl
  have e2 : (⟨#[10]⟩ : ByteArray).size = 1 := rfl
  simp only [ByteArray.size_append, e1, e2]
  generalize a.size = x at *
  generalize b.size = y at *
  generalize c.size = z at *
  clear e1 e2
  omega
def line (x : S37) : List UInt8 := Lib.decDigits x.f0.toNat ++ 32 :: (Lib.decDigits x.f1.toNat ++ 32 :: (x.f2.data.toList ++ [10]))
def T (l : List S37) : List UInt8 := l.flatMap line
theorem T_cons (x : S37) (l : List S37) : T (x :: l) = line x ++ T l := rfl
theorem line_eq (x : S37) : (((((dec x.f0 ++ (⟨#[32]⟩ : ByteArray)) ++ dec x.f1) ++ (⟨#[32]⟩ : ByteArray)) ++ x.f2) ++ (⟨#[10]⟩ : ByteArray)) = B (line x) := by
  apply ByteArray.ext
  simp [B, line, dec]
theorem bothLoop (l : List S37) (hl : l.length ≤ 3000) (hok : ∀ x ∈ l, Ins.okI x = true) : ∀ (d i : Nat) (acc : ByteArray), i + d = l.length → acc.size ≤ 1600 * i → Ev (fun k => spec_l6Text.l0 k acc l (l.length : Int) i) (acc ++ B (T (l.drop i))) ∧ Ev (fun k => impl_CodeText.l0 k acc l (l.length : Int) i) (acc ++ B (T (l.drop i)), true) := by
  intro d
  induction d with
  | zero =>
    intro i acc hi ha
    have hge : ¬ (i : Int) < (l.length : Int) := by omega
    have e : acc ++ B (T (l.drop i)) = acc := by
      rw [List.drop_eq_nil_of_le (by omega)]
      apply ByteArray.ext
      simp [B, T]
    rw [e]
    refine ⟨Ev.step (f := fun _ => some acc) (fun k => ?_) (Ev.now _), Ev.step (f := fun _ => some (acc, true)) (fun k => ?_) (Ev.now _)⟩
    · rw [spec_l6Text.l0, if_neg hge]
    · rw [impl_CodeText.l0, if_neg hge]; rfl
  | succ d ih =>
    intro i acc hi ha
    have c0 : i < l.length := by omega
    have c1 : (i : Int) < (l.length : Int) := by omega
    have z0 : 0 ≤ (i : Int) := by omega
    have hn := next i l.length c0 (by omega)
    have hx := ok_of (hok _ (mem_getD l z37 i c0))
    have hT : T (l.drop i) = line (rd_T37 l i) ++ T (l.drop (i + 1)) := by
      rw [List.drop_eq_getElem_cons c0, T_cons, rd37, List.getD_eq_getElem?_getD, List.getElem?_eq_getElem c0]; rfl
    rw [← rd37] at hx
    obtain ⟨h1, h2, h3, h4, h5, _⟩ := hx
    have g0 : 0 ≤ (rd_T37 l i).f0 := by omega
    have g1 : (rd_T37 l i).f0 ≤ 100000 := by omega
    have g2 : 0 ≤ (rd_T37 l i).f0 ∧ (rd_T37 l i).f0 ≤ 9223372036854775807 := ⟨g0, by omega⟩
    have g3 : 0 ≤ (rd_T37 l i).f1 ∧ (rd_T37 l i).f1 ≤ 9223372036854775807 := ⟨h3, by omega⟩
    have n0 := (num (rd_T37 l i).f0 g0 g1).1
    have n1 := (num (rd_T37 l i).f1 h3 h4).1
    have i0 : strconv_Itoa_23.f (rd_T37 l i).f0 = some (dec (rd_T37 l i).f0) := if_pos g2
    have i1 : strconv_Itoa_23.f (rd_T37 l i).f1 = some (dec (rd_T37 l i).f1) := if_pos g3
    obtain ⟨s1, s2, s3, s4, s5, sL⟩ := lineSize _ _ _ (dec_size (rd_T37 l i).f0 g0 g1) (dec_size (rd_T37 l i).f1 h3 h4) h5
    have hL := line_eq (rd_T37 l i)
    rw [hL] at sL
    have e2 : acc ++ B (T (l.drop i)) = (acc ++ B (line (rd_T37 l i))) ++ B (T (l.drop (i + 1))) := by
      rw [hT, ← B_append, ByteArray.append_assoc]
    rw [e2]
    generalize B (line (rd_T37 l i)) = L at sL hL e2 ⊢
    have s67 : acc.size + L.size ≤ 1600 * (i + 1) := by clear s1 s2 s3 s4 s5 hL i0 i1 n0 n1 e2; omega
    have s6 : acc.size + L.size ≤ 9223372036854775807 := by clear s1 s2 s3 s4 s5 hL i0 i1 n0 n1 e2; omega
    have s7 : acc.size + L.size ≤ 140737488355328 := by clear s1 s2 s3 s4 s5 hL i0 i1 n0 n1 e2; omega
    have hW : strings_Builder_WriteString.f acc L = some (acc ++ L) := if_pos s7
    have hi2 : i + 1 + d = l.length := by clear s1 s2 s3 s4 s5 hL i0 i1 n0 n1 e2; omega
    obtain ⟨⟨K2, hS⟩, ⟨K3, hI⟩⟩ := ih (i + 1) (acc ++ L) hi2 (by rw [ByteArray.size_append]; exact s67)
    obtain ⟨K0, h0⟩ := n0
    obtain ⟨K1, h1⟩ := n1
    clear e2
    refine ⟨⟨K0 + K1 + K2 + 1, fun k hk => ?_⟩, ⟨K3 + 1, fun k hk => ?_⟩⟩
    · obtain ⟨k, rfl⟩ : ∃ k', k = k' + 1 := ⟨k - 1, by clear s1 s2 s3 s4 s5 hL i0 i1; omega⟩
      have b0 : K0 ≤ k := by clear s1 s2 s3 s4 s5 hL i0 i1; omega
      have b1 : K1 ≤ k := by clear s1 s2 s3 s4 s5 hL i0 i1; omega
      have b2 : K2 ≤ k := by clear s1 s2 s3 s4 s5 hL i0 i1; omega
      exact (l6_step k acc l i c1 _ _ L (h0 k b0) (h1 k b1) s1 s2 s3 s4 s5 hL s6 hn z0).trans (hS k b2)
    · obtain ⟨k, rfl⟩ : ∃ k', k = k' + 1 := ⟨k - 1, by clear s1 s2 s3 s4 s5 hL i0 i1; omega⟩
      have b2 : K3 ≤ k := by clear s1 s2 s3 s4 s5 hL i0 i1; omega
      exact (ct_step k acc l i c1 _ _ L i0 i1 s1 s2 s3 s4 s5 hL hW hn z0).trans (hI k b2)

section
variable (l : List S37) (hl : l.length ≤ 3000) (ht : ∀ x ∈ l, x.f2.size ≤ 9223372036854775807)
include hl ht
theorem stepOk (i : Nat) (hi : i < l.length) (hok : Ins.okI (l.getD i z37) = true) {r : ByteArray × Bool} (h : Ev (fun k => spec_CodeText.l0 k l l (l.length : Int) ((i + 1 : Nat) : Int)) r) : Ev (fun k => spec_CodeText.l0 k l l (l.length : Int) i) r := by
  obtain ⟨h1, h2, h3, h4, h5, h6⟩ := ok_of hok
  obtain ⟨a, b, hc⟩ := cut_ten (l.getD i z37).f2 (ht _ (mem_getD l z37 i hi))
  rw [h6] at hc
  refine Ev.succ ?_
  simp only [spec_CodeText.l0, rd37, l1In_eq, next i l.length hi (by omega)]
  exact Ev.ite_pos (by omega) (Ev.ite_pos (by omega) (Ev.ite_pos (by omega) (Ev.bind hc (Ev.ite_neg (by simp) (Ev.bind (Ev.now _) (Ev.ite_pos (decide_eq_true ⟨h1, h2⟩) (Ev.bind (Ev.now _) (Ev.ite_pos (decide_eq_true ⟨h3, h4⟩) (Ev.ite_neg (by omega) h)))))))))
omit hl in
theorem stepBad (i : Nat) (hi : i < l.length) (hok : Ins.okI (l.getD i z37) = false) : Ev (fun k => spec_CodeText.l0 k l l (l.length : Int) i) ((⟨#[]⟩ : ByteArray), false) := by
  obtain ⟨a, b, hc⟩ := cut_ten (l.getD i z37).f2 (ht _ (mem_getD l z37 i hi))
  refine Ev.succ ?_
  simp only [spec_CodeText.l0, rd37, l1In_eq]
  refine Ev.ite_pos (by omega) (Ev.ite_pos (by omega) (Ev.ite_pos (by omega) (Ev.bind hc ?_)))
  by_cases c6 : Lib.contains (l.getD i z37).f2.data.toList [10] = true
  · exact Ev.ite_pos c6 (Ev.now _)
  refine Ev.ite_neg c6 (Ev.bind (Ev.now _) ?_)
  by_cases c1 : 1 ≤ (l.getD i z37).f0 ∧ (l.getD i z37).f0 ≤ 13
  case neg => exact Ev.ite_neg (by rw [decide_eq_false c1]; decide) (Ev.now _)
  refine Ev.ite_pos (decide_eq_true c1) (Ev.bind (Ev.now _) ?_)
  by_cases c2 : 0 ≤ (l.getD i z37).f1 ∧ (l.getD i z37).f1 ≤ 100000
  case neg => exact Ev.ite_neg (by rw [decide_eq_false c2]; decide) (Ev.now _)
  refine Ev.ite_pos (decide_eq_true c2) ?_
  by_cases c3 : (((l.getD i z37).f2).size : Int) > 1500
  · exact Ev.ite_pos c3 (Ev.now _)
  · exfalso
    have : Ins.okI (l.getD i z37) = true := by
      unfold Ins.okI
      simp only [Bool.and_eq_true, decide_eq_true_eq, Bool.not_eq_true']
      exact ⟨⟨⟨⟨⟨c1.1, c1.2⟩, c2.1⟩, c2.2⟩, by omega⟩, Bool.eq_false_iff.mpr c6⟩
    rw [this] at hok; cases hok
theorem goodLoop (hok : ∀ x ∈ l, Ins.okI x = true) {s : ByteArray} (hs : Ev (fun k => spec_l6Text.f k l) s) : ∀ (d i : Nat), i + d = l.length → Ev (fun k => spec_CodeText.l0 k l l (l.length : Int) i) (s, true) := by
  intro d
  induction d with
  | zero =>
    intro i hi
    refine Ev.succ ?_
    simp only [spec_CodeText.l0]
    exact Ev.ite_neg (by omega) (Ev.bind hs (Ev.now _))
  | succ d ih => intro i hi; exact stepOk l hl ht i (by omega) (hok _ (mem_getD l z37 i (by omega))) (ih (i + 1) (by omega))
theorem badLoop : ∀ (d i : Nat), i + d = l.length → (∃ j, i ≤ j ∧ j < l.length ∧ Ins.okI (l.getD j z37) = false) → Ev (fun k => spec_CodeText.l0 k l l (l.length : Int) i) ((⟨#[]⟩ : ByteArray), false) := by
  intro d
  induction d with
  | zero => intro i hi ⟨j, h1, h2, _⟩; omega
  | succ d ih =>
    intro i hi ⟨j, h1, h2, h3⟩
    by_cases c : Ins.okI (l.getD i z37) = true
    · refine stepOk l hl ht i (by omega) c (ih (i + 1) (by omega) ⟨j, ?_, h2, h3⟩)
      rcases Nat.lt_or_ge i j with h | h
      · exact h
      · obtain rfl : i = j := by omega
        rw [c] at h3; cases h3
    · exact stepBad l ht i (by omega) (by simpa using c)
end

def Good (l : List S37) : Prop := l.length ≤ 3000 ∧ ∀ x ∈ l, Ins.okI x = true
theorem text_good {l : List S37} (h : Good l) : Ev (fun k => spec_CodeText.f k l) (B (T l), true) ∧ Ev (fun k => impl_CodeText.f k l) (B (T l), true) := by
  obtain ⟨hl3, hok⟩ := h
  have hn : ¬ (l.length : Int) > 3000 := by omega
  have ht : ∀ x ∈ l, x.f2.size ≤ 9223372036854775807 := fun x hx => by have := (ok_of (hok x hx)).2.2.2.2.1; omega
  obtain ⟨hS, hI⟩ := bothLoop l hl3 hok l.length 0 (⟨#[]⟩ : ByteArray) (by omega) (by show (0 : Nat) ≤ _; omega)
  have e0 : (⟨#[]⟩ : ByteArray) ++ B (T (l.drop 0)) = B (T l) := by
    rw [List.drop_zero]
    apply ByteArray.ext
    simp
  rw [e0] at hS hI
  have hbf : (l.any fun x => !Ins.okI x) = false := by
    rw [Bool.eq_false_iff]
    intro hb
    obtain ⟨x, hx, hxb⟩ := List.any_eq_true.mp hb
    rw [hok x hx] at hxb; cases hxb
  unfold spec_CodeText.f impl_CodeText.f impl_Instr_19.f
  refine ⟨Ev.ite_neg hn (goodLoop l hl3 ht hok hS l.length 0 (by omega)), Ev.ite_neg hn (Ev.bind (Ev.now _) ?_)⟩
  rw [hbf]
  refine Ev.succ ?_
  simp only [impl_CodeText.j0]
  exact Ev.ite_neg (by simp) hI
theorem text_bad {l : List S37} (ht : ∀ x ∈ l, x.f2.size ≤ 9223372036854775807) (h : ¬ Good l) : Ev (fun k => spec_CodeText.f k l) (⟨#[]⟩, false) ∧ Ev (fun k => impl_CodeText.f k l) (⟨#[]⟩, false) := by
  unfold spec_CodeText.f impl_CodeText.f impl_Instr_19.f
  have ibad : Ev (fun k => impl_CodeText.j0 k l true) ((⟨#[]⟩ : ByteArray), false) := Ev.succ (by simp only [impl_CodeText.j0]; exact Ev.ite_pos trivial (Ev.now _))
  by_cases hn : (l.length : Int) > 3000
  · exact ⟨Ev.ite_pos hn (Ev.now _), Ev.ite_pos hn ibad⟩
  have hl3 : l.length ≤ 3000 := by omega
  have hb : (l.any fun x => !Ins.okI x) = true := by
    cases hc : (l.any fun x => !Ins.okI x) with
    | true => rfl
    | false =>
      refine absurd ⟨hl3, fun x hx => ?_⟩ h
      cases hx2 : Ins.okI x with
      | true => rfl
      | false =>
        have : (l.any fun x => !Ins.okI x) = true := List.any_eq_true.mpr ⟨x, hx, by rw [hx2]; rfl⟩
        rw [hc] at this; cases this
  refine ⟨Ev.ite_neg hn ?_, Ev.ite_neg hn (Ev.bind (Ev.now _) (by rw [hb]; exact ibad))⟩
  obtain ⟨x, hx, hxb⟩ := List.any_eq_true.mp hb
  obtain ⟨j, hj, he⟩ := List.getElem_of_mem hx
  refine badLoop l hl3 ht l.length 0 (by omega) ⟨j, by omega, hj, ?_⟩
  rw [List.getD_eq_getElem?_getD, List.getElem?_eq_getElem hj, Option.getD_some, he]
  simpa using hxb

theorem no32 (n : Nat) : (32 : UInt8) ∉ Lib.decDigits n := dec_no n 32 (by decide)
theorem no10 (n : Nat) : (10 : UInt8) ∉ Lib.decDigits n := dec_no n 10 (by decide)
theorem ok_no10 {x : S37} (h : Ins.okI x = true) : (10 : UInt8) ∉ x.f2.data.toList := by
  have h6 := (ok_of h).2.2.2.2.2
  rw [contains_ten] at h6
  exact of_decide_eq_false h6
def words (x : S37) : List UInt8 := Lib.decDigits x.f0.toNat ++ 32 :: (Lib.decDigits x.f1.toNat ++ 32 :: x.f2.data.toList)
theorem line_words (x : S37) (R : List UInt8) : line x ++ R = words x ++ 10 :: R := by unfold line words; simp
theorem cut_line {x : S37} (h : Ins.okI x = true) (R : List UInt8) : cut1 10 (line x ++ R) = (words x, R, true) := by
  rw [line_words]
  refine cut1_app 10 R (words x) ?_
  unfold words
  simp only [List.mem_append, List.mem_cons, not_or]
  exact ⟨no10 _, by decide, no10 _, by decide, ok_no10 h⟩
theorem cut_words (x : S37) : cut1 32 (words x) = (Lib.decDigits x.f0.toNat, Lib.decDigits x.f1.toNat ++ 32 :: x.f2.data.toList, true) := cut1_app 32 _ _ (no32 _)
theorem cut_words2 (x : S37) : cut1 32 (Lib.decDigits x.f1.toNat ++ 32 :: x.f2.data.toList) = (Lib.decDigits x.f1.toNat, x.f2.data.toList, true) := cut1_app 32 _ _ (no32 _)
theorem T_inj : ∀ (l m : List S37), (∀ x ∈ l, Ins.okI x = true) → (∀ x ∈ m, Ins.okI x = true) → T l = T m → l = m
  | [], [], _, _, _ => rfl
  | [], x :: m, _, hm, h => by
    have := cut_line (hm x (by simp)) (T m)
    rw [← T_cons, ← h] at this
    exact absurd this (by simp [T, cut1])
  | x :: l, [], hl, _, h => by
    have := cut_line (hl x (by simp)) (T l)
    rw [← T_cons, h] at this
    exact absurd this (by simp [T, cut1])
  | x :: l, y :: m, hl, hm, h => by
    have hx := hl x (by simp)
    have hy := hm y (by simp)
    have c1 := cut_line hx (T l)
    rw [← T_cons, h, T_cons, cut_line hy (T m)] at c1
    simp only [Prod.mk.injEq] at c1
    obtain ⟨hw, hR, _⟩ := c1
    have c2 := cut_words x
    rw [← hw, cut_words y] at c2
    simp only [Prod.mk.injEq] at c2
    obtain ⟨h0, hw2, _⟩ := c2
    have c3 := cut_words2 x
    rw [← hw2, cut_words2 y] at c3
    simp only [Prod.mk.injEq] at c3
    obtain ⟨h1, h2, _⟩ := c3
    have e0 := dec_inj h0
    have e1 := dec_inj h1
    have e2 : y.f2 = x.f2 := data_inj h2
    have ox := ok_of hx
    have oy := ok_of hy
    have exy : x = y := by
      cases x; cases y
      simp only at *
      congr 1
      · omega
      · omega
      · exact e2.symm
    rw [exy, T_inj l m (fun z hz => hl z (by simp [hz])) (fun z hz => hm z (by simp [hz])) hR.symm]
theorem T_nil_of {m : List S37} (hm : ∀ x ∈ m, Ins.okI x = true) (h : ([] : List UInt8) = T m) : m = [] := (T_inj [] m (by simp) hm h).symm

theorem specLoop : ∀ (n : Nat) (rest : List UInt8) (acc : List S37), rest.length = n → n ≤ 1048576 → acc.length ≤ 3001 → (∀ x ∈ acc, x.f2.size ≤ 1048576) → ∃ r : List S37 × Bool, Ev (fun k => spec_ReadCode.l0 k acc (B rest)) r ∧ ((r.2 = true ∧ ∃ m, Good (acc ++ m) ∧ rest = T m ∧ r.1 = acc ++ m) ∨ (r = ([], false) ∧ ¬ ∃ m, Good (acc ++ m) ∧ rest = T m)) := by
  intro n
  induction n using Nat.strongRecOn with
  | _ n ih =>
    intro rest acc hn h20 hacc hsz
    have ht : ∀ x ∈ acc, x.f2.size ≤ 9223372036854775807 := fun x hx => by have := hsz x hx; omega
    by_cases hr : rest = []
    · subst hr
      have c0 : (B ([] : List UInt8)).toList = [] := toList_B []
      by_cases hg : Good acc
      · refine ⟨(acc, true), ?_, .inl ⟨rfl, [], by rwa [List.append_nil], rfl, by rw [List.append_nil]⟩⟩
        refine Ev.step (fun k => by rw [spec_ReadCode.l0, if_pos c0]) (Ev.bind (text_good hg).1 (Ev.ite_pos rfl (Ev.now _)))
      · refine ⟨([], false), ?_, .inr ⟨rfl, ?_⟩⟩
        · refine Ev.step (fun k => by rw [spec_ReadCode.l0, if_pos c0]) (Ev.bind (text_bad ht hg).1 (Ev.ite_neg Bool.false_ne_true (Ev.now _)))
        · rintro ⟨m, hm, he⟩
          obtain rfl := T_nil_of (fun x hx => hm.2 x (List.mem_append_right _ hx)) he
          rw [List.append_nil] at hm
          exact hg hm
    · have c0 : ¬ (B rest).toList = [] := by rw [toList_B]; exact hr
      have cutA := l2Cut_ev rest (by omega) 10 10 rfl
      have lens : (cut1 10 rest).1.length ≤ rest.length := by
        rcases cut1_cases 10 rest with ⟨_, h2⟩ | ⟨u, v, e, _, h2⟩
        · rw [h2]; exact Nat.le_refl _
        · rw [h2, e]; simp
      have cutB := l2Cut_ev (cut1 10 rest).1 (by omega) 32 32 rfl
      have lens2 : (cut1 32 (cut1 10 rest).1).2.1.length ≤ (cut1 10 rest).1.length := by
        rcases cut1_cases 32 (cut1 10 rest).1 with ⟨_, h2⟩ | ⟨u, v, e, _, h2⟩
        · rw [h2]; exact Nat.zero_le _
        · rw [h2]; generalize (cut1 10 rest).1 = z at e; rw [e]; simp; omega
      have cutC := l2Cut_ev (cut1 32 (cut1 10 rest).1).2.1 (by omega) 32 32 rfl
      -- what a text at the rest would tell
      have tells : ∀ (x : S37) (m : List S37), Ins.okI x = true → rest = T (x :: m) → cut1 10 rest = (words x, T m, true) := fun x m hx e => by rw [e, T_cons]; exact cut_line hx _
      have split : ∀ m, Good (acc ++ m) → rest = T m → ∃ x m', m = x :: m' ∧ Ins.okI x = true := fun m hm e => by
        cases m with
        | nil => exact absurd e hr
        | cons x m => exact ⟨x, m, rfl, hm.2 x (by simp)⟩
      have bad : ∀ y0 y1 y2 y3 : ByteArray, Ev (fun k => spec_ReadCode.j1 k acc y0 y1 y2 y3 true) (([] : List S37), false) := fun y0 y1 y2 y3 => Ev.step (f := fun _ => some (([] : List S37), false)) (fun k => by rw [spec_ReadCode.j1, if_pos rfl]) (Ev.now _)
      by_cases f1 : (cut1 10 rest).2.2 = true
      case neg =>
        refine ⟨([], false), ?_, .inr ⟨rfl, ?_⟩⟩
        · refine Ev.step (fun k => by rw [spec_ReadCode.l0, if_neg c0]) (Ev.bind cutA (Ev.bind cutB (Ev.bind cutC (Ev.ite_neg f1 (bad _ _ _ _)))))
        · rintro ⟨m, hm, e⟩
          obtain ⟨x, m', rfl, hx⟩ := split m hm e
          rw [tells x m' hx e] at f1
          exact f1 rfl
      by_cases f2 : (cut1 32 (cut1 10 rest).1).2.2 = true
      case neg =>
        refine ⟨([], false), ?_, .inr ⟨rfl, ?_⟩⟩
        · refine Ev.step (fun k => by rw [spec_ReadCode.l0, if_neg c0]) (Ev.bind cutA (Ev.bind cutB (Ev.bind cutC (Ev.ite_pos f1 (Ev.ite_neg f2 (bad _ _ _ _))))))
        · rintro ⟨m, hm, e⟩
          obtain ⟨x, m', rfl, hx⟩ := split m hm e
          rw [tells x m' hx e, cut_words] at f2
          exact f2 rfl
      by_cases f3 : (cut1 32 (cut1 32 (cut1 10 rest).1).2.1).2.2 = true
      case neg =>
        refine ⟨([], false), ?_, .inr ⟨rfl, ?_⟩⟩
        · refine Ev.step (fun k => by rw [spec_ReadCode.l0, if_neg c0]) (Ev.bind cutA (Ev.bind cutB (Ev.bind cutC (Ev.ite_pos f1 (Ev.ite_pos f2 (Ev.ite_neg f3 (bad _ _ _ _)))))))
        · rintro ⟨m, hm, e⟩
          obtain ⟨x, m', rfl, hx⟩ := split m hm e
          rw [tells x m' hx e, cut_words, cut_words2] at f3
          exact f3 rfl
      by_cases hlong : acc.length > 3000
      · refine ⟨([], false), ?_, .inr ⟨rfl, ?_⟩⟩
        · refine Ev.step (fun k => by rw [spec_ReadCode.l0, if_neg c0]) (Ev.bind cutA (Ev.bind cutB (Ev.bind cutC (Ev.ite_pos f1 (Ev.ite_pos f2 (Ev.ite_pos f3 ?_))))))
          have : decide ((acc.length : Int) > 3000) = true := decide_eq_true (by omega)
          rw [this]; exact bad _ _ _ _
        · rintro ⟨m, hm, e⟩
          have := hm.1
          rw [List.length_append] at this; omega
      obtain ⟨u, v, e1, hu, c1⟩ := cut1_found f1
      rw [c1] at f2 f3 cutA cutB cutC
      simp only at f2 f3 cutA cutB cutC
      obtain ⟨a, y, e2, ha, c2⟩ := cut1_found f2
      rw [c2] at f3 cutB cutC
      simp only at f3 cutB cutC
      obtain ⟨b, t, e3, hb, c3⟩ := cut1_found f3
      rw [c3] at cutC
      simp only at cutC
      have hlr : rest.length = a.length + b.length + t.length + v.length + 3 := by rw [e1, e2, e3]; simp; omega
      obtain ⟨r, hE, hR⟩ := ih v.length (by omega) v (acc ++ [(⟨numOf a, numOf b, B t⟩ : S37)]) rfl (by omega) (by rw [List.length_append, List.length_singleton]; omega) (fun x hx => by
        rcases List.mem_append.mp hx with hx | hx
        · exact hsz x hx
        · rw [List.mem_singleton] at hx
          rw [hx]
          show (B t).size ≤ _
          rw [B_size]; omega)
      refine ⟨r, ?_, ?_⟩
      · refine Ev.step (fun k => by rw [spec_ReadCode.l0, if_neg c0]) (Ev.bind cutA (Ev.bind cutB (Ev.bind cutC (Ev.ite_pos rfl (Ev.ite_pos rfl (Ev.ite_pos rfl ?_))))))
        have : decide ((acc.length : Int) > 3000) = false := decide_eq_false (by omega)
        rw [this]
        refine Ev.step (fun k => by rw [spec_ReadCode.j1, if_neg (by decide)]) (Ev.bind (number_ev a (by omega)) (Ev.bind (number_ev b (by omega)) (Ev.ite_pos (show acc.length < 4398046511104 by omega) hE)))
      · -- a text at the rest is one behind
        have hx : ∀ x m, Ins.okI x = true → rest = T (x :: m) → x = (⟨numOf a, numOf b, B t⟩ : S37) ∧ v = T m := fun x m hx e => by
          have q1 := tells x m hx e
          rw [c1] at q1
          simp only [Prod.mk.injEq] at q1
          obtain ⟨q1, q2, _⟩ := q1
          have q3 := cut_words x
          rw [← q1, c2] at q3
          simp only [Prod.mk.injEq] at q3
          obtain ⟨q3, q4, _⟩ := q3
          have q5 := cut_words2 x
          rw [← q4, c3] at q5
          simp only [Prod.mk.injEq] at q5
          obtain ⟨q5, q6, _⟩ := q5
          have ox := ok_of hx
          refine ⟨?_, q2⟩
          rw [q3, q5, q6, numOf_dec _ (by omega), numOf_dec _ (by omega), B_of]
          cases x
          simp only at *
          congr 1
          · omega
          · omega
        rcases hR with ⟨h1, m, hm, hv, hr1⟩ | ⟨h1, h2⟩
        · left
          refine ⟨h1, (⟨numOf a, numOf b, B t⟩ : S37) :: m, by rw [List.append_cons]; exact hm, ?_, by rw [List.append_cons]; exact hr1⟩
          have hok := ok_of (hm.2 (⟨numOf a, numOf b, B t⟩ : S37) (by simp))
          have d1 : Lib.decDigits (numOf a).toNat = a := numOf_back (by have := hok.1; simp only at this; omega)
          have d2 : Lib.decDigits (numOf b).toNat = b := numOf_back hok.2.2.1
          rw [T_cons, ← hv, line_words, e1, e2, e3]
          unfold words
          simp only
          rw [d1, d2, B_list]
        · right
          refine ⟨h1, ?_⟩
          rintro ⟨m, hm, e⟩
          obtain ⟨x, m', rfl, hx'⟩ := split m hm e
          obtain ⟨rfl, hv⟩ := hx x m' hx' e
          exact h2 ⟨m', by rw [List.append_cons] at hm; exact hm, hv⟩

theorem atoi_f (a : List UInt8) (h : a.length ≤ 1048576) : strconv_Atoi_29.f (B a) = some (atoiNum (B a), atoiErr (B a)) := if_pos (by rw [B_size]; omega)
theorem atoi_num (n : Nat) (h : n ≤ 100000) : atoiNum (B (Lib.decDigits n)) = (n : Int) := by
  unfold atoiNum
  rw [B_list, atoi_dec n (by omega)]
theorem implLoop (s : List UInt8) : ∀ (n : Nat) (rest : List UInt8) (acc : List S37), rest.length = n → n ≤ 1048576 → acc.length ≤ 3000 → (∀ x ∈ acc, x.f2.size ≤ 1048576) → ∃ r : List S37 × Bool, Ev (fun k => impl_ReadCode.l0 k (B s) acc (B rest)) r ∧ ((r.2 = true ∧ Good r.1 ∧ T r.1 = s) ∨ (r = ([], false) ∧ ¬ ∃ m, Good (acc ++ m) ∧ rest = T m ∧ T (acc ++ m) = s)) := by
  intro n
  induction n using Nat.strongRecOn with
  | _ n ih =>
    intro rest acc hn h20 hacc hsz
    have ht : ∀ x ∈ acc, x.f2.size ≤ 9223372036854775807 := fun x hx => by have := hsz x hx; omega
    by_cases hr : rest = []
    · subst hr
      have c0 : (B ([] : List UInt8)).toList = [] := toList_B []
      by_cases hg : Good acc
      · by_cases hs : T acc = s
        · refine ⟨(acc, true), ?_, .inl ⟨rfl, hg, hs⟩⟩
          refine Ev.step (fun k => by rw [impl_ReadCode.l0, if_pos c0]) (Ev.bind (text_good hg).2 (Ev.ite_pos rfl (Ev.ite_pos (show (B (T acc)).toList = (B s).toList by rw [toList_B, toList_B]; exact hs) (Ev.now _))))
        · refine ⟨([], false), ?_, .inr ⟨rfl, ?_⟩⟩
          · refine Ev.step (fun k => by rw [impl_ReadCode.l0, if_pos c0]) (Ev.bind (text_good hg).2 (Ev.ite_pos rfl (Ev.ite_neg (show ¬ (B (T acc)).toList = (B s).toList by rw [toList_B, toList_B]; exact hs) (Ev.now _))))
          · rintro ⟨m, hm, he, h3⟩
            obtain rfl := T_nil_of (fun x hx => hm.2 x (List.mem_append_right _ hx)) he
            rw [List.append_nil] at h3
            exact hs h3
      · refine ⟨([], false), ?_, .inr ⟨rfl, ?_⟩⟩
        · refine Ev.step (fun k => by rw [impl_ReadCode.l0, if_pos c0]) (Ev.bind (text_bad ht hg).2 (Ev.ite_neg Bool.false_ne_true (Ev.now _)))
        · rintro ⟨m, hm, he, _⟩
          obtain rfl := T_nil_of (fun x hx => hm.2 x (List.mem_append_right _ hx)) he
          rw [List.append_nil] at hm
          exact hg hm
    · have c0 : ¬ (B rest).toList = [] := by rw [toList_B]; exact hr
      have hcut : strings_Cut.f (B rest) (⟨#[10]⟩ : ByteArray) = some (B (cut1 10 rest).1, B (cut1 10 rest).2.1, (cut1 10 rest).2.2) := by
        unfold strings_Cut.f
        rw [if_pos (by rw [B_size]; omega)]
        show some (B (Lib.cut rest [10]).1, B (Lib.cut rest [10]).2.1, (Lib.cut rest [10]).2.2) = _
        rw [lib_cut]
      have lens : (cut1 10 rest).1.length ≤ rest.length := by
        rcases cut1_cases 10 rest with ⟨_, h2⟩ | ⟨u, v, e, _, h2⟩
        · rw [h2]; exact Nat.le_refl _
        · rw [h2, e]; simp
      have hspl : strings_SplitN.f (B (cut1 10 rest).1) (⟨#[32]⟩ : ByteArray) 3 = some (Lib.splitB ⟨#[32]⟩ 0 (min 3 ((cut1 10 rest).1.length + 1) - 1) (B (cut1 10 rest).1)) := by
        unfold strings_SplitN.f
        rw [if_pos ⟨by rw [B_size]; omega, by decide, by decide, by decide⟩, B_size]; rfl
      obtain ⟨p1, p2⟩ := pieces3 (cut1 10 rest).1
      have tells : ∀ (x : S37) (m : List S37), Ins.okI x = true → rest = T (x :: m) → cut1 10 rest = (words x, T m, true) := fun x m hx e => by rw [e, T_cons]; exact cut_line hx _
      have split : ∀ m, Good (acc ++ m) → rest = T m → ∃ x m', m = x :: m' ∧ Ins.okI x = true := fun m hm e => by
        cases m with
        | nil => exact absurd e hr
        | cons x m => exact ⟨x, m, rfl, hm.2 x (by simp)⟩
      have bad : ∀ (y : ByteArray) (ps : List ByteArray), Ev (fun k => impl_ReadCode.j1 k (B s) acc y ps true) (([] : List S37), false) := fun y ps => Ev.step (f := fun _ => some (([] : List S37), false)) (fun k => by rw [impl_ReadCode.j1, if_pos rfl]) (Ev.now _)
      by_cases f : (cut1 32 (cut1 10 rest).1).2.2 = true ∧ (cut1 32 (cut1 32 (cut1 10 rest).1).2.1).2.2 = true
      case neg =>
        have hp := p2 f
        refine ⟨([], false), ?_, .inr ⟨rfl, ?_⟩⟩
        · have hp' : ¬ ((Lib.splitB ⟨#[32]⟩ 0 (min 3 ((cut1 10 rest).1.length + 1) - 1) (B (cut1 10 rest).1)).length : Int) = 3 := by omega
          refine Ev.step (f := fun k => impl_ReadCode.j1 k (B s) acc (B (cut1 10 rest).2.1) (Lib.splitB ⟨#[32]⟩ 0 (min 3 ((cut1 10 rest).1.length + 1) - 1) (B (cut1 10 rest).1)) true) (fun k => ?_) (bad _ _)
          rw [impl_ReadCode.l0, if_neg c0, hcut, Option.bind_some, hspl, Option.bind_some, if_neg hp']
        · rintro ⟨m, hm, e, _⟩
          obtain ⟨x, m', rfl, hx⟩ := split m hm e
          refine f ?_
          rw [tells x m' hx e, cut_words, cut_words2]
          exact ⟨rfl, rfl⟩
      have hps := p1 f
      by_cases hfull : acc.length = 3000
      · refine ⟨([], false), ?_, .inr ⟨rfl, ?_⟩⟩
        · have hb : ((acc.length : Int) == 3000) = true := by rw [beq_iff_eq]; omega
          refine Ev.step (f := fun k => impl_ReadCode.j1 k (B s) acc (B (cut1 10 rest).2.1) [B (cut1 32 (cut1 10 rest).1).1, B (cut1 32 (cut1 32 (cut1 10 rest).1).2.1).1, B (cut1 32 (cut1 32 (cut1 10 rest).1).2.1).2.1] true) (fun k => ?_) (bad _ _)
          rw [impl_ReadCode.l0, if_neg c0, hcut, Option.bind_some, hspl, Option.bind_some, hps, if_pos (by rfl), hb]
        · rintro ⟨m, hm, e, _⟩
          obtain ⟨x, m', rfl, hx⟩ := split m hm e
          have := hm.1
          rw [List.length_append, List.length_cons] at this; omega
      obtain ⟨f2, f3⟩ := f
      obtain ⟨a, y, e2, ha, c2⟩ := cut1_found f2
      rw [c2] at f3 hps
      simp only at f3 hps
      obtain ⟨b, t, e3, hb, c3⟩ := cut1_found f3
      rw [c3] at hps
      simp only at hps
      have lv : (cut1 10 rest).2.1.length < rest.length := by
        rcases cut1_cases 10 rest with ⟨_, h2⟩ | ⟨u, v, e, _, h2⟩
        · rw [h2]
          cases rest with
          | nil => exact absurd rfl hr
          | cons c r => simp
        · rw [h2, e]; simp; omega
      have hl1 : (cut1 10 rest).1.length = a.length + b.length + t.length + 2 := by rw [e2, e3]; simp; omega
      obtain ⟨r, hE, hR⟩ := ih (cut1 10 rest).2.1.length (by omega) (cut1 10 rest).2.1 (acc ++ [(⟨atoiNum (B a), atoiNum (B b), B t⟩ : S37)]) rfl (by omega) (by rw [List.length_append, List.length_singleton]; omega) (fun x hx => by
        rcases List.mem_append.mp hx with hx | hx
        · exact hsz x hx
        · rw [List.mem_singleton] at hx
          rw [hx]
          show (B t).size ≤ _
          rw [B_size]; omega)
      refine ⟨r, ?_, ?_⟩
      · have hb : ((acc.length : Int) == 3000) = false := by rw [beq_eq_false_iff_ne]; omega
        refine Ev.step (f := fun k => impl_ReadCode.j1 k (B s) acc (B (cut1 10 rest).2.1) [B a, B b, B t] false) (fun k => ?_) ?_
        · rw [impl_ReadCode.l0, if_neg c0, hcut, Option.bind_some, hspl, Option.bind_some, hps, if_pos (by rfl), hb]
        refine Ev.step (f := fun k => impl_ReadCode.l0 k (B s) (acc ++ [(⟨atoiNum (B a), atoiNum (B b), B t⟩ : S37)]) (B (cut1 10 rest).2.1)) (fun k => ?_) hE
        have r0 : rdOf ByteArray.empty [B a, B b, B t] 0 = B a := rfl
        have r1 : rdOf ByteArray.empty [B a, B b, B t] 1 = B b := rfl
        have r2 : rdOf ByteArray.empty [B a, B b, B t] 2 = B t := rfl
        rw [impl_ReadCode.j1, if_neg (by decide), r0, r1, r2, atoi_f a (by omega), atoi_f b (by omega), if_pos (show 0 < (([B a, B b, B t] : List ByteArray).length : Int) from by show (0 : Int) < 3; decide), Option.bind_some, if_pos (show 1 < (([B a, B b, B t] : List ByteArray).length : Int) from by show (1 : Int) < 3; decide), Option.bind_some, if_pos (show 2 < (([B a, B b, B t] : List ByteArray).length : Int) from by show (2 : Int) < 3; decide), if_pos (show acc.length < 4398046511104 by omega)]
      · rcases hR with h1 | ⟨h1, h2⟩
        · exact .inl h1
        · right
          refine ⟨h1, ?_⟩
          rintro ⟨m, hm, e, hs⟩
          obtain ⟨x, m', rfl, hx⟩ := split m hm e
          have q1 := tells x m' hx e
          have q3 := cut_words x
          have w1 : (cut1 10 rest).1 = words x := by rw [q1]
          rw [w1] at c2
          rw [c2] at q3
          simp only [Prod.mk.injEq] at q3
          obtain ⟨q3, q4, _⟩ := q3
          have q5 := cut_words2 x
          rw [← q4, c3] at q5
          simp only [Prod.mk.injEq] at q5
          obtain ⟨q5, q6, _⟩ := q5
          have ox := ok_of hx
          have ex : x = (⟨atoiNum (B a), atoiNum (B b), B t⟩ : S37) := by
            rw [q3, q5, q6, atoi_num _ (by omega), atoi_num _ (by omega), B_of]
            cases x
            simp only at *
            congr 1
            · omega
            · omega
          refine h2 ⟨m', ?_, ?_, ?_⟩
          · rw [← ex, List.append_assoc]; exact hm
          · rw [q1]
          · rw [← ex, List.append_assoc]; exact hs

theorem readBoth (s : List UInt8) (h : s.length ≤ 1048576) : ∃ (l : List S37) (b : Bool), l.length ≤ 3000 ∧ Ev (fun k => spec_ReadCode.f k (B s)) (l, b) ∧ Ev (fun k => impl_ReadCode.f k (B s)) (l, b) := by
  obtain ⟨⟨l1, b1⟩, hE1, h1⟩ := specLoop s.length s [] rfl h (by simp) (by simp)
  obtain ⟨⟨l2, b2⟩, hE2, h2⟩ := implLoop s s.length s [] rfl h (by simp) (by simp)
  simp only [List.nil_append] at h1 h2
  rcases h1 with ⟨rfl, m, hm, hT, rfl⟩ | ⟨e1, h1⟩
  · rcases h2 with ⟨rfl, hm2, hT2⟩ | ⟨e2, h2⟩
    · obtain rfl := T_inj _ _ hm.2 hm2.2 (hT.symm.trans hT2.symm)
      exact ⟨l1, true, hm.1, hE1, hE2⟩
    · exact absurd ⟨l1, hm, hT, hT.symm⟩ h2
  · injection e1 with e1 e1'
    subst e1 e1'
    rcases h2 with ⟨rfl, hm2, hT2⟩ | ⟨e2, h2⟩
    · exact absurd ⟨l2, hm2, hT2.symm⟩ h1
    · injection e2 with e2 e2'
      subst e2 e2'
      exact ⟨[], false, by simp, hE1, hE2⟩
end Go.Proofs.YtlkgimnafnmgpaaDoor.CodeL

namespace Go.Proofs.YtlkgimnafnmgpaaDoor.CodeL
open Go.RowKit Go.Proofs.YtlkgimnafnmgpaaDoor.G Go.Proofs.YtlkgimnafnmgpaaDoor.EvL Go.Proofs.YtlkgimnafnmgpaaDoor.TxtL Go.Proofs.YtlkgimnafnmgpaaDoorW.PrintWords Go.Proofs.YtlkgimnafnmgpaaDoorW.PrintLast
set_option linter.unusedVariables false
set_option linter.unusedSimpArgs false

theorem markAt : ∀ (m n : Nat) (acc : ByteArray), n < 10 ^ m → n ≤ 1000000 → acc.size + m ≤ 100 → ∃ s, Ev (fun k => laws_markText.l0 k (n : Int) acc) s := by
  intro m
  induction m with
  | zero =>
    intro n acc hn h6 ha
    have hz : ¬ ((n : Nat) : Int) > 0 := by rw [Nat.pow_zero] at hn; omega
    refine ⟨_, Ev.step (f := fun _ => some ((⟨#[109]⟩ : ByteArray) ++ acc)) (fun k => ?_) (Ev.now _)⟩
    rw [laws_markText.l0, if_neg hz, if_pos (by omega)]
  | succ m ih =>
    intro n acc hn h6 ha
    by_cases hz : ((n : Nat) : Int) > 0
    · have e3 : Int.tmod (n : Int) 10 = ((n % 10 : Nat) : Int) := by rw [Int.tmod_eq_emod_of_nonneg (by omega)]; omega
      have e1 : wrap64 (Int.tdiv (n : Int) 10) = ((n / 10 : Nat) : Int) := by rw [Int.tdiv_eq_ediv_of_nonneg (by omega), w64 (by omega) (by omega)]; omega
      have e2 := digit ((n % 10 : Nat) : Int) (by omega) (by omega)
      have h7 : (([UInt8.ofNat (48 + ((n % 10 : Nat) : Int).toNat)] : List UInt8).toArray).size = 1 := rfl
      have hs : ((⟨([UInt8.ofNat (48 + ((n % 10 : Nat) : Int).toNat)] : List UInt8).toArray⟩ : ByteArray) ++ acc).size = 1 + acc.size := by rw [ByteArray.size_append]; rfl
      have hb : (⟨([UInt8.ofNat (48 + ((n % 10 : Nat) : Int).toNat)] : List UInt8).toArray⟩ : ByteArray).size + acc.size ≤ 9223372036854775807 := by
        show 1 + acc.size ≤ _
        omega
      obtain ⟨s, hE⟩ := ih (n / 10) ((⟨([UInt8.ofNat (48 + ((n % 10 : Nat) : Int).toNat)] : List UInt8).toArray⟩ : ByteArray) ++ acc) (by rw [Nat.pow_succ] at hn; omega) (by omega) (by rw [hs]; omega)
      refine ⟨s, Ev.step (fun k => ?_) hE⟩
      rw [laws_markText.l0, if_pos hz, Option.bind_some, e3, e2, if_pos hb, e1]
    · refine ⟨_, Ev.step (f := fun _ => some ((⟨#[109]⟩ : ByteArray) ++ acc)) (fun k => ?_) (Ev.now _)⟩
      rw [laws_markText.l0, if_neg hz, if_pos (by omega)]
theorem mark_ev (n : Nat) (h0 : 0 < n) (hn : n ≤ 100000) : ∃ s, Ev (fun k => laws_markText.f k (n : Int)) s := by
  obtain ⟨s, hE⟩ := markAt 6 n (⟨#[]⟩ : ByteArray) (by show n < 1000000; omega) (by omega) (by show 0 + 6 ≤ 100; omega)
  exact ⟨s, Ev.congr (fun k => by unfold laws_markText.f; rw [if_neg (by omega)]) hE⟩
def HeldAt (l : List S37) (j : Nat) : Prop := (rd_T37 l (j : Int)).f0 = ((1 + 3 * j : Nat) : Int) ∧ (rd_T37 l (j : Int)).f1 = ((2 + 3 * j : Nat) : Int) ∧ Ev (fun k => laws_markText.f k ((3 + 3 * j : Nat) : Int)) (rd_T37 l (j : Int)).f2
theorem getD_set (l : List S37) (i : Nat) (x : S37) (h : i < l.length) : rd_T37 (l.set i x) (i : Int) = x := by
  rw [rd37, List.getD_eq_getElem?_getD, List.getElem?_set_self h]; rfl
theorem getD_set_ne (l : List S37) (i j : Nat) (x : S37) (h : i ≠ j) : rd_T37 (l.set i x) (j : Int) = rd_T37 l (j : Int) := by
  rw [rd37, rd37, List.getD_eq_getElem?_getD, List.getElem?_set_ne h, List.getD_eq_getElem?_getD]
theorem w3 (i : Nat) (h : i ≤ 3000) : wrap64 (((1 + 3 * i : Nat) : Int) + 1) = ((2 + 3 * i : Nat) : Int) ∧ wrap64 (((2 + 3 * i : Nat) : Int) + 1) = ((3 + 3 * i : Nat) : Int) ∧ wrap64 (((3 + 3 * i : Nat) : Int) + 1) = ((1 + 3 * (i + 1) : Nat) : Int) := by
  refine ⟨?_, ?_, ?_⟩ <;> (rw [w64 (by omega) (by omega)]; omega)
theorem markLoop : ∀ (d i : Nat) (l : List S37), i + d = l.length → l.length ≤ 3000 → (∀ j, j < i → HeldAt l j) → ∃ l' : List S37, Ev (fun k => laws_markInstrS.l0 k l ((1 + 3 * i : Nat) : Int) i) (((1 + 3 * l.length : Nat) : Int), l') ∧ l'.length = l.length ∧ ∀ j, j < l.length → HeldAt l' j := by
  intro d
  induction d with
  | zero =>
    intro i l hi hl hj
    have e : i = l.length := by omega
    refine ⟨l, Ev.step (f := fun _ => some (((1 + 3 * l.length : Nat) : Int), l)) (fun k => ?_) (Ev.now _), rfl, fun j h => hj j (by omega)⟩
    rw [laws_markInstrS.l0, if_neg (by omega), e]
  | succ d ih =>
    intro i l hi hl hj
    have hlt : i < l.length := by omega
    obtain ⟨q1, q2, q3⟩ := w3 i (by omega)
    obtain ⟨s, hs⟩ := mark_ev (3 + 3 * i) (by omega) (by omega)
    have hw := next i l.length hlt (by omega)
    obtain ⟨l', hE, hl', hh⟩ := ih (i + 1) (l.set i (⟨((1 + 3 * i : Nat) : Int), ((2 + 3 * i : Nat) : Int), s⟩ : S37)) (by rw [List.length_set]; omega) (by rw [List.length_set]; exact hl) (fun j h => by
      by_cases hji : j = i
      · subst hji
        unfold HeldAt
        rw [getD_set _ _ _ hlt]
        exact ⟨rfl, rfl, hs⟩
      · unfold HeldAt
        rw [getD_set_ne _ _ _ _ (fun e => hji e.symm)]
        exact hj j (by omega))
    rw [List.length_set] at hl' hh hE
    refine ⟨l', ?_, hl', hh⟩
    refine Ev.step (f := fun k => (laws_markText.f k ((3 + 3 * i : Nat) : Int)).bind fun t => laws_markInstrS.l0 k (l.set i (⟨((1 + 3 * i : Nat) : Int), ((2 + 3 * i : Nat) : Int), t⟩ : S37)) ((1 + 3 * (i + 1) : Nat) : Int) ((i + 1 : Nat) : Int)) (fun k => ?_) (Ev.bind hs hE)
    rw [laws_markInstrS.l0, if_pos (by omega), if_pos (by omega), Option.bind_some, Option.bind_some]
    simp only [Int.toNat_natCast, q1, q2, q3, hw, getD_set _ _ _ hlt, List.set_set]
theorem heldLoop (l : List S37) (hl : l.length ≤ 3000) (hh : ∀ j, j < l.length → HeldAt l j) : ∀ (d i : Nat), i + d = l.length → Ev (fun k => laws_heldInstrS.l0 k l ((1 + 3 * i : Nat) : Int) i) ((1 + 3 * l.length : Nat) : Int) := by
  intro d
  induction d with
  | zero =>
    intro i hi
    have e : i = l.length := by omega
    refine Ev.step (f := fun _ => some ((1 + 3 * l.length : Nat) : Int)) (fun k => ?_) (Ev.now _)
    rw [laws_heldInstrS.l0, if_neg (by omega), e]
  | succ d ih =>
    intro i hi
    have hlt : i < l.length := by omega
    obtain ⟨q1, q2, q3⟩ := w3 i (by omega)
    obtain ⟨h0, h1, h2⟩ := hh i hlt
    have hw := next i l.length hlt (by omega)
    refine Ev.step (f := fun k => (laws_markText.f k ((3 + 3 * i : Nat) : Int)).bind fun t => if ((rd_T37 l (i : Int)).f2).toList = t.toList then laws_heldInstrS.l0 k l ((1 + 3 * (i + 1) : Nat) : Int) ((i + 1 : Nat) : Int) else some (-1)) (fun k => ?_) (Ev.bind h2 (Ev.ite_pos rfl (ih (i + 1) (by omega))))
    rw [laws_heldInstrS.l0, if_pos (by omega), if_pos (by omega), if_pos h0, q1, if_pos h1, q2, q3, hw]
end Go.Proofs.YtlkgimnafnmgpaaDoor.CodeL
namespace Go.Proofs.YtlkgimnafnmgpaaDoor.Pure
open Go.RowKit Go.Proofs.YtlkgimnafnmgpaaDoor.G Go.Proofs.YtlkgimnafnmgpaaDoor.EvL Go.Proofs.YtlkgimnafnmgpaaDoor.CodeL Go.Proofs.YtlkgimnafnmgpaaDoor.TxtL Go.Proofs.YtlkgimnafnmgpaaDoorW.PrintWords Go.Proofs.YtlkgimnafnmgpaaDoorW.PrintLast
theorem FnExactReadCode : laws_FnExactReadCode.Pure := by
  intro a0 ha0
  refine Ev.rounds ?_
  unfold laws_FnExactReadCode.f
  by_cases hbig : ((a0.size : Nat) : Int) > 1048576
  · exact Ev.ite_pos hbig (Ev.now _)
  obtain ⟨l, b, hl, hS, hI⟩ := readBoth a0.data.toList (by rw [len]; omega)
  rw [B_of] at hS hI
  have hEq := eqInstrs l (by omega)
  obtain ⟨l', hM, hl', hh⟩ := markLoop l.length 0 l (by omega) hl (fun j h => absurd h (by omega))
  have hM' : Ev (fun k => laws_markInstrS.f k l 1) (((1 + 3 * l.length : Nat) : Int), l') := hM
  have hH := heldLoop l' (by omega) (fun j h => hh j (by omega)) l'.length 0 (by omega)
  rw [hl'] at hH
  have hH' : Ev (fun k => laws_heldInstrS.f k l' 1) ((1 + 3 * l.length : Nat) : Int) := hH
  have hb : (b != b) = false := by simp
  have hneg : ¬ ((1 + 3 * l.length : Nat) : Int) < 0 := by omega
  refine Ev.ite_neg hbig (Ev.bind hS (Ev.bind hI (Ev.bind hEq (Ev.ite_pos rfl (Ev.succ ?_)))))
  rw [hb]
  refine Ev.congr (f := fun k => (laws_markInstrS.f k l 1).bind fun bt110 => (laws_heldInstrS.f k bt110.2 1).bind fun t112 => if t112 < 0 then some false else if t112 = bt110.1 then (impl_ReadCode.f k a0).bind fun bt113 => (laws_eqInstrS.f k bt113.1 l).bind fun t117 => if t117 = true then laws_FnExactReadCode.j1 k bt110.2 bt110.1 (bt113.2 != b) else laws_FnExactReadCode.j1 k bt110.2 bt110.1 true else some false) (fun k => by rw [laws_FnExactReadCode.j0, if_neg (by decide)]) ?_
  refine Ev.bind hM' (Ev.bind hH' (Ev.ite_neg hneg (Ev.ite_pos rfl (Ev.bind hI (Ev.bind hEq (Ev.ite_pos rfl (Ev.succ ?_)))))))
  refine Ev.congr (f := fun k => (laws_heldInstrS.f k l' 1).bind fun t118 => if t118 < 0 then some false else if t118 = ((1 + 3 * l.length : Nat) : Int) then some true else some false) (fun k => by rw [hb, laws_FnExactReadCode.j1, if_neg (by decide)]) ?_
  exact Ev.bind hH' (Ev.ite_neg hneg (Ev.ite_pos rfl (Ev.now _)))
end Go.Proofs.YtlkgimnafnmgpaaDoor.Pure

namespace Go.Proofs.YtlkgimnafnmgpaaDoor.fnExactReadCode
open Go.ChangeShapes Go.WideShapes Go.ChangeAt Go.RowKit Go.Proofs.YtlkgimnafnmgpaaDoor.G Go.Proofs.YtlkgimnafnmgpaaDoorW.PrintWords
open Go.ChangeMaps (open_string shut_string)
set_option linter.unusedVariables false
theorem own : ownKnob Tryd.prog.godebug = none := by kernel_rfl
theorem laidShaped {H : Type} {enc : TypeId × Value → H} {a : Assume} {C : Checked} {os : Os} {f : FuncId} {fn : Func} {s : ChangeSpec} {conds : List PathCond} {apart fresh handsOn again : Bool} {X : World → Array Value → Prop}
    (hX : ∀ (w w' : World) (args : Array Value), w.heap = w'.heap → X w args → X w' args)
    (own : ownKnob C.prog.godebug = none) (started : os.Started) (noInit : C.prog.inits.idxOf? f = none) (hfn : C.prog.funcs[f]? = some fn)
    (witness : ∃ (w : World) (tape : Tape) (i : Input), w.os = os ∧ (w.forCall tape i).Shaped C.prog ∧ i.vars = [] ∧ Input.okWide C.prog (w.forCall tape i) .any w.heap.size f i ∧
      ((s.pre enc C.prog fn conds apart (w.forCall tape i).memory i.args ∧ X (w.forCall tape i).memory i.args) ∧ sizedMet enc C.prog fn (OpenSpec.ofChange s) apart (w.forCall tape i).memory i.args) ∧ a.holds C.prog (lone (Frame.enter C.prog f i.args .normal) [] (w.forCall tape i)))
    (contract : ∀ (W : World) (base : Nat) (args : Array Value) (ds gs : List (DataW H)) (before : List MemPlace),
      (∀ (j : Nat) t v, fn.params[j]? = some t → args[j]? = some v → Value.okWide C.prog W .any base t v) →
      DataW.Whole enc C.prog fn.params.toList s.vars apart W args.toList ds gs before →
      conds.all (PathCond.test C.prog ⟨fn.params.toList, ds, s.plain.varTypes C.prog, gs⟩) = true →
      (DataW.weightsEach C.prog (fn.params.toList ++ s.plain.varTypes C.prog) (ds ++ gs)).all (· ≤ reachBytes) = true → X W args → W.ShapedOpen C.prog →
      Calls C.prog f args W fun e W' => ∃ v, e = .returned v ∧ s.post enc C.prog fn apart fresh handsOn again W args v W') :
    ReturnsInHanded a C os f .any (fun w args => (s.pre enc C.prog fn conds apart w args ∧ X w args) ∧ sizedMet enc C.prog fn (OpenSpec.ofChange s) apart w args) (s.post enc C.prog fn apart fresh handsOn again) := by
  refine returnsInHanded_of_calls own started noInit witness ?_
  intro w tape i _ hsh _ hok hpre _
  obtain ⟨_, _, _, fn', hfn', _, _, _, _, hval⟩ := hok
  obtain rfl : fn' = fn := Option.some.inj (hfn'.symm.trans hfn)
  obtain ⟨⟨⟨ds, gs, before, hw, hc⟩, hx⟩, hz⟩ := hpre
  refine (contract _ w.heap.size i.args ds gs before hval (DataW.Whole.of_heap (w' := w.forCall tape i) (by rfl) hw) hc (hz.weights hw) (hX _ _ _ (by rfl) hx) hsh).mono fun e W' h => ?_
  obtain ⟨v, rfl, hp⟩ := h
  exact ChangeSpec.post_blind hp
theorem tab_of {W : World} {rest : List (String × DataW Unit)} (h : laidMet Tryd.prog (("internal/strconv.uint64pow10", Rows.laid_internal_strconv_uint64pow10) :: rest) W) : Tab W :=
  Lib.tabIs_of_head (k := .u64) (zs := Lib.pow10Tab) (g := 3) (t := 94) (e := 77) (n := 20) (by kernel_rfl) (by kernel_rfl) (by kernel_rfl) (by kernel_rfl) (by kernel_rfl) (by kernel_rfl) h
theorem star : "*" ++ "errors.errorString" = "*errors.errorString" := by decide
theorem row_err (u : TypeId) (h : Tryd.prog.typeName? 3 u = some "*errors.errorString") : u = 102 :=
  typeName_ptr_named (nm := "errors.errorString") (by rw [star]; kernel_rfl) (by kernel_rfl) (by decide) u (by rw [star]; exact h)
theorem synOf {W : World} {rest : List (String × DataW Unit)} (h : laidMet Tryd.prog (("strconv.ErrSyntax", Rows.laid_strconv_ErrSyntax) :: rest) W) : ∃ tp p, W.var? Tryd.prog "strconv.ErrSyntax" = some #[.iface tp p] := by
  obtain ⟨a, s, hv, _⟩ := laid_sentinel h (g := 1) (ti := 50) (tp := 102) (te := 104) (ts := 9) (by kernel_rfl) (by kernel_rfl) Tryd.underlying50 row_err Tryd.underlying102 Tryd.underlying104 rfl rfl Tryd.underlying9 (by kernel_rfl) (by kernel_rfl)
  exact ⟨_, _, hv⟩
theorem rngOf {W : World} {rest : List (String × DataW Unit)} (h : laidMet Tryd.prog (("strconv.ErrRange", Rows.laid_strconv_ErrRange) :: rest) W) : ∃ tp p, W.var? Tryd.prog "strconv.ErrRange" = some #[.iface tp p] := by
  obtain ⟨a, s, hv, _⟩ := laid_sentinel h (g := 2) (ti := 50) (tp := 102) (te := 104) (ts := 9) (by kernel_rfl) (by kernel_rfl) Tryd.underlying50 row_err Tryd.underlying102 Tryd.underlying104 rfl rfl Tryd.underlying9 (by kernel_rfl) (by kernel_rfl)
  exact ⟨_, _, hv⟩
set_option maxRecDepth 100000 in
theorem lifted (os : Os) (started : os.Started) (H : Type) (enc : TypeId × Value → H) :
    ReturnsInHanded {} Tryd.checked os 4 .any (fun w args => (Rows.fnExactReadCodeSpec.pre enc Tryd.prog Tryd.f4 Rows.fnExactReadCodeRow.domain false w args ∧ laidMetH Tryd.prog Rows.fnExactReadCodeRow.laid w) ∧ sizedMet enc Tryd.prog Tryd.f4 (OpenSpec.ofChange Rows.fnExactReadCodeSpec) false w args) (Rows.fnExactReadCodeSpec.post enc Tryd.prog Tryd.f4 false true false false) := by
  refine laidShaped (C := Tryd.checked) (X := fun w _ => laidMetH Tryd.prog Rows.fnExactReadCodeRow.laid w) (fun _ _ _ hh h => h.of_heap hh) own started (by kernel_rfl) Tryd.func4
    (ChangeSpec.witness_shaped (enc := enc) (C := Tryd.checked) (os := os) (X := fun w _ => laidMetH Tryd.prog Rows.fnExactReadCodeRow.laid w) false (World.laidAll Tryd.prog os Rows.fnExactReadCodeRow.laid) #[.string ByteArray.empty] 8 (World.laidAll_os _ _ _)
      (World.shaped_of_ZipB (by kernel_rfl) (by kernel_rfl)) (by kernel_rfl) (by kernel_rfl) (by kernel_rfl)
      (by rw [MakeChecks.laidMetH_plain _ _ _ (by kernel_rfl)]; exact laidMet_laidAll _ (by kernel_rfl) (by kernel_rfl))) ?_
  intro W base args ds gs before hval0 hW hcnd hsz0 hX1 hsh
  have hsz : (DataW.weightsEach Tryd.prog (Tryd.f4.params.toList ++ Rows.fnExactReadCodeSpec.plain.varTypes Tryd.prog) (ds ++ gs)).all (· ≤ reachBytes) = true := hsz0
  have hval : ∀ (j : Nat) t v, Tryd.f4.params[j]? = some t → args[j]? = some v → Value.okWide Tryd.prog W .any base t v := hval0
  have hW' := hW
  obtain ⟨p, q, hA0, hV, rfl, hfz, hnd⟩ := hW
  have hA : DataW.TrodAll enc Tryd.prog W 0 (fun _ => true) true Tryd.f4.params.toList args.toList ds p := hA0
  rw [Tryd.params4] at hA hval hsz
  obtain ⟨v0, vs0, d0, ds0, p0, q0, hargs, rfl, rfl, h0, r0⟩ := trodAll_cons hA
  obtain ⟨rfl, rfl, rfl⟩ := trodAll_nil r0
  obtain rfl : args = #[v0] := by cases args; simp_all
  obtain ⟨rfl, rfl⟩ := trodVars_none hV
  obtain ⟨a0, rfl, rfl, rfl, y0⟩ := open_string Tryd.underlying9 (hval 0 9 v0 rfl rfl) h0
  have w0 : a0.size ≤ 140737488351232 := by
    have z := sized_string hsz (j := 0) (t := 9) rfl rfl
    rw [Array.length_toList] at z
    exact z
  clear hA0 hval0 hsz0 hsz
  obtain ⟨k_, hk_⟩ := Pure.FnExactReadCode a0 w0
  have hL : laidMet Tryd.prog Rows.fnExactReadCodeRow.laid W := by
    rw [← MakeChecks.laidMetH_plain _ _ _ (by kernel_rfl)]; exact hX1
  have hE : G.Met W := ⟨(tab_of (laidMet.tail (laidMet.tail hL))), (Tryd.laysM145.s1_3 W hsh), ⟨(Tryd.laysM145.s1_3 W hsh), (synOf (laidMet.tail (laidMet.tail (laidMet.tail (laidMet.tail (laidMet.tail hL)))))), (rngOf (laidMet.tail (laidMet.tail (laidMet.tail (laidMet.tail hL)))))⟩⟩
  refine (laws_FnExactReadCode.calls k_ a0 true W  hk_ hE).mono fun e W' ⟨he, bel0⟩ => ?_
  have bel : Below W.heap.size W W' := bel0
  subst he
  exact ⟨_, rfl, _, _, _, [], _, [], hW', trodAll_mk1 (shut_bool Tryd.underlying4 _), (trodAll_cons_mk (shut_string Tryd.underlying9 y0) trodAll_mk0), rfl, bel.frame _, fun h => by cases h⟩
theorem over : Rows.FnExactReadCodeSaid :=
  OpenClaim.holds_of_wide 4 Tryd.f4 rfl rfl rfl rfl rfl rfl rfl ⟨rfl, rfl, rfl, rfl, rfl⟩ rfl rfl rfl rfl rfl (by kernel_rfl) Tryd.func4 (by kernel_rfl)
    (of_decide_eq_true (by kernel_rfl)) (by unfold Func.isWrapper; first | (rw [if_pos (by decide +kernel)]; kernel_rfl) | (rw [if_neg (by decide +kernel)]; exact ⟨rfl, rfl⟩))
    (fun os started H enc _ => lifted os started H enc)
theorem proved : Rows.FnExactReadCodeCardSaid :=
  Claim7.holds_tied_plain_at .later [] [.data, .data, .data, .data, .sentinel, .sentinel, .pinned] true (true, "764cd66b92eddc2cc52d2f80c94eb3304a3f8ea8cee8ef9b88e137440bbc64ec") true
    over (fun _ h => by cases h) (by kernel_rfl) (fun _ h => by cases h) fnExactReadCode_row_tie rfl ⟨rfl, rfl⟩ (by kernel_rfl) rfl
    (fun f fn hf hfn => by
      obtain rfl : f = 4 := Option.some.inj ((show Tryd.prog.funcNamed "loop.example/g00201/laws.FnExactReadCode" = some 4 by kernel_rfl).symm.trans hf) |>.symm
      obtain rfl : fn = Tryd.f4 := (Option.some.inj (Tryd.func4.symm.trans hfn)).symm
      exact ⟨by kernel_rfl, fun j t ht => by
        rw [Tryd.params4] at ht
        have hm : t ∈ [9] := by simpa using Array.mem_of_getElem? ht
        have hall : ([9].all fun u => !Tryd.prog.wantsStandIn u) = true := by kernel_rfl
        exact (show Tryd.prog.wantsStandIn t = false by simpa using List.all_eq_true.1 hall t hm)⟩)
    (by kernel_rfl)
#print axioms proved
end Go.Proofs.YtlkgimnafnmgpaaDoor.fnExactReadCode
namespace Go.Proofs.YtlkgimnafnmgpaaDoor
theorem fnExactReadCode_holds : Rows.FnExactReadCodeCardSaid := fnExactReadCode.proved
end Go.Proofs.YtlkgimnafnmgpaaDoor
