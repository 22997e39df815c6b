/- Printed by a program: what the Go functions that a law reaches come to, as Lean functions, each with the proof that the machine's call answers so; no condition but those each theorem names. -/
import Derived.Test.YtcjhhdecckcibaaK
namespace Go.Proofs.Ytcjhhdecckcibaa.G
open Go.RowKit Go.Proofs.YtcjhhdecckcibaaW.PrintWords Go.Proofs.YtcjhhdecckcibaaW.PrintLast Go.Proofs.YtcjhhdecckcibaaW.PrintMore
attribute [local go_sem] max2_int min2_int max_two min_two max_three min_three max_four min_four   -- for this text's walks alone
set_option linter.unusedVariables false
set_option linter.unusedSimpArgs false

/-! ### impl_termAt: function 65 -/
mutual
def impl_termAt.j0 : Nat → List (S62) → Int → Bool → Option (Int × Int × (List (S68)) × Int × Bool)
  | 0, _, _, _ => none
  | k + 1, x0, x1, x42 => if x42 = true then (some (0, 0, ([] : List (S68)), 0, false)) else (if 0 ≤ x1 then (if x1 < (x0.length : Int) then (impl_termAt.l0 k x0 x1 (wrap64 (x1 + 1)) (wrap64 (((rd_T62 x0 x1).f0) - 1)) 0 ((rd_T62 x0 x1).f0) ((rd_T62 x0 x1).f1) ([] : List (S68))) else (none)) else (none))
def impl_termAt.l0 : Nat → List (S62) → Int → Int → Int → Int → Int → Int → List (S68) → Option (Int × Int × (List (S68)) × Int × Bool)
  | 0, _, _, _, _, _, _, _, _ => none
  | k + 1, x0, x1, x10, x59, x60, x108000, x108001, x108002 => if x60 < x59 then ((impl_termAt.f k x0 x10 x1).bind fun bt108 => (if bt108.2.2.2.2 = true then (if x108002.length < 3518437208883 then (impl_termAt.l0 k x0 x1 bt108.2.2.2.1 x59 (wrap64 (x60 + 1)) x108000 x108001 (x108002 ++ [(⟨bt108.1, bt108.2.1, bt108.2.2.1⟩ : S68)])) else (none)) else (some (0, 0, ([] : List (S68)), 0, false)))) else (some (x108000, x108001, x108002, x10, true))
def impl_termAt.f : Nat → List (S62) → Int → Int → Option (Int × Int × (List (S68)) × Int × Bool)
  | 0, _, _, _ => none
  | k + 1, l0, a1, a2 => if a1 = (l0.length : Int) then (impl_termAt.j0 k l0 a1 true) else (if 0 ≤ a1 then (if a1 < (l0.length : Int) then (if ((rd_T62 l0 a1).f2) = a2 then (if ((rd_T62 l0 a1).f0) < 1 then (impl_termAt.j0 k l0 a1 true) else (impl_termAt.j0 k l0 a1 (decide (((rd_T62 l0 a1).f0) > 3)))) else (impl_termAt.j0 k l0 a1 true)) else (none)) else (none))
end
theorem impl_termAt.mono_l : ∀ k, (∀ y0 y1 y2, LeO (impl_termAt.f k y0 y1 y2) (impl_termAt.f (k + 1) y0 y1 y2)) ∧ (∀ y0 y1 y2, LeO (impl_termAt.j0 k y0 y1 y2) (impl_termAt.j0 (k + 1) y0 y1 y2)) ∧ (∀ y0 y1 y2 y3 y4 y5 y6 y7, LeO (impl_termAt.l0 k y0 y1 y2 y3 y4 y5 y6 y7) (impl_termAt.l0 (k + 1) y0 y1 y2 y3 y4 y5 y6 y7))
  | 0 => ⟨fun _ _ _ r h => by simp [impl_termAt.f] at h, fun _ _ _ r h => by simp [impl_termAt.j0] at h, fun _ _ _ _ _ _ _ _ r h => by simp [impl_termAt.l0] at h⟩
  | k + 1 => by
    obtain ⟨ih0, ih1, ih2⟩ := impl_termAt.mono_l k
    refine ⟨?_, ?_, ?_⟩
    · intro y0 y1 y2
      unfold impl_termAt.f
      repeat' first
      | (with_reducible exact ih0 _ _ _)
      | (with_reducible exact ih1 _ _ _)
      | (with_reducible exact ih2 _ _ _ _ _ _ _ _)
      | (with_reducible exact LeO.refl _)
      | (with_reducible exact LeO.none _)
      | (with_reducible refine LeO.ite ?_ ?_)
      | (with_reducible refine LeO.bind ?_ (fun _ => ?_))
      | exact ih0 _ _ _
      | exact ih1 _ _ _
      | exact ih2 _ _ _ _ _ _ _ _
      | exact LeO.none _
      | refine LeO.ite ?_ ?_
      | refine LeO.bind ?_ (fun _ => ?_)
    · intro y0 y1 y2
      unfold impl_termAt.j0
      repeat' first
      | (with_reducible exact ih0 _ _ _)
      | (with_reducible exact ih1 _ _ _)
      | (with_reducible exact ih2 _ _ _ _ _ _ _ _)
      | (with_reducible exact LeO.refl _)
      | (with_reducible exact LeO.none _)
      | (with_reducible refine LeO.ite ?_ ?_)
      | (with_reducible refine LeO.bind ?_ (fun _ => ?_))
      | exact ih0 _ _ _
      | exact ih1 _ _ _
      | exact ih2 _ _ _ _ _ _ _ _
      | exact LeO.none _
      | refine LeO.ite ?_ ?_
      | refine LeO.bind ?_ (fun _ => ?_)
    · intro y0 y1 y2 y3 y4 y5 y6 y7
      unfold impl_termAt.l0
      repeat' first
      | (with_reducible exact ih0 _ _ _)
      | (with_reducible exact ih1 _ _ _)
      | (with_reducible exact ih2 _ _ _ _ _ _ _ _)
      | (with_reducible exact LeO.refl _)
      | (with_reducible exact LeO.none _)
      | (with_reducible refine LeO.ite ?_ ?_)
      | (with_reducible refine LeO.bind ?_ (fun _ => ?_))
      | exact ih0 _ _ _
      | exact ih1 _ _ _
      | exact ih2 _ _ _ _ _ _ _ _
      | exact LeO.none _
      | refine LeO.ite ?_ ?_
      | refine LeO.bind ?_ (fun _ => ?_)
theorem impl_termAt.mono : ∀ a0 a1 a2 k, LeO (impl_termAt.f k a0 a1 a2) (impl_termAt.f (k + 1) a0 a1 a2) := by
  intro a0 a1 a2 k
  obtain ⟨ih0, ih1, ih2⟩ := impl_termAt.mono_l k
  exact ih0 a0 a1 a2
def impl_termAt.T3 : Bool × List (List Nat × List Nat) := (true, [([], []), ([], []), ([0, 1], [0, 1]), ([2], [2]), ([3], [3]), ([], []), ([], []), ([5, 6], [5, 6]), ([7], [7]), ([8], [8]), ([4, 9], [4, 9]), ([], []), ([11], [11]), ([], []), ([13, 10, 0, 1, 2, 3, 4, 5, 6, 7, 8, 9, 10, 13], [10, 13]), ([12, 14, 0, 1, 2, 3, 4, 5, 6, 7, 8, 9, 10, 11, 12, 13, 14], [12])])
def impl_termAt.B3 : List Nat := [0, 0, 3, 7, 15, 0, 0, 96, 224, 480, 1023, 0, 2048, 0, 10239, 32767]
theorem impl_termAt.tab3 : rtab .any (opsOf Try.f65 3) = impl_termAt.T3 := by kernel_rfl
theorem impl_termAt.bits3 : waitsOk impl_termAt.T3.2 impl_termAt.B3 = true := by kernel_rfl
set_option maxHeartbeats 8000000 in
set_option maxRecDepth 100000 in
theorem impl_termAt.calls (k : Nat) : ∀ (A0 : Option Addr) (c0 : Nat) (l0 : List (S62)) (a1 : Int) (a2 : Int) (r1 : Int) (r2 : Int) (r3 : List (S68)) (r4 : Int) (r5 : Bool) (w : World) (hr0 : Kd.C k62 w A0 l0.length l0) (hc0 : l0.length ≤ c0) (h : impl_termAt.f k l0 a1 a2 = some (r1, r2, r3, r4, r5)),
    Calls Try.prog 65 #[.slice A0 l0.length c0, .int .i64 a1, .int .i64 a2] w fun e w' => ∃ v2_ : Value, e = .returned (.tuple #[.agg #[.int .i64 r1, .int .i64 r2, v2_], .int .i64 r4, .bool r5]) ∧ Kd.R k68 68 w' w.heap.size (fun _ => True) v2_ r3 ∧ Below w.heap.size w w' := by
  induction k using Nat.strongRecOn with
  | _ k ih =>
  intro A0 c0 l0 a1 a2 r1 r2 r3 r4 r5 w hr0 hc0 h
  cases k with
  | zero => exact absurd h (by simp [impl_termAt.f])
  | succ k =>
  simp only [impl_termAt.f] at h
  have hu68 := Try.underlying68
  have HR0 := Aside0.mk hr0
  have HC0 := Aside0.mk hc0
  clear hr0 hc0
  have HB := Aside0.mk (Below.refl w.heap.size w)
  have H : (if a1 = (l0.length : Int) then (impl_termAt.j0 k l0 a1 true) else (if 0 ≤ a1 then (if a1 < (l0.length : Int) then (if ((rd_T62 l0 a1).f2) = a2 then (if ((rd_T62 l0 a1).f0) < 1 then (impl_termAt.j0 k l0 a1 true) else (impl_termAt.j0 k l0 a1 (decide (((rd_T62 l0 a1).f0) > 3)))) else (impl_termAt.j0 k l0 a1 true)) else (none)) else (none))) = some (r1, r2, r3, r4, r5) := h
  clear h
  have HC4 := Aside0.mk H
  clear H
  go_enter Try.func65, Try.ntmps65
  go_upto_region 1 with (first | ((with_reducible refine gate_dst (N := 6) rfl ?_); refine box_event ?hg (N := 6) ?hd (cs := #[.int .i64 0, .int .i64 0, .slice none 0 0]) (t := 68) ?hr ?_; (case hd => rfl); (case hg => rfl); (case hr => first | (go_simp; done) | (go_simp; rfl)); intro gb101 hg w5 hbox hb; have n0_ := Aside0.mk (below_step (by repeat (first | (with_reducible first | exact HB.out | apply below_alloc | apply pw_below_drewN | apply below_drew1) | exact HB.out)) hb); have n1_ := Aside0.mk (hbox); have n2_ := Aside0.mk ((by rw [hg]; exact (below_size (by repeat (first | (with_reducible first | exact HB.out | apply below_alloc | apply pw_below_drewN | apply below_drew1) | exact HB.out))) : w.heap.size ≤ gb101)); have n3_ := Aside0.mk ((by rw [hg]; exact (below_size (by repeat (first | (with_reducible first | exact HB.out | apply below_alloc | apply pw_below_drewN | apply below_drew1) | exact HB.out))) : w.heap.size ≤ gb101)); clear HB; have HB := n0_; have BK101 := n1_; have GW101 := n2_; have GE101 := n3_; clear n0_ n1_ n2_ n3_; clear hb hbox hg))
  (try simp only [Act.put, List.setIfInBounds_toArray, List.set_cons_zero, List.set_cons_succ])
  go_cut [42] (fun v42 wc => ∃ (kq : Nat) (x42_3 : Bool), v42 = .bool x42_3 ∧ Aside0 (impl_termAt.j0 kq l0 a1 x42_3 = some (r1, r2, r3, r4, r5)) ∧ Aside0 (kq ≤ k) ∧ Aside0 (wc.heap[gb101]? = some (.cells #[.int .i64 0, .int .i64 0, (.slice none 0 0)] 68 (0, 0))) ∧ Aside0 (Below w.heap.size w wc))
  case first =>
    have H := HC4.out
    clear HC4
    by_cases c6 : a1 = (l0.length : Int)
    · rw [if_pos c6] at H
      have c6b0 : (a1 == (l0.length : Int)) = true := beq_iff_eq.mpr c6
      have c6b1 : (a1 != (l0.length : Int)) = false := bne_eq_false_iff_eq.mpr c6
      clear c6
      (first | rw [c6b0] | (simp only [i64_w, i32_w]; rw [c6b0]) | skip)
      have H' := Aside0.mk H
      clear H
      go_wp2
      go_meet
      case rel => exact ⟨_, (true), (by first | rfl | (simp; done) | (simp [*]; done)), H', ⟨by first | omega | exact Nat.le_refl _⟩, ⟨by (with_reducible repeat (first | refine blk_drewN ?_ _ | refine blk_drew ?_ | refine blk_alloc ?_ _)); exact BK101.out⟩, ⟨by repeat (first | (with_reducible first | exact HB.out | apply below_alloc | apply pw_below_drewN | apply below_drew1 | refine below_set ?_ GE101.out) | exact HB.out)⟩⟩
    · rw [if_neg c6] at H
      have c6b0 : (a1 == (l0.length : Int)) = false := beq_eq_false_iff_ne.mpr c6
      have c6b1 : (a1 != (l0.length : Int)) = true := bne_iff_ne.mpr c6
      (first | rw [c6b0] | (simp only [i64_w, i32_w]; rw [c6b0]) | skip)
      by_cases c7 : 0 ≤ a1
      · rw [if_pos c7] at H
        have c7b0 : decide (0 ≤ a1) = true := decide_eq_true c7
        clear c7
        by_cases c8 : a1 < (l0.length : Int)
        · rw [if_pos c8] at H
          have c8b0 : decide (a1 < (l0.length : Int)) = true := decide_eq_true c8
          clear c8
          by_cases c9 : ((rd_T62 l0 a1).f2) = a2
          · rw [if_pos c9] at H
            have c9b0 : (((rd_T62 l0 a1).f2) == a2) = true := beq_iff_eq.mpr c9
            have c9b1 : (((rd_T62 l0 a1).f2) != a2) = false := bne_eq_false_iff_eq.mpr c9
            clear c9
            by_cases c10 : ((rd_T62 l0 a1).f0) < 1
            · rw [if_pos c10] at H
              have c10b0 : decide (((rd_T62 l0 a1).f0) < 1) = true := decide_eq_true c10
              clear c10
              have H' := Aside0.mk H
              clear H
              have p102 : 0 ≤ (a1 : Int) := of_decide_eq_true (by first | (with_reducible assumption) | assumption)
              have q102 : a1 < (l0.length : Int) := of_decide_eq_true (by first | (with_reducible assumption) | assumption)
              obtain ⟨ad102, e102, hx102_0, hx102_1, hx102_2⟩ := at_T62 HR0.out a1 p102 q102
              cases e102
              replace hx102_0 := (HB.out.cell (World.block_lt_of_cell? w _ hx102_0)).trans hx102_0
              replace hx102_1 := (HB.out.cell (World.block_lt_of_cell? w _ hx102_1)).trans hx102_1
              replace hx102_2 := (HB.out.cell (World.block_lt_of_cell? w _ hx102_2)).trans hx102_2
              replace p102 := eq_true p102
              replace q102 := eq_true q102
              have p103 : 0 ≤ (a1 : Int) := of_decide_eq_true (by first | (with_reducible assumption) | assumption)
              have q103 : a1 < (l0.length : Int) := of_decide_eq_true (by first | (with_reducible assumption) | assumption)
              obtain ⟨ad103, e103, hx103_0, hx103_1, hx103_2⟩ := at_T62 HR0.out a1 p103 q103
              obtain rfl : ad102 = ad103 := (by injection e103)
              replace hx103_0 := (HB.out.cell (World.block_lt_of_cell? w _ hx103_0)).trans hx103_0
              replace hx103_1 := (HB.out.cell (World.block_lt_of_cell? w _ hx103_1)).trans hx103_1
              replace hx103_2 := (HB.out.cell (World.block_lt_of_cell? w _ hx103_2)).trans hx103_2
              replace p103 := eq_true p103
              replace q103 := eq_true q103
              go_wp2
              go_meet
              case rel => exact ⟨_, (true), (by first | rfl | (simp; done) | (simp [*]; done)), H', ⟨by first | omega | exact Nat.le_refl _⟩, ⟨by (with_reducible repeat (first | refine blk_drewN ?_ _ | refine blk_drew ?_ | refine blk_alloc ?_ _)); exact BK101.out⟩, ⟨by repeat (first | (with_reducible first | exact HB.out | apply below_alloc | apply pw_below_drewN | apply below_drew1 | refine below_set ?_ GE101.out) | exact HB.out)⟩⟩
            · rw [if_neg c10] at H
              have c10b0 : decide (((rd_T62 l0 a1).f0) < 1) = false := decide_eq_false c10
              clear c10
              have H' := Aside0.mk H
              clear H
              have p102 : 0 ≤ (a1 : Int) := of_decide_eq_true (by first | (with_reducible assumption) | assumption)
              have q102 : a1 < (l0.length : Int) := of_decide_eq_true (by first | (with_reducible assumption) | assumption)
              obtain ⟨ad102, e102, hx102_0, hx102_1, hx102_2⟩ := at_T62 HR0.out a1 p102 q102
              cases e102
              replace hx102_0 := (HB.out.cell (World.block_lt_of_cell? w _ hx102_0)).trans hx102_0
              replace hx102_1 := (HB.out.cell (World.block_lt_of_cell? w _ hx102_1)).trans hx102_1
              replace hx102_2 := (HB.out.cell (World.block_lt_of_cell? w _ hx102_2)).trans hx102_2
              replace p102 := eq_true p102
              replace q102 := eq_true q102
              have p103 : 0 ≤ (a1 : Int) := of_decide_eq_true (by first | (with_reducible assumption) | assumption)
              have q103 : a1 < (l0.length : Int) := of_decide_eq_true (by first | (with_reducible assumption) | assumption)
              obtain ⟨ad103, e103, hx103_0, hx103_1, hx103_2⟩ := at_T62 HR0.out a1 p103 q103
              obtain rfl : ad102 = ad103 := (by injection e103)
              replace hx103_0 := (HB.out.cell (World.block_lt_of_cell? w _ hx103_0)).trans hx103_0
              replace hx103_1 := (HB.out.cell (World.block_lt_of_cell? w _ hx103_1)).trans hx103_1
              replace hx103_2 := (HB.out.cell (World.block_lt_of_cell? w _ hx103_2)).trans hx103_2
              replace p103 := eq_true p103
              replace q103 := eq_true q103
              have p104 : 0 ≤ (a1 : Int) := of_decide_eq_true (by first | (with_reducible assumption) | assumption)
              have q104 : a1 < (l0.length : Int) := of_decide_eq_true (by first | (with_reducible assumption) | assumption)
              obtain ⟨ad104, e104, hx104_0, hx104_1, hx104_2⟩ := at_T62 HR0.out a1 p104 q104
              obtain rfl : ad102 = ad104 := (by injection e104)
              replace hx104_0 := (HB.out.cell (World.block_lt_of_cell? w _ hx104_0)).trans hx104_0
              replace hx104_1 := (HB.out.cell (World.block_lt_of_cell? w _ hx104_1)).trans hx104_1
              replace hx104_2 := (HB.out.cell (World.block_lt_of_cell? w _ hx104_2)).trans hx104_2
              replace p104 := eq_true p104
              replace q104 := eq_true q104
              go_wp2
              go_meet
              case rel => exact ⟨_, (decide (((rd_T62 l0 a1).f0) > 3)), (by first | rfl | (simp; done) | (simp [*]; done)), H', ⟨by first | omega | exact Nat.le_refl _⟩, ⟨by (with_reducible repeat (first | refine blk_drewN ?_ _ | refine blk_drew ?_ | refine blk_alloc ?_ _)); exact BK101.out⟩, ⟨by repeat (first | (with_reducible first | exact HB.out | apply below_alloc | apply pw_below_drewN | apply below_drew1 | refine below_set ?_ GE101.out) | exact HB.out)⟩⟩
          · rw [if_neg c9] at H
            have c9b0 : (((rd_T62 l0 a1).f2) == a2) = false := beq_eq_false_iff_ne.mpr c9
            have c9b1 : (((rd_T62 l0 a1).f2) != a2) = true := bne_iff_ne.mpr c9
            have H' := Aside0.mk H
            clear H
            have p102 : 0 ≤ (a1 : Int) := of_decide_eq_true (by first | (with_reducible assumption) | assumption)
            have q102 : a1 < (l0.length : Int) := of_decide_eq_true (by first | (with_reducible assumption) | assumption)
            obtain ⟨ad102, e102, hx102_0, hx102_1, hx102_2⟩ := at_T62 HR0.out a1 p102 q102
            cases e102
            replace hx102_0 := (HB.out.cell (World.block_lt_of_cell? w _ hx102_0)).trans hx102_0
            replace hx102_1 := (HB.out.cell (World.block_lt_of_cell? w _ hx102_1)).trans hx102_1
            replace hx102_2 := (HB.out.cell (World.block_lt_of_cell? w _ hx102_2)).trans hx102_2
            replace p102 := eq_true p102
            replace q102 := eq_true q102
            go_wp2
            go_meet
            case rel => exact ⟨_, (true), (by first | rfl | (simp; done) | (simp [*]; done)), H', ⟨by first | omega | exact Nat.le_refl _⟩, ⟨by (with_reducible repeat (first | refine blk_drewN ?_ _ | refine blk_drew ?_ | refine blk_alloc ?_ _)); exact BK101.out⟩, ⟨by repeat (first | (with_reducible first | exact HB.out | apply below_alloc | apply pw_below_drewN | apply below_drew1 | refine below_set ?_ GE101.out) | exact HB.out)⟩⟩
        · rw [if_neg c8] at H
          exact absurd H (by simp)
      · rw [if_neg c7] at H
        exact absurd H (by simp)
  case rest =>
    clear HC4
    try clear c1
    try clear p1
    try clear q1
    try clear hx1
    try clear p2
    try clear c6
    try clear c6b0
    try clear c6b1
    try clear c7
    try clear c7b0
    try clear c8
    try clear c8b0
    try clear c9
    try clear c9b0
    try clear c9b1
    try clear c10
    try clear c10b0
    try clear p10
    try clear q10
    try clear hx10
    try clear hx102_0
    try clear hx102_1
    try clear hx102_2
    try clear hx103_0
    try clear hx103_1
    try clear hx103_2
    try clear hx104_0
    try clear hx104_1
    try clear hx104_2
    try clear p102
    try clear p103
    try clear p104
    try clear q102
    try clear q103
    try clear q104
    obtain ⟨kq, x42_3, rfl, HA, HJ3, BK101, HB⟩ := hcut
    cases kq with
    | zero => exact absurd HA.out (by simp [impl_termAt.j0])
    | succ kj3 =>
      have H := HA.out
      clear HA
      simp only [impl_termAt.j0] at H
      by_cases c11 : x42_3 = true
      · subst c11
        have H1 : (some (0, 0, ([] : List (S68)), 0, false)) = some (r1, r2, r3, r4, r5) := by rw [if_pos rfl] at H; exact H
        clear H
        have H := H1
        clear H1
        simp only [Option.some.injEq, Prod.mk.injEq] at H
        obtain ⟨rfl, rfl, rfl, rfl, rfl⟩ := H
        have hcz12_0 : wc.cell? ⟨gb101, 0, none⟩ = some (.int .i64 0) := (blk_cell BK101.out 0).trans rfl
        have hcz12_1 : wc.cell? ⟨gb101, 1, none⟩ = some (.int .i64 0) := (blk_cell BK101.out 1).trans rfl
        have hcz12_2 : wc.cell? ⟨gb101, 2, none⟩ = some (.slice none 0 0) := (blk_cell BK101.out 2).trans rfl
        have hfz12_0 := blk_frozen BK101.out 0
        have hfz12_1 := blk_frozen BK101.out 1
        have hfz12_2 := blk_frozen BK101.out 2
        go_wp2
        refine bodyPost_ret (results_ctt rfl _ _ gb101 68 #[.int .i64 0, .int .i64 0, .slice none 0 0] (0, 0) _ rfl (by (with_reducible repeat (first | refine blk_drewN ?_ _ | refine blk_drew ?_ | refine blk_alloc ?_ _)); refine blk_put (cs := #[.int .i64 0, .int .i64 0, .slice none 0 0]) ?_ 2 _ rfl; (with_reducible repeat (first | refine blk_drewN ?_ _ | refine blk_drew ?_ | refine blk_alloc ?_ _)); refine blk_put (cs := #[.int .i64 0, .int .i64 0, .slice none 0 0]) ?_ 1 _ rfl; (with_reducible repeat (first | refine blk_drewN ?_ _ | refine blk_drew ?_ | refine blk_alloc ?_ _)); refine blk_put (cs := #[.int .i64 0, .int .i64 0, .slice none 0 0]) ?_ 0 _ rfl; (with_reducible repeat (first | refine blk_drewN ?_ _ | refine blk_drew ?_ | refine blk_alloc ?_ _)); exact BK101.out) Try.underlying68 rfl (by kernel_rfl)) rfl ?_
        exact ⟨_, by first | rfl | (simp [errW_none, errW_some] <;> rfl) | (simp [*, errW_none, errW_some] <;> rfl), by first | exact Kd.R_nil _ _ _ _ _ | exact Kd.N_nil _ _ _ _ _ | exact Kd.V_nil _ _ _ _ _ | exact Kd.Q_nil _ _ _ _ _ | exact Kd.S_nil _ _ _ _ _, by repeat (first | (with_reducible first | exact HB.out | apply below_alloc | apply pw_below_drewN | apply below_drew1 | refine below_set ?_ GE101.out) | exact HB.out)⟩
      · replace c11 := Bool.eq_false_iff.mpr c11
        subst c11
        have H1 : (if 0 ≤ a1 then (if a1 < (l0.length : Int) then (impl_termAt.l0 kj3 l0 a1 (wrap64 (a1 + 1)) (wrap64 (((rd_T62 l0 a1).f0) - 1)) 0 ((rd_T62 l0 a1).f0) ((rd_T62 l0 a1).f1) ([] : List (S68))) else (none)) else (none)) = some (r1, r2, r3, r4, r5) := by rw [if_neg (show ¬ (false = true) by decide)] at H; exact H
        clear H
        have H := H1
        clear H1
        by_cases c13 : 0 ≤ a1
        · rw [if_pos c13] at H
          have c13b0 : decide (0 ≤ a1) = true := decide_eq_true c13
          clear c13
          by_cases c14 : a1 < (l0.length : Int)
          · rw [if_pos c14] at H
            have c14b0 : decide (a1 < (l0.length : Int)) = true := decide_eq_true c14
            clear c14
            have H' := Aside0.mk H
            clear H
            try go_wp2
            have n0_ := Aside0.mk (blk_drew BK101.out)
            have n1_ := Aside0.mk (below_drew1 HB.out)
            clear BK101
            clear HB
            have BK101 := n0_
            have HB := n1_
            clear n0_ n1_
            have p105 : 0 ≤ (a1 : Int) := of_decide_eq_true (by first | (with_reducible assumption) | assumption)
            have q105 : a1 < (l0.length : Int) := of_decide_eq_true (by first | (with_reducible assumption) | assumption)
            obtain ⟨ad105, e105, hx105_0, hx105_1, hx105_2⟩ := at_T62 HR0.out a1 p105 q105
            have hw105_2 := hx105_2
            have hw105_1 := hx105_1
            have hw105_0 := hx105_0
            cases e105
            replace hx105_0 := (HB.out.cell (World.block_lt_of_cell? w _ hx105_0)).trans hx105_0
            replace hx105_1 := (HB.out.cell (World.block_lt_of_cell? w _ hx105_1)).trans hx105_1
            replace hx105_2 := (HB.out.cell (World.block_lt_of_cell? w _ hx105_2)).trans hx105_2
            replace p105 := eq_true p105
            replace q105 := eq_true q105
            have p106 : 0 ≤ (a1 : Int) := of_decide_eq_true (by first | (with_reducible assumption) | assumption)
            have q106 : a1 < (l0.length : Int) := of_decide_eq_true (by first | (with_reducible assumption) | assumption)
            obtain ⟨ad106, e106, hx106_0, hx106_1, hx106_2⟩ := at_T62 HR0.out a1 p106 q106
            have hw106_2 := hx106_2
            have hw106_1 := hx106_1
            have hw106_0 := hx106_0
            obtain rfl : ad105 = ad106 := (by injection e106)
            replace hx106_0 := (HB.out.cell (World.block_lt_of_cell? w _ hx106_0)).trans hx106_0
            replace hx106_1 := (HB.out.cell (World.block_lt_of_cell? w _ hx106_1)).trans hx106_1
            replace hx106_2 := (HB.out.cell (World.block_lt_of_cell? w _ hx106_2)).trans hx106_2
            replace p106 := eq_true p106
            replace q106 := eq_true q106
            refine start_ (n := 16) (S := fun w' => w'.cell? (ad105.add ((a1).toNat * 3)) = some (.int .i64 ((rd_T62 l0 a1).f0)) ∧ w'.cell? ⟨(ad105.add ((a1).toNat * 3)).block, (ad105.add ((a1).toNat * 3)).off + 1, none⟩ = some (.int .i64 ((rd_T62 l0 a1).f1)) ∧ w'.cell? ⟨(ad105.add ((a1).toNat * 3)).block, (ad105.add ((a1).toNat * 3)).off + 2, none⟩ = some (.int .i64 ((rd_T62 l0 a1).f2)) ∧ w'.cell? (ad105.add ((a1).toNat * 3)) = some (.int .i64 ((rd_T62 l0 a1).f0)) ∧ w'.cell? ⟨(ad105.add ((a1).toNat * 3)).block, (ad105.add ((a1).toNat * 3)).off + 1, none⟩ = some (.int .i64 ((rd_T62 l0 a1).f1)) ∧ w'.cell? ⟨(ad105.add ((a1).toNat * 3)).block, (ad105.add ((a1).toNat * 3)).off + 2, none⟩ = some (.int .i64 ((rd_T62 l0 a1).f2))) (ds := []) #[false, false, false, false, false, false, false, false, false, false, false, false, false, false, false, false] (by kernel_rfl) rfl rfl ⟨((HB.out.cell (World.block_lt_of_cell? w _ hw105_0)).trans hw105_0), ((HB.out.cell (World.block_lt_of_cell? w _ hw105_1)).trans hw105_1), ((HB.out.cell (World.block_lt_of_cell? w _ hw105_2)).trans hw105_2), ((HB.out.cell (World.block_lt_of_cell? w _ hw106_0)).trans hw106_0), ((HB.out.cell (World.block_lt_of_cell? w _ hw106_1)).trans hw106_1), ((HB.out.cell (World.block_lt_of_cell? w _ hw106_2)).trans hw106_2)⟩ (fun hHeld => ?_); refine with_tabW impl_termAt.tab3 impl_termAt.bits3 (fun HT_ HW_ => ?_)
            generalize wc.drew = w15 at BK101 HB hx105_0 hx105_1 hx105_2 hx106_0 hx106_1 hx106_2 hHeld ⊢
            refine pure_ (i := 0) (N := some 44) (v := ?_) (a' := ?_) #[true, false, false, false, false, false, false, false, false, false, false, false, false, false, false, false] rfl rfl (any_of HT_.out (by kernel_rfl)) (fun _ _ _ h => h) (Or.inl ⟨by rfl, ?_⟩) ?_ ?_
            rotate_left
            · intro w'
              go_simp
              with_reducible rfl
            rotate_left
            · simp only [Act.put, List.setIfInBounds_toArray, List.set_cons_zero, List.set_cons_succ, i64_w, i32_w]
              rfl
            refine pure_ (i := 1) (N := some 45) (v := ?_) (a' := ?_) #[true, true, false, false, false, false, false, false, false, false, false, false, false, false, false, false] rfl rfl (any_of HT_.out (by kernel_rfl)) (fun _ _ _ h => h) (Or.inl ⟨by rfl, ?_⟩) ?_ ?_
            rotate_left
            · intro w'
              go_simp
              with_reducible rfl
            rotate_left
            · simp only [Act.put, List.setIfInBounds_toArray, List.set_cons_zero, List.set_cons_succ, i64_w, i32_w]
              rfl
            refine pure_ (i := 2) (N := some 46) (v := ?_) (a' := ?_) #[true, true, true, false, false, false, false, false, false, false, false, false, false, false, false, false] rfl rfl (any_of HT_.out (by kernel_rfl)) (fun _ _ _ h => h) (Or.inl ⟨by rfl, ?_⟩) ?_ ?_
            rotate_left
            · intro w'
              go_simp
              with_reducible rfl
            rotate_left
            · simp only [Act.put, List.setIfInBounds_toArray, List.set_cons_zero, List.set_cons_succ, i64_w, i32_w]
              rfl
            refine pure_ (i := 3) (N := some 47) (v := ?_) (a' := ?_) #[true, true, true, true, false, false, false, false, false, false, false, false, false, false, false, false] rfl rfl (any_of HT_.out (by kernel_rfl)) (fun _ _ _ h => h) (Or.inl ⟨by rfl, ?_⟩) ?_ ?_
            rotate_left
            · intro w'
              go_simp
              with_reducible rfl
            rotate_left
            · simp only [Act.put, List.setIfInBounds_toArray, List.set_cons_zero, List.set_cons_succ, i64_w, i32_w]
              rfl
            refine pure_ (i := 5) (N := some 49) (v := ?_) (a' := ?_) #[true, true, true, true, false, true, false, false, false, false, false, false, false, false, false, false] rfl rfl (any_of HT_.out (by kernel_rfl)) (fun _ _ _ h => h) (Or.inl ⟨by rfl, ?_⟩) ?_ ?_
            rotate_left
            · intro w'
              go_simp
              with_reducible rfl
            rotate_left
            · simp only [Act.put, List.setIfInBounds_toArray, List.set_cons_zero, List.set_cons_succ, i64_w, i32_w]
              rfl
            refine pure_ (i := 6) (N := some 50) (v := ?_) (a' := ?_) #[true, true, true, true, false, true, true, false, false, false, false, false, false, false, false, false] rfl rfl (any_of HT_.out (by kernel_rfl)) (fun _ _ _ h => h) (Or.inl ⟨by rfl, ?_⟩) ?_ ?_
            rotate_left
            · intro w'
              go_simp
              with_reducible rfl
            rotate_left
            · simp only [Act.put, List.setIfInBounds_toArray, List.set_cons_zero, List.set_cons_succ, i64_w, i32_w]
              rfl
            refine pure_ (i := 7) (N := some 51) (v := ?_) (a' := ?_) #[true, true, true, true, false, true, true, true, false, false, false, false, false, false, false, false] rfl rfl (any_of HT_.out (by kernel_rfl)) (fun _ _ _ h => h) (Or.inl ⟨by rfl, ?_⟩) ?_ ?_
            rotate_left
            · intro w'
              go_simp
              with_reducible rfl
            rotate_left
            · simp only [Act.put, List.setIfInBounds_toArray, List.set_cons_zero, List.set_cons_succ, i64_w, i32_w]
              rfl
            refine pure_ (i := 8) (N := some 52) (v := ?_) (a' := ?_) #[true, true, true, true, false, true, true, true, true, false, false, false, false, false, false, false] rfl rfl (any_of HT_.out (by kernel_rfl)) (fun _ _ _ h => h) (Or.inl ⟨by rfl, ?_⟩) ?_ ?_
            rotate_left
            · intro w'
              go_simp
              with_reducible rfl
            rotate_left
            · simp only [Act.put, List.setIfInBounds_toArray, List.set_cons_zero, List.set_cons_succ, i64_w, i32_w]
              rfl
            refine pure_ (i := 11) (N := some 55) (v := ?_) (a' := ?_) #[true, true, true, true, false, true, true, true, true, false, false, true, false, false, false, false] rfl rfl (any_of HT_.out (by kernel_rfl)) (fun _ _ _ h => h) (Or.inl ⟨by rfl, ?_⟩) ?_ ?_
            rotate_left
            · intro w'
              go_simp
              with_reducible rfl
            rotate_left
            · simp only [Act.put, List.setIfInBounds_toArray, List.set_cons_zero, List.set_cons_succ, i64_w, i32_w]
              rfl
            refine pure_ (i := 12) (N := some 56) (v := ?_) (a' := ?_) #[true, true, true, true, false, true, true, true, true, false, false, true, true, false, false, false] rfl rfl (any_of HT_.out (by kernel_rfl)) (fun _ _ _ h => h) (Or.inl ⟨by rfl, ?_⟩) ?_ ?_
            rotate_left
            · intro w'
              go_simp
              with_reducible rfl
            rotate_left
            · simp only [Act.put, List.setIfInBounds_toArray, List.set_cons_zero, List.set_cons_succ, i64_w, i32_w]
              rfl
            refine take_ (i := 4) (N := some 48) (v := ?_) (a' := ?_) #[true, true, true, true, true, true, true, true, true, false, false, true, true, false, false, false] rfl rfl (take_ofW HT_.out HW_.out (by kernel_rfl)) (fun _ _ _ h => h) (Or.inl ⟨by rfl, ?_⟩) hHeld ?_ ?_
            rotate_left
            · rintro w' ⟨s0, s1, s2, s3, s4, s5⟩
              go_simp
              with_reducible rfl
            rotate_left
            · simp only [Act.put, List.setIfInBounds_toArray, List.set_cons_zero, List.set_cons_succ, i64_w, i32_w]
              rfl
            refine take_ (i := 9) (N := some 53) (v := ?_) (a' := ?_) #[true, true, true, true, true, true, true, true, true, true, false, true, true, false, false, false] rfl rfl (take_ofW HT_.out HW_.out (by kernel_rfl)) (fun _ _ _ h => h) (Or.inl ⟨by rfl, ?_⟩) hHeld ?_ ?_
            rotate_left
            · rintro w' ⟨s0, s1, s2, s3, s4, s5⟩
              go_simp
              with_reducible rfl
            rotate_left
            · simp only [Act.put, List.setIfInBounds_toArray, List.set_cons_zero, List.set_cons_succ, i64_w, i32_w]
              rfl
            refine pure_ (i := 10) (N := some 54) (v := ?_) (a' := ?_) #[true, true, true, true, true, true, true, true, true, true, true, true, true, false, false, false] rfl rfl (any_of HT_.out (by kernel_rfl)) (fun _ _ _ h => h) (Or.inl ⟨by rfl, ?_⟩) ?_ ?_
            rotate_left
            · intro w'
              go_simp
              with_reducible rfl
            rotate_left
            · simp only [Act.put, List.setIfInBounds_toArray, List.set_cons_zero, List.set_cons_succ, i64_w, i32_w]
              rfl
            refine one_ (i := 13) (N := some 9) #[true, true, true, true, true, true, true, true, true, true, true, true, true, true, false, false] rfl rfl (one_of HT_.out (by kernel_rfl)) (by decide) (fun K hK => ?_)
            refine box_step ?hg (N := 9) ?hd (cs := #[.int .i64 0, .int .i64 0, .slice none 0 0]) (t := 68) ?hr ?_; (case hd => rfl); (case hg => rfl); (case hr => first | (go_simp; done) | (go_simp; rfl))
            intro gb107 hg w16 hbox hb
            have n0_ := Aside0.mk (blk_below (g := gb101) (o := .cells #[.int .i64 0, .int .i64 0, .slice none 0 0] 68 (0, 0)) (by (with_reducible repeat (first | refine blk_drewN ?_ _ | refine blk_drew ?_ | refine blk_alloc ?_ _)); exact BK101.out) hb)
            have n1_ := Aside0.mk (below_step (by repeat (first | (with_reducible first | exact HB.out | apply below_alloc | apply pw_below_drewN | apply below_drew1 | refine below_set ?_ GE101.out) | exact HB.out)) hb)
            have n2_ := Aside0.mk (hbox)
            have n3_ := Aside0.mk ((by rw [hg]; exact (below_size (by repeat (first | (with_reducible first | exact HB.out | apply below_alloc | apply pw_below_drewN | apply below_drew1 | refine below_set ?_ GE101.out) | exact HB.out))) : w.heap.size ≤ gb107))
            have n4_ := Aside0.mk ((by rw [hg]; exact (below_size (by repeat (first | (with_reducible first | exact HB.out | apply below_alloc | apply pw_below_drewN | apply below_drew1 | refine below_set ?_ GE101.out) | exact HB.out))) : w.heap.size ≤ gb107))
            have n5_ := Aside0.mk ((by rw [hg]; exact Nat.ne_of_lt (blk_lt (g := gb101) (o := .cells #[.int .i64 0, .int .i64 0, .slice none 0 0] 68 (0, 0)) (by (with_reducible repeat (first | refine blk_drewN ?_ _ | refine blk_drew ?_ | refine blk_alloc ?_ _)); exact BK101.out)) : gb101 ≠ gb107))
            have n6_ := Aside0.mk ((by rw [hg]; exact Nat.ne_of_gt (blk_lt (g := gb101) (o := .cells #[.int .i64 0, .int .i64 0, .slice none 0 0] 68 (0, 0)) (by (with_reducible repeat (first | refine blk_drewN ?_ _ | refine blk_drew ?_ | refine blk_alloc ?_ _)); exact BK101.out)) : gb107 ≠ gb101))
            clear BK101
            clear HB
            have BK101 := n0_
            have HB := n1_
            have BK107 := n2_
            have GW107 := n3_
            have GE107 := n4_
            have NB101_107 := n5_
            have NB107_101 := n6_
            clear n0_ n1_ n2_ n3_ n4_ n5_ n6_
            clear hb hbox hg
            refine hK.out _ _ ⟨((HB.out.cell (World.block_lt_of_cell? w _ hw105_0)).trans hw105_0), ((HB.out.cell (World.block_lt_of_cell? w _ hw105_1)).trans hw105_1), ((HB.out.cell (World.block_lt_of_cell? w _ hw105_2)).trans hw105_2), ((HB.out.cell (World.block_lt_of_cell? w _ hw106_0)).trans hw106_0), ((HB.out.cell (World.block_lt_of_cell? w _ hw106_1)).trans hw106_1), ((HB.out.cell (World.block_lt_of_cell? w _ hw106_2)).trans hw106_2)⟩ (fun hHeld => ?_)
            clear hK K
            refine norm_ (a' := ?_) ?_ ?_
            rotate_left
            · show Act.put _ (some 9) _ = _
              simp only [Act.put, List.setIfInBounds_toArray, List.set_cons_zero, List.set_cons_succ, i64_w, i32_w]
              rfl
            refine one_ (i := 14) (N := none) #[true, true, true, true, true, true, true, true, true, true, true, true, true, true, true, false] rfl rfl (one_of HT_.out (by kernel_rfl)) (by decide) (fun K hK => ?_)
            have hs17 : w16.cell? ⟨gb107, 0, none⟩ = some (.int .i64 0) := (blk_cell BK107.out 0).trans rfl
            have hfs17 := blk_frozen BK107.out 0
            have hns17_0 := NB101_107.out
            have hms17_0 := NB107_101.out
            have hs18 : w16.cell? ⟨gb107, 1, none⟩ = some (.int .i64 0) := (blk_cell BK107.out 1).trans rfl
            have hfs18 := blk_frozen BK107.out 1
            have hns18_0 := NB101_107.out
            have hms18_0 := NB107_101.out
            have hs19 : w16.cell? ⟨gb107, 2, none⟩ = some (.slice none 0 0) := (blk_cell BK107.out 2).trans rfl
            have hfs19 := blk_frozen BK107.out 2
            have hns19_0 := NB101_107.out
            have hms19_0 := NB107_101.out
            refine skip_ (w1 := ?_) (by rfl) rfl ?_ ?_
            rotate_left
            · go_simp
              rfl
            refine hK.out _ _ ⟨((cell_far (p := ⟨gb107, _, none⟩) (by first | exact Nat.ne_of_lt (Nat.lt_of_lt_of_le (by have := World.block_lt_of_cell? _ _ hw105_0; first | rwa [add_block] at this | exact this) GW107.out) | (rw [add_block]; exact Nat.ne_of_lt (Nat.lt_of_lt_of_le (by have := World.block_lt_of_cell? _ _ hw105_0; first | rwa [add_block] at this | exact this) GW107.out)) | (show (Addr.add _ _).block ≠ _; rw [add_block]; exact Nat.ne_of_lt (Nat.lt_of_lt_of_le (by have := World.block_lt_of_cell? _ _ hw105_0; first | rwa [add_block] at this | exact this) GW107.out)) | (dsimp only; exact Nat.ne_of_lt (Nat.lt_of_lt_of_le (by have := World.block_lt_of_cell? _ _ hw105_0; first | rwa [add_block] at this | exact this) GW107.out))) _).trans (((cell_far (p := ⟨gb107, _, none⟩) (by first | exact Nat.ne_of_lt (Nat.lt_of_lt_of_le (by have := World.block_lt_of_cell? _ _ hw105_0; first | rwa [add_block] at this | exact this) GW107.out) | (rw [add_block]; exact Nat.ne_of_lt (Nat.lt_of_lt_of_le (by have := World.block_lt_of_cell? _ _ hw105_0; first | rwa [add_block] at this | exact this) GW107.out)) | (show (Addr.add _ _).block ≠ _; rw [add_block]; exact Nat.ne_of_lt (Nat.lt_of_lt_of_le (by have := World.block_lt_of_cell? _ _ hw105_0; first | rwa [add_block] at this | exact this) GW107.out)) | (dsimp only; exact Nat.ne_of_lt (Nat.lt_of_lt_of_le (by have := World.block_lt_of_cell? _ _ hw105_0; first | rwa [add_block] at this | exact this) GW107.out))) _).trans (((cell_far (p := ⟨gb107, _, none⟩) (by first | exact Nat.ne_of_lt (Nat.lt_of_lt_of_le (by have := World.block_lt_of_cell? _ _ hw105_0; first | rwa [add_block] at this | exact this) GW107.out) | (rw [add_block]; exact Nat.ne_of_lt (Nat.lt_of_lt_of_le (by have := World.block_lt_of_cell? _ _ hw105_0; first | rwa [add_block] at this | exact this) GW107.out)) | (show (Addr.add _ _).block ≠ _; rw [add_block]; exact Nat.ne_of_lt (Nat.lt_of_lt_of_le (by have := World.block_lt_of_cell? _ _ hw105_0; first | rwa [add_block] at this | exact this) GW107.out)) | (dsimp only; exact Nat.ne_of_lt (Nat.lt_of_lt_of_le (by have := World.block_lt_of_cell? _ _ hw105_0; first | rwa [add_block] at this | exact this) GW107.out))) _).trans (hHeld.1)))))), ((cell_far (p := ⟨gb107, _, none⟩) (by first | exact Nat.ne_of_lt (Nat.lt_of_lt_of_le (by have := World.block_lt_of_cell? _ _ hw105_1; first | rwa [add_block] at this | exact this) GW107.out) | (rw [add_block]; exact Nat.ne_of_lt (Nat.lt_of_lt_of_le (by have := World.block_lt_of_cell? _ _ hw105_1; first | rwa [add_block] at this | exact this) GW107.out)) | (show (Addr.add _ _).block ≠ _; rw [add_block]; exact Nat.ne_of_lt (Nat.lt_of_lt_of_le (by have := World.block_lt_of_cell? _ _ hw105_1; first | rwa [add_block] at this | exact this) GW107.out)) | (dsimp only; exact Nat.ne_of_lt (Nat.lt_of_lt_of_le (by have := World.block_lt_of_cell? _ _ hw105_1; first | rwa [add_block] at this | exact this) GW107.out))) _).trans (((cell_far (p := ⟨gb107, _, none⟩) (by first | exact Nat.ne_of_lt (Nat.lt_of_lt_of_le (by have := World.block_lt_of_cell? _ _ hw105_1; first | rwa [add_block] at this | exact this) GW107.out) | (rw [add_block]; exact Nat.ne_of_lt (Nat.lt_of_lt_of_le (by have := World.block_lt_of_cell? _ _ hw105_1; first | rwa [add_block] at this | exact this) GW107.out)) | (show (Addr.add _ _).block ≠ _; rw [add_block]; exact Nat.ne_of_lt (Nat.lt_of_lt_of_le (by have := World.block_lt_of_cell? _ _ hw105_1; first | rwa [add_block] at this | exact this) GW107.out)) | (dsimp only; exact Nat.ne_of_lt (Nat.lt_of_lt_of_le (by have := World.block_lt_of_cell? _ _ hw105_1; first | rwa [add_block] at this | exact this) GW107.out))) _).trans (((cell_far (p := ⟨gb107, _, none⟩) (by first | exact Nat.ne_of_lt (Nat.lt_of_lt_of_le (by have := World.block_lt_of_cell? _ _ hw105_1; first | rwa [add_block] at this | exact this) GW107.out) | (rw [add_block]; exact Nat.ne_of_lt (Nat.lt_of_lt_of_le (by have := World.block_lt_of_cell? _ _ hw105_1; first | rwa [add_block] at this | exact this) GW107.out)) | (show (Addr.add _ _).block ≠ _; rw [add_block]; exact Nat.ne_of_lt (Nat.lt_of_lt_of_le (by have := World.block_lt_of_cell? _ _ hw105_1; first | rwa [add_block] at this | exact this) GW107.out)) | (dsimp only; exact Nat.ne_of_lt (Nat.lt_of_lt_of_le (by have := World.block_lt_of_cell? _ _ hw105_1; first | rwa [add_block] at this | exact this) GW107.out))) _).trans (hHeld.2.1)))))), ((cell_far (p := ⟨gb107, _, none⟩) (by first | exact Nat.ne_of_lt (Nat.lt_of_lt_of_le (by have := World.block_lt_of_cell? _ _ hw105_2; first | rwa [add_block] at this | exact this) GW107.out) | (rw [add_block]; exact Nat.ne_of_lt (Nat.lt_of_lt_of_le (by have := World.block_lt_of_cell? _ _ hw105_2; first | rwa [add_block] at this | exact this) GW107.out)) | (show (Addr.add _ _).block ≠ _; rw [add_block]; exact Nat.ne_of_lt (Nat.lt_of_lt_of_le (by have := World.block_lt_of_cell? _ _ hw105_2; first | rwa [add_block] at this | exact this) GW107.out)) | (dsimp only; exact Nat.ne_of_lt (Nat.lt_of_lt_of_le (by have := World.block_lt_of_cell? _ _ hw105_2; first | rwa [add_block] at this | exact this) GW107.out))) _).trans (((cell_far (p := ⟨gb107, _, none⟩) (by first | exact Nat.ne_of_lt (Nat.lt_of_lt_of_le (by have := World.block_lt_of_cell? _ _ hw105_2; first | rwa [add_block] at this | exact this) GW107.out) | (rw [add_block]; exact Nat.ne_of_lt (Nat.lt_of_lt_of_le (by have := World.block_lt_of_cell? _ _ hw105_2; first | rwa [add_block] at this | exact this) GW107.out)) | (show (Addr.add _ _).block ≠ _; rw [add_block]; exact Nat.ne_of_lt (Nat.lt_of_lt_of_le (by have := World.block_lt_of_cell? _ _ hw105_2; first | rwa [add_block] at this | exact this) GW107.out)) | (dsimp only; exact Nat.ne_of_lt (Nat.lt_of_lt_of_le (by have := World.block_lt_of_cell? _ _ hw105_2; first | rwa [add_block] at this | exact this) GW107.out))) _).trans (((cell_far (p := ⟨gb107, _, none⟩) (by first | exact Nat.ne_of_lt (Nat.lt_of_lt_of_le (by have := World.block_lt_of_cell? _ _ hw105_2; first | rwa [add_block] at this | exact this) GW107.out) | (rw [add_block]; exact Nat.ne_of_lt (Nat.lt_of_lt_of_le (by have := World.block_lt_of_cell? _ _ hw105_2; first | rwa [add_block] at this | exact this) GW107.out)) | (show (Addr.add _ _).block ≠ _; rw [add_block]; exact Nat.ne_of_lt (Nat.lt_of_lt_of_le (by have := World.block_lt_of_cell? _ _ hw105_2; first | rwa [add_block] at this | exact this) GW107.out)) | (dsimp only; exact Nat.ne_of_lt (Nat.lt_of_lt_of_le (by have := World.block_lt_of_cell? _ _ hw105_2; first | rwa [add_block] at this | exact this) GW107.out))) _).trans (hHeld.2.2.1)))))), ((cell_far (p := ⟨gb107, _, none⟩) (by first | exact Nat.ne_of_lt (Nat.lt_of_lt_of_le (by have := World.block_lt_of_cell? _ _ hw106_0; first | rwa [add_block] at this | exact this) GW107.out) | (rw [add_block]; exact Nat.ne_of_lt (Nat.lt_of_lt_of_le (by have := World.block_lt_of_cell? _ _ hw106_0; first | rwa [add_block] at this | exact this) GW107.out)) | (show (Addr.add _ _).block ≠ _; rw [add_block]; exact Nat.ne_of_lt (Nat.lt_of_lt_of_le (by have := World.block_lt_of_cell? _ _ hw106_0; first | rwa [add_block] at this | exact this) GW107.out)) | (dsimp only; exact Nat.ne_of_lt (Nat.lt_of_lt_of_le (by have := World.block_lt_of_cell? _ _ hw106_0; first | rwa [add_block] at this | exact this) GW107.out))) _).trans (((cell_far (p := ⟨gb107, _, none⟩) (by first | exact Nat.ne_of_lt (Nat.lt_of_lt_of_le (by have := World.block_lt_of_cell? _ _ hw106_0; first | rwa [add_block] at this | exact this) GW107.out) | (rw [add_block]; exact Nat.ne_of_lt (Nat.lt_of_lt_of_le (by have := World.block_lt_of_cell? _ _ hw106_0; first | rwa [add_block] at this | exact this) GW107.out)) | (show (Addr.add _ _).block ≠ _; rw [add_block]; exact Nat.ne_of_lt (Nat.lt_of_lt_of_le (by have := World.block_lt_of_cell? _ _ hw106_0; first | rwa [add_block] at this | exact this) GW107.out)) | (dsimp only; exact Nat.ne_of_lt (Nat.lt_of_lt_of_le (by have := World.block_lt_of_cell? _ _ hw106_0; first | rwa [add_block] at this | exact this) GW107.out))) _).trans (((cell_far (p := ⟨gb107, _, none⟩) (by first | exact Nat.ne_of_lt (Nat.lt_of_lt_of_le (by have := World.block_lt_of_cell? _ _ hw106_0; first | rwa [add_block] at this | exact this) GW107.out) | (rw [add_block]; exact Nat.ne_of_lt (Nat.lt_of_lt_of_le (by have := World.block_lt_of_cell? _ _ hw106_0; first | rwa [add_block] at this | exact this) GW107.out)) | (show (Addr.add _ _).block ≠ _; rw [add_block]; exact Nat.ne_of_lt (Nat.lt_of_lt_of_le (by have := World.block_lt_of_cell? _ _ hw106_0; first | rwa [add_block] at this | exact this) GW107.out)) | (dsimp only; exact Nat.ne_of_lt (Nat.lt_of_lt_of_le (by have := World.block_lt_of_cell? _ _ hw106_0; first | rwa [add_block] at this | exact this) GW107.out))) _).trans (hHeld.2.2.2.1)))))), ((cell_far (p := ⟨gb107, _, none⟩) (by first | exact Nat.ne_of_lt (Nat.lt_of_lt_of_le (by have := World.block_lt_of_cell? _ _ hw106_1; first | rwa [add_block] at this | exact this) GW107.out) | (rw [add_block]; exact Nat.ne_of_lt (Nat.lt_of_lt_of_le (by have := World.block_lt_of_cell? _ _ hw106_1; first | rwa [add_block] at this | exact this) GW107.out)) | (show (Addr.add _ _).block ≠ _; rw [add_block]; exact Nat.ne_of_lt (Nat.lt_of_lt_of_le (by have := World.block_lt_of_cell? _ _ hw106_1; first | rwa [add_block] at this | exact this) GW107.out)) | (dsimp only; exact Nat.ne_of_lt (Nat.lt_of_lt_of_le (by have := World.block_lt_of_cell? _ _ hw106_1; first | rwa [add_block] at this | exact this) GW107.out))) _).trans (((cell_far (p := ⟨gb107, _, none⟩) (by first | exact Nat.ne_of_lt (Nat.lt_of_lt_of_le (by have := World.block_lt_of_cell? _ _ hw106_1; first | rwa [add_block] at this | exact this) GW107.out) | (rw [add_block]; exact Nat.ne_of_lt (Nat.lt_of_lt_of_le (by have := World.block_lt_of_cell? _ _ hw106_1; first | rwa [add_block] at this | exact this) GW107.out)) | (show (Addr.add _ _).block ≠ _; rw [add_block]; exact Nat.ne_of_lt (Nat.lt_of_lt_of_le (by have := World.block_lt_of_cell? _ _ hw106_1; first | rwa [add_block] at this | exact this) GW107.out)) | (dsimp only; exact Nat.ne_of_lt (Nat.lt_of_lt_of_le (by have := World.block_lt_of_cell? _ _ hw106_1; first | rwa [add_block] at this | exact this) GW107.out))) _).trans (((cell_far (p := ⟨gb107, _, none⟩) (by first | exact Nat.ne_of_lt (Nat.lt_of_lt_of_le (by have := World.block_lt_of_cell? _ _ hw106_1; first | rwa [add_block] at this | exact this) GW107.out) | (rw [add_block]; exact Nat.ne_of_lt (Nat.lt_of_lt_of_le (by have := World.block_lt_of_cell? _ _ hw106_1; first | rwa [add_block] at this | exact this) GW107.out)) | (show (Addr.add _ _).block ≠ _; rw [add_block]; exact Nat.ne_of_lt (Nat.lt_of_lt_of_le (by have := World.block_lt_of_cell? _ _ hw106_1; first | rwa [add_block] at this | exact this) GW107.out)) | (dsimp only; exact Nat.ne_of_lt (Nat.lt_of_lt_of_le (by have := World.block_lt_of_cell? _ _ hw106_1; first | rwa [add_block] at this | exact this) GW107.out))) _).trans (hHeld.2.2.2.2.1)))))), ((cell_far (p := ⟨gb107, _, none⟩) (by first | exact Nat.ne_of_lt (Nat.lt_of_lt_of_le (by have := World.block_lt_of_cell? _ _ hw106_2; first | rwa [add_block] at this | exact this) GW107.out) | (rw [add_block]; exact Nat.ne_of_lt (Nat.lt_of_lt_of_le (by have := World.block_lt_of_cell? _ _ hw106_2; first | rwa [add_block] at this | exact this) GW107.out)) | (show (Addr.add _ _).block ≠ _; rw [add_block]; exact Nat.ne_of_lt (Nat.lt_of_lt_of_le (by have := World.block_lt_of_cell? _ _ hw106_2; first | rwa [add_block] at this | exact this) GW107.out)) | (dsimp only; exact Nat.ne_of_lt (Nat.lt_of_lt_of_le (by have := World.block_lt_of_cell? _ _ hw106_2; first | rwa [add_block] at this | exact this) GW107.out))) _).trans (((cell_far (p := ⟨gb107, _, none⟩) (by first | exact Nat.ne_of_lt (Nat.lt_of_lt_of_le (by have := World.block_lt_of_cell? _ _ hw106_2; first | rwa [add_block] at this | exact this) GW107.out) | (rw [add_block]; exact Nat.ne_of_lt (Nat.lt_of_lt_of_le (by have := World.block_lt_of_cell? _ _ hw106_2; first | rwa [add_block] at this | exact this) GW107.out)) | (show (Addr.add _ _).block ≠ _; rw [add_block]; exact Nat.ne_of_lt (Nat.lt_of_lt_of_le (by have := World.block_lt_of_cell? _ _ hw106_2; first | rwa [add_block] at this | exact this) GW107.out)) | (dsimp only; exact Nat.ne_of_lt (Nat.lt_of_lt_of_le (by have := World.block_lt_of_cell? _ _ hw106_2; first | rwa [add_block] at this | exact this) GW107.out))) _).trans (((cell_far (p := ⟨gb107, _, none⟩) (by first | exact Nat.ne_of_lt (Nat.lt_of_lt_of_le (by have := World.block_lt_of_cell? _ _ hw106_2; first | rwa [add_block] at this | exact this) GW107.out) | (rw [add_block]; exact Nat.ne_of_lt (Nat.lt_of_lt_of_le (by have := World.block_lt_of_cell? _ _ hw106_2; first | rwa [add_block] at this | exact this) GW107.out)) | (show (Addr.add _ _).block ≠ _; rw [add_block]; exact Nat.ne_of_lt (Nat.lt_of_lt_of_le (by have := World.block_lt_of_cell? _ _ hw106_2; first | rwa [add_block] at this | exact this) GW107.out)) | (dsimp only; exact Nat.ne_of_lt (Nat.lt_of_lt_of_le (by have := World.block_lt_of_cell? _ _ hw106_2; first | rwa [add_block] at this | exact this) GW107.out))) _).trans (hHeld.2.2.2.2.2))))))⟩ (fun hHeld => ?_)
            clear hK K
            refine pure_ (i := 15) (N := some 10) (v := ?_) (a' := ?_) #[true, true, true, true, true, true, true, true, true, true, true, true, true, true, true, true] rfl rfl (any_of HT_.out (by kernel_rfl)) (fun _ _ _ h => h) (Or.inl ⟨by rfl, ?_⟩) ?_ ?_
            rotate_left
            · intro w'
              go_simp
              with_reducible rfl
            rotate_left
            · simp only [Act.put, List.setIfInBounds_toArray, List.set_cons_zero, List.set_cons_succ, i64_w, i32_w]
              rfl
            refine done_ (done_of HT_.out (by kernel_rfl)) ?_
            have hnb20 := NB107_101.out
            have hnc20 := NB101_107.out
            have hcz21_0 : w16.cell? ⟨gb107, 0, none⟩ = some (.int .i64 0) := (blk_cell BK107.out 0).trans rfl
            have hcz21_1 : w16.cell? ⟨gb107, 1, none⟩ = some (.int .i64 0) := (blk_cell BK107.out 1).trans rfl
            have hcz21_2 : w16.cell? ⟨gb107, 2, none⟩ = some (.slice none 0 0) := (blk_cell BK107.out 2).trans rfl
            have hfz21_0 := blk_frozen BK107.out 0
            have hfz21_1 := blk_frozen BK107.out 1
            have hfz21_2 := blk_frozen BK107.out 2
            try go_wp2
            go_loopg [10, 60] kj3 (fun kq v10 v60 w' => ∃ (x10_2 : Int) (x60_2 : Int) (x102000_2 : Int) (x102001_2 : Int) (x108002_2 : List (S68)) (u108002 : Value), v10 = .int .i64 x10_2 ∧ v60 = .int .i64 x60_2 ∧ Aside0 (impl_termAt.l0 kq l0 a1 x10_2 (wrap64 (((rd_T62 l0 a1).f0) - 1)) x60_2 ((rd_T62 l0 a1).f0) ((rd_T62 l0 a1).f1) x108002_2 = some (r1, r2, r3, r4, r5)) ∧ Aside0 (kq ≤ kj3) ∧ Aside0 (Kd.R k68 68 w' w.heap.size (fun k_ => k_ ≠ gb101 ∧ k_ ≠ gb107) u108002 x108002_2) ∧ Aside0 (w'.heap[gb101]? = some (.cells #[.int .i64 x102000_2, .int .i64 x102001_2, (.slice none 0 0)] 68 (0, 0))) ∧ Aside0 (w'.heap[gb107]? = some (.cells #[.int .i64 ((rd_T62 l0 a1).f0), .int .i64 ((rd_T62 l0 a1).f1), u108002] 68 (0, 0))) ∧ Aside0 (Below w.heap.size w w'))
            case atStart => exact ⟨(wrap64 (a1 + 1)), (0), (0), (0), (([] : List (S68))), (.slice none 0 0), (by first | rfl | (simp; done) | (simp [*]; done)), (by first | rfl | (simp; done) | (simp [*]; done)), H', ⟨Nat.le_refl _⟩, ⟨by first | exact Kd.R_nil _ _ _ _ _ | exact Kd.N_nil _ _ _ _ _ | exact Kd.V_nil _ _ _ _ _ | exact Kd.Q_nil _ _ _ _ _ | exact Kd.S_nil _ _ _ _ _⟩, ⟨by (with_reducible repeat (first | refine blk_drewN ?_ _ | refine blk_drew ?_ | refine blk_alloc ?_ _)); refine blk_far ?_ NB101_107.out _; (with_reducible repeat (first | refine blk_drewN ?_ _ | refine blk_drew ?_ | refine blk_alloc ?_ _)); refine blk_far ?_ NB101_107.out _; (with_reducible repeat (first | refine blk_drewN ?_ _ | refine blk_drew ?_ | refine blk_alloc ?_ _)); refine blk_far ?_ NB101_107.out _; (with_reducible repeat (first | refine blk_drewN ?_ _ | refine blk_drew ?_ | refine blk_alloc ?_ _)); exact BK101.out⟩, ⟨by (with_reducible repeat (first | refine blk_drewN ?_ _ | refine blk_drew ?_ | refine blk_alloc ?_ _)); refine blk_put (cs := #[.int .i64 ((rd_T62 l0 a1).f0), .int .i64 ((rd_T62 l0 a1).f1), .slice none 0 0]) ?_ 2 _ rfl; (with_reducible repeat (first | refine blk_drewN ?_ _ | refine blk_drew ?_ | refine blk_alloc ?_ _)); refine blk_put (cs := #[.int .i64 ((rd_T62 l0 a1).f0), .int .i64 0, .slice none 0 0]) ?_ 1 _ rfl; (with_reducible repeat (first | refine blk_drewN ?_ _ | refine blk_drew ?_ | refine blk_alloc ?_ _)); refine blk_put (cs := #[.int .i64 0, .int .i64 0, .slice none 0 0]) ?_ 0 _ rfl; (with_reducible repeat (first | refine blk_drewN ?_ _ | refine blk_drew ?_ | refine blk_alloc ?_ _)); exact BK107.out⟩, ⟨by repeat (first | (with_reducible first | exact HB.out | apply below_alloc | apply pw_below_drewN | apply below_drew1 | refine below_set ?_ GE101.out | refine below_set ?_ GE107.out) | exact HB.out)⟩⟩
            case round =>
              clear H'
              try clear c1
              try clear p1
              try clear q1
              try clear hx1
              try clear c2
              try clear p2
              try clear c6
              try clear c6b0
              try clear c6b1
              try clear p6
              try clear c7
              try clear c7b0
              try clear c8
              try clear c8b0
              try clear c9
              try clear c9b0
              try clear c9b1
              try clear c10
              try clear c10b0
              try clear p10
              try clear q10
              try clear hx10
              try clear c11
              try clear c13
              try clear c13b0
              try clear c14
              try clear c14b0
              try clear c20
              try clear hcz12_0
              try clear hcz12_1
              try clear hcz12_2
              try clear hcz21_0
              try clear hcz21_1
              try clear hcz21_2
              try clear hfz12_0
              try clear hfz12_1
              try clear hfz12_2
              try clear hfz21_0
              try clear hfz21_1
              try clear hfz21_2
              try clear hx102_0
              try clear hx102_1
              try clear hx102_2
              try clear hx103_0
              try clear hx103_1
              try clear hx103_2
              try clear hx104_0
              try clear hx104_1
              try clear hx104_2
              try clear hx105_0
              try clear hx105_1
              try clear hx105_2
              try clear hx106_0
              try clear hx106_1
              try clear hx106_2
              try clear p1
              try clear p10
              try clear p102
              try clear p103
              try clear p104
              try clear p105
              try clear p106
              try clear p2
              try clear q1
              try clear q10
              try clear q102
              try clear q103
              try clear q104
              try clear q105
              try clear q106
              obtain ⟨x10_2, x60_2, x102000_2, x102001_2, x108002_2, u108002, rfl, rfl, HA, HK2, HO_108002, BK101, BK107, HB⟩ := hrel
              cases gk with
              | zero => exact absurd HA.out (by simp [impl_termAt.l0])
              | succ k2 =>
                have H := HA.out
                clear HA
                simp only [impl_termAt.l0] at H
                by_cases c22 : x60_2 < (wrap64 (((rd_T62 l0 a1).f0) - 1))
                · rw [if_pos c22] at H
                  have c22b0 : decide (x60_2 < (wrap64 (((rd_T62 l0 a1).f0) - 1))) = true := decide_eq_true c22
                  clear c22
                  replace H := Option.bind_eq_some_iff.mp H
                  obtain ⟨⟨t108, t109, t110, t113, t114⟩, A230, H⟩ := H
                  replace H : (if t114 = true then (if x108002_2.length < 3518437208883 then (impl_termAt.l0 k2 l0 a1 t113 (wrap64 (((rd_T62 l0 a1).f0) - 1)) (wrap64 (x60_2 + 1)) ((rd_T62 l0 a1).f0) ((rd_T62 l0 a1).f1) (x108002_2 ++ [(⟨t108, t109, t110⟩ : S68)])) else (none)) else (some (0, 0, ([] : List (S68)), 0, false))) = some (r1, r2, r3, r4, r5) := H
                  have A23 := Aside0.mk A230
                  clear A230
                  by_cases c24 : t114 = true
                  · subst c24
                    have H1 : (if x108002_2.length < 3518437208883 then (impl_termAt.l0 k2 l0 a1 t113 (wrap64 (((rd_T62 l0 a1).f0) - 1)) (wrap64 (x60_2 + 1)) ((rd_T62 l0 a1).f0) ((rd_T62 l0 a1).f1) (x108002_2 ++ [(⟨t108, t109, t110⟩ : S68)])) else (none)) = some (r1, r2, r3, r4, r5) := by rw [if_pos rfl] at H; exact H
                    clear H
                    have H := H1
                    clear H1
                    by_cases c25 : x108002_2.length < 3518437208883
                    · rw [if_pos c25] at H
                      have LMc25 := Aside0.mk c25
                      clear c25
                      obtain ⟨y116, hy116⟩ : ∃ y_ : List (S68), y_ = (x108002_2 ++ [(⟨t108, t109, t110⟩ : S68)]) := ⟨_, rfl⟩
                      replace H : (impl_termAt.l0 k2 l0 a1 t113 (wrap64 (((rd_T62 l0 a1).f0) - 1)) (wrap64 (x60_2 + 1)) ((rd_T62 l0 a1).f0) ((rd_T62 l0 a1).f1) y116) = some (r1, r2, r3, r4, r5) := by first | (rw [hy116]; with_reducible exact H) | (have H2_ := (Option.bind_some _ _).symm.trans H; rw [hy116]; with_reducible exact H2_) | (have H2_ := (Option.bind_some _ _).symm.trans H; with_reducible exact H2_) | with_reducible exact H | (rw [hy116]; exact H) | exact H
                      have Ny116 := Aside0.mk hy116
                      clear hy116
                      have H' := Aside0.mk H
                      clear H
                      go_wp2_with (first | ((with_reducible refine gate_callee (f := 65) rfl ?_); refine goesL_ (some 66) rfl rfl Try.func65 (by kernel_rfl) rfl #[.slice (some ad105) l0.length c0, .int .i64 x10_2, .int .i64 a1] rfl (by (try simp only [List.map_toArray, List.map_cons, List.map_nil]); first | done | rfl | (simp only [List.length_drop, List.length_take]; rfl)) ?_; (with_reducible refine (ih k2 (by have := HJ3.out; have := HK2.out; omega) _ _ l0 x10_2 a1 t108 t109 t110 t113 true _ ?side1 ?side2 A23.out).mono ?_); (case side1 => repeat (first | exact (Kd.C_below HR0.out HB.out) | (with_reducible refine Kd.C_alloc ?_ _) | (with_reducible refine Kd.C_drewN ?_ _) | (with_reducible refine Kd.C_drew ?_))); (case side2 => exact HC0.out); rintro e w26 ⟨v111, rfl, ho0, hb⟩; refine ⟨_, rfl, ?_⟩; have n0_ := Aside0.mk (Kd.R_elder' (by (with_reducible repeat (first | apply Kd.R_alloc | apply Kd.R_drewN | apply Kd.R_drew)); exact HO_108002.out) (Kd.R_base ho0) hb); have n1_ := Aside0.mk (Kd.R_lower (Kd.R_newB (Kd.R_newB (Kd.R_new' ho0 (Kd.R_lt (by (with_reducible repeat (first | apply Kd.R_alloc | apply Kd.R_drewN | apply Kd.R_drew)); exact HO_108002.out))) (g := gb101) (o := .cells #[.int .i64 x102000_2, .int .i64 x102001_2, .slice none 0 0] 68 (0, 0)) (by (with_reducible repeat (first | refine blk_drewN ?_ _ | refine blk_drew ?_ | refine blk_alloc ?_ _)); exact BK101.out)) (g := gb107) (o := .cells #[.int .i64 ((rd_T62 l0 a1).f0), .int .i64 ((rd_T62 l0 a1).f1), u108002] 68 (0, 0)) (by (with_reducible repeat (first | refine blk_drewN ?_ _ | refine blk_drew ?_ | refine blk_alloc ?_ _)); exact BK107.out)) (below_size (by repeat (first | (with_reducible first | exact HB.out | apply below_alloc | apply pw_below_drewN | apply below_drew1 | refine below_set ?_ GE101.out | refine below_set ?_ GE107.out) | exact HB.out)))); have n2_ := Aside0.mk (blk_below (g := gb101) (o := .cells #[.int .i64 x102000_2, .int .i64 x102001_2, .slice none 0 0] 68 (0, 0)) (by (with_reducible repeat (first | refine blk_drewN ?_ _ | refine blk_drew ?_ | refine blk_alloc ?_ _)); exact BK101.out) hb); have n3_ := Aside0.mk (blk_below (g := gb107) (o := .cells #[.int .i64 ((rd_T62 l0 a1).f0), .int .i64 ((rd_T62 l0 a1).f1), u108002] 68 (0, 0)) (by (with_reducible repeat (first | refine blk_drewN ?_ _ | refine blk_drew ?_ | refine blk_alloc ?_ _)); exact BK107.out) hb); have n4_ := Aside0.mk (below_step (by repeat (first | (with_reducible first | exact HB.out | apply below_alloc | apply pw_below_drewN | apply below_drew1 | refine below_set ?_ GE101.out | refine below_set ?_ GE107.out) | exact HB.out)) hb); clear HO_108002; clear BK101; clear BK107; clear HB; have HO_108002 := n0_; have HO112 := n1_; have BK101 := n2_; have BK107 := n3_; have HB := n4_; clear n0_ n1_ n2_ n3_ n4_; (try clear hb); (try clear hb2); (try clear hk); (try clear hi); (try clear ho0)) | ((with_reducible refine gate_dst (N := 11) rfl ?_); refine box_event ?hg (N := 11) ?hd (cs := #[.int .i64 0, .int .i64 0, .slice none 0 0]) (t := 68) ?hr ?_; (case hd => rfl); (case hg => rfl); (case hr => first | (go_simp; done) | (go_simp; rfl)); intro gb115 hg w27 hbox hb; have n0_ := Aside0.mk (Kd.R_below (Kd.R_elderB (by (with_reducible repeat (first | apply Kd.R_alloc | apply Kd.R_drewN | apply Kd.R_drew)); exact HO_108002.out) gb115 (Nat.le_of_eq hg.symm)) hb); have n1_ := Aside0.mk (Kd.R_below (Kd.R_elderB (by (with_reducible repeat (first | apply Kd.R_alloc | apply Kd.R_drewN | apply Kd.R_drew)); exact HO112.out) gb115 (Nat.le_of_eq hg.symm)) hb); have n2_ := Aside0.mk (blk_below (g := gb101) (o := .cells #[.int .i64 x102000_2, .int .i64 x102001_2, .slice none 0 0] 68 (0, 0)) (by (with_reducible repeat (first | refine blk_drewN ?_ _ | refine blk_drew ?_ | refine blk_alloc ?_ _)); exact BK101.out) hb); have n3_ := Aside0.mk (blk_below (g := gb107) (o := .cells #[.int .i64 ((rd_T62 l0 a1).f0), .int .i64 ((rd_T62 l0 a1).f1), u108002] 68 (0, 0)) (by (with_reducible repeat (first | refine blk_drewN ?_ _ | refine blk_drew ?_ | refine blk_alloc ?_ _)); exact BK107.out) hb); have n4_ := Aside0.mk (below_step (by repeat (first | (with_reducible first | exact HB.out | apply below_alloc | apply pw_below_drewN | apply below_drew1 | refine below_set ?_ GE101.out | refine below_set ?_ GE107.out) | exact HB.out)) hb); have n5_ := Aside0.mk (hbox); have n6_ := Aside0.mk ((by rw [hg]; exact (below_size (by repeat (first | (with_reducible first | exact HB.out | apply below_alloc | apply pw_below_drewN | apply below_drew1 | refine below_set ?_ GE101.out | refine below_set ?_ GE107.out) | exact HB.out))) : w.heap.size ≤ gb115)); have n7_ := Aside0.mk ((by rw [hg]; exact (below_size (by repeat (first | (with_reducible first | exact HB.out | apply below_alloc | apply pw_below_drewN | apply below_drew1 | refine below_set ?_ GE101.out | refine below_set ?_ GE107.out) | exact HB.out))) : w.heap.size ≤ gb115)); have n8_ := Aside0.mk ((by rw [hg]; exact Nat.ne_of_lt (blk_lt (g := gb101) (o := .cells #[.int .i64 x102000_2, .int .i64 x102001_2, .slice none 0 0] 68 (0, 0)) (by (with_reducible repeat (first | refine blk_drewN ?_ _ | refine blk_drew ?_ | refine blk_alloc ?_ _)); exact BK101.out)) : gb101 ≠ gb115)); have n9_ := Aside0.mk ((by rw [hg]; exact Nat.ne_of_gt (blk_lt (g := gb101) (o := .cells #[.int .i64 x102000_2, .int .i64 x102001_2, .slice none 0 0] 68 (0, 0)) (by (with_reducible repeat (first | refine blk_drewN ?_ _ | refine blk_drew ?_ | refine blk_alloc ?_ _)); exact BK101.out)) : gb115 ≠ gb101)); have n10_ := Aside0.mk ((by rw [hg]; exact Nat.ne_of_lt (blk_lt (g := gb107) (o := .cells #[.int .i64 ((rd_T62 l0 a1).f0), .int .i64 ((rd_T62 l0 a1).f1), u108002] 68 (0, 0)) (by (with_reducible repeat (first | refine blk_drewN ?_ _ | refine blk_drew ?_ | refine blk_alloc ?_ _)); exact BK107.out)) : gb107 ≠ gb115)); have n11_ := Aside0.mk ((by rw [hg]; exact Nat.ne_of_gt (blk_lt (g := gb107) (o := .cells #[.int .i64 ((rd_T62 l0 a1).f0), .int .i64 ((rd_T62 l0 a1).f1), u108002] 68 (0, 0)) (by (with_reducible repeat (first | refine blk_drewN ?_ _ | refine blk_drew ?_ | refine blk_alloc ?_ _)); exact BK107.out)) : gb115 ≠ gb107)); clear HO_108002; clear HO112; clear BK101; clear BK107; clear HB; have HO_108002 := n0_; have HO112 := n1_; have BK101 := n2_; have BK107 := n3_; have HB := n4_; have BK115 := n5_; have GW115 := n6_; have GE115 := n7_; have NB101_115 := n8_; have NB115_101 := n9_; have NB107_115 := n10_; have NB115_107 := n11_; clear n0_ n1_ n2_ n3_ n4_ n5_ n6_ n7_ n8_ n9_ n10_ n11_; clear hb hbox hg; have hnb28 := NB115_101.out; have hnc28 := NB101_115.out; have hnb29 := NB115_107.out; have hnc29 := NB107_115.out; have hcz30_0 : w27.cell? ⟨gb115, 0, none⟩ = some (.int .i64 0) := (blk_cell BK115.out 0).trans rfl; have hcz30_1 : w27.cell? ⟨gb115, 1, none⟩ = some (.int .i64 0) := (blk_cell BK115.out 1).trans rfl; have hcz30_2 : w27.cell? ⟨gb115, 2, none⟩ = some (.slice none 0 0) := (blk_cell BK115.out 2).trans rfl; have hfz30_0 := blk_frozen BK115.out 0; have hfz30_1 := blk_frozen BK115.out 1; have hfz30_2 := blk_frozen BK115.out 2; obtain ⟨Ao31, co31, eo31⟩ := Kd.R_slice HO112.out; subst eo31) | ((with_reducible refine gate_store (t := 68) (p := 11) rfl ?_); refine store_event (t := 68) (p := 11) (v := ?vo_w32) (w1 := (((w27.setCell ⟨gb115, 0, none⟩ (.int .i64 t108)).setCell ⟨gb115, 1, none⟩ (.int .i64 t109)).setCell ⟨gb115, 2, none⟩ (.slice Ao31 t110.length co31))) ?hg ?ho ?hn ?hr ?_; (case ho => rfl); (case hg => rfl); (case hn => rfl); (case hr => first | (go_simp; done) | (go_simp; rfl)); intro w32 hw; have n0_ : Aside0 (Kd.R k68 68 w32 w.heap.size (fun k_ => some k_ ≠ (.slice Ao31 t110.length co31 : Value).ownBlock ∧ k_ ≠ gb101 ∧ k_ ≠ gb107 ∧ k_ ≠ gb115) u108002 x108002_2) := ⟨(by rw [hw]; exact (by (with_reducible repeat (first | apply Kd.R_alloc | apply Kd.R_drewN | apply Kd.R_drew)); exact Kd.R_mono (Kd.R_far (p := ⟨gb115, 2, none⟩) (Kd.R_far (p := ⟨gb115, 1, none⟩) (Kd.R_far (p := ⟨gb115, 0, none⟩) (Kd.R_mono HO_108002.out (fun k_ hk => (⟨hk, hk.2⟩ : _ ∧ k_ ≠ gb115))) (fun _ hk => hk.2) (.int .i64 t108)) (fun _ hk => hk.2) (.int .i64 t109)) (fun _ hk => hk.2) (.slice Ao31 t110.length co31)) (fun _ hk => ⟨hk.1.1.2, ⟨hk.1.1.1.1, ⟨hk.1.1.1.2, hk.1.2⟩⟩⟩)))⟩; have n1_ : Aside0 (Kd.R k68 68 w32 w.heap.size (fun k_ => some k_ ≠ (u108002 : Value).ownBlock ∧ k_ ≠ gb101 ∧ k_ ≠ gb107 ∧ k_ ≠ gb115) (.slice Ao31 t110.length co31) t110) := ⟨(by rw [hw]; exact (by (with_reducible repeat (first | apply Kd.R_alloc | apply Kd.R_drewN | apply Kd.R_drew)); exact Kd.R_mono (Kd.R_far (p := ⟨gb115, 2, none⟩) (Kd.R_far (p := ⟨gb115, 1, none⟩) (Kd.R_far (p := ⟨gb115, 0, none⟩) (Kd.R_mono HO112.out (fun k_ hk => (⟨hk, hk.2⟩ : _ ∧ k_ ≠ gb115))) (fun _ hk => hk.2) (.int .i64 t108)) (fun _ hk => hk.2) (.int .i64 t109)) (fun _ hk => hk.2) (.slice Ao31 t110.length co31)) (fun _ hk => ⟨hk.1.1.1.1.2, ⟨hk.1.1.1.2, ⟨hk.1.1.2, hk.1.2⟩⟩⟩)))⟩; have n2_ : Aside0 (w32.heap[gb101]? = some (.cells #[.int .i64 x102000_2, .int .i64 x102001_2, .slice none 0 0] 68 (0, 0))) := ⟨(by rw [hw]; exact (by (with_reducible repeat (first | refine blk_drewN ?_ _ | refine blk_drew ?_ | refine blk_alloc ?_ _)); refine blk_far ?_ NB101_115.out _; (with_reducible repeat (first | refine blk_drewN ?_ _ | refine blk_drew ?_ | refine blk_alloc ?_ _)); refine blk_far ?_ NB101_115.out _; (with_reducible repeat (first | refine blk_drewN ?_ _ | refine blk_drew ?_ | refine blk_alloc ?_ _)); refine blk_far ?_ NB101_115.out _; (with_reducible repeat (first | refine blk_drewN ?_ _ | refine blk_drew ?_ | refine blk_alloc ?_ _)); exact BK101.out))⟩; have n3_ : Aside0 (w32.heap[gb107]? = some (.cells #[.int .i64 ((rd_T62 l0 a1).f0), .int .i64 ((rd_T62 l0 a1).f1), u108002] 68 (0, 0))) := ⟨(by rw [hw]; exact (by (with_reducible repeat (first | refine blk_drewN ?_ _ | refine blk_drew ?_ | refine blk_alloc ?_ _)); refine blk_far ?_ NB107_115.out _; (with_reducible repeat (first | refine blk_drewN ?_ _ | refine blk_drew ?_ | refine blk_alloc ?_ _)); refine blk_far ?_ NB107_115.out _; (with_reducible repeat (first | refine blk_drewN ?_ _ | refine blk_drew ?_ | refine blk_alloc ?_ _)); refine blk_far ?_ NB107_115.out _; (with_reducible repeat (first | refine blk_drewN ?_ _ | refine blk_drew ?_ | refine blk_alloc ?_ _)); exact BK107.out))⟩; have n4_ : Aside0 (w32.heap[gb115]? = some (.cells #[.int .i64 t108, .int .i64 t109, .slice Ao31 t110.length co31] 68 (0, 0))) := ⟨(by rw [hw]; exact (by (with_reducible repeat (first | refine blk_drewN ?_ _ | refine blk_drew ?_ | refine blk_alloc ?_ _)); refine blk_put (cs := #[.int .i64 t108, .int .i64 t109, .slice none 0 0]) ?_ 2 _ rfl; (with_reducible repeat (first | refine blk_drewN ?_ _ | refine blk_drew ?_ | refine blk_alloc ?_ _)); refine blk_put (cs := #[.int .i64 t108, .int .i64 0, .slice none 0 0]) ?_ 1 _ rfl; (with_reducible repeat (first | refine blk_drewN ?_ _ | refine blk_drew ?_ | refine blk_alloc ?_ _)); refine blk_put (cs := #[.int .i64 0, .int .i64 0, .slice none 0 0]) ?_ 0 _ rfl; (with_reducible repeat (first | refine blk_drewN ?_ _ | refine blk_drew ?_ | refine blk_alloc ?_ _)); exact BK115.out))⟩; have n5_ : Aside0 (Below w.heap.size w w32) := ⟨(by rw [hw]; exact (by repeat (first | (with_reducible first | exact HB.out | apply below_alloc | apply pw_below_drewN | apply below_drew1 | refine below_set ?_ GE101.out | refine below_set ?_ GE107.out | refine below_set ?_ GE115.out) | exact HB.out)))⟩; clear hw; clear HO_108002; clear HO112; clear BK101; clear BK107; clear BK115; clear HB; have HO_108002 := n0_; have HO112 := n1_; have BK101 := n2_; have BK107 := n3_; have BK115 := n4_; have HB := n5_; clear n0_ n1_ n2_ n3_ n4_ n5_; have hnb33 := NB107_101.out; have hnc33 := NB101_107.out; have hcz34_0 : w32.cell? ⟨gb107, 0, none⟩ = some (.int .i64 ((rd_T62 l0 a1).f0)) := (blk_cell BK107.out 0).trans rfl; have hcz34_1 : w32.cell? ⟨gb107, 1, none⟩ = some (.int .i64 ((rd_T62 l0 a1).f1)) := (blk_cell BK107.out 1).trans rfl; have hcz34_2 : w32.cell? ⟨gb107, 2, none⟩ = some (u108002) := (blk_cell BK107.out 2).trans rfl; have hfz34_0 := blk_frozen BK107.out 0; have hfz34_1 := blk_frozen BK107.out 1; have hfz34_2 := blk_frozen BK107.out 2; have hcz35_0 : w32.cell? ⟨gb115, 0, none⟩ = some (.int .i64 t108) := (blk_cell BK115.out 0).trans rfl; have hcz35_1 : w32.cell? ⟨gb115, 1, none⟩ = some (.int .i64 t109) := (blk_cell BK115.out 1).trans rfl; have hcz35_2 : w32.cell? ⟨gb115, 2, none⟩ = some (.slice Ao31 t110.length co31) := (blk_cell BK115.out 2).trans rfl; have hfz35_0 := blk_frozen BK115.out 0; have hfz35_1 := blk_frozen BK115.out 1; have hfz35_2 := blk_frozen BK115.out 2) | ((with_reducible refine gate_builtin (b := .append) (xs := #[.tmp 74, .tmp 76]) rfl ?_); at_builtin; refine Kd.R_append k68 (w0 := w) w.heap.size rfl (.tmp 74) (.tmp 76) 66 68 (.agg #[(.int .i64 0), (.int .i64 0), (.slice none 0 0)]) 40 rfl Try.underlying66 info68 rfl (by decide) (by omega) u108002 x108002_2 (⟨t108, t109, t110⟩ : S68) [.int .i64 t108, .int .i64 t109, .slice Ao31 t110.length co31] (fun k_ => k_ ≠ gb101 ∧ k_ ≠ gb107 ∧ k_ ≠ gb115) (fun k_ => ((fun k_ => k_ ≠ gb101 ∧ k_ ≠ gb107 ∧ k_ ≠ gb115)) k_ ∧ some k_ ≠ (u108002 : Value).ownBlock) rfl rfl ?aP (fun _ hk => hk) ?aF ?aO ?aB ?aS ?aL ?_; (case aP => exact k68_mkM _ _ _ (⟨t108, t109, t110⟩ : S68) (Kd.R_mono (HO112.out) (fun k_ hk => ⟨⟨hk.2.1, ⟨hk.2.2.1, hk.2.2.2⟩⟩, hk.1⟩))); (case aB => exact (by repeat (first | (with_reducible first | exact HB.out | apply below_alloc | apply pw_below_drewN | apply below_drew1 | refine below_set ?_ GE101.out | refine below_set ?_ GE107.out | refine below_set ?_ GE115.out) | exact HB.out))); (case aF => exact (fun k_ hk => ⟨Kd.freshB (g := gb101) (o := .cells #[.int .i64 x102000_2, .int .i64 x102001_2, .slice none 0 0] 68 (0, 0)) (by (with_reducible repeat (first | refine blk_drewN ?_ _ | refine blk_drew ?_ | refine blk_alloc ?_ _)); exact BK101.out) k_ hk, Kd.freshB (g := gb107) (o := .cells #[.int .i64 ((rd_T62 l0 a1).f0), .int .i64 ((rd_T62 l0 a1).f1), u108002] 68 (0, 0)) (by (with_reducible repeat (first | refine blk_drewN ?_ _ | refine blk_drew ?_ | refine blk_alloc ?_ _)); exact BK107.out) k_ hk, Kd.freshB (g := gb115) (o := .cells #[.int .i64 t108, .int .i64 t109, .slice Ao31 t110.length co31] 68 (0, 0)) (by (with_reducible repeat (first | refine blk_drewN ?_ _ | refine blk_drew ?_ | refine blk_alloc ?_ _)); exact BK115.out) k_ hk⟩)); (case aO => exact (by (with_reducible repeat (first | apply Kd.R_alloc | apply Kd.R_drewN | apply Kd.R_drew)); exact Kd.R_mono HO_108002.out (fun _ hk => ⟨hk.2.1, ⟨hk.2.2.1, hk.2.2.2⟩⟩))); (case aS => exact (below_size (by repeat (first | (with_reducible first | exact HB.out | apply below_alloc | apply pw_below_drewN | apply below_drew1 | refine below_set ?_ GE101.out | refine below_set ?_ GE107.out | refine below_set ?_ GE115.out) | exact HB.out)))); (case aL => have := LMc25.out; omega); intro v117 w36 ho hb hg hat; rw [← Ny116.out] at ho; have n0_ := Aside0.mk (blk_grown (g := gb101) (o := .cells #[.int .i64 x102000_2, .int .i64 x102001_2, .slice none 0 0] 68 (0, 0)) (by (with_reducible repeat (first | refine blk_drewN ?_ _ | refine blk_drew ?_ | refine blk_alloc ?_ _)); exact BK101.out) hg (Kd.R_away HO_108002.out (fun _ hk => hk.2.1))); have n1_ := Aside0.mk (blk_grown (g := gb107) (o := .cells #[.int .i64 ((rd_T62 l0 a1).f0), .int .i64 ((rd_T62 l0 a1).f1), u108002] 68 (0, 0)) (by (with_reducible repeat (first | refine blk_drewN ?_ _ | refine blk_drew ?_ | refine blk_alloc ?_ _)); exact BK107.out) hg (Kd.R_away HO_108002.out (fun _ hk => hk.2.2.1))); have n2_ := Aside0.mk (blk_grown (g := gb115) (o := .cells #[.int .i64 t108, .int .i64 t109, .slice Ao31 t110.length co31] 68 (0, 0)) (by (with_reducible repeat (first | refine blk_drewN ?_ _ | refine blk_drew ?_ | refine blk_alloc ?_ _)); exact BK115.out) hg (Kd.R_away HO_108002.out (fun _ hk => hk.2.2.2))); have n3_ := Aside0.mk (hb); have n4_ := Aside0.mk (ho); clear BK101; clear BK107; clear BK115; clear HB; clear HO_108002; clear HO112; have BK101 := n0_; have BK107 := n1_; have BK115 := n2_; have HB := n3_; have HO118 := n4_; clear n0_ n1_ n2_ n3_ n4_; clear ho hb hg hat; obtain ⟨Ao37, co37, eo37⟩ := Kd.R_slice HO118.out; subst eo37; have hcz38_0 : w36.cell? ⟨gb107, 0, none⟩ = some (.int .i64 ((rd_T62 l0 a1).f0)) := (blk_cell BK107.out 0).trans rfl; have hcz38_1 : w36.cell? ⟨gb107, 1, none⟩ = some (.int .i64 ((rd_T62 l0 a1).f1)) := (blk_cell BK107.out 1).trans rfl; have hcz38_2 : w36.cell? ⟨gb107, 2, none⟩ = some (u108002) := (blk_cell BK107.out 2).trans rfl; have hfz38_0 := blk_frozen BK107.out 0; have hfz38_1 := blk_frozen BK107.out 1; have hfz38_2 := blk_frozen BK107.out 2))
                      go_roundg k2
                      case measure => have := HJ3.out; have := HK2.out; omega
                      case rel => exact ⟨(t113), (wrap64 (x60_2 + 1)), (x102000_2), (x102001_2), (y116), (.slice Ao37 y116.length co37), (by first | rfl | (simp; done) | (simp [*]; done)), (by first | rfl | (simp; done) | (simp [*]; done)), H', ⟨by have := HJ3.out; have := HK2.out; omega⟩, ⟨by (with_reducible repeat (first | apply Kd.R_alloc | apply Kd.R_drewN | apply Kd.R_drew)); exact Kd.R_mono (Kd.R_far (p := ⟨gb107, 2, none⟩) (Kd.R_mono HO118.out (fun k_ hk => (⟨hk, hk.2.1⟩ : _ ∧ k_ ≠ gb107))) (fun _ hk => hk.2) (.slice Ao37 y116.length co37)) (fun _ hk => ⟨hk.1.1, hk.1.2.1⟩)⟩, ⟨by (with_reducible repeat (first | refine blk_drewN ?_ _ | refine blk_drew ?_ | refine blk_alloc ?_ _)); refine blk_far ?_ NB101_107.out _; (with_reducible repeat (first | refine blk_drewN ?_ _ | refine blk_drew ?_ | refine blk_alloc ?_ _)); exact BK101.out⟩, ⟨by (with_reducible repeat (first | refine blk_drewN ?_ _ | refine blk_drew ?_ | refine blk_alloc ?_ _)); refine blk_put (cs := #[.int .i64 ((rd_T62 l0 a1).f0), .int .i64 ((rd_T62 l0 a1).f1), u108002]) ?_ 2 _ rfl; (with_reducible repeat (first | refine blk_drewN ?_ _ | refine blk_drew ?_ | refine blk_alloc ?_ _)); exact BK107.out⟩, ⟨by repeat (first | (with_reducible first | exact HB.out | apply below_alloc | apply pw_below_drewN | apply below_drew1 | refine below_set ?_ GE101.out | refine below_set ?_ GE107.out | refine below_set ?_ GE115.out) | exact HB.out)⟩⟩
                    · rw [if_neg c25] at H
                      exact absurd H (by simp)
                  · replace c24 := Bool.eq_false_iff.mpr c24
                    subst c24
                    have H1 : (some (0, 0, ([] : List (S68)), 0, false)) = some (r1, r2, r3, r4, r5) := by rw [if_neg (show ¬ (false = true) by decide)] at H; exact H
                    clear H
                    have H := H1
                    clear H1
                    simp only [Option.some.injEq, Prod.mk.injEq] at H
                    obtain ⟨rfl, rfl, rfl, rfl, rfl⟩ := H
                    go_wp2_with (first | ((with_reducible refine gate_callee (f := 65) rfl ?_); refine goesL_ (some 66) rfl rfl Try.func65 (by kernel_rfl) rfl #[.slice (some ad105) l0.length c0, .int .i64 x10_2, .int .i64 a1] rfl (by (try simp only [List.map_toArray, List.map_cons, List.map_nil]); first | done | rfl | (simp only [List.length_drop, List.length_take]; rfl)) ?_; (with_reducible refine (ih k2 (by have := HJ3.out; have := HK2.out; omega) _ _ l0 x10_2 a1 t108 t109 t110 t113 false _ ?side1 ?side2 A23.out).mono ?_); (case side1 => repeat (first | exact (Kd.C_below HR0.out HB.out) | (with_reducible refine Kd.C_alloc ?_ _) | (with_reducible refine Kd.C_drewN ?_ _) | (with_reducible refine Kd.C_drew ?_))); (case side2 => exact HC0.out); rintro e w39 ⟨v111, rfl, ho0, hb⟩; refine ⟨_, rfl, ?_⟩; have n0_ := Aside0.mk (Kd.R_elder' (by (with_reducible repeat (first | apply Kd.R_alloc | apply Kd.R_drewN | apply Kd.R_drew)); exact HO_108002.out) (Kd.R_base ho0) hb); have n1_ := Aside0.mk (Kd.R_lower (Kd.R_newB (Kd.R_newB (Kd.R_new' ho0 (Kd.R_lt (by (with_reducible repeat (first | apply Kd.R_alloc | apply Kd.R_drewN | apply Kd.R_drew)); exact HO_108002.out))) (g := gb101) (o := .cells #[.int .i64 x102000_2, .int .i64 x102001_2, .slice none 0 0] 68 (0, 0)) (by (with_reducible repeat (first | refine blk_drewN ?_ _ | refine blk_drew ?_ | refine blk_alloc ?_ _)); exact BK101.out)) (g := gb107) (o := .cells #[.int .i64 ((rd_T62 l0 a1).f0), .int .i64 ((rd_T62 l0 a1).f1), u108002] 68 (0, 0)) (by (with_reducible repeat (first | refine blk_drewN ?_ _ | refine blk_drew ?_ | refine blk_alloc ?_ _)); exact BK107.out)) (below_size (by repeat (first | (with_reducible first | exact HB.out | apply below_alloc | apply pw_below_drewN | apply below_drew1 | refine below_set ?_ GE101.out | refine below_set ?_ GE107.out) | exact HB.out)))); have n2_ := Aside0.mk (blk_below (g := gb101) (o := .cells #[.int .i64 x102000_2, .int .i64 x102001_2, .slice none 0 0] 68 (0, 0)) (by (with_reducible repeat (first | refine blk_drewN ?_ _ | refine blk_drew ?_ | refine blk_alloc ?_ _)); exact BK101.out) hb); have n3_ := Aside0.mk (blk_below (g := gb107) (o := .cells #[.int .i64 ((rd_T62 l0 a1).f0), .int .i64 ((rd_T62 l0 a1).f1), u108002] 68 (0, 0)) (by (with_reducible repeat (first | refine blk_drewN ?_ _ | refine blk_drew ?_ | refine blk_alloc ?_ _)); exact BK107.out) hb); have n4_ := Aside0.mk (below_step (by repeat (first | (with_reducible first | exact HB.out | apply below_alloc | apply pw_below_drewN | apply below_drew1 | refine below_set ?_ GE101.out | refine below_set ?_ GE107.out) | exact HB.out)) hb); clear HO_108002; clear BK101; clear BK107; clear HB; have HO_108002 := n0_; have HO112 := n1_; have BK101 := n2_; have BK107 := n3_; have HB := n4_; clear n0_ n1_ n2_ n3_ n4_; (try clear hb); (try clear hb2); (try clear hk); (try clear hi); (try clear ho0)) | ((with_reducible refine gate_dst (N := 11) rfl ?_); refine box_event ?hg (N := 11) ?hd (cs := #[.int .i64 0, .int .i64 0, .slice none 0 0]) (t := 68) ?hr ?_; (case hd => rfl); (case hg => rfl); (case hr => first | (go_simp; done) | (go_simp; rfl)); intro gb115 hg w40 hbox hb; have n0_ := Aside0.mk (Kd.R_below (Kd.R_elderB (by (with_reducible repeat (first | apply Kd.R_alloc | apply Kd.R_drewN | apply Kd.R_drew)); exact HO_108002.out) gb115 (Nat.le_of_eq hg.symm)) hb); have n1_ := Aside0.mk (Kd.R_below (Kd.R_elderB (by (with_reducible repeat (first | apply Kd.R_alloc | apply Kd.R_drewN | apply Kd.R_drew)); exact HO112.out) gb115 (Nat.le_of_eq hg.symm)) hb); have n2_ := Aside0.mk (blk_below (g := gb101) (o := .cells #[.int .i64 x102000_2, .int .i64 x102001_2, .slice none 0 0] 68 (0, 0)) (by (with_reducible repeat (first | refine blk_drewN ?_ _ | refine blk_drew ?_ | refine blk_alloc ?_ _)); exact BK101.out) hb); have n3_ := Aside0.mk (blk_below (g := gb107) (o := .cells #[.int .i64 ((rd_T62 l0 a1).f0), .int .i64 ((rd_T62 l0 a1).f1), u108002] 68 (0, 0)) (by (with_reducible repeat (first | refine blk_drewN ?_ _ | refine blk_drew ?_ | refine blk_alloc ?_ _)); exact BK107.out) hb); have n4_ := Aside0.mk (below_step (by repeat (first | (with_reducible first | exact HB.out | apply below_alloc | apply pw_below_drewN | apply below_drew1 | refine below_set ?_ GE101.out | refine below_set ?_ GE107.out) | exact HB.out)) hb); have n5_ := Aside0.mk (hbox); have n6_ := Aside0.mk ((by rw [hg]; exact (below_size (by repeat (first | (with_reducible first | exact HB.out | apply below_alloc | apply pw_below_drewN | apply below_drew1 | refine below_set ?_ GE101.out | refine below_set ?_ GE107.out) | exact HB.out))) : w.heap.size ≤ gb115)); have n7_ := Aside0.mk ((by rw [hg]; exact (below_size (by repeat (first | (with_reducible first | exact HB.out | apply below_alloc | apply pw_below_drewN | apply below_drew1 | refine below_set ?_ GE101.out | refine below_set ?_ GE107.out) | exact HB.out))) : w.heap.size ≤ gb115)); have n8_ := Aside0.mk ((by rw [hg]; exact Nat.ne_of_lt (blk_lt (g := gb101) (o := .cells #[.int .i64 x102000_2, .int .i64 x102001_2, .slice none 0 0] 68 (0, 0)) (by (with_reducible repeat (first | refine blk_drewN ?_ _ | refine blk_drew ?_ | refine blk_alloc ?_ _)); exact BK101.out)) : gb101 ≠ gb115)); have n9_ := Aside0.mk ((by rw [hg]; exact Nat.ne_of_gt (blk_lt (g := gb101) (o := .cells #[.int .i64 x102000_2, .int .i64 x102001_2, .slice none 0 0] 68 (0, 0)) (by (with_reducible repeat (first | refine blk_drewN ?_ _ | refine blk_drew ?_ | refine blk_alloc ?_ _)); exact BK101.out)) : gb115 ≠ gb101)); have n10_ := Aside0.mk ((by rw [hg]; exact Nat.ne_of_lt (blk_lt (g := gb107) (o := .cells #[.int .i64 ((rd_T62 l0 a1).f0), .int .i64 ((rd_T62 l0 a1).f1), u108002] 68 (0, 0)) (by (with_reducible repeat (first | refine blk_drewN ?_ _ | refine blk_drew ?_ | refine blk_alloc ?_ _)); exact BK107.out)) : gb107 ≠ gb115)); have n11_ := Aside0.mk ((by rw [hg]; exact Nat.ne_of_gt (blk_lt (g := gb107) (o := .cells #[.int .i64 ((rd_T62 l0 a1).f0), .int .i64 ((rd_T62 l0 a1).f1), u108002] 68 (0, 0)) (by (with_reducible repeat (first | refine blk_drewN ?_ _ | refine blk_drew ?_ | refine blk_alloc ?_ _)); exact BK107.out)) : gb115 ≠ gb107)); clear HO_108002; clear HO112; clear BK101; clear BK107; clear HB; have HO_108002 := n0_; have HO112 := n1_; have BK101 := n2_; have BK107 := n3_; have HB := n4_; have BK115 := n5_; have GW115 := n6_; have GE115 := n7_; have NB101_115 := n8_; have NB115_101 := n9_; have NB107_115 := n10_; have NB115_107 := n11_; clear n0_ n1_ n2_ n3_ n4_ n5_ n6_ n7_ n8_ n9_ n10_ n11_; clear hb hbox hg; have hnb41 := NB115_101.out; have hnc41 := NB101_115.out; have hnb42 := NB115_107.out; have hnc42 := NB107_115.out; have hcz43_0 : w40.cell? ⟨gb115, 0, none⟩ = some (.int .i64 0) := (blk_cell BK115.out 0).trans rfl; have hcz43_1 : w40.cell? ⟨gb115, 1, none⟩ = some (.int .i64 0) := (blk_cell BK115.out 1).trans rfl; have hcz43_2 : w40.cell? ⟨gb115, 2, none⟩ = some (.slice none 0 0) := (blk_cell BK115.out 2).trans rfl; have hfz43_0 := blk_frozen BK115.out 0; have hfz43_1 := blk_frozen BK115.out 1; have hfz43_2 := blk_frozen BK115.out 2; obtain ⟨Ao44, co44, eo44⟩ := Kd.R_slice HO112.out; subst eo44; have hnb45 := NB101_107.out; have hnc45 := NB107_101.out; have hcz46_0 : w40.cell? ⟨gb101, 0, none⟩ = some (.int .i64 x102000_2) := (blk_cell BK101.out 0).trans rfl; have hcz46_1 : w40.cell? ⟨gb101, 1, none⟩ = some (.int .i64 x102001_2) := (blk_cell BK101.out 1).trans rfl; have hcz46_2 : w40.cell? ⟨gb101, 2, none⟩ = some (.slice none 0 0) := (blk_cell BK101.out 2).trans rfl; have hfz46_0 := blk_frozen BK101.out 0; have hfz46_1 := blk_frozen BK101.out 1; have hfz46_2 := blk_frozen BK101.out 2))
                    refine bodyPost_ret (results_ctt rfl _ _ gb101 68 #[.int .i64 0, .int .i64 0, .slice none 0 0] (0, 0) _ rfl (by (with_reducible repeat (first | refine blk_drewN ?_ _ | refine blk_drew ?_ | refine blk_alloc ?_ _)); refine blk_put (cs := #[.int .i64 0, .int .i64 0, .slice none 0 0]) ?_ 2 _ rfl; (with_reducible repeat (first | refine blk_drewN ?_ _ | refine blk_drew ?_ | refine blk_alloc ?_ _)); refine blk_put (cs := #[.int .i64 0, .int .i64 x102001_2, .slice none 0 0]) ?_ 1 _ rfl; (with_reducible repeat (first | refine blk_drewN ?_ _ | refine blk_drew ?_ | refine blk_alloc ?_ _)); refine blk_put (cs := #[.int .i64 x102000_2, .int .i64 x102001_2, .slice none 0 0]) ?_ 0 _ rfl; (with_reducible repeat (first | refine blk_drewN ?_ _ | refine blk_drew ?_ | refine blk_alloc ?_ _)); refine blk_far ?_ NB101_115.out _; (with_reducible repeat (first | refine blk_drewN ?_ _ | refine blk_drew ?_ | refine blk_alloc ?_ _)); refine blk_far ?_ NB101_115.out _; (with_reducible repeat (first | refine blk_drewN ?_ _ | refine blk_drew ?_ | refine blk_alloc ?_ _)); refine blk_far ?_ NB101_115.out _; (with_reducible repeat (first | refine blk_drewN ?_ _ | refine blk_drew ?_ | refine blk_alloc ?_ _)); exact BK101.out) Try.underlying68 rfl (by kernel_rfl)) rfl ?_
                    exact ⟨_, by first | rfl | (simp [errW_none, errW_some] <;> rfl) | (simp [*, errW_none, errW_some] <;> rfl), by first | exact Kd.R_nil _ _ _ _ _ | exact Kd.N_nil _ _ _ _ _ | exact Kd.V_nil _ _ _ _ _ | exact Kd.Q_nil _ _ _ _ _ | exact Kd.S_nil _ _ _ _ _, by repeat (first | (with_reducible first | exact HB.out | apply below_alloc | apply pw_below_drewN | apply below_drew1 | refine below_set ?_ GE101.out | refine below_set ?_ GE107.out | refine below_set ?_ GE115.out) | exact HB.out)⟩
                · rw [if_neg c22] at H
                  have c22b0 : decide (x60_2 < (wrap64 (((rd_T62 l0 a1).f0) - 1))) = false := decide_eq_false c22
                  clear c22
                  simp only [Option.some.injEq, Prod.mk.injEq] at H
                  obtain ⟨rfl, rfl, rfl, rfl, rfl⟩ := H
                  have hnb47 := NB107_101.out
                  have hnc47 := NB101_107.out
                  have hcz48_0 : wr.cell? ⟨gb107, 0, none⟩ = some (.int .i64 ((rd_T62 l0 a1).f0)) := (blk_cell BK107.out 0).trans rfl
                  have hcz48_1 : wr.cell? ⟨gb107, 1, none⟩ = some (.int .i64 ((rd_T62 l0 a1).f1)) := (blk_cell BK107.out 1).trans rfl
                  have hcz48_2 : wr.cell? ⟨gb107, 2, none⟩ = some (u108002) := (blk_cell BK107.out 2).trans rfl
                  have hfz48_0 := blk_frozen BK107.out 0
                  have hfz48_1 := blk_frozen BK107.out 1
                  have hfz48_2 := blk_frozen BK107.out 2
                  have hcz49_0 : wr.cell? ⟨gb101, 0, none⟩ = some (.int .i64 x102000_2) := (blk_cell BK101.out 0).trans rfl
                  have hcz49_1 : wr.cell? ⟨gb101, 1, none⟩ = some (.int .i64 x102001_2) := (blk_cell BK101.out 1).trans rfl
                  have hcz49_2 : wr.cell? ⟨gb101, 2, none⟩ = some (.slice none 0 0) := (blk_cell BK101.out 2).trans rfl
                  have hfz49_0 := blk_frozen BK101.out 0
                  have hfz49_1 := blk_frozen BK101.out 1
                  have hfz49_2 := blk_frozen BK101.out 2
                  obtain ⟨Ao50, co50, eo50⟩ := Kd.R_slice HO_108002.out
                  subst eo50
                  go_wp2
                  refine bodyPost_ret (results_ctt rfl _ _ gb101 68 #[.int .i64 ((rd_T62 l0 a1).f0), .int .i64 ((rd_T62 l0 a1).f1), .slice Ao50 x108002_2.length co50] (0, 0) _ rfl (by (with_reducible repeat (first | refine blk_drewN ?_ _ | refine blk_drew ?_ | refine blk_alloc ?_ _)); refine blk_put (cs := #[.int .i64 ((rd_T62 l0 a1).f0), .int .i64 ((rd_T62 l0 a1).f1), .slice none 0 0]) ?_ 2 _ rfl; (with_reducible repeat (first | refine blk_drewN ?_ _ | refine blk_drew ?_ | refine blk_alloc ?_ _)); refine blk_put (cs := #[.int .i64 ((rd_T62 l0 a1).f0), .int .i64 x102001_2, .slice none 0 0]) ?_ 1 _ rfl; (with_reducible repeat (first | refine blk_drewN ?_ _ | refine blk_drew ?_ | refine blk_alloc ?_ _)); refine blk_put (cs := #[.int .i64 x102000_2, .int .i64 x102001_2, .slice none 0 0]) ?_ 0 _ rfl; (with_reducible repeat (first | refine blk_drewN ?_ _ | refine blk_drew ?_ | refine blk_alloc ?_ _)); exact BK101.out) Try.underlying68 rfl (by kernel_rfl)) rfl ?_
                  exact ⟨_, by first | rfl | (simp [errW_none, errW_some] <;> rfl) | (simp [*, errW_none, errW_some] <;> rfl), by (with_reducible repeat (first | apply Kd.R_alloc | apply Kd.R_drewN | apply Kd.R_drew)); exact Kd.R_mono (Kd.R_far (p := ⟨gb101, 2, none⟩) (Kd.R_far (p := ⟨gb101, 1, none⟩) (Kd.R_far (p := ⟨gb101, 0, none⟩) (Kd.R_mono HO_108002.out (fun k_ hk => (⟨hk, hk.1⟩ : _ ∧ k_ ≠ gb101))) (fun _ hk => hk.2) (.int .i64 ((rd_T62 l0 a1).f0))) (fun _ hk => hk.2) (.int .i64 ((rd_T62 l0 a1).f1))) (fun _ hk => hk.2) (.slice Ao50 x108002_2.length co50)) (fun _ hk => trivial), by repeat (first | (with_reducible first | exact HB.out | apply below_alloc | apply pw_below_drewN | apply below_drew1 | refine below_set ?_ GE101.out | refine below_set ?_ GE107.out) | exact HB.out)⟩
          · rw [if_neg c14] at H
            exact absurd H (by simp)
        · rw [if_neg c13] at H
          exact absurd H (by simp)

end Go.Proofs.Ytcjhhdecckcibaa.G
