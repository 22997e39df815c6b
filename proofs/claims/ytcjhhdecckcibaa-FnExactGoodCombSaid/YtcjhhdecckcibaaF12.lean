/- Printed by a program: what the Go functions that a law reaches come to, as Lean functions, each with the proof that the machine's call answers so; no condition but those each theorem names. -/
import Derived.Test.YtcjhhdecckcibaaK
import Derived.Test.YtcjhhdecckcibaaF39
import Derived.Test.YtcjhhdecckcibaaF40
namespace Go.Proofs.Ytcjhhdecckcibaa.G
open Go.RowKit Go.Proofs.YtcjhhdecckcibaaW.PrintWords Go.Proofs.YtcjhhdecckcibaaW.PrintLast Go.Proofs.YtcjhhdecckcibaaW.PrintMore
attribute [local go_sem] max2_int min2_int max_two min_two max_three min_three max_four min_four   -- for this text's walks alone
set_option linter.unusedVariables false
set_option linter.unusedSimpArgs false

/-! ### spec_GoodComb: function 12 -/
mutual
def spec_GoodComb.l0 : Nat → List (S52) → List (S52) → Int → Int → Option (Bool)
  | 0, _, _, _, _ => none
  | k + 1, x0, x14, x15, x16 => if x16 < x15 then (if 0 ≤ x16 then (if x16 < (x14.length : Int) then (if ((x16 == 0) != (((rd_T52 x14 x16).f2) == (-1))) = true then (spec_GoodComb.j1 k x0 x16 x14 x15 x16 true ((rd_T52 x14 x16).f0) ((rd_T52 x14 x16).f1) ((rd_T52 x14 x16).f2)) else ((spec_l1In.f ((rd_T52 x14 x16).f2) (-1) (wrap64 (x16 - 1))).bind fun t104 => (if t104 = true then ((spec_l1In.f ((rd_T52 x14 x16).f0) 1 5).bind fun t105 => (if t105 = true then ((spec_l1In.f ((rd_T52 x14 x16).f1) 0 999).bind fun t106 => (if t106 = true then (if ((rd_T52 x14 x16).f0) = 1 then (spec_GoodComb.j1 k x0 x16 x14 x15 x16 false ((rd_T52 x14 x16).f0) ((rd_T52 x14 x16).f1) ((rd_T52 x14 x16).f2)) else (spec_GoodComb.j1 k x0 x16 x14 x15 x16 (((rd_T52 x14 x16).f1) != 0) ((rd_T52 x14 x16).f0) ((rd_T52 x14 x16).f1) ((rd_T52 x14 x16).f2))) else (spec_GoodComb.j1 k x0 x16 x14 x15 x16 true ((rd_T52 x14 x16).f0) ((rd_T52 x14 x16).f1) ((rd_T52 x14 x16).f2)))) else (spec_GoodComb.j1 k x0 x16 x14 x15 x16 true ((rd_T52 x14 x16).f0) ((rd_T52 x14 x16).f1) ((rd_T52 x14 x16).f2)))) else (spec_GoodComb.j1 k x0 x16 x14 x15 x16 true ((rd_T52 x14 x16).f0) ((rd_T52 x14 x16).f1) ((rd_T52 x14 x16).f2))))) else (none)) else (none)) else (some true)
def spec_GoodComb.j1 : Nat → List (S52) → Int → List (S52) → Int → Int → Bool → Int → Int → Int → Option (Bool)
  | 0, _, _, _, _, _, _, _, _, _ => none
  | k + 1, x0, x3, x14, x15, x16, x56, x104000, x104001, x104002 => if x56 = true then (some false) else (spec_GoodComb.l1 k x0 x3 (x3 == 0) (wrap64 (x3 - 1)) x14 x15 x16 x104000 x104001 x104002)
def spec_GoodComb.j3 : Nat → List (S52) → Int → Bool → List (S52) → Int → Int → Int → Int → Int → Option (Bool)
  | 0, _, _, _, _, _, _, _, _, _ => none
  | k + 1, x0, x3, x5, x14, x15, x16, x104000, x104001, x104002 => spec_GoodComb.l2 k x0 x3 x5 0 x3 x14 x15 x16 x104000 x104001 x104002
def spec_GoodComb.l2 : Nat → List (S52) → Int → Bool → Int → Int → List (S52) → Int → Int → Int → Int → Int → Option (Bool)
  | 0, _, _, _, _, _, _, _, _, _, _, _ => none
  | k + 1, x0, x3, x5, x7, x8, x14, x15, x16, x104000, x104001, x104002 => if x8 ≥ 0 then (if 0 ≤ x8 then (if x8 < (x0.length : Int) then (spec_GoodComb.l2 k x0 x3 x5 (wrap64 (x7 + 1)) ((rd_T52 x0 x8).f2) x14 x15 x16 x104000 x104001 x104002) else (none)) else (none)) else (if x104000 = 2 then (if x5 = true then (if x7 > 60 then (some false) else ((spec_ldParts.f k x0 x3).bind fun t109 => (if (t109.length : Int) = 2 then (spec_GoodComb.l0 k x0 x14 x15 (wrap64 (x16 + 1))) else (some false)))) else (some false)) else (if x5 = true then (if x7 > 60 then (some false) else ((spec_ldParts.f k x0 x3).bind fun t112 => (if (t112.length : Int) = 0 then (spec_GoodComb.l0 k x0 x14 x15 (wrap64 (x16 + 1))) else (some false)))) else (some false)))
def spec_GoodComb.l1 : Nat → List (S52) → Int → Bool → Int → List (S52) → Int → Int → Int → Int → Int → Option (Bool)
  | 0, _, _, _, _, _, _, _, _, _, _ => none
  | k + 1, x0, x3, x5, x6, x14, x15, x16, x104000, x104001, x104002 => if x6 ≥ 0 then (if x5 = true then (spec_GoodComb.j3 k x0 x3 x5 x14 x15 x16 x104000 x104001 x104002) else (if 0 ≤ x6 then (if x6 < (x0.length : Int) then (spec_GoodComb.l1 k x0 x3 (x6 == x104002) ((rd_T52 x0 x6).f2) x14 x15 x16 x104000 x104001 x104002) else (none)) else (none))) else (spec_GoodComb.j3 k x0 x3 x5 x14 x15 x16 x104000 x104001 x104002)
end
def spec_GoodComb.f (k : Nat) (l0 : List (S52)) : Option (Bool) := (spec_l1In.f (l0.length : Int) 1 200).bind fun t101 => (if t101 = true then (spec_GoodComb.l0 k l0 l0 (l0.length : Int) 0) else (some false))
theorem spec_GoodComb.mono_l : ∀ k, (∀ y0 y1 y2 y3, LeO (spec_GoodComb.l0 k y0 y1 y2 y3) (spec_GoodComb.l0 (k + 1) y0 y1 y2 y3)) ∧ (∀ y0 y1 y2 y3 y4 y5 y6 y7 y8, LeO (spec_GoodComb.j1 k y0 y1 y2 y3 y4 y5 y6 y7 y8) (spec_GoodComb.j1 (k + 1) y0 y1 y2 y3 y4 y5 y6 y7 y8)) ∧ (∀ y0 y1 y2 y3 y4 y5 y6 y7 y8, LeO (spec_GoodComb.j3 k y0 y1 y2 y3 y4 y5 y6 y7 y8) (spec_GoodComb.j3 (k + 1) y0 y1 y2 y3 y4 y5 y6 y7 y8)) ∧ (∀ y0 y1 y2 y3 y4 y5 y6 y7 y8 y9 y10, LeO (spec_GoodComb.l2 k y0 y1 y2 y3 y4 y5 y6 y7 y8 y9 y10) (spec_GoodComb.l2 (k + 1) y0 y1 y2 y3 y4 y5 y6 y7 y8 y9 y10)) ∧ (∀ y0 y1 y2 y3 y4 y5 y6 y7 y8 y9, LeO (spec_GoodComb.l1 k y0 y1 y2 y3 y4 y5 y6 y7 y8 y9) (spec_GoodComb.l1 (k + 1) y0 y1 y2 y3 y4 y5 y6 y7 y8 y9))
  | 0 => ⟨fun _ _ _ _ r h => by simp [spec_GoodComb.l0] at h, fun _ _ _ _ _ _ _ _ _ r h => by simp [spec_GoodComb.j1] at h, fun _ _ _ _ _ _ _ _ _ r h => by simp [spec_GoodComb.j3] at h, fun _ _ _ _ _ _ _ _ _ _ _ r h => by simp [spec_GoodComb.l2] at h, fun _ _ _ _ _ _ _ _ _ _ r h => by simp [spec_GoodComb.l1] at h⟩
  | k + 1 => by
    obtain ⟨ih0, ih1, ih2, ih3, ih4⟩ := spec_GoodComb.mono_l k
    refine ⟨?_, ?_, ?_, ?_, ?_⟩
    · intro y0 y1 y2 y3
      unfold spec_GoodComb.l0
      repeat' first
      | (with_reducible exact ih0 _ _ _ _)
      | (with_reducible exact ih1 _ _ _ _ _ _ _ _ _)
      | (with_reducible exact ih2 _ _ _ _ _ _ _ _ _)
      | (with_reducible exact ih3 _ _ _ _ _ _ _ _ _ _ _)
      | (with_reducible exact ih4 _ _ _ _ _ _ _ _ _ _)
      | (with_reducible exact spec_ldParts.mono _ _ _)
      | (with_reducible exact LeO.refl _)
      | (with_reducible exact LeO.none _)
      | (with_reducible refine LeO.ite ?_ ?_)
      | (with_reducible refine LeO.bind ?_ (fun _ => ?_))
      | exact ih0 _ _ _ _
      | exact ih1 _ _ _ _ _ _ _ _ _
      | exact ih2 _ _ _ _ _ _ _ _ _
      | exact ih3 _ _ _ _ _ _ _ _ _ _ _
      | exact ih4 _ _ _ _ _ _ _ _ _ _
      | exact spec_ldParts.mono _ _ _
      | exact LeO.none _
      | refine LeO.ite ?_ ?_
      | refine LeO.bind ?_ (fun _ => ?_)
    · intro y0 y1 y2 y3 y4 y5 y6 y7 y8
      unfold spec_GoodComb.j1
      repeat' first
      | (with_reducible exact ih0 _ _ _ _)
      | (with_reducible exact ih1 _ _ _ _ _ _ _ _ _)
      | (with_reducible exact ih2 _ _ _ _ _ _ _ _ _)
      | (with_reducible exact ih3 _ _ _ _ _ _ _ _ _ _ _)
      | (with_reducible exact ih4 _ _ _ _ _ _ _ _ _ _)
      | (with_reducible exact spec_ldParts.mono _ _ _)
      | (with_reducible exact LeO.refl _)
      | (with_reducible exact LeO.none _)
      | (with_reducible refine LeO.ite ?_ ?_)
      | (with_reducible refine LeO.bind ?_ (fun _ => ?_))
      | exact ih0 _ _ _ _
      | exact ih1 _ _ _ _ _ _ _ _ _
      | exact ih2 _ _ _ _ _ _ _ _ _
      | exact ih3 _ _ _ _ _ _ _ _ _ _ _
      | exact ih4 _ _ _ _ _ _ _ _ _ _
      | exact spec_ldParts.mono _ _ _
      | exact LeO.none _
      | refine LeO.ite ?_ ?_
      | refine LeO.bind ?_ (fun _ => ?_)
    · intro y0 y1 y2 y3 y4 y5 y6 y7 y8
      unfold spec_GoodComb.j3
      repeat' first
      | (with_reducible exact ih0 _ _ _ _)
      | (with_reducible exact ih1 _ _ _ _ _ _ _ _ _)
      | (with_reducible exact ih2 _ _ _ _ _ _ _ _ _)
      | (with_reducible exact ih3 _ _ _ _ _ _ _ _ _ _ _)
      | (with_reducible exact ih4 _ _ _ _ _ _ _ _ _ _)
      | (with_reducible exact spec_ldParts.mono _ _ _)
      | (with_reducible exact LeO.refl _)
      | (with_reducible exact LeO.none _)
      | (with_reducible refine LeO.ite ?_ ?_)
      | (with_reducible refine LeO.bind ?_ (fun _ => ?_))
      | exact ih0 _ _ _ _
      | exact ih1 _ _ _ _ _ _ _ _ _
      | exact ih2 _ _ _ _ _ _ _ _ _
      | exact ih3 _ _ _ _ _ _ _ _ _ _ _
      | exact ih4 _ _ _ _ _ _ _ _ _ _
      | exact spec_ldParts.mono _ _ _
      | exact LeO.none _
      | refine LeO.ite ?_ ?_
      | refine LeO.bind ?_ (fun _ => ?_)
    · intro y0 y1 y2 y3 y4 y5 y6 y7 y8 y9 y10
      unfold spec_GoodComb.l2
      repeat' first
      | (with_reducible exact ih0 _ _ _ _)
      | (with_reducible exact ih1 _ _ _ _ _ _ _ _ _)
      | (with_reducible exact ih2 _ _ _ _ _ _ _ _ _)
      | (with_reducible exact ih3 _ _ _ _ _ _ _ _ _ _ _)
      | (with_reducible exact ih4 _ _ _ _ _ _ _ _ _ _)
      | (with_reducible exact spec_ldParts.mono _ _ _)
      | (with_reducible exact LeO.refl _)
      | (with_reducible exact LeO.none _)
      | (with_reducible refine LeO.ite ?_ ?_)
      | (with_reducible refine LeO.bind ?_ (fun _ => ?_))
      | exact ih0 _ _ _ _
      | exact ih1 _ _ _ _ _ _ _ _ _
      | exact ih2 _ _ _ _ _ _ _ _ _
      | exact ih3 _ _ _ _ _ _ _ _ _ _ _
      | exact ih4 _ _ _ _ _ _ _ _ _ _
      | exact spec_ldParts.mono _ _ _
      | exact LeO.none _
      | refine LeO.ite ?_ ?_
      | refine LeO.bind ?_ (fun _ => ?_)
    · intro y0 y1 y2 y3 y4 y5 y6 y7 y8 y9
      unfold spec_GoodComb.l1
      repeat' first
      | (with_reducible exact ih0 _ _ _ _)
      | (with_reducible exact ih1 _ _ _ _ _ _ _ _ _)
      | (with_reducible exact ih2 _ _ _ _ _ _ _ _ _)
      | (with_reducible exact ih3 _ _ _ _ _ _ _ _ _ _ _)
      | (with_reducible exact ih4 _ _ _ _ _ _ _ _ _ _)
      | (with_reducible exact spec_ldParts.mono _ _ _)
      | (with_reducible exact LeO.refl _)
      | (with_reducible exact LeO.none _)
      | (with_reducible refine LeO.ite ?_ ?_)
      | (with_reducible refine LeO.bind ?_ (fun _ => ?_))
      | exact ih0 _ _ _ _
      | exact ih1 _ _ _ _ _ _ _ _ _
      | exact ih2 _ _ _ _ _ _ _ _ _
      | exact ih3 _ _ _ _ _ _ _ _ _ _ _
      | exact ih4 _ _ _ _ _ _ _ _ _ _
      | exact spec_ldParts.mono _ _ _
      | exact LeO.none _
      | refine LeO.ite ?_ ?_
      | refine LeO.bind ?_ (fun _ => ?_)
theorem spec_GoodComb.mono : ∀ a0 k, LeO (spec_GoodComb.f k a0) (spec_GoodComb.f (k + 1) a0) := by
  intro a0 k
  obtain ⟨ih0, ih1, ih2, ih3, ih4⟩ := spec_GoodComb.mono_l k
  unfold spec_GoodComb.f
  repeat' first
      | (with_reducible exact ih0 _ _ _ _)
      | (with_reducible exact ih1 _ _ _ _ _ _ _ _ _)
      | (with_reducible exact ih2 _ _ _ _ _ _ _ _ _)
      | (with_reducible exact ih3 _ _ _ _ _ _ _ _ _ _ _)
      | (with_reducible exact ih4 _ _ _ _ _ _ _ _ _ _)
      | (with_reducible exact spec_ldParts.mono _ _ _)
      | (with_reducible exact LeO.refl _)
      | (with_reducible exact LeO.none _)
      | (with_reducible refine LeO.ite ?_ ?_)
      | (with_reducible refine LeO.bind ?_ (fun _ => ?_))
      | exact ih0 _ _ _ _
      | exact ih1 _ _ _ _ _ _ _ _ _
      | exact ih2 _ _ _ _ _ _ _ _ _
      | exact ih3 _ _ _ _ _ _ _ _ _ _ _
      | exact ih4 _ _ _ _ _ _ _ _ _ _
      | exact spec_ldParts.mono _ _ _
      | exact LeO.none _
      | refine LeO.ite ?_ ?_
      | refine LeO.bind ?_ (fun _ => ?_)
set_option maxHeartbeats 8000000 in
set_option maxRecDepth 100000 in
theorem spec_GoodComb.calls (k : Nat) (A0 : Option Addr) (c0 : Nat) (l0 : List (S52)) (r : Bool) (w : World) (hr0 : Kd.C k52 w A0 l0.length l0) (hc0 : l0.length ≤ c0) (h : spec_GoodComb.f k l0 = some r) :
    Calls Try.prog 12 #[.slice A0 l0.length c0] w fun e w' => e = .returned (.bool r) ∧ Below w.heap.size w w' := by
  have hu52 := Try.underlying52
  have HR0 := Aside0.mk hr0
  have HC0 := Aside0.mk hc0
  clear hr0 hc0
  have HB := Aside0.mk (Below.refl w.heap.size w)
  have H : ((spec_l1In.f (l0.length : Int) 1 200).bind fun t101 => (if t101 = true then (spec_GoodComb.l0 k l0 l0 (l0.length : Int) 0) else (some false))) = some r := h
  clear h
  replace H := Option.bind_eq_some_iff.mp H
  obtain ⟨t101, A20, H⟩ := H
  replace H : (if t101 = true then (spec_GoodComb.l0 k l0 l0 (l0.length : Int) 0) else (some false)) = some r := H
  have A2 := Aside0.mk A20
  clear A20
  by_cases c3 : t101 = true
  · subst c3
    have H1 : (spec_GoodComb.l0 k l0 l0 (l0.length : Int) 0) = some r := by rw [if_pos rfl] at H; exact H
    clear H
    have H := H1
    clear H1
    have H' := Aside0.mk H
    clear H
    go_enter Try.func12, Try.ntmps12
    go_wp2_with (first | ((with_reducible refine gate_callee (f := 39) rfl ?_); refine goesL_ (some 12) rfl rfl Try.func39 (by kernel_rfl) rfl #[.int .i64 (l0.length : Int), .int .i64 1, .int .i64 200] rfl (by (try simp only [List.map_toArray, List.map_cons, List.map_nil]); first | done | rfl | (simp only [List.length_drop, List.length_take]; rfl)) ?_; (with_reducible refine (spec_l1In.calls (l0.length : Int) 1 200 true _ A2.out).mono ?_); rintro e w' ⟨rfl, ⟨nd, rfl⟩⟩; refine ⟨_, rfl, ?_⟩))
    go_loopg [16] k (fun kq v16 w' => ∃ (x16_1 : Int), v16 = .int .i64 x16_1 ∧ Aside0 (spec_GoodComb.l0 kq l0 l0 (l0.length : Int) x16_1 = some r) ∧ Aside0 (kq ≤ k) ∧ Aside0 (Below w.heap.size w w'))
    case atStart => exact ⟨(0), (by first | rfl | (simp; done) | (simp [*]; done)), H', ⟨Nat.le_refl _⟩, ⟨by repeat (first | (with_reducible first | exact HB.out | apply below_alloc | apply pw_below_drewN | apply below_drew1) | exact HB.out)⟩⟩
    case round =>
      clear H'
      try clear c1
      try clear p2
      try clear c3
      obtain ⟨x16_1, rfl, HA, HK1, HB⟩ := hrel
      cases gk with
      | zero => exact absurd HA.out (by simp [spec_GoodComb.l0])
      | succ k1 =>
        have H := HA.out
        clear HA
        simp only [spec_GoodComb.l0] at H
        by_cases c4 : x16_1 < (l0.length : Int)
        · rw [if_pos c4] at H
          have c4b0 : decide (x16_1 < (l0.length : Int)) = true := decide_eq_true c4
          clear c4
          by_cases c5 : 0 ≤ x16_1
          · rw [if_pos c5] at H
            have c5b0 : decide (0 ≤ x16_1) = true := decide_eq_true c5
            clear c5
            by_cases c6 : x16_1 < (l0.length : Int)
            · rw [if_pos c6] at H
              have c6b0 : decide (x16_1 < (l0.length : Int)) = true := decide_eq_true c6
              clear c6
              have HC7 := Aside0.mk H
              clear H
              have p102 : 0 ≤ (x16_1 : Int) := of_decide_eq_true (by first | (with_reducible assumption) | assumption)
              have q102 : x16_1 < (l0.length : Int) := of_decide_eq_true (by first | (with_reducible assumption) | assumption)
              obtain ⟨ad102, e102, hx102_0, hx102_1, hx102_2⟩ := at_T52 HR0.out x16_1 p102 q102
              cases e102
              replace hx102_0 := (HB.out.cell (World.block_lt_of_cell? w _ hx102_0)).trans hx102_0
              replace hx102_1 := (HB.out.cell (World.block_lt_of_cell? w _ hx102_1)).trans hx102_1
              replace hx102_2 := (HB.out.cell (World.block_lt_of_cell? w _ hx102_2)).trans hx102_2
              replace p102 := eq_true p102
              replace q102 := eq_true q102
              go_upto_region 6 with (first | ((with_reducible refine gate_dst (N := 4) rfl ?_); (try (refine gate_guard (by rfl) ?_; dsimp only)); refine box_event ?hg (N := 4) ?hd (cs := #[.int .i64 0, .int .i64 0, .int .i64 0]) (t := 52) ?hr ?_; (case hd => rfl); (case hg => rfl); (case hr => first | (go_simp; done) | (go_simp; rfl)); intro gb103 hg w8 hbox hb; have n0_ := Aside0.mk (below_step (by repeat (first | (with_reducible first | exact HB.out | apply below_alloc | apply pw_below_drewN | apply below_drew1) | exact HB.out)) hb); have n1_ := Aside0.mk (hbox); have n2_ := Aside0.mk ((by rw [hg]; exact (below_size (by repeat (first | (with_reducible first | exact HB.out | apply below_alloc | apply pw_below_drewN | apply below_drew1) | exact HB.out))) : w.heap.size ≤ gb103)); have n3_ := Aside0.mk ((by rw [hg]; exact (below_size (by repeat (first | (with_reducible first | exact HB.out | apply below_alloc | apply pw_below_drewN | apply below_drew1) | exact HB.out))) : w.heap.size ≤ gb103)); clear HB; have HB := n0_; have BK103 := n1_; have GW103 := n2_; have GE103 := n3_; clear n0_ n1_ n2_ n3_; clear hb hbox hg; have hcz9_0 : w8.cell? ⟨gb103, 0, none⟩ = some (.int .i64 0) := (blk_cell BK103.out 0).trans rfl; have hcz9_1 : w8.cell? ⟨gb103, 1, none⟩ = some (.int .i64 0) := (blk_cell BK103.out 1).trans rfl; have hcz9_2 : w8.cell? ⟨gb103, 2, none⟩ = some (.int .i64 0) := (blk_cell BK103.out 2).trans rfl; have hfz9_0 := blk_frozen BK103.out 0; have hfz9_1 := blk_frozen BK103.out 1; have hfz9_2 := blk_frozen BK103.out 2))
              (try simp only [Act.put, List.setIfInBounds_toArray, List.set_cons_zero, List.set_cons_succ])
              go_cut [56] (fun v56 wc => ∃ (kq : Nat) (x56_6 : Bool), v56 = .bool x56_6 ∧ Aside0 (spec_GoodComb.j1 kq l0 x16_1 l0 (l0.length : Int) x16_1 x56_6 ((rd_T52 l0 x16_1).f0) ((rd_T52 l0 x16_1).f1) ((rd_T52 l0 x16_1).f2) = some r) ∧ Aside0 (kq ≤ k1) ∧ Aside0 (wc.heap[gb103]? = some (.cells #[.int .i64 ((rd_T52 l0 x16_1).f0), .int .i64 ((rd_T52 l0 x16_1).f1), .int .i64 ((rd_T52 l0 x16_1).f2)] 52 (0, 0))) ∧ Aside0 (Below w.heap.size w wc))
              case first =>
                have H := HC7.out
                clear HC7
                by_cases c10 : ((x16_1 == 0) != (((rd_T52 l0 x16_1).f2) == (-1))) = true
                · rw [if_pos c10] at H
                  have c10b0 : ((x16_1 == 0) != (((rd_T52 l0 x16_1).f2) == (-1))) = true := c10
                  (try (have c10b1 : decide ((x16_1 == 0) = (((rd_T52 l0 x16_1).f2) == (-1))) = false := by simpa using c10))
                  (try (have c10b2 : ((x16_1 == 0) == (((rd_T52 l0 x16_1).f2) == (-1))) = false := by simpa using c10))
                  (try (have c10b3 : ¬ ((x16_1 == 0) = (((rd_T52 l0 x16_1).f2) == (-1))) := by simpa using c10))
                  clear c10
                  (first | rw [c10b0] | (simp only [i64_w, i32_w]; rw [c10b0]) | skip)
                  have H' := Aside0.mk H
                  clear H
                  have hcz11_0 : w8.cell? ⟨gb103, 0, none⟩ = some (.int .i64 0) := (blk_cell BK103.out 0).trans rfl
                  have hcz11_1 : w8.cell? ⟨gb103, 1, none⟩ = some (.int .i64 0) := (blk_cell BK103.out 1).trans rfl
                  have hcz11_2 : w8.cell? ⟨gb103, 2, none⟩ = some (.int .i64 0) := (blk_cell BK103.out 2).trans rfl
                  have hfz11_0 := blk_frozen BK103.out 0
                  have hfz11_1 := blk_frozen BK103.out 1
                  have hfz11_2 := blk_frozen BK103.out 2
                  go_wp2
                  go_meet
                  case rel => exact ⟨_, (true), (by first | rfl | (simp; done) | (simp [*]; done)), H', ⟨by have := HK1.out; first | omega | exact Nat.le_refl _⟩, ⟨by (with_reducible repeat (first | refine blk_drewN ?_ _ | refine blk_drew ?_ | refine blk_alloc ?_ _)); refine blk_put (cs := #[.int .i64 ((rd_T52 l0 x16_1).f0), .int .i64 ((rd_T52 l0 x16_1).f1), .int .i64 0]) ?_ 2 _ rfl; (with_reducible repeat (first | refine blk_drewN ?_ _ | refine blk_drew ?_ | refine blk_alloc ?_ _)); refine blk_put (cs := #[.int .i64 ((rd_T52 l0 x16_1).f0), .int .i64 0, .int .i64 0]) ?_ 1 _ rfl; (with_reducible repeat (first | refine blk_drewN ?_ _ | refine blk_drew ?_ | refine blk_alloc ?_ _)); refine blk_put (cs := #[.int .i64 0, .int .i64 0, .int .i64 0]) ?_ 0 _ rfl; (with_reducible repeat (first | refine blk_drewN ?_ _ | refine blk_drew ?_ | refine blk_alloc ?_ _)); exact BK103.out⟩, ⟨by repeat (first | (with_reducible first | exact HB.out | apply below_alloc | apply pw_below_drewN | apply below_drew1 | refine below_set ?_ GE103.out) | exact HB.out)⟩⟩
                · rw [if_neg c10] at H
                  have c10b0 : ((x16_1 == 0) != (((rd_T52 l0 x16_1).f2) == (-1))) = false := by simpa using c10
                  (try (have c10b1 : decide ((x16_1 == 0) = (((rd_T52 l0 x16_1).f2) == (-1))) = true := by simpa using c10))
                  (try (have c10b2 : ((x16_1 == 0) == (((rd_T52 l0 x16_1).f2) == (-1))) = true := by simpa using c10))
                  clear c10
                  (first | rw [c10b0] | (simp only [i64_w, i32_w]; rw [c10b0]) | skip)
                  replace H := Option.bind_eq_some_iff.mp H
                  obtain ⟨t104, A120, H⟩ := H
                  replace H : (if t104 = true then ((spec_l1In.f ((rd_T52 l0 x16_1).f0) 1 5).bind fun t105 => (if t105 = true then ((spec_l1In.f ((rd_T52 l0 x16_1).f1) 0 999).bind fun t106 => (if t106 = true then (if ((rd_T52 l0 x16_1).f0) = 1 then (spec_GoodComb.j1 k1 l0 x16_1 l0 (l0.length : Int) x16_1 false ((rd_T52 l0 x16_1).f0) ((rd_T52 l0 x16_1).f1) ((rd_T52 l0 x16_1).f2)) else (spec_GoodComb.j1 k1 l0 x16_1 l0 (l0.length : Int) x16_1 (((rd_T52 l0 x16_1).f1) != 0) ((rd_T52 l0 x16_1).f0) ((rd_T52 l0 x16_1).f1) ((rd_T52 l0 x16_1).f2))) else (spec_GoodComb.j1 k1 l0 x16_1 l0 (l0.length : Int) x16_1 true ((rd_T52 l0 x16_1).f0) ((rd_T52 l0 x16_1).f1) ((rd_T52 l0 x16_1).f2)))) else (spec_GoodComb.j1 k1 l0 x16_1 l0 (l0.length : Int) x16_1 true ((rd_T52 l0 x16_1).f0) ((rd_T52 l0 x16_1).f1) ((rd_T52 l0 x16_1).f2)))) else (spec_GoodComb.j1 k1 l0 x16_1 l0 (l0.length : Int) x16_1 true ((rd_T52 l0 x16_1).f0) ((rd_T52 l0 x16_1).f1) ((rd_T52 l0 x16_1).f2))) = some r := H
                  have A12 := Aside0.mk A120
                  clear A120
                  by_cases c13 : t104 = true
                  · subst c13
                    have H1 : ((spec_l1In.f ((rd_T52 l0 x16_1).f0) 1 5).bind fun t105 => (if t105 = true then ((spec_l1In.f ((rd_T52 l0 x16_1).f1) 0 999).bind fun t106 => (if t106 = true then (if ((rd_T52 l0 x16_1).f0) = 1 then (spec_GoodComb.j1 k1 l0 x16_1 l0 (l0.length : Int) x16_1 false ((rd_T52 l0 x16_1).f0) ((rd_T52 l0 x16_1).f1) ((rd_T52 l0 x16_1).f2)) else (spec_GoodComb.j1 k1 l0 x16_1 l0 (l0.length : Int) x16_1 (((rd_T52 l0 x16_1).f1) != 0) ((rd_T52 l0 x16_1).f0) ((rd_T52 l0 x16_1).f1) ((rd_T52 l0 x16_1).f2))) else (spec_GoodComb.j1 k1 l0 x16_1 l0 (l0.length : Int) x16_1 true ((rd_T52 l0 x16_1).f0) ((rd_T52 l0 x16_1).f1) ((rd_T52 l0 x16_1).f2)))) else (spec_GoodComb.j1 k1 l0 x16_1 l0 (l0.length : Int) x16_1 true ((rd_T52 l0 x16_1).f0) ((rd_T52 l0 x16_1).f1) ((rd_T52 l0 x16_1).f2)))) = some r := by rw [if_pos rfl] at H; exact H
                    clear H
                    have H := H1
                    clear H1
                    replace H := Option.bind_eq_some_iff.mp H
                    obtain ⟨t105, A140, H⟩ := H
                    replace H : (if t105 = true then ((spec_l1In.f ((rd_T52 l0 x16_1).f1) 0 999).bind fun t106 => (if t106 = true then (if ((rd_T52 l0 x16_1).f0) = 1 then (spec_GoodComb.j1 k1 l0 x16_1 l0 (l0.length : Int) x16_1 false ((rd_T52 l0 x16_1).f0) ((rd_T52 l0 x16_1).f1) ((rd_T52 l0 x16_1).f2)) else (spec_GoodComb.j1 k1 l0 x16_1 l0 (l0.length : Int) x16_1 (((rd_T52 l0 x16_1).f1) != 0) ((rd_T52 l0 x16_1).f0) ((rd_T52 l0 x16_1).f1) ((rd_T52 l0 x16_1).f2))) else (spec_GoodComb.j1 k1 l0 x16_1 l0 (l0.length : Int) x16_1 true ((rd_T52 l0 x16_1).f0) ((rd_T52 l0 x16_1).f1) ((rd_T52 l0 x16_1).f2)))) else (spec_GoodComb.j1 k1 l0 x16_1 l0 (l0.length : Int) x16_1 true ((rd_T52 l0 x16_1).f0) ((rd_T52 l0 x16_1).f1) ((rd_T52 l0 x16_1).f2))) = some r := H
                    have A14 := Aside0.mk A140
                    clear A140
                    by_cases c15 : t105 = true
                    · subst c15
                      have H1 : ((spec_l1In.f ((rd_T52 l0 x16_1).f1) 0 999).bind fun t106 => (if t106 = true then (if ((rd_T52 l0 x16_1).f0) = 1 then (spec_GoodComb.j1 k1 l0 x16_1 l0 (l0.length : Int) x16_1 false ((rd_T52 l0 x16_1).f0) ((rd_T52 l0 x16_1).f1) ((rd_T52 l0 x16_1).f2)) else (spec_GoodComb.j1 k1 l0 x16_1 l0 (l0.length : Int) x16_1 (((rd_T52 l0 x16_1).f1) != 0) ((rd_T52 l0 x16_1).f0) ((rd_T52 l0 x16_1).f1) ((rd_T52 l0 x16_1).f2))) else (spec_GoodComb.j1 k1 l0 x16_1 l0 (l0.length : Int) x16_1 true ((rd_T52 l0 x16_1).f0) ((rd_T52 l0 x16_1).f1) ((rd_T52 l0 x16_1).f2)))) = some r := by rw [if_pos rfl] at H; exact H
                      clear H
                      have H := H1
                      clear H1
                      replace H := Option.bind_eq_some_iff.mp H
                      obtain ⟨t106, A160, H⟩ := H
                      replace H : (if t106 = true then (if ((rd_T52 l0 x16_1).f0) = 1 then (spec_GoodComb.j1 k1 l0 x16_1 l0 (l0.length : Int) x16_1 false ((rd_T52 l0 x16_1).f0) ((rd_T52 l0 x16_1).f1) ((rd_T52 l0 x16_1).f2)) else (spec_GoodComb.j1 k1 l0 x16_1 l0 (l0.length : Int) x16_1 (((rd_T52 l0 x16_1).f1) != 0) ((rd_T52 l0 x16_1).f0) ((rd_T52 l0 x16_1).f1) ((rd_T52 l0 x16_1).f2))) else (spec_GoodComb.j1 k1 l0 x16_1 l0 (l0.length : Int) x16_1 true ((rd_T52 l0 x16_1).f0) ((rd_T52 l0 x16_1).f1) ((rd_T52 l0 x16_1).f2))) = some r := H
                      have A16 := Aside0.mk A160
                      clear A160
                      by_cases c17 : t106 = true
                      · subst c17
                        have H1 : (if ((rd_T52 l0 x16_1).f0) = 1 then (spec_GoodComb.j1 k1 l0 x16_1 l0 (l0.length : Int) x16_1 false ((rd_T52 l0 x16_1).f0) ((rd_T52 l0 x16_1).f1) ((rd_T52 l0 x16_1).f2)) else (spec_GoodComb.j1 k1 l0 x16_1 l0 (l0.length : Int) x16_1 (((rd_T52 l0 x16_1).f1) != 0) ((rd_T52 l0 x16_1).f0) ((rd_T52 l0 x16_1).f1) ((rd_T52 l0 x16_1).f2))) = some r := by rw [if_pos rfl] at H; exact H
                        clear H
                        have H := H1
                        clear H1
                        by_cases c18 : ((rd_T52 l0 x16_1).f0) = 1
                        · rw [if_pos c18] at H
                          have c18b0 : (((rd_T52 l0 x16_1).f0) == 1) = true := beq_iff_eq.mpr c18
                          have c18b1 : (((rd_T52 l0 x16_1).f0) != 1) = false := bne_eq_false_iff_eq.mpr c18
                          clear c18
                          have H' := Aside0.mk H
                          clear H
                          have hcz19_0 : w8.cell? ⟨gb103, 0, none⟩ = some (.int .i64 0) := (blk_cell BK103.out 0).trans rfl
                          have hcz19_1 : w8.cell? ⟨gb103, 1, none⟩ = some (.int .i64 0) := (blk_cell BK103.out 1).trans rfl
                          have hcz19_2 : w8.cell? ⟨gb103, 2, none⟩ = some (.int .i64 0) := (blk_cell BK103.out 2).trans rfl
                          have hfz19_0 := blk_frozen BK103.out 0
                          have hfz19_1 := blk_frozen BK103.out 1
                          have hfz19_2 := blk_frozen BK103.out 2
                          go_wp2_with (first | (go_at_call 39; (with_reducible refine (spec_l1In.calls ((rd_T52 l0 x16_1).f2) (-1) (wrap64 (x16_1 - 1)) true _ A12.out).mono ?_); rintro e w' ⟨rfl, ⟨nd, rfl⟩⟩) | (go_at_call 39; (with_reducible refine (spec_l1In.calls ((rd_T52 l0 x16_1).f0) 1 5 true _ A14.out).mono ?_); rintro e w' ⟨rfl, ⟨nd, rfl⟩⟩) | (go_at_call 39; (with_reducible refine (spec_l1In.calls ((rd_T52 l0 x16_1).f1) 0 999 true _ A16.out).mono ?_); rintro e w' ⟨rfl, ⟨nd, rfl⟩⟩))
                          go_meet
                          case rel => exact ⟨_, (false), (by first | rfl | (simp; done) | (simp [*]; done)), H', ⟨by have := HK1.out; first | omega | exact Nat.le_refl _⟩, ⟨by (with_reducible repeat (first | refine blk_drewN ?_ _ | refine blk_drew ?_ | refine blk_alloc ?_ _)); refine blk_put (cs := #[.int .i64 ((rd_T52 l0 x16_1).f0), .int .i64 ((rd_T52 l0 x16_1).f1), .int .i64 0]) ?_ 2 _ rfl; (with_reducible repeat (first | refine blk_drewN ?_ _ | refine blk_drew ?_ | refine blk_alloc ?_ _)); refine blk_put (cs := #[.int .i64 ((rd_T52 l0 x16_1).f0), .int .i64 0, .int .i64 0]) ?_ 1 _ rfl; (with_reducible repeat (first | refine blk_drewN ?_ _ | refine blk_drew ?_ | refine blk_alloc ?_ _)); refine blk_put (cs := #[.int .i64 0, .int .i64 0, .int .i64 0]) ?_ 0 _ rfl; (with_reducible repeat (first | refine blk_drewN ?_ _ | refine blk_drew ?_ | refine blk_alloc ?_ _)); exact BK103.out⟩, ⟨by repeat (first | (with_reducible first | exact HB.out | apply below_alloc | apply pw_below_drewN | apply below_drew1 | refine below_set ?_ GE103.out) | exact HB.out)⟩⟩
                        · rw [if_neg c18] at H
                          have c18b0 : (((rd_T52 l0 x16_1).f0) == 1) = false := beq_eq_false_iff_ne.mpr c18
                          have c18b1 : (((rd_T52 l0 x16_1).f0) != 1) = true := bne_iff_ne.mpr c18
                          have H' := Aside0.mk H
                          clear H
                          have hcz20_0 : w8.cell? ⟨gb103, 0, none⟩ = some (.int .i64 0) := (blk_cell BK103.out 0).trans rfl
                          have hcz20_1 : w8.cell? ⟨gb103, 1, none⟩ = some (.int .i64 0) := (blk_cell BK103.out 1).trans rfl
                          have hcz20_2 : w8.cell? ⟨gb103, 2, none⟩ = some (.int .i64 0) := (blk_cell BK103.out 2).trans rfl
                          have hfz20_0 := blk_frozen BK103.out 0
                          have hfz20_1 := blk_frozen BK103.out 1
                          have hfz20_2 := blk_frozen BK103.out 2
                          go_wp2_with (first | (go_at_call 39; (with_reducible refine (spec_l1In.calls ((rd_T52 l0 x16_1).f2) (-1) (wrap64 (x16_1 - 1)) true _ A12.out).mono ?_); rintro e w' ⟨rfl, ⟨nd, rfl⟩⟩) | (go_at_call 39; (with_reducible refine (spec_l1In.calls ((rd_T52 l0 x16_1).f0) 1 5 true _ A14.out).mono ?_); rintro e w' ⟨rfl, ⟨nd, rfl⟩⟩) | (go_at_call 39; (with_reducible refine (spec_l1In.calls ((rd_T52 l0 x16_1).f1) 0 999 true _ A16.out).mono ?_); rintro e w' ⟨rfl, ⟨nd, rfl⟩⟩))
                          go_meet
                          case rel => exact ⟨_, ((((rd_T52 l0 x16_1).f1) != 0)), (by first | rfl | (simp; done) | (simp [*]; done)), H', ⟨by have := HK1.out; first | omega | exact Nat.le_refl _⟩, ⟨by (with_reducible repeat (first | refine blk_drewN ?_ _ | refine blk_drew ?_ | refine blk_alloc ?_ _)); refine blk_put (cs := #[.int .i64 ((rd_T52 l0 x16_1).f0), .int .i64 ((rd_T52 l0 x16_1).f1), .int .i64 0]) ?_ 2 _ rfl; (with_reducible repeat (first | refine blk_drewN ?_ _ | refine blk_drew ?_ | refine blk_alloc ?_ _)); refine blk_put (cs := #[.int .i64 ((rd_T52 l0 x16_1).f0), .int .i64 0, .int .i64 0]) ?_ 1 _ rfl; (with_reducible repeat (first | refine blk_drewN ?_ _ | refine blk_drew ?_ | refine blk_alloc ?_ _)); refine blk_put (cs := #[.int .i64 0, .int .i64 0, .int .i64 0]) ?_ 0 _ rfl; (with_reducible repeat (first | refine blk_drewN ?_ _ | refine blk_drew ?_ | refine blk_alloc ?_ _)); exact BK103.out⟩, ⟨by repeat (first | (with_reducible first | exact HB.out | apply below_alloc | apply pw_below_drewN | apply below_drew1 | refine below_set ?_ GE103.out) | exact HB.out)⟩⟩
                      · replace c17 := Bool.eq_false_iff.mpr c17
                        subst c17
                        have H1 : (spec_GoodComb.j1 k1 l0 x16_1 l0 (l0.length : Int) x16_1 true ((rd_T52 l0 x16_1).f0) ((rd_T52 l0 x16_1).f1) ((rd_T52 l0 x16_1).f2)) = some r := by rw [if_neg (show ¬ (false = true) by decide)] at H; exact H
                        clear H
                        have H := H1
                        clear H1
                        have H' := Aside0.mk H
                        clear H
                        have hcz21_0 : w8.cell? ⟨gb103, 0, none⟩ = some (.int .i64 0) := (blk_cell BK103.out 0).trans rfl
                        have hcz21_1 : w8.cell? ⟨gb103, 1, none⟩ = some (.int .i64 0) := (blk_cell BK103.out 1).trans rfl
                        have hcz21_2 : w8.cell? ⟨gb103, 2, none⟩ = some (.int .i64 0) := (blk_cell BK103.out 2).trans rfl
                        have hfz21_0 := blk_frozen BK103.out 0
                        have hfz21_1 := blk_frozen BK103.out 1
                        have hfz21_2 := blk_frozen BK103.out 2
                        go_wp2_with (first | (go_at_call 39; (with_reducible refine (spec_l1In.calls ((rd_T52 l0 x16_1).f2) (-1) (wrap64 (x16_1 - 1)) true _ A12.out).mono ?_); rintro e w' ⟨rfl, ⟨nd, rfl⟩⟩) | (go_at_call 39; (with_reducible refine (spec_l1In.calls ((rd_T52 l0 x16_1).f0) 1 5 true _ A14.out).mono ?_); rintro e w' ⟨rfl, ⟨nd, rfl⟩⟩) | (go_at_call 39; (with_reducible refine (spec_l1In.calls ((rd_T52 l0 x16_1).f1) 0 999 false _ A16.out).mono ?_); rintro e w' ⟨rfl, ⟨nd, rfl⟩⟩))
                        go_meet
                        case rel => exact ⟨_, (true), (by first | rfl | (simp; done) | (simp [*]; done)), H', ⟨by have := HK1.out; first | omega | exact Nat.le_refl _⟩, ⟨by (with_reducible repeat (first | refine blk_drewN ?_ _ | refine blk_drew ?_ | refine blk_alloc ?_ _)); refine blk_put (cs := #[.int .i64 ((rd_T52 l0 x16_1).f0), .int .i64 ((rd_T52 l0 x16_1).f1), .int .i64 0]) ?_ 2 _ rfl; (with_reducible repeat (first | refine blk_drewN ?_ _ | refine blk_drew ?_ | refine blk_alloc ?_ _)); refine blk_put (cs := #[.int .i64 ((rd_T52 l0 x16_1).f0), .int .i64 0, .int .i64 0]) ?_ 1 _ rfl; (with_reducible repeat (first | refine blk_drewN ?_ _ | refine blk_drew ?_ | refine blk_alloc ?_ _)); refine blk_put (cs := #[.int .i64 0, .int .i64 0, .int .i64 0]) ?_ 0 _ rfl; (with_reducible repeat (first | refine blk_drewN ?_ _ | refine blk_drew ?_ | refine blk_alloc ?_ _)); exact BK103.out⟩, ⟨by repeat (first | (with_reducible first | exact HB.out | apply below_alloc | apply pw_below_drewN | apply below_drew1 | refine below_set ?_ GE103.out) | exact HB.out)⟩⟩
                    · replace c15 := Bool.eq_false_iff.mpr c15
                      subst c15
                      have H1 : (spec_GoodComb.j1 k1 l0 x16_1 l0 (l0.length : Int) x16_1 true ((rd_T52 l0 x16_1).f0) ((rd_T52 l0 x16_1).f1) ((rd_T52 l0 x16_1).f2)) = some r := by rw [if_neg (show ¬ (false = true) by decide)] at H; exact H
                      clear H
                      have H := H1
                      clear H1
                      have H' := Aside0.mk H
                      clear H
                      have hcz22_0 : w8.cell? ⟨gb103, 0, none⟩ = some (.int .i64 0) := (blk_cell BK103.out 0).trans rfl
                      have hcz22_1 : w8.cell? ⟨gb103, 1, none⟩ = some (.int .i64 0) := (blk_cell BK103.out 1).trans rfl
                      have hcz22_2 : w8.cell? ⟨gb103, 2, none⟩ = some (.int .i64 0) := (blk_cell BK103.out 2).trans rfl
                      have hfz22_0 := blk_frozen BK103.out 0
                      have hfz22_1 := blk_frozen BK103.out 1
                      have hfz22_2 := blk_frozen BK103.out 2
                      go_wp2_with (first | (go_at_call 39; (with_reducible refine (spec_l1In.calls ((rd_T52 l0 x16_1).f2) (-1) (wrap64 (x16_1 - 1)) true _ A12.out).mono ?_); rintro e w' ⟨rfl, ⟨nd, rfl⟩⟩) | (go_at_call 39; (with_reducible refine (spec_l1In.calls ((rd_T52 l0 x16_1).f0) 1 5 false _ A14.out).mono ?_); rintro e w' ⟨rfl, ⟨nd, rfl⟩⟩))
                      go_meet
                      case rel => exact ⟨_, (true), (by first | rfl | (simp; done) | (simp [*]; done)), H', ⟨by have := HK1.out; first | omega | exact Nat.le_refl _⟩, ⟨by (with_reducible repeat (first | refine blk_drewN ?_ _ | refine blk_drew ?_ | refine blk_alloc ?_ _)); refine blk_put (cs := #[.int .i64 ((rd_T52 l0 x16_1).f0), .int .i64 ((rd_T52 l0 x16_1).f1), .int .i64 0]) ?_ 2 _ rfl; (with_reducible repeat (first | refine blk_drewN ?_ _ | refine blk_drew ?_ | refine blk_alloc ?_ _)); refine blk_put (cs := #[.int .i64 ((rd_T52 l0 x16_1).f0), .int .i64 0, .int .i64 0]) ?_ 1 _ rfl; (with_reducible repeat (first | refine blk_drewN ?_ _ | refine blk_drew ?_ | refine blk_alloc ?_ _)); refine blk_put (cs := #[.int .i64 0, .int .i64 0, .int .i64 0]) ?_ 0 _ rfl; (with_reducible repeat (first | refine blk_drewN ?_ _ | refine blk_drew ?_ | refine blk_alloc ?_ _)); exact BK103.out⟩, ⟨by repeat (first | (with_reducible first | exact HB.out | apply below_alloc | apply pw_below_drewN | apply below_drew1 | refine below_set ?_ GE103.out) | exact HB.out)⟩⟩
                  · replace c13 := Bool.eq_false_iff.mpr c13
                    subst c13
                    have H1 : (spec_GoodComb.j1 k1 l0 x16_1 l0 (l0.length : Int) x16_1 true ((rd_T52 l0 x16_1).f0) ((rd_T52 l0 x16_1).f1) ((rd_T52 l0 x16_1).f2)) = some r := by rw [if_neg (show ¬ (false = true) by decide)] at H; exact H
                    clear H
                    have H := H1
                    clear H1
                    have H' := Aside0.mk H
                    clear H
                    have hcz23_0 : w8.cell? ⟨gb103, 0, none⟩ = some (.int .i64 0) := (blk_cell BK103.out 0).trans rfl
                    have hcz23_1 : w8.cell? ⟨gb103, 1, none⟩ = some (.int .i64 0) := (blk_cell BK103.out 1).trans rfl
                    have hcz23_2 : w8.cell? ⟨gb103, 2, none⟩ = some (.int .i64 0) := (blk_cell BK103.out 2).trans rfl
                    have hfz23_0 := blk_frozen BK103.out 0
                    have hfz23_1 := blk_frozen BK103.out 1
                    have hfz23_2 := blk_frozen BK103.out 2
                    go_wp2_with (first | (go_at_call 39; (with_reducible refine (spec_l1In.calls ((rd_T52 l0 x16_1).f2) (-1) (wrap64 (x16_1 - 1)) false _ A12.out).mono ?_); rintro e w' ⟨rfl, ⟨nd, rfl⟩⟩))
                    go_meet
                    case rel => exact ⟨_, (true), (by first | rfl | (simp; done) | (simp [*]; done)), H', ⟨by have := HK1.out; first | omega | exact Nat.le_refl _⟩, ⟨by (with_reducible repeat (first | refine blk_drewN ?_ _ | refine blk_drew ?_ | refine blk_alloc ?_ _)); refine blk_put (cs := #[.int .i64 ((rd_T52 l0 x16_1).f0), .int .i64 ((rd_T52 l0 x16_1).f1), .int .i64 0]) ?_ 2 _ rfl; (with_reducible repeat (first | refine blk_drewN ?_ _ | refine blk_drew ?_ | refine blk_alloc ?_ _)); refine blk_put (cs := #[.int .i64 ((rd_T52 l0 x16_1).f0), .int .i64 0, .int .i64 0]) ?_ 1 _ rfl; (with_reducible repeat (first | refine blk_drewN ?_ _ | refine blk_drew ?_ | refine blk_alloc ?_ _)); refine blk_put (cs := #[.int .i64 0, .int .i64 0, .int .i64 0]) ?_ 0 _ rfl; (with_reducible repeat (first | refine blk_drewN ?_ _ | refine blk_drew ?_ | refine blk_alloc ?_ _)); exact BK103.out⟩, ⟨by repeat (first | (with_reducible first | exact HB.out | apply below_alloc | apply pw_below_drewN | apply below_drew1 | refine below_set ?_ GE103.out) | exact HB.out)⟩⟩
              case rest =>
                clear HC7
                try clear c1
                try clear p1
                try clear q1
                try clear hx1
                try clear p2
                try clear c3
                try clear c4
                try clear c4b0
                try clear c5
                try clear c5b0
                try clear c6
                try clear c6b0
                try clear p6
                try clear c10
                try clear c10b0
                try clear c10b1
                try clear c10b2
                try clear p10
                try clear q10
                try clear hx10
                try clear c12
                try clear c13
                try clear c15
                try clear c17
                try clear c18
                try clear c18b0
                try clear c18b1
                try clear hcz11_0
                try clear hcz11_1
                try clear hcz11_2
                try clear hcz19_0
                try clear hcz19_1
                try clear hcz19_2
                try clear hcz20_0
                try clear hcz20_1
                try clear hcz20_2
                try clear hcz21_0
                try clear hcz21_1
                try clear hcz21_2
                try clear hcz22_0
                try clear hcz22_1
                try clear hcz22_2
                try clear hcz23_0
                try clear hcz23_1
                try clear hcz23_2
                try clear hcz9_0
                try clear hcz9_1
                try clear hcz9_2
                try clear hfz11_0
                try clear hfz11_1
                try clear hfz11_2
                try clear hfz19_0
                try clear hfz19_1
                try clear hfz19_2
                try clear hfz20_0
                try clear hfz20_1
                try clear hfz20_2
                try clear hfz21_0
                try clear hfz21_1
                try clear hfz21_2
                try clear hfz22_0
                try clear hfz22_1
                try clear hfz22_2
                try clear hfz23_0
                try clear hfz23_1
                try clear hfz23_2
                try clear hfz9_0
                try clear hfz9_1
                try clear hfz9_2
                try clear hx102_0
                try clear hx102_1
                try clear hx102_2
                try clear p102
                try clear p2
                try clear q102
                obtain ⟨kq, x56_6, rfl, HA, HJ6, BK103, HB⟩ := hcut
                cases kq with
                | zero => exact absurd HA.out (by simp [spec_GoodComb.j1])
                | succ kj6 =>
                  have H := HA.out
                  clear HA
                  simp only [spec_GoodComb.j1] at H
                  by_cases c24 : x56_6 = true
                  · subst c24
                    have H1 : (some false) = some r := by rw [if_pos rfl] at H; exact H
                    clear H
                    have H := H1
                    clear H1
                    obtain rfl := Option.some.inj H
                    go_wp2
                    go_ret
                    exact ⟨by first | rfl | (simp [errW_none, errW_some] <;> rfl) | (simp [*, errW_none, errW_some] <;> rfl), by repeat (first | (with_reducible first | exact HB.out | apply below_alloc | apply pw_below_drewN | apply below_drew1 | refine below_set ?_ GE103.out) | exact HB.out)⟩
                  · replace c24 := Bool.eq_false_iff.mpr c24
                    subst c24
                    have H1 : (spec_GoodComb.l1 kj6 l0 x16_1 (x16_1 == 0) (wrap64 (x16_1 - 1)) l0 (l0.length : Int) x16_1 ((rd_T52 l0 x16_1).f0) ((rd_T52 l0 x16_1).f1) ((rd_T52 l0 x16_1).f2)) = some r := by rw [if_neg (show ¬ (false = true) by decide)] at H; exact H
                    clear H
                    have H := H1
                    clear H1
                    have HC25 := Aside0.mk H
                    clear H
                    go_upto_block 2 with (fail)
                    go_cut [5] (fun v5 wc => ∃ (kq : Nat) (x5_24 : Bool), v5 = .bool x5_24 ∧ Aside0 (spec_GoodComb.j3 kq l0 x16_1 x5_24 l0 (l0.length : Int) x16_1 ((rd_T52 l0 x16_1).f0) ((rd_T52 l0 x16_1).f1) ((rd_T52 l0 x16_1).f2) = some r) ∧ Aside0 (kq ≤ kj6) ∧ Aside0 (wc.heap[gb103]? = some (.cells #[.int .i64 ((rd_T52 l0 x16_1).f0), .int .i64 ((rd_T52 l0 x16_1).f1), .int .i64 ((rd_T52 l0 x16_1).f2)] 52 (0, 0))) ∧ Aside0 (Below w.heap.size w wc))
                    case first =>
                      have H := HC25.out
                      clear HC25
                      have H' := Aside0.mk H
                      clear H
                      go_wp2
                      go_loopg [5, 6] kj6 (fun kq v5 v6 w' => ∃ (x5_3 : Bool) (x6_3 : Int), v5 = .bool x5_3 ∧ v6 = .int .i64 x6_3 ∧ Aside0 (spec_GoodComb.l1 kq l0 x16_1 x5_3 x6_3 l0 (l0.length : Int) x16_1 ((rd_T52 l0 x16_1).f0) ((rd_T52 l0 x16_1).f1) ((rd_T52 l0 x16_1).f2) = some r) ∧ Aside0 (kq ≤ kj6) ∧ Aside0 (w'.heap[gb103]? = some (.cells #[.int .i64 ((rd_T52 l0 x16_1).f0), .int .i64 ((rd_T52 l0 x16_1).f1), .int .i64 ((rd_T52 l0 x16_1).f2)] 52 (0, 0))) ∧ Aside0 (Below w.heap.size w w'))
                      case atStart => exact ⟨((x16_1 == 0)), (wrap64 (x16_1 - 1)), (by first | rfl | (simp; done) | (simp [*]; done)), (by first | rfl | (simp; done) | (simp [*]; done)), H', ⟨Nat.le_refl _⟩, ⟨by (with_reducible repeat (first | refine blk_drewN ?_ _ | refine blk_drew ?_ | refine blk_alloc ?_ _)); exact BK103.out⟩, ⟨by repeat (first | (with_reducible first | exact HB.out | apply below_alloc | apply pw_below_drewN | apply below_drew1 | refine below_set ?_ GE103.out) | exact HB.out)⟩⟩
                      case round =>
                        clear H'
                        try clear c1
                        try clear p1
                        try clear q1
                        try clear hx1
                        try clear c2
                        try clear p2
                        try clear c3
                        try clear c4
                        try clear c4b0
                        try clear c5
                        try clear c5b0
                        try clear c6
                        try clear c6b0
                        try clear p6
                        try clear c10
                        try clear c10b0
                        try clear c10b1
                        try clear c10b2
                        try clear p10
                        try clear q10
                        try clear hx10
                        try clear c12
                        try clear c13
                        try clear c15
                        try clear c17
                        try clear c18
                        try clear c18b0
                        try clear c18b1
                        try clear c24
                        try clear hcz11_0
                        try clear hcz11_1
                        try clear hcz11_2
                        try clear hcz19_0
                        try clear hcz19_1
                        try clear hcz19_2
                        try clear hcz20_0
                        try clear hcz20_1
                        try clear hcz20_2
                        try clear hcz21_0
                        try clear hcz21_1
                        try clear hcz21_2
                        try clear hcz22_0
                        try clear hcz22_1
                        try clear hcz22_2
                        try clear hcz23_0
                        try clear hcz23_1
                        try clear hcz23_2
                        try clear hcz9_0
                        try clear hcz9_1
                        try clear hcz9_2
                        try clear hfz11_0
                        try clear hfz11_1
                        try clear hfz11_2
                        try clear hfz19_0
                        try clear hfz19_1
                        try clear hfz19_2
                        try clear hfz20_0
                        try clear hfz20_1
                        try clear hfz20_2
                        try clear hfz21_0
                        try clear hfz21_1
                        try clear hfz21_2
                        try clear hfz22_0
                        try clear hfz22_1
                        try clear hfz22_2
                        try clear hfz23_0
                        try clear hfz23_1
                        try clear hfz23_2
                        try clear hfz9_0
                        try clear hfz9_1
                        try clear hfz9_2
                        try clear hx102_0
                        try clear hx102_1
                        try clear hx102_2
                        try clear p1
                        try clear p10
                        try clear p102
                        try clear p2
                        try clear p6
                        try clear q1
                        try clear q10
                        try clear q102
                        obtain ⟨x5_3, x6_3, rfl, rfl, HA, HK3, BK103, HB⟩ := hrel
                        cases gk with
                        | zero => exact absurd HA.out (by simp [spec_GoodComb.l1])
                        | succ k3 =>
                          have H := HA.out
                          clear HA
                          simp only [spec_GoodComb.l1] at H
                          by_cases c26 : x6_3 ≥ 0
                          · rw [if_pos c26] at H
                            have c26b0 : decide (0 ≤ x6_3) = true := decide_eq_true c26
                            clear c26
                            (first | rw [c26b0] | (simp only [i64_w, i32_w]; rw [c26b0]) | skip)
                            by_cases c27 : x5_3 = true
                            · subst c27
                              have H1 : (spec_GoodComb.j3 k3 l0 x16_1 true l0 (l0.length : Int) x16_1 ((rd_T52 l0 x16_1).f0) ((rd_T52 l0 x16_1).f1) ((rd_T52 l0 x16_1).f2)) = some r := by rw [if_pos rfl] at H; exact H
                              clear H
                              have H := H1
                              clear H1
                              have H' := Aside0.mk H
                              clear H
                              go_wp2
                              go_meet
                              case rel => exact ⟨_, (true), (by first | rfl | (simp; done) | (simp [*]; done)), H', ⟨by have := HK1.out; have := HJ6.out; have := HK3.out; first | omega | exact Nat.le_refl _⟩, ⟨by (with_reducible repeat (first | refine blk_drewN ?_ _ | refine blk_drew ?_ | refine blk_alloc ?_ _)); exact BK103.out⟩, ⟨by repeat (first | (with_reducible first | exact HB.out | apply below_alloc | apply pw_below_drewN | apply below_drew1 | refine below_set ?_ GE103.out) | exact HB.out)⟩⟩
                            · replace c27 := Bool.eq_false_iff.mpr c27
                              subst c27
                              have H1 : (if 0 ≤ x6_3 then (if x6_3 < (l0.length : Int) then (spec_GoodComb.l1 k3 l0 x16_1 (x6_3 == ((rd_T52 l0 x16_1).f2)) ((rd_T52 l0 x6_3).f2) l0 (l0.length : Int) x16_1 ((rd_T52 l0 x16_1).f0) ((rd_T52 l0 x16_1).f1) ((rd_T52 l0 x16_1).f2)) else (none)) else (none)) = some r := by rw [if_neg (show ¬ (false = true) by decide)] at H; exact H
                              clear H
                              have H := H1
                              clear H1
                              by_cases c28 : 0 ≤ x6_3
                              · rw [if_pos c28] at H
                                have c28b0 : decide (0 ≤ x6_3) = true := decide_eq_true c28
                                clear c28
                                by_cases c29 : x6_3 < (l0.length : Int)
                                · rw [if_pos c29] at H
                                  have c29b0 : decide (x6_3 < (l0.length : Int)) = true := decide_eq_true c29
                                  clear c29
                                  have H' := Aside0.mk H
                                  clear H
                                  have hcz30_0 : wr.cell? ⟨gb103, 0, none⟩ = some (.int .i64 ((rd_T52 l0 x16_1).f0)) := (blk_cell BK103.out 0).trans rfl
                                  have hcz30_1 : wr.cell? ⟨gb103, 1, none⟩ = some (.int .i64 ((rd_T52 l0 x16_1).f1)) := (blk_cell BK103.out 1).trans rfl
                                  have hcz30_2 : wr.cell? ⟨gb103, 2, none⟩ = some (.int .i64 ((rd_T52 l0 x16_1).f2)) := (blk_cell BK103.out 2).trans rfl
                                  have hfz30_0 := blk_frozen BK103.out 0
                                  have hfz30_1 := blk_frozen BK103.out 1
                                  have hfz30_2 := blk_frozen BK103.out 2
                                  have p107 : 0 ≤ (x6_3 : Int) := of_decide_eq_true (by first | (with_reducible assumption) | assumption)
                                  have q107 : x6_3 < (l0.length : Int) := of_decide_eq_true (by first | (with_reducible assumption) | assumption)
                                  obtain ⟨ad107, e107, hx107_0, hx107_1, hx107_2⟩ := at_T52 HR0.out x6_3 p107 q107
                                  obtain rfl : ad102 = ad107 := (by injection e107)
                                  replace hx107_0 := (HB.out.cell (World.block_lt_of_cell? w _ hx107_0)).trans hx107_0
                                  replace hx107_1 := (HB.out.cell (World.block_lt_of_cell? w _ hx107_1)).trans hx107_1
                                  replace hx107_2 := (HB.out.cell (World.block_lt_of_cell? w _ hx107_2)).trans hx107_2
                                  replace p107 := eq_true p107
                                  replace q107 := eq_true q107
                                  go_wp2
                                  go_roundg k3
                                  case measure => have := HK1.out; have := HJ6.out; have := HK3.out; omega
                                  case rel => exact ⟨((x6_3 == ((rd_T52 l0 x16_1).f2))), ((rd_T52 l0 x6_3).f2), (by first | rfl | (simp; done) | (simp [*]; done)), (by first | rfl | (simp; done) | (simp [*]; done)), H', ⟨by have := HK1.out; have := HJ6.out; have := HK3.out; omega⟩, ⟨by (with_reducible repeat (first | refine blk_drewN ?_ _ | refine blk_drew ?_ | refine blk_alloc ?_ _)); exact BK103.out⟩, ⟨by repeat (first | (with_reducible first | exact HB.out | apply below_alloc | apply pw_below_drewN | apply below_drew1 | refine below_set ?_ GE103.out) | exact HB.out)⟩⟩
                                · rw [if_neg c29] at H
                                  exact absurd H (by simp)
                              · rw [if_neg c28] at H
                                exact absurd H (by simp)
                          · rw [if_neg c26] at H
                            have c26b0 : decide (0 ≤ x6_3) = false := decide_eq_false c26
                            clear c26
                            (first | rw [c26b0] | (simp only [i64_w, i32_w]; rw [c26b0]) | skip)
                            have H' := Aside0.mk H
                            clear H
                            go_wp2
                            go_meet
                            case rel => exact ⟨_, (x5_3), (by first | rfl | (simp; done) | (simp [*]; done)), H', ⟨by have := HK1.out; have := HJ6.out; have := HK3.out; first | omega | exact Nat.le_refl _⟩, ⟨by (with_reducible repeat (first | refine blk_drewN ?_ _ | refine blk_drew ?_ | refine blk_alloc ?_ _)); exact BK103.out⟩, ⟨by repeat (first | (with_reducible first | exact HB.out | apply below_alloc | apply pw_below_drewN | apply below_drew1 | refine below_set ?_ GE103.out) | exact HB.out)⟩⟩
                    case rest =>
                      clear HC25
                      try clear c1
                      try clear p1
                      try clear q1
                      try clear hx1
                      try clear c2
                      try clear p2
                      try clear c3
                      try clear c4
                      try clear c4b0
                      try clear c5
                      try clear c5b0
                      try clear c6
                      try clear c6b0
                      try clear p6
                      try clear c10
                      try clear c10b0
                      try clear c10b1
                      try clear c10b2
                      try clear p10
                      try clear q10
                      try clear hx10
                      try clear c12
                      try clear c13
                      try clear c15
                      try clear c17
                      try clear c18
                      try clear c18b0
                      try clear c18b1
                      try clear c24
                      try clear c26
                      try clear c26b0
                      try clear c27
                      try clear c28
                      try clear c28b0
                      try clear c29
                      try clear c29b0
                      try clear hcz11_0
                      try clear hcz11_1
                      try clear hcz11_2
                      try clear hcz19_0
                      try clear hcz19_1
                      try clear hcz19_2
                      try clear hcz20_0
                      try clear hcz20_1
                      try clear hcz20_2
                      try clear hcz21_0
                      try clear hcz21_1
                      try clear hcz21_2
                      try clear hcz22_0
                      try clear hcz22_1
                      try clear hcz22_2
                      try clear hcz23_0
                      try clear hcz23_1
                      try clear hcz23_2
                      try clear hcz30_0
                      try clear hcz30_1
                      try clear hcz30_2
                      try clear hcz9_0
                      try clear hcz9_1
                      try clear hcz9_2
                      try clear hfz11_0
                      try clear hfz11_1
                      try clear hfz11_2
                      try clear hfz19_0
                      try clear hfz19_1
                      try clear hfz19_2
                      try clear hfz20_0
                      try clear hfz20_1
                      try clear hfz20_2
                      try clear hfz21_0
                      try clear hfz21_1
                      try clear hfz21_2
                      try clear hfz22_0
                      try clear hfz22_1
                      try clear hfz22_2
                      try clear hfz23_0
                      try clear hfz23_1
                      try clear hfz23_2
                      try clear hfz30_0
                      try clear hfz30_1
                      try clear hfz30_2
                      try clear hfz9_0
                      try clear hfz9_1
                      try clear hfz9_2
                      try clear hx102_0
                      try clear hx102_1
                      try clear hx102_2
                      try clear hx107_0
                      try clear hx107_1
                      try clear hx107_2
                      try clear p1
                      try clear p10
                      try clear p102
                      try clear p107
                      try clear p2
                      try clear p6
                      try clear q1
                      try clear q10
                      try clear q102
                      try clear q107
                      obtain ⟨kq, x5_24, rfl, HA, HJ24, BK103, HB⟩ := hcut
                      cases kq with
                      | zero => exact absurd HA.out (by simp [spec_GoodComb.j3])
                      | succ kj24 =>
                        have H := HA.out
                        clear HA
                        simp only [spec_GoodComb.j3] at H
                        have H' := Aside0.mk H
                        clear H
                        go_wp2
                        go_loopg [7, 8] kj24 (fun kq v7 v8 w' => ∃ (x7_4 : Int) (x8_4 : Int), v7 = .int .i64 x7_4 ∧ v8 = .int .i64 x8_4 ∧ Aside0 (spec_GoodComb.l2 kq l0 x16_1 x5_24 x7_4 x8_4 l0 (l0.length : Int) x16_1 ((rd_T52 l0 x16_1).f0) ((rd_T52 l0 x16_1).f1) ((rd_T52 l0 x16_1).f2) = some r) ∧ Aside0 (kq ≤ kj24) ∧ Aside0 (w'.heap[gb103]? = some (.cells #[.int .i64 ((rd_T52 l0 x16_1).f0), .int .i64 ((rd_T52 l0 x16_1).f1), .int .i64 ((rd_T52 l0 x16_1).f2)] 52 (0, 0))) ∧ Aside0 (Below w.heap.size w w'))
                        case atStart => exact ⟨(0), (x16_1), (by first | rfl | (simp; done) | (simp [*]; done)), (by first | rfl | (simp; done) | (simp [*]; done)), H', ⟨Nat.le_refl _⟩, ⟨by (with_reducible repeat (first | refine blk_drewN ?_ _ | refine blk_drew ?_ | refine blk_alloc ?_ _)); exact BK103.out⟩, ⟨by repeat (first | (with_reducible first | exact HB.out | apply below_alloc | apply pw_below_drewN | apply below_drew1 | refine below_set ?_ GE103.out) | exact HB.out)⟩⟩
                        case round =>
                          clear H'
                          try clear c1
                          try clear p1
                          try clear q1
                          try clear hx1
                          try clear c2
                          try clear p2
                          try clear c3
                          try clear c4
                          try clear c4b0
                          try clear c5
                          try clear c5b0
                          try clear c6
                          try clear c6b0
                          try clear p6
                          try clear c10
                          try clear c10b0
                          try clear c10b1
                          try clear c10b2
                          try clear p10
                          try clear q10
                          try clear hx10
                          try clear c12
                          try clear c13
                          try clear c15
                          try clear c17
                          try clear c18
                          try clear c18b0
                          try clear c18b1
                          try clear c24
                          try clear c26
                          try clear c26b0
                          try clear c27
                          try clear c28
                          try clear c28b0
                          try clear c29
                          try clear c29b0
                          try clear hcz11_0
                          try clear hcz11_1
                          try clear hcz11_2
                          try clear hcz19_0
                          try clear hcz19_1
                          try clear hcz19_2
                          try clear hcz20_0
                          try clear hcz20_1
                          try clear hcz20_2
                          try clear hcz21_0
                          try clear hcz21_1
                          try clear hcz21_2
                          try clear hcz22_0
                          try clear hcz22_1
                          try clear hcz22_2
                          try clear hcz23_0
                          try clear hcz23_1
                          try clear hcz23_2
                          try clear hcz30_0
                          try clear hcz30_1
                          try clear hcz30_2
                          try clear hcz9_0
                          try clear hcz9_1
                          try clear hcz9_2
                          try clear hfz11_0
                          try clear hfz11_1
                          try clear hfz11_2
                          try clear hfz19_0
                          try clear hfz19_1
                          try clear hfz19_2
                          try clear hfz20_0
                          try clear hfz20_1
                          try clear hfz20_2
                          try clear hfz21_0
                          try clear hfz21_1
                          try clear hfz21_2
                          try clear hfz22_0
                          try clear hfz22_1
                          try clear hfz22_2
                          try clear hfz23_0
                          try clear hfz23_1
                          try clear hfz23_2
                          try clear hfz30_0
                          try clear hfz30_1
                          try clear hfz30_2
                          try clear hfz9_0
                          try clear hfz9_1
                          try clear hfz9_2
                          try clear hx102_0
                          try clear hx102_1
                          try clear hx102_2
                          try clear hx107_0
                          try clear hx107_1
                          try clear hx107_2
                          try clear p1
                          try clear p10
                          try clear p102
                          try clear p107
                          try clear p2
                          try clear p6
                          try clear q1
                          try clear q10
                          try clear q102
                          try clear q107
                          obtain ⟨x7_4, x8_4, rfl, rfl, HA, HK4, BK103, HB⟩ := hrel
                          cases gk with
                          | zero => exact absurd HA.out (by simp [spec_GoodComb.l2])
                          | succ k4 =>
                            have H := HA.out
                            clear HA
                            simp only [spec_GoodComb.l2] at H
                            by_cases c31 : x8_4 ≥ 0
                            · rw [if_pos c31] at H
                              have c31b0 : decide (0 ≤ x8_4) = true := decide_eq_true c31
                              clear c31
                              by_cases c32 : 0 ≤ x8_4
                              · rw [if_pos c32] at H
                                have c32b0 : decide (0 ≤ x8_4) = true := decide_eq_true c32
                                clear c32
                                by_cases c33 : x8_4 < (l0.length : Int)
                                · rw [if_pos c33] at H
                                  have c33b0 : decide (x8_4 < (l0.length : Int)) = true := decide_eq_true c33
                                  clear c33
                                  have H' := Aside0.mk H
                                  clear H
                                  have p108 : 0 ≤ (x8_4 : Int) := of_decide_eq_true (by first | (with_reducible assumption) | assumption)
                                  have q108 : x8_4 < (l0.length : Int) := of_decide_eq_true (by first | (with_reducible assumption) | assumption)
                                  obtain ⟨ad108, e108, hx108_0, hx108_1, hx108_2⟩ := at_T52 HR0.out x8_4 p108 q108
                                  obtain rfl : ad102 = ad108 := (by injection e108)
                                  replace hx108_0 := (HB.out.cell (World.block_lt_of_cell? w _ hx108_0)).trans hx108_0
                                  replace hx108_1 := (HB.out.cell (World.block_lt_of_cell? w _ hx108_1)).trans hx108_1
                                  replace hx108_2 := (HB.out.cell (World.block_lt_of_cell? w _ hx108_2)).trans hx108_2
                                  replace p108 := eq_true p108
                                  replace q108 := eq_true q108
                                  go_wp2
                                  go_roundg k4
                                  case measure => have := HK1.out; have := HJ6.out; have := HJ24.out; have := HK4.out; omega
                                  case rel => exact ⟨(wrap64 (x7_4 + 1)), ((rd_T52 l0 x8_4).f2), (by first | rfl | (simp; done) | (simp [*]; done)), (by first | rfl | (simp; done) | (simp [*]; done)), H', ⟨by have := HK1.out; have := HJ6.out; have := HJ24.out; have := HK4.out; omega⟩, ⟨by (with_reducible repeat (first | refine blk_drewN ?_ _ | refine blk_drew ?_ | refine blk_alloc ?_ _)); exact BK103.out⟩, ⟨by repeat (first | (with_reducible first | exact HB.out | apply below_alloc | apply pw_below_drewN | apply below_drew1 | refine below_set ?_ GE103.out) | exact HB.out)⟩⟩
                                · rw [if_neg c33] at H
                                  exact absurd H (by simp)
                              · rw [if_neg c32] at H
                                exact absurd H (by simp)
                            · rw [if_neg c31] at H
                              have c31b0 : decide (0 ≤ x8_4) = false := decide_eq_false c31
                              clear c31
                              by_cases c34 : ((rd_T52 l0 x16_1).f0) = 2
                              · rw [if_pos c34] at H
                                have c34b0 : (((rd_T52 l0 x16_1).f0) == 2) = true := beq_iff_eq.mpr c34
                                have c34b1 : (((rd_T52 l0 x16_1).f0) != 2) = false := bne_eq_false_iff_eq.mpr c34
                                clear c34
                                by_cases c35 : x5_24 = true
                                · subst c35
                                  have H1 : (if x7_4 > 60 then (some false) else ((spec_ldParts.f k4 l0 x16_1).bind fun t109 => (if (t109.length : Int) = 2 then (spec_GoodComb.l0 k4 l0 l0 (l0.length : Int) (wrap64 (x16_1 + 1))) else (some false)))) = some r := by rw [if_pos rfl] at H; exact H
                                  clear H
                                  have H := H1
                                  clear H1
                                  by_cases c36 : x7_4 > 60
                                  · rw [if_pos c36] at H
                                    have c36b0 : decide (60 < x7_4) = true := decide_eq_true c36
                                    clear c36
                                    obtain rfl := Option.some.inj H
                                    have hcz37_0 : wr.cell? ⟨gb103, 0, none⟩ = some (.int .i64 ((rd_T52 l0 x16_1).f0)) := (blk_cell BK103.out 0).trans rfl
                                    have hcz37_1 : wr.cell? ⟨gb103, 1, none⟩ = some (.int .i64 ((rd_T52 l0 x16_1).f1)) := (blk_cell BK103.out 1).trans rfl
                                    have hcz37_2 : wr.cell? ⟨gb103, 2, none⟩ = some (.int .i64 ((rd_T52 l0 x16_1).f2)) := (blk_cell BK103.out 2).trans rfl
                                    have hfz37_0 := blk_frozen BK103.out 0
                                    have hfz37_1 := blk_frozen BK103.out 1
                                    have hfz37_2 := blk_frozen BK103.out 2
                                    go_wp2
                                    go_ret
                                    exact ⟨by first | rfl | (simp [errW_none, errW_some] <;> rfl) | (simp [*, errW_none, errW_some] <;> rfl), by repeat (first | (with_reducible first | exact HB.out | apply below_alloc | apply pw_below_drewN | apply below_drew1 | refine below_set ?_ GE103.out) | exact HB.out)⟩
                                  · rw [if_neg c36] at H
                                    have c36b0 : decide (60 < x7_4) = false := decide_eq_false c36
                                    clear c36
                                    replace H := Option.bind_eq_some_iff.mp H
                                    obtain ⟨t109, A380, H⟩ := H
                                    replace H : (if (t109.length : Int) = 2 then (spec_GoodComb.l0 k4 l0 l0 (l0.length : Int) (wrap64 (x16_1 + 1))) else (some false)) = some r := H
                                    have A38 := Aside0.mk A380
                                    clear A380
                                    by_cases c39 : (t109.length : Int) = 2
                                    · rw [if_pos c39] at H
                                      have c39b0 : ((t109.length : Int) == 2) = true := beq_iff_eq.mpr c39
                                      have c39b1 : ((t109.length : Int) != 2) = false := bne_eq_false_iff_eq.mpr c39
                                      clear c39
                                      have H' := Aside0.mk H
                                      clear H
                                      have hcz40_0 : wr.cell? ⟨gb103, 0, none⟩ = some (.int .i64 ((rd_T52 l0 x16_1).f0)) := (blk_cell BK103.out 0).trans rfl
                                      have hcz40_1 : wr.cell? ⟨gb103, 1, none⟩ = some (.int .i64 ((rd_T52 l0 x16_1).f1)) := (blk_cell BK103.out 1).trans rfl
                                      have hcz40_2 : wr.cell? ⟨gb103, 2, none⟩ = some (.int .i64 ((rd_T52 l0 x16_1).f2)) := (blk_cell BK103.out 2).trans rfl
                                      have hfz40_0 := blk_frozen BK103.out 0
                                      have hfz40_1 := blk_frozen BK103.out 1
                                      have hfz40_2 := blk_frozen BK103.out 2
                                      go_wp2_with (first | (go_at_call 40; (with_reducible refine (spec_ldParts.calls k4 _ _ l0 x16_1 t109 _ ?side1 ?side2 A38.out).mono ?_); (case side1 => repeat (first | exact (Kd.C_below HR0.out HB.out) | (with_reducible refine Kd.C_alloc ?_ _) | (with_reducible refine Kd.C_drewN ?_ _) | (with_reducible refine Kd.C_drew ?_))); (case side2 => exact HC0.out); rintro e w41 ⟨v110, rfl, ho0, hb⟩; have n0_ := Aside0.mk (Kd.R_lower ho0 (below_size (by repeat (first | (with_reducible first | exact HB.out | apply below_alloc | apply pw_below_drewN | apply below_drew1 | refine below_set ?_ GE103.out) | exact HB.out)))); have n1_ := Aside0.mk (blk_below (g := gb103) (o := .cells #[.int .i64 ((rd_T52 l0 x16_1).f0), .int .i64 ((rd_T52 l0 x16_1).f1), .int .i64 ((rd_T52 l0 x16_1).f2)] 52 (0, 0)) (by (with_reducible repeat (first | refine blk_drewN ?_ _ | refine blk_drew ?_ | refine blk_alloc ?_ _)); exact BK103.out) hb); have n2_ := Aside0.mk (below_step (by repeat (first | (with_reducible first | exact HB.out | apply below_alloc | apply pw_below_drewN | apply below_drew1 | refine below_set ?_ GE103.out) | exact HB.out)) hb); clear BK103; clear HB; have HO111 := n0_; have BK103 := n1_; have HB := n2_; clear n0_ n1_ n2_; (try clear hb); (try clear hb2); (try clear hk); (try clear hi); (try clear ho0); obtain ⟨Ao42, co42, eo42⟩ := Kd.R_slice HO111.out; subst eo42))
                                      go_roundg k4
                                      case measure => have := HK1.out; have := HJ6.out; have := HJ24.out; have := HK4.out; omega
                                      case rel => exact ⟨(wrap64 (x16_1 + 1)), (by first | rfl | (simp; done) | (simp [*]; done)), H', ⟨by have := HK1.out; have := HJ6.out; have := HJ24.out; have := HK4.out; omega⟩, ⟨by repeat (first | (with_reducible first | exact HB.out | apply below_alloc | apply pw_below_drewN | apply below_drew1 | refine below_set ?_ GE103.out) | exact HB.out)⟩⟩
                                    · rw [if_neg c39] at H
                                      have c39b0 : ((t109.length : Int) == 2) = false := beq_eq_false_iff_ne.mpr c39
                                      have c39b1 : ((t109.length : Int) != 2) = true := bne_iff_ne.mpr c39
                                      obtain rfl := Option.some.inj H
                                      have hcz43_0 : wr.cell? ⟨gb103, 0, none⟩ = some (.int .i64 ((rd_T52 l0 x16_1).f0)) := (blk_cell BK103.out 0).trans rfl
                                      have hcz43_1 : wr.cell? ⟨gb103, 1, none⟩ = some (.int .i64 ((rd_T52 l0 x16_1).f1)) := (blk_cell BK103.out 1).trans rfl
                                      have hcz43_2 : wr.cell? ⟨gb103, 2, none⟩ = some (.int .i64 ((rd_T52 l0 x16_1).f2)) := (blk_cell BK103.out 2).trans rfl
                                      have hfz43_0 := blk_frozen BK103.out 0
                                      have hfz43_1 := blk_frozen BK103.out 1
                                      have hfz43_2 := blk_frozen BK103.out 2
                                      go_wp2_with (first | (go_at_call 40; (with_reducible refine (spec_ldParts.calls k4 _ _ l0 x16_1 t109 _ ?side1 ?side2 A38.out).mono ?_); (case side1 => repeat (first | exact (Kd.C_below HR0.out HB.out) | (with_reducible refine Kd.C_alloc ?_ _) | (with_reducible refine Kd.C_drewN ?_ _) | (with_reducible refine Kd.C_drew ?_))); (case side2 => exact HC0.out); rintro e w44 ⟨v110, rfl, ho0, hb⟩; have n0_ := Aside0.mk (Kd.R_lower ho0 (below_size (by repeat (first | (with_reducible first | exact HB.out | apply below_alloc | apply pw_below_drewN | apply below_drew1 | refine below_set ?_ GE103.out) | exact HB.out)))); have n1_ := Aside0.mk (blk_below (g := gb103) (o := .cells #[.int .i64 ((rd_T52 l0 x16_1).f0), .int .i64 ((rd_T52 l0 x16_1).f1), .int .i64 ((rd_T52 l0 x16_1).f2)] 52 (0, 0)) (by (with_reducible repeat (first | refine blk_drewN ?_ _ | refine blk_drew ?_ | refine blk_alloc ?_ _)); exact BK103.out) hb); have n2_ := Aside0.mk (below_step (by repeat (first | (with_reducible first | exact HB.out | apply below_alloc | apply pw_below_drewN | apply below_drew1 | refine below_set ?_ GE103.out) | exact HB.out)) hb); clear BK103; clear HB; have HO111 := n0_; have BK103 := n1_; have HB := n2_; clear n0_ n1_ n2_; (try clear hb); (try clear hb2); (try clear hk); (try clear hi); (try clear ho0); obtain ⟨Ao45, co45, eo45⟩ := Kd.R_slice HO111.out; subst eo45))
                                      go_ret
                                      exact ⟨by first | rfl | (simp [errW_none, errW_some] <;> rfl) | (simp [*, errW_none, errW_some] <;> rfl), by repeat (first | (with_reducible first | exact HB.out | apply below_alloc | apply pw_below_drewN | apply below_drew1 | refine below_set ?_ GE103.out) | exact HB.out)⟩
                                · replace c35 := Bool.eq_false_iff.mpr c35
                                  subst c35
                                  have H1 : (some false) = some r := by rw [if_neg (show ¬ (false = true) by decide)] at H; exact H
                                  clear H
                                  have H := H1
                                  clear H1
                                  obtain rfl := Option.some.inj H
                                  have hcz46_0 : wr.cell? ⟨gb103, 0, none⟩ = some (.int .i64 ((rd_T52 l0 x16_1).f0)) := (blk_cell BK103.out 0).trans rfl
                                  have hcz46_1 : wr.cell? ⟨gb103, 1, none⟩ = some (.int .i64 ((rd_T52 l0 x16_1).f1)) := (blk_cell BK103.out 1).trans rfl
                                  have hcz46_2 : wr.cell? ⟨gb103, 2, none⟩ = some (.int .i64 ((rd_T52 l0 x16_1).f2)) := (blk_cell BK103.out 2).trans rfl
                                  have hfz46_0 := blk_frozen BK103.out 0
                                  have hfz46_1 := blk_frozen BK103.out 1
                                  have hfz46_2 := blk_frozen BK103.out 2
                                  go_wp2
                                  go_ret
                                  exact ⟨by first | rfl | (simp [errW_none, errW_some] <;> rfl) | (simp [*, errW_none, errW_some] <;> rfl), by repeat (first | (with_reducible first | exact HB.out | apply below_alloc | apply pw_below_drewN | apply below_drew1 | refine below_set ?_ GE103.out) | exact HB.out)⟩
                              · rw [if_neg c34] at H
                                have c34b0 : (((rd_T52 l0 x16_1).f0) == 2) = false := beq_eq_false_iff_ne.mpr c34
                                have c34b1 : (((rd_T52 l0 x16_1).f0) != 2) = true := bne_iff_ne.mpr c34
                                by_cases c47 : x5_24 = true
                                · subst c47
                                  have H1 : (if x7_4 > 60 then (some false) else ((spec_ldParts.f k4 l0 x16_1).bind fun t112 => (if (t112.length : Int) = 0 then (spec_GoodComb.l0 k4 l0 l0 (l0.length : Int) (wrap64 (x16_1 + 1))) else (some false)))) = some r := by rw [if_pos rfl] at H; exact H
                                  clear H
                                  have H := H1
                                  clear H1
                                  by_cases c48 : x7_4 > 60
                                  · rw [if_pos c48] at H
                                    have c48b0 : decide (60 < x7_4) = true := decide_eq_true c48
                                    clear c48
                                    obtain rfl := Option.some.inj H
                                    have hcz49_0 : wr.cell? ⟨gb103, 0, none⟩ = some (.int .i64 ((rd_T52 l0 x16_1).f0)) := (blk_cell BK103.out 0).trans rfl
                                    have hcz49_1 : wr.cell? ⟨gb103, 1, none⟩ = some (.int .i64 ((rd_T52 l0 x16_1).f1)) := (blk_cell BK103.out 1).trans rfl
                                    have hcz49_2 : wr.cell? ⟨gb103, 2, none⟩ = some (.int .i64 ((rd_T52 l0 x16_1).f2)) := (blk_cell BK103.out 2).trans rfl
                                    have hfz49_0 := blk_frozen BK103.out 0
                                    have hfz49_1 := blk_frozen BK103.out 1
                                    have hfz49_2 := blk_frozen BK103.out 2
                                    go_wp2
                                    go_ret
                                    exact ⟨by first | rfl | (simp [errW_none, errW_some] <;> rfl) | (simp [*, errW_none, errW_some] <;> rfl), by repeat (first | (with_reducible first | exact HB.out | apply below_alloc | apply pw_below_drewN | apply below_drew1 | refine below_set ?_ GE103.out) | exact HB.out)⟩
                                  · rw [if_neg c48] at H
                                    have c48b0 : decide (60 < x7_4) = false := decide_eq_false c48
                                    clear c48
                                    replace H := Option.bind_eq_some_iff.mp H
                                    obtain ⟨t112, A500, H⟩ := H
                                    replace H : (if (t112.length : Int) = 0 then (spec_GoodComb.l0 k4 l0 l0 (l0.length : Int) (wrap64 (x16_1 + 1))) else (some false)) = some r := H
                                    have A50 := Aside0.mk A500
                                    clear A500
                                    by_cases c51 : (t112.length : Int) = 0
                                    · rw [if_pos c51] at H
                                      have c51b0 : ((t112.length : Int) == 0) = true := beq_iff_eq.mpr c51
                                      have c51b1 : ((t112.length : Int) != 0) = false := bne_eq_false_iff_eq.mpr c51
                                      clear c51
                                      have H' := Aside0.mk H
                                      clear H
                                      have hcz52_0 : wr.cell? ⟨gb103, 0, none⟩ = some (.int .i64 ((rd_T52 l0 x16_1).f0)) := (blk_cell BK103.out 0).trans rfl
                                      have hcz52_1 : wr.cell? ⟨gb103, 1, none⟩ = some (.int .i64 ((rd_T52 l0 x16_1).f1)) := (blk_cell BK103.out 1).trans rfl
                                      have hcz52_2 : wr.cell? ⟨gb103, 2, none⟩ = some (.int .i64 ((rd_T52 l0 x16_1).f2)) := (blk_cell BK103.out 2).trans rfl
                                      have hfz52_0 := blk_frozen BK103.out 0
                                      have hfz52_1 := blk_frozen BK103.out 1
                                      have hfz52_2 := blk_frozen BK103.out 2
                                      go_wp2_with (first | (go_at_call 40; (with_reducible refine (spec_ldParts.calls k4 _ _ l0 x16_1 t112 _ ?side1 ?side2 A50.out).mono ?_); (case side1 => repeat (first | exact (Kd.C_below HR0.out HB.out) | (with_reducible refine Kd.C_alloc ?_ _) | (with_reducible refine Kd.C_drewN ?_ _) | (with_reducible refine Kd.C_drew ?_))); (case side2 => exact HC0.out); rintro e w53 ⟨v113, rfl, ho0, hb⟩; have n0_ := Aside0.mk (Kd.R_lower ho0 (below_size (by repeat (first | (with_reducible first | exact HB.out | apply below_alloc | apply pw_below_drewN | apply below_drew1 | refine below_set ?_ GE103.out) | exact HB.out)))); have n1_ := Aside0.mk (blk_below (g := gb103) (o := .cells #[.int .i64 ((rd_T52 l0 x16_1).f0), .int .i64 ((rd_T52 l0 x16_1).f1), .int .i64 ((rd_T52 l0 x16_1).f2)] 52 (0, 0)) (by (with_reducible repeat (first | refine blk_drewN ?_ _ | refine blk_drew ?_ | refine blk_alloc ?_ _)); exact BK103.out) hb); have n2_ := Aside0.mk (below_step (by repeat (first | (with_reducible first | exact HB.out | apply below_alloc | apply pw_below_drewN | apply below_drew1 | refine below_set ?_ GE103.out) | exact HB.out)) hb); clear BK103; clear HB; have HO114 := n0_; have BK103 := n1_; have HB := n2_; clear n0_ n1_ n2_; (try clear hb); (try clear hb2); (try clear hk); (try clear hi); (try clear ho0); obtain ⟨Ao54, co54, eo54⟩ := Kd.R_slice HO114.out; subst eo54))
                                      go_roundg k4
                                      case measure => have := HK1.out; have := HJ6.out; have := HJ24.out; have := HK4.out; omega
                                      case rel => exact ⟨(wrap64 (x16_1 + 1)), (by first | rfl | (simp; done) | (simp [*]; done)), H', ⟨by have := HK1.out; have := HJ6.out; have := HJ24.out; have := HK4.out; omega⟩, ⟨by repeat (first | (with_reducible first | exact HB.out | apply below_alloc | apply pw_below_drewN | apply below_drew1 | refine below_set ?_ GE103.out) | exact HB.out)⟩⟩
                                    · rw [if_neg c51] at H
                                      have c51b0 : ((t112.length : Int) == 0) = false := beq_eq_false_iff_ne.mpr c51
                                      have c51b1 : ((t112.length : Int) != 0) = true := bne_iff_ne.mpr c51
                                      have c51b2 : ¬ (t112 = []) := fun h_ => c51 (by rw [h_]; rfl)
                                      obtain rfl := Option.some.inj H
                                      have hcz55_0 : wr.cell? ⟨gb103, 0, none⟩ = some (.int .i64 ((rd_T52 l0 x16_1).f0)) := (blk_cell BK103.out 0).trans rfl
                                      have hcz55_1 : wr.cell? ⟨gb103, 1, none⟩ = some (.int .i64 ((rd_T52 l0 x16_1).f1)) := (blk_cell BK103.out 1).trans rfl
                                      have hcz55_2 : wr.cell? ⟨gb103, 2, none⟩ = some (.int .i64 ((rd_T52 l0 x16_1).f2)) := (blk_cell BK103.out 2).trans rfl
                                      have hfz55_0 := blk_frozen BK103.out 0
                                      have hfz55_1 := blk_frozen BK103.out 1
                                      have hfz55_2 := blk_frozen BK103.out 2
                                      go_wp2_with (first | (go_at_call 40; (with_reducible refine (spec_ldParts.calls k4 _ _ l0 x16_1 t112 _ ?side1 ?side2 A50.out).mono ?_); (case side1 => repeat (first | exact (Kd.C_below HR0.out HB.out) | (with_reducible refine Kd.C_alloc ?_ _) | (with_reducible refine Kd.C_drewN ?_ _) | (with_reducible refine Kd.C_drew ?_))); (case side2 => exact HC0.out); rintro e w56 ⟨v113, rfl, ho0, hb⟩; have n0_ := Aside0.mk (Kd.R_lower ho0 (below_size (by repeat (first | (with_reducible first | exact HB.out | apply below_alloc | apply pw_below_drewN | apply below_drew1 | refine below_set ?_ GE103.out) | exact HB.out)))); have n1_ := Aside0.mk (blk_below (g := gb103) (o := .cells #[.int .i64 ((rd_T52 l0 x16_1).f0), .int .i64 ((rd_T52 l0 x16_1).f1), .int .i64 ((rd_T52 l0 x16_1).f2)] 52 (0, 0)) (by (with_reducible repeat (first | refine blk_drewN ?_ _ | refine blk_drew ?_ | refine blk_alloc ?_ _)); exact BK103.out) hb); have n2_ := Aside0.mk (below_step (by repeat (first | (with_reducible first | exact HB.out | apply below_alloc | apply pw_below_drewN | apply below_drew1 | refine below_set ?_ GE103.out) | exact HB.out)) hb); clear BK103; clear HB; have HO114 := n0_; have BK103 := n1_; have HB := n2_; clear n0_ n1_ n2_; (try clear hb); (try clear hb2); (try clear hk); (try clear hi); (try clear ho0); obtain ⟨Ao57, co57, eo57⟩ := Kd.R_slice HO114.out; subst eo57))
                                      go_ret
                                      exact ⟨by first | rfl | (simp [errW_none, errW_some] <;> rfl) | (simp [*, errW_none, errW_some] <;> rfl), by repeat (first | (with_reducible first | exact HB.out | apply below_alloc | apply pw_below_drewN | apply below_drew1 | refine below_set ?_ GE103.out) | exact HB.out)⟩
                                · replace c47 := Bool.eq_false_iff.mpr c47
                                  subst c47
                                  have H1 : (some false) = some r := by rw [if_neg (show ¬ (false = true) by decide)] at H; exact H
                                  clear H
                                  have H := H1
                                  clear H1
                                  obtain rfl := Option.some.inj H
                                  have hcz58_0 : wr.cell? ⟨gb103, 0, none⟩ = some (.int .i64 ((rd_T52 l0 x16_1).f0)) := (blk_cell BK103.out 0).trans rfl
                                  have hcz58_1 : wr.cell? ⟨gb103, 1, none⟩ = some (.int .i64 ((rd_T52 l0 x16_1).f1)) := (blk_cell BK103.out 1).trans rfl
                                  have hcz58_2 : wr.cell? ⟨gb103, 2, none⟩ = some (.int .i64 ((rd_T52 l0 x16_1).f2)) := (blk_cell BK103.out 2).trans rfl
                                  have hfz58_0 := blk_frozen BK103.out 0
                                  have hfz58_1 := blk_frozen BK103.out 1
                                  have hfz58_2 := blk_frozen BK103.out 2
                                  go_wp2
                                  go_ret
                                  exact ⟨by first | rfl | (simp [errW_none, errW_some] <;> rfl) | (simp [*, errW_none, errW_some] <;> rfl), by repeat (first | (with_reducible first | exact HB.out | apply below_alloc | apply pw_below_drewN | apply below_drew1 | refine below_set ?_ GE103.out) | exact HB.out)⟩
            · rw [if_neg c6] at H
              exact absurd H (by simp)
          · rw [if_neg c5] at H
            exact absurd H (by simp)
        · rw [if_neg c4] at H
          have c4b0 : decide (x16_1 < (l0.length : Int)) = false := decide_eq_false c4
          clear c4
          obtain rfl := Option.some.inj H
          go_wp2
          go_ret
          exact ⟨by first | rfl | (simp [errW_none, errW_some] <;> rfl) | (simp [*, errW_none, errW_some] <;> rfl), by repeat (first | (with_reducible first | exact HB.out | apply below_alloc | apply pw_below_drewN | apply below_drew1) | exact HB.out)⟩
  · replace c3 := Bool.eq_false_iff.mpr c3
    subst c3
    have H1 : (some false) = some r := by rw [if_neg (show ¬ (false = true) by decide)] at H; exact H
    clear H
    have H := H1
    clear H1
    obtain rfl := Option.some.inj H
    go_enter Try.func12, Try.ntmps12
    go_wp2_with (first | ((with_reducible refine gate_callee (f := 39) rfl ?_); refine goesL_ (some 12) rfl rfl Try.func39 (by kernel_rfl) rfl #[.int .i64 (l0.length : Int), .int .i64 1, .int .i64 200] rfl (by (try simp only [List.map_toArray, List.map_cons, List.map_nil]); first | done | rfl | (simp only [List.length_drop, List.length_take]; rfl)) ?_; (with_reducible refine (spec_l1In.calls (l0.length : Int) 1 200 false _ A2.out).mono ?_); rintro e w' ⟨rfl, ⟨nd, rfl⟩⟩; refine ⟨_, rfl, ?_⟩))
    go_ret
    exact ⟨by first | rfl | (simp [errW_none, errW_some] <;> rfl) | (simp [*, errW_none, errW_some] <;> rfl), by repeat (first | (with_reducible first | exact HB.out | apply below_alloc | apply pw_below_drewN | apply below_drew1) | exact HB.out)⟩

end Go.Proofs.Ytcjhhdecckcibaa.G
