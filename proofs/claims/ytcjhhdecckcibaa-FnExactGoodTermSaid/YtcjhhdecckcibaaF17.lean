/- Printed by a program: what the Go functions that a law reaches come to, as Lean functions, each with the proof that the machine's call answers so; no condition but those each theorem names. -/
import Derived.Test.YtcjhhdecckcibaaK
import Derived.Test.YtcjhhdecckcibaaF39
import Derived.Test.YtcjhhdecckcibaaF44
namespace Go.Proofs.Ytcjhhdecckcibaa.G
open Go.RowKit Go.Proofs.YtcjhhdecckcibaaW.PrintWords Go.Proofs.YtcjhhdecckcibaaW.PrintLast Go.Proofs.YtcjhhdecckcibaaW.PrintMore
attribute [local go_sem] max2_int min2_int max_two min_two max_three min_three max_four min_four   -- for this text's walks alone
set_option linter.unusedVariables false
set_option linter.unusedSimpArgs false

/-! ### spec_GoodTerm: function 17 -/
mutual
def spec_GoodTerm.l0 : Nat → List (S62) → List (S62) → Int → Int → Option (Bool)
  | 0, _, _, _, _ => none
  | k + 1, x0, x14, x15, x16 => if x16 < x15 then (if 0 ≤ x16 then (if x16 < (x14.length : Int) then (if ((x16 == 0) != (((rd_T62 x14 x16).f2) == (-1))) = true then (spec_GoodTerm.j1 k x0 x16 x14 x15 x16 true ((rd_T62 x14 x16).f0) ((rd_T62 x14 x16).f1) ((rd_T62 x14 x16).f2)) else ((spec_l1In.f ((rd_T62 x14 x16).f2) (-1) (wrap64 (x16 - 1))).bind fun t104 => (spec_GoodTerm.j1 k x0 x16 x14 x15 x16 (!t104) ((rd_T62 x14 x16).f0) ((rd_T62 x14 x16).f1) ((rd_T62 x14 x16).f2)))) else (none)) else (none)) else (some true)
def spec_GoodTerm.j1 : Nat → List (S62) → Int → List (S62) → Int → Int → Bool → Int → Int → Int → Option (Bool)
  | 0, _, _, _, _, _, _, _, _, _ => none
  | k + 1, x0, x3, x14, x15, x16, x34, x104000, x104001, x104002 => if x34 = true then (some false) else (spec_GoodTerm.l1 k x0 x3 (x3 == 0) (wrap64 (x3 - 1)) x14 x15 x16 x104000 x104001 x104002)
def spec_GoodTerm.j3 : Nat → List (S62) → Int → Bool → List (S62) → Int → Int → Int → Int → Int → Option (Bool)
  | 0, _, _, _, _, _, _, _, _, _ => none
  | k + 1, x0, x3, x5, x14, x15, x16, x104000, x104001, x104002 => spec_GoodTerm.l2 k x0 x3 x5 0 x3 x14 x15 x16 x104000 x104001 x104002
def spec_GoodTerm.l2 : Nat → List (S62) → Int → Bool → Int → Int → List (S62) → Int → Int → Int → Int → Int → Option (Bool)
  | 0, _, _, _, _, _, _, _, _, _, _, _ => none
  | k + 1, x0, x3, x5, x7, x8, x14, x15, x16, x104000, x104001, x104002 => if x8 ≥ 0 then (if 0 ≤ x8 then (if x8 < (x0.length : Int) then (spec_GoodTerm.l2 k x0 x3 x5 (wrap64 (x7 + 1)) ((rd_T62 x0 x8).f2) x14 x15 x16 x104000 x104001 x104002) else (none)) else (none)) else (if x104000 = 1 then (spec_GoodTerm.j5 k x0 x3 x5 x7 0 x14 x15 x16 x104000 x104001 x104002) else (if x104000 = 2 then (spec_GoodTerm.j5 k x0 x3 x5 x7 1 x14 x15 x16 x104000 x104001 x104002) else (if x104000 = 3 then (spec_GoodTerm.j5 k x0 x3 x5 x7 2 x14 x15 x16 x104000 x104001 x104002) else (some false))))
def spec_GoodTerm.j5 : Nat → List (S62) → Int → Bool → Int → Int → List (S62) → Int → Int → Int → Int → Int → Option (Bool)
  | 0, _, _, _, _, _, _, _, _, _, _, _ => none
  | k + 1, x0, x3, x5, x7, x9, x14, x15, x16, x104000, x104001, x104002 => if x5 = true then (if x7 > 40 then (some false) else ((spec_lcParts.f k x0 x3).bind fun t107 => (if (t107.length : Int) = x9 then ((spec_l1In.f x104001 0 99).bind fun t110 => (if t110 = true then (if x104000 = 1 then (spec_GoodTerm.l0 k x0 x14 x15 (wrap64 (x16 + 1))) else (if x104001 = 0 then (spec_GoodTerm.l0 k x0 x14 x15 (wrap64 (x16 + 1))) else (some false))) else (some false))) else (some false)))) else (some false)
def spec_GoodTerm.l1 : Nat → List (S62) → Int → Bool → Int → List (S62) → Int → Int → Int → Int → Int → Option (Bool)
  | 0, _, _, _, _, _, _, _, _, _, _ => none
  | k + 1, x0, x3, x5, x6, x14, x15, x16, x104000, x104001, x104002 => if x6 ≥ 0 then (if x5 = true then (spec_GoodTerm.j3 k x0 x3 x5 x14 x15 x16 x104000 x104001 x104002) else (if 0 ≤ x6 then (if x6 < (x0.length : Int) then (spec_GoodTerm.l1 k x0 x3 (x6 == x104002) ((rd_T62 x0 x6).f2) x14 x15 x16 x104000 x104001 x104002) else (none)) else (none))) else (spec_GoodTerm.j3 k x0 x3 x5 x14 x15 x16 x104000 x104001 x104002)
end
def spec_GoodTerm.f (k : Nat) (l0 : List (S62)) : Option (Bool) := (spec_l1In.f (l0.length : Int) 1 150).bind fun t101 => (if t101 = true then (spec_GoodTerm.l0 k l0 l0 (l0.length : Int) 0) else (some false))
theorem spec_GoodTerm.mono_l : ∀ k, (∀ y0 y1 y2 y3, LeO (spec_GoodTerm.l0 k y0 y1 y2 y3) (spec_GoodTerm.l0 (k + 1) y0 y1 y2 y3)) ∧ (∀ y0 y1 y2 y3 y4 y5 y6 y7 y8, LeO (spec_GoodTerm.j1 k y0 y1 y2 y3 y4 y5 y6 y7 y8) (spec_GoodTerm.j1 (k + 1) y0 y1 y2 y3 y4 y5 y6 y7 y8)) ∧ (∀ y0 y1 y2 y3 y4 y5 y6 y7 y8, LeO (spec_GoodTerm.j3 k y0 y1 y2 y3 y4 y5 y6 y7 y8) (spec_GoodTerm.j3 (k + 1) y0 y1 y2 y3 y4 y5 y6 y7 y8)) ∧ (∀ y0 y1 y2 y3 y4 y5 y6 y7 y8 y9 y10, LeO (spec_GoodTerm.l2 k y0 y1 y2 y3 y4 y5 y6 y7 y8 y9 y10) (spec_GoodTerm.l2 (k + 1) y0 y1 y2 y3 y4 y5 y6 y7 y8 y9 y10)) ∧ (∀ y0 y1 y2 y3 y4 y5 y6 y7 y8 y9 y10, LeO (spec_GoodTerm.j5 k y0 y1 y2 y3 y4 y5 y6 y7 y8 y9 y10) (spec_GoodTerm.j5 (k + 1) y0 y1 y2 y3 y4 y5 y6 y7 y8 y9 y10)) ∧ (∀ y0 y1 y2 y3 y4 y5 y6 y7 y8 y9, LeO (spec_GoodTerm.l1 k y0 y1 y2 y3 y4 y5 y6 y7 y8 y9) (spec_GoodTerm.l1 (k + 1) y0 y1 y2 y3 y4 y5 y6 y7 y8 y9))
  | 0 => ⟨fun _ _ _ _ r h => by simp [spec_GoodTerm.l0] at h, fun _ _ _ _ _ _ _ _ _ r h => by simp [spec_GoodTerm.j1] at h, fun _ _ _ _ _ _ _ _ _ r h => by simp [spec_GoodTerm.j3] at h, fun _ _ _ _ _ _ _ _ _ _ _ r h => by simp [spec_GoodTerm.l2] at h, fun _ _ _ _ _ _ _ _ _ _ _ r h => by simp [spec_GoodTerm.j5] at h, fun _ _ _ _ _ _ _ _ _ _ r h => by simp [spec_GoodTerm.l1] at h⟩
  | k + 1 => by
    obtain ⟨ih0, ih1, ih2, ih3, ih4, ih5⟩ := spec_GoodTerm.mono_l k
    refine ⟨?_, ?_, ?_, ?_, ?_, ?_⟩
    · intro y0 y1 y2 y3
      unfold spec_GoodTerm.l0
      repeat' first
      | (with_reducible exact ih0 _ _ _ _)
      | (with_reducible exact ih1 _ _ _ _ _ _ _ _ _)
      | (with_reducible exact ih2 _ _ _ _ _ _ _ _ _)
      | (with_reducible exact ih3 _ _ _ _ _ _ _ _ _ _ _)
      | (with_reducible exact ih4 _ _ _ _ _ _ _ _ _ _ _)
      | (with_reducible exact ih5 _ _ _ _ _ _ _ _ _ _)
      | (with_reducible exact spec_lcParts.mono _ _ _)
      | (with_reducible exact LeO.refl _)
      | (with_reducible exact LeO.none _)
      | (with_reducible refine LeO.ite ?_ ?_)
      | (with_reducible refine LeO.bind ?_ (fun _ => ?_))
      | exact ih0 _ _ _ _
      | exact ih1 _ _ _ _ _ _ _ _ _
      | exact ih2 _ _ _ _ _ _ _ _ _
      | exact ih3 _ _ _ _ _ _ _ _ _ _ _
      | exact ih4 _ _ _ _ _ _ _ _ _ _ _
      | exact ih5 _ _ _ _ _ _ _ _ _ _
      | exact spec_lcParts.mono _ _ _
      | exact LeO.none _
      | refine LeO.ite ?_ ?_
      | refine LeO.bind ?_ (fun _ => ?_)
    · intro y0 y1 y2 y3 y4 y5 y6 y7 y8
      unfold spec_GoodTerm.j1
      repeat' first
      | (with_reducible exact ih0 _ _ _ _)
      | (with_reducible exact ih1 _ _ _ _ _ _ _ _ _)
      | (with_reducible exact ih2 _ _ _ _ _ _ _ _ _)
      | (with_reducible exact ih3 _ _ _ _ _ _ _ _ _ _ _)
      | (with_reducible exact ih4 _ _ _ _ _ _ _ _ _ _ _)
      | (with_reducible exact ih5 _ _ _ _ _ _ _ _ _ _)
      | (with_reducible exact spec_lcParts.mono _ _ _)
      | (with_reducible exact LeO.refl _)
      | (with_reducible exact LeO.none _)
      | (with_reducible refine LeO.ite ?_ ?_)
      | (with_reducible refine LeO.bind ?_ (fun _ => ?_))
      | exact ih0 _ _ _ _
      | exact ih1 _ _ _ _ _ _ _ _ _
      | exact ih2 _ _ _ _ _ _ _ _ _
      | exact ih3 _ _ _ _ _ _ _ _ _ _ _
      | exact ih4 _ _ _ _ _ _ _ _ _ _ _
      | exact ih5 _ _ _ _ _ _ _ _ _ _
      | exact spec_lcParts.mono _ _ _
      | exact LeO.none _
      | refine LeO.ite ?_ ?_
      | refine LeO.bind ?_ (fun _ => ?_)
    · intro y0 y1 y2 y3 y4 y5 y6 y7 y8
      unfold spec_GoodTerm.j3
      repeat' first
      | (with_reducible exact ih0 _ _ _ _)
      | (with_reducible exact ih1 _ _ _ _ _ _ _ _ _)
      | (with_reducible exact ih2 _ _ _ _ _ _ _ _ _)
      | (with_reducible exact ih3 _ _ _ _ _ _ _ _ _ _ _)
      | (with_reducible exact ih4 _ _ _ _ _ _ _ _ _ _ _)
      | (with_reducible exact ih5 _ _ _ _ _ _ _ _ _ _)
      | (with_reducible exact spec_lcParts.mono _ _ _)
      | (with_reducible exact LeO.refl _)
      | (with_reducible exact LeO.none _)
      | (with_reducible refine LeO.ite ?_ ?_)
      | (with_reducible refine LeO.bind ?_ (fun _ => ?_))
      | exact ih0 _ _ _ _
      | exact ih1 _ _ _ _ _ _ _ _ _
      | exact ih2 _ _ _ _ _ _ _ _ _
      | exact ih3 _ _ _ _ _ _ _ _ _ _ _
      | exact ih4 _ _ _ _ _ _ _ _ _ _ _
      | exact ih5 _ _ _ _ _ _ _ _ _ _
      | exact spec_lcParts.mono _ _ _
      | exact LeO.none _
      | refine LeO.ite ?_ ?_
      | refine LeO.bind ?_ (fun _ => ?_)
    · intro y0 y1 y2 y3 y4 y5 y6 y7 y8 y9 y10
      unfold spec_GoodTerm.l2
      repeat' first
      | (with_reducible exact ih0 _ _ _ _)
      | (with_reducible exact ih1 _ _ _ _ _ _ _ _ _)
      | (with_reducible exact ih2 _ _ _ _ _ _ _ _ _)
      | (with_reducible exact ih3 _ _ _ _ _ _ _ _ _ _ _)
      | (with_reducible exact ih4 _ _ _ _ _ _ _ _ _ _ _)
      | (with_reducible exact ih5 _ _ _ _ _ _ _ _ _ _)
      | (with_reducible exact spec_lcParts.mono _ _ _)
      | (with_reducible exact LeO.refl _)
      | (with_reducible exact LeO.none _)
      | (with_reducible refine LeO.ite ?_ ?_)
      | (with_reducible refine LeO.bind ?_ (fun _ => ?_))
      | exact ih0 _ _ _ _
      | exact ih1 _ _ _ _ _ _ _ _ _
      | exact ih2 _ _ _ _ _ _ _ _ _
      | exact ih3 _ _ _ _ _ _ _ _ _ _ _
      | exact ih4 _ _ _ _ _ _ _ _ _ _ _
      | exact ih5 _ _ _ _ _ _ _ _ _ _
      | exact spec_lcParts.mono _ _ _
      | exact LeO.none _
      | refine LeO.ite ?_ ?_
      | refine LeO.bind ?_ (fun _ => ?_)
    · intro y0 y1 y2 y3 y4 y5 y6 y7 y8 y9 y10
      unfold spec_GoodTerm.j5
      repeat' first
      | (with_reducible exact ih0 _ _ _ _)
      | (with_reducible exact ih1 _ _ _ _ _ _ _ _ _)
      | (with_reducible exact ih2 _ _ _ _ _ _ _ _ _)
      | (with_reducible exact ih3 _ _ _ _ _ _ _ _ _ _ _)
      | (with_reducible exact ih4 _ _ _ _ _ _ _ _ _ _ _)
      | (with_reducible exact ih5 _ _ _ _ _ _ _ _ _ _)
      | (with_reducible exact spec_lcParts.mono _ _ _)
      | (with_reducible exact LeO.refl _)
      | (with_reducible exact LeO.none _)
      | (with_reducible refine LeO.ite ?_ ?_)
      | (with_reducible refine LeO.bind ?_ (fun _ => ?_))
      | exact ih0 _ _ _ _
      | exact ih1 _ _ _ _ _ _ _ _ _
      | exact ih2 _ _ _ _ _ _ _ _ _
      | exact ih3 _ _ _ _ _ _ _ _ _ _ _
      | exact ih4 _ _ _ _ _ _ _ _ _ _ _
      | exact ih5 _ _ _ _ _ _ _ _ _ _
      | exact spec_lcParts.mono _ _ _
      | exact LeO.none _
      | refine LeO.ite ?_ ?_
      | refine LeO.bind ?_ (fun _ => ?_)
    · intro y0 y1 y2 y3 y4 y5 y6 y7 y8 y9
      unfold spec_GoodTerm.l1
      repeat' first
      | (with_reducible exact ih0 _ _ _ _)
      | (with_reducible exact ih1 _ _ _ _ _ _ _ _ _)
      | (with_reducible exact ih2 _ _ _ _ _ _ _ _ _)
      | (with_reducible exact ih3 _ _ _ _ _ _ _ _ _ _ _)
      | (with_reducible exact ih4 _ _ _ _ _ _ _ _ _ _ _)
      | (with_reducible exact ih5 _ _ _ _ _ _ _ _ _ _)
      | (with_reducible exact spec_lcParts.mono _ _ _)
      | (with_reducible exact LeO.refl _)
      | (with_reducible exact LeO.none _)
      | (with_reducible refine LeO.ite ?_ ?_)
      | (with_reducible refine LeO.bind ?_ (fun _ => ?_))
      | exact ih0 _ _ _ _
      | exact ih1 _ _ _ _ _ _ _ _ _
      | exact ih2 _ _ _ _ _ _ _ _ _
      | exact ih3 _ _ _ _ _ _ _ _ _ _ _
      | exact ih4 _ _ _ _ _ _ _ _ _ _ _
      | exact ih5 _ _ _ _ _ _ _ _ _ _
      | exact spec_lcParts.mono _ _ _
      | exact LeO.none _
      | refine LeO.ite ?_ ?_
      | refine LeO.bind ?_ (fun _ => ?_)
theorem spec_GoodTerm.mono : ∀ a0 k, LeO (spec_GoodTerm.f k a0) (spec_GoodTerm.f (k + 1) a0) := by
  intro a0 k
  obtain ⟨ih0, ih1, ih2, ih3, ih4, ih5⟩ := spec_GoodTerm.mono_l k
  unfold spec_GoodTerm.f
  repeat' first
      | (with_reducible exact ih0 _ _ _ _)
      | (with_reducible exact ih1 _ _ _ _ _ _ _ _ _)
      | (with_reducible exact ih2 _ _ _ _ _ _ _ _ _)
      | (with_reducible exact ih3 _ _ _ _ _ _ _ _ _ _ _)
      | (with_reducible exact ih4 _ _ _ _ _ _ _ _ _ _ _)
      | (with_reducible exact ih5 _ _ _ _ _ _ _ _ _ _)
      | (with_reducible exact spec_lcParts.mono _ _ _)
      | (with_reducible exact LeO.refl _)
      | (with_reducible exact LeO.none _)
      | (with_reducible refine LeO.ite ?_ ?_)
      | (with_reducible refine LeO.bind ?_ (fun _ => ?_))
      | exact ih0 _ _ _ _
      | exact ih1 _ _ _ _ _ _ _ _ _
      | exact ih2 _ _ _ _ _ _ _ _ _
      | exact ih3 _ _ _ _ _ _ _ _ _ _ _
      | exact ih4 _ _ _ _ _ _ _ _ _ _ _
      | exact ih5 _ _ _ _ _ _ _ _ _ _
      | exact spec_lcParts.mono _ _ _
      | exact LeO.none _
      | refine LeO.ite ?_ ?_
      | refine LeO.bind ?_ (fun _ => ?_)
set_option maxHeartbeats 8000000 in
set_option maxRecDepth 100000 in
theorem spec_GoodTerm.calls (k : Nat) (A0 : Option Addr) (c0 : Nat) (l0 : List (S62)) (r : Bool) (w : World) (hr0 : Kd.C k62 w A0 l0.length l0) (hc0 : l0.length ≤ c0) (h : spec_GoodTerm.f k l0 = some r) :
    Calls Try.prog 17 #[.slice A0 l0.length c0] w fun e w' => e = .returned (.bool r) ∧ Below w.heap.size w w' := by
  have hu62 := Try.underlying62
  have HR0 := Aside0.mk hr0
  have HC0 := Aside0.mk hc0
  clear hr0 hc0
  have HB := Aside0.mk (Below.refl w.heap.size w)
  have H : ((spec_l1In.f (l0.length : Int) 1 150).bind fun t101 => (if t101 = true then (spec_GoodTerm.l0 k l0 l0 (l0.length : Int) 0) else (some false))) = some r := h
  clear h
  replace H := Option.bind_eq_some_iff.mp H
  obtain ⟨t101, A20, H⟩ := H
  replace H : (if t101 = true then (spec_GoodTerm.l0 k l0 l0 (l0.length : Int) 0) else (some false)) = some r := H
  have A2 := Aside0.mk A20
  clear A20
  by_cases c3 : t101 = true
  · subst c3
    have H1 : (spec_GoodTerm.l0 k l0 l0 (l0.length : Int) 0) = some r := by rw [if_pos rfl] at H; exact H
    clear H
    have H := H1
    clear H1
    have H' := Aside0.mk H
    clear H
    go_enter Try.func17, Try.ntmps17
    go_wp2_with (first | ((with_reducible refine gate_callee (f := 39) rfl ?_); refine goesL_ (some 12) rfl rfl Try.func39 (by kernel_rfl) rfl #[.int .i64 (l0.length : Int), .int .i64 1, .int .i64 150] rfl (by (try simp only [List.map_toArray, List.map_cons, List.map_nil]); first | done | rfl | (simp only [List.length_drop, List.length_take]; rfl)) ?_; (with_reducible refine (spec_l1In.calls (l0.length : Int) 1 150 true _ A2.out).mono ?_); rintro e w' ⟨rfl, ⟨nd, rfl⟩⟩; refine ⟨_, rfl, ?_⟩))
    go_loopg [16] k (fun kq v16 w' => ∃ (x16_1 : Int), v16 = .int .i64 x16_1 ∧ Aside0 (spec_GoodTerm.l0 kq l0 l0 (l0.length : Int) x16_1 = some r) ∧ Aside0 (kq ≤ k) ∧ Aside0 (Below w.heap.size w w'))
    case atStart => exact ⟨(0), (by first | rfl | (simp; done) | (simp [*]; done)), H', ⟨Nat.le_refl _⟩, ⟨by repeat (first | (with_reducible first | exact HB.out | apply below_alloc | apply pw_below_drewN | apply below_drew1) | exact HB.out)⟩⟩
    case round =>
      clear H'
      try clear c1
      try clear p2
      try clear c3
      obtain ⟨x16_1, rfl, HA, HK1, HB⟩ := hrel
      cases gk with
      | zero => exact absurd HA.out (by simp [spec_GoodTerm.l0])
      | succ k1 =>
        have H := HA.out
        clear HA
        simp only [spec_GoodTerm.l0] at H
        by_cases c4 : x16_1 < (l0.length : Int)
        · rw [if_pos c4] at H
          have c4b0 : decide (x16_1 < (l0.length : Int)) = true := decide_eq_true c4
          clear c4
          by_cases c5 : 0 ≤ x16_1
          · rw [if_pos c5] at H
            have c5b0 : decide (0 ≤ x16_1) = true := decide_eq_true c5
            clear c5
            by_cases c6 : x16_1 < (l0.length : Int)
            · rw [if_pos c6] at H
              have c6b0 : decide (x16_1 < (l0.length : Int)) = true := decide_eq_true c6
              clear c6
              have HC7 := Aside0.mk H
              clear H
              have p102 : 0 ≤ (x16_1 : Int) := of_decide_eq_true (by first | (with_reducible assumption) | assumption)
              have q102 : x16_1 < (l0.length : Int) := of_decide_eq_true (by first | (with_reducible assumption) | assumption)
              obtain ⟨ad102, e102, hx102_0, hx102_1, hx102_2⟩ := at_T62 HR0.out x16_1 p102 q102
              cases e102
              replace hx102_0 := (HB.out.cell (World.block_lt_of_cell? w _ hx102_0)).trans hx102_0
              replace hx102_1 := (HB.out.cell (World.block_lt_of_cell? w _ hx102_1)).trans hx102_1
              replace hx102_2 := (HB.out.cell (World.block_lt_of_cell? w _ hx102_2)).trans hx102_2
              replace p102 := eq_true p102
              replace q102 := eq_true q102
              go_upto_region 6 with (first | ((with_reducible refine gate_dst (N := 4) rfl ?_); (try (refine gate_guard (by rfl) ?_; dsimp only)); refine box_event ?hg (N := 4) ?hd (cs := #[.int .i64 0, .int .i64 0, .int .i64 0]) (t := 62) ?hr ?_; (case hd => rfl); (case hg => rfl); (case hr => first | (go_simp; done) | (go_simp; rfl)); intro gb103 hg w8 hbox hb; have n0_ := Aside0.mk (below_step (by repeat (first | (with_reducible first | exact HB.out | apply below_alloc | apply pw_below_drewN | apply below_drew1) | exact HB.out)) hb); have n1_ := Aside0.mk (hbox); have n2_ := Aside0.mk ((by rw [hg]; exact (below_size (by repeat (first | (with_reducible first | exact HB.out | apply below_alloc | apply pw_below_drewN | apply below_drew1) | exact HB.out))) : w.heap.size ≤ gb103)); have n3_ := Aside0.mk ((by rw [hg]; exact (below_size (by repeat (first | (with_reducible first | exact HB.out | apply below_alloc | apply pw_below_drewN | apply below_drew1) | exact HB.out))) : w.heap.size ≤ gb103)); clear HB; have HB := n0_; have BK103 := n1_; have GW103 := n2_; have GE103 := n3_; clear n0_ n1_ n2_ n3_; clear hb hbox hg; have hcz9_0 : w8.cell? ⟨gb103, 0, none⟩ = some (.int .i64 0) := (blk_cell BK103.out 0).trans rfl; have hcz9_1 : w8.cell? ⟨gb103, 1, none⟩ = some (.int .i64 0) := (blk_cell BK103.out 1).trans rfl; have hcz9_2 : w8.cell? ⟨gb103, 2, none⟩ = some (.int .i64 0) := (blk_cell BK103.out 2).trans rfl; have hfz9_0 := blk_frozen BK103.out 0; have hfz9_1 := blk_frozen BK103.out 1; have hfz9_2 := blk_frozen BK103.out 2))
              (try simp only [Act.put, List.setIfInBounds_toArray, List.set_cons_zero, List.set_cons_succ])
              go_cut [34] (fun v34 wc => ∃ (kq : Nat) (x34_6 : Bool), v34 = .bool x34_6 ∧ Aside0 (spec_GoodTerm.j1 kq l0 x16_1 l0 (l0.length : Int) x16_1 x34_6 ((rd_T62 l0 x16_1).f0) ((rd_T62 l0 x16_1).f1) ((rd_T62 l0 x16_1).f2) = some r) ∧ Aside0 (kq ≤ k1) ∧ Aside0 (wc.heap[gb103]? = some (.cells #[.int .i64 ((rd_T62 l0 x16_1).f0), .int .i64 ((rd_T62 l0 x16_1).f1), .int .i64 ((rd_T62 l0 x16_1).f2)] 62 (0, 0))) ∧ Aside0 (Below w.heap.size w wc))
              case first =>
                have H := HC7.out
                clear HC7
                by_cases c10 : ((x16_1 == 0) != (((rd_T62 l0 x16_1).f2) == (-1))) = true
                · rw [if_pos c10] at H
                  have c10b0 : ((x16_1 == 0) != (((rd_T62 l0 x16_1).f2) == (-1))) = true := c10
                  (try (have c10b1 : decide ((x16_1 == 0) = (((rd_T62 l0 x16_1).f2) == (-1))) = false := by simpa using c10))
                  (try (have c10b2 : ((x16_1 == 0) == (((rd_T62 l0 x16_1).f2) == (-1))) = false := by simpa using c10))
                  (try (have c10b3 : ¬ ((x16_1 == 0) = (((rd_T62 l0 x16_1).f2) == (-1))) := by simpa using c10))
                  clear c10
                  (first | rw [c10b0] | (simp only [i64_w, i32_w]; rw [c10b0]) | skip)
                  have H' := Aside0.mk H
                  clear H
                  have hcz11_0 : w8.cell? ⟨gb103, 0, none⟩ = some (.int .i64 0) := (blk_cell BK103.out 0).trans rfl
                  have hcz11_1 : w8.cell? ⟨gb103, 1, none⟩ = some (.int .i64 0) := (blk_cell BK103.out 1).trans rfl
                  have hcz11_2 : w8.cell? ⟨gb103, 2, none⟩ = some (.int .i64 0) := (blk_cell BK103.out 2).trans rfl
                  have hfz11_0 := blk_frozen BK103.out 0
                  have hfz11_1 := blk_frozen BK103.out 1
                  have hfz11_2 := blk_frozen BK103.out 2
                  go_wp2
                  go_meet
                  case rel => exact ⟨_, (true), (by first | rfl | (simp; done) | (simp [*]; done)), H', ⟨by have := HK1.out; first | omega | exact Nat.le_refl _⟩, ⟨by (with_reducible repeat (first | refine blk_drewN ?_ _ | refine blk_drew ?_ | refine blk_alloc ?_ _)); refine blk_put (cs := #[.int .i64 ((rd_T62 l0 x16_1).f0), .int .i64 ((rd_T62 l0 x16_1).f1), .int .i64 0]) ?_ 2 _ rfl; (with_reducible repeat (first | refine blk_drewN ?_ _ | refine blk_drew ?_ | refine blk_alloc ?_ _)); refine blk_put (cs := #[.int .i64 ((rd_T62 l0 x16_1).f0), .int .i64 0, .int .i64 0]) ?_ 1 _ rfl; (with_reducible repeat (first | refine blk_drewN ?_ _ | refine blk_drew ?_ | refine blk_alloc ?_ _)); refine blk_put (cs := #[.int .i64 0, .int .i64 0, .int .i64 0]) ?_ 0 _ rfl; (with_reducible repeat (first | refine blk_drewN ?_ _ | refine blk_drew ?_ | refine blk_alloc ?_ _)); exact BK103.out⟩, ⟨by repeat (first | (with_reducible first | exact HB.out | apply below_alloc | apply pw_below_drewN | apply below_drew1 | refine below_set ?_ GE103.out) | exact HB.out)⟩⟩
                · rw [if_neg c10] at H
                  have c10b0 : ((x16_1 == 0) != (((rd_T62 l0 x16_1).f2) == (-1))) = false := by simpa using c10
                  (try (have c10b1 : decide ((x16_1 == 0) = (((rd_T62 l0 x16_1).f2) == (-1))) = true := by simpa using c10))
                  (try (have c10b2 : ((x16_1 == 0) == (((rd_T62 l0 x16_1).f2) == (-1))) = true := by simpa using c10))
                  clear c10
                  (first | rw [c10b0] | (simp only [i64_w, i32_w]; rw [c10b0]) | skip)
                  replace H := Option.bind_eq_some_iff.mp H
                  obtain ⟨t104, A120, H⟩ := H
                  replace H : (spec_GoodTerm.j1 k1 l0 x16_1 l0 (l0.length : Int) x16_1 (!t104) ((rd_T62 l0 x16_1).f0) ((rd_T62 l0 x16_1).f1) ((rd_T62 l0 x16_1).f2)) = some r := H
                  have A12 := Aside0.mk A120
                  clear A120
                  have H' := Aside0.mk H
                  clear H
                  have hcz13_0 : w8.cell? ⟨gb103, 0, none⟩ = some (.int .i64 0) := (blk_cell BK103.out 0).trans rfl
                  have hcz13_1 : w8.cell? ⟨gb103, 1, none⟩ = some (.int .i64 0) := (blk_cell BK103.out 1).trans rfl
                  have hcz13_2 : w8.cell? ⟨gb103, 2, none⟩ = some (.int .i64 0) := (blk_cell BK103.out 2).trans rfl
                  have hfz13_0 := blk_frozen BK103.out 0
                  have hfz13_1 := blk_frozen BK103.out 1
                  have hfz13_2 := blk_frozen BK103.out 2
                  go_wp2_with (first | (go_at_call 39; (with_reducible refine (spec_l1In.calls ((rd_T62 l0 x16_1).f2) (-1) (wrap64 (x16_1 - 1)) t104 _ A12.out).mono ?_); rintro e w' ⟨rfl, ⟨nd, rfl⟩⟩))
                  go_meet
                  case rel => exact ⟨_, (!t104), (by first | rfl | (simp; done) | (simp [*]; done)), H', ⟨by have := HK1.out; first | omega | exact Nat.le_refl _⟩, ⟨by (with_reducible repeat (first | refine blk_drewN ?_ _ | refine blk_drew ?_ | refine blk_alloc ?_ _)); refine blk_put (cs := #[.int .i64 ((rd_T62 l0 x16_1).f0), .int .i64 ((rd_T62 l0 x16_1).f1), .int .i64 0]) ?_ 2 _ rfl; (with_reducible repeat (first | refine blk_drewN ?_ _ | refine blk_drew ?_ | refine blk_alloc ?_ _)); refine blk_put (cs := #[.int .i64 ((rd_T62 l0 x16_1).f0), .int .i64 0, .int .i64 0]) ?_ 1 _ rfl; (with_reducible repeat (first | refine blk_drewN ?_ _ | refine blk_drew ?_ | refine blk_alloc ?_ _)); refine blk_put (cs := #[.int .i64 0, .int .i64 0, .int .i64 0]) ?_ 0 _ rfl; (with_reducible repeat (first | refine blk_drewN ?_ _ | refine blk_drew ?_ | refine blk_alloc ?_ _)); exact BK103.out⟩, ⟨by repeat (first | (with_reducible first | exact HB.out | apply below_alloc | apply pw_below_drewN | apply below_drew1 | refine below_set ?_ GE103.out) | exact HB.out)⟩⟩
              case rest =>
                clear HC7
                try clear c1
                try clear p1
                try clear q1
                try clear hx1
                try clear p2
                try clear c3
                try clear c4
                try clear c4b0
                try clear c5
                try clear c5b0
                try clear c6
                try clear c6b0
                try clear p6
                try clear c10
                try clear c10b0
                try clear c10b1
                try clear c10b2
                try clear p10
                try clear q10
                try clear hx10
                try clear hcz11_0
                try clear hcz11_1
                try clear hcz11_2
                try clear hcz13_0
                try clear hcz13_1
                try clear hcz13_2
                try clear hcz9_0
                try clear hcz9_1
                try clear hcz9_2
                try clear hfz11_0
                try clear hfz11_1
                try clear hfz11_2
                try clear hfz13_0
                try clear hfz13_1
                try clear hfz13_2
                try clear hfz9_0
                try clear hfz9_1
                try clear hfz9_2
                try clear hx102_0
                try clear hx102_1
                try clear hx102_2
                try clear p102
                try clear p2
                try clear q102
                obtain ⟨kq, x34_6, rfl, HA, HJ6, BK103, HB⟩ := hcut
                cases kq with
                | zero => exact absurd HA.out (by simp [spec_GoodTerm.j1])
                | succ kj6 =>
                  have H := HA.out
                  clear HA
                  simp only [spec_GoodTerm.j1] at H
                  by_cases c14 : x34_6 = true
                  · subst c14
                    have H1 : (some false) = some r := by rw [if_pos rfl] at H; exact H
                    clear H
                    have H := H1
                    clear H1
                    obtain rfl := Option.some.inj H
                    go_wp2
                    go_ret
                    exact ⟨by first | rfl | (simp [errW_none, errW_some] <;> rfl) | (simp [*, errW_none, errW_some] <;> rfl), by repeat (first | (with_reducible first | exact HB.out | apply below_alloc | apply pw_below_drewN | apply below_drew1 | refine below_set ?_ GE103.out) | exact HB.out)⟩
                  · replace c14 := Bool.eq_false_iff.mpr c14
                    subst c14
                    have H1 : (spec_GoodTerm.l1 kj6 l0 x16_1 (x16_1 == 0) (wrap64 (x16_1 - 1)) l0 (l0.length : Int) x16_1 ((rd_T62 l0 x16_1).f0) ((rd_T62 l0 x16_1).f1) ((rd_T62 l0 x16_1).f2)) = some r := by rw [if_neg (show ¬ (false = true) by decide)] at H; exact H
                    clear H
                    have H := H1
                    clear H1
                    have HC15 := Aside0.mk H
                    clear H
                    go_upto_block 2 with (fail)
                    go_cut [5] (fun v5 wc => ∃ (kq : Nat) (x5_14 : Bool), v5 = .bool x5_14 ∧ Aside0 (spec_GoodTerm.j3 kq l0 x16_1 x5_14 l0 (l0.length : Int) x16_1 ((rd_T62 l0 x16_1).f0) ((rd_T62 l0 x16_1).f1) ((rd_T62 l0 x16_1).f2) = some r) ∧ Aside0 (kq ≤ kj6) ∧ Aside0 (wc.heap[gb103]? = some (.cells #[.int .i64 ((rd_T62 l0 x16_1).f0), .int .i64 ((rd_T62 l0 x16_1).f1), .int .i64 ((rd_T62 l0 x16_1).f2)] 62 (0, 0))) ∧ Aside0 (Below w.heap.size w wc))
                    case first =>
                      have H := HC15.out
                      clear HC15
                      have H' := Aside0.mk H
                      clear H
                      go_wp2
                      go_loopg [5, 6] kj6 (fun kq v5 v6 w' => ∃ (x5_3 : Bool) (x6_3 : Int), v5 = .bool x5_3 ∧ v6 = .int .i64 x6_3 ∧ Aside0 (spec_GoodTerm.l1 kq l0 x16_1 x5_3 x6_3 l0 (l0.length : Int) x16_1 ((rd_T62 l0 x16_1).f0) ((rd_T62 l0 x16_1).f1) ((rd_T62 l0 x16_1).f2) = some r) ∧ Aside0 (kq ≤ kj6) ∧ Aside0 (w'.heap[gb103]? = some (.cells #[.int .i64 ((rd_T62 l0 x16_1).f0), .int .i64 ((rd_T62 l0 x16_1).f1), .int .i64 ((rd_T62 l0 x16_1).f2)] 62 (0, 0))) ∧ Aside0 (Below w.heap.size w w'))
                      case atStart => exact ⟨((x16_1 == 0)), (wrap64 (x16_1 - 1)), (by first | rfl | (simp; done) | (simp [*]; done)), (by first | rfl | (simp; done) | (simp [*]; done)), H', ⟨Nat.le_refl _⟩, ⟨by (with_reducible repeat (first | refine blk_drewN ?_ _ | refine blk_drew ?_ | refine blk_alloc ?_ _)); exact BK103.out⟩, ⟨by repeat (first | (with_reducible first | exact HB.out | apply below_alloc | apply pw_below_drewN | apply below_drew1 | refine below_set ?_ GE103.out) | exact HB.out)⟩⟩
                      case round =>
                        clear H'
                        try clear c1
                        try clear p1
                        try clear q1
                        try clear hx1
                        try clear p2
                        try clear c3
                        try clear c4
                        try clear c4b0
                        try clear c5
                        try clear c5b0
                        try clear c6
                        try clear c6b0
                        try clear p6
                        try clear c10
                        try clear c10b0
                        try clear c10b1
                        try clear c10b2
                        try clear p10
                        try clear q10
                        try clear hx10
                        try clear c14
                        try clear hcz11_0
                        try clear hcz11_1
                        try clear hcz11_2
                        try clear hcz13_0
                        try clear hcz13_1
                        try clear hcz13_2
                        try clear hcz9_0
                        try clear hcz9_1
                        try clear hcz9_2
                        try clear hfz11_0
                        try clear hfz11_1
                        try clear hfz11_2
                        try clear hfz13_0
                        try clear hfz13_1
                        try clear hfz13_2
                        try clear hfz9_0
                        try clear hfz9_1
                        try clear hfz9_2
                        try clear hx102_0
                        try clear hx102_1
                        try clear hx102_2
                        try clear p1
                        try clear p10
                        try clear p102
                        try clear p2
                        try clear p6
                        try clear q1
                        try clear q10
                        try clear q102
                        obtain ⟨x5_3, x6_3, rfl, rfl, HA, HK3, BK103, HB⟩ := hrel
                        cases gk with
                        | zero => exact absurd HA.out (by simp [spec_GoodTerm.l1])
                        | succ k3 =>
                          have H := HA.out
                          clear HA
                          simp only [spec_GoodTerm.l1] at H
                          by_cases c16 : x6_3 ≥ 0
                          · rw [if_pos c16] at H
                            have c16b0 : decide (0 ≤ x6_3) = true := decide_eq_true c16
                            clear c16
                            (first | rw [c16b0] | (simp only [i64_w, i32_w]; rw [c16b0]) | skip)
                            by_cases c17 : x5_3 = true
                            · subst c17
                              have H1 : (spec_GoodTerm.j3 k3 l0 x16_1 true l0 (l0.length : Int) x16_1 ((rd_T62 l0 x16_1).f0) ((rd_T62 l0 x16_1).f1) ((rd_T62 l0 x16_1).f2)) = some r := by rw [if_pos rfl] at H; exact H
                              clear H
                              have H := H1
                              clear H1
                              have H' := Aside0.mk H
                              clear H
                              go_wp2
                              go_meet
                              case rel => exact ⟨_, (true), (by first | rfl | (simp; done) | (simp [*]; done)), H', ⟨by have := HK1.out; have := HJ6.out; have := HK3.out; first | omega | exact Nat.le_refl _⟩, ⟨by (with_reducible repeat (first | refine blk_drewN ?_ _ | refine blk_drew ?_ | refine blk_alloc ?_ _)); exact BK103.out⟩, ⟨by repeat (first | (with_reducible first | exact HB.out | apply below_alloc | apply pw_below_drewN | apply below_drew1 | refine below_set ?_ GE103.out) | exact HB.out)⟩⟩
                            · replace c17 := Bool.eq_false_iff.mpr c17
                              subst c17
                              have H1 : (if 0 ≤ x6_3 then (if x6_3 < (l0.length : Int) then (spec_GoodTerm.l1 k3 l0 x16_1 (x6_3 == ((rd_T62 l0 x16_1).f2)) ((rd_T62 l0 x6_3).f2) l0 (l0.length : Int) x16_1 ((rd_T62 l0 x16_1).f0) ((rd_T62 l0 x16_1).f1) ((rd_T62 l0 x16_1).f2)) else (none)) else (none)) = some r := by rw [if_neg (show ¬ (false = true) by decide)] at H; exact H
                              clear H
                              have H := H1
                              clear H1
                              by_cases c18 : 0 ≤ x6_3
                              · rw [if_pos c18] at H
                                have c18b0 : decide (0 ≤ x6_3) = true := decide_eq_true c18
                                clear c18
                                by_cases c19 : x6_3 < (l0.length : Int)
                                · rw [if_pos c19] at H
                                  have c19b0 : decide (x6_3 < (l0.length : Int)) = true := decide_eq_true c19
                                  clear c19
                                  have H' := Aside0.mk H
                                  clear H
                                  have hcz20_0 : wr.cell? ⟨gb103, 0, none⟩ = some (.int .i64 ((rd_T62 l0 x16_1).f0)) := (blk_cell BK103.out 0).trans rfl
                                  have hcz20_1 : wr.cell? ⟨gb103, 1, none⟩ = some (.int .i64 ((rd_T62 l0 x16_1).f1)) := (blk_cell BK103.out 1).trans rfl
                                  have hcz20_2 : wr.cell? ⟨gb103, 2, none⟩ = some (.int .i64 ((rd_T62 l0 x16_1).f2)) := (blk_cell BK103.out 2).trans rfl
                                  have hfz20_0 := blk_frozen BK103.out 0
                                  have hfz20_1 := blk_frozen BK103.out 1
                                  have hfz20_2 := blk_frozen BK103.out 2
                                  have p105 : 0 ≤ (x6_3 : Int) := of_decide_eq_true (by first | (with_reducible assumption) | assumption)
                                  have q105 : x6_3 < (l0.length : Int) := of_decide_eq_true (by first | (with_reducible assumption) | assumption)
                                  obtain ⟨ad105, e105, hx105_0, hx105_1, hx105_2⟩ := at_T62 HR0.out x6_3 p105 q105
                                  obtain rfl : ad102 = ad105 := (by injection e105)
                                  replace hx105_0 := (HB.out.cell (World.block_lt_of_cell? w _ hx105_0)).trans hx105_0
                                  replace hx105_1 := (HB.out.cell (World.block_lt_of_cell? w _ hx105_1)).trans hx105_1
                                  replace hx105_2 := (HB.out.cell (World.block_lt_of_cell? w _ hx105_2)).trans hx105_2
                                  replace p105 := eq_true p105
                                  replace q105 := eq_true q105
                                  go_wp2
                                  go_roundg k3
                                  case measure => have := HK1.out; have := HJ6.out; have := HK3.out; omega
                                  case rel => exact ⟨((x6_3 == ((rd_T62 l0 x16_1).f2))), ((rd_T62 l0 x6_3).f2), (by first | rfl | (simp; done) | (simp [*]; done)), (by first | rfl | (simp; done) | (simp [*]; done)), H', ⟨by have := HK1.out; have := HJ6.out; have := HK3.out; omega⟩, ⟨by (with_reducible repeat (first | refine blk_drewN ?_ _ | refine blk_drew ?_ | refine blk_alloc ?_ _)); exact BK103.out⟩, ⟨by repeat (first | (with_reducible first | exact HB.out | apply below_alloc | apply pw_below_drewN | apply below_drew1 | refine below_set ?_ GE103.out) | exact HB.out)⟩⟩
                                · rw [if_neg c19] at H
                                  exact absurd H (by simp)
                              · rw [if_neg c18] at H
                                exact absurd H (by simp)
                          · rw [if_neg c16] at H
                            have c16b0 : decide (0 ≤ x6_3) = false := decide_eq_false c16
                            clear c16
                            (first | rw [c16b0] | (simp only [i64_w, i32_w]; rw [c16b0]) | skip)
                            have H' := Aside0.mk H
                            clear H
                            go_wp2
                            go_meet
                            case rel => exact ⟨_, (x5_3), (by first | rfl | (simp; done) | (simp [*]; done)), H', ⟨by have := HK1.out; have := HJ6.out; have := HK3.out; first | omega | exact Nat.le_refl _⟩, ⟨by (with_reducible repeat (first | refine blk_drewN ?_ _ | refine blk_drew ?_ | refine blk_alloc ?_ _)); exact BK103.out⟩, ⟨by repeat (first | (with_reducible first | exact HB.out | apply below_alloc | apply pw_below_drewN | apply below_drew1 | refine below_set ?_ GE103.out) | exact HB.out)⟩⟩
                    case rest =>
                      clear HC15
                      try clear c1
                      try clear p1
                      try clear q1
                      try clear hx1
                      try clear p2
                      try clear c3
                      try clear c4
                      try clear c4b0
                      try clear c5
                      try clear c5b0
                      try clear c6
                      try clear c6b0
                      try clear p6
                      try clear c10
                      try clear c10b0
                      try clear c10b1
                      try clear c10b2
                      try clear p10
                      try clear q10
                      try clear hx10
                      try clear c14
                      try clear c16
                      try clear c16b0
                      try clear c17
                      try clear c18
                      try clear c18b0
                      try clear c19
                      try clear c19b0
                      try clear hcz11_0
                      try clear hcz11_1
                      try clear hcz11_2
                      try clear hcz13_0
                      try clear hcz13_1
                      try clear hcz13_2
                      try clear hcz20_0
                      try clear hcz20_1
                      try clear hcz20_2
                      try clear hcz9_0
                      try clear hcz9_1
                      try clear hcz9_2
                      try clear hfz11_0
                      try clear hfz11_1
                      try clear hfz11_2
                      try clear hfz13_0
                      try clear hfz13_1
                      try clear hfz13_2
                      try clear hfz20_0
                      try clear hfz20_1
                      try clear hfz20_2
                      try clear hfz9_0
                      try clear hfz9_1
                      try clear hfz9_2
                      try clear hx102_0
                      try clear hx102_1
                      try clear hx102_2
                      try clear hx105_0
                      try clear hx105_1
                      try clear hx105_2
                      try clear p1
                      try clear p10
                      try clear p102
                      try clear p105
                      try clear p2
                      try clear p6
                      try clear q1
                      try clear q10
                      try clear q102
                      try clear q105
                      obtain ⟨kq, x5_14, rfl, HA, HJ14, BK103, HB⟩ := hcut
                      cases kq with
                      | zero => exact absurd HA.out (by simp [spec_GoodTerm.j3])
                      | succ kj14 =>
                        have H := HA.out
                        clear HA
                        simp only [spec_GoodTerm.j3] at H
                        have H' := Aside0.mk H
                        clear H
                        go_wp2
                        go_loopg [7, 8] kj14 (fun kq v7 v8 w' => ∃ (x7_4 : Int) (x8_4 : Int), v7 = .int .i64 x7_4 ∧ v8 = .int .i64 x8_4 ∧ Aside0 (spec_GoodTerm.l2 kq l0 x16_1 x5_14 x7_4 x8_4 l0 (l0.length : Int) x16_1 ((rd_T62 l0 x16_1).f0) ((rd_T62 l0 x16_1).f1) ((rd_T62 l0 x16_1).f2) = some r) ∧ Aside0 (kq ≤ kj14) ∧ Aside0 (w'.heap[gb103]? = some (.cells #[.int .i64 ((rd_T62 l0 x16_1).f0), .int .i64 ((rd_T62 l0 x16_1).f1), .int .i64 ((rd_T62 l0 x16_1).f2)] 62 (0, 0))) ∧ Aside0 (Below w.heap.size w w'))
                        case atStart => exact ⟨(0), (x16_1), (by first | rfl | (simp; done) | (simp [*]; done)), (by first | rfl | (simp; done) | (simp [*]; done)), H', ⟨Nat.le_refl _⟩, ⟨by (with_reducible repeat (first | refine blk_drewN ?_ _ | refine blk_drew ?_ | refine blk_alloc ?_ _)); exact BK103.out⟩, ⟨by repeat (first | (with_reducible first | exact HB.out | apply below_alloc | apply pw_below_drewN | apply below_drew1 | refine below_set ?_ GE103.out) | exact HB.out)⟩⟩
                        case round =>
                          clear H'
                          try clear c1
                          try clear p1
                          try clear q1
                          try clear hx1
                          try clear p2
                          try clear c3
                          try clear c4
                          try clear c4b0
                          try clear c5
                          try clear c5b0
                          try clear c6
                          try clear c6b0
                          try clear p6
                          try clear c10
                          try clear c10b0
                          try clear c10b1
                          try clear c10b2
                          try clear p10
                          try clear q10
                          try clear hx10
                          try clear c14
                          try clear c16
                          try clear c16b0
                          try clear c17
                          try clear c18
                          try clear c18b0
                          try clear c19
                          try clear c19b0
                          try clear hcz11_0
                          try clear hcz11_1
                          try clear hcz11_2
                          try clear hcz13_0
                          try clear hcz13_1
                          try clear hcz13_2
                          try clear hcz20_0
                          try clear hcz20_1
                          try clear hcz20_2
                          try clear hcz9_0
                          try clear hcz9_1
                          try clear hcz9_2
                          try clear hfz11_0
                          try clear hfz11_1
                          try clear hfz11_2
                          try clear hfz13_0
                          try clear hfz13_1
                          try clear hfz13_2
                          try clear hfz20_0
                          try clear hfz20_1
                          try clear hfz20_2
                          try clear hfz9_0
                          try clear hfz9_1
                          try clear hfz9_2
                          try clear hx102_0
                          try clear hx102_1
                          try clear hx102_2
                          try clear hx105_0
                          try clear hx105_1
                          try clear hx105_2
                          try clear p1
                          try clear p10
                          try clear p102
                          try clear p105
                          try clear p2
                          try clear p6
                          try clear q1
                          try clear q10
                          try clear q102
                          try clear q105
                          obtain ⟨x7_4, x8_4, rfl, rfl, HA, HK4, BK103, HB⟩ := hrel
                          cases gk with
                          | zero => exact absurd HA.out (by simp [spec_GoodTerm.l2])
                          | succ k4 =>
                            have H := HA.out
                            clear HA
                            simp only [spec_GoodTerm.l2] at H
                            by_cases c21 : x8_4 ≥ 0
                            · rw [if_pos c21] at H
                              have c21b0 : decide (0 ≤ x8_4) = true := decide_eq_true c21
                              clear c21
                              by_cases c22 : 0 ≤ x8_4
                              · rw [if_pos c22] at H
                                have c22b0 : decide (0 ≤ x8_4) = true := decide_eq_true c22
                                clear c22
                                by_cases c23 : x8_4 < (l0.length : Int)
                                · rw [if_pos c23] at H
                                  have c23b0 : decide (x8_4 < (l0.length : Int)) = true := decide_eq_true c23
                                  clear c23
                                  have H' := Aside0.mk H
                                  clear H
                                  have p106 : 0 ≤ (x8_4 : Int) := of_decide_eq_true (by first | (with_reducible assumption) | assumption)
                                  have q106 : x8_4 < (l0.length : Int) := of_decide_eq_true (by first | (with_reducible assumption) | assumption)
                                  obtain ⟨ad106, e106, hx106_0, hx106_1, hx106_2⟩ := at_T62 HR0.out x8_4 p106 q106
                                  obtain rfl : ad102 = ad106 := (by injection e106)
                                  replace hx106_0 := (HB.out.cell (World.block_lt_of_cell? w _ hx106_0)).trans hx106_0
                                  replace hx106_1 := (HB.out.cell (World.block_lt_of_cell? w _ hx106_1)).trans hx106_1
                                  replace hx106_2 := (HB.out.cell (World.block_lt_of_cell? w _ hx106_2)).trans hx106_2
                                  replace p106 := eq_true p106
                                  replace q106 := eq_true q106
                                  go_wp2
                                  go_roundg k4
                                  case measure => have := HK1.out; have := HJ6.out; have := HJ14.out; have := HK4.out; omega
                                  case rel => exact ⟨(wrap64 (x7_4 + 1)), ((rd_T62 l0 x8_4).f2), (by first | rfl | (simp; done) | (simp [*]; done)), (by first | rfl | (simp; done) | (simp [*]; done)), H', ⟨by have := HK1.out; have := HJ6.out; have := HJ14.out; have := HK4.out; omega⟩, ⟨by (with_reducible repeat (first | refine blk_drewN ?_ _ | refine blk_drew ?_ | refine blk_alloc ?_ _)); exact BK103.out⟩, ⟨by repeat (first | (with_reducible first | exact HB.out | apply below_alloc | apply pw_below_drewN | apply below_drew1 | refine below_set ?_ GE103.out) | exact HB.out)⟩⟩
                                · rw [if_neg c23] at H
                                  exact absurd H (by simp)
                              · rw [if_neg c22] at H
                                exact absurd H (by simp)
                            · rw [if_neg c21] at H
                              have c21b0 : decide (0 ≤ x8_4) = false := decide_eq_false c21
                              clear c21
                              have HC24 := Aside0.mk H
                              clear H
                              have hcz25_0 : wr.cell? ⟨gb103, 0, none⟩ = some (.int .i64 ((rd_T62 l0 x16_1).f0)) := (blk_cell BK103.out 0).trans rfl
                              have hcz25_1 : wr.cell? ⟨gb103, 1, none⟩ = some (.int .i64 ((rd_T62 l0 x16_1).f1)) := (blk_cell BK103.out 1).trans rfl
                              have hcz25_2 : wr.cell? ⟨gb103, 2, none⟩ = some (.int .i64 ((rd_T62 l0 x16_1).f2)) := (blk_cell BK103.out 2).trans rfl
                              have hfz25_0 := blk_frozen BK103.out 0
                              have hfz25_1 := blk_frozen BK103.out 1
                              have hfz25_2 := blk_frozen BK103.out 2
                              go_upto_block 6 with (fail)
                              go_cut [9] (fun v9 wc => ∃ (kq : Nat) (x9_23 : Int), v9 = .int .i64 x9_23 ∧ Aside0 (spec_GoodTerm.j5 kq l0 x16_1 x5_14 x7_4 x9_23 l0 (l0.length : Int) x16_1 ((rd_T62 l0 x16_1).f0) ((rd_T62 l0 x16_1).f1) ((rd_T62 l0 x16_1).f2) = some r) ∧ Aside0 (kq ≤ k4) ∧ Aside0 (wc.heap[gb103]? = some (.cells #[.int .i64 ((rd_T62 l0 x16_1).f0), .int .i64 ((rd_T62 l0 x16_1).f1), .int .i64 ((rd_T62 l0 x16_1).f2)] 62 (0, 0))) ∧ Aside0 (Below w.heap.size w wc))
                              case first =>
                                have H := HC24.out
                                clear HC24
                                by_cases c26 : ((rd_T62 l0 x16_1).f0) = 1
                                · rw [if_pos c26] at H
                                  have c26b0 : (((rd_T62 l0 x16_1).f0) == 1) = true := beq_iff_eq.mpr c26
                                  have c26b1 : (((rd_T62 l0 x16_1).f0) != 1) = false := bne_eq_false_iff_eq.mpr c26
                                  clear c26
                                  (first | rw [c26b0] | (simp only [i64_w, i32_w]; rw [c26b0]) | skip)
                                  have H' := Aside0.mk H
                                  clear H
                                  go_wp2
                                  go_meet
                                  case rel => exact ⟨_, (0), (by first | rfl | (simp; done) | (simp [*]; done)), H', ⟨by have := HK1.out; have := HJ6.out; have := HJ14.out; have := HK4.out; first | omega | exact Nat.le_refl _⟩, ⟨by (with_reducible repeat (first | refine blk_drewN ?_ _ | refine blk_drew ?_ | refine blk_alloc ?_ _)); exact BK103.out⟩, ⟨by repeat (first | (with_reducible first | exact HB.out | apply below_alloc | apply pw_below_drewN | apply below_drew1 | refine below_set ?_ GE103.out) | exact HB.out)⟩⟩
                                · rw [if_neg c26] at H
                                  have c26b0 : (((rd_T62 l0 x16_1).f0) == 1) = false := beq_eq_false_iff_ne.mpr c26
                                  have c26b1 : (((rd_T62 l0 x16_1).f0) != 1) = true := bne_iff_ne.mpr c26
                                  (first | rw [c26b0] | (simp only [i64_w, i32_w]; rw [c26b0]) | skip)
                                  by_cases c27 : ((rd_T62 l0 x16_1).f0) = 2
                                  · rw [if_pos c27] at H
                                    have c27b0 : (((rd_T62 l0 x16_1).f0) == 2) = true := beq_iff_eq.mpr c27
                                    have c27b1 : (((rd_T62 l0 x16_1).f0) != 2) = false := bne_eq_false_iff_eq.mpr c27
                                    clear c27
                                    have H' := Aside0.mk H
                                    clear H
                                    go_wp2
                                    go_meet
                                    case rel => exact ⟨_, (1), (by first | rfl | (simp; done) | (simp [*]; done)), H', ⟨by have := HK1.out; have := HJ6.out; have := HJ14.out; have := HK4.out; first | omega | exact Nat.le_refl _⟩, ⟨by (with_reducible repeat (first | refine blk_drewN ?_ _ | refine blk_drew ?_ | refine blk_alloc ?_ _)); exact BK103.out⟩, ⟨by repeat (first | (with_reducible first | exact HB.out | apply below_alloc | apply pw_below_drewN | apply below_drew1 | refine below_set ?_ GE103.out) | exact HB.out)⟩⟩
                                  · rw [if_neg c27] at H
                                    have c27b0 : (((rd_T62 l0 x16_1).f0) == 2) = false := beq_eq_false_iff_ne.mpr c27
                                    have c27b1 : (((rd_T62 l0 x16_1).f0) != 2) = true := bne_iff_ne.mpr c27
                                    by_cases c28 : ((rd_T62 l0 x16_1).f0) = 3
                                    · rw [if_pos c28] at H
                                      have c28b0 : (((rd_T62 l0 x16_1).f0) == 3) = true := beq_iff_eq.mpr c28
                                      have c28b1 : (((rd_T62 l0 x16_1).f0) != 3) = false := bne_eq_false_iff_eq.mpr c28
                                      clear c28
                                      have H' := Aside0.mk H
                                      clear H
                                      go_wp2
                                      go_meet
                                      case rel => exact ⟨_, (2), (by first | rfl | (simp; done) | (simp [*]; done)), H', ⟨by have := HK1.out; have := HJ6.out; have := HJ14.out; have := HK4.out; first | omega | exact Nat.le_refl _⟩, ⟨by (with_reducible repeat (first | refine blk_drewN ?_ _ | refine blk_drew ?_ | refine blk_alloc ?_ _)); exact BK103.out⟩, ⟨by repeat (first | (with_reducible first | exact HB.out | apply below_alloc | apply pw_below_drewN | apply below_drew1 | refine below_set ?_ GE103.out) | exact HB.out)⟩⟩
                                    · rw [if_neg c28] at H
                                      have c28b0 : (((rd_T62 l0 x16_1).f0) == 3) = false := beq_eq_false_iff_ne.mpr c28
                                      have c28b1 : (((rd_T62 l0 x16_1).f0) != 3) = true := bne_iff_ne.mpr c28
                                      obtain rfl := Option.some.inj H
                                      go_wp2
                                      go_ret
                                      exact ⟨by first | rfl | (simp [errW_none, errW_some] <;> rfl) | (simp [*, errW_none, errW_some] <;> rfl), by repeat (first | (with_reducible first | exact HB.out | apply below_alloc | apply pw_below_drewN | apply below_drew1 | refine below_set ?_ GE103.out) | exact HB.out)⟩
                              case rest =>
                                clear HC24
                                try clear c1
                                try clear p1
                                try clear q1
                                try clear hx1
                                try clear c2
                                try clear p2
                                try clear c3
                                try clear c4
                                try clear c4b0
                                try clear c5
                                try clear c5b0
                                try clear c6
                                try clear c6b0
                                try clear p6
                                try clear c10
                                try clear c10b0
                                try clear c10b1
                                try clear c10b2
                                try clear p10
                                try clear q10
                                try clear hx10
                                try clear c14
                                try clear c16
                                try clear c16b0
                                try clear c17
                                try clear c18
                                try clear c18b0
                                try clear c19
                                try clear c19b0
                                try clear c21
                                try clear c21b0
                                try clear c22
                                try clear c22b0
                                try clear c23
                                try clear c23b0
                                try clear c26
                                try clear c26b0
                                try clear c26b1
                                try clear c27
                                try clear c27b0
                                try clear c27b1
                                try clear c28
                                try clear c28b0
                                try clear c28b1
                                try clear hcz11_0
                                try clear hcz11_1
                                try clear hcz11_2
                                try clear hcz13_0
                                try clear hcz13_1
                                try clear hcz13_2
                                try clear hcz20_0
                                try clear hcz20_1
                                try clear hcz20_2
                                try clear hcz25_0
                                try clear hcz25_1
                                try clear hcz25_2
                                try clear hcz9_0
                                try clear hcz9_1
                                try clear hcz9_2
                                try clear hfz11_0
                                try clear hfz11_1
                                try clear hfz11_2
                                try clear hfz13_0
                                try clear hfz13_1
                                try clear hfz13_2
                                try clear hfz20_0
                                try clear hfz20_1
                                try clear hfz20_2
                                try clear hfz25_0
                                try clear hfz25_1
                                try clear hfz25_2
                                try clear hfz9_0
                                try clear hfz9_1
                                try clear hfz9_2
                                try clear hx102_0
                                try clear hx102_1
                                try clear hx102_2
                                try clear hx105_0
                                try clear hx105_1
                                try clear hx105_2
                                try clear hx106_0
                                try clear hx106_1
                                try clear hx106_2
                                try clear p1
                                try clear p10
                                try clear p102
                                try clear p105
                                try clear p106
                                try clear p2
                                try clear p6
                                try clear q1
                                try clear q10
                                try clear q102
                                try clear q105
                                try clear q106
                                obtain ⟨kq, x9_23, rfl, HA, HJ23, BK103, HB⟩ := hcut
                                cases kq with
                                | zero => exact absurd HA.out (by simp [spec_GoodTerm.j5])
                                | succ kj23 =>
                                  have H := HA.out
                                  clear HA
                                  simp only [spec_GoodTerm.j5] at H
                                  by_cases c29 : x5_14 = true
                                  · subst c29
                                    have H1 : (if x7_4 > 40 then (some false) else ((spec_lcParts.f kj23 l0 x16_1).bind fun t107 => (if (t107.length : Int) = x9_23 then ((spec_l1In.f ((rd_T62 l0 x16_1).f1) 0 99).bind fun t110 => (if t110 = true then (if ((rd_T62 l0 x16_1).f0) = 1 then (spec_GoodTerm.l0 kj23 l0 l0 (l0.length : Int) (wrap64 (x16_1 + 1))) else (if ((rd_T62 l0 x16_1).f1) = 0 then (spec_GoodTerm.l0 kj23 l0 l0 (l0.length : Int) (wrap64 (x16_1 + 1))) else (some false))) else (some false))) else (some false)))) = some r := by rw [if_pos rfl] at H; exact H
                                    clear H
                                    have H := H1
                                    clear H1
                                    by_cases c30 : x7_4 > 40
                                    · rw [if_pos c30] at H
                                      have c30b0 : decide (40 < x7_4) = true := decide_eq_true c30
                                      clear c30
                                      obtain rfl := Option.some.inj H
                                      go_wp2
                                      go_ret
                                      exact ⟨by first | rfl | (simp [errW_none, errW_some] <;> rfl) | (simp [*, errW_none, errW_some] <;> rfl), by repeat (first | (with_reducible first | exact HB.out | apply below_alloc | apply pw_below_drewN | apply below_drew1 | refine below_set ?_ GE103.out) | exact HB.out)⟩
                                    · rw [if_neg c30] at H
                                      have c30b0 : decide (40 < x7_4) = false := decide_eq_false c30
                                      clear c30
                                      replace H := Option.bind_eq_some_iff.mp H
                                      obtain ⟨t107, A310, H⟩ := H
                                      replace H : (if (t107.length : Int) = x9_23 then ((spec_l1In.f ((rd_T62 l0 x16_1).f1) 0 99).bind fun t110 => (if t110 = true then (if ((rd_T62 l0 x16_1).f0) = 1 then (spec_GoodTerm.l0 kj23 l0 l0 (l0.length : Int) (wrap64 (x16_1 + 1))) else (if ((rd_T62 l0 x16_1).f1) = 0 then (spec_GoodTerm.l0 kj23 l0 l0 (l0.length : Int) (wrap64 (x16_1 + 1))) else (some false))) else (some false))) else (some false)) = some r := H
                                      have A31 := Aside0.mk A310
                                      clear A310
                                      by_cases c32 : (t107.length : Int) = x9_23
                                      · rw [if_pos c32] at H
                                        have c32b0 : ((t107.length : Int) == x9_23) = true := beq_iff_eq.mpr c32
                                        have c32b1 : ((t107.length : Int) != x9_23) = false := bne_eq_false_iff_eq.mpr c32
                                        clear c32
                                        replace H := Option.bind_eq_some_iff.mp H
                                        obtain ⟨t110, A330, H⟩ := H
                                        replace H : (if t110 = true then (if ((rd_T62 l0 x16_1).f0) = 1 then (spec_GoodTerm.l0 kj23 l0 l0 (l0.length : Int) (wrap64 (x16_1 + 1))) else (if ((rd_T62 l0 x16_1).f1) = 0 then (spec_GoodTerm.l0 kj23 l0 l0 (l0.length : Int) (wrap64 (x16_1 + 1))) else (some false))) else (some false)) = some r := H
                                        have A33 := Aside0.mk A330
                                        clear A330
                                        by_cases c34 : t110 = true
                                        · subst c34
                                          have H1 : (if ((rd_T62 l0 x16_1).f0) = 1 then (spec_GoodTerm.l0 kj23 l0 l0 (l0.length : Int) (wrap64 (x16_1 + 1))) else (if ((rd_T62 l0 x16_1).f1) = 0 then (spec_GoodTerm.l0 kj23 l0 l0 (l0.length : Int) (wrap64 (x16_1 + 1))) else (some false))) = some r := by rw [if_pos rfl] at H; exact H
                                          clear H
                                          have H := H1
                                          clear H1
                                          by_cases c35 : ((rd_T62 l0 x16_1).f0) = 1
                                          · rw [if_pos c35] at H
                                            have c35b0 : (((rd_T62 l0 x16_1).f0) == 1) = true := beq_iff_eq.mpr c35
                                            have c35b1 : (((rd_T62 l0 x16_1).f0) != 1) = false := bne_eq_false_iff_eq.mpr c35
                                            clear c35
                                            have H' := Aside0.mk H
                                            clear H
                                            go_wp2_with (first | (go_at_call 44; (with_reducible refine (spec_lcParts.calls kj23 _ _ l0 x16_1 t107 _ ?side1 ?side2 A31.out).mono ?_); (case side1 => repeat (first | exact (Kd.C_below HR0.out HB.out) | (with_reducible refine Kd.C_alloc ?_ _) | (with_reducible refine Kd.C_drewN ?_ _) | (with_reducible refine Kd.C_drew ?_))); (case side2 => exact HC0.out); rintro e w36 ⟨v108, rfl, ho0, hb⟩; have n0_ := Aside0.mk (Kd.R_lower ho0 (below_size (by repeat (first | (with_reducible first | exact HB.out | apply below_alloc | apply pw_below_drewN | apply below_drew1 | refine below_set ?_ GE103.out) | exact HB.out)))); have n1_ := Aside0.mk (blk_below (g := gb103) (o := .cells #[.int .i64 ((rd_T62 l0 x16_1).f0), .int .i64 ((rd_T62 l0 x16_1).f1), .int .i64 ((rd_T62 l0 x16_1).f2)] 62 (0, 0)) (by (with_reducible repeat (first | refine blk_drewN ?_ _ | refine blk_drew ?_ | refine blk_alloc ?_ _)); exact BK103.out) hb); have n2_ := Aside0.mk (below_step (by repeat (first | (with_reducible first | exact HB.out | apply below_alloc | apply pw_below_drewN | apply below_drew1 | refine below_set ?_ GE103.out) | exact HB.out)) hb); clear BK103; clear HB; have HO109 := n0_; have BK103 := n1_; have HB := n2_; clear n0_ n1_ n2_; (try clear hb); (try clear hb2); (try clear hk); (try clear hi); (try clear ho0); obtain ⟨Ao37, co37, eo37⟩ := Kd.R_slice HO109.out; subst eo37; have hcz38_0 : w36.cell? ⟨gb103, 0, none⟩ = some (.int .i64 ((rd_T62 l0 x16_1).f0)) := (blk_cell BK103.out 0).trans rfl; have hcz38_1 : w36.cell? ⟨gb103, 1, none⟩ = some (.int .i64 ((rd_T62 l0 x16_1).f1)) := (blk_cell BK103.out 1).trans rfl; have hcz38_2 : w36.cell? ⟨gb103, 2, none⟩ = some (.int .i64 ((rd_T62 l0 x16_1).f2)) := (blk_cell BK103.out 2).trans rfl; have hfz38_0 := blk_frozen BK103.out 0; have hfz38_1 := blk_frozen BK103.out 1; have hfz38_2 := blk_frozen BK103.out 2) | (go_at_call 39; (with_reducible refine (spec_l1In.calls ((rd_T62 l0 x16_1).f1) 0 99 true _ A33.out).mono ?_); rintro e w' ⟨rfl, ⟨nd, rfl⟩⟩))
                                            go_roundg kj23
                                            case measure => have := HK1.out; have := HJ6.out; have := HJ14.out; have := HK4.out; have := HJ23.out; omega
                                            case rel => exact ⟨(wrap64 (x16_1 + 1)), (by first | rfl | (simp; done) | (simp [*]; done)), H', ⟨by have := HK1.out; have := HJ6.out; have := HJ14.out; have := HK4.out; have := HJ23.out; omega⟩, ⟨by repeat (first | (with_reducible first | exact HB.out | apply below_alloc | apply pw_below_drewN | apply below_drew1 | refine below_set ?_ GE103.out) | exact HB.out)⟩⟩
                                          · rw [if_neg c35] at H
                                            have c35b0 : (((rd_T62 l0 x16_1).f0) == 1) = false := beq_eq_false_iff_ne.mpr c35
                                            have c35b1 : (((rd_T62 l0 x16_1).f0) != 1) = true := bne_iff_ne.mpr c35
                                            by_cases c39 : ((rd_T62 l0 x16_1).f1) = 0
                                            · rw [if_pos c39] at H
                                              have c39b0 : (((rd_T62 l0 x16_1).f1) == 0) = true := beq_iff_eq.mpr c39
                                              have c39b1 : (((rd_T62 l0 x16_1).f1) != 0) = false := bne_eq_false_iff_eq.mpr c39
                                              clear c39
                                              have H' := Aside0.mk H
                                              clear H
                                              go_wp2_with (first | (go_at_call 44; (with_reducible refine (spec_lcParts.calls kj23 _ _ l0 x16_1 t107 _ ?side1 ?side2 A31.out).mono ?_); (case side1 => repeat (first | exact (Kd.C_below HR0.out HB.out) | (with_reducible refine Kd.C_alloc ?_ _) | (with_reducible refine Kd.C_drewN ?_ _) | (with_reducible refine Kd.C_drew ?_))); (case side2 => exact HC0.out); rintro e w40 ⟨v108, rfl, ho0, hb⟩; have n0_ := Aside0.mk (Kd.R_lower ho0 (below_size (by repeat (first | (with_reducible first | exact HB.out | apply below_alloc | apply pw_below_drewN | apply below_drew1 | refine below_set ?_ GE103.out) | exact HB.out)))); have n1_ := Aside0.mk (blk_below (g := gb103) (o := .cells #[.int .i64 ((rd_T62 l0 x16_1).f0), .int .i64 ((rd_T62 l0 x16_1).f1), .int .i64 ((rd_T62 l0 x16_1).f2)] 62 (0, 0)) (by (with_reducible repeat (first | refine blk_drewN ?_ _ | refine blk_drew ?_ | refine blk_alloc ?_ _)); exact BK103.out) hb); have n2_ := Aside0.mk (below_step (by repeat (first | (with_reducible first | exact HB.out | apply below_alloc | apply pw_below_drewN | apply below_drew1 | refine below_set ?_ GE103.out) | exact HB.out)) hb); clear BK103; clear HB; have HO109 := n0_; have BK103 := n1_; have HB := n2_; clear n0_ n1_ n2_; (try clear hb); (try clear hb2); (try clear hk); (try clear hi); (try clear ho0); obtain ⟨Ao41, co41, eo41⟩ := Kd.R_slice HO109.out; subst eo41; have hcz42_0 : w40.cell? ⟨gb103, 0, none⟩ = some (.int .i64 ((rd_T62 l0 x16_1).f0)) := (blk_cell BK103.out 0).trans rfl; have hcz42_1 : w40.cell? ⟨gb103, 1, none⟩ = some (.int .i64 ((rd_T62 l0 x16_1).f1)) := (blk_cell BK103.out 1).trans rfl; have hcz42_2 : w40.cell? ⟨gb103, 2, none⟩ = some (.int .i64 ((rd_T62 l0 x16_1).f2)) := (blk_cell BK103.out 2).trans rfl; have hfz42_0 := blk_frozen BK103.out 0; have hfz42_1 := blk_frozen BK103.out 1; have hfz42_2 := blk_frozen BK103.out 2) | (go_at_call 39; (with_reducible refine (spec_l1In.calls ((rd_T62 l0 x16_1).f1) 0 99 true _ A33.out).mono ?_); rintro e w' ⟨rfl, ⟨nd, rfl⟩⟩))
                                              go_roundg kj23
                                              case measure => have := HK1.out; have := HJ6.out; have := HJ14.out; have := HK4.out; have := HJ23.out; omega
                                              case rel => exact ⟨(wrap64 (x16_1 + 1)), (by first | rfl | (simp; done) | (simp [*]; done)), H', ⟨by have := HK1.out; have := HJ6.out; have := HJ14.out; have := HK4.out; have := HJ23.out; omega⟩, ⟨by repeat (first | (with_reducible first | exact HB.out | apply below_alloc | apply pw_below_drewN | apply below_drew1 | refine below_set ?_ GE103.out) | exact HB.out)⟩⟩
                                            · rw [if_neg c39] at H
                                              have c39b0 : (((rd_T62 l0 x16_1).f1) == 0) = false := beq_eq_false_iff_ne.mpr c39
                                              have c39b1 : (((rd_T62 l0 x16_1).f1) != 0) = true := bne_iff_ne.mpr c39
                                              obtain rfl := Option.some.inj H
                                              go_wp2_with (first | (go_at_call 44; (with_reducible refine (spec_lcParts.calls kj23 _ _ l0 x16_1 t107 _ ?side1 ?side2 A31.out).mono ?_); (case side1 => repeat (first | exact (Kd.C_below HR0.out HB.out) | (with_reducible refine Kd.C_alloc ?_ _) | (with_reducible refine Kd.C_drewN ?_ _) | (with_reducible refine Kd.C_drew ?_))); (case side2 => exact HC0.out); rintro e w43 ⟨v108, rfl, ho0, hb⟩; have n0_ := Aside0.mk (Kd.R_lower ho0 (below_size (by repeat (first | (with_reducible first | exact HB.out | apply below_alloc | apply pw_below_drewN | apply below_drew1 | refine below_set ?_ GE103.out) | exact HB.out)))); have n1_ := Aside0.mk (blk_below (g := gb103) (o := .cells #[.int .i64 ((rd_T62 l0 x16_1).f0), .int .i64 ((rd_T62 l0 x16_1).f1), .int .i64 ((rd_T62 l0 x16_1).f2)] 62 (0, 0)) (by (with_reducible repeat (first | refine blk_drewN ?_ _ | refine blk_drew ?_ | refine blk_alloc ?_ _)); exact BK103.out) hb); have n2_ := Aside0.mk (below_step (by repeat (first | (with_reducible first | exact HB.out | apply below_alloc | apply pw_below_drewN | apply below_drew1 | refine below_set ?_ GE103.out) | exact HB.out)) hb); clear BK103; clear HB; have HO109 := n0_; have BK103 := n1_; have HB := n2_; clear n0_ n1_ n2_; (try clear hb); (try clear hb2); (try clear hk); (try clear hi); (try clear ho0); obtain ⟨Ao44, co44, eo44⟩ := Kd.R_slice HO109.out; subst eo44; have hcz45_0 : w43.cell? ⟨gb103, 0, none⟩ = some (.int .i64 ((rd_T62 l0 x16_1).f0)) := (blk_cell BK103.out 0).trans rfl; have hcz45_1 : w43.cell? ⟨gb103, 1, none⟩ = some (.int .i64 ((rd_T62 l0 x16_1).f1)) := (blk_cell BK103.out 1).trans rfl; have hcz45_2 : w43.cell? ⟨gb103, 2, none⟩ = some (.int .i64 ((rd_T62 l0 x16_1).f2)) := (blk_cell BK103.out 2).trans rfl; have hfz45_0 := blk_frozen BK103.out 0; have hfz45_1 := blk_frozen BK103.out 1; have hfz45_2 := blk_frozen BK103.out 2) | (go_at_call 39; (with_reducible refine (spec_l1In.calls ((rd_T62 l0 x16_1).f1) 0 99 true _ A33.out).mono ?_); rintro e w' ⟨rfl, ⟨nd, rfl⟩⟩))
                                              go_ret
                                              exact ⟨by first | rfl | (simp [errW_none, errW_some] <;> rfl) | (simp [*, errW_none, errW_some] <;> rfl), by repeat (first | (with_reducible first | exact HB.out | apply below_alloc | apply pw_below_drewN | apply below_drew1 | refine below_set ?_ GE103.out) | exact HB.out)⟩
                                        · replace c34 := Bool.eq_false_iff.mpr c34
                                          subst c34
                                          have H1 : (some false) = some r := by rw [if_neg (show ¬ (false = true) by decide)] at H; exact H
                                          clear H
                                          have H := H1
                                          clear H1
                                          obtain rfl := Option.some.inj H
                                          go_wp2_with (first | (go_at_call 44; (with_reducible refine (spec_lcParts.calls kj23 _ _ l0 x16_1 t107 _ ?side1 ?side2 A31.out).mono ?_); (case side1 => repeat (first | exact (Kd.C_below HR0.out HB.out) | (with_reducible refine Kd.C_alloc ?_ _) | (with_reducible refine Kd.C_drewN ?_ _) | (with_reducible refine Kd.C_drew ?_))); (case side2 => exact HC0.out); rintro e w46 ⟨v108, rfl, ho0, hb⟩; have n0_ := Aside0.mk (Kd.R_lower ho0 (below_size (by repeat (first | (with_reducible first | exact HB.out | apply below_alloc | apply pw_below_drewN | apply below_drew1 | refine below_set ?_ GE103.out) | exact HB.out)))); have n1_ := Aside0.mk (blk_below (g := gb103) (o := .cells #[.int .i64 ((rd_T62 l0 x16_1).f0), .int .i64 ((rd_T62 l0 x16_1).f1), .int .i64 ((rd_T62 l0 x16_1).f2)] 62 (0, 0)) (by (with_reducible repeat (first | refine blk_drewN ?_ _ | refine blk_drew ?_ | refine blk_alloc ?_ _)); exact BK103.out) hb); have n2_ := Aside0.mk (below_step (by repeat (first | (with_reducible first | exact HB.out | apply below_alloc | apply pw_below_drewN | apply below_drew1 | refine below_set ?_ GE103.out) | exact HB.out)) hb); clear BK103; clear HB; have HO109 := n0_; have BK103 := n1_; have HB := n2_; clear n0_ n1_ n2_; (try clear hb); (try clear hb2); (try clear hk); (try clear hi); (try clear ho0); obtain ⟨Ao47, co47, eo47⟩ := Kd.R_slice HO109.out; subst eo47; have hcz48_0 : w46.cell? ⟨gb103, 0, none⟩ = some (.int .i64 ((rd_T62 l0 x16_1).f0)) := (blk_cell BK103.out 0).trans rfl; have hcz48_1 : w46.cell? ⟨gb103, 1, none⟩ = some (.int .i64 ((rd_T62 l0 x16_1).f1)) := (blk_cell BK103.out 1).trans rfl; have hcz48_2 : w46.cell? ⟨gb103, 2, none⟩ = some (.int .i64 ((rd_T62 l0 x16_1).f2)) := (blk_cell BK103.out 2).trans rfl; have hfz48_0 := blk_frozen BK103.out 0; have hfz48_1 := blk_frozen BK103.out 1; have hfz48_2 := blk_frozen BK103.out 2) | (go_at_call 39; (with_reducible refine (spec_l1In.calls ((rd_T62 l0 x16_1).f1) 0 99 false _ A33.out).mono ?_); rintro e w' ⟨rfl, ⟨nd, rfl⟩⟩))
                                          go_ret
                                          exact ⟨by first | rfl | (simp [errW_none, errW_some] <;> rfl) | (simp [*, errW_none, errW_some] <;> rfl), by repeat (first | (with_reducible first | exact HB.out | apply below_alloc | apply pw_below_drewN | apply below_drew1 | refine below_set ?_ GE103.out) | exact HB.out)⟩
                                      · rw [if_neg c32] at H
                                        have c32b0 : ((t107.length : Int) == x9_23) = false := beq_eq_false_iff_ne.mpr c32
                                        have c32b1 : ((t107.length : Int) != x9_23) = true := bne_iff_ne.mpr c32
                                        obtain rfl := Option.some.inj H
                                        go_wp2_with (first | (go_at_call 44; (with_reducible refine (spec_lcParts.calls kj23 _ _ l0 x16_1 t107 _ ?side1 ?side2 A31.out).mono ?_); (case side1 => repeat (first | exact (Kd.C_below HR0.out HB.out) | (with_reducible refine Kd.C_alloc ?_ _) | (with_reducible refine Kd.C_drewN ?_ _) | (with_reducible refine Kd.C_drew ?_))); (case side2 => exact HC0.out); rintro e w49 ⟨v108, rfl, ho0, hb⟩; have n0_ := Aside0.mk (Kd.R_lower ho0 (below_size (by repeat (first | (with_reducible first | exact HB.out | apply below_alloc | apply pw_below_drewN | apply below_drew1 | refine below_set ?_ GE103.out) | exact HB.out)))); have n1_ := Aside0.mk (blk_below (g := gb103) (o := .cells #[.int .i64 ((rd_T62 l0 x16_1).f0), .int .i64 ((rd_T62 l0 x16_1).f1), .int .i64 ((rd_T62 l0 x16_1).f2)] 62 (0, 0)) (by (with_reducible repeat (first | refine blk_drewN ?_ _ | refine blk_drew ?_ | refine blk_alloc ?_ _)); exact BK103.out) hb); have n2_ := Aside0.mk (below_step (by repeat (first | (with_reducible first | exact HB.out | apply below_alloc | apply pw_below_drewN | apply below_drew1 | refine below_set ?_ GE103.out) | exact HB.out)) hb); clear BK103; clear HB; have HO109 := n0_; have BK103 := n1_; have HB := n2_; clear n0_ n1_ n2_; (try clear hb); (try clear hb2); (try clear hk); (try clear hi); (try clear ho0); obtain ⟨Ao50, co50, eo50⟩ := Kd.R_slice HO109.out; subst eo50))
                                        go_ret
                                        exact ⟨by first | rfl | (simp [errW_none, errW_some] <;> rfl) | (simp [*, errW_none, errW_some] <;> rfl), by repeat (first | (with_reducible first | exact HB.out | apply below_alloc | apply pw_below_drewN | apply below_drew1 | refine below_set ?_ GE103.out) | exact HB.out)⟩
                                  · replace c29 := Bool.eq_false_iff.mpr c29
                                    subst c29
                                    have H1 : (some false) = some r := by rw [if_neg (show ¬ (false = true) by decide)] at H; exact H
                                    clear H
                                    have H := H1
                                    clear H1
                                    obtain rfl := Option.some.inj H
                                    go_wp2
                                    go_ret
                                    exact ⟨by first | rfl | (simp [errW_none, errW_some] <;> rfl) | (simp [*, errW_none, errW_some] <;> rfl), by repeat (first | (with_reducible first | exact HB.out | apply below_alloc | apply pw_below_drewN | apply below_drew1 | refine below_set ?_ GE103.out) | exact HB.out)⟩
            · rw [if_neg c6] at H
              exact absurd H (by simp)
          · rw [if_neg c5] at H
            exact absurd H (by simp)
        · rw [if_neg c4] at H
          have c4b0 : decide (x16_1 < (l0.length : Int)) = false := decide_eq_false c4
          clear c4
          obtain rfl := Option.some.inj H
          go_wp2
          go_ret
          exact ⟨by first | rfl | (simp [errW_none, errW_some] <;> rfl) | (simp [*, errW_none, errW_some] <;> rfl), by repeat (first | (with_reducible first | exact HB.out | apply below_alloc | apply pw_below_drewN | apply below_drew1) | exact HB.out)⟩
  · replace c3 := Bool.eq_false_iff.mpr c3
    subst c3
    have H1 : (some false) = some r := by rw [if_neg (show ¬ (false = true) by decide)] at H; exact H
    clear H
    have H := H1
    clear H1
    obtain rfl := Option.some.inj H
    go_enter Try.func17, Try.ntmps17
    go_wp2_with (first | ((with_reducible refine gate_callee (f := 39) rfl ?_); refine goesL_ (some 12) rfl rfl Try.func39 (by kernel_rfl) rfl #[.int .i64 (l0.length : Int), .int .i64 1, .int .i64 150] rfl (by (try simp only [List.map_toArray, List.map_cons, List.map_nil]); first | done | rfl | (simp only [List.length_drop, List.length_take]; rfl)) ?_; (with_reducible refine (spec_l1In.calls (l0.length : Int) 1 150 false _ A2.out).mono ?_); rintro e w' ⟨rfl, ⟨nd, rfl⟩⟩; refine ⟨_, rfl, ?_⟩))
    go_ret
    exact ⟨by first | rfl | (simp [errW_none, errW_some] <;> rfl) | (simp [*, errW_none, errW_some] <;> rfl), by repeat (first | (with_reducible first | exact HB.out | apply below_alloc | apply pw_below_drewN | apply below_drew1) | exact HB.out)⟩

end Go.Proofs.Ytcjhhdecckcibaa.G
