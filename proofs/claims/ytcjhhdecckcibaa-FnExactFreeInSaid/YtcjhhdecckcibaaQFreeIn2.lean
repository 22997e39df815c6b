/- Part 2 of 4 of the proof that the law FnExactFreeInSaid holds: for every input that can be read the call returns true and leaves its arguments as they were; no condition but those each theorem names. -/
import Derived.Test.YtcjhhdecckcibaaQFreeInW1
import Derived.Test.YtcjhhdecckcibaaQFreeIn1
namespace Go.Proofs.Ytcjhhdecckcibaa.G
open Go.RowKit Go.Proofs.YtcjhhdecckcibaaW.PrintWords Go.Proofs.YtcjhhdecckcibaaW.PrintLast Go.Proofs.YtcjhhdecckcibaaW.PrintMore
attribute [local go_sem] max2_int min2_int max_two min_two max_three min_three max_four min_four   -- for this text's walks alone
set_option linter.unusedVariables false
set_option linter.unusedSimpArgs false

mutual
def spec_GoodTerm.l0 : Nat → List (S62) → List (S62) → Int → Int → Option (Bool)
  | 0, _, _, _, _ => none
  | k + 1, x0, x14, x15, x16 => if x16 < x15 then (if 0 ≤ x16 then (if x16 < (x14.length : Int) then (if ((x16 == 0) != (((rd_T62 x14 x16).f2) == (-1))) = true then (spec_GoodTerm.j1 k x0 x16 x14 x15 x16 true ((rd_T62 x14 x16).f0) ((rd_T62 x14 x16).f1) ((rd_T62 x14 x16).f2)) else ((spec_l1In.f ((rd_T62 x14 x16).f2) (-1) (wrap64 (x16 - 1))).bind fun t104 => (spec_GoodTerm.j1 k x0 x16 x14 x15 x16 (!t104) ((rd_T62 x14 x16).f0) ((rd_T62 x14 x16).f1) ((rd_T62 x14 x16).f2)))) else (none)) else (none)) else (some true)
def spec_GoodTerm.j1 : Nat → List (S62) → Int → List (S62) → Int → Int → Bool → Int → Int → Int → Option (Bool)
  | 0, _, _, _, _, _, _, _, _, _ => none
  | k + 1, x0, x3, x14, x15, x16, x34, x104000, x104001, x104002 => if x34 = true then (some false) else (spec_GoodTerm.l1 k x0 x3 (x3 == 0) (wrap64 (x3 - 1)) x14 x15 x16 x104000 x104001 x104002)
def spec_GoodTerm.j3 : Nat → List (S62) → Int → Bool → List (S62) → Int → Int → Int → Int → Int → Option (Bool)
  | 0, _, _, _, _, _, _, _, _, _ => none
  | k + 1, x0, x3, x5, x14, x15, x16, x104000, x104001, x104002 => spec_GoodTerm.l2 k x0 x3 x5 0 x3 x14 x15 x16 x104000 x104001 x104002
def spec_GoodTerm.l2 : Nat → List (S62) → Int → Bool → Int → Int → List (S62) → Int → Int → Int → Int → Int → Option (Bool)
  | 0, _, _, _, _, _, _, _, _, _, _, _ => none
  | k + 1, x0, x3, x5, x7, x8, x14, x15, x16, x104000, x104001, x104002 => if x8 ≥ 0 then (if 0 ≤ x8 then (if x8 < (x0.length : Int) then (spec_GoodTerm.l2 k x0 x3 x5 (wrap64 (x7 + 1)) ((rd_T62 x0 x8).f2) x14 x15 x16 x104000 x104001 x104002) else (none)) else (none)) else (if x104000 = 1 then (spec_GoodTerm.j5 k x0 x3 x5 x7 0 x14 x15 x16 x104000 x104001 x104002) else (if x104000 = 2 then (spec_GoodTerm.j5 k x0 x3 x5 x7 1 x14 x15 x16 x104000 x104001 x104002) else (if x104000 = 3 then (spec_GoodTerm.j5 k x0 x3 x5 x7 2 x14 x15 x16 x104000 x104001 x104002) else (some false))))
def spec_GoodTerm.j5 : Nat → List (S62) → Int → Bool → Int → Int → List (S62) → Int → Int → Int → Int → Int → Option (Bool)
  | 0, _, _, _, _, _, _, _, _, _, _, _ => none
  | k + 1, x0, x3, x5, x7, x9, x14, x15, x16, x104000, x104001, x104002 => if x5 = true then (if x7 > 40 then (some false) else ((spec_lcParts.f k x0 x3).bind fun t107 => (if (t107.length : Int) = x9 then ((spec_l1In.f x104001 0 99).bind fun t110 => (if t110 = true then (if x104000 = 1 then (spec_GoodTerm.l0 k x0 x14 x15 (wrap64 (x16 + 1))) else (if x104001 = 0 then (spec_GoodTerm.l0 k x0 x14 x15 (wrap64 (x16 + 1))) else (some false))) else (some false))) else (some false)))) else (some false)
def spec_GoodTerm.l1 : Nat → List (S62) → Int → Bool → Int → List (S62) → Int → Int → Int → Int → Int → Option (Bool)
  | 0, _, _, _, _, _, _, _, _, _, _ => none
  | k + 1, x0, x3, x5, x6, x14, x15, x16, x104000, x104001, x104002 => if x6 ≥ 0 then (if x5 = true then (spec_GoodTerm.j3 k x0 x3 x5 x14 x15 x16 x104000 x104001 x104002) else (if 0 ≤ x6 then (if x6 < (x0.length : Int) then (spec_GoodTerm.l1 k x0 x3 (x6 == x104002) ((rd_T62 x0 x6).f2) x14 x15 x16 x104000 x104001 x104002) else (none)) else (none))) else (spec_GoodTerm.j3 k x0 x3 x5 x14 x15 x16 x104000 x104001 x104002)
end
def spec_GoodTerm.f (k : Nat) (l0 : List (S62)) : Option (Bool) := (spec_l1In.f (l0.length : Int) 1 150).bind fun t101 => (if t101 = true then (spec_GoodTerm.l0 k l0 l0 (l0.length : Int) 0) else (some false))
set_option maxHeartbeats 8000000 in
set_option maxRecDepth 100000 in
theorem spec_GoodTerm.calls (k : Nat) (A0 : Option Addr) (c0 : Nat) (l0 : List (S62)) (r : Bool) (w : World) (hr0 : Kd.C k62 w A0 l0.length l0) (hc0 : l0.length ≤ c0) (h : spec_GoodTerm.f k l0 = some r) :
    Calls Try.prog 17 #[.slice A0 l0.length c0] w fun e w' => e = .returned (.bool r) ∧ Below w.heap.size w w' := by
  have hu62 := Try.underlying62
  have HR0 := Aside0.mk hr0
  have HC0 := Aside0.mk hc0
  clear hr0 hc0
  have HB := Aside0.mk (Below.refl w.heap.size w)
  have H : ((spec_l1In.f (l0.length : Int) 1 150).bind fun t101 => (if t101 = true then (spec_GoodTerm.l0 k l0 l0 (l0.length : Int) 0) else (some false))) = some r := h
  clear h
  replace H := Option.bind_eq_some_iff.mp H
  obtain ⟨t101, A20, H⟩ := H
  replace H : (if t101 = true then (spec_GoodTerm.l0 k l0 l0 (l0.length : Int) 0) else (some false)) = some r := H
  have A2 := Aside0.mk A20
  clear A20
  by_cases c3 : t101 = true
  · subst c3
    have H1 : (spec_GoodTerm.l0 k l0 l0 (l0.length : Int) 0) = some r := by rw [if_pos rfl] at H; exact H
    clear H
    have H := H1
    clear H1
    have H' := Aside0.mk H
    clear H
    go_enter Try.func17, Try.ntmps17
    go_wp2_with (first | ((with_reducible refine gate_callee (f := 39) rfl ?_); refine goesL_ (some 12) rfl rfl Try.func39 (by kernel_rfl) rfl #[.int .i64 (l0.length : Int), .int .i64 1, .int .i64 150] rfl (by (try simp only [List.map_toArray, List.map_cons, List.map_nil]); first | done | rfl | (simp only [List.length_drop, List.length_take]; rfl)) ?_; (with_reducible refine (spec_l1In.calls (l0.length : Int) 1 150 true _ A2.out).mono ?_); rintro e w' ⟨rfl, ⟨nd, rfl⟩⟩; refine ⟨_, rfl, ?_⟩))
    go_loopg [16] k (fun kq v16 w' => ∃ (x16_1 : Int), v16 = .int .i64 x16_1 ∧ Aside0 (spec_GoodTerm.l0 kq l0 l0 (l0.length : Int) x16_1 = some r) ∧ Aside0 (kq ≤ k) ∧ Aside0 (Below w.heap.size w w'))
    case atStart => exact ⟨(0), (by first | rfl | (simp; done) | (simp [*]; done)), H', ⟨Nat.le_refl _⟩, ⟨by repeat (first | (with_reducible first | exact HB.out | apply below_alloc | apply pw_below_drewN | apply below_drew1) | exact HB.out)⟩⟩
    case round =>
      clear H'
      try clear c1
      try clear p2
      try clear c3
      obtain ⟨x16_1, rfl, HA, HK1, HB⟩ := hrel
      cases gk with
      | zero => exact absurd HA.out (by simp [spec_GoodTerm.l0])
      | succ k1 =>
        have H := HA.out
        clear HA
        simp only [spec_GoodTerm.l0] at H
        by_cases c4 : x16_1 < (l0.length : Int)
        · rw [if_pos c4] at H
          have c4b0 : decide (x16_1 < (l0.length : Int)) = true := decide_eq_true c4
          clear c4
          by_cases c5 : 0 ≤ x16_1
          · rw [if_pos c5] at H
            have c5b0 : decide (0 ≤ x16_1) = true := decide_eq_true c5
            clear c5
            by_cases c6 : x16_1 < (l0.length : Int)
            · rw [if_pos c6] at H
              have c6b0 : decide (x16_1 < (l0.length : Int)) = true := decide_eq_true c6
              clear c6
              have HC7 := Aside0.mk H
              clear H
              have p102 : 0 ≤ (x16_1 : Int) := of_decide_eq_true (by first | (with_reducible assumption) | assumption)
              have q102 : x16_1 < (l0.length : Int) := of_decide_eq_true (by first | (with_reducible assumption) | assumption)
              obtain ⟨ad102, e102, hx102_0, hx102_1, hx102_2⟩ := at_T62 HR0.out x16_1 p102 q102
              cases e102
              replace hx102_0 := (HB.out.cell (World.block_lt_of_cell? w _ hx102_0)).trans hx102_0
              replace hx102_1 := (HB.out.cell (World.block_lt_of_cell? w _ hx102_1)).trans hx102_1
              replace hx102_2 := (HB.out.cell (World.block_lt_of_cell? w _ hx102_2)).trans hx102_2
              replace p102 := eq_true p102
              replace q102 := eq_true q102
              go_upto_region 6 with (first | ((with_reducible refine gate_dst (N := 4) rfl ?_); (try (refine gate_guard (by rfl) ?_; dsimp only)); refine box_event ?hg (N := 4) ?hd (cs := #[.int .i64 0, .int .i64 0, .int .i64 0]) (t := 62) ?hr ?_; (case hd => rfl); (case hg => rfl); (case hr => first | (go_simp; done) | (go_simp; rfl)); intro gb103 hg w8 hbox hb; have n0_ := Aside0.mk (below_step (by repeat (first | (with_reducible first | exact HB.out | apply below_alloc | apply pw_below_drewN | apply below_drew1) | exact HB.out)) hb); have n1_ := Aside0.mk (hbox); have n2_ := Aside0.mk ((by rw [hg]; exact (below_size (by repeat (first | (with_reducible first | exact HB.out | apply below_alloc | apply pw_below_drewN | apply below_drew1) | exact HB.out))) : w.heap.size ≤ gb103)); have n3_ := Aside0.mk ((by rw [hg]; exact (below_size (by repeat (first | (with_reducible first | exact HB.out | apply below_alloc | apply pw_below_drewN | apply below_drew1) | exact HB.out))) : w.heap.size ≤ gb103)); clear HB; have HB := n0_; have BK103 := n1_; have GW103 := n2_; have GE103 := n3_; clear n0_ n1_ n2_ n3_; clear hb hbox hg; have hcz9_0 : w8.cell? ⟨gb103, 0, none⟩ = some (.int .i64 0) := (blk_cell BK103.out 0).trans rfl; have hcz9_1 : w8.cell? ⟨gb103, 1, none⟩ = some (.int .i64 0) := (blk_cell BK103.out 1).trans rfl; have hcz9_2 : w8.cell? ⟨gb103, 2, none⟩ = some (.int .i64 0) := (blk_cell BK103.out 2).trans rfl; have hfz9_0 := blk_frozen BK103.out 0; have hfz9_1 := blk_frozen BK103.out 1; have hfz9_2 := blk_frozen BK103.out 2))
              (try simp only [Act.put, List.setIfInBounds_toArray, List.set_cons_zero, List.set_cons_succ])
              go_cut [34] (fun v34 wc => ∃ (kq : Nat) (x34_6 : Bool), v34 = .bool x34_6 ∧ Aside0 (spec_GoodTerm.j1 kq l0 x16_1 l0 (l0.length : Int) x16_1 x34_6 ((rd_T62 l0 x16_1).f0) ((rd_T62 l0 x16_1).f1) ((rd_T62 l0 x16_1).f2) = some r) ∧ Aside0 (kq ≤ k1) ∧ Aside0 (wc.heap[gb103]? = some (.cells #[.int .i64 ((rd_T62 l0 x16_1).f0), .int .i64 ((rd_T62 l0 x16_1).f1), .int .i64 ((rd_T62 l0 x16_1).f2)] 62 (0, 0))) ∧ Aside0 (Below w.heap.size w wc))
              case first =>
                have H := HC7.out
                clear HC7
                by_cases c10 : ((x16_1 == 0) != (((rd_T62 l0 x16_1).f2) == (-1))) = true
                · rw [if_pos c10] at H
                  have c10b0 : ((x16_1 == 0) != (((rd_T62 l0 x16_1).f2) == (-1))) = true := c10
                  (try (have c10b1 : decide ((x16_1 == 0) = (((rd_T62 l0 x16_1).f2) == (-1))) = false := by simpa using c10))
                  (try (have c10b2 : ((x16_1 == 0) == (((rd_T62 l0 x16_1).f2) == (-1))) = false := by simpa using c10))
                  (try (have c10b3 : ¬ ((x16_1 == 0) = (((rd_T62 l0 x16_1).f2) == (-1))) := by simpa using c10))
                  clear c10
                  (first | rw [c10b0] | (simp only [i64_w, i32_w]; rw [c10b0]) | skip)
                  have H' := Aside0.mk H
                  clear H
                  have hcz11_0 : w8.cell? ⟨gb103, 0, none⟩ = some (.int .i64 0) := (blk_cell BK103.out 0).trans rfl
                  have hcz11_1 : w8.cell? ⟨gb103, 1, none⟩ = some (.int .i64 0) := (blk_cell BK103.out 1).trans rfl
                  have hcz11_2 : w8.cell? ⟨gb103, 2, none⟩ = some (.int .i64 0) := (blk_cell BK103.out 2).trans rfl
                  have hfz11_0 := blk_frozen BK103.out 0
                  have hfz11_1 := blk_frozen BK103.out 1
                  have hfz11_2 := blk_frozen BK103.out 2
                  go_wp2
                  go_meet
                  case rel => exact ⟨_, (true), (by first | rfl | (simp; done) | (simp [*]; done)), H', ⟨by have := HK1.out; first | omega | exact Nat.le_refl _⟩, ⟨by (with_reducible repeat (first | refine blk_drewN ?_ _ | refine blk_drew ?_ | refine blk_alloc ?_ _)); refine blk_put (cs := #[.int .i64 ((rd_T62 l0 x16_1).f0), .int .i64 ((rd_T62 l0 x16_1).f1), .int .i64 0]) ?_ 2 _ rfl; (with_reducible repeat (first | refine blk_drewN ?_ _ | refine blk_drew ?_ | refine blk_alloc ?_ _)); refine blk_put (cs := #[.int .i64 ((rd_T62 l0 x16_1).f0), .int .i64 0, .int .i64 0]) ?_ 1 _ rfl; (with_reducible repeat (first | refine blk_drewN ?_ _ | refine blk_drew ?_ | refine blk_alloc ?_ _)); refine blk_put (cs := #[.int .i64 0, .int .i64 0, .int .i64 0]) ?_ 0 _ rfl; (with_reducible repeat (first | refine blk_drewN ?_ _ | refine blk_drew ?_ | refine blk_alloc ?_ _)); exact BK103.out⟩, ⟨by repeat (first | (with_reducible first | exact HB.out | apply below_alloc | apply pw_below_drewN | apply below_drew1 | refine below_set ?_ GE103.out) | exact HB.out)⟩⟩
                · rw [if_neg c10] at H
                  have c10b0 : ((x16_1 == 0) != (((rd_T62 l0 x16_1).f2) == (-1))) = false := by simpa using c10
                  (try (have c10b1 : decide ((x16_1 == 0) = (((rd_T62 l0 x16_1).f2) == (-1))) = true := by simpa using c10))
                  (try (have c10b2 : ((x16_1 == 0) == (((rd_T62 l0 x16_1).f2) == (-1))) = true := by simpa using c10))
                  clear c10
                  (first | rw [c10b0] | (simp only [i64_w, i32_w]; rw [c10b0]) | skip)
                  replace H := Option.bind_eq_some_iff.mp H
                  obtain ⟨t104, A120, H⟩ := H
                  replace H : (spec_GoodTerm.j1 k1 l0 x16_1 l0 (l0.length : Int) x16_1 (!t104) ((rd_T62 l0 x16_1).f0) ((rd_T62 l0 x16_1).f1) ((rd_T62 l0 x16_1).f2)) = some r := H
                  have A12 := Aside0.mk A120
                  clear A120
                  have H' := Aside0.mk H
                  clear H
                  have hcz13_0 : w8.cell? ⟨gb103, 0, none⟩ = some (.int .i64 0) := (blk_cell BK103.out 0).trans rfl
                  have hcz13_1 : w8.cell? ⟨gb103, 1, none⟩ = some (.int .i64 0) := (blk_cell BK103.out 1).trans rfl
                  have hcz13_2 : w8.cell? ⟨gb103, 2, none⟩ = some (.int .i64 0) := (blk_cell BK103.out 2).trans rfl
                  have hfz13_0 := blk_frozen BK103.out 0
                  have hfz13_1 := blk_frozen BK103.out 1
                  have hfz13_2 := blk_frozen BK103.out 2
                  go_wp2_with (first | (go_at_call 39; (with_reducible refine (spec_l1In.calls ((rd_T62 l0 x16_1).f2) (-1) (wrap64 (x16_1 - 1)) t104 _ A12.out).mono ?_); rintro e w' ⟨rfl, ⟨nd, rfl⟩⟩))
                  go_meet
                  case rel => exact ⟨_, (!t104), (by first | rfl | (simp; done) | (simp [*]; done)), H', ⟨by have := HK1.out; first | omega | exact Nat.le_refl _⟩, ⟨by (with_reducible repeat (first | refine blk_drewN ?_ _ | refine blk_drew ?_ | refine blk_alloc ?_ _)); refine blk_put (cs := #[.int .i64 ((rd_T62 l0 x16_1).f0), .int .i64 ((rd_T62 l0 x16_1).f1), .int .i64 0]) ?_ 2 _ rfl; (with_reducible repeat (first | refine blk_drewN ?_ _ | refine blk_drew ?_ | refine blk_alloc ?_ _)); refine blk_put (cs := #[.int .i64 ((rd_T62 l0 x16_1).f0), .int .i64 0, .int .i64 0]) ?_ 1 _ rfl; (with_reducible repeat (first | refine blk_drewN ?_ _ | refine blk_drew ?_ | refine blk_alloc ?_ _)); refine blk_put (cs := #[.int .i64 0, .int .i64 0, .int .i64 0]) ?_ 0 _ rfl; (with_reducible repeat (first | refine blk_drewN ?_ _ | refine blk_drew ?_ | refine blk_alloc ?_ _)); exact BK103.out⟩, ⟨by repeat (first | (with_reducible first | exact HB.out | apply below_alloc | apply pw_below_drewN | apply below_drew1 | refine below_set ?_ GE103.out) | exact HB.out)⟩⟩
              case rest =>
                clear HC7
                try clear c1
                try clear p1
                try clear q1
                try clear hx1
                try clear p2
                try clear c3
                try clear c4
                try clear c4b0
                try clear c5
                try clear c5b0
                try clear c6
                try clear c6b0
                try clear p6
                try clear c10
                try clear c10b0
                try clear c10b1
                try clear c10b2
                try clear p10
                try clear q10
                try clear hx10
                try clear hcz11_0
                try clear hcz11_1
                try clear hcz11_2
                try clear hcz13_0
                try clear hcz13_1
                try clear hcz13_2
                try clear hcz9_0
                try clear hcz9_1
                try clear hcz9_2
                try clear hfz11_0
                try clear hfz11_1
                try clear hfz11_2
                try clear hfz13_0
                try clear hfz13_1
                try clear hfz13_2
                try clear hfz9_0
                try clear hfz9_1
                try clear hfz9_2
                try clear hx102_0
                try clear hx102_1
                try clear hx102_2
                try clear p102
                try clear p2
                try clear q102
                obtain ⟨kq, x34_6, rfl, HA, HJ6, BK103, HB⟩ := hcut
                cases kq with
                | zero => exact absurd HA.out (by simp [spec_GoodTerm.j1])
                | succ kj6 =>
                  have H := HA.out
                  clear HA
                  simp only [spec_GoodTerm.j1] at H
                  by_cases c14 : x34_6 = true
                  · subst c14
                    have H1 : (some false) = some r := by rw [if_pos rfl] at H; exact H
                    clear H
                    have H := H1
                    clear H1
                    obtain rfl := Option.some.inj H
                    go_wp2
                    go_ret
                    exact ⟨by first | rfl | (simp [errW_none, errW_some] <;> rfl) | (simp [*, errW_none, errW_some] <;> rfl), by repeat (first | (with_reducible first | exact HB.out | apply below_alloc | apply pw_below_drewN | apply below_drew1 | refine below_set ?_ GE103.out) | exact HB.out)⟩
                  · replace c14 := Bool.eq_false_iff.mpr c14
                    subst c14
                    have H1 : (spec_GoodTerm.l1 kj6 l0 x16_1 (x16_1 == 0) (wrap64 (x16_1 - 1)) l0 (l0.length : Int) x16_1 ((rd_T62 l0 x16_1).f0) ((rd_T62 l0 x16_1).f1) ((rd_T62 l0 x16_1).f2)) = some r := by rw [if_neg (show ¬ (false = true) by decide)] at H; exact H
                    clear H
                    have H := H1
                    clear H1
                    have HC15 := Aside0.mk H
                    clear H
                    go_upto_block 2 with (fail)
                    go_cut [5] (fun v5 wc => ∃ (kq : Nat) (x5_14 : Bool), v5 = .bool x5_14 ∧ Aside0 (spec_GoodTerm.j3 kq l0 x16_1 x5_14 l0 (l0.length : Int) x16_1 ((rd_T62 l0 x16_1).f0) ((rd_T62 l0 x16_1).f1) ((rd_T62 l0 x16_1).f2) = some r) ∧ Aside0 (kq ≤ kj6) ∧ Aside0 (wc.heap[gb103]? = some (.cells #[.int .i64 ((rd_T62 l0 x16_1).f0), .int .i64 ((rd_T62 l0 x16_1).f1), .int .i64 ((rd_T62 l0 x16_1).f2)] 62 (0, 0))) ∧ Aside0 (Below w.heap.size w wc))
                    case first =>
                      have H := HC15.out
                      clear HC15
                      have H' := Aside0.mk H
                      clear H
                      go_wp2
                      go_loopg [5, 6] kj6 (fun kq v5 v6 w' => ∃ (x5_3 : Bool) (x6_3 : Int), v5 = .bool x5_3 ∧ v6 = .int .i64 x6_3 ∧ Aside0 (spec_GoodTerm.l1 kq l0 x16_1 x5_3 x6_3 l0 (l0.length : Int) x16_1 ((rd_T62 l0 x16_1).f0) ((rd_T62 l0 x16_1).f1) ((rd_T62 l0 x16_1).f2) = some r) ∧ Aside0 (kq ≤ kj6) ∧ Aside0 (w'.heap[gb103]? = some (.cells #[.int .i64 ((rd_T62 l0 x16_1).f0), .int .i64 ((rd_T62 l0 x16_1).f1), .int .i64 ((rd_T62 l0 x16_1).f2)] 62 (0, 0))) ∧ Aside0 (Below w.heap.size w w'))
                      case atStart => exact ⟨((x16_1 == 0)), (wrap64 (x16_1 - 1)), (by first | rfl | (simp; done) | (simp [*]; done)), (by first | rfl | (simp; done) | (simp [*]; done)), H', ⟨Nat.le_refl _⟩, ⟨by (with_reducible repeat (first | refine blk_drewN ?_ _ | refine blk_drew ?_ | refine blk_alloc ?_ _)); exact BK103.out⟩, ⟨by repeat (first | (with_reducible first | exact HB.out | apply below_alloc | apply pw_below_drewN | apply below_drew1 | refine below_set ?_ GE103.out) | exact HB.out)⟩⟩
                      case round =>
                        clear H'
                        try clear c1
                        try clear p1
                        try clear q1
                        try clear hx1
                        try clear p2
                        try clear c3
                        try clear c4
                        try clear c4b0
                        try clear c5
                        try clear c5b0
                        try clear c6
                        try clear c6b0
                        try clear p6
                        try clear c10
                        try clear c10b0
                        try clear c10b1
                        try clear c10b2
                        try clear p10
                        try clear q10
                        try clear hx10
                        try clear c14
                        try clear hcz11_0
                        try clear hcz11_1
                        try clear hcz11_2
                        try clear hcz13_0
                        try clear hcz13_1
                        try clear hcz13_2
                        try clear hcz9_0
                        try clear hcz9_1
                        try clear hcz9_2
                        try clear hfz11_0
                        try clear hfz11_1
                        try clear hfz11_2
                        try clear hfz13_0
                        try clear hfz13_1
                        try clear hfz13_2
                        try clear hfz9_0
                        try clear hfz9_1
                        try clear hfz9_2
                        try clear hx102_0
                        try clear hx102_1
                        try clear hx102_2
                        try clear p1
                        try clear p10
                        try clear p102
                        try clear p2
                        try clear p6
                        try clear q1
                        try clear q10
                        try clear q102
                        obtain ⟨x5_3, x6_3, rfl, rfl, HA, HK3, BK103, HB⟩ := hrel
                        cases gk with
                        | zero => exact absurd HA.out (by simp [spec_GoodTerm.l1])
                        | succ k3 =>
                          have H := HA.out
                          clear HA
                          simp only [spec_GoodTerm.l1] at H
                          by_cases c16 : x6_3 ≥ 0
                          · rw [if_pos c16] at H
                            have c16b0 : decide (0 ≤ x6_3) = true := decide_eq_true c16
                            clear c16
                            (first | rw [c16b0] | (simp only [i64_w, i32_w]; rw [c16b0]) | skip)
                            by_cases c17 : x5_3 = true
                            · subst c17
                              have H1 : (spec_GoodTerm.j3 k3 l0 x16_1 true l0 (l0.length : Int) x16_1 ((rd_T62 l0 x16_1).f0) ((rd_T62 l0 x16_1).f1) ((rd_T62 l0 x16_1).f2)) = some r := by rw [if_pos rfl] at H; exact H
                              clear H
                              have H := H1
                              clear H1
                              have H' := Aside0.mk H
                              clear H
                              go_wp2
                              go_meet
                              case rel => exact ⟨_, (true), (by first | rfl | (simp; done) | (simp [*]; done)), H', ⟨by have := HK1.out; have := HJ6.out; have := HK3.out; first | omega | exact Nat.le_refl _⟩, ⟨by (with_reducible repeat (first | refine blk_drewN ?_ _ | refine blk_drew ?_ | refine blk_alloc ?_ _)); exact BK103.out⟩, ⟨by repeat (first | (with_reducible first | exact HB.out | apply below_alloc | apply pw_below_drewN | apply below_drew1 | refine below_set ?_ GE103.out) | exact HB.out)⟩⟩
                            · replace c17 := Bool.eq_false_iff.mpr c17
                              subst c17
                              have H1 : (if 0 ≤ x6_3 then (if x6_3 < (l0.length : Int) then (spec_GoodTerm.l1 k3 l0 x16_1 (x6_3 == ((rd_T62 l0 x16_1).f2)) ((rd_T62 l0 x6_3).f2) l0 (l0.length : Int) x16_1 ((rd_T62 l0 x16_1).f0) ((rd_T62 l0 x16_1).f1) ((rd_T62 l0 x16_1).f2)) else (none)) else (none)) = some r := by rw [if_neg (show ¬ (false = true) by decide)] at H; exact H
                              clear H
                              have H := H1
                              clear H1
                              by_cases c18 : 0 ≤ x6_3
                              · rw [if_pos c18] at H
                                have c18b0 : decide (0 ≤ x6_3) = true := decide_eq_true c18
                                clear c18
                                by_cases c19 : x6_3 < (l0.length : Int)
                                · rw [if_pos c19] at H
                                  have c19b0 : decide (x6_3 < (l0.length : Int)) = true := decide_eq_true c19
                                  clear c19
                                  have H' := Aside0.mk H
                                  clear H
                                  have hcz20_0 : wr.cell? ⟨gb103, 0, none⟩ = some (.int .i64 ((rd_T62 l0 x16_1).f0)) := (blk_cell BK103.out 0).trans rfl
                                  have hcz20_1 : wr.cell? ⟨gb103, 1, none⟩ = some (.int .i64 ((rd_T62 l0 x16_1).f1)) := (blk_cell BK103.out 1).trans rfl
                                  have hcz20_2 : wr.cell? ⟨gb103, 2, none⟩ = some (.int .i64 ((rd_T62 l0 x16_1).f2)) := (blk_cell BK103.out 2).trans rfl
                                  have hfz20_0 := blk_frozen BK103.out 0
                                  have hfz20_1 := blk_frozen BK103.out 1
                                  have hfz20_2 := blk_frozen BK103.out 2
                                  have p105 : 0 ≤ (x6_3 : Int) := of_decide_eq_true (by first | (with_reducible assumption) | assumption)
                                  have q105 : x6_3 < (l0.length : Int) := of_decide_eq_true (by first | (with_reducible assumption) | assumption)
                                  obtain ⟨ad105, e105, hx105_0, hx105_1, hx105_2⟩ := at_T62 HR0.out x6_3 p105 q105
                                  obtain rfl : ad102 = ad105 := (by injection e105)
                                  replace hx105_0 := (HB.out.cell (World.block_lt_of_cell? w _ hx105_0)).trans hx105_0
                                  replace hx105_1 := (HB.out.cell (World.block_lt_of_cell? w _ hx105_1)).trans hx105_1
                                  replace hx105_2 := (HB.out.cell (World.block_lt_of_cell? w _ hx105_2)).trans hx105_2
                                  replace p105 := eq_true p105
                                  replace q105 := eq_true q105
                                  go_wp2
                                  go_roundg k3
                                  case measure => have := HK1.out; have := HJ6.out; have := HK3.out; omega
                                  case rel => exact ⟨((x6_3 == ((rd_T62 l0 x16_1).f2))), ((rd_T62 l0 x6_3).f2), (by first | rfl | (simp; done) | (simp [*]; done)), (by first | rfl | (simp; done) | (simp [*]; done)), H', ⟨by have := HK1.out; have := HJ6.out; have := HK3.out; omega⟩, ⟨by (with_reducible repeat (first | refine blk_drewN ?_ _ | refine blk_drew ?_ | refine blk_alloc ?_ _)); exact BK103.out⟩, ⟨by repeat (first | (with_reducible first | exact HB.out | apply below_alloc | apply pw_below_drewN | apply below_drew1 | refine below_set ?_ GE103.out) | exact HB.out)⟩⟩
                                · rw [if_neg c19] at H
                                  exact absurd H (by simp)
                              · rw [if_neg c18] at H
                                exact absurd H (by simp)
                          · rw [if_neg c16] at H
                            have c16b0 : decide (0 ≤ x6_3) = false := decide_eq_false c16
                            clear c16
                            (first | rw [c16b0] | (simp only [i64_w, i32_w]; rw [c16b0]) | skip)
                            have H' := Aside0.mk H
                            clear H
                            go_wp2
                            go_meet
                            case rel => exact ⟨_, (x5_3), (by first | rfl | (simp; done) | (simp [*]; done)), H', ⟨by have := HK1.out; have := HJ6.out; have := HK3.out; first | omega | exact Nat.le_refl _⟩, ⟨by (with_reducible repeat (first | refine blk_drewN ?_ _ | refine blk_drew ?_ | refine blk_alloc ?_ _)); exact BK103.out⟩, ⟨by repeat (first | (with_reducible first | exact HB.out | apply below_alloc | apply pw_below_drewN | apply below_drew1 | refine below_set ?_ GE103.out) | exact HB.out)⟩⟩
                    case rest =>
                      clear HC15
                      try clear c1
                      try clear p1
                      try clear q1
                      try clear hx1
                      try clear p2
                      try clear c3
                      try clear c4
                      try clear c4b0
                      try clear c5
                      try clear c5b0
                      try clear c6
                      try clear c6b0
                      try clear p6
                      try clear c10
                      try clear c10b0
                      try clear c10b1
                      try clear c10b2
                      try clear p10
                      try clear q10
                      try clear hx10
                      try clear c14
                      try clear c16
                      try clear c16b0
                      try clear c17
                      try clear c18
                      try clear c18b0
                      try clear c19
                      try clear c19b0
                      try clear hcz11_0
                      try clear hcz11_1
                      try clear hcz11_2
                      try clear hcz13_0
                      try clear hcz13_1
                      try clear hcz13_2
                      try clear hcz20_0
                      try clear hcz20_1
                      try clear hcz20_2
                      try clear hcz9_0
                      try clear hcz9_1
                      try clear hcz9_2
                      try clear hfz11_0
                      try clear hfz11_1
                      try clear hfz11_2
                      try clear hfz13_0
                      try clear hfz13_1
                      try clear hfz13_2
                      try clear hfz20_0
                      try clear hfz20_1
                      try clear hfz20_2
                      try clear hfz9_0
                      try clear hfz9_1
                      try clear hfz9_2
                      try clear hx102_0
                      try clear hx102_1
                      try clear hx102_2
                      try clear hx105_0
                      try clear hx105_1
                      try clear hx105_2
                      try clear p1
                      try clear p10
                      try clear p102
                      try clear p105
                      try clear p2
                      try clear p6
                      try clear q1
                      try clear q10
                      try clear q102
                      try clear q105
                      obtain ⟨kq, x5_14, rfl, HA, HJ14, BK103, HB⟩ := hcut
                      cases kq with
                      | zero => exact absurd HA.out (by simp [spec_GoodTerm.j3])
                      | succ kj14 =>
                        have H := HA.out
                        clear HA
                        simp only [spec_GoodTerm.j3] at H
                        have H' := Aside0.mk H
                        clear H
                        go_wp2
                        go_loopg [7, 8] kj14 (fun kq v7 v8 w' => ∃ (x7_4 : Int) (x8_4 : Int), v7 = .int .i64 x7_4 ∧ v8 = .int .i64 x8_4 ∧ Aside0 (spec_GoodTerm.l2 kq l0 x16_1 x5_14 x7_4 x8_4 l0 (l0.length : Int) x16_1 ((rd_T62 l0 x16_1).f0) ((rd_T62 l0 x16_1).f1) ((rd_T62 l0 x16_1).f2) = some r) ∧ Aside0 (kq ≤ kj14) ∧ Aside0 (w'.heap[gb103]? = some (.cells #[.int .i64 ((rd_T62 l0 x16_1).f0), .int .i64 ((rd_T62 l0 x16_1).f1), .int .i64 ((rd_T62 l0 x16_1).f2)] 62 (0, 0))) ∧ Aside0 (Below w.heap.size w w'))
                        case atStart => exact ⟨(0), (x16_1), (by first | rfl | (simp; done) | (simp [*]; done)), (by first | rfl | (simp; done) | (simp [*]; done)), H', ⟨Nat.le_refl _⟩, ⟨by (with_reducible repeat (first | refine blk_drewN ?_ _ | refine blk_drew ?_ | refine blk_alloc ?_ _)); exact BK103.out⟩, ⟨by repeat (first | (with_reducible first | exact HB.out | apply below_alloc | apply pw_below_drewN | apply below_drew1 | refine below_set ?_ GE103.out) | exact HB.out)⟩⟩
                        case round =>
                          clear H'
                          try clear c1
                          try clear p1
                          try clear q1
                          try clear hx1
                          try clear p2
                          try clear c3
                          try clear c4
                          try clear c4b0
                          try clear c5
                          try clear c5b0
                          try clear c6
                          try clear c6b0
                          try clear p6
                          try clear c10
                          try clear c10b0
                          try clear c10b1
                          try clear c10b2
                          try clear p10
                          try clear q10
                          try clear hx10
                          try clear c14
                          try clear c16
                          try clear c16b0
                          try clear c17
                          try clear c18
                          try clear c18b0
                          try clear c19
                          try clear c19b0
                          try clear hcz11_0
                          try clear hcz11_1
                          try clear hcz11_2
                          try clear hcz13_0
                          try clear hcz13_1
                          try clear hcz13_2
                          try clear hcz20_0
                          try clear hcz20_1
                          try clear hcz20_2
                          try clear hcz9_0
                          try clear hcz9_1
                          try clear hcz9_2
                          try clear hfz11_0
                          try clear hfz11_1
                          try clear hfz11_2
                          try clear hfz13_0
                          try clear hfz13_1
                          try clear hfz13_2
                          try clear hfz20_0
                          try clear hfz20_1
                          try clear hfz20_2
                          try clear hfz9_0
                          try clear hfz9_1
                          try clear hfz9_2
                          try clear hx102_0
                          try clear hx102_1
                          try clear hx102_2
                          try clear hx105_0
                          try clear hx105_1
                          try clear hx105_2
                          try clear p1
                          try clear p10
                          try clear p102
                          try clear p105
                          try clear p2
                          try clear p6
                          try clear q1
                          try clear q10
                          try clear q102
                          try clear q105
                          obtain ⟨x7_4, x8_4, rfl, rfl, HA, HK4, BK103, HB⟩ := hrel
                          cases gk with
                          | zero => exact absurd HA.out (by simp [spec_GoodTerm.l2])
                          | succ k4 =>
                            have H := HA.out
                            clear HA
                            simp only [spec_GoodTerm.l2] at H
                            by_cases c21 : x8_4 ≥ 0
                            · rw [if_pos c21] at H
                              have c21b0 : decide (0 ≤ x8_4) = true := decide_eq_true c21
                              clear c21
                              by_cases c22 : 0 ≤ x8_4
                              · rw [if_pos c22] at H
                                have c22b0 : decide (0 ≤ x8_4) = true := decide_eq_true c22
                                clear c22
                                by_cases c23 : x8_4 < (l0.length : Int)
                                · rw [if_pos c23] at H
                                  have c23b0 : decide (x8_4 < (l0.length : Int)) = true := decide_eq_true c23
                                  clear c23
                                  have H' := Aside0.mk H
                                  clear H
                                  have p106 : 0 ≤ (x8_4 : Int) := of_decide_eq_true (by first | (with_reducible assumption) | assumption)
                                  have q106 : x8_4 < (l0.length : Int) := of_decide_eq_true (by first | (with_reducible assumption) | assumption)
                                  obtain ⟨ad106, e106, hx106_0, hx106_1, hx106_2⟩ := at_T62 HR0.out x8_4 p106 q106
                                  obtain rfl : ad102 = ad106 := (by injection e106)
                                  replace hx106_0 := (HB.out.cell (World.block_lt_of_cell? w _ hx106_0)).trans hx106_0
                                  replace hx106_1 := (HB.out.cell (World.block_lt_of_cell? w _ hx106_1)).trans hx106_1
                                  replace hx106_2 := (HB.out.cell (World.block_lt_of_cell? w _ hx106_2)).trans hx106_2
                                  replace p106 := eq_true p106
                                  replace q106 := eq_true q106
                                  go_wp2
                                  go_roundg k4
                                  case measure => have := HK1.out; have := HJ6.out; have := HJ14.out; have := HK4.out; omega
                                  case rel => exact ⟨(wrap64 (x7_4 + 1)), ((rd_T62 l0 x8_4).f2), (by first | rfl | (simp; done) | (simp [*]; done)), (by first | rfl | (simp; done) | (simp [*]; done)), H', ⟨by have := HK1.out; have := HJ6.out; have := HJ14.out; have := HK4.out; omega⟩, ⟨by (with_reducible repeat (first | refine blk_drewN ?_ _ | refine blk_drew ?_ | refine blk_alloc ?_ _)); exact BK103.out⟩, ⟨by repeat (first | (with_reducible first | exact HB.out | apply below_alloc | apply pw_below_drewN | apply below_drew1 | refine below_set ?_ GE103.out) | exact HB.out)⟩⟩
                                · rw [if_neg c23] at H
                                  exact absurd H (by simp)
                              · rw [if_neg c22] at H
                                exact absurd H (by simp)
                            · rw [if_neg c21] at H
                              have c21b0 : decide (0 ≤ x8_4) = false := decide_eq_false c21
                              clear c21
                              have HC24 := Aside0.mk H
                              clear H
                              have hcz25_0 : wr.cell? ⟨gb103, 0, none⟩ = some (.int .i64 ((rd_T62 l0 x16_1).f0)) := (blk_cell BK103.out 0).trans rfl
                              have hcz25_1 : wr.cell? ⟨gb103, 1, none⟩ = some (.int .i64 ((rd_T62 l0 x16_1).f1)) := (blk_cell BK103.out 1).trans rfl
                              have hcz25_2 : wr.cell? ⟨gb103, 2, none⟩ = some (.int .i64 ((rd_T62 l0 x16_1).f2)) := (blk_cell BK103.out 2).trans rfl
                              have hfz25_0 := blk_frozen BK103.out 0
                              have hfz25_1 := blk_frozen BK103.out 1
                              have hfz25_2 := blk_frozen BK103.out 2
                              go_upto_block 6 with (fail)
                              go_cut [9] (fun v9 wc => ∃ (kq : Nat) (x9_23 : Int), v9 = .int .i64 x9_23 ∧ Aside0 (spec_GoodTerm.j5 kq l0 x16_1 x5_14 x7_4 x9_23 l0 (l0.length : Int) x16_1 ((rd_T62 l0 x16_1).f0) ((rd_T62 l0 x16_1).f1) ((rd_T62 l0 x16_1).f2) = some r) ∧ Aside0 (kq ≤ k4) ∧ Aside0 (wc.heap[gb103]? = some (.cells #[.int .i64 ((rd_T62 l0 x16_1).f0), .int .i64 ((rd_T62 l0 x16_1).f1), .int .i64 ((rd_T62 l0 x16_1).f2)] 62 (0, 0))) ∧ Aside0 (Below w.heap.size w wc))
                              case first =>
                                have H := HC24.out
                                clear HC24
                                by_cases c26 : ((rd_T62 l0 x16_1).f0) = 1
                                · rw [if_pos c26] at H
                                  have c26b0 : (((rd_T62 l0 x16_1).f0) == 1) = true := beq_iff_eq.mpr c26
                                  have c26b1 : (((rd_T62 l0 x16_1).f0) != 1) = false := bne_eq_false_iff_eq.mpr c26
                                  clear c26
                                  (first | rw [c26b0] | (simp only [i64_w, i32_w]; rw [c26b0]) | skip)
                                  have H' := Aside0.mk H
                                  clear H
                                  go_wp2
                                  go_meet
                                  case rel => exact ⟨_, (0), (by first | rfl | (simp; done) | (simp [*]; done)), H', ⟨by have := HK1.out; have := HJ6.out; have := HJ14.out; have := HK4.out; first | omega | exact Nat.le_refl _⟩, ⟨by (with_reducible repeat (first | refine blk_drewN ?_ _ | refine blk_drew ?_ | refine blk_alloc ?_ _)); exact BK103.out⟩, ⟨by repeat (first | (with_reducible first | exact HB.out | apply below_alloc | apply pw_below_drewN | apply below_drew1 | refine below_set ?_ GE103.out) | exact HB.out)⟩⟩
                                · rw [if_neg c26] at H
                                  have c26b0 : (((rd_T62 l0 x16_1).f0) == 1) = false := beq_eq_false_iff_ne.mpr c26
                                  have c26b1 : (((rd_T62 l0 x16_1).f0) != 1) = true := bne_iff_ne.mpr c26
                                  (first | rw [c26b0] | (simp only [i64_w, i32_w]; rw [c26b0]) | skip)
                                  by_cases c27 : ((rd_T62 l0 x16_1).f0) = 2
                                  · rw [if_pos c27] at H
                                    have c27b0 : (((rd_T62 l0 x16_1).f0) == 2) = true := beq_iff_eq.mpr c27
                                    have c27b1 : (((rd_T62 l0 x16_1).f0) != 2) = false := bne_eq_false_iff_eq.mpr c27
                                    clear c27
                                    have H' := Aside0.mk H
                                    clear H
                                    go_wp2
                                    go_meet
                                    case rel => exact ⟨_, (1), (by first | rfl | (simp; done) | (simp [*]; done)), H', ⟨by have := HK1.out; have := HJ6.out; have := HJ14.out; have := HK4.out; first | omega | exact Nat.le_refl _⟩, ⟨by (with_reducible repeat (first | refine blk_drewN ?_ _ | refine blk_drew ?_ | refine blk_alloc ?_ _)); exact BK103.out⟩, ⟨by repeat (first | (with_reducible first | exact HB.out | apply below_alloc | apply pw_below_drewN | apply below_drew1 | refine below_set ?_ GE103.out) | exact HB.out)⟩⟩
                                  · rw [if_neg c27] at H
                                    have c27b0 : (((rd_T62 l0 x16_1).f0) == 2) = false := beq_eq_false_iff_ne.mpr c27
                                    have c27b1 : (((rd_T62 l0 x16_1).f0) != 2) = true := bne_iff_ne.mpr c27
                                    by_cases c28 : ((rd_T62 l0 x16_1).f0) = 3
                                    · rw [if_pos c28] at H
                                      have c28b0 : (((rd_T62 l0 x16_1).f0) == 3) = true := beq_iff_eq.mpr c28
                                      have c28b1 : (((rd_T62 l0 x16_1).f0) != 3) = false := bne_eq_false_iff_eq.mpr c28
                                      clear c28
                                      have H' := Aside0.mk H
                                      clear H
                                      go_wp2
                                      go_meet
                                      case rel => exact ⟨_, (2), (by first | rfl | (simp; done) | (simp [*]; done)), H', ⟨by have := HK1.out; have := HJ6.out; have := HJ14.out; have := HK4.out; first | omega | exact Nat.le_refl _⟩, ⟨by (with_reducible repeat (first | refine blk_drewN ?_ _ | refine blk_drew ?_ | refine blk_alloc ?_ _)); exact BK103.out⟩, ⟨by repeat (first | (with_reducible first | exact HB.out | apply below_alloc | apply pw_below_drewN | apply below_drew1 | refine below_set ?_ GE103.out) | exact HB.out)⟩⟩
                                    · rw [if_neg c28] at H
                                      have c28b0 : (((rd_T62 l0 x16_1).f0) == 3) = false := beq_eq_false_iff_ne.mpr c28
                                      have c28b1 : (((rd_T62 l0 x16_1).f0) != 3) = true := bne_iff_ne.mpr c28
                                      obtain rfl := Option.some.inj H
                                      go_wp2
                                      go_ret
                                      exact ⟨by first | rfl | (simp [errW_none, errW_some] <;> rfl) | (simp [*, errW_none, errW_some] <;> rfl), by repeat (first | (with_reducible first | exact HB.out | apply below_alloc | apply pw_below_drewN | apply below_drew1 | refine below_set ?_ GE103.out) | exact HB.out)⟩
                              case rest =>
                                clear HC24
                                try clear c1
                                try clear p1
                                try clear q1
                                try clear hx1
                                try clear c2
                                try clear p2
                                try clear c3
                                try clear c4
                                try clear c4b0
                                try clear c5
                                try clear c5b0
                                try clear c6
                                try clear c6b0
                                try clear p6
                                try clear c10
                                try clear c10b0
                                try clear c10b1
                                try clear c10b2
                                try clear p10
                                try clear q10
                                try clear hx10
                                try clear c14
                                try clear c16
                                try clear c16b0
                                try clear c17
                                try clear c18
                                try clear c18b0
                                try clear c19
                                try clear c19b0
                                try clear c21
                                try clear c21b0
                                try clear c22
                                try clear c22b0
                                try clear c23
                                try clear c23b0
                                try clear c26
                                try clear c26b0
                                try clear c26b1
                                try clear c27
                                try clear c27b0
                                try clear c27b1
                                try clear c28
                                try clear c28b0
                                try clear c28b1
                                try clear hcz11_0
                                try clear hcz11_1
                                try clear hcz11_2
                                try clear hcz13_0
                                try clear hcz13_1
                                try clear hcz13_2
                                try clear hcz20_0
                                try clear hcz20_1
                                try clear hcz20_2
                                try clear hcz25_0
                                try clear hcz25_1
                                try clear hcz25_2
                                try clear hcz9_0
                                try clear hcz9_1
                                try clear hcz9_2
                                try clear hfz11_0
                                try clear hfz11_1
                                try clear hfz11_2
                                try clear hfz13_0
                                try clear hfz13_1
                                try clear hfz13_2
                                try clear hfz20_0
                                try clear hfz20_1
                                try clear hfz20_2
                                try clear hfz25_0
                                try clear hfz25_1
                                try clear hfz25_2
                                try clear hfz9_0
                                try clear hfz9_1
                                try clear hfz9_2
                                try clear hx102_0
                                try clear hx102_1
                                try clear hx102_2
                                try clear hx105_0
                                try clear hx105_1
                                try clear hx105_2
                                try clear hx106_0
                                try clear hx106_1
                                try clear hx106_2
                                try clear p1
                                try clear p10
                                try clear p102
                                try clear p105
                                try clear p106
                                try clear p2
                                try clear p6
                                try clear q1
                                try clear q10
                                try clear q102
                                try clear q105
                                try clear q106
                                obtain ⟨kq, x9_23, rfl, HA, HJ23, BK103, HB⟩ := hcut
                                cases kq with
                                | zero => exact absurd HA.out (by simp [spec_GoodTerm.j5])
                                | succ kj23 =>
                                  have H := HA.out
                                  clear HA
                                  simp only [spec_GoodTerm.j5] at H
                                  by_cases c29 : x5_14 = true
                                  · subst c29
                                    have H1 : (if x7_4 > 40 then (some false) else ((spec_lcParts.f kj23 l0 x16_1).bind fun t107 => (if (t107.length : Int) = x9_23 then ((spec_l1In.f ((rd_T62 l0 x16_1).f1) 0 99).bind fun t110 => (if t110 = true then (if ((rd_T62 l0 x16_1).f0) = 1 then (spec_GoodTerm.l0 kj23 l0 l0 (l0.length : Int) (wrap64 (x16_1 + 1))) else (if ((rd_T62 l0 x16_1).f1) = 0 then (spec_GoodTerm.l0 kj23 l0 l0 (l0.length : Int) (wrap64 (x16_1 + 1))) else (some false))) else (some false))) else (some false)))) = some r := by rw [if_pos rfl] at H; exact H
                                    clear H
                                    have H := H1
                                    clear H1
                                    by_cases c30 : x7_4 > 40
                                    · rw [if_pos c30] at H
                                      have c30b0 : decide (40 < x7_4) = true := decide_eq_true c30
                                      clear c30
                                      obtain rfl := Option.some.inj H
                                      go_wp2
                                      go_ret
                                      exact ⟨by first | rfl | (simp [errW_none, errW_some] <;> rfl) | (simp [*, errW_none, errW_some] <;> rfl), by repeat (first | (with_reducible first | exact HB.out | apply below_alloc | apply pw_below_drewN | apply below_drew1 | refine below_set ?_ GE103.out) | exact HB.out)⟩
                                    · rw [if_neg c30] at H
                                      have c30b0 : decide (40 < x7_4) = false := decide_eq_false c30
                                      clear c30
                                      replace H := Option.bind_eq_some_iff.mp H
                                      obtain ⟨t107, A310, H⟩ := H
                                      replace H : (if (t107.length : Int) = x9_23 then ((spec_l1In.f ((rd_T62 l0 x16_1).f1) 0 99).bind fun t110 => (if t110 = true then (if ((rd_T62 l0 x16_1).f0) = 1 then (spec_GoodTerm.l0 kj23 l0 l0 (l0.length : Int) (wrap64 (x16_1 + 1))) else (if ((rd_T62 l0 x16_1).f1) = 0 then (spec_GoodTerm.l0 kj23 l0 l0 (l0.length : Int) (wrap64 (x16_1 + 1))) else (some false))) else (some false))) else (some false)) = some r := H
                                      have A31 := Aside0.mk A310
                                      clear A310
                                      by_cases c32 : (t107.length : Int) = x9_23
                                      · rw [if_pos c32] at H
                                        have c32b0 : ((t107.length : Int) == x9_23) = true := beq_iff_eq.mpr c32
                                        have c32b1 : ((t107.length : Int) != x9_23) = false := bne_eq_false_iff_eq.mpr c32
                                        clear c32
                                        replace H := Option.bind_eq_some_iff.mp H
                                        obtain ⟨t110, A330, H⟩ := H
                                        replace H : (if t110 = true then (if ((rd_T62 l0 x16_1).f0) = 1 then (spec_GoodTerm.l0 kj23 l0 l0 (l0.length : Int) (wrap64 (x16_1 + 1))) else (if ((rd_T62 l0 x16_1).f1) = 0 then (spec_GoodTerm.l0 kj23 l0 l0 (l0.length : Int) (wrap64 (x16_1 + 1))) else (some false))) else (some false)) = some r := H
                                        have A33 := Aside0.mk A330
                                        clear A330
                                        by_cases c34 : t110 = true
                                        · subst c34
                                          have H1 : (if ((rd_T62 l0 x16_1).f0) = 1 then (spec_GoodTerm.l0 kj23 l0 l0 (l0.length : Int) (wrap64 (x16_1 + 1))) else (if ((rd_T62 l0 x16_1).f1) = 0 then (spec_GoodTerm.l0 kj23 l0 l0 (l0.length : Int) (wrap64 (x16_1 + 1))) else (some false))) = some r := by rw [if_pos rfl] at H; exact H
                                          clear H
                                          have H := H1
                                          clear H1
                                          by_cases c35 : ((rd_T62 l0 x16_1).f0) = 1
                                          · rw [if_pos c35] at H
                                            have c35b0 : (((rd_T62 l0 x16_1).f0) == 1) = true := beq_iff_eq.mpr c35
                                            have c35b1 : (((rd_T62 l0 x16_1).f0) != 1) = false := bne_eq_false_iff_eq.mpr c35
                                            clear c35
                                            have H' := Aside0.mk H
                                            clear H
                                            go_wp2_with (first | (go_at_call 44; (with_reducible refine (spec_lcParts.calls kj23 _ _ l0 x16_1 t107 _ ?side1 ?side2 A31.out).mono ?_); (case side1 => repeat (first | exact (Kd.C_below HR0.out HB.out) | (with_reducible refine Kd.C_alloc ?_ _) | (with_reducible refine Kd.C_drewN ?_ _) | (with_reducible refine Kd.C_drew ?_))); (case side2 => exact HC0.out); rintro e w36 ⟨v108, rfl, ho0, hb⟩; have n0_ := Aside0.mk (Kd.R_lower ho0 (below_size (by repeat (first | (with_reducible first | exact HB.out | apply below_alloc | apply pw_below_drewN | apply below_drew1 | refine below_set ?_ GE103.out) | exact HB.out)))); have n1_ := Aside0.mk (blk_below (g := gb103) (o := .cells #[.int .i64 ((rd_T62 l0 x16_1).f0), .int .i64 ((rd_T62 l0 x16_1).f1), .int .i64 ((rd_T62 l0 x16_1).f2)] 62 (0, 0)) (by (with_reducible repeat (first | refine blk_drewN ?_ _ | refine blk_drew ?_ | refine blk_alloc ?_ _)); exact BK103.out) hb); have n2_ := Aside0.mk (below_step (by repeat (first | (with_reducible first | exact HB.out | apply below_alloc | apply pw_below_drewN | apply below_drew1 | refine below_set ?_ GE103.out) | exact HB.out)) hb); clear BK103; clear HB; have HO109 := n0_; have BK103 := n1_; have HB := n2_; clear n0_ n1_ n2_; (try clear hb); (try clear hb2); (try clear hk); (try clear hi); (try clear ho0); obtain ⟨Ao37, co37, eo37⟩ := Kd.R_slice HO109.out; subst eo37; have hcz38_0 : w36.cell? ⟨gb103, 0, none⟩ = some (.int .i64 ((rd_T62 l0 x16_1).f0)) := (blk_cell BK103.out 0).trans rfl; have hcz38_1 : w36.cell? ⟨gb103, 1, none⟩ = some (.int .i64 ((rd_T62 l0 x16_1).f1)) := (blk_cell BK103.out 1).trans rfl; have hcz38_2 : w36.cell? ⟨gb103, 2, none⟩ = some (.int .i64 ((rd_T62 l0 x16_1).f2)) := (blk_cell BK103.out 2).trans rfl; have hfz38_0 := blk_frozen BK103.out 0; have hfz38_1 := blk_frozen BK103.out 1; have hfz38_2 := blk_frozen BK103.out 2) | (go_at_call 39; (with_reducible refine (spec_l1In.calls ((rd_T62 l0 x16_1).f1) 0 99 true _ A33.out).mono ?_); rintro e w' ⟨rfl, ⟨nd, rfl⟩⟩))
                                            go_roundg kj23
                                            case measure => have := HK1.out; have := HJ6.out; have := HJ14.out; have := HK4.out; have := HJ23.out; omega
                                            case rel => exact ⟨(wrap64 (x16_1 + 1)), (by first | rfl | (simp; done) | (simp [*]; done)), H', ⟨by have := HK1.out; have := HJ6.out; have := HJ14.out; have := HK4.out; have := HJ23.out; omega⟩, ⟨by repeat (first | (with_reducible first | exact HB.out | apply below_alloc | apply pw_below_drewN | apply below_drew1 | refine below_set ?_ GE103.out) | exact HB.out)⟩⟩
                                          · rw [if_neg c35] at H
                                            have c35b0 : (((rd_T62 l0 x16_1).f0) == 1) = false := beq_eq_false_iff_ne.mpr c35
                                            have c35b1 : (((rd_T62 l0 x16_1).f0) != 1) = true := bne_iff_ne.mpr c35
                                            by_cases c39 : ((rd_T62 l0 x16_1).f1) = 0
                                            · rw [if_pos c39] at H
                                              have c39b0 : (((rd_T62 l0 x16_1).f1) == 0) = true := beq_iff_eq.mpr c39
                                              have c39b1 : (((rd_T62 l0 x16_1).f1) != 0) = false := bne_eq_false_iff_eq.mpr c39
                                              clear c39
                                              have H' := Aside0.mk H
                                              clear H
                                              go_wp2_with (first | (go_at_call 44; (with_reducible refine (spec_lcParts.calls kj23 _ _ l0 x16_1 t107 _ ?side1 ?side2 A31.out).mono ?_); (case side1 => repeat (first | exact (Kd.C_below HR0.out HB.out) | (with_reducible refine Kd.C_alloc ?_ _) | (with_reducible refine Kd.C_drewN ?_ _) | (with_reducible refine Kd.C_drew ?_))); (case side2 => exact HC0.out); rintro e w40 ⟨v108, rfl, ho0, hb⟩; have n0_ := Aside0.mk (Kd.R_lower ho0 (below_size (by repeat (first | (with_reducible first | exact HB.out | apply below_alloc | apply pw_below_drewN | apply below_drew1 | refine below_set ?_ GE103.out) | exact HB.out)))); have n1_ := Aside0.mk (blk_below (g := gb103) (o := .cells #[.int .i64 ((rd_T62 l0 x16_1).f0), .int .i64 ((rd_T62 l0 x16_1).f1), .int .i64 ((rd_T62 l0 x16_1).f2)] 62 (0, 0)) (by (with_reducible repeat (first | refine blk_drewN ?_ _ | refine blk_drew ?_ | refine blk_alloc ?_ _)); exact BK103.out) hb); have n2_ := Aside0.mk (below_step (by repeat (first | (with_reducible first | exact HB.out | apply below_alloc | apply pw_below_drewN | apply below_drew1 | refine below_set ?_ GE103.out) | exact HB.out)) hb); clear BK103; clear HB; have HO109 := n0_; have BK103 := n1_; have HB := n2_; clear n0_ n1_ n2_; (try clear hb); (try clear hb2); (try clear hk); (try clear hi); (try clear ho0); obtain ⟨Ao41, co41, eo41⟩ := Kd.R_slice HO109.out; subst eo41; have hcz42_0 : w40.cell? ⟨gb103, 0, none⟩ = some (.int .i64 ((rd_T62 l0 x16_1).f0)) := (blk_cell BK103.out 0).trans rfl; have hcz42_1 : w40.cell? ⟨gb103, 1, none⟩ = some (.int .i64 ((rd_T62 l0 x16_1).f1)) := (blk_cell BK103.out 1).trans rfl; have hcz42_2 : w40.cell? ⟨gb103, 2, none⟩ = some (.int .i64 ((rd_T62 l0 x16_1).f2)) := (blk_cell BK103.out 2).trans rfl; have hfz42_0 := blk_frozen BK103.out 0; have hfz42_1 := blk_frozen BK103.out 1; have hfz42_2 := blk_frozen BK103.out 2) | (go_at_call 39; (with_reducible refine (spec_l1In.calls ((rd_T62 l0 x16_1).f1) 0 99 true _ A33.out).mono ?_); rintro e w' ⟨rfl, ⟨nd, rfl⟩⟩))
                                              go_roundg kj23
                                              case measure => have := HK1.out; have := HJ6.out; have := HJ14.out; have := HK4.out; have := HJ23.out; omega
                                              case rel => exact ⟨(wrap64 (x16_1 + 1)), (by first | rfl | (simp; done) | (simp [*]; done)), H', ⟨by have := HK1.out; have := HJ6.out; have := HJ14.out; have := HK4.out; have := HJ23.out; omega⟩, ⟨by repeat (first | (with_reducible first | exact HB.out | apply below_alloc | apply pw_below_drewN | apply below_drew1 | refine below_set ?_ GE103.out) | exact HB.out)⟩⟩
                                            · rw [if_neg c39] at H
                                              have c39b0 : (((rd_T62 l0 x16_1).f1) == 0) = false := beq_eq_false_iff_ne.mpr c39
                                              have c39b1 : (((rd_T62 l0 x16_1).f1) != 0) = true := bne_iff_ne.mpr c39
                                              obtain rfl := Option.some.inj H
                                              go_wp2_with (first | (go_at_call 44; (with_reducible refine (spec_lcParts.calls kj23 _ _ l0 x16_1 t107 _ ?side1 ?side2 A31.out).mono ?_); (case side1 => repeat (first | exact (Kd.C_below HR0.out HB.out) | (with_reducible refine Kd.C_alloc ?_ _) | (with_reducible refine Kd.C_drewN ?_ _) | (with_reducible refine Kd.C_drew ?_))); (case side2 => exact HC0.out); rintro e w43 ⟨v108, rfl, ho0, hb⟩; have n0_ := Aside0.mk (Kd.R_lower ho0 (below_size (by repeat (first | (with_reducible first | exact HB.out | apply below_alloc | apply pw_below_drewN | apply below_drew1 | refine below_set ?_ GE103.out) | exact HB.out)))); have n1_ := Aside0.mk (blk_below (g := gb103) (o := .cells #[.int .i64 ((rd_T62 l0 x16_1).f0), .int .i64 ((rd_T62 l0 x16_1).f1), .int .i64 ((rd_T62 l0 x16_1).f2)] 62 (0, 0)) (by (with_reducible repeat (first | refine blk_drewN ?_ _ | refine blk_drew ?_ | refine blk_alloc ?_ _)); exact BK103.out) hb); have n2_ := Aside0.mk (below_step (by repeat (first | (with_reducible first | exact HB.out | apply below_alloc | apply pw_below_drewN | apply below_drew1 | refine below_set ?_ GE103.out) | exact HB.out)) hb); clear BK103; clear HB; have HO109 := n0_; have BK103 := n1_; have HB := n2_; clear n0_ n1_ n2_; (try clear hb); (try clear hb2); (try clear hk); (try clear hi); (try clear ho0); obtain ⟨Ao44, co44, eo44⟩ := Kd.R_slice HO109.out; subst eo44; have hcz45_0 : w43.cell? ⟨gb103, 0, none⟩ = some (.int .i64 ((rd_T62 l0 x16_1).f0)) := (blk_cell BK103.out 0).trans rfl; have hcz45_1 : w43.cell? ⟨gb103, 1, none⟩ = some (.int .i64 ((rd_T62 l0 x16_1).f1)) := (blk_cell BK103.out 1).trans rfl; have hcz45_2 : w43.cell? ⟨gb103, 2, none⟩ = some (.int .i64 ((rd_T62 l0 x16_1).f2)) := (blk_cell BK103.out 2).trans rfl; have hfz45_0 := blk_frozen BK103.out 0; have hfz45_1 := blk_frozen BK103.out 1; have hfz45_2 := blk_frozen BK103.out 2) | (go_at_call 39; (with_reducible refine (spec_l1In.calls ((rd_T62 l0 x16_1).f1) 0 99 true _ A33.out).mono ?_); rintro e w' ⟨rfl, ⟨nd, rfl⟩⟩))
                                              go_ret
                                              exact ⟨by first | rfl | (simp [errW_none, errW_some] <;> rfl) | (simp [*, errW_none, errW_some] <;> rfl), by repeat (first | (with_reducible first | exact HB.out | apply below_alloc | apply pw_below_drewN | apply below_drew1 | refine below_set ?_ GE103.out) | exact HB.out)⟩
                                        · replace c34 := Bool.eq_false_iff.mpr c34
                                          subst c34
                                          have H1 : (some false) = some r := by rw [if_neg (show ¬ (false = true) by decide)] at H; exact H
                                          clear H
                                          have H := H1
                                          clear H1
                                          obtain rfl := Option.some.inj H
                                          go_wp2_with (first | (go_at_call 44; (with_reducible refine (spec_lcParts.calls kj23 _ _ l0 x16_1 t107 _ ?side1 ?side2 A31.out).mono ?_); (case side1 => repeat (first | exact (Kd.C_below HR0.out HB.out) | (with_reducible refine Kd.C_alloc ?_ _) | (with_reducible refine Kd.C_drewN ?_ _) | (with_reducible refine Kd.C_drew ?_))); (case side2 => exact HC0.out); rintro e w46 ⟨v108, rfl, ho0, hb⟩; have n0_ := Aside0.mk (Kd.R_lower ho0 (below_size (by repeat (first | (with_reducible first | exact HB.out | apply below_alloc | apply pw_below_drewN | apply below_drew1 | refine below_set ?_ GE103.out) | exact HB.out)))); have n1_ := Aside0.mk (blk_below (g := gb103) (o := .cells #[.int .i64 ((rd_T62 l0 x16_1).f0), .int .i64 ((rd_T62 l0 x16_1).f1), .int .i64 ((rd_T62 l0 x16_1).f2)] 62 (0, 0)) (by (with_reducible repeat (first | refine blk_drewN ?_ _ | refine blk_drew ?_ | refine blk_alloc ?_ _)); exact BK103.out) hb); have n2_ := Aside0.mk (below_step (by repeat (first | (with_reducible first | exact HB.out | apply below_alloc | apply pw_below_drewN | apply below_drew1 | refine below_set ?_ GE103.out) | exact HB.out)) hb); clear BK103; clear HB; have HO109 := n0_; have BK103 := n1_; have HB := n2_; clear n0_ n1_ n2_; (try clear hb); (try clear hb2); (try clear hk); (try clear hi); (try clear ho0); obtain ⟨Ao47, co47, eo47⟩ := Kd.R_slice HO109.out; subst eo47; have hcz48_0 : w46.cell? ⟨gb103, 0, none⟩ = some (.int .i64 ((rd_T62 l0 x16_1).f0)) := (blk_cell BK103.out 0).trans rfl; have hcz48_1 : w46.cell? ⟨gb103, 1, none⟩ = some (.int .i64 ((rd_T62 l0 x16_1).f1)) := (blk_cell BK103.out 1).trans rfl; have hcz48_2 : w46.cell? ⟨gb103, 2, none⟩ = some (.int .i64 ((rd_T62 l0 x16_1).f2)) := (blk_cell BK103.out 2).trans rfl; have hfz48_0 := blk_frozen BK103.out 0; have hfz48_1 := blk_frozen BK103.out 1; have hfz48_2 := blk_frozen BK103.out 2) | (go_at_call 39; (with_reducible refine (spec_l1In.calls ((rd_T62 l0 x16_1).f1) 0 99 false _ A33.out).mono ?_); rintro e w' ⟨rfl, ⟨nd, rfl⟩⟩))
                                          go_ret
                                          exact ⟨by first | rfl | (simp [errW_none, errW_some] <;> rfl) | (simp [*, errW_none, errW_some] <;> rfl), by repeat (first | (with_reducible first | exact HB.out | apply below_alloc | apply pw_below_drewN | apply below_drew1 | refine below_set ?_ GE103.out) | exact HB.out)⟩
                                      · rw [if_neg c32] at H
                                        have c32b0 : ((t107.length : Int) == x9_23) = false := beq_eq_false_iff_ne.mpr c32
                                        have c32b1 : ((t107.length : Int) != x9_23) = true := bne_iff_ne.mpr c32
                                        obtain rfl := Option.some.inj H
                                        go_wp2_with (first | (go_at_call 44; (with_reducible refine (spec_lcParts.calls kj23 _ _ l0 x16_1 t107 _ ?side1 ?side2 A31.out).mono ?_); (case side1 => repeat (first | exact (Kd.C_below HR0.out HB.out) | (with_reducible refine Kd.C_alloc ?_ _) | (with_reducible refine Kd.C_drewN ?_ _) | (with_reducible refine Kd.C_drew ?_))); (case side2 => exact HC0.out); rintro e w49 ⟨v108, rfl, ho0, hb⟩; have n0_ := Aside0.mk (Kd.R_lower ho0 (below_size (by repeat (first | (with_reducible first | exact HB.out | apply below_alloc | apply pw_below_drewN | apply below_drew1 | refine below_set ?_ GE103.out) | exact HB.out)))); have n1_ := Aside0.mk (blk_below (g := gb103) (o := .cells #[.int .i64 ((rd_T62 l0 x16_1).f0), .int .i64 ((rd_T62 l0 x16_1).f1), .int .i64 ((rd_T62 l0 x16_1).f2)] 62 (0, 0)) (by (with_reducible repeat (first | refine blk_drewN ?_ _ | refine blk_drew ?_ | refine blk_alloc ?_ _)); exact BK103.out) hb); have n2_ := Aside0.mk (below_step (by repeat (first | (with_reducible first | exact HB.out | apply below_alloc | apply pw_below_drewN | apply below_drew1 | refine below_set ?_ GE103.out) | exact HB.out)) hb); clear BK103; clear HB; have HO109 := n0_; have BK103 := n1_; have HB := n2_; clear n0_ n1_ n2_; (try clear hb); (try clear hb2); (try clear hk); (try clear hi); (try clear ho0); obtain ⟨Ao50, co50, eo50⟩ := Kd.R_slice HO109.out; subst eo50))
                                        go_ret
                                        exact ⟨by first | rfl | (simp [errW_none, errW_some] <;> rfl) | (simp [*, errW_none, errW_some] <;> rfl), by repeat (first | (with_reducible first | exact HB.out | apply below_alloc | apply pw_below_drewN | apply below_drew1 | refine below_set ?_ GE103.out) | exact HB.out)⟩
                                  · replace c29 := Bool.eq_false_iff.mpr c29
                                    subst c29
                                    have H1 : (some false) = some r := by rw [if_neg (show ¬ (false = true) by decide)] at H; exact H
                                    clear H
                                    have H := H1
                                    clear H1
                                    obtain rfl := Option.some.inj H
                                    go_wp2
                                    go_ret
                                    exact ⟨by first | rfl | (simp [errW_none, errW_some] <;> rfl) | (simp [*, errW_none, errW_some] <;> rfl), by repeat (first | (with_reducible first | exact HB.out | apply below_alloc | apply pw_below_drewN | apply below_drew1 | refine below_set ?_ GE103.out) | exact HB.out)⟩
            · rw [if_neg c6] at H
              exact absurd H (by simp)
          · rw [if_neg c5] at H
            exact absurd H (by simp)
        · rw [if_neg c4] at H
          have c4b0 : decide (x16_1 < (l0.length : Int)) = false := decide_eq_false c4
          clear c4
          obtain rfl := Option.some.inj H
          go_wp2
          go_ret
          exact ⟨by first | rfl | (simp [errW_none, errW_some] <;> rfl) | (simp [*, errW_none, errW_some] <;> rfl), by repeat (first | (with_reducible first | exact HB.out | apply below_alloc | apply pw_below_drewN | apply below_drew1) | exact HB.out)⟩
  · replace c3 := Bool.eq_false_iff.mpr c3
    subst c3
    have H1 : (some false) = some r := by rw [if_neg (show ¬ (false = true) by decide)] at H; exact H
    clear H
    have H := H1
    clear H1
    obtain rfl := Option.some.inj H
    go_enter Try.func17, Try.ntmps17
    go_wp2_with (first | ((with_reducible refine gate_callee (f := 39) rfl ?_); refine goesL_ (some 12) rfl rfl Try.func39 (by kernel_rfl) rfl #[.int .i64 (l0.length : Int), .int .i64 1, .int .i64 150] rfl (by (try simp only [List.map_toArray, List.map_cons, List.map_nil]); first | done | rfl | (simp only [List.length_drop, List.length_take]; rfl)) ?_; (with_reducible refine (spec_l1In.calls (l0.length : Int) 1 150 false _ A2.out).mono ?_); rintro e w' ⟨rfl, ⟨nd, rfl⟩⟩; refine ⟨_, rfl, ?_⟩))
    go_ret
    exact ⟨by first | rfl | (simp [errW_none, errW_some] <;> rfl) | (simp [*, errW_none, errW_some] <;> rfl), by repeat (first | (with_reducible first | exact HB.out | apply below_alloc | apply pw_below_drewN | apply below_drew1) | exact HB.out)⟩

end Go.Proofs.Ytcjhhdecckcibaa.G

namespace Go.Proofs.Ytcjhhdecckcibaa.G
open Go.RowKit Go.Proofs.YtcjhhdecckcibaaW.PrintWords Go.Proofs.YtcjhhdecckcibaaW.PrintLast Go.Proofs.YtcjhhdecckcibaaW.PrintMore
attribute [local go_sem] max2_int min2_int max_two min_two max_three min_three max_four min_four   -- for this text's walks alone
set_option linter.unusedVariables false
set_option linter.unusedSimpArgs false

namespace Free90
def listed : Nat → List Bool → List Int
  | _, [] => []
  | i, b :: l => if b = true then (i : Int) :: listed (i + 1) l else listed (i + 1) l
theorem listed_drop (l : List Bool) (i : Nat) (h : i < l.length) : listed i (l.drop i) = if rdOf false l (i : Int) = true then (i : Int) :: listed (i + 1) (l.drop (i + 1)) else listed (i + 1) (l.drop (i + 1)) := by
  rw [List.drop_eq_getElem_cons h, listed]
  have e : rdOf false l (i : Int) = l[i] := by unfold rdOf; rw [Int.toNat_natCast, List.getD_eq_getElem?_getD, List.getElem?_eq_getElem h]; rfl
  rw [e]
theorem fr_len : ∀ (N : Nat), (∀ (x : S90) (ar : Int) (l : List Bool), SizeOf.sizeOf x ≤ N → (frT x ar l).length = l.length) ∧ (∀ (xs : List S90) (ar : Int) (l : List Bool), SizeOf.sizeOf xs ≤ N → (frL xs ar l).length = l.length) := by
  intro N
  induction N with
  | zero =>
    refine ⟨fun x ar l h => ?_, fun xs ar l h => ?_⟩
    · cases x; simp at h
    · cases xs <;> simp at h
  | succ N ih =>
    refine ⟨fun x ar l h => ?_, fun xs ar l h => ?_⟩
    · cases x with
      | mk k n ks =>
        rw [frT, ih.2 ks _ _ (by simp at h; omega)]
        split <;> simp
    · cases xs with
      | nil => rw [frL]
      | cons x xs =>
        have h1 : SizeOf.sizeOf x ≤ N := by simp at h; omega
        have h2 : SizeOf.sizeOf xs ≤ N := by simp at h; omega
        rw [frL, ih.2 xs ar _ h2, ih.1 x ar l h1]
theorem frT_len (x : S90) (ar : Int) (l : List Bool) : (frT x ar l).length = l.length := (fr_len _).1 x ar l (Nat.le_refl _)
end Free90
theorem infoB : (Try.prog.info? 4).map (fun i => (i.zero, i.size, i.bytes)) = some (some (.bool false), 1, 1) := by kernel_rfl
def spec_FreeIn.f (k : Nat) (l0 : List (S62)) : Option (List Int × Bool) := (spec_GoodTerm.f k l0).bind fun t9 => if t9 = true then ((spec_lcTree.f k l0 0).bind fun x => if Free90.inT ⟨x.1, x.2.1, x.2.2⟩ 0 100 = true then some (Free90.listed 0 (Free90.frT ⟨x.1, x.2.1, x.2.2⟩ 0 (List.replicate 100 false)), true) else none) else some (([] : List Int), false)
set_option maxHeartbeats 8000000 in
set_option maxRecDepth 100000 in
theorem spec_FreeIn.calls (k : Nat) (A0 : Option Addr) (c0 : Nat) (l0 : List (S62)) (r1 : List Int) (r2 : Bool) (w : World) (hr0 : Kd.C k62 w A0 l0.length l0) (hc0 : l0.length ≤ c0) (h : spec_FreeIn.f k l0 = some (r1, r2)) :
    Calls Try.prog 37 #[.slice A0 l0.length c0] w fun e w' => ∃ v0_ : Value, e = .returned (.tuple #[v0_, .bool r2]) ∧ Kd.R (Kd.int .i64) 3 w' w.heap.size (fun _ => True) v0_ r1 ∧ Below w.heap.size w w' := by
  have hu36 := Try.underlying36
  have hu93 := Try.underlying93
  have hu90 := Try.underlying90
  have e17 := enters_ Try.func17 (by kernel_rfl) rfl
  have e60 := enters_ Try.func60 (by kernel_rfl) rfl
  have e62 := enters_ Try.func62 (by kernel_rfl) rfl
  have HR0 := Aside0.mk hr0
  have HC0 := Aside0.mk hc0
  clear hr0 hc0
  have HB := Aside0.mk (Below.refl w.heap.size w)
  unfold spec_FreeIn.f at h
  obtain ⟨t9, h9, h⟩ := Option.bind_eq_some_iff.mp h
  have A9 := Aside0.mk h9
  clear h9
  cases t9 with
  | false =>
    rw [if_neg (by decide)] at h
    simp only [Option.some.injEq, Prod.mk.injEq] at h
    obtain ⟨rfl, rfl⟩ := h
    go_enter Try.func37, Try.ntmps37
    go_wp2_with fail
    refine (spec_GoodTerm.calls k _ _ l0 false _ HR0.out HC0.out A9.out).mono ?_
    rintro e w1 ⟨rfl, hb⟩
    have HB1 := Aside0.mk (below_step HB.out hb)
    clear hb HB
    go_wp2
    go_ret2
    exact ⟨_, rfl, Kd.R_nil _ _ _ _ _, HB1.out⟩
  | true =>
    rw [if_pos rfl] at h
    obtain ⟨⟨x1, x2, x3⟩, h13, h⟩ := Option.bind_eq_some_iff.mp h
    replace h : (if Free90.inT ⟨x1, x2, x3⟩ 0 100 = true then some (Free90.listed 0 (Free90.frT ⟨x1, x2, x3⟩ 0 (List.replicate 100 false)), true) else none) = some (r1, r2) := h
    have A13 := Aside0.mk h13
    clear h13
    by_cases hin : Free90.inT ⟨x1, x2, x3⟩ 0 100 = true
    case neg => rw [if_neg hin] at h; exact absurd h (by simp)
    rw [if_pos hin] at h
    have HIN := Aside0.mk hin
    clear hin
    simp only [Option.some.injEq, Prod.mk.injEq] at h
    obtain ⟨rfl, rfl⟩ := h
    obtain ⟨o, ho⟩ : ∃ o, o = Free90.frT (⟨x1, x2, x3⟩ : S90) 0 (List.replicate 100 false) := ⟨_, rfl⟩
    have hol : o.length = 100 := by rw [ho, Free90.frT_len]; rfl
    rw [← ho]
    have OL := Aside0.mk hol
    have HOE := Aside0.mk ho
    clear ho hol
    go_enter Try.func37, Try.ntmps37
    go_wp2_with fail
    refine (spec_GoodTerm.calls k _ _ l0 true _ HR0.out HC0.out A9.out).mono ?_
    rintro e w1 ⟨rfl, hb⟩
    have HB1 := Aside0.mk (below_step HB.out hb)
    clear hb HB
    go_wp2_with (first | ((with_reducible refine gate_dst (N := 11) rfl ?_); refine Kd.R_make Kd.bool (w0 := w) w.heap.size 4 (by rfl) (N := 11) rfl 93 _ _ rfl (100 : Int) rfl rfl Try.underlying93 (.bool false) 1 infoB rfl (by decide) (by omega) false (ok := fun _ => True) (okp := fun _ => True) rfl (fun _ hk => hk) trivial (by decide) (by decide) HB1.out (below_size HB1.out) ?_; intro v1 w2 ho hb hg hat; clear hat; obtain ⟨g, cap, hv1, hg1, hg2, cells, hc⟩ := Kd.R_form ho (by decide); (replace hv1 : v1 = .slice (some ⟨g, 0, none⟩) 100 cap := hv1); subst hv1; (replace ho : Kd.R Kd.bool 4 w2 w.heap.size (fun _ => True) (.slice (some ⟨g, 0, none⟩) 100 cap) (List.replicate 100 false) := ho); have HO := Aside0.mk ho; have HB2 := Aside0.mk hb; have HG := Aside0.mk hg2; clear ho hb hg hg1 hg2 hc HB1))
    refine (spec_lcTree.calls k _ _ l0 0 x1 x2 x3 _ (Kd.C_below HR0.out HB2.out) HC0.out A13.out).mono ?_
    rintro e w3 ⟨v3, rfl, hR3, hb3⟩
    obtain ⟨A3, c3, rfl⟩ := Kd.R_slice hR3
    have HO3 := Aside0.mk (Kd.R_below HO.out hb3)
    have HB3 := Aside0.mk (below_step HB2.out hb3)
    -- the tree, read where the row is not
    obtain ⟨wJ, hwJ⟩ : ∃ wJ : World, wJ = { w3 with heap := w3.heap.setIfInBounds g (.map #[] 0) } := ⟨_, rfl⟩
    have hlt : g < w3.heap.size := Nat.lt_of_lt_of_le HG.out hb3.size
    have hJ : ∀ (off : Nat) (p : _), wJ.cell? ⟨g, off, p⟩ = none := fun off p => by
      rw [hwJ]; simp [World.cell?, hlt]
    have hq : Free90.Kp g wJ w3 := ⟨by rw [hwJ]; simp, fun k hk hne => by rw [hwJ]; simp [Array.getElem?_setIfInBounds_ne, Ne.symm hne]⟩
    have hC : Kd.C k90 wJ A3 x3.length x3 ∧ x3.length ≤ c3 := by
      have h1 := Kd.R_move (w1 := wJ) (Kd.R_bound hR3) (fun k hk => by
        have : k ≠ g := by have := hk.2.1; have := HG.out; omega
        rw [hwJ]; simp [Array.getElem?_setIfInBounds_ne, Ne.symm this])
      have h2 := Kd.R_reads' h1
      exact ⟨h2.2.2, h2.2.1⟩
    have HC := Aside0.mk hC
    have HJ := Aside0.mk hJ
    have HQ := Aside0.mk hq
    clear hwJ hlt hJ hq hC hR3 hb3 HO HB2
    go_wp2_with fail
    refine (Free90.free_some w wJ g 100 cap HJ.out (SizeOf.sizeOf x3) (⟨x1, x2, x3⟩ : S90) 0 A3 c3 (List.replicate 100 false) _ (Nat.le_refl _) HC.out.2 HIN.out HO3.out HB3.out HQ.out HC.out.1).mono ?_
    rintro e w4 ⟨rfl, ho4, hb4, _⟩
    rw [← HOE.out] at ho4
    have HO4 := Aside0.mk ho4
    have HB4 := Aside0.mk hb4
    clear ho4 hb4 HO3 HB3 HC HJ HQ
    go_wp2
    go_loopg [5, 18] 101 (fun kq v5 v18 w' => ∃ (i : Int) (acc : List Int), v18 = .int .i64 i ∧ Aside0 (Kd.R (Kd.int .i64) 3 w' w.heap.size (fun _ => True) v5 acc) ∧ Aside0 (Kd.R Kd.bool 4 w' w.heap.size (fun _ => True) (.slice (some ⟨g, 0, none⟩) 100 cap) o) ∧ Aside0 (0 ≤ i ∧ i ≤ 100 ∧ (kq : Int) = 101 - i) ∧ Aside0 (acc.length ≤ i.toNat ∧ acc ++ Free90.listed i.toNat (o.drop i.toNat) = Free90.listed 0 o) ∧ Aside0 (Below w.heap.size w w'))
    case atStart => exact ⟨0, [], rfl, ⟨Kd.R_nil _ _ _ _ _⟩, HO4, ⟨by omega, by omega, by omega⟩, ⟨by simp, by rw [show (0 : Int).toNat = 0 from rfl, List.drop_zero]; rfl⟩, HB4⟩
    case round =>
      clear HO4 HB4
      obtain ⟨i, acc, rfl, HO, HOB, HA, HF, HB⟩ := hrel
      by_cases c2 : i < (100 : Int)
      · have cb : decide (i < (100 : Int)) = true := decide_eq_true c2
        have cz : decide (0 ≤ i) = true := decide_eq_true HA.out.1
        obtain ⟨j, rfl⟩ : ∃ j : Nat, i = (j : Int) := ⟨i.toNat, by have := HA.out.1; omega⟩
        obtain ⟨hx0, hf0⟩ := Kd.R_celln false HOB.out (j : Int) HA.out.1 c2
        rw [Int.toNat_natCast] at hx0 hf0
        have p1 := eq_true HA.out.1
        have q1 := eq_true c2
        have w1 : wrap64 ((j : Int) + 1) = (j : Int) + 1 := by unfold wrap64; omega
        have W1 := Aside0.mk w1
        have PI := Aside0.mk (show j < 100 by omega)
        have e9 := Free90.listed_drop o j (by rw [OL.out]; omega)
        clear c2 w1
        obtain ⟨k1, rfl⟩ : ∃ q, gk = q + 1 := ⟨gk - 1, by have := HA.out; have := PI.out; omega⟩
        by_cases hbv : rdOf false o (j : Int) = true
        · rw [if_pos hbv] at e9
          rw [hbv] at hx0
          have E9 := Aside0.mk e9
          clear e9 hbv
          obtain ⟨Aa, ca, rfl⟩ := Kd.R_slice HO.out
          go_wp2_with (first | ((with_reducible refine gate_builtin (b := .append) (xs := #[.tmp 24, .tmp 26]) rfl ?_); at_builtin; refine Kd.R_append (Kd.int .i64) (w0 := w) w.heap.size rfl (.tmp 24) (.tmp 26) 36 3 (.int .i64 0) 8 rfl Try.underlying36 info3 rfl (by decide) (by omega) (.slice Aa acc.length ca) acc (j : Int) [.int .i64 (j : Int)] (fun _ => True) (fun _ => False) rfl (by first | (go_simp; done) | (go_simp; rfl)) ?aP (fun _ hk => hk.elim) ?aF ?aO ?aB ?aS ?aL ?_; (case aP => exact rfl); (case aB => exact HB.out); (case aF => exact (fun _ _ => trivial)); (case aO => exact HO.out); (case aS => exact (below_size HB.out)); (case aL => have := HF.out.1; have := PI.out; omega); intro v1 w7 ho hb hg hat; have m0_ := Aside0.mk (Kd.R_over' HOB.out (Kd.R_typed HO.out) (by decide) hg); have m1_ := Aside0.mk hb; have m2_ := Aside0.mk ho; clear HO HOB HB ho hb hg hat hx0 hf0; have HOB := m0_; have HB := m1_; have HO := m2_; clear m0_ m1_ m2_))
          go_roundg k1
          case measure => omega
          case rel => exact ⟨(j : Int) + 1, acc ++ [(j : Int)], by first | rfl | rw [W1.out], HO, HOB, ⟨by have := HA.out; omega, by have := PI.out; omega, by have := HA.out; omega⟩, ⟨by have := HF.out.1; rw [List.length_append, List.length_singleton]; omega, by have h := HF.out.2; rw [show ((j : Int)).toNat = j by omega, E9.out] at h; rw [show ((j : Int) + 1).toNat = j + 1 by omega, List.append_assoc]; exact h⟩, HB⟩
        · rw [if_neg hbv] at e9
          rw [Bool.eq_false_iff.mpr hbv] at hx0
          have E9 := Aside0.mk e9
          clear e9 hbv
          go_wp2
          go_roundg k1
          case measure => omega
          case rel => exact ⟨(j : Int) + 1, acc, by first | rfl | rw [W1.out], HO, HOB, ⟨by have := HA.out; omega, by have := PI.out; omega, by have := HA.out; omega⟩, ⟨by have := HF.out.1; omega, by have h := HF.out.2; rw [show ((j : Int)).toNat = j by omega, E9.out] at h; rw [show ((j : Int) + 1).toNat = j + 1 by omega]; exact h⟩, HB⟩
      · have cb : decide (i < (100 : Int)) = false := decide_eq_false c2
        have hi : i.toNat = 100 := by have := HA.out; omega
        have e := HF.out.2
        rw [hi, List.drop_eq_nil_of_le (by rw [OL.out]; omega), Free90.listed, List.append_nil] at e
        have E := Aside0.mk e
        clear c2 hi e
        go_wp2
        go_ret2
        exact ⟨_, rfl, by rw [← E.out]; exact HO.out, HB.out⟩
end Go.Proofs.Ytcjhhdecckcibaa.G

namespace Go.Proofs.Ytcjhhdecckcibaa.G
open Go.RowKit Go.Proofs.YtcjhhdecckcibaaW.PrintWords Go.Proofs.YtcjhhdecckcibaaW.PrintLast Go.Proofs.YtcjhhdecckcibaaW.PrintMore
attribute [local go_sem] max2_int min2_int max_two min_two max_three min_three max_four min_four   -- for this text's walks alone
set_option linter.unusedVariables false
set_option linter.unusedSimpArgs false

mutual
def impl_termAt.j0 : Nat → List (S62) → Int → Bool → Option (Int × Int × (List (S68)) × Int × Bool)
  | 0, _, _, _ => none
  | k + 1, x0, x1, x42 => if x42 = true then (some (0, 0, ([] : List (S68)), 0, false)) else (if 0 ≤ x1 then (if x1 < (x0.length : Int) then (impl_termAt.l0 k x0 x1 (wrap64 (x1 + 1)) (wrap64 (((rd_T62 x0 x1).f0) - 1)) 0 ((rd_T62 x0 x1).f0) ((rd_T62 x0 x1).f1) ([] : List (S68))) else (none)) else (none))
def impl_termAt.l0 : Nat → List (S62) → Int → Int → Int → Int → Int → Int → List (S68) → Option (Int × Int × (List (S68)) × Int × Bool)
  | 0, _, _, _, _, _, _, _, _ => none
  | k + 1, x0, x1, x10, x59, x60, x108000, x108001, x108002 => if x60 < x59 then ((impl_termAt.f k x0 x10 x1).bind fun bt108 => (if bt108.2.2.2.2 = true then (if x108002.length < 3518437208883 then (impl_termAt.l0 k x0 x1 bt108.2.2.2.1 x59 (wrap64 (x60 + 1)) x108000 x108001 (x108002 ++ [(⟨bt108.1, bt108.2.1, bt108.2.2.1⟩ : S68)])) else (none)) else (some (0, 0, ([] : List (S68)), 0, false)))) else (some (x108000, x108001, x108002, x10, true))
def impl_termAt.f : Nat → List (S62) → Int → Int → Option (Int × Int × (List (S68)) × Int × Bool)
  | 0, _, _, _ => none
  | k + 1, l0, a1, a2 => if a1 = (l0.length : Int) then (impl_termAt.j0 k l0 a1 true) else (if 0 ≤ a1 then (if a1 < (l0.length : Int) then (if ((rd_T62 l0 a1).f2) = a2 then (if ((rd_T62 l0 a1).f0) < 1 then (impl_termAt.j0 k l0 a1 true) else (impl_termAt.j0 k l0 a1 (decide (((rd_T62 l0 a1).f0) > 3)))) else (impl_termAt.j0 k l0 a1 true)) else (none)) else (none))
end
def impl_termAt.T3 : Bool × List (List Nat × List Nat) := (true, [([], []), ([], []), ([0, 1], [0, 1]), ([2], [2]), ([3], [3]), ([], []), ([], []), ([5, 6], [5, 6]), ([7], [7]), ([8], [8]), ([4, 9], [4, 9]), ([], []), ([11], [11]), ([], []), ([13, 10, 0, 1, 2, 3, 4, 5, 6, 7, 8, 9, 10, 13], [10, 13]), ([12, 14, 0, 1, 2, 3, 4, 5, 6, 7, 8, 9, 10, 11, 12, 13, 14], [12])])
def impl_termAt.B3 : List Nat := [0, 0, 3, 7, 15, 0, 0, 96, 224, 480, 1023, 0, 2048, 0, 10239, 32767]
theorem impl_termAt.tab3 : rtab .any (opsOf Try.f65 3) = impl_termAt.T3 := by kernel_rfl
theorem impl_termAt.bits3 : waitsOk impl_termAt.T3.2 impl_termAt.B3 = true := by kernel_rfl
set_option maxHeartbeats 8000000 in
set_option maxRecDepth 100000 in
theorem impl_termAt.calls (k : Nat) : ∀ (A0 : Option Addr) (c0 : Nat) (l0 : List (S62)) (a1 : Int) (a2 : Int) (r1 : Int) (r2 : Int) (r3 : List (S68)) (r4 : Int) (r5 : Bool) (w : World) (hr0 : Kd.C k62 w A0 l0.length l0) (hc0 : l0.length ≤ c0) (h : impl_termAt.f k l0 a1 a2 = some (r1, r2, r3, r4, r5)),
    Calls Try.prog 65 #[.slice A0 l0.length c0, .int .i64 a1, .int .i64 a2] w fun e w' => ∃ v2_ : Value, e = .returned (.tuple #[.agg #[.int .i64 r1, .int .i64 r2, v2_], .int .i64 r4, .bool r5]) ∧ Kd.R k68 68 w' w.heap.size (fun _ => True) v2_ r3 ∧ Below w.heap.size w w' := by
  induction k using Nat.strongRecOn with
  | _ k ih =>
  intro A0 c0 l0 a1 a2 r1 r2 r3 r4 r5 w hr0 hc0 h
  cases k with
  | zero => exact absurd h (by simp [impl_termAt.f])
  | succ k =>
  simp only [impl_termAt.f] at h
  have hu68 := Try.underlying68
  have HR0 := Aside0.mk hr0
  have HC0 := Aside0.mk hc0
  clear hr0 hc0
  have HB := Aside0.mk (Below.refl w.heap.size w)
  have H : (if a1 = (l0.length : Int) then (impl_termAt.j0 k l0 a1 true) else (if 0 ≤ a1 then (if a1 < (l0.length : Int) then (if ((rd_T62 l0 a1).f2) = a2 then (if ((rd_T62 l0 a1).f0) < 1 then (impl_termAt.j0 k l0 a1 true) else (impl_termAt.j0 k l0 a1 (decide (((rd_T62 l0 a1).f0) > 3)))) else (impl_termAt.j0 k l0 a1 true)) else (none)) else (none))) = some (r1, r2, r3, r4, r5) := h
  clear h
  have HC4 := Aside0.mk H
  clear H
  go_enter Try.func65, Try.ntmps65
  go_upto_region 1 with (first | ((with_reducible refine gate_dst (N := 6) rfl ?_); refine box_event ?hg (N := 6) ?hd (cs := #[.int .i64 0, .int .i64 0, .slice none 0 0]) (t := 68) ?hr ?_; (case hd => rfl); (case hg => rfl); (case hr => first | (go_simp; done) | (go_simp; rfl)); intro gb101 hg w5 hbox hb; have n0_ := Aside0.mk (below_step (by repeat (first | (with_reducible first | exact HB.out | apply below_alloc | apply pw_below_drewN | apply below_drew1) | exact HB.out)) hb); have n1_ := Aside0.mk (hbox); have n2_ := Aside0.mk ((by rw [hg]; exact (below_size (by repeat (first | (with_reducible first | exact HB.out | apply below_alloc | apply pw_below_drewN | apply below_drew1) | exact HB.out))) : w.heap.size ≤ gb101)); have n3_ := Aside0.mk ((by rw [hg]; exact (below_size (by repeat (first | (with_reducible first | exact HB.out | apply below_alloc | apply pw_below_drewN | apply below_drew1) | exact HB.out))) : w.heap.size ≤ gb101)); clear HB; have HB := n0_; have BK101 := n1_; have GW101 := n2_; have GE101 := n3_; clear n0_ n1_ n2_ n3_; clear hb hbox hg))
  (try simp only [Act.put, List.setIfInBounds_toArray, List.set_cons_zero, List.set_cons_succ])
  go_cut [42] (fun v42 wc => ∃ (kq : Nat) (x42_3 : Bool), v42 = .bool x42_3 ∧ Aside0 (impl_termAt.j0 kq l0 a1 x42_3 = some (r1, r2, r3, r4, r5)) ∧ Aside0 (kq ≤ k) ∧ Aside0 (wc.heap[gb101]? = some (.cells #[.int .i64 0, .int .i64 0, (.slice none 0 0)] 68 (0, 0))) ∧ Aside0 (Below w.heap.size w wc))
  case first =>
    have H := HC4.out
    clear HC4
    by_cases c6 : a1 = (l0.length : Int)
    · rw [if_pos c6] at H
      have c6b0 : (a1 == (l0.length : Int)) = true := beq_iff_eq.mpr c6
      have c6b1 : (a1 != (l0.length : Int)) = false := bne_eq_false_iff_eq.mpr c6
      clear c6
      (first | rw [c6b0] | (simp only [i64_w, i32_w]; rw [c6b0]) | skip)
      have H' := Aside0.mk H
      clear H
      go_wp2
      go_meet
      case rel => exact ⟨_, (true), (by first | rfl | (simp; done) | (simp [*]; done)), H', ⟨by first | omega | exact Nat.le_refl _⟩, ⟨by (with_reducible repeat (first | refine blk_drewN ?_ _ | refine blk_drew ?_ | refine blk_alloc ?_ _)); exact BK101.out⟩, ⟨by repeat (first | (with_reducible first | exact HB.out | apply below_alloc | apply pw_below_drewN | apply below_drew1 | refine below_set ?_ GE101.out) | exact HB.out)⟩⟩
    · rw [if_neg c6] at H
      have c6b0 : (a1 == (l0.length : Int)) = false := beq_eq_false_iff_ne.mpr c6
      have c6b1 : (a1 != (l0.length : Int)) = true := bne_iff_ne.mpr c6
      (first | rw [c6b0] | (simp only [i64_w, i32_w]; rw [c6b0]) | skip)
      by_cases c7 : 0 ≤ a1
      · rw [if_pos c7] at H
        have c7b0 : decide (0 ≤ a1) = true := decide_eq_true c7
        clear c7
        by_cases c8 : a1 < (l0.length : Int)
        · rw [if_pos c8] at H
          have c8b0 : decide (a1 < (l0.length : Int)) = true := decide_eq_true c8
          clear c8
          by_cases c9 : ((rd_T62 l0 a1).f2) = a2
          · rw [if_pos c9] at H
            have c9b0 : (((rd_T62 l0 a1).f2) == a2) = true := beq_iff_eq.mpr c9
            have c9b1 : (((rd_T62 l0 a1).f2) != a2) = false := bne_eq_false_iff_eq.mpr c9
            clear c9
            by_cases c10 : ((rd_T62 l0 a1).f0) < 1
            · rw [if_pos c10] at H
              have c10b0 : decide (((rd_T62 l0 a1).f0) < 1) = true := decide_eq_true c10
              clear c10
              have H' := Aside0.mk H
              clear H
              have p102 : 0 ≤ (a1 : Int) := of_decide_eq_true (by first | (with_reducible assumption) | assumption)
              have q102 : a1 < (l0.length : Int) := of_decide_eq_true (by first | (with_reducible assumption) | assumption)
              obtain ⟨ad102, e102, hx102_0, hx102_1, hx102_2⟩ := at_T62 HR0.out a1 p102 q102
              cases e102
              replace hx102_0 := (HB.out.cell (World.block_lt_of_cell? w _ hx102_0)).trans hx102_0
              replace hx102_1 := (HB.out.cell (World.block_lt_of_cell? w _ hx102_1)).trans hx102_1
              replace hx102_2 := (HB.out.cell (World.block_lt_of_cell? w _ hx102_2)).trans hx102_2
              replace p102 := eq_true p102
              replace q102 := eq_true q102
              have p103 : 0 ≤ (a1 : Int) := of_decide_eq_true (by first | (with_reducible assumption) | assumption)
              have q103 : a1 < (l0.length : Int) := of_decide_eq_true (by first | (with_reducible assumption) | assumption)
              obtain ⟨ad103, e103, hx103_0, hx103_1, hx103_2⟩ := at_T62 HR0.out a1 p103 q103
              obtain rfl : ad102 = ad103 := (by injection e103)
              replace hx103_0 := (HB.out.cell (World.block_lt_of_cell? w _ hx103_0)).trans hx103_0
              replace hx103_1 := (HB.out.cell (World.block_lt_of_cell? w _ hx103_1)).trans hx103_1
              replace hx103_2 := (HB.out.cell (World.block_lt_of_cell? w _ hx103_2)).trans hx103_2
              replace p103 := eq_true p103
              replace q103 := eq_true q103
              go_wp2
              go_meet
              case rel => exact ⟨_, (true), (by first | rfl | (simp; done) | (simp [*]; done)), H', ⟨by first | omega | exact Nat.le_refl _⟩, ⟨by (with_reducible repeat (first | refine blk_drewN ?_ _ | refine blk_drew ?_ | refine blk_alloc ?_ _)); exact BK101.out⟩, ⟨by repeat (first | (with_reducible first | exact HB.out | apply below_alloc | apply pw_below_drewN | apply below_drew1 | refine below_set ?_ GE101.out) | exact HB.out)⟩⟩
            · rw [if_neg c10] at H
              have c10b0 : decide (((rd_T62 l0 a1).f0) < 1) = false := decide_eq_false c10
              clear c10
              have H' := Aside0.mk H
              clear H
              have p102 : 0 ≤ (a1 : Int) := of_decide_eq_true (by first | (with_reducible assumption) | assumption)
              have q102 : a1 < (l0.length : Int) := of_decide_eq_true (by first | (with_reducible assumption) | assumption)
              obtain ⟨ad102, e102, hx102_0, hx102_1, hx102_2⟩ := at_T62 HR0.out a1 p102 q102
              cases e102
              replace hx102_0 := (HB.out.cell (World.block_lt_of_cell? w _ hx102_0)).trans hx102_0
              replace hx102_1 := (HB.out.cell (World.block_lt_of_cell? w _ hx102_1)).trans hx102_1
              replace hx102_2 := (HB.out.cell (World.block_lt_of_cell? w _ hx102_2)).trans hx102_2
              replace p102 := eq_true p102
              replace q102 := eq_true q102
              have p103 : 0 ≤ (a1 : Int) := of_decide_eq_true (by first | (with_reducible assumption) | assumption)
              have q103 : a1 < (l0.length : Int) := of_decide_eq_true (by first | (with_reducible assumption) | assumption)
              obtain ⟨ad103, e103, hx103_0, hx103_1, hx103_2⟩ := at_T62 HR0.out a1 p103 q103
              obtain rfl : ad102 = ad103 := (by injection e103)
              replace hx103_0 := (HB.out.cell (World.block_lt_of_cell? w _ hx103_0)).trans hx103_0
              replace hx103_1 := (HB.out.cell (World.block_lt_of_cell? w _ hx103_1)).trans hx103_1
              replace hx103_2 := (HB.out.cell (World.block_lt_of_cell? w _ hx103_2)).trans hx103_2
              replace p103 := eq_true p103
              replace q103 := eq_true q103
              have p104 : 0 ≤ (a1 : Int) := of_decide_eq_true (by first | (with_reducible assumption) | assumption)
              have q104 : a1 < (l0.length : Int) := of_decide_eq_true (by first | (with_reducible assumption) | assumption)
              obtain ⟨ad104, e104, hx104_0, hx104_1, hx104_2⟩ := at_T62 HR0.out a1 p104 q104
              obtain rfl : ad102 = ad104 := (by injection e104)
              replace hx104_0 := (HB.out.cell (World.block_lt_of_cell? w _ hx104_0)).trans hx104_0
              replace hx104_1 := (HB.out.cell (World.block_lt_of_cell? w _ hx104_1)).trans hx104_1
              replace hx104_2 := (HB.out.cell (World.block_lt_of_cell? w _ hx104_2)).trans hx104_2
              replace p104 := eq_true p104
              replace q104 := eq_true q104
              go_wp2
              go_meet
              case rel => exact ⟨_, (decide (((rd_T62 l0 a1).f0) > 3)), (by first | rfl | (simp; done) | (simp [*]; done)), H', ⟨by first | omega | exact Nat.le_refl _⟩, ⟨by (with_reducible repeat (first | refine blk_drewN ?_ _ | refine blk_drew ?_ | refine blk_alloc ?_ _)); exact BK101.out⟩, ⟨by repeat (first | (with_reducible first | exact HB.out | apply below_alloc | apply pw_below_drewN | apply below_drew1 | refine below_set ?_ GE101.out) | exact HB.out)⟩⟩
          · rw [if_neg c9] at H
            have c9b0 : (((rd_T62 l0 a1).f2) == a2) = false := beq_eq_false_iff_ne.mpr c9
            have c9b1 : (((rd_T62 l0 a1).f2) != a2) = true := bne_iff_ne.mpr c9
            have H' := Aside0.mk H
            clear H
            have p102 : 0 ≤ (a1 : Int) := of_decide_eq_true (by first | (with_reducible assumption) | assumption)
            have q102 : a1 < (l0.length : Int) := of_decide_eq_true (by first | (with_reducible assumption) | assumption)
            obtain ⟨ad102, e102, hx102_0, hx102_1, hx102_2⟩ := at_T62 HR0.out a1 p102 q102
            cases e102
            replace hx102_0 := (HB.out.cell (World.block_lt_of_cell? w _ hx102_0)).trans hx102_0
            replace hx102_1 := (HB.out.cell (World.block_lt_of_cell? w _ hx102_1)).trans hx102_1
            replace hx102_2 := (HB.out.cell (World.block_lt_of_cell? w _ hx102_2)).trans hx102_2
            replace p102 := eq_true p102
            replace q102 := eq_true q102
            go_wp2
            go_meet
            case rel => exact ⟨_, (true), (by first | rfl | (simp; done) | (simp [*]; done)), H', ⟨by first | omega | exact Nat.le_refl _⟩, ⟨by (with_reducible repeat (first | refine blk_drewN ?_ _ | refine blk_drew ?_ | refine blk_alloc ?_ _)); exact BK101.out⟩, ⟨by repeat (first | (with_reducible first | exact HB.out | apply below_alloc | apply pw_below_drewN | apply below_drew1 | refine below_set ?_ GE101.out) | exact HB.out)⟩⟩
        · rw [if_neg c8] at H
          exact absurd H (by simp)
      · rw [if_neg c7] at H
        exact absurd H (by simp)
  case rest =>
    clear HC4
    try clear c1
    try clear p1
    try clear q1
    try clear hx1
    try clear p2
    try clear c6
    try clear c6b0
    try clear c6b1
    try clear c7
    try clear c7b0
    try clear c8
    try clear c8b0
    try clear c9
    try clear c9b0
    try clear c9b1
    try clear c10
    try clear c10b0
    try clear p10
    try clear q10
    try clear hx10
    try clear hx102_0
    try clear hx102_1
    try clear hx102_2
    try clear hx103_0
    try clear hx103_1
    try clear hx103_2
    try clear hx104_0
    try clear hx104_1
    try clear hx104_2
    try clear p102
    try clear p103
    try clear p104
    try clear q102
    try clear q103
    try clear q104
    obtain ⟨kq, x42_3, rfl, HA, HJ3, BK101, HB⟩ := hcut
    cases kq with
    | zero => exact absurd HA.out (by simp [impl_termAt.j0])
    | succ kj3 =>
      have H := HA.out
      clear HA
      simp only [impl_termAt.j0] at H
      by_cases c11 : x42_3 = true
      · subst c11
        have H1 : (some (0, 0, ([] : List (S68)), 0, false)) = some (r1, r2, r3, r4, r5) := by rw [if_pos rfl] at H; exact H
        clear H
        have H := H1
        clear H1
        simp only [Option.some.injEq, Prod.mk.injEq] at H
        obtain ⟨rfl, rfl, rfl, rfl, rfl⟩ := H
        have hcz12_0 : wc.cell? ⟨gb101, 0, none⟩ = some (.int .i64 0) := (blk_cell BK101.out 0).trans rfl
        have hcz12_1 : wc.cell? ⟨gb101, 1, none⟩ = some (.int .i64 0) := (blk_cell BK101.out 1).trans rfl
        have hcz12_2 : wc.cell? ⟨gb101, 2, none⟩ = some (.slice none 0 0) := (blk_cell BK101.out 2).trans rfl
        have hfz12_0 := blk_frozen BK101.out 0
        have hfz12_1 := blk_frozen BK101.out 1
        have hfz12_2 := blk_frozen BK101.out 2
        go_wp2
        refine bodyPost_ret (results_ctt rfl _ _ gb101 68 #[.int .i64 0, .int .i64 0, .slice none 0 0] (0, 0) _ rfl (by (with_reducible repeat (first | refine blk_drewN ?_ _ | refine blk_drew ?_ | refine blk_alloc ?_ _)); refine blk_put (cs := #[.int .i64 0, .int .i64 0, .slice none 0 0]) ?_ 2 _ rfl; (with_reducible repeat (first | refine blk_drewN ?_ _ | refine blk_drew ?_ | refine blk_alloc ?_ _)); refine blk_put (cs := #[.int .i64 0, .int .i64 0, .slice none 0 0]) ?_ 1 _ rfl; (with_reducible repeat (first | refine blk_drewN ?_ _ | refine blk_drew ?_ | refine blk_alloc ?_ _)); refine blk_put (cs := #[.int .i64 0, .int .i64 0, .slice none 0 0]) ?_ 0 _ rfl; (with_reducible repeat (first | refine blk_drewN ?_ _ | refine blk_drew ?_ | refine blk_alloc ?_ _)); exact BK101.out) Try.underlying68 rfl (by kernel_rfl)) rfl ?_
        exact ⟨_, by first | rfl | (simp [errW_none, errW_some] <;> rfl) | (simp [*, errW_none, errW_some] <;> rfl), by first | exact Kd.R_nil _ _ _ _ _ | exact Kd.N_nil _ _ _ _ _ | exact Kd.V_nil _ _ _ _ _ | exact Kd.Q_nil _ _ _ _ _ | exact Kd.S_nil _ _ _ _ _, by repeat (first | (with_reducible first | exact HB.out | apply below_alloc | apply pw_below_drewN | apply below_drew1 | refine below_set ?_ GE101.out) | exact HB.out)⟩
      · replace c11 := Bool.eq_false_iff.mpr c11
        subst c11
        have H1 : (if 0 ≤ a1 then (if a1 < (l0.length : Int) then (impl_termAt.l0 kj3 l0 a1 (wrap64 (a1 + 1)) (wrap64 (((rd_T62 l0 a1).f0) - 1)) 0 ((rd_T62 l0 a1).f0) ((rd_T62 l0 a1).f1) ([] : List (S68))) else (none)) else (none)) = some (r1, r2, r3, r4, r5) := by rw [if_neg (show ¬ (false = true) by decide)] at H; exact H
        clear H
        have H := H1
        clear H1
        by_cases c13 : 0 ≤ a1
        · rw [if_pos c13] at H
          have c13b0 : decide (0 ≤ a1) = true := decide_eq_true c13
          clear c13
          by_cases c14 : a1 < (l0.length : Int)
          · rw [if_pos c14] at H
            have c14b0 : decide (a1 < (l0.length : Int)) = true := decide_eq_true c14
            clear c14
            have H' := Aside0.mk H
            clear H
            try go_wp2
            have n0_ := Aside0.mk (blk_drew BK101.out)
            have n1_ := Aside0.mk (below_drew1 HB.out)
            clear BK101
            clear HB
            have BK101 := n0_
            have HB := n1_
            clear n0_ n1_
            have p105 : 0 ≤ (a1 : Int) := of_decide_eq_true (by first | (with_reducible assumption) | assumption)
            have q105 : a1 < (l0.length : Int) := of_decide_eq_true (by first | (with_reducible assumption) | assumption)
            obtain ⟨ad105, e105, hx105_0, hx105_1, hx105_2⟩ := at_T62 HR0.out a1 p105 q105
            have hw105_2 := hx105_2
            have hw105_1 := hx105_1
            have hw105_0 := hx105_0
            cases e105
            replace hx105_0 := (HB.out.cell (World.block_lt_of_cell? w _ hx105_0)).trans hx105_0
            replace hx105_1 := (HB.out.cell (World.block_lt_of_cell? w _ hx105_1)).trans hx105_1
            replace hx105_2 := (HB.out.cell (World.block_lt_of_cell? w _ hx105_2)).trans hx105_2
            replace p105 := eq_true p105
            replace q105 := eq_true q105
            have p106 : 0 ≤ (a1 : Int) := of_decide_eq_true (by first | (with_reducible assumption) | assumption)
            have q106 : a1 < (l0.length : Int) := of_decide_eq_true (by first | (with_reducible assumption) | assumption)
            obtain ⟨ad106, e106, hx106_0, hx106_1, hx106_2⟩ := at_T62 HR0.out a1 p106 q106
            have hw106_2 := hx106_2
            have hw106_1 := hx106_1
            have hw106_0 := hx106_0
            obtain rfl : ad105 = ad106 := (by injection e106)
            replace hx106_0 := (HB.out.cell (World.block_lt_of_cell? w _ hx106_0)).trans hx106_0
            replace hx106_1 := (HB.out.cell (World.block_lt_of_cell? w _ hx106_1)).trans hx106_1
            replace hx106_2 := (HB.out.cell (World.block_lt_of_cell? w _ hx106_2)).trans hx106_2
            replace p106 := eq_true p106
            replace q106 := eq_true q106
            refine start_ (n := 16) (S := fun w' => w'.cell? (ad105.add ((a1).toNat * 3)) = some (.int .i64 ((rd_T62 l0 a1).f0)) ∧ w'.cell? ⟨(ad105.add ((a1).toNat * 3)).block, (ad105.add ((a1).toNat * 3)).off + 1, none⟩ = some (.int .i64 ((rd_T62 l0 a1).f1)) ∧ w'.cell? ⟨(ad105.add ((a1).toNat * 3)).block, (ad105.add ((a1).toNat * 3)).off + 2, none⟩ = some (.int .i64 ((rd_T62 l0 a1).f2)) ∧ w'.cell? (ad105.add ((a1).toNat * 3)) = some (.int .i64 ((rd_T62 l0 a1).f0)) ∧ w'.cell? ⟨(ad105.add ((a1).toNat * 3)).block, (ad105.add ((a1).toNat * 3)).off + 1, none⟩ = some (.int .i64 ((rd_T62 l0 a1).f1)) ∧ w'.cell? ⟨(ad105.add ((a1).toNat * 3)).block, (ad105.add ((a1).toNat * 3)).off + 2, none⟩ = some (.int .i64 ((rd_T62 l0 a1).f2))) (ds := []) #[false, false, false, false, false, false, false, false, false, false, false, false, false, false, false, false] (by kernel_rfl) rfl rfl ⟨((HB.out.cell (World.block_lt_of_cell? w _ hw105_0)).trans hw105_0), ((HB.out.cell (World.block_lt_of_cell? w _ hw105_1)).trans hw105_1), ((HB.out.cell (World.block_lt_of_cell? w _ hw105_2)).trans hw105_2), ((HB.out.cell (World.block_lt_of_cell? w _ hw106_0)).trans hw106_0), ((HB.out.cell (World.block_lt_of_cell? w _ hw106_1)).trans hw106_1), ((HB.out.cell (World.block_lt_of_cell? w _ hw106_2)).trans hw106_2)⟩ (fun hHeld => ?_); refine with_tabW impl_termAt.tab3 impl_termAt.bits3 (fun HT_ HW_ => ?_)
            generalize wc.drew = w15 at BK101 HB hx105_0 hx105_1 hx105_2 hx106_0 hx106_1 hx106_2 hHeld ⊢
            refine pure_ (i := 0) (N := some 44) (v := ?_) (a' := ?_) #[true, false, false, false, false, false, false, false, false, false, false, false, false, false, false, false] rfl rfl (any_of HT_.out (by kernel_rfl)) (fun _ _ _ h => h) (Or.inl ⟨by rfl, ?_⟩) ?_ ?_
            rotate_left
            · intro w'
              go_simp
              with_reducible rfl
            rotate_left
            · simp only [Act.put, List.setIfInBounds_toArray, List.set_cons_zero, List.set_cons_succ, i64_w, i32_w]
              rfl
            refine pure_ (i := 1) (N := some 45) (v := ?_) (a' := ?_) #[true, true, false, false, false, false, false, false, false, false, false, false, false, false, false, false] rfl rfl (any_of HT_.out (by kernel_rfl)) (fun _ _ _ h => h) (Or.inl ⟨by rfl, ?_⟩) ?_ ?_
            rotate_left
            · intro w'
              go_simp
              with_reducible rfl
            rotate_left
            · simp only [Act.put, List.setIfInBounds_toArray, List.set_cons_zero, List.set_cons_succ, i64_w, i32_w]
              rfl
            refine pure_ (i := 2) (N := some 46) (v := ?_) (a' := ?_) #[true, true, true, false, false, false, false, false, false, false, false, false, false, false, false, false] rfl rfl (any_of HT_.out (by kernel_rfl)) (fun _ _ _ h => h) (Or.inl ⟨by rfl, ?_⟩) ?_ ?_
            rotate_left
            · intro w'
              go_simp
              with_reducible rfl
            rotate_left
            · simp only [Act.put, List.setIfInBounds_toArray, List.set_cons_zero, List.set_cons_succ, i64_w, i32_w]
              rfl
            refine pure_ (i := 3) (N := some 47) (v := ?_) (a' := ?_) #[true, true, true, true, false, false, false, false, false, false, false, false, false, false, false, false] rfl rfl (any_of HT_.out (by kernel_rfl)) (fun _ _ _ h => h) (Or.inl ⟨by rfl, ?_⟩) ?_ ?_
            rotate_left
            · intro w'
              go_simp
              with_reducible rfl
            rotate_left
            · simp only [Act.put, List.setIfInBounds_toArray, List.set_cons_zero, List.set_cons_succ, i64_w, i32_w]
              rfl
            refine pure_ (i := 5) (N := some 49) (v := ?_) (a' := ?_) #[true, true, true, true, false, true, false, false, false, false, false, false, false, false, false, false] rfl rfl (any_of HT_.out (by kernel_rfl)) (fun _ _ _ h => h) (Or.inl ⟨by rfl, ?_⟩) ?_ ?_
            rotate_left
            · intro w'
              go_simp
              with_reducible rfl
            rotate_left
            · simp only [Act.put, List.setIfInBounds_toArray, List.set_cons_zero, List.set_cons_succ, i64_w, i32_w]
              rfl
            refine pure_ (i := 6) (N := some 50) (v := ?_) (a' := ?_) #[true, true, true, true, false, true, true, false, false, false, false, false, false, false, false, false] rfl rfl (any_of HT_.out (by kernel_rfl)) (fun _ _ _ h => h) (Or.inl ⟨by rfl, ?_⟩) ?_ ?_
            rotate_left
            · intro w'
              go_simp
              with_reducible rfl
            rotate_left
            · simp only [Act.put, List.setIfInBounds_toArray, List.set_cons_zero, List.set_cons_succ, i64_w, i32_w]
              rfl
            refine pure_ (i := 7) (N := some 51) (v := ?_) (a' := ?_) #[true, true, true, true, false, true, true, true, false, false, false, false, false, false, false, false] rfl rfl (any_of HT_.out (by kernel_rfl)) (fun _ _ _ h => h) (Or.inl ⟨by rfl, ?_⟩) ?_ ?_
            rotate_left
            · intro w'
              go_simp
              with_reducible rfl
            rotate_left
            · simp only [Act.put, List.setIfInBounds_toArray, List.set_cons_zero, List.set_cons_succ, i64_w, i32_w]
              rfl
            refine pure_ (i := 8) (N := some 52) (v := ?_) (a' := ?_) #[true, true, true, true, false, true, true, true, true, false, false, false, false, false, false, false] rfl rfl (any_of HT_.out (by kernel_rfl)) (fun _ _ _ h => h) (Or.inl ⟨by rfl, ?_⟩) ?_ ?_
            rotate_left
            · intro w'
              go_simp
              with_reducible rfl
            rotate_left
            · simp only [Act.put, List.setIfInBounds_toArray, List.set_cons_zero, List.set_cons_succ, i64_w, i32_w]
              rfl
            refine pure_ (i := 11) (N := some 55) (v := ?_) (a' := ?_) #[true, true, true, true, false, true, true, true, true, false, false, true, false, false, false, false] rfl rfl (any_of HT_.out (by kernel_rfl)) (fun _ _ _ h => h) (Or.inl ⟨by rfl, ?_⟩) ?_ ?_
            rotate_left
            · intro w'
              go_simp
              with_reducible rfl
            rotate_left
            · simp only [Act.put, List.setIfInBounds_toArray, List.set_cons_zero, List.set_cons_succ, i64_w, i32_w]
              rfl
            refine pure_ (i := 12) (N := some 56) (v := ?_) (a' := ?_) #[true, true, true, true, false, true, true, true, true, false, false, true, true, false, false, false] rfl rfl (any_of HT_.out (by kernel_rfl)) (fun _ _ _ h => h) (Or.inl ⟨by rfl, ?_⟩) ?_ ?_
            rotate_left
            · intro w'
              go_simp
              with_reducible rfl
            rotate_left
            · simp only [Act.put, List.setIfInBounds_toArray, List.set_cons_zero, List.set_cons_succ, i64_w, i32_w]
              rfl
            refine take_ (i := 4) (N := some 48) (v := ?_) (a' := ?_) #[true, true, true, true, true, true, true, true, true, false, false, true, true, false, false, false] rfl rfl (take_ofW HT_.out HW_.out (by kernel_rfl)) (fun _ _ _ h => h) (Or.inl ⟨by rfl, ?_⟩) hHeld ?_ ?_
            rotate_left
            · rintro w' ⟨s0, s1, s2, s3, s4, s5⟩
              go_simp
              with_reducible rfl
            rotate_left
            · simp only [Act.put, List.setIfInBounds_toArray, List.set_cons_zero, List.set_cons_succ, i64_w, i32_w]
              rfl
            refine take_ (i := 9) (N := some 53) (v := ?_) (a' := ?_) #[true, true, true, true, true, true, true, true, true, true, false, true, true, false, false, false] rfl rfl (take_ofW HT_.out HW_.out (by kernel_rfl)) (fun _ _ _ h => h) (Or.inl ⟨by rfl, ?_⟩) hHeld ?_ ?_
            rotate_left
            · rintro w' ⟨s0, s1, s2, s3, s4, s5⟩
              go_simp
              with_reducible rfl
            rotate_left
            · simp only [Act.put, List.setIfInBounds_toArray, List.set_cons_zero, List.set_cons_succ, i64_w, i32_w]
              rfl
            refine pure_ (i := 10) (N := some 54) (v := ?_) (a' := ?_) #[true, true, true, true, true, true, true, true, true, true, true, true, true, false, false, false] rfl rfl (any_of HT_.out (by kernel_rfl)) (fun _ _ _ h => h) (Or.inl ⟨by rfl, ?_⟩) ?_ ?_
            rotate_left
            · intro w'
              go_simp
              with_reducible rfl
            rotate_left
            · simp only [Act.put, List.setIfInBounds_toArray, List.set_cons_zero, List.set_cons_succ, i64_w, i32_w]
              rfl
            refine one_ (i := 13) (N := some 9) #[true, true, true, true, true, true, true, true, true, true, true, true, true, true, false, false] rfl rfl (one_of HT_.out (by kernel_rfl)) (by decide) (fun K hK => ?_)
            refine box_step ?hg (N := 9) ?hd (cs := #[.int .i64 0, .int .i64 0, .slice none 0 0]) (t := 68) ?hr ?_; (case hd => rfl); (case hg => rfl); (case hr => first | (go_simp; done) | (go_simp; rfl))
            intro gb107 hg w16 hbox hb
            have n0_ := Aside0.mk (blk_below (g := gb101) (o := .cells #[.int .i64 0, .int .i64 0, .slice none 0 0] 68 (0, 0)) (by (with_reducible repeat (first | refine blk_drewN ?_ _ | refine blk_drew ?_ | refine blk_alloc ?_ _)); exact BK101.out) hb)
            have n1_ := Aside0.mk (below_step (by repeat (first | (with_reducible first | exact HB.out | apply below_alloc | apply pw_below_drewN | apply below_drew1 | refine below_set ?_ GE101.out) | exact HB.out)) hb)
            have n2_ := Aside0.mk (hbox)
            have n3_ := Aside0.mk ((by rw [hg]; exact (below_size (by repeat (first | (with_reducible first | exact HB.out | apply below_alloc | apply pw_below_drewN | apply below_drew1 | refine below_set ?_ GE101.out) | exact HB.out))) : w.heap.size ≤ gb107))
            have n4_ := Aside0.mk ((by rw [hg]; exact (below_size (by repeat (first | (with_reducible first | exact HB.out | apply below_alloc | apply pw_below_drewN | apply below_drew1 | refine below_set ?_ GE101.out) | exact HB.out))) : w.heap.size ≤ gb107))
            have n5_ := Aside0.mk ((by rw [hg]; exact Nat.ne_of_lt (blk_lt (g := gb101) (o := .cells #[.int .i64 0, .int .i64 0, .slice none 0 0] 68 (0, 0)) (by (with_reducible repeat (first | refine blk_drewN ?_ _ | refine blk_drew ?_ | refine blk_alloc ?_ _)); exact BK101.out)) : gb101 ≠ gb107))
            have n6_ := Aside0.mk ((by rw [hg]; exact Nat.ne_of_gt (blk_lt (g := gb101) (o := .cells #[.int .i64 0, .int .i64 0, .slice none 0 0] 68 (0, 0)) (by (with_reducible repeat (first | refine blk_drewN ?_ _ | refine blk_drew ?_ | refine blk_alloc ?_ _)); exact BK101.out)) : gb107 ≠ gb101))
            clear BK101
            clear HB
            have BK101 := n0_
            have HB := n1_
            have BK107 := n2_
            have GW107 := n3_
            have GE107 := n4_
            have NB101_107 := n5_
            have NB107_101 := n6_
            clear n0_ n1_ n2_ n3_ n4_ n5_ n6_
            clear hb hbox hg
            refine hK.out _ _ ⟨((HB.out.cell (World.block_lt_of_cell? w _ hw105_0)).trans hw105_0), ((HB.out.cell (World.block_lt_of_cell? w _ hw105_1)).trans hw105_1), ((HB.out.cell (World.block_lt_of_cell? w _ hw105_2)).trans hw105_2), ((HB.out.cell (World.block_lt_of_cell? w _ hw106_0)).trans hw106_0), ((HB.out.cell (World.block_lt_of_cell? w _ hw106_1)).trans hw106_1), ((HB.out.cell (World.block_lt_of_cell? w _ hw106_2)).trans hw106_2)⟩ (fun hHeld => ?_)
            clear hK K
            refine norm_ (a' := ?_) ?_ ?_
            rotate_left
            · show Act.put _ (some 9) _ = _
              simp only [Act.put, List.setIfInBounds_toArray, List.set_cons_zero, List.set_cons_succ, i64_w, i32_w]
              rfl
            refine one_ (i := 14) (N := none) #[true, true, true, true, true, true, true, true, true, true, true, true, true, true, true, false] rfl rfl (one_of HT_.out (by kernel_rfl)) (by decide) (fun K hK => ?_)
            have hs17 : w16.cell? ⟨gb107, 0, none⟩ = some (.int .i64 0) := (blk_cell BK107.out 0).trans rfl
            have hfs17 := blk_frozen BK107.out 0
            have hns17_0 := NB101_107.out
            have hms17_0 := NB107_101.out
            have hs18 : w16.cell? ⟨gb107, 1, none⟩ = some (.int .i64 0) := (blk_cell BK107.out 1).trans rfl
            have hfs18 := blk_frozen BK107.out 1
            have hns18_0 := NB101_107.out
            have hms18_0 := NB107_101.out
            have hs19 : w16.cell? ⟨gb107, 2, none⟩ = some (.slice none 0 0) := (blk_cell BK107.out 2).trans rfl
            have hfs19 := blk_frozen BK107.out 2
            have hns19_0 := NB101_107.out
            have hms19_0 := NB107_101.out
            refine skip_ (w1 := ?_) (by rfl) rfl ?_ ?_
            rotate_left
            · go_simp
              rfl
            refine hK.out _ _ ⟨((cell_far (p := ⟨gb107, _, none⟩) (by first | exact Nat.ne_of_lt (Nat.lt_of_lt_of_le (by have := World.block_lt_of_cell? _ _ hw105_0; first | rwa [add_block] at this | exact this) GW107.out) | (rw [add_block]; exact Nat.ne_of_lt (Nat.lt_of_lt_of_le (by have := World.block_lt_of_cell? _ _ hw105_0; first | rwa [add_block] at this | exact this) GW107.out)) | (show (Addr.add _ _).block ≠ _; rw [add_block]; exact Nat.ne_of_lt (Nat.lt_of_lt_of_le (by have := World.block_lt_of_cell? _ _ hw105_0; first | rwa [add_block] at this | exact this) GW107.out)) | (dsimp only; exact Nat.ne_of_lt (Nat.lt_of_lt_of_le (by have := World.block_lt_of_cell? _ _ hw105_0; first | rwa [add_block] at this | exact this) GW107.out))) _).trans (((cell_far (p := ⟨gb107, _, none⟩) (by first | exact Nat.ne_of_lt (Nat.lt_of_lt_of_le (by have := World.block_lt_of_cell? _ _ hw105_0; first | rwa [add_block] at this | exact this) GW107.out) | (rw [add_block]; exact Nat.ne_of_lt (Nat.lt_of_lt_of_le (by have := World.block_lt_of_cell? _ _ hw105_0; first | rwa [add_block] at this | exact this) GW107.out)) | (show (Addr.add _ _).block ≠ _; rw [add_block]; exact Nat.ne_of_lt (Nat.lt_of_lt_of_le (by have := World.block_lt_of_cell? _ _ hw105_0; first | rwa [add_block] at this | exact this) GW107.out)) | (dsimp only; exact Nat.ne_of_lt (Nat.lt_of_lt_of_le (by have := World.block_lt_of_cell? _ _ hw105_0; first | rwa [add_block] at this | exact this) GW107.out))) _).trans (((cell_far (p := ⟨gb107, _, none⟩) (by first | exact Nat.ne_of_lt (Nat.lt_of_lt_of_le (by have := World.block_lt_of_cell? _ _ hw105_0; first | rwa [add_block] at this | exact this) GW107.out) | (rw [add_block]; exact Nat.ne_of_lt (Nat.lt_of_lt_of_le (by have := World.block_lt_of_cell? _ _ hw105_0; first | rwa [add_block] at this | exact this) GW107.out)) | (show (Addr.add _ _).block ≠ _; rw [add_block]; exact Nat.ne_of_lt (Nat.lt_of_lt_of_le (by have := World.block_lt_of_cell? _ _ hw105_0; first | rwa [add_block] at this | exact this) GW107.out)) | (dsimp only; exact Nat.ne_of_lt (Nat.lt_of_lt_of_le (by have := World.block_lt_of_cell? _ _ hw105_0; first | rwa [add_block] at this | exact this) GW107.out))) _).trans (hHeld.1)))))), ((cell_far (p := ⟨gb107, _, none⟩) (by first | exact Nat.ne_of_lt (Nat.lt_of_lt_of_le (by have := World.block_lt_of_cell? _ _ hw105_1; first | rwa [add_block] at this | exact this) GW107.out) | (rw [add_block]; exact Nat.ne_of_lt (Nat.lt_of_lt_of_le (by have := World.block_lt_of_cell? _ _ hw105_1; first | rwa [add_block] at this | exact this) GW107.out)) | (show (Addr.add _ _).block ≠ _; rw [add_block]; exact Nat.ne_of_lt (Nat.lt_of_lt_of_le (by have := World.block_lt_of_cell? _ _ hw105_1; first | rwa [add_block] at this | exact this) GW107.out)) | (dsimp only; exact Nat.ne_of_lt (Nat.lt_of_lt_of_le (by have := World.block_lt_of_cell? _ _ hw105_1; first | rwa [add_block] at this | exact this) GW107.out))) _).trans (((cell_far (p := ⟨gb107, _, none⟩) (by first | exact Nat.ne_of_lt (Nat.lt_of_lt_of_le (by have := World.block_lt_of_cell? _ _ hw105_1; first | rwa [add_block] at this | exact this) GW107.out) | (rw [add_block]; exact Nat.ne_of_lt (Nat.lt_of_lt_of_le (by have := World.block_lt_of_cell? _ _ hw105_1; first | rwa [add_block] at this | exact this) GW107.out)) | (show (Addr.add _ _).block ≠ _; rw [add_block]; exact Nat.ne_of_lt (Nat.lt_of_lt_of_le (by have := World.block_lt_of_cell? _ _ hw105_1; first | rwa [add_block] at this | exact this) GW107.out)) | (dsimp only; exact Nat.ne_of_lt (Nat.lt_of_lt_of_le (by have := World.block_lt_of_cell? _ _ hw105_1; first | rwa [add_block] at this | exact this) GW107.out))) _).trans (((cell_far (p := ⟨gb107, _, none⟩) (by first | exact Nat.ne_of_lt (Nat.lt_of_lt_of_le (by have := World.block_lt_of_cell? _ _ hw105_1; first | rwa [add_block] at this | exact this) GW107.out) | (rw [add_block]; exact Nat.ne_of_lt (Nat.lt_of_lt_of_le (by have := World.block_lt_of_cell? _ _ hw105_1; first | rwa [add_block] at this | exact this) GW107.out)) | (show (Addr.add _ _).block ≠ _; rw [add_block]; exact Nat.ne_of_lt (Nat.lt_of_lt_of_le (by have := World.block_lt_of_cell? _ _ hw105_1; first | rwa [add_block] at this | exact this) GW107.out)) | (dsimp only; exact Nat.ne_of_lt (Nat.lt_of_lt_of_le (by have := World.block_lt_of_cell? _ _ hw105_1; first | rwa [add_block] at this | exact this) GW107.out))) _).trans (hHeld.2.1)))))), ((cell_far (p := ⟨gb107, _, none⟩) (by first | exact Nat.ne_of_lt (Nat.lt_of_lt_of_le (by have := World.block_lt_of_cell? _ _ hw105_2; first | rwa [add_block] at this | exact this) GW107.out) | (rw [add_block]; exact Nat.ne_of_lt (Nat.lt_of_lt_of_le (by have := World.block_lt_of_cell? _ _ hw105_2; first | rwa [add_block] at this | exact this) GW107.out)) | (show (Addr.add _ _).block ≠ _; rw [add_block]; exact Nat.ne_of_lt (Nat.lt_of_lt_of_le (by have := World.block_lt_of_cell? _ _ hw105_2; first | rwa [add_block] at this | exact this) GW107.out)) | (dsimp only; exact Nat.ne_of_lt (Nat.lt_of_lt_of_le (by have := World.block_lt_of_cell? _ _ hw105_2; first | rwa [add_block] at this | exact this) GW107.out))) _).trans (((cell_far (p := ⟨gb107, _, none⟩) (by first | exact Nat.ne_of_lt (Nat.lt_of_lt_of_le (by have := World.block_lt_of_cell? _ _ hw105_2; first | rwa [add_block] at this | exact this) GW107.out) | (rw [add_block]; exact Nat.ne_of_lt (Nat.lt_of_lt_of_le (by have := World.block_lt_of_cell? _ _ hw105_2; first | rwa [add_block] at this | exact this) GW107.out)) | (show (Addr.add _ _).block ≠ _; rw [add_block]; exact Nat.ne_of_lt (Nat.lt_of_lt_of_le (by have := World.block_lt_of_cell? _ _ hw105_2; first | rwa [add_block] at this | exact this) GW107.out)) | (dsimp only; exact Nat.ne_of_lt (Nat.lt_of_lt_of_le (by have := World.block_lt_of_cell? _ _ hw105_2; first | rwa [add_block] at this | exact this) GW107.out))) _).trans (((cell_far (p := ⟨gb107, _, none⟩) (by first | exact Nat.ne_of_lt (Nat.lt_of_lt_of_le (by have := World.block_lt_of_cell? _ _ hw105_2; first | rwa [add_block] at this | exact this) GW107.out) | (rw [add_block]; exact Nat.ne_of_lt (Nat.lt_of_lt_of_le (by have := World.block_lt_of_cell? _ _ hw105_2; first | rwa [add_block] at this | exact this) GW107.out)) | (show (Addr.add _ _).block ≠ _; rw [add_block]; exact Nat.ne_of_lt (Nat.lt_of_lt_of_le (by have := World.block_lt_of_cell? _ _ hw105_2; first | rwa [add_block] at this | exact this) GW107.out)) | (dsimp only; exact Nat.ne_of_lt (Nat.lt_of_lt_of_le (by have := World.block_lt_of_cell? _ _ hw105_2; first | rwa [add_block] at this | exact this) GW107.out))) _).trans (hHeld.2.2.1)))))), ((cell_far (p := ⟨gb107, _, none⟩) (by first | exact Nat.ne_of_lt (Nat.lt_of_lt_of_le (by have := World.block_lt_of_cell? _ _ hw106_0; first | rwa [add_block] at this | exact this) GW107.out) | (rw [add_block]; exact Nat.ne_of_lt (Nat.lt_of_lt_of_le (by have := World.block_lt_of_cell? _ _ hw106_0; first | rwa [add_block] at this | exact this) GW107.out)) | (show (Addr.add _ _).block ≠ _; rw [add_block]; exact Nat.ne_of_lt (Nat.lt_of_lt_of_le (by have := World.block_lt_of_cell? _ _ hw106_0; first | rwa [add_block] at this | exact this) GW107.out)) | (dsimp only; exact Nat.ne_of_lt (Nat.lt_of_lt_of_le (by have := World.block_lt_of_cell? _ _ hw106_0; first | rwa [add_block] at this | exact this) GW107.out))) _).trans (((cell_far (p := ⟨gb107, _, none⟩) (by first | exact Nat.ne_of_lt (Nat.lt_of_lt_of_le (by have := World.block_lt_of_cell? _ _ hw106_0; first | rwa [add_block] at this | exact this) GW107.out) | (rw [add_block]; exact Nat.ne_of_lt (Nat.lt_of_lt_of_le (by have := World.block_lt_of_cell? _ _ hw106_0; first | rwa [add_block] at this | exact this) GW107.out)) | (show (Addr.add _ _).block ≠ _; rw [add_block]; exact Nat.ne_of_lt (Nat.lt_of_lt_of_le (by have := World.block_lt_of_cell? _ _ hw106_0; first | rwa [add_block] at this | exact this) GW107.out)) | (dsimp only; exact Nat.ne_of_lt (Nat.lt_of_lt_of_le (by have := World.block_lt_of_cell? _ _ hw106_0; first | rwa [add_block] at this | exact this) GW107.out))) _).trans (((cell_far (p := ⟨gb107, _, none⟩) (by first | exact Nat.ne_of_lt (Nat.lt_of_lt_of_le (by have := World.block_lt_of_cell? _ _ hw106_0; first | rwa [add_block] at this | exact this) GW107.out) | (rw [add_block]; exact Nat.ne_of_lt (Nat.lt_of_lt_of_le (by have := World.block_lt_of_cell? _ _ hw106_0; first | rwa [add_block] at this | exact this) GW107.out)) | (show (Addr.add _ _).block ≠ _; rw [add_block]; exact Nat.ne_of_lt (Nat.lt_of_lt_of_le (by have := World.block_lt_of_cell? _ _ hw106_0; first | rwa [add_block] at this | exact this) GW107.out)) | (dsimp only; exact Nat.ne_of_lt (Nat.lt_of_lt_of_le (by have := World.block_lt_of_cell? _ _ hw106_0; first | rwa [add_block] at this | exact this) GW107.out))) _).trans (hHeld.2.2.2.1)))))), ((cell_far (p := ⟨gb107, _, none⟩) (by first | exact Nat.ne_of_lt (Nat.lt_of_lt_of_le (by have := World.block_lt_of_cell? _ _ hw106_1; first | rwa [add_block] at this | exact this) GW107.out) | (rw [add_block]; exact Nat.ne_of_lt (Nat.lt_of_lt_of_le (by have := World.block_lt_of_cell? _ _ hw106_1; first | rwa [add_block] at this | exact this) GW107.out)) | (show (Addr.add _ _).block ≠ _; rw [add_block]; exact Nat.ne_of_lt (Nat.lt_of_lt_of_le (by have := World.block_lt_of_cell? _ _ hw106_1; first | rwa [add_block] at this | exact this) GW107.out)) | (dsimp only; exact Nat.ne_of_lt (Nat.lt_of_lt_of_le (by have := World.block_lt_of_cell? _ _ hw106_1; first | rwa [add_block] at this | exact this) GW107.out))) _).trans (((cell_far (p := ⟨gb107, _, none⟩) (by first | exact Nat.ne_of_lt (Nat.lt_of_lt_of_le (by have := World.block_lt_of_cell? _ _ hw106_1; first | rwa [add_block] at this | exact this) GW107.out) | (rw [add_block]; exact Nat.ne_of_lt (Nat.lt_of_lt_of_le (by have := World.block_lt_of_cell? _ _ hw106_1; first | rwa [add_block] at this | exact this) GW107.out)) | (show (Addr.add _ _).block ≠ _; rw [add_block]; exact Nat.ne_of_lt (Nat.lt_of_lt_of_le (by have := World.block_lt_of_cell? _ _ hw106_1; first | rwa [add_block] at this | exact this) GW107.out)) | (dsimp only; exact Nat.ne_of_lt (Nat.lt_of_lt_of_le (by have := World.block_lt_of_cell? _ _ hw106_1; first | rwa [add_block] at this | exact this) GW107.out))) _).trans (((cell_far (p := ⟨gb107, _, none⟩) (by first | exact Nat.ne_of_lt (Nat.lt_of_lt_of_le (by have := World.block_lt_of_cell? _ _ hw106_1; first | rwa [add_block] at this | exact this) GW107.out) | (rw [add_block]; exact Nat.ne_of_lt (Nat.lt_of_lt_of_le (by have := World.block_lt_of_cell? _ _ hw106_1; first | rwa [add_block] at this | exact this) GW107.out)) | (show (Addr.add _ _).block ≠ _; rw [add_block]; exact Nat.ne_of_lt (Nat.lt_of_lt_of_le (by have := World.block_lt_of_cell? _ _ hw106_1; first | rwa [add_block] at this | exact this) GW107.out)) | (dsimp only; exact Nat.ne_of_lt (Nat.lt_of_lt_of_le (by have := World.block_lt_of_cell? _ _ hw106_1; first | rwa [add_block] at this | exact this) GW107.out))) _).trans (hHeld.2.2.2.2.1)))))), ((cell_far (p := ⟨gb107, _, none⟩) (by first | exact Nat.ne_of_lt (Nat.lt_of_lt_of_le (by have := World.block_lt_of_cell? _ _ hw106_2; first | rwa [add_block] at this | exact this) GW107.out) | (rw [add_block]; exact Nat.ne_of_lt (Nat.lt_of_lt_of_le (by have := World.block_lt_of_cell? _ _ hw106_2; first | rwa [add_block] at this | exact this) GW107.out)) | (show (Addr.add _ _).block ≠ _; rw [add_block]; exact Nat.ne_of_lt (Nat.lt_of_lt_of_le (by have := World.block_lt_of_cell? _ _ hw106_2; first | rwa [add_block] at this | exact this) GW107.out)) | (dsimp only; exact Nat.ne_of_lt (Nat.lt_of_lt_of_le (by have := World.block_lt_of_cell? _ _ hw106_2; first | rwa [add_block] at this | exact this) GW107.out))) _).trans (((cell_far (p := ⟨gb107, _, none⟩) (by first | exact Nat.ne_of_lt (Nat.lt_of_lt_of_le (by have := World.block_lt_of_cell? _ _ hw106_2; first | rwa [add_block] at this | exact this) GW107.out) | (rw [add_block]; exact Nat.ne_of_lt (Nat.lt_of_lt_of_le (by have := World.block_lt_of_cell? _ _ hw106_2; first | rwa [add_block] at this | exact this) GW107.out)) | (show (Addr.add _ _).block ≠ _; rw [add_block]; exact Nat.ne_of_lt (Nat.lt_of_lt_of_le (by have := World.block_lt_of_cell? _ _ hw106_2; first | rwa [add_block] at this | exact this) GW107.out)) | (dsimp only; exact Nat.ne_of_lt (Nat.lt_of_lt_of_le (by have := World.block_lt_of_cell? _ _ hw106_2; first | rwa [add_block] at this | exact this) GW107.out))) _).trans (((cell_far (p := ⟨gb107, _, none⟩) (by first | exact Nat.ne_of_lt (Nat.lt_of_lt_of_le (by have := World.block_lt_of_cell? _ _ hw106_2; first | rwa [add_block] at this | exact this) GW107.out) | (rw [add_block]; exact Nat.ne_of_lt (Nat.lt_of_lt_of_le (by have := World.block_lt_of_cell? _ _ hw106_2; first | rwa [add_block] at this | exact this) GW107.out)) | (show (Addr.add _ _).block ≠ _; rw [add_block]; exact Nat.ne_of_lt (Nat.lt_of_lt_of_le (by have := World.block_lt_of_cell? _ _ hw106_2; first | rwa [add_block] at this | exact this) GW107.out)) | (dsimp only; exact Nat.ne_of_lt (Nat.lt_of_lt_of_le (by have := World.block_lt_of_cell? _ _ hw106_2; first | rwa [add_block] at this | exact this) GW107.out))) _).trans (hHeld.2.2.2.2.2))))))⟩ (fun hHeld => ?_)
            clear hK K
            refine pure_ (i := 15) (N := some 10) (v := ?_) (a' := ?_) #[true, true, true, true, true, true, true, true, true, true, true, true, true, true, true, true] rfl rfl (any_of HT_.out (by kernel_rfl)) (fun _ _ _ h => h) (Or.inl ⟨by rfl, ?_⟩) ?_ ?_
            rotate_left
            · intro w'
              go_simp
              with_reducible rfl
            rotate_left
            · simp only [Act.put, List.setIfInBounds_toArray, List.set_cons_zero, List.set_cons_succ, i64_w, i32_w]
              rfl
            refine done_ (done_of HT_.out (by kernel_rfl)) ?_
            have hnb20 := NB107_101.out
            have hnc20 := NB101_107.out
            have hcz21_0 : w16.cell? ⟨gb107, 0, none⟩ = some (.int .i64 0) := (blk_cell BK107.out 0).trans rfl
            have hcz21_1 : w16.cell? ⟨gb107, 1, none⟩ = some (.int .i64 0) := (blk_cell BK107.out 1).trans rfl
            have hcz21_2 : w16.cell? ⟨gb107, 2, none⟩ = some (.slice none 0 0) := (blk_cell BK107.out 2).trans rfl
            have hfz21_0 := blk_frozen BK107.out 0
            have hfz21_1 := blk_frozen BK107.out 1
            have hfz21_2 := blk_frozen BK107.out 2
            try go_wp2
            go_loopg [10, 60] kj3 (fun kq v10 v60 w' => ∃ (x10_2 : Int) (x60_2 : Int) (x102000_2 : Int) (x102001_2 : Int) (x108002_2 : List (S68)) (u108002 : Value), v10 = .int .i64 x10_2 ∧ v60 = .int .i64 x60_2 ∧ Aside0 (impl_termAt.l0 kq l0 a1 x10_2 (wrap64 (((rd_T62 l0 a1).f0) - 1)) x60_2 ((rd_T62 l0 a1).f0) ((rd_T62 l0 a1).f1) x108002_2 = some (r1, r2, r3, r4, r5)) ∧ Aside0 (kq ≤ kj3) ∧ Aside0 (Kd.R k68 68 w' w.heap.size (fun k_ => k_ ≠ gb101 ∧ k_ ≠ gb107) u108002 x108002_2) ∧ Aside0 (w'.heap[gb101]? = some (.cells #[.int .i64 x102000_2, .int .i64 x102001_2, (.slice none 0 0)] 68 (0, 0))) ∧ Aside0 (w'.heap[gb107]? = some (.cells #[.int .i64 ((rd_T62 l0 a1).f0), .int .i64 ((rd_T62 l0 a1).f1), u108002] 68 (0, 0))) ∧ Aside0 (Below w.heap.size w w'))
            case atStart => exact ⟨(wrap64 (a1 + 1)), (0), (0), (0), (([] : List (S68))), (.slice none 0 0), (by first | rfl | (simp; done) | (simp [*]; done)), (by first | rfl | (simp; done) | (simp [*]; done)), H', ⟨Nat.le_refl _⟩, ⟨by first | exact Kd.R_nil _ _ _ _ _ | exact Kd.N_nil _ _ _ _ _ | exact Kd.V_nil _ _ _ _ _ | exact Kd.Q_nil _ _ _ _ _ | exact Kd.S_nil _ _ _ _ _⟩, ⟨by (with_reducible repeat (first | refine blk_drewN ?_ _ | refine blk_drew ?_ | refine blk_alloc ?_ _)); refine blk_far ?_ NB101_107.out _; (with_reducible repeat (first | refine blk_drewN ?_ _ | refine blk_drew ?_ | refine blk_alloc ?_ _)); refine blk_far ?_ NB101_107.out _; (with_reducible repeat (first | refine blk_drewN ?_ _ | refine blk_drew ?_ | refine blk_alloc ?_ _)); refine blk_far ?_ NB101_107.out _; (with_reducible repeat (first | refine blk_drewN ?_ _ | refine blk_drew ?_ | refine blk_alloc ?_ _)); exact BK101.out⟩, ⟨by (with_reducible repeat (first | refine blk_drewN ?_ _ | refine blk_drew ?_ | refine blk_alloc ?_ _)); refine blk_put (cs := #[.int .i64 ((rd_T62 l0 a1).f0), .int .i64 ((rd_T62 l0 a1).f1), .slice none 0 0]) ?_ 2 _ rfl; (with_reducible repeat (first | refine blk_drewN ?_ _ | refine blk_drew ?_ | refine blk_alloc ?_ _)); refine blk_put (cs := #[.int .i64 ((rd_T62 l0 a1).f0), .int .i64 0, .slice none 0 0]) ?_ 1 _ rfl; (with_reducible repeat (first | refine blk_drewN ?_ _ | refine blk_drew ?_ | refine blk_alloc ?_ _)); refine blk_put (cs := #[.int .i64 0, .int .i64 0, .slice none 0 0]) ?_ 0 _ rfl; (with_reducible repeat (first | refine blk_drewN ?_ _ | refine blk_drew ?_ | refine blk_alloc ?_ _)); exact BK107.out⟩, ⟨by repeat (first | (with_reducible first | exact HB.out | apply below_alloc | apply pw_below_drewN | apply below_drew1 | refine below_set ?_ GE101.out | refine below_set ?_ GE107.out) | exact HB.out)⟩⟩
            case round =>
              clear H'
              try clear c1
              try clear p1
              try clear q1
              try clear hx1
              try clear c2
              try clear p2
              try clear c6
              try clear c6b0
              try clear c6b1
              try clear p6
              try clear c7
              try clear c7b0
              try clear c8
              try clear c8b0
              try clear c9
              try clear c9b0
              try clear c9b1
              try clear c10
              try clear c10b0
              try clear p10
              try clear q10
              try clear hx10
              try clear c11
              try clear c13
              try clear c13b0
              try clear c14
              try clear c14b0
              try clear c20
              try clear hcz12_0
              try clear hcz12_1
              try clear hcz12_2
              try clear hcz21_0
              try clear hcz21_1
              try clear hcz21_2
              try clear hfz12_0
              try clear hfz12_1
              try clear hfz12_2
              try clear hfz21_0
              try clear hfz21_1
              try clear hfz21_2
              try clear hx102_0
              try clear hx102_1
              try clear hx102_2
              try clear hx103_0
              try clear hx103_1
              try clear hx103_2
              try clear hx104_0
              try clear hx104_1
              try clear hx104_2
              try clear hx105_0
              try clear hx105_1
              try clear hx105_2
              try clear hx106_0
              try clear hx106_1
              try clear hx106_2
              try clear p1
              try clear p10
              try clear p102
              try clear p103
              try clear p104
              try clear p105
              try clear p106
              try clear p2
              try clear q1
              try clear q10
              try clear q102
              try clear q103
              try clear q104
              try clear q105
              try clear q106
              obtain ⟨x10_2, x60_2, x102000_2, x102001_2, x108002_2, u108002, rfl, rfl, HA, HK2, HO_108002, BK101, BK107, HB⟩ := hrel
              cases gk with
              | zero => exact absurd HA.out (by simp [impl_termAt.l0])
              | succ k2 =>
                have H := HA.out
                clear HA
                simp only [impl_termAt.l0] at H
                by_cases c22 : x60_2 < (wrap64 (((rd_T62 l0 a1).f0) - 1))
                · rw [if_pos c22] at H
                  have c22b0 : decide (x60_2 < (wrap64 (((rd_T62 l0 a1).f0) - 1))) = true := decide_eq_true c22
                  clear c22
                  replace H := Option.bind_eq_some_iff.mp H
                  obtain ⟨⟨t108, t109, t110, t113, t114⟩, A230, H⟩ := H
                  replace H : (if t114 = true then (if x108002_2.length < 3518437208883 then (impl_termAt.l0 k2 l0 a1 t113 (wrap64 (((rd_T62 l0 a1).f0) - 1)) (wrap64 (x60_2 + 1)) ((rd_T62 l0 a1).f0) ((rd_T62 l0 a1).f1) (x108002_2 ++ [(⟨t108, t109, t110⟩ : S68)])) else (none)) else (some (0, 0, ([] : List (S68)), 0, false))) = some (r1, r2, r3, r4, r5) := H
                  have A23 := Aside0.mk A230
                  clear A230
                  by_cases c24 : t114 = true
                  · subst c24
                    have H1 : (if x108002_2.length < 3518437208883 then (impl_termAt.l0 k2 l0 a1 t113 (wrap64 (((rd_T62 l0 a1).f0) - 1)) (wrap64 (x60_2 + 1)) ((rd_T62 l0 a1).f0) ((rd_T62 l0 a1).f1) (x108002_2 ++ [(⟨t108, t109, t110⟩ : S68)])) else (none)) = some (r1, r2, r3, r4, r5) := by rw [if_pos rfl] at H; exact H
                    clear H
                    have H := H1
                    clear H1
                    by_cases c25 : x108002_2.length < 3518437208883
                    · rw [if_pos c25] at H
                      have LMc25 := Aside0.mk c25
                      clear c25
                      obtain ⟨y116, hy116⟩ : ∃ y_ : List (S68), y_ = (x108002_2 ++ [(⟨t108, t109, t110⟩ : S68)]) := ⟨_, rfl⟩
                      replace H : (impl_termAt.l0 k2 l0 a1 t113 (wrap64 (((rd_T62 l0 a1).f0) - 1)) (wrap64 (x60_2 + 1)) ((rd_T62 l0 a1).f0) ((rd_T62 l0 a1).f1) y116) = some (r1, r2, r3, r4, r5) := by first | (rw [hy116]; with_reducible exact H) | (have H2_ := (Option.bind_some _ _).symm.trans H; rw [hy116]; with_reducible exact H2_) | (have H2_ := (Option.bind_some _ _).symm.trans H; with_reducible exact H2_) | with_reducible exact H | (rw [hy116]; exact H) | exact H
                      have Ny116 := Aside0.mk hy116
                      clear hy116
                      have H' := Aside0.mk H
                      clear H
                      go_wp2_with (first | ((with_reducible refine gate_callee (f := 65) rfl ?_); refine goesL_ (some 66) rfl rfl Try.func65 (by kernel_rfl) rfl #[.slice (some ad105) l0.length c0, .int .i64 x10_2, .int .i64 a1] rfl (by (try simp only [List.map_toArray, List.map_cons, List.map_nil]); first | done | rfl | (simp only [List.length_drop, List.length_take]; rfl)) ?_; (with_reducible refine (ih k2 (by have := HJ3.out; have := HK2.out; omega) _ _ l0 x10_2 a1 t108 t109 t110 t113 true _ ?side1 ?side2 A23.out).mono ?_); (case side1 => repeat (first | exact (Kd.C_below HR0.out HB.out) | (with_reducible refine Kd.C_alloc ?_ _) | (with_reducible refine Kd.C_drewN ?_ _) | (with_reducible refine Kd.C_drew ?_))); (case side2 => exact HC0.out); rintro e w26 ⟨v111, rfl, ho0, hb⟩; refine ⟨_, rfl, ?_⟩; have n0_ := Aside0.mk (Kd.R_elder' (by (with_reducible repeat (first | apply Kd.R_alloc | apply Kd.R_drewN | apply Kd.R_drew)); exact HO_108002.out) (Kd.R_base ho0) hb); have n1_ := Aside0.mk (Kd.R_lower (Kd.R_newB (Kd.R_newB (Kd.R_new' ho0 (Kd.R_lt (by (with_reducible repeat (first | apply Kd.R_alloc | apply Kd.R_drewN | apply Kd.R_drew)); exact HO_108002.out))) (g := gb101) (o := .cells #[.int .i64 x102000_2, .int .i64 x102001_2, .slice none 0 0] 68 (0, 0)) (by (with_reducible repeat (first | refine blk_drewN ?_ _ | refine blk_drew ?_ | refine blk_alloc ?_ _)); exact BK101.out)) (g := gb107) (o := .cells #[.int .i64 ((rd_T62 l0 a1).f0), .int .i64 ((rd_T62 l0 a1).f1), u108002] 68 (0, 0)) (by (with_reducible repeat (first | refine blk_drewN ?_ _ | refine blk_drew ?_ | refine blk_alloc ?_ _)); exact BK107.out)) (below_size (by repeat (first | (with_reducible first | exact HB.out | apply below_alloc | apply pw_below_drewN | apply below_drew1 | refine below_set ?_ GE101.out | refine below_set ?_ GE107.out) | exact HB.out)))); have n2_ := Aside0.mk (blk_below (g := gb101) (o := .cells #[.int .i64 x102000_2, .int .i64 x102001_2, .slice none 0 0] 68 (0, 0)) (by (with_reducible repeat (first | refine blk_drewN ?_ _ | refine blk_drew ?_ | refine blk_alloc ?_ _)); exact BK101.out) hb); have n3_ := Aside0.mk (blk_below (g := gb107) (o := .cells #[.int .i64 ((rd_T62 l0 a1).f0), .int .i64 ((rd_T62 l0 a1).f1), u108002] 68 (0, 0)) (by (with_reducible repeat (first | refine blk_drewN ?_ _ | refine blk_drew ?_ | refine blk_alloc ?_ _)); exact BK107.out) hb); have n4_ := Aside0.mk (below_step (by repeat (first | (with_reducible first | exact HB.out | apply below_alloc | apply pw_below_drewN | apply below_drew1 | refine below_set ?_ GE101.out | refine below_set ?_ GE107.out) | exact HB.out)) hb); clear HO_108002; clear BK101; clear BK107; clear HB; have HO_108002 := n0_; have HO112 := n1_; have BK101 := n2_; have BK107 := n3_; have HB := n4_; clear n0_ n1_ n2_ n3_ n4_; (try clear hb); (try clear hb2); (try clear hk); (try clear hi); (try clear ho0)) | ((with_reducible refine gate_dst (N := 11) rfl ?_); refine box_event ?hg (N := 11) ?hd (cs := #[.int .i64 0, .int .i64 0, .slice none 0 0]) (t := 68) ?hr ?_; (case hd => rfl); (case hg => rfl); (case hr => first | (go_simp; done) | (go_simp; rfl)); intro gb115 hg w27 hbox hb; have n0_ := Aside0.mk (Kd.R_below (Kd.R_elderB (by (with_reducible repeat (first | apply Kd.R_alloc | apply Kd.R_drewN | apply Kd.R_drew)); exact HO_108002.out) gb115 (Nat.le_of_eq hg.symm)) hb); have n1_ := Aside0.mk (Kd.R_below (Kd.R_elderB (by (with_reducible repeat (first | apply Kd.R_alloc | apply Kd.R_drewN | apply Kd.R_drew)); exact HO112.out) gb115 (Nat.le_of_eq hg.symm)) hb); have n2_ := Aside0.mk (blk_below (g := gb101) (o := .cells #[.int .i64 x102000_2, .int .i64 x102001_2, .slice none 0 0] 68 (0, 0)) (by (with_reducible repeat (first | refine blk_drewN ?_ _ | refine blk_drew ?_ | refine blk_alloc ?_ _)); exact BK101.out) hb); have n3_ := Aside0.mk (blk_below (g := gb107) (o := .cells #[.int .i64 ((rd_T62 l0 a1).f0), .int .i64 ((rd_T62 l0 a1).f1), u108002] 68 (0, 0)) (by (with_reducible repeat (first | refine blk_drewN ?_ _ | refine blk_drew ?_ | refine blk_alloc ?_ _)); exact BK107.out) hb); have n4_ := Aside0.mk (below_step (by repeat (first | (with_reducible first | exact HB.out | apply below_alloc | apply pw_below_drewN | apply below_drew1 | refine below_set ?_ GE101.out | refine below_set ?_ GE107.out) | exact HB.out)) hb); have n5_ := Aside0.mk (hbox); have n6_ := Aside0.mk ((by rw [hg]; exact (below_size (by repeat (first | (with_reducible first | exact HB.out | apply below_alloc | apply pw_below_drewN | apply below_drew1 | refine below_set ?_ GE101.out | refine below_set ?_ GE107.out) | exact HB.out))) : w.heap.size ≤ gb115)); have n7_ := Aside0.mk ((by rw [hg]; exact (below_size (by repeat (first | (with_reducible first | exact HB.out | apply below_alloc | apply pw_below_drewN | apply below_drew1 | refine below_set ?_ GE101.out | refine below_set ?_ GE107.out) | exact HB.out))) : w.heap.size ≤ gb115)); have n8_ := Aside0.mk ((by rw [hg]; exact Nat.ne_of_lt (blk_lt (g := gb101) (o := .cells #[.int .i64 x102000_2, .int .i64 x102001_2, .slice none 0 0] 68 (0, 0)) (by (with_reducible repeat (first | refine blk_drewN ?_ _ | refine blk_drew ?_ | refine blk_alloc ?_ _)); exact BK101.out)) : gb101 ≠ gb115)); have n9_ := Aside0.mk ((by rw [hg]; exact Nat.ne_of_gt (blk_lt (g := gb101) (o := .cells #[.int .i64 x102000_2, .int .i64 x102001_2, .slice none 0 0] 68 (0, 0)) (by (with_reducible repeat (first | refine blk_drewN ?_ _ | refine blk_drew ?_ | refine blk_alloc ?_ _)); exact BK101.out)) : gb115 ≠ gb101)); have n10_ := Aside0.mk ((by rw [hg]; exact Nat.ne_of_lt (blk_lt (g := gb107) (o := .cells #[.int .i64 ((rd_T62 l0 a1).f0), .int .i64 ((rd_T62 l0 a1).f1), u108002] 68 (0, 0)) (by (with_reducible repeat (first | refine blk_drewN ?_ _ | refine blk_drew ?_ | refine blk_alloc ?_ _)); exact BK107.out)) : gb107 ≠ gb115)); have n11_ := Aside0.mk ((by rw [hg]; exact Nat.ne_of_gt (blk_lt (g := gb107) (o := .cells #[.int .i64 ((rd_T62 l0 a1).f0), .int .i64 ((rd_T62 l0 a1).f1), u108002] 68 (0, 0)) (by (with_reducible repeat (first | refine blk_drewN ?_ _ | refine blk_drew ?_ | refine blk_alloc ?_ _)); exact BK107.out)) : gb115 ≠ gb107)); clear HO_108002; clear HO112; clear BK101; clear BK107; clear HB; have HO_108002 := n0_; have HO112 := n1_; have BK101 := n2_; have BK107 := n3_; have HB := n4_; have BK115 := n5_; have GW115 := n6_; have GE115 := n7_; have NB101_115 := n8_; have NB115_101 := n9_; have NB107_115 := n10_; have NB115_107 := n11_; clear n0_ n1_ n2_ n3_ n4_ n5_ n6_ n7_ n8_ n9_ n10_ n11_; clear hb hbox hg; have hnb28 := NB115_101.out; have hnc28 := NB101_115.out; have hnb29 := NB115_107.out; have hnc29 := NB107_115.out; have hcz30_0 : w27.cell? ⟨gb115, 0, none⟩ = some (.int .i64 0) := (blk_cell BK115.out 0).trans rfl; have hcz30_1 : w27.cell? ⟨gb115, 1, none⟩ = some (.int .i64 0) := (blk_cell BK115.out 1).trans rfl; have hcz30_2 : w27.cell? ⟨gb115, 2, none⟩ = some (.slice none 0 0) := (blk_cell BK115.out 2).trans rfl; have hfz30_0 := blk_frozen BK115.out 0; have hfz30_1 := blk_frozen BK115.out 1; have hfz30_2 := blk_frozen BK115.out 2; obtain ⟨Ao31, co31, eo31⟩ := Kd.R_slice HO112.out; subst eo31) | ((with_reducible refine gate_store (t := 68) (p := 11) rfl ?_); refine store_event (t := 68) (p := 11) (v := ?vo_w32) (w1 := (((w27.setCell ⟨gb115, 0, none⟩ (.int .i64 t108)).setCell ⟨gb115, 1, none⟩ (.int .i64 t109)).setCell ⟨gb115, 2, none⟩ (.slice Ao31 t110.length co31))) ?hg ?ho ?hn ?hr ?_; (case ho => rfl); (case hg => rfl); (case hn => rfl); (case hr => first | (go_simp; done) | (go_simp; rfl)); intro w32 hw; have n0_ : Aside0 (Kd.R k68 68 w32 w.heap.size (fun k_ => some k_ ≠ (.slice Ao31 t110.length co31 : Value).ownBlock ∧ k_ ≠ gb101 ∧ k_ ≠ gb107 ∧ k_ ≠ gb115) u108002 x108002_2) := ⟨(by rw [hw]; exact (by (with_reducible repeat (first | apply Kd.R_alloc | apply Kd.R_drewN | apply Kd.R_drew)); exact Kd.R_mono (Kd.R_far (p := ⟨gb115, 2, none⟩) (Kd.R_far (p := ⟨gb115, 1, none⟩) (Kd.R_far (p := ⟨gb115, 0, none⟩) (Kd.R_mono HO_108002.out (fun k_ hk => (⟨hk, hk.2⟩ : _ ∧ k_ ≠ gb115))) (fun _ hk => hk.2) (.int .i64 t108)) (fun _ hk => hk.2) (.int .i64 t109)) (fun _ hk => hk.2) (.slice Ao31 t110.length co31)) (fun _ hk => ⟨hk.1.1.2, ⟨hk.1.1.1.1, ⟨hk.1.1.1.2, hk.1.2⟩⟩⟩)))⟩; have n1_ : Aside0 (Kd.R k68 68 w32 w.heap.size (fun k_ => some k_ ≠ (u108002 : Value).ownBlock ∧ k_ ≠ gb101 ∧ k_ ≠ gb107 ∧ k_ ≠ gb115) (.slice Ao31 t110.length co31) t110) := ⟨(by rw [hw]; exact (by (with_reducible repeat (first | apply Kd.R_alloc | apply Kd.R_drewN | apply Kd.R_drew)); exact Kd.R_mono (Kd.R_far (p := ⟨gb115, 2, none⟩) (Kd.R_far (p := ⟨gb115, 1, none⟩) (Kd.R_far (p := ⟨gb115, 0, none⟩) (Kd.R_mono HO112.out (fun k_ hk => (⟨hk, hk.2⟩ : _ ∧ k_ ≠ gb115))) (fun _ hk => hk.2) (.int .i64 t108)) (fun _ hk => hk.2) (.int .i64 t109)) (fun _ hk => hk.2) (.slice Ao31 t110.length co31)) (fun _ hk => ⟨hk.1.1.1.1.2, ⟨hk.1.1.1.2, ⟨hk.1.1.2, hk.1.2⟩⟩⟩)))⟩; have n2_ : Aside0 (w32.heap[gb101]? = some (.cells #[.int .i64 x102000_2, .int .i64 x102001_2, .slice none 0 0] 68 (0, 0))) := ⟨(by rw [hw]; exact (by (with_reducible repeat (first | refine blk_drewN ?_ _ | refine blk_drew ?_ | refine blk_alloc ?_ _)); refine blk_far ?_ NB101_115.out _; (with_reducible repeat (first | refine blk_drewN ?_ _ | refine blk_drew ?_ | refine blk_alloc ?_ _)); refine blk_far ?_ NB101_115.out _; (with_reducible repeat (first | refine blk_drewN ?_ _ | refine blk_drew ?_ | refine blk_alloc ?_ _)); refine blk_far ?_ NB101_115.out _; (with_reducible repeat (first | refine blk_drewN ?_ _ | refine blk_drew ?_ | refine blk_alloc ?_ _)); exact BK101.out))⟩; have n3_ : Aside0 (w32.heap[gb107]? = some (.cells #[.int .i64 ((rd_T62 l0 a1).f0), .int .i64 ((rd_T62 l0 a1).f1), u108002] 68 (0, 0))) := ⟨(by rw [hw]; exact (by (with_reducible repeat (first | refine blk_drewN ?_ _ | refine blk_drew ?_ | refine blk_alloc ?_ _)); refine blk_far ?_ NB107_115.out _; (with_reducible repeat (first | refine blk_drewN ?_ _ | refine blk_drew ?_ | refine blk_alloc ?_ _)); refine blk_far ?_ NB107_115.out _; (with_reducible repeat (first | refine blk_drewN ?_ _ | refine blk_drew ?_ | refine blk_alloc ?_ _)); refine blk_far ?_ NB107_115.out _; (with_reducible repeat (first | refine blk_drewN ?_ _ | refine blk_drew ?_ | refine blk_alloc ?_ _)); exact BK107.out))⟩; have n4_ : Aside0 (w32.heap[gb115]? = some (.cells #[.int .i64 t108, .int .i64 t109, .slice Ao31 t110.length co31] 68 (0, 0))) := ⟨(by rw [hw]; exact (by (with_reducible repeat (first | refine blk_drewN ?_ _ | refine blk_drew ?_ | refine blk_alloc ?_ _)); refine blk_put (cs := #[.int .i64 t108, .int .i64 t109, .slice none 0 0]) ?_ 2 _ rfl; (with_reducible repeat (first | refine blk_drewN ?_ _ | refine blk_drew ?_ | refine blk_alloc ?_ _)); refine blk_put (cs := #[.int .i64 t108, .int .i64 0, .slice none 0 0]) ?_ 1 _ rfl; (with_reducible repeat (first | refine blk_drewN ?_ _ | refine blk_drew ?_ | refine blk_alloc ?_ _)); refine blk_put (cs := #[.int .i64 0, .int .i64 0, .slice none 0 0]) ?_ 0 _ rfl; (with_reducible repeat (first | refine blk_drewN ?_ _ | refine blk_drew ?_ | refine blk_alloc ?_ _)); exact BK115.out))⟩; have n5_ : Aside0 (Below w.heap.size w w32) := ⟨(by rw [hw]; exact (by repeat (first | (with_reducible first | exact HB.out | apply below_alloc | apply pw_below_drewN | apply below_drew1 | refine below_set ?_ GE101.out | refine below_set ?_ GE107.out | refine below_set ?_ GE115.out) | exact HB.out)))⟩; clear hw; clear HO_108002; clear HO112; clear BK101; clear BK107; clear BK115; clear HB; have HO_108002 := n0_; have HO112 := n1_; have BK101 := n2_; have BK107 := n3_; have BK115 := n4_; have HB := n5_; clear n0_ n1_ n2_ n3_ n4_ n5_; have hnb33 := NB107_101.out; have hnc33 := NB101_107.out; have hcz34_0 : w32.cell? ⟨gb107, 0, none⟩ = some (.int .i64 ((rd_T62 l0 a1).f0)) := (blk_cell BK107.out 0).trans rfl; have hcz34_1 : w32.cell? ⟨gb107, 1, none⟩ = some (.int .i64 ((rd_T62 l0 a1).f1)) := (blk_cell BK107.out 1).trans rfl; have hcz34_2 : w32.cell? ⟨gb107, 2, none⟩ = some (u108002) := (blk_cell BK107.out 2).trans rfl; have hfz34_0 := blk_frozen BK107.out 0; have hfz34_1 := blk_frozen BK107.out 1; have hfz34_2 := blk_frozen BK107.out 2; have hcz35_0 : w32.cell? ⟨gb115, 0, none⟩ = some (.int .i64 t108) := (blk_cell BK115.out 0).trans rfl; have hcz35_1 : w32.cell? ⟨gb115, 1, none⟩ = some (.int .i64 t109) := (blk_cell BK115.out 1).trans rfl; have hcz35_2 : w32.cell? ⟨gb115, 2, none⟩ = some (.slice Ao31 t110.length co31) := (blk_cell BK115.out 2).trans rfl; have hfz35_0 := blk_frozen BK115.out 0; have hfz35_1 := blk_frozen BK115.out 1; have hfz35_2 := blk_frozen BK115.out 2) | ((with_reducible refine gate_builtin (b := .append) (xs := #[.tmp 74, .tmp 76]) rfl ?_); at_builtin; refine Kd.R_append k68 (w0 := w) w.heap.size rfl (.tmp 74) (.tmp 76) 66 68 (.agg #[(.int .i64 0), (.int .i64 0), (.slice none 0 0)]) 40 rfl Try.underlying66 info68 rfl (by decide) (by omega) u108002 x108002_2 (⟨t108, t109, t110⟩ : S68) [.int .i64 t108, .int .i64 t109, .slice Ao31 t110.length co31] (fun k_ => k_ ≠ gb101 ∧ k_ ≠ gb107 ∧ k_ ≠ gb115) (fun k_ => ((fun k_ => k_ ≠ gb101 ∧ k_ ≠ gb107 ∧ k_ ≠ gb115)) k_ ∧ some k_ ≠ (u108002 : Value).ownBlock) rfl rfl ?aP (fun _ hk => hk) ?aF ?aO ?aB ?aS ?aL ?_; (case aP => exact k68_mkM _ _ _ (⟨t108, t109, t110⟩ : S68) (Kd.R_mono (HO112.out) (fun k_ hk => ⟨⟨hk.2.1, ⟨hk.2.2.1, hk.2.2.2⟩⟩, hk.1⟩))); (case aB => exact (by repeat (first | (with_reducible first | exact HB.out | apply below_alloc | apply pw_below_drewN | apply below_drew1 | refine below_set ?_ GE101.out | refine below_set ?_ GE107.out | refine below_set ?_ GE115.out) | exact HB.out))); (case aF => exact (fun k_ hk => ⟨Kd.freshB (g := gb101) (o := .cells #[.int .i64 x102000_2, .int .i64 x102001_2, .slice none 0 0] 68 (0, 0)) (by (with_reducible repeat (first | refine blk_drewN ?_ _ | refine blk_drew ?_ | refine blk_alloc ?_ _)); exact BK101.out) k_ hk, Kd.freshB (g := gb107) (o := .cells #[.int .i64 ((rd_T62 l0 a1).f0), .int .i64 ((rd_T62 l0 a1).f1), u108002] 68 (0, 0)) (by (with_reducible repeat (first | refine blk_drewN ?_ _ | refine blk_drew ?_ | refine blk_alloc ?_ _)); exact BK107.out) k_ hk, Kd.freshB (g := gb115) (o := .cells #[.int .i64 t108, .int .i64 t109, .slice Ao31 t110.length co31] 68 (0, 0)) (by (with_reducible repeat (first | refine blk_drewN ?_ _ | refine blk_drew ?_ | refine blk_alloc ?_ _)); exact BK115.out) k_ hk⟩)); (case aO => exact (by (with_reducible repeat (first | apply Kd.R_alloc | apply Kd.R_drewN | apply Kd.R_drew)); exact Kd.R_mono HO_108002.out (fun _ hk => ⟨hk.2.1, ⟨hk.2.2.1, hk.2.2.2⟩⟩))); (case aS => exact (below_size (by repeat (first | (with_reducible first | exact HB.out | apply below_alloc | apply pw_below_drewN | apply below_drew1 | refine below_set ?_ GE101.out | refine below_set ?_ GE107.out | refine below_set ?_ GE115.out) | exact HB.out)))); (case aL => have := LMc25.out; omega); intro v117 w36 ho hb hg hat; rw [← Ny116.out] at ho; have n0_ := Aside0.mk (blk_grown (g := gb101) (o := .cells #[.int .i64 x102000_2, .int .i64 x102001_2, .slice none 0 0] 68 (0, 0)) (by (with_reducible repeat (first | refine blk_drewN ?_ _ | refine blk_drew ?_ | refine blk_alloc ?_ _)); exact BK101.out) hg (Kd.R_away HO_108002.out (fun _ hk => hk.2.1))); have n1_ := Aside0.mk (blk_grown (g := gb107) (o := .cells #[.int .i64 ((rd_T62 l0 a1).f0), .int .i64 ((rd_T62 l0 a1).f1), u108002] 68 (0, 0)) (by (with_reducible repeat (first | refine blk_drewN ?_ _ | refine blk_drew ?_ | refine blk_alloc ?_ _)); exact BK107.out) hg (Kd.R_away HO_108002.out (fun _ hk => hk.2.2.1))); have n2_ := Aside0.mk (blk_grown (g := gb115) (o := .cells #[.int .i64 t108, .int .i64 t109, .slice Ao31 t110.length co31] 68 (0, 0)) (by (with_reducible repeat (first | refine blk_drewN ?_ _ | refine blk_drew ?_ | refine blk_alloc ?_ _)); exact BK115.out) hg (Kd.R_away HO_108002.out (fun _ hk => hk.2.2.2))); have n3_ := Aside0.mk (hb); have n4_ := Aside0.mk (ho); clear BK101; clear BK107; clear BK115; clear HB; clear HO_108002; clear HO112; have BK101 := n0_; have BK107 := n1_; have BK115 := n2_; have HB := n3_; have HO118 := n4_; clear n0_ n1_ n2_ n3_ n4_; clear ho hb hg hat; obtain ⟨Ao37, co37, eo37⟩ := Kd.R_slice HO118.out; subst eo37; have hcz38_0 : w36.cell? ⟨gb107, 0, none⟩ = some (.int .i64 ((rd_T62 l0 a1).f0)) := (blk_cell BK107.out 0).trans rfl; have hcz38_1 : w36.cell? ⟨gb107, 1, none⟩ = some (.int .i64 ((rd_T62 l0 a1).f1)) := (blk_cell BK107.out 1).trans rfl; have hcz38_2 : w36.cell? ⟨gb107, 2, none⟩ = some (u108002) := (blk_cell BK107.out 2).trans rfl; have hfz38_0 := blk_frozen BK107.out 0; have hfz38_1 := blk_frozen BK107.out 1; have hfz38_2 := blk_frozen BK107.out 2))
                      go_roundg k2
                      case measure => have := HJ3.out; have := HK2.out; omega
                      case rel => exact ⟨(t113), (wrap64 (x60_2 + 1)), (x102000_2), (x102001_2), (y116), (.slice Ao37 y116.length co37), (by first | rfl | (simp; done) | (simp [*]; done)), (by first | rfl | (simp; done) | (simp [*]; done)), H', ⟨by have := HJ3.out; have := HK2.out; omega⟩, ⟨by (with_reducible repeat (first | apply Kd.R_alloc | apply Kd.R_drewN | apply Kd.R_drew)); exact Kd.R_mono (Kd.R_far (p := ⟨gb107, 2, none⟩) (Kd.R_mono HO118.out (fun k_ hk => (⟨hk, hk.2.1⟩ : _ ∧ k_ ≠ gb107))) (fun _ hk => hk.2) (.slice Ao37 y116.length co37)) (fun _ hk => ⟨hk.1.1, hk.1.2.1⟩)⟩, ⟨by (with_reducible repeat (first | refine blk_drewN ?_ _ | refine blk_drew ?_ | refine blk_alloc ?_ _)); refine blk_far ?_ NB101_107.out _; (with_reducible repeat (first | refine blk_drewN ?_ _ | refine blk_drew ?_ | refine blk_alloc ?_ _)); exact BK101.out⟩, ⟨by (with_reducible repeat (first | refine blk_drewN ?_ _ | refine blk_drew ?_ | refine blk_alloc ?_ _)); refine blk_put (cs := #[.int .i64 ((rd_T62 l0 a1).f0), .int .i64 ((rd_T62 l0 a1).f1), u108002]) ?_ 2 _ rfl; (with_reducible repeat (first | refine blk_drewN ?_ _ | refine blk_drew ?_ | refine blk_alloc ?_ _)); exact BK107.out⟩, ⟨by repeat (first | (with_reducible first | exact HB.out | apply below_alloc | apply pw_below_drewN | apply below_drew1 | refine below_set ?_ GE101.out | refine below_set ?_ GE107.out | refine below_set ?_ GE115.out) | exact HB.out)⟩⟩
                    · rw [if_neg c25] at H
                      exact absurd H (by simp)
                  · replace c24 := Bool.eq_false_iff.mpr c24
                    subst c24
                    have H1 : (some (0, 0, ([] : List (S68)), 0, false)) = some (r1, r2, r3, r4, r5) := by rw [if_neg (show ¬ (false = true) by decide)] at H; exact H
                    clear H
                    have H := H1
                    clear H1
                    simp only [Option.some.injEq, Prod.mk.injEq] at H
                    obtain ⟨rfl, rfl, rfl, rfl, rfl⟩ := H
                    go_wp2_with (first | ((with_reducible refine gate_callee (f := 65) rfl ?_); refine goesL_ (some 66) rfl rfl Try.func65 (by kernel_rfl) rfl #[.slice (some ad105) l0.length c0, .int .i64 x10_2, .int .i64 a1] rfl (by (try simp only [List.map_toArray, List.map_cons, List.map_nil]); first | done | rfl | (simp only [List.length_drop, List.length_take]; rfl)) ?_; (with_reducible refine (ih k2 (by have := HJ3.out; have := HK2.out; omega) _ _ l0 x10_2 a1 t108 t109 t110 t113 false _ ?side1 ?side2 A23.out).mono ?_); (case side1 => repeat (first | exact (Kd.C_below HR0.out HB.out) | (with_reducible refine Kd.C_alloc ?_ _) | (with_reducible refine Kd.C_drewN ?_ _) | (with_reducible refine Kd.C_drew ?_))); (case side2 => exact HC0.out); rintro e w39 ⟨v111, rfl, ho0, hb⟩; refine ⟨_, rfl, ?_⟩; have n0_ := Aside0.mk (Kd.R_elder' (by (with_reducible repeat (first | apply Kd.R_alloc | apply Kd.R_drewN | apply Kd.R_drew)); exact HO_108002.out) (Kd.R_base ho0) hb); have n1_ := Aside0.mk (Kd.R_lower (Kd.R_newB (Kd.R_newB (Kd.R_new' ho0 (Kd.R_lt (by (with_reducible repeat (first | apply Kd.R_alloc | apply Kd.R_drewN | apply Kd.R_drew)); exact HO_108002.out))) (g := gb101) (o := .cells #[.int .i64 x102000_2, .int .i64 x102001_2, .slice none 0 0] 68 (0, 0)) (by (with_reducible repeat (first | refine blk_drewN ?_ _ | refine blk_drew ?_ | refine blk_alloc ?_ _)); exact BK101.out)) (g := gb107) (o := .cells #[.int .i64 ((rd_T62 l0 a1).f0), .int .i64 ((rd_T62 l0 a1).f1), u108002] 68 (0, 0)) (by (with_reducible repeat (first | refine blk_drewN ?_ _ | refine blk_drew ?_ | refine blk_alloc ?_ _)); exact BK107.out)) (below_size (by repeat (first | (with_reducible first | exact HB.out | apply below_alloc | apply pw_below_drewN | apply below_drew1 | refine below_set ?_ GE101.out | refine below_set ?_ GE107.out) | exact HB.out)))); have n2_ := Aside0.mk (blk_below (g := gb101) (o := .cells #[.int .i64 x102000_2, .int .i64 x102001_2, .slice none 0 0] 68 (0, 0)) (by (with_reducible repeat (first | refine blk_drewN ?_ _ | refine blk_drew ?_ | refine blk_alloc ?_ _)); exact BK101.out) hb); have n3_ := Aside0.mk (blk_below (g := gb107) (o := .cells #[.int .i64 ((rd_T62 l0 a1).f0), .int .i64 ((rd_T62 l0 a1).f1), u108002] 68 (0, 0)) (by (with_reducible repeat (first | refine blk_drewN ?_ _ | refine blk_drew ?_ | refine blk_alloc ?_ _)); exact BK107.out) hb); have n4_ := Aside0.mk (below_step (by repeat (first | (with_reducible first | exact HB.out | apply below_alloc | apply pw_below_drewN | apply below_drew1 | refine below_set ?_ GE101.out | refine below_set ?_ GE107.out) | exact HB.out)) hb); clear HO_108002; clear BK101; clear BK107; clear HB; have HO_108002 := n0_; have HO112 := n1_; have BK101 := n2_; have BK107 := n3_; have HB := n4_; clear n0_ n1_ n2_ n3_ n4_; (try clear hb); (try clear hb2); (try clear hk); (try clear hi); (try clear ho0)) | ((with_reducible refine gate_dst (N := 11) rfl ?_); refine box_event ?hg (N := 11) ?hd (cs := #[.int .i64 0, .int .i64 0, .slice none 0 0]) (t := 68) ?hr ?_; (case hd => rfl); (case hg => rfl); (case hr => first | (go_simp; done) | (go_simp; rfl)); intro gb115 hg w40 hbox hb; have n0_ := Aside0.mk (Kd.R_below (Kd.R_elderB (by (with_reducible repeat (first | apply Kd.R_alloc | apply Kd.R_drewN | apply Kd.R_drew)); exact HO_108002.out) gb115 (Nat.le_of_eq hg.symm)) hb); have n1_ := Aside0.mk (Kd.R_below (Kd.R_elderB (by (with_reducible repeat (first | apply Kd.R_alloc | apply Kd.R_drewN | apply Kd.R_drew)); exact HO112.out) gb115 (Nat.le_of_eq hg.symm)) hb); have n2_ := Aside0.mk (blk_below (g := gb101) (o := .cells #[.int .i64 x102000_2, .int .i64 x102001_2, .slice none 0 0] 68 (0, 0)) (by (with_reducible repeat (first | refine blk_drewN ?_ _ | refine blk_drew ?_ | refine blk_alloc ?_ _)); exact BK101.out) hb); have n3_ := Aside0.mk (blk_below (g := gb107) (o := .cells #[.int .i64 ((rd_T62 l0 a1).f0), .int .i64 ((rd_T62 l0 a1).f1), u108002] 68 (0, 0)) (by (with_reducible repeat (first | refine blk_drewN ?_ _ | refine blk_drew ?_ | refine blk_alloc ?_ _)); exact BK107.out) hb); have n4_ := Aside0.mk (below_step (by repeat (first | (with_reducible first | exact HB.out | apply below_alloc | apply pw_below_drewN | apply below_drew1 | refine below_set ?_ GE101.out | refine below_set ?_ GE107.out) | exact HB.out)) hb); have n5_ := Aside0.mk (hbox); have n6_ := Aside0.mk ((by rw [hg]; exact (below_size (by repeat (first | (with_reducible first | exact HB.out | apply below_alloc | apply pw_below_drewN | apply below_drew1 | refine below_set ?_ GE101.out | refine below_set ?_ GE107.out) | exact HB.out))) : w.heap.size ≤ gb115)); have n7_ := Aside0.mk ((by rw [hg]; exact (below_size (by repeat (first | (with_reducible first | exact HB.out | apply below_alloc | apply pw_below_drewN | apply below_drew1 | refine below_set ?_ GE101.out | refine below_set ?_ GE107.out) | exact HB.out))) : w.heap.size ≤ gb115)); have n8_ := Aside0.mk ((by rw [hg]; exact Nat.ne_of_lt (blk_lt (g := gb101) (o := .cells #[.int .i64 x102000_2, .int .i64 x102001_2, .slice none 0 0] 68 (0, 0)) (by (with_reducible repeat (first | refine blk_drewN ?_ _ | refine blk_drew ?_ | refine blk_alloc ?_ _)); exact BK101.out)) : gb101 ≠ gb115)); have n9_ := Aside0.mk ((by rw [hg]; exact Nat.ne_of_gt (blk_lt (g := gb101) (o := .cells #[.int .i64 x102000_2, .int .i64 x102001_2, .slice none 0 0] 68 (0, 0)) (by (with_reducible repeat (first | refine blk_drewN ?_ _ | refine blk_drew ?_ | refine blk_alloc ?_ _)); exact BK101.out)) : gb115 ≠ gb101)); have n10_ := Aside0.mk ((by rw [hg]; exact Nat.ne_of_lt (blk_lt (g := gb107) (o := .cells #[.int .i64 ((rd_T62 l0 a1).f0), .int .i64 ((rd_T62 l0 a1).f1), u108002] 68 (0, 0)) (by (with_reducible repeat (first | refine blk_drewN ?_ _ | refine blk_drew ?_ | refine blk_alloc ?_ _)); exact BK107.out)) : gb107 ≠ gb115)); have n11_ := Aside0.mk ((by rw [hg]; exact Nat.ne_of_gt (blk_lt (g := gb107) (o := .cells #[.int .i64 ((rd_T62 l0 a1).f0), .int .i64 ((rd_T62 l0 a1).f1), u108002] 68 (0, 0)) (by (with_reducible repeat (first | refine blk_drewN ?_ _ | refine blk_drew ?_ | refine blk_alloc ?_ _)); exact BK107.out)) : gb115 ≠ gb107)); clear HO_108002; clear HO112; clear BK101; clear BK107; clear HB; have HO_108002 := n0_; have HO112 := n1_; have BK101 := n2_; have BK107 := n3_; have HB := n4_; have BK115 := n5_; have GW115 := n6_; have GE115 := n7_; have NB101_115 := n8_; have NB115_101 := n9_; have NB107_115 := n10_; have NB115_107 := n11_; clear n0_ n1_ n2_ n3_ n4_ n5_ n6_ n7_ n8_ n9_ n10_ n11_; clear hb hbox hg; have hnb41 := NB115_101.out; have hnc41 := NB101_115.out; have hnb42 := NB115_107.out; have hnc42 := NB107_115.out; have hcz43_0 : w40.cell? ⟨gb115, 0, none⟩ = some (.int .i64 0) := (blk_cell BK115.out 0).trans rfl; have hcz43_1 : w40.cell? ⟨gb115, 1, none⟩ = some (.int .i64 0) := (blk_cell BK115.out 1).trans rfl; have hcz43_2 : w40.cell? ⟨gb115, 2, none⟩ = some (.slice none 0 0) := (blk_cell BK115.out 2).trans rfl; have hfz43_0 := blk_frozen BK115.out 0; have hfz43_1 := blk_frozen BK115.out 1; have hfz43_2 := blk_frozen BK115.out 2; obtain ⟨Ao44, co44, eo44⟩ := Kd.R_slice HO112.out; subst eo44; have hnb45 := NB101_107.out; have hnc45 := NB107_101.out; have hcz46_0 : w40.cell? ⟨gb101, 0, none⟩ = some (.int .i64 x102000_2) := (blk_cell BK101.out 0).trans rfl; have hcz46_1 : w40.cell? ⟨gb101, 1, none⟩ = some (.int .i64 x102001_2) := (blk_cell BK101.out 1).trans rfl; have hcz46_2 : w40.cell? ⟨gb101, 2, none⟩ = some (.slice none 0 0) := (blk_cell BK101.out 2).trans rfl; have hfz46_0 := blk_frozen BK101.out 0; have hfz46_1 := blk_frozen BK101.out 1; have hfz46_2 := blk_frozen BK101.out 2))
                    refine bodyPost_ret (results_ctt rfl _ _ gb101 68 #[.int .i64 0, .int .i64 0, .slice none 0 0] (0, 0) _ rfl (by (with_reducible repeat (first | refine blk_drewN ?_ _ | refine blk_drew ?_ | refine blk_alloc ?_ _)); refine blk_put (cs := #[.int .i64 0, .int .i64 0, .slice none 0 0]) ?_ 2 _ rfl; (with_reducible repeat (first | refine blk_drewN ?_ _ | refine blk_drew ?_ | refine blk_alloc ?_ _)); refine blk_put (cs := #[.int .i64 0, .int .i64 x102001_2, .slice none 0 0]) ?_ 1 _ rfl; (with_reducible repeat (first | refine blk_drewN ?_ _ | refine blk_drew ?_ | refine blk_alloc ?_ _)); refine blk_put (cs := #[.int .i64 x102000_2, .int .i64 x102001_2, .slice none 0 0]) ?_ 0 _ rfl; (with_reducible repeat (first | refine blk_drewN ?_ _ | refine blk_drew ?_ | refine blk_alloc ?_ _)); refine blk_far ?_ NB101_115.out _; (with_reducible repeat (first | refine blk_drewN ?_ _ | refine blk_drew ?_ | refine blk_alloc ?_ _)); refine blk_far ?_ NB101_115.out _; (with_reducible repeat (first | refine blk_drewN ?_ _ | refine blk_drew ?_ | refine blk_alloc ?_ _)); refine blk_far ?_ NB101_115.out _; (with_reducible repeat (first | refine blk_drewN ?_ _ | refine blk_drew ?_ | refine blk_alloc ?_ _)); exact BK101.out) Try.underlying68 rfl (by kernel_rfl)) rfl ?_
                    exact ⟨_, by first | rfl | (simp [errW_none, errW_some] <;> rfl) | (simp [*, errW_none, errW_some] <;> rfl), by first | exact Kd.R_nil _ _ _ _ _ | exact Kd.N_nil _ _ _ _ _ | exact Kd.V_nil _ _ _ _ _ | exact Kd.Q_nil _ _ _ _ _ | exact Kd.S_nil _ _ _ _ _, by repeat (first | (with_reducible first | exact HB.out | apply below_alloc | apply pw_below_drewN | apply below_drew1 | refine below_set ?_ GE101.out | refine below_set ?_ GE107.out | refine below_set ?_ GE115.out) | exact HB.out)⟩
                · rw [if_neg c22] at H
                  have c22b0 : decide (x60_2 < (wrap64 (((rd_T62 l0 a1).f0) - 1))) = false := decide_eq_false c22
                  clear c22
                  simp only [Option.some.injEq, Prod.mk.injEq] at H
                  obtain ⟨rfl, rfl, rfl, rfl, rfl⟩ := H
                  have hnb47 := NB107_101.out
                  have hnc47 := NB101_107.out
                  have hcz48_0 : wr.cell? ⟨gb107, 0, none⟩ = some (.int .i64 ((rd_T62 l0 a1).f0)) := (blk_cell BK107.out 0).trans rfl
                  have hcz48_1 : wr.cell? ⟨gb107, 1, none⟩ = some (.int .i64 ((rd_T62 l0 a1).f1)) := (blk_cell BK107.out 1).trans rfl
                  have hcz48_2 : wr.cell? ⟨gb107, 2, none⟩ = some (u108002) := (blk_cell BK107.out 2).trans rfl
                  have hfz48_0 := blk_frozen BK107.out 0
                  have hfz48_1 := blk_frozen BK107.out 1
                  have hfz48_2 := blk_frozen BK107.out 2
                  have hcz49_0 : wr.cell? ⟨gb101, 0, none⟩ = some (.int .i64 x102000_2) := (blk_cell BK101.out 0).trans rfl
                  have hcz49_1 : wr.cell? ⟨gb101, 1, none⟩ = some (.int .i64 x102001_2) := (blk_cell BK101.out 1).trans rfl
                  have hcz49_2 : wr.cell? ⟨gb101, 2, none⟩ = some (.slice none 0 0) := (blk_cell BK101.out 2).trans rfl
                  have hfz49_0 := blk_frozen BK101.out 0
                  have hfz49_1 := blk_frozen BK101.out 1
                  have hfz49_2 := blk_frozen BK101.out 2
                  obtain ⟨Ao50, co50, eo50⟩ := Kd.R_slice HO_108002.out
                  subst eo50
                  go_wp2
                  refine bodyPost_ret (results_ctt rfl _ _ gb101 68 #[.int .i64 ((rd_T62 l0 a1).f0), .int .i64 ((rd_T62 l0 a1).f1), .slice Ao50 x108002_2.length co50] (0, 0) _ rfl (by (with_reducible repeat (first | refine blk_drewN ?_ _ | refine blk_drew ?_ | refine blk_alloc ?_ _)); refine blk_put (cs := #[.int .i64 ((rd_T62 l0 a1).f0), .int .i64 ((rd_T62 l0 a1).f1), .slice none 0 0]) ?_ 2 _ rfl; (with_reducible repeat (first | refine blk_drewN ?_ _ | refine blk_drew ?_ | refine blk_alloc ?_ _)); refine blk_put (cs := #[.int .i64 ((rd_T62 l0 a1).f0), .int .i64 x102001_2, .slice none 0 0]) ?_ 1 _ rfl; (with_reducible repeat (first | refine blk_drewN ?_ _ | refine blk_drew ?_ | refine blk_alloc ?_ _)); refine blk_put (cs := #[.int .i64 x102000_2, .int .i64 x102001_2, .slice none 0 0]) ?_ 0 _ rfl; (with_reducible repeat (first | refine blk_drewN ?_ _ | refine blk_drew ?_ | refine blk_alloc ?_ _)); exact BK101.out) Try.underlying68 rfl (by kernel_rfl)) rfl ?_
                  exact ⟨_, by first | rfl | (simp [errW_none, errW_some] <;> rfl) | (simp [*, errW_none, errW_some] <;> rfl), by (with_reducible repeat (first | apply Kd.R_alloc | apply Kd.R_drewN | apply Kd.R_drew)); exact Kd.R_mono (Kd.R_far (p := ⟨gb101, 2, none⟩) (Kd.R_far (p := ⟨gb101, 1, none⟩) (Kd.R_far (p := ⟨gb101, 0, none⟩) (Kd.R_mono HO_108002.out (fun k_ hk => (⟨hk, hk.1⟩ : _ ∧ k_ ≠ gb101))) (fun _ hk => hk.2) (.int .i64 ((rd_T62 l0 a1).f0))) (fun _ hk => hk.2) (.int .i64 ((rd_T62 l0 a1).f1))) (fun _ hk => hk.2) (.slice Ao50 x108002_2.length co50)) (fun _ hk => trivial), by repeat (first | (with_reducible first | exact HB.out | apply below_alloc | apply pw_below_drewN | apply below_drew1 | refine below_set ?_ GE101.out | refine below_set ?_ GE107.out) | exact HB.out)⟩
          · rw [if_neg c14] at H
            exact absurd H (by simp)
        · rw [if_neg c13] at H
          exact absurd H (by simp)

end Go.Proofs.Ytcjhhdecckcibaa.G

namespace Go.Proofs.Ytcjhhdecckcibaa.G
open Go.RowKit Go.Proofs.YtcjhhdecckcibaaW.PrintWords Go.Proofs.YtcjhhdecckcibaaW.PrintLast Go.Proofs.YtcjhhdecckcibaaW.PrintMore
attribute [local go_sem] max2_int min2_int max_two min_two max_three min_three max_four min_four   -- for this text's walks alone
set_option linter.unusedVariables false
set_option linter.unusedSimpArgs false

mutual
def impl_term_size.l0 : Nat → Int → List (S68) → Int → Int → Option (Int)
  | 0, _, _, _, _ => none
  | k + 1, x3, x7, x8, x9 => if x9 < x8 then (if 0 ≤ x9 then (if x9 < (x7.length : Int) then ((impl_term_size.f k ((rd_T68 x7 x9).f0) ((rd_T68 x7 x9).f1) ((rd_T68 x7 x9).f2)).bind fun t104 => (impl_term_size.l0 k (wrap64 (x3 + t104)) x7 x8 (wrap64 (x9 + 1)))) else (none)) else (none)) else (some x3)
def impl_term_size.f : Nat → Int → Int → List (S68) → Option (Int)
  | 0, _, _, _ => none
  | k + 1, a0_0, a0_1, l0_2 => impl_term_size.l0 k 1 l0_2 (l0_2.length : Int) 0
end
set_option maxHeartbeats 8000000 in
set_option maxRecDepth 100000 in
theorem impl_term_size.calls (k : Nat) : ∀ (a0_0 : Int) (a0_1 : Int) (A0_2 : Option Addr) (c0_2 : Nat) (l0_2 : List (S68)) (r : Int) (w : World) (hr0_2 : Kd.C k68 w A0_2 l0_2.length l0_2) (hc0_2 : l0_2.length ≤ c0_2) (h : impl_term_size.f k a0_0 a0_1 l0_2 = some r),
    Calls Try.prog 68 #[.agg #[.int .i64 a0_0, .int .i64 a0_1, .slice A0_2 l0_2.length c0_2]] w fun e w' => e = .returned (.int .i64 r) ∧ Below w.heap.size w w' := by
  induction k using Nat.strongRecOn with
  | _ k ih =>
  intro a0_0 a0_1 A0_2 c0_2 l0_2 r w hr0_2 hc0_2 h
  cases k with
  | zero => exact absurd h (by simp [impl_term_size.f])
  | succ k =>
  simp only [impl_term_size.f] at h
  have hu68 := Try.underlying68
  have HR0_2 := Aside0.mk hr0_2
  have HC0_2 := Aside0.mk hc0_2
  clear hr0_2 hc0_2
  have HB := Aside0.mk (Below.refl w.heap.size w)
  have H : (impl_term_size.l0 k 1 l0_2 (l0_2.length : Int) 0) = some r := h
  clear h
  have H' := Aside0.mk H
  clear H
  go_enter Try.func68, Try.ntmps68
  go_wp2_with (first | ((with_reducible refine gate_dst (N := 1) rfl ?_); refine box_event ?hg (N := 1) ?hd (cs := #[.int .i64 a0_0, .int .i64 a0_1, .slice A0_2 l0_2.length c0_2]) (t := 68) ?hr ?_; (case hd => rfl); (case hg => rfl); (case hr => first | (go_simp; done) | (go_simp; rfl)); intro gb101 hg w2 hbox hb; have n0_ := Aside0.mk (below_step (by repeat (first | (with_reducible first | exact HB.out | apply below_alloc | apply pw_below_drewN | apply below_drew1) | exact HB.out)) hb); have n1_ := Aside0.mk (hbox); have n2_ := Aside0.mk ((by rw [hg]; exact (below_size (by repeat (first | (with_reducible first | exact HB.out | apply below_alloc | apply pw_below_drewN | apply below_drew1) | exact HB.out))) : w.heap.size ≤ gb101)); have n3_ := Aside0.mk ((by rw [hg]; exact (below_size (by repeat (first | (with_reducible first | exact HB.out | apply below_alloc | apply pw_below_drewN | apply below_drew1) | exact HB.out))) : w.heap.size ≤ gb101)); clear HB; have HB := n0_; have BK101 := n1_; have GW101 := n2_; have GE101 := n3_; clear n0_ n1_ n2_ n3_; clear hb hbox hg; have hcz3_0 : w2.cell? ⟨gb101, 0, none⟩ = some (.int .i64 a0_0) := (blk_cell BK101.out 0).trans rfl; have hcz3_1 : w2.cell? ⟨gb101, 1, none⟩ = some (.int .i64 a0_1) := (blk_cell BK101.out 1).trans rfl; have hcz3_2 : w2.cell? ⟨gb101, 2, none⟩ = some (.slice A0_2 l0_2.length c0_2) := (blk_cell BK101.out 2).trans rfl; have hfz3_0 := blk_frozen BK101.out 0; have hfz3_1 := blk_frozen BK101.out 1; have hfz3_2 := blk_frozen BK101.out 2))
  go_loopg [3, 9] k (fun kq v3 v9 w' => ∃ (x3_1 : Int) (x9_1 : Int), v3 = .int .i64 x3_1 ∧ v9 = .int .i64 x9_1 ∧ Aside0 (impl_term_size.l0 kq x3_1 l0_2 (l0_2.length : Int) x9_1 = some r) ∧ Aside0 (kq ≤ k) ∧ Aside0 (w'.heap[gb101]? = some (.cells #[.int .i64 a0_0, .int .i64 a0_1, (.slice A0_2 l0_2.length c0_2)] 68 (0, 0))) ∧ Aside0 (Below w.heap.size w w'))
  case atStart => exact ⟨(1), (0), (by first | rfl | (simp; done) | (simp [*]; done)), (by first | rfl | (simp; done) | (simp [*]; done)), H', ⟨Nat.le_refl _⟩, ⟨by (with_reducible repeat (first | refine blk_drewN ?_ _ | refine blk_drew ?_ | refine blk_alloc ?_ _)); exact BK101.out⟩, ⟨by repeat (first | (with_reducible first | exact HB.out | apply below_alloc | apply pw_below_drewN | apply below_drew1 | refine below_set ?_ GE101.out) | exact HB.out)⟩⟩
  case round =>
    clear H'
    try clear p2
    try clear hcz3_0
    try clear hcz3_1
    try clear hcz3_2
    try clear hfz3_0
    try clear hfz3_1
    try clear hfz3_2
    obtain ⟨x3_1, x9_1, rfl, rfl, HA, HK1, BK101, HB⟩ := hrel
    cases gk with
    | zero => exact absurd HA.out (by simp [impl_term_size.l0])
    | succ k1 =>
      have H := HA.out
      clear HA
      simp only [impl_term_size.l0] at H
      by_cases c4 : x9_1 < (l0_2.length : Int)
      · rw [if_pos c4] at H
        have c4b0 : decide (x9_1 < (l0_2.length : Int)) = true := decide_eq_true c4
        clear c4
        by_cases c5 : 0 ≤ x9_1
        · rw [if_pos c5] at H
          have c5b0 : decide (0 ≤ x9_1) = true := decide_eq_true c5
          clear c5
          by_cases c6 : x9_1 < (l0_2.length : Int)
          · rw [if_pos c6] at H
            have c6b0 : decide (x9_1 < (l0_2.length : Int)) = true := decide_eq_true c6
            clear c6
            replace H := Option.bind_eq_some_iff.mp H
            obtain ⟨t104, A70, H⟩ := H
            replace H : (impl_term_size.l0 k1 (wrap64 (x3_1 + t104)) l0_2 (l0_2.length : Int) (wrap64 (x9_1 + 1))) = some r := H
            have A7 := Aside0.mk A70
            clear A70
            have H' := Aside0.mk H
            clear H
            have p102 : 0 ≤ (x9_1 : Int) := of_decide_eq_true (by first | (with_reducible assumption) | assumption)
            have q102 : x9_1 < (l0_2.length : Int) := of_decide_eq_true (by first | (with_reducible assumption) | assumption)
            obtain ⟨ad102, A102_2, c102_2, e102, hx102_0, hx102_1, hx102_2, hl102_2, hi102_2⟩ := at_T68 HR0_2.out x9_1 p102 q102
            cases e102
            replace hx102_0 := (HB.out.cell (World.block_lt_of_cell? w _ hx102_0)).trans hx102_0
            replace hx102_1 := (HB.out.cell (World.block_lt_of_cell? w _ hx102_1)).trans hx102_1
            replace hx102_2 := (HB.out.cell (World.block_lt_of_cell? w _ hx102_2)).trans hx102_2
            have HR102_2 := Aside0.mk hi102_2
            have HC102_2 := Aside0.mk hl102_2
            clear hi102_2 hl102_2
            replace p102 := eq_true p102
            replace q102 := eq_true q102
            go_wp2_with (first | ((with_reducible refine gate_dst (N := 5) rfl ?_); refine box_event ?hg (N := 5) ?hd (cs := #[.int .i64 0, .int .i64 0, .slice none 0 0]) (t := 68) ?hr ?_; (case hd => rfl); (case hg => rfl); (case hr => first | (go_simp; done) | (go_simp; rfl)); intro gb103 hg w8 hbox hb; have n0_ := Aside0.mk (blk_below (g := gb101) (o := .cells #[.int .i64 a0_0, .int .i64 a0_1, .slice (some ad102) l0_2.length c0_2] 68 (0, 0)) (by (with_reducible repeat (first | refine blk_drewN ?_ _ | refine blk_drew ?_ | refine blk_alloc ?_ _)); exact BK101.out) hb); have n1_ := Aside0.mk (below_step (by repeat (first | (with_reducible first | exact HB.out | apply below_alloc | apply pw_below_drewN | apply below_drew1 | refine below_set ?_ GE101.out) | exact HB.out)) hb); have n2_ := Aside0.mk (hbox); have n3_ := Aside0.mk ((by rw [hg]; exact (below_size (by repeat (first | (with_reducible first | exact HB.out | apply below_alloc | apply pw_below_drewN | apply below_drew1 | refine below_set ?_ GE101.out) | exact HB.out))) : w.heap.size ≤ gb103)); have n4_ := Aside0.mk ((by rw [hg]; exact (below_size (by repeat (first | (with_reducible first | exact HB.out | apply below_alloc | apply pw_below_drewN | apply below_drew1 | refine below_set ?_ GE101.out) | exact HB.out))) : w.heap.size ≤ gb103)); have n5_ := Aside0.mk ((by rw [hg]; exact Nat.ne_of_lt (blk_lt (g := gb101) (o := .cells #[.int .i64 a0_0, .int .i64 a0_1, .slice (some ad102) l0_2.length c0_2] 68 (0, 0)) (by (with_reducible repeat (first | refine blk_drewN ?_ _ | refine blk_drew ?_ | refine blk_alloc ?_ _)); exact BK101.out)) : gb101 ≠ gb103)); have n6_ := Aside0.mk ((by rw [hg]; exact Nat.ne_of_gt (blk_lt (g := gb101) (o := .cells #[.int .i64 a0_0, .int .i64 a0_1, .slice (some ad102) l0_2.length c0_2] 68 (0, 0)) (by (with_reducible repeat (first | refine blk_drewN ?_ _ | refine blk_drew ?_ | refine blk_alloc ?_ _)); exact BK101.out)) : gb103 ≠ gb101)); clear BK101; clear HB; have BK101 := n0_; have HB := n1_; have BK103 := n2_; have GW103 := n3_; have GE103 := n4_; have NB101_103 := n5_; have NB103_101 := n6_; clear n0_ n1_ n2_ n3_ n4_ n5_ n6_; clear hb hbox hg; have hnb9 := NB103_101.out; have hnc9 := NB101_103.out; have hcz10_0 : w8.cell? ⟨gb103, 0, none⟩ = some (.int .i64 0) := (blk_cell BK103.out 0).trans rfl; have hcz10_1 : w8.cell? ⟨gb103, 1, none⟩ = some (.int .i64 0) := (blk_cell BK103.out 1).trans rfl; have hcz10_2 : w8.cell? ⟨gb103, 2, none⟩ = some (.slice none 0 0) := (blk_cell BK103.out 2).trans rfl; have hfz10_0 := blk_frozen BK103.out 0; have hfz10_1 := blk_frozen BK103.out 1; have hfz10_2 := blk_frozen BK103.out 2) | ((with_reducible refine gate_callee (f := 68) rfl ?_); refine goesL_ (some 15) rfl rfl Try.func68 (by kernel_rfl) rfl #[.agg #[.int .i64 ((rd_T68 l0_2 x9_1).f0), .int .i64 ((rd_T68 l0_2 x9_1).f1), .slice A102_2 ((rd_T68 l0_2 x9_1).f2).length c102_2]] rfl (by (try simp only [List.map_toArray, List.map_cons, List.map_nil]); first | done | rfl | (simp only [List.length_drop, List.length_take]; rfl)) ?_; (with_reducible refine (ih k1 (by have := HK1.out; omega) ((rd_T68 l0_2 x9_1).f0) ((rd_T68 l0_2 x9_1).f1) _ _ ((rd_T68 l0_2 x9_1).f2) t104 _ ?side1 ?side2 A7.out).mono ?_); (case side1 => exact Kd.C_below HR102_2.out (by repeat (first | (with_reducible first | exact HB.out | apply below_alloc | apply pw_below_drewN | apply below_drew1 | refine below_set ?_ GE101.out | refine below_set ?_ GE103.out) | exact HB.out))); (case side2 => exact HC102_2.out); rintro e w11 ⟨rfl, hb⟩; refine ⟨_, rfl, ?_⟩; have n0_ := Aside0.mk (blk_below (g := gb101) (o := .cells #[.int .i64 a0_0, .int .i64 a0_1, .slice (some ad102) l0_2.length c0_2] 68 (0, 0)) (by (with_reducible repeat (first | refine blk_drewN ?_ _ | refine blk_drew ?_ | refine blk_alloc ?_ _)); refine blk_far ?_ NB101_103.out _; (with_reducible repeat (first | refine blk_drewN ?_ _ | refine blk_drew ?_ | refine blk_alloc ?_ _)); refine blk_far ?_ NB101_103.out _; (with_reducible repeat (first | refine blk_drewN ?_ _ | refine blk_drew ?_ | refine blk_alloc ?_ _)); refine blk_far ?_ NB101_103.out _; (with_reducible repeat (first | refine blk_drewN ?_ _ | refine blk_drew ?_ | refine blk_alloc ?_ _)); exact BK101.out) hb); have n1_ := Aside0.mk (blk_below (g := gb103) (o := .cells #[.int .i64 ((rd_T68 l0_2 x9_1).f0), .int .i64 ((rd_T68 l0_2 x9_1).f1), .slice A102_2 ((rd_T68 l0_2 x9_1).f2).length c102_2] 68 (0, 0)) (by (with_reducible repeat (first | refine blk_drewN ?_ _ | refine blk_drew ?_ | refine blk_alloc ?_ _)); refine blk_put (cs := #[.int .i64 ((rd_T68 l0_2 x9_1).f0), .int .i64 ((rd_T68 l0_2 x9_1).f1), .slice none 0 0]) ?_ 2 _ rfl; (with_reducible repeat (first | refine blk_drewN ?_ _ | refine blk_drew ?_ | refine blk_alloc ?_ _)); refine blk_put (cs := #[.int .i64 ((rd_T68 l0_2 x9_1).f0), .int .i64 0, .slice none 0 0]) ?_ 1 _ rfl; (with_reducible repeat (first | refine blk_drewN ?_ _ | refine blk_drew ?_ | refine blk_alloc ?_ _)); refine blk_put (cs := #[.int .i64 0, .int .i64 0, .slice none 0 0]) ?_ 0 _ rfl; (with_reducible repeat (first | refine blk_drewN ?_ _ | refine blk_drew ?_ | refine blk_alloc ?_ _)); exact BK103.out) hb); have n2_ := Aside0.mk (below_step (by repeat (first | (with_reducible first | exact HB.out | apply below_alloc | apply pw_below_drewN | apply below_drew1 | refine below_set ?_ GE101.out | refine below_set ?_ GE103.out) | exact HB.out)) hb); clear BK101; clear BK103; clear HB; have BK101 := n0_; have BK103 := n1_; have HB := n2_; clear n0_ n1_ n2_; (try clear hb); (try clear hb2); (try clear hk); (try clear hi)))
            go_roundg k1
            case measure => have := HK1.out; omega
            case rel => exact ⟨(wrap64 (x3_1 + t104)), (wrap64 (x9_1 + 1)), (by first | rfl | (simp; done) | (simp [*]; done)), (by first | rfl | (simp; done) | (simp [*]; done)), H', ⟨by have := HK1.out; omega⟩, ⟨by (with_reducible repeat (first | refine blk_drewN ?_ _ | refine blk_drew ?_ | refine blk_alloc ?_ _)); exact BK101.out⟩, ⟨by repeat (first | (with_reducible first | exact HB.out | apply below_alloc | apply pw_below_drewN | apply below_drew1 | refine below_set ?_ GE101.out | refine below_set ?_ GE103.out) | exact HB.out)⟩⟩
          · rw [if_neg c6] at H
            exact absurd H (by simp)
        · rw [if_neg c5] at H
          exact absurd H (by simp)
      · rw [if_neg c4] at H
        have c4b0 : decide (x9_1 < (l0_2.length : Int)) = false := decide_eq_false c4
        clear c4
        obtain rfl := Option.some.inj H
        go_wp2
        go_ret
        exact ⟨by first | rfl | (simp [errW_none, errW_some] <;> rfl) | (simp [*, errW_none, errW_some] <;> rfl), by repeat (first | (with_reducible first | exact HB.out | apply below_alloc | apply pw_below_drewN | apply below_drew1 | refine below_set ?_ GE101.out) | exact HB.out)⟩

end Go.Proofs.Ytcjhhdecckcibaa.G

namespace Go.Proofs.Ytcjhhdecckcibaa.G
open Go.RowKit Go.Proofs.YtcjhhdecckcibaaW.PrintWords Go.Proofs.YtcjhhdecckcibaaW.PrintLast Go.Proofs.YtcjhhdecckcibaaW.PrintMore
attribute [local go_sem] max2_int min2_int max_two min_two max_three min_three max_four min_four   -- for this text's walks alone
set_option linter.unusedVariables false
set_option linter.unusedSimpArgs false

mutual
def impl_term_depth.l0 : Nat → Int → List (S68) → Int → Int → Option (Int)
  | 0, _, _, _, _ => none
  | k + 1, x3, x7, x8, x9 => if x9 < x8 then (if 0 ≤ x9 then (if x9 < (x7.length : Int) then ((impl_term_depth.f k ((rd_T68 x7 x9).f0) ((rd_T68 x7 x9).f1) ((rd_T68 x7 x9).f2)).bind fun t104 => (impl_term_depth.l0 k (mx x3 t104) x7 x8 (wrap64 (x9 + 1)))) else (none)) else (none)) else (some (wrap64 (x3 + 1)))
def impl_term_depth.f : Nat → Int → Int → List (S68) → Option (Int)
  | 0, _, _, _ => none
  | k + 1, a0_0, a0_1, l0_2 => impl_term_depth.l0 k 0 l0_2 (l0_2.length : Int) 0
end
set_option maxHeartbeats 8000000 in
set_option maxRecDepth 100000 in
theorem impl_term_depth.calls (k : Nat) : ∀ (a0_0 : Int) (a0_1 : Int) (A0_2 : Option Addr) (c0_2 : Nat) (l0_2 : List (S68)) (r : Int) (w : World) (hr0_2 : Kd.C k68 w A0_2 l0_2.length l0_2) (hc0_2 : l0_2.length ≤ c0_2) (h : impl_term_depth.f k a0_0 a0_1 l0_2 = some r),
    Calls Try.prog 87 #[.agg #[.int .i64 a0_0, .int .i64 a0_1, .slice A0_2 l0_2.length c0_2]] w fun e w' => e = .returned (.int .i64 r) ∧ Below w.heap.size w w' := by
  induction k using Nat.strongRecOn with
  | _ k ih =>
  intro a0_0 a0_1 A0_2 c0_2 l0_2 r w hr0_2 hc0_2 h
  cases k with
  | zero => exact absurd h (by simp [impl_term_depth.f])
  | succ k =>
  simp only [impl_term_depth.f] at h
  have hu68 := Try.underlying68
  have HR0_2 := Aside0.mk hr0_2
  have HC0_2 := Aside0.mk hc0_2
  clear hr0_2 hc0_2
  have HB := Aside0.mk (Below.refl w.heap.size w)
  have H : (impl_term_depth.l0 k 0 l0_2 (l0_2.length : Int) 0) = some r := h
  clear h
  have H' := Aside0.mk H
  clear H
  go_enter Try.func87, Try.ntmps87
  go_wp2_with (first | ((with_reducible refine gate_dst (N := 1) rfl ?_); refine box_event ?hg (N := 1) ?hd (cs := #[.int .i64 a0_0, .int .i64 a0_1, .slice A0_2 l0_2.length c0_2]) (t := 68) ?hr ?_; (case hd => rfl); (case hg => rfl); (case hr => first | (go_simp; done) | (go_simp; rfl)); intro gb101 hg w2 hbox hb; have n0_ := Aside0.mk (below_step (by repeat (first | (with_reducible first | exact HB.out | apply below_alloc | apply pw_below_drewN | apply below_drew1) | exact HB.out)) hb); have n1_ := Aside0.mk (hbox); have n2_ := Aside0.mk ((by rw [hg]; exact (below_size (by repeat (first | (with_reducible first | exact HB.out | apply below_alloc | apply pw_below_drewN | apply below_drew1) | exact HB.out))) : w.heap.size ≤ gb101)); have n3_ := Aside0.mk ((by rw [hg]; exact (below_size (by repeat (first | (with_reducible first | exact HB.out | apply below_alloc | apply pw_below_drewN | apply below_drew1) | exact HB.out))) : w.heap.size ≤ gb101)); clear HB; have HB := n0_; have BK101 := n1_; have GW101 := n2_; have GE101 := n3_; clear n0_ n1_ n2_ n3_; clear hb hbox hg; have hcz3_0 : w2.cell? ⟨gb101, 0, none⟩ = some (.int .i64 a0_0) := (blk_cell BK101.out 0).trans rfl; have hcz3_1 : w2.cell? ⟨gb101, 1, none⟩ = some (.int .i64 a0_1) := (blk_cell BK101.out 1).trans rfl; have hcz3_2 : w2.cell? ⟨gb101, 2, none⟩ = some (.slice A0_2 l0_2.length c0_2) := (blk_cell BK101.out 2).trans rfl; have hfz3_0 := blk_frozen BK101.out 0; have hfz3_1 := blk_frozen BK101.out 1; have hfz3_2 := blk_frozen BK101.out 2))
  go_loopg [3, 9] k (fun kq v3 v9 w' => ∃ (x3_1 : Int) (x9_1 : Int), v3 = .int .i64 x3_1 ∧ v9 = .int .i64 x9_1 ∧ Aside0 (impl_term_depth.l0 kq x3_1 l0_2 (l0_2.length : Int) x9_1 = some r) ∧ Aside0 (kq ≤ k) ∧ Aside0 (w'.heap[gb101]? = some (.cells #[.int .i64 a0_0, .int .i64 a0_1, (.slice A0_2 l0_2.length c0_2)] 68 (0, 0))) ∧ Aside0 (Below w.heap.size w w'))
  case atStart => exact ⟨(0), (0), (by first | rfl | (simp; done) | (simp [*]; done)), (by first | rfl | (simp; done) | (simp [*]; done)), H', ⟨Nat.le_refl _⟩, ⟨by (with_reducible repeat (first | refine blk_drewN ?_ _ | refine blk_drew ?_ | refine blk_alloc ?_ _)); exact BK101.out⟩, ⟨by repeat (first | (with_reducible first | exact HB.out | apply below_alloc | apply pw_below_drewN | apply below_drew1 | refine below_set ?_ GE101.out) | exact HB.out)⟩⟩
  case round =>
    clear H'
    try clear p2
    try clear hcz3_0
    try clear hcz3_1
    try clear hcz3_2
    try clear hfz3_0
    try clear hfz3_1
    try clear hfz3_2
    obtain ⟨x3_1, x9_1, rfl, rfl, HA, HK1, BK101, HB⟩ := hrel
    cases gk with
    | zero => exact absurd HA.out (by simp [impl_term_depth.l0])
    | succ k1 =>
      have H := HA.out
      clear HA
      simp only [impl_term_depth.l0] at H
      by_cases c4 : x9_1 < (l0_2.length : Int)
      · rw [if_pos c4] at H
        have c4b0 : decide (x9_1 < (l0_2.length : Int)) = true := decide_eq_true c4
        clear c4
        by_cases c5 : 0 ≤ x9_1
        · rw [if_pos c5] at H
          have c5b0 : decide (0 ≤ x9_1) = true := decide_eq_true c5
          clear c5
          by_cases c6 : x9_1 < (l0_2.length : Int)
          · rw [if_pos c6] at H
            have c6b0 : decide (x9_1 < (l0_2.length : Int)) = true := decide_eq_true c6
            clear c6
            replace H := Option.bind_eq_some_iff.mp H
            obtain ⟨t104, A70, H⟩ := H
            replace H : (impl_term_depth.l0 k1 (mx x3_1 t104) l0_2 (l0_2.length : Int) (wrap64 (x9_1 + 1))) = some r := H
            have A7 := Aside0.mk A70
            clear A70
            obtain ⟨ji8, hji8⟩ : ∃ j_ : Int, (mx x3_1 t104) = j_ := ⟨_, rfl⟩
            replace H : (impl_term_depth.l0 k1 ji8 l0_2 (l0_2.length : Int) (wrap64 (x9_1 + 1))) = some r := by first | (rw [hji8] at H; exact H) | (simp only [hji8] at H ⊢; exact H)
            (try rw [hji8] at A7)
            have hji8_ : (if x3_1 < t104 then t104 else x3_1) = ji8 := hji8
            have H' := Aside0.mk H
            clear H
            have p102 : 0 ≤ (x9_1 : Int) := of_decide_eq_true (by first | (with_reducible assumption) | assumption)
            have q102 : x9_1 < (l0_2.length : Int) := of_decide_eq_true (by first | (with_reducible assumption) | assumption)
            obtain ⟨ad102, A102_2, c102_2, e102, hx102_0, hx102_1, hx102_2, hl102_2, hi102_2⟩ := at_T68 HR0_2.out x9_1 p102 q102
            cases e102
            replace hx102_0 := (HB.out.cell (World.block_lt_of_cell? w _ hx102_0)).trans hx102_0
            replace hx102_1 := (HB.out.cell (World.block_lt_of_cell? w _ hx102_1)).trans hx102_1
            replace hx102_2 := (HB.out.cell (World.block_lt_of_cell? w _ hx102_2)).trans hx102_2
            have HR102_2 := Aside0.mk hi102_2
            have HC102_2 := Aside0.mk hl102_2
            clear hi102_2 hl102_2
            replace p102 := eq_true p102
            replace q102 := eq_true q102
            go_wp2_with (first | ((with_reducible refine gate_dst (N := 5) rfl ?_); refine box_event ?hg (N := 5) ?hd (cs := #[.int .i64 0, .int .i64 0, .slice none 0 0]) (t := 68) ?hr ?_; (case hd => rfl); (case hg => rfl); (case hr => first | (go_simp; done) | (go_simp; rfl)); intro gb103 hg w9 hbox hb; have n0_ := Aside0.mk (blk_below (g := gb101) (o := .cells #[.int .i64 a0_0, .int .i64 a0_1, .slice (some ad102) l0_2.length c0_2] 68 (0, 0)) (by (with_reducible repeat (first | refine blk_drewN ?_ _ | refine blk_drew ?_ | refine blk_alloc ?_ _)); exact BK101.out) hb); have n1_ := Aside0.mk (below_step (by repeat (first | (with_reducible first | exact HB.out | apply below_alloc | apply pw_below_drewN | apply below_drew1 | refine below_set ?_ GE101.out) | exact HB.out)) hb); have n2_ := Aside0.mk (hbox); have n3_ := Aside0.mk ((by rw [hg]; exact (below_size (by repeat (first | (with_reducible first | exact HB.out | apply below_alloc | apply pw_below_drewN | apply below_drew1 | refine below_set ?_ GE101.out) | exact HB.out))) : w.heap.size ≤ gb103)); have n4_ := Aside0.mk ((by rw [hg]; exact (below_size (by repeat (first | (with_reducible first | exact HB.out | apply below_alloc | apply pw_below_drewN | apply below_drew1 | refine below_set ?_ GE101.out) | exact HB.out))) : w.heap.size ≤ gb103)); have n5_ := Aside0.mk ((by rw [hg]; exact Nat.ne_of_lt (blk_lt (g := gb101) (o := .cells #[.int .i64 a0_0, .int .i64 a0_1, .slice (some ad102) l0_2.length c0_2] 68 (0, 0)) (by (with_reducible repeat (first | refine blk_drewN ?_ _ | refine blk_drew ?_ | refine blk_alloc ?_ _)); exact BK101.out)) : gb101 ≠ gb103)); have n6_ := Aside0.mk ((by rw [hg]; exact Nat.ne_of_gt (blk_lt (g := gb101) (o := .cells #[.int .i64 a0_0, .int .i64 a0_1, .slice (some ad102) l0_2.length c0_2] 68 (0, 0)) (by (with_reducible repeat (first | refine blk_drewN ?_ _ | refine blk_drew ?_ | refine blk_alloc ?_ _)); exact BK101.out)) : gb103 ≠ gb101)); clear BK101; clear HB; have BK101 := n0_; have HB := n1_; have BK103 := n2_; have GW103 := n3_; have GE103 := n4_; have NB101_103 := n5_; have NB103_101 := n6_; clear n0_ n1_ n2_ n3_ n4_ n5_ n6_; clear hb hbox hg; have hnb10 := NB103_101.out; have hnc10 := NB101_103.out; have hcz11_0 : w9.cell? ⟨gb103, 0, none⟩ = some (.int .i64 0) := (blk_cell BK103.out 0).trans rfl; have hcz11_1 : w9.cell? ⟨gb103, 1, none⟩ = some (.int .i64 0) := (blk_cell BK103.out 1).trans rfl; have hcz11_2 : w9.cell? ⟨gb103, 2, none⟩ = some (.slice none 0 0) := (blk_cell BK103.out 2).trans rfl; have hfz11_0 := blk_frozen BK103.out 0; have hfz11_1 := blk_frozen BK103.out 1; have hfz11_2 := blk_frozen BK103.out 2) | ((with_reducible refine gate_callee (f := 87) rfl ?_); refine goesL_ (some 15) rfl rfl Try.func87 (by kernel_rfl) rfl #[.agg #[.int .i64 ((rd_T68 l0_2 x9_1).f0), .int .i64 ((rd_T68 l0_2 x9_1).f1), .slice A102_2 ((rd_T68 l0_2 x9_1).f2).length c102_2]] rfl (by (try simp only [List.map_toArray, List.map_cons, List.map_nil]); first | done | rfl | (simp only [List.length_drop, List.length_take]; rfl)) ?_; (with_reducible refine (ih k1 (by have := HK1.out; omega) ((rd_T68 l0_2 x9_1).f0) ((rd_T68 l0_2 x9_1).f1) _ _ ((rd_T68 l0_2 x9_1).f2) t104 _ ?side1 ?side2 A7.out).mono ?_); (case side1 => exact Kd.C_below HR102_2.out (by repeat (first | (with_reducible first | exact HB.out | apply below_alloc | apply pw_below_drewN | apply below_drew1 | refine below_set ?_ GE101.out | refine below_set ?_ GE103.out) | exact HB.out))); (case side2 => exact HC102_2.out); rintro e w12 ⟨rfl, hb⟩; refine ⟨_, rfl, ?_⟩; have n0_ := Aside0.mk (blk_below (g := gb101) (o := .cells #[.int .i64 a0_0, .int .i64 a0_1, .slice (some ad102) l0_2.length c0_2] 68 (0, 0)) (by (with_reducible repeat (first | refine blk_drewN ?_ _ | refine blk_drew ?_ | refine blk_alloc ?_ _)); refine blk_far ?_ NB101_103.out _; (with_reducible repeat (first | refine blk_drewN ?_ _ | refine blk_drew ?_ | refine blk_alloc ?_ _)); refine blk_far ?_ NB101_103.out _; (with_reducible repeat (first | refine blk_drewN ?_ _ | refine blk_drew ?_ | refine blk_alloc ?_ _)); refine blk_far ?_ NB101_103.out _; (with_reducible repeat (first | refine blk_drewN ?_ _ | refine blk_drew ?_ | refine blk_alloc ?_ _)); exact BK101.out) hb); have n1_ := Aside0.mk (blk_below (g := gb103) (o := .cells #[.int .i64 ((rd_T68 l0_2 x9_1).f0), .int .i64 ((rd_T68 l0_2 x9_1).f1), .slice A102_2 ((rd_T68 l0_2 x9_1).f2).length c102_2] 68 (0, 0)) (by (with_reducible repeat (first | refine blk_drewN ?_ _ | refine blk_drew ?_ | refine blk_alloc ?_ _)); refine blk_put (cs := #[.int .i64 ((rd_T68 l0_2 x9_1).f0), .int .i64 ((rd_T68 l0_2 x9_1).f1), .slice none 0 0]) ?_ 2 _ rfl; (with_reducible repeat (first | refine blk_drewN ?_ _ | refine blk_drew ?_ | refine blk_alloc ?_ _)); refine blk_put (cs := #[.int .i64 ((rd_T68 l0_2 x9_1).f0), .int .i64 0, .slice none 0 0]) ?_ 1 _ rfl; (with_reducible repeat (first | refine blk_drewN ?_ _ | refine blk_drew ?_ | refine blk_alloc ?_ _)); refine blk_put (cs := #[.int .i64 0, .int .i64 0, .slice none 0 0]) ?_ 0 _ rfl; (with_reducible repeat (first | refine blk_drewN ?_ _ | refine blk_drew ?_ | refine blk_alloc ?_ _)); exact BK103.out) hb); have n2_ := Aside0.mk (below_step (by repeat (first | (with_reducible first | exact HB.out | apply below_alloc | apply pw_below_drewN | apply below_drew1 | refine below_set ?_ GE101.out | refine below_set ?_ GE103.out) | exact HB.out)) hb); clear BK101; clear BK103; clear HB; have BK101 := n0_; have BK103 := n1_; have HB := n2_; clear n0_ n1_ n2_; (try clear hb); (try clear hb2); (try clear hk); (try clear hi)))
            go_roundg k1
            case measure => have := HK1.out; omega
            case rel => exact ⟨(ji8), (wrap64 (x9_1 + 1)), (by first | rfl | (simp; done) | (simp only [← hji8] <;> (first | rfl | simp)) | (simp [*]; done)), (by first | rfl | (simp; done) | (simp [*]; done)), H', ⟨by have := HK1.out; omega⟩, ⟨by (with_reducible repeat (first | refine blk_drewN ?_ _ | refine blk_drew ?_ | refine blk_alloc ?_ _)); exact BK101.out⟩, ⟨by repeat (first | (with_reducible first | exact HB.out | apply below_alloc | apply pw_below_drewN | apply below_drew1 | refine below_set ?_ GE101.out | refine below_set ?_ GE103.out) | exact HB.out)⟩⟩
          · rw [if_neg c6] at H
            exact absurd H (by simp)
        · rw [if_neg c5] at H
          exact absurd H (by simp)
      · rw [if_neg c4] at H
        have c4b0 : decide (x9_1 < (l0_2.length : Int)) = false := decide_eq_false c4
        clear c4
        obtain rfl := Option.some.inj H
        go_wp2
        go_ret
        exact ⟨by first | rfl | (simp [errW_none, errW_some] <;> rfl) | (simp [*, errW_none, errW_some] <;> rfl), by repeat (first | (with_reducible first | exact HB.out | apply below_alloc | apply pw_below_drewN | apply below_drew1 | refine below_set ?_ GE101.out) | exact HB.out)⟩

end Go.Proofs.Ytcjhhdecckcibaa.G

namespace Go.Proofs.Ytcjhhdecckcibaa.G
open Go.RowKit Go.Proofs.YtcjhhdecckcibaaW.PrintWords Go.Proofs.YtcjhhdecckcibaaW.PrintLast Go.Proofs.YtcjhhdecckcibaaW.PrintMore
attribute [local go_sem] max2_int min2_int max_two min_two max_three min_three max_four min_four   -- for this text's walks alone
set_option linter.unusedVariables false
set_option linter.unusedSimpArgs false

namespace Are68
def Tells (g : Nat) (lb : Array Value) (p : S68 → Bool) (l : List S68) (w : World) : Prop :=
  ∀ (W : World) (x : S68) (A : Option Addr) (c : Nat), x ∈ l → Below w.heap.size w W → Kd.C k68 W A x.f2.length x.f2 → x.f2.length ≤ c → Calls Try.prog g (#[.agg #[.int .i64 x.f0, .int .i64 x.f1, .slice A x.f2.length c]] ++ lb) W fun e w' => e = .returned (.bool (p x)) ∧ Below W.heap.size W w'

theorem rd_mem (l : List S68) (i : Int) (h0 : 0 ≤ i) (h1 : i < l.length) : rd_T68 l i ∈ l := by
  have hlt : i.toNat < l.length := by omega
  have e : rd_T68 l i = l[i.toNat] := by unfold rd_T68; rw [List.getD_eq_getElem?_getD, List.getElem?_eq_getElem hlt]; rfl
  rw [e]; exact List.getElem_mem hlt
theorem any_take_succ (p : S68 → Bool) (l : List S68) (i : Int) (h0 : 0 ≤ i) (h1 : i < l.length) (h : (l.take i.toNat).any p = false) (hx : p (rd_T68 l i) = false) : (l.take (i + 1).toNat).any p = false := by
  have hlt : i.toNat < l.length := by omega
  rw [show (i + 1).toNat = i.toNat + 1 by omega, List.take_succ_eq_append_getElem hlt, List.any_append, h]
  have e : rd_T68 l i = l[i.toNat] := by unfold rd_T68; rw [List.getD_eq_getElem?_getD, List.getElem?_eq_getElem hlt]; rfl
  rw [← e]; simp [hx]
theorem any_at (p : S68 → Bool) (l : List S68) (i : Int) (h0 : 0 ≤ i) (h1 : i < l.length) (hx : p (rd_T68 l i) = true) : l.any p = true := by
  rw [List.any_eq_true]
  exact ⟨_, rd_mem l i h0 h1, hx⟩

set_option maxHeartbeats 1000000 in
set_option maxRecDepth 100000 in
theorem index_some (g : Nat) (lb : Array Value) (p : S68 → Bool) (A0 : Option Addr) (c0 : Nat) (l0 : List S68) (w : World) (hr0 : Kd.C k68 w A0 l0.length l0)
    (eg : ∀ (args : Array Value) (w : World), (callFunc g args).run Try.prog w = .ok (.enter g args) w) (hp : Tells g lb p l0 w) :
    Calls Try.prog 108 #[.slice A0 l0.length c0, .func (.func g) #[] lb] w fun e w' => (∃ r : Int, e = .returned (.int .i64 r) ∧ decide (0 ≤ r) = l0.any p) ∧ Below w.heap.size w w' := by
  have hu68 := Try.underlying68
  have HR0 := Aside0.mk hr0
  have HL := Aside0.mk hr0.2.1
  clear hr0
  have HP := Aside0.mk hp
  clear hp
  have HB := Aside0.mk (Below.refl w.heap.size w)
  go_enter Try.func108, Try.ntmps108
  go_wp2
  go_loopg [8] (l0.length + 1) (fun kq v8 w' => ∃ (i : Int), v8 = .int .i64 i ∧ Aside0 (0 ≤ i ∧ i ≤ l0.length ∧ (kq : Int) = l0.length - i + 1 ∧ (l0.take i.toNat).any p = false) ∧ Aside0 (Below w.heap.size w w'))
  case atStart => exact ⟨0, rfl, ⟨by omega, by omega, by omega, by simp⟩, HB⟩
  case round =>
    clear HB
    obtain ⟨i, rfl, HA, HB1⟩ := hrel
    by_cases c : i < (l0.length : Int)
    · have cb : decide (i < (l0.length : Int)) = true := decide_eq_true c
      have cz : decide (0 ≤ i) = true := decide_eq_true HA.out.1
      obtain ⟨ad, A2, c2, e1, hx0, hx1, hx2, hl2, hi2⟩ := at_T68 (Kd.C_below HR0.out HB1.out) i HA.out.1 c
      cases e1
      have HC2 := Aside0.mk hl2
      have HR2 := Aside0.mk hi2
      clear hl2 hi2
      have p1 := eq_true HA.out.1
      have q1 := eq_true c
      have w1 : wrap64 (i + 1) = i + 1 := by have := HA.out.1; have := HA.out.2.1; have := HL.out; unfold wrap64; omega
      have W1 := Aside0.mk w1
      have Cc := Aside0.mk c
      clear c w1
      go_wp2_with fail
      refine (HP.out _ (rd_T68 l0 i) A2 c2 (rd_mem l0 i HA.out.1 Cc.out) HB1.out HR2.out HC2.out).mono ?_
      rintro e w' ⟨rfl, hb⟩
      have HB2 := Aside0.mk (below_step HB1.out hb)
      clear hb
      by_cases hpx : p (rd_T68 l0 i) = true
      · have HX := Aside0.mk hpx
        go_wp2
        go_ret
        exact ⟨⟨i, rfl, by rw [any_at p l0 i HA.out.1 Cc.out HX.out]; exact decide_eq_true HA.out.1⟩, HB2.out⟩
      · replace hpx := Bool.eq_false_iff.mpr hpx
        have HX := Aside0.mk hpx
        obtain ⟨k1, rfl⟩ : ∃ m, gk = m + 1 := ⟨gk - 1, by have := HA.out; omega⟩
        go_wp2
        go_roundg k1
        case measure => omega
        case rel => exact ⟨i + 1, by first | rfl | rw [W1.out], ⟨by have := HA.out; omega, by have := HA.out; have := Cc.out; omega, by have := HA.out; omega, any_take_succ p l0 i HA.out.1 Cc.out HA.out.2.2.2 HX.out⟩, HB2⟩
    · have cb : decide (i < (l0.length : Int)) = false := decide_eq_false c
      have Cc := Aside0.mk c
      clear c
      go_wp2
      go_ret
      refine ⟨⟨-1, rfl, ?_⟩, HB1.out⟩
      have h := HA.out.2.2.2
      rw [List.take_of_length_le (by have := HA.out; have := Cc.out; omega)] at h
      rw [h]; rfl

set_option maxHeartbeats 1000000 in
set_option maxRecDepth 100000 in
theorem contains_some (g : Nat) (lb : Array Value) (p : S68 → Bool) (A0 : Option Addr) (c0 : Nat) (l0 : List S68) (w : World) (hr0 : Kd.C k68 w A0 l0.length l0)
    (eg : ∀ (args : Array Value) (w : World), (callFunc g args).run Try.prog w = .ok (.enter g args) w) (hp : Tells g lb p l0 w) :
    Calls Try.prog 94 #[.slice A0 l0.length c0, .func (.func g) #[] lb] w fun e w' => e = .returned (.bool (l0.any p)) ∧ Below w.heap.size w w' := by
  go_enter Try.func94, Try.ntmps94
  go_wp2_with fail
  refine (index_some g lb p A0 c0 l0 _ hr0 eg hp).mono ?_
  rintro e w' ⟨⟨r, rfl, hr⟩, hb⟩
  have HR := Aside0.mk hr
  clear hr
  go_wp2
  go_ret
  exact ⟨by rw [← HR.out]; rfl, hb⟩

def nodeOk (k n : Int) : Bool := decide (0 ≤ n) && decide (n ≤ 99) && (decide (k = 1) || decide (n = 0))
mutual
def okT : S68 → Bool
  | ⟨k, n, l⟩ => nodeOk k n && okL l
def okL : List S68 → Bool
  | [] => true
  | x :: l => okT x && okL l
end
theorem okL_all (l : List S68) : okL l = l.all okT := by
  induction l with
  | nil => rw [okL]; rfl
  | cons x l ih => rw [okL, ih]; rfl
theorem any_not (l : List S68) : (l.any fun x => !okT x) = !okL l := by
  rw [okL_all]
  induction l with
  | nil => rfl
  | cons x l ih => simp only [List.any_cons, List.all_cons, ih, Bool.not_and]
theorem okT_eq (x : S68) : okT x = (nodeOk x.f0 x.f1 && okL x.f2) := by cases x; rw [okT]

set_option maxHeartbeats 1000000 in
set_option maxRecDepth 100000 in
theorem lit_some (x : S68) (A : Option Addr) (c : Nat) (W : World) (hr : Kd.C k68 W A x.f2.length x.f2) (hc : x.f2.length ≤ c)
    (ih : ∀ (w : World), Kd.C k68 w A x.f2.length x.f2 → Calls Try.prog 88 #[.agg #[.int .i64 x.f0, .int .i64 x.f1, .slice A x.f2.length c]] w fun e w' => e = .returned (.bool (okT x)) ∧ Below w.heap.size w w') :
    Calls Try.prog 95 #[.agg #[.int .i64 x.f0, .int .i64 x.f1, .slice A x.f2.length c]] W fun e w' => e = .returned (.bool (!okT x)) ∧ Below W.heap.size W w' := by
  have hu68 := Try.underlying68
  have HR0 := Aside0.mk hr
  clear hr
  have HI := Aside0.mk ih
  clear ih
  have HB := Aside0.mk (Below.refl W.heap.size W)
  go_enter Try.func95, Try.ntmps95
  go_wp2_with (first | ((with_reducible refine gate_dst (N := 1) rfl ?_); refine box_event ?hg (N := 1) ?hd (cs := #[.int .i64 x.f0, .int .i64 x.f1, .slice A x.f2.length c]) (t := 68) ?hr ?_; (case hd => rfl); (case hg => rfl); (case hr => first | (go_simp; done) | (go_simp; rfl)); intro gb hg w5 hbox hb; have n0_ := Aside0.mk (below_step HB.out hb); have n1_ := Aside0.mk (hbox); clear HB; have HB := n0_; have BK := n1_; clear n0_ n1_; clear hb hbox hg; have hcz_0 : w5.cell? ⟨gb, 0, none⟩ = some (.int .i64 x.f0) := (blk_cell BK.out 0).trans rfl; have hcz_1 : w5.cell? ⟨gb, 1, none⟩ = some (.int .i64 x.f1) := (blk_cell BK.out 1).trans rfl; have hcz_2 : w5.cell? ⟨gb, 2, none⟩ = some (.slice A x.f2.length c) := (blk_cell BK.out 2).trans rfl; have hfz_0 := blk_frozen BK.out 0; have hfz_1 := blk_frozen BK.out 1; have hfz_2 := blk_frozen BK.out 2) | ((with_reducible refine gate_callee (f := 88) rfl ?_); refine goesL_ (some 4) rfl rfl Try.func88 (by kernel_rfl) rfl #[.agg #[.int .i64 x.f0, .int .i64 x.f1, .slice A x.f2.length c]] rfl (by (try simp only [List.map_toArray, List.map_cons, List.map_nil]); first | done | rfl) ?_; refine (HI.out _ (Kd.C_below HR0.out HB.out)).mono ?_; rintro e w7 ⟨rfl, hb⟩; refine ⟨_, rfl, ?_⟩; have n1_ := Aside0.mk (below_step HB.out hb); clear BK HB; have HB := n1_; clear n1_; clear hb))
  go_ret
  exact ⟨rfl, by repeat (first | (with_reducible first | exact HB.out | apply below_alloc | apply pw_below_drewN | apply below_drew1) | exact HB.out)⟩

set_option maxHeartbeats 2000000 in
set_option maxRecDepth 100000 in
theorem node_bad (a0 a1 : Int) (A : Option Addr) (c : Nat) (l : List S68) (w : World) (h : nodeOk a0 a1 = false) :
    Calls Try.prog 88 #[.agg #[.int .i64 a0, .int .i64 a1, .slice A l.length c]] w fun e w' => e = .returned (.bool false) ∧ Below w.heap.size w w' := by
  have hu68 := Try.underlying68
  have HB := Aside0.mk (Below.refl w.heap.size w)
  unfold nodeOk at h
  by_cases c1 : a1 < 0
  · have cb1 : decide (a1 < 0) = true := decide_eq_true c1
    clear h c1
    go_enter Try.func88, Try.ntmps88
    go_wp2_with ((with_reducible refine gate_dst (N := 1) rfl ?_); refine box_event ?hg (N := 1) ?hd (cs := #[.int .i64 a0, .int .i64 a1, .slice A l.length c]) (t := 68) ?hr ?_; (case hd => rfl); (case hg => rfl); (case hr => first | (go_simp; done) | (go_simp; rfl)); intro gb hg w5 hbox hb; have n0_ := Aside0.mk (below_step HB.out hb); have n1_ := Aside0.mk (hbox); clear HB; have HB := n0_; have BK := n1_; clear n0_ n1_; clear hb hbox hg; have hcz_0 : w5.cell? ⟨gb, 0, none⟩ = some (.int .i64 a0) := (blk_cell BK.out 0).trans rfl; have hcz_1 : w5.cell? ⟨gb, 1, none⟩ = some (.int .i64 a1) := (blk_cell BK.out 1).trans rfl; have hcz_2 : w5.cell? ⟨gb, 2, none⟩ = some (.slice A l.length c) := (blk_cell BK.out 2).trans rfl; have hfz_0 := blk_frozen BK.out 0; have hfz_1 := blk_frozen BK.out 1; have hfz_2 := blk_frozen BK.out 2)
    go_ret
    exact ⟨rfl, HB.out⟩
  · have cb1 : decide (a1 < 0) = false := decide_eq_false c1
    by_cases c2 : a1 > 99
    · have cb2 : decide (a1 > 99) = true := decide_eq_true c2
      clear h c1 c2
      go_enter Try.func88, Try.ntmps88
      go_wp2_with ((with_reducible refine gate_dst (N := 1) rfl ?_); refine box_event ?hg (N := 1) ?hd (cs := #[.int .i64 a0, .int .i64 a1, .slice A l.length c]) (t := 68) ?hr ?_; (case hd => rfl); (case hg => rfl); (case hr => first | (go_simp; done) | (go_simp; rfl)); intro gb hg w5 hbox hb; have n0_ := Aside0.mk (below_step HB.out hb); have n1_ := Aside0.mk (hbox); clear HB; have HB := n0_; have BK := n1_; clear n0_ n1_; clear hb hbox hg; have hcz_0 : w5.cell? ⟨gb, 0, none⟩ = some (.int .i64 a0) := (blk_cell BK.out 0).trans rfl; have hcz_1 : w5.cell? ⟨gb, 1, none⟩ = some (.int .i64 a1) := (blk_cell BK.out 1).trans rfl; have hcz_2 : w5.cell? ⟨gb, 2, none⟩ = some (.slice A l.length c) := (blk_cell BK.out 2).trans rfl; have hfz_0 := blk_frozen BK.out 0; have hfz_1 := blk_frozen BK.out 1; have hfz_2 := blk_frozen BK.out 2)
      go_ret
      exact ⟨rfl, HB.out⟩
    · have cb2 : decide (a1 > 99) = false := decide_eq_false c2
      have h3 : a0 ≠ 1 ∧ a1 ≠ 0 := by
        rw [decide_eq_true (show 0 ≤ a1 by omega), decide_eq_true (show a1 ≤ 99 by omega)] at h
        simp at h
        exact h
      obtain ⟨h3, h4⟩ := h3
      replace h3 : (a0 != 1) = true := bne_iff_ne.mpr h3
      replace h4 : (a1 != 0) = true := bne_iff_ne.mpr h4
      clear h c1 c2
      go_enter Try.func88, Try.ntmps88
      go_wp2_with ((with_reducible refine gate_dst (N := 1) rfl ?_); refine box_event ?hg (N := 1) ?hd (cs := #[.int .i64 a0, .int .i64 a1, .slice A l.length c]) (t := 68) ?hr ?_; (case hd => rfl); (case hg => rfl); (case hr => first | (go_simp; done) | (go_simp; rfl)); intro gb hg w5 hbox hb; have n0_ := Aside0.mk (below_step HB.out hb); have n1_ := Aside0.mk (hbox); clear HB; have HB := n0_; have BK := n1_; clear n0_ n1_; clear hb hbox hg; have hcz_0 : w5.cell? ⟨gb, 0, none⟩ = some (.int .i64 a0) := (blk_cell BK.out 0).trans rfl; have hcz_1 : w5.cell? ⟨gb, 1, none⟩ = some (.int .i64 a1) := (blk_cell BK.out 1).trans rfl; have hcz_2 : w5.cell? ⟨gb, 2, none⟩ = some (.slice A l.length c) := (blk_cell BK.out 2).trans rfl; have hfz_0 := blk_frozen BK.out 0; have hfz_1 := blk_frozen BK.out 1; have hfz_2 := blk_frozen BK.out 2)
      go_ret
      exact ⟨rfl, HB.out⟩
set_option maxHeartbeats 2000000 in
set_option maxRecDepth 100000 in
theorem node_good (a0 a1 : Int) (A : Option Addr) (c : Nat) (l : List S68) (w : World) (hr : Kd.C k68 w A l.length l) (hc : l.length ≤ c) (h : nodeOk a0 a1 = true)
    (ih : ∀ x ∈ l, ∀ (A : Option Addr) (c : Nat) (w : World), x.f2.length ≤ c → Kd.C k68 w A x.f2.length x.f2 → Calls Try.prog 88 #[.agg #[.int .i64 x.f0, .int .i64 x.f1, .slice A x.f2.length c]] w fun e w' => e = .returned (.bool (okT x)) ∧ Below w.heap.size w w') :
    Calls Try.prog 88 #[.agg #[.int .i64 a0, .int .i64 a1, .slice A l.length c]] w fun e w' => e = .returned (.bool (okL l)) ∧ Below w.heap.size w w' := by
  have hu68 := Try.underlying68
  have HR0 := Aside0.mk hr
  clear hr
  have eg := enters_ Try.func95 (by kernel_rfl) rfl
  have EG := Aside0.mk eg
  clear eg
  have HT : ∀ W, Below w.heap.size w W → Tells 95 #[] (fun x => !okT x) l W := by
    intro W hW W2 x A2 c2 hx hb hC hl
    have := lit_some x A2 c2 W2 hC hl (fun w3 h3 => ih x hx A2 c2 w3 hl h3)
    simpa using this
  have HI := Aside0.mk HT
  clear HT ih
  have HB := Aside0.mk (Below.refl w.heap.size w)
  have h1 : 0 ≤ a1 ∧ a1 ≤ 99 ∧ (a0 = 1 ∨ a1 = 0) := by
    unfold nodeOk at h
    simp at h
    omega
  clear h
  have cb1 : decide (a1 < 0) = false := decide_eq_false (by omega)
  have cb2 : decide (a1 > 99) = false := decide_eq_false (by omega)
  have key : (a0 = 1) ∨ (a0 ≠ 1 ∧ a1 = 0) := by omega
  clear h1
  rcases key with rfl | ⟨h3, rfl⟩
  · go_enter Try.func88, Try.ntmps88
    go_wp2_with (first | ((with_reducible refine gate_dst (N := 1) rfl ?_); refine box_event ?hg (N := 1) ?hd (cs := #[.int .i64 1, .int .i64 a1, .slice A l.length c]) (t := 68) ?hr ?_; (case hd => rfl); (case hg => rfl); (case hr => first | (go_simp; done) | (go_simp; rfl)); intro gb hg w5 hbox hb; have n0_ := Aside0.mk (below_step HB.out hb); have n1_ := Aside0.mk (hbox); clear HB; have HB := n0_; have BK := n1_; clear n0_ n1_; clear hb hbox hg; have hcz_0 : w5.cell? ⟨gb, 0, none⟩ = some (.int .i64 1) := (blk_cell BK.out 0).trans rfl; have hcz_1 : w5.cell? ⟨gb, 1, none⟩ = some (.int .i64 a1) := (blk_cell BK.out 1).trans rfl; have hcz_2 : w5.cell? ⟨gb, 2, none⟩ = some (.slice A l.length c) := (blk_cell BK.out 2).trans rfl; have hfz_0 := blk_frozen BK.out 0; have hfz_1 := blk_frozen BK.out 1; have hfz_2 := blk_frozen BK.out 2) | ((with_reducible refine gate_callee (f := 94) rfl ?_); refine goesL_ (some 23) rfl rfl Try.func94 (by kernel_rfl) rfl #[.slice A l.length c, .func (.func 95) #[] #[]] rfl (by (try simp only [List.map_toArray, List.map_cons, List.map_nil]); first | done | rfl) ?_; refine (contains_some 95 #[] (fun x => !okT x) A c l _ (Kd.C_below HR0.out HB.out) EG.out (HI.out _ HB.out)).mono ?_; rintro e w7 ⟨rfl, hb⟩; refine ⟨_, rfl, ?_⟩; have n1_ := Aside0.mk (below_step HB.out hb); clear BK HB; have HB := n1_; clear n1_; clear hb))
    go_ret
    exact ⟨by rw [any_not, Bool.not_not]; rfl, HB.out⟩
  · clear cb1 cb2
    replace h3 : (a0 != 1) = true := bne_iff_ne.mpr h3
    go_enter Try.func88, Try.ntmps88
    go_wp2_with (first | ((with_reducible refine gate_dst (N := 1) rfl ?_); refine box_event ?hg (N := 1) ?hd (cs := #[.int .i64 a0, .int .i64 0, .slice A l.length c]) (t := 68) ?hr ?_; (case hd => rfl); (case hg => rfl); (case hr => first | (go_simp; done) | (go_simp; rfl)); intro gb hg w5 hbox hb; have n0_ := Aside0.mk (below_step HB.out hb); have n1_ := Aside0.mk (hbox); clear HB; have HB := n0_; have BK := n1_; clear n0_ n1_; clear hb hbox hg; have hcz_0 : w5.cell? ⟨gb, 0, none⟩ = some (.int .i64 a0) := (blk_cell BK.out 0).trans rfl; have hcz_1 : w5.cell? ⟨gb, 1, none⟩ = some (.int .i64 0) := (blk_cell BK.out 1).trans rfl; have hcz_2 : w5.cell? ⟨gb, 2, none⟩ = some (.slice A l.length c) := (blk_cell BK.out 2).trans rfl; have hfz_0 := blk_frozen BK.out 0; have hfz_1 := blk_frozen BK.out 1; have hfz_2 := blk_frozen BK.out 2) | ((with_reducible refine gate_callee (f := 94) rfl ?_); refine goesL_ (some 23) rfl rfl Try.func94 (by kernel_rfl) rfl #[.slice A l.length c, .func (.func 95) #[] #[]] rfl (by (try simp only [List.map_toArray, List.map_cons, List.map_nil]); first | done | rfl) ?_; refine (contains_some 95 #[] (fun x => !okT x) A c l _ (Kd.C_below HR0.out HB.out) EG.out (HI.out _ HB.out)).mono ?_; rintro e w7 ⟨rfl, hb⟩; refine ⟨_, rfl, ?_⟩; have n1_ := Aside0.mk (below_step HB.out hb); clear BK HB; have HB := n1_; clear n1_; clear hb))
    go_ret
    exact ⟨by rw [any_not, Bool.not_not]; rfl, HB.out⟩

theorem all_some : ∀ (N : Nat) (a0 a1 : Int) (l : List S68) (A : Option Addr) (c : Nat) (w : World), SizeOf.sizeOf l ≤ N → l.length ≤ c → Kd.C k68 w A l.length l →
    Calls Try.prog 88 #[.agg #[.int .i64 a0, .int .i64 a1, .slice A l.length c]] w fun e w' => e = .returned (.bool (nodeOk a0 a1 && okL l)) ∧ Below w.heap.size w w' := by
  intro N
  induction N with
  | zero =>
    intro a0 a1 l A c w hN
    cases l with
    | nil => simp at hN
    | cons x l => simp at hN
  | succ N ih =>
    intro a0 a1 l A c w hN hl hC
    by_cases h : nodeOk a0 a1 = true
    · rw [h, Bool.true_and]
      refine node_good a0 a1 A c l w hC hl h fun x hx A2 c2 w2 hl2 hC2 => ?_
      rw [okT_eq]
      refine ih x.f0 x.f1 x.f2 A2 c2 w2 ?_ hl2 hC2
      have h1 := List.sizeOf_lt_of_mem hx
      have h2 : SizeOf.sizeOf x.f2 < SizeOf.sizeOf x := by cases x; simp; omega
      omega
    · replace h := Bool.eq_false_iff.mpr h
      rw [h, Bool.false_and]
      exact node_bad a0 a1 A c l w h
end Are68

def impl_term_areNumbers.f (k : Nat) (a0_0 : Int) (a0_1 : Int) (l0_2 : List (S68)) : Option (Bool) := some (Are68.nodeOk a0_0 a0_1 && Are68.okL l0_2)
theorem impl_term_areNumbers.calls (k : Nat) (a0_0 : Int) (a0_1 : Int) (A0_2 : Option Addr) (c0_2 : Nat) (l0_2 : List (S68)) (r : Bool) (w : World) (hr0_2 : Kd.C k68 w A0_2 l0_2.length l0_2) (hc0_2 : l0_2.length ≤ c0_2) (h : impl_term_areNumbers.f k a0_0 a0_1 l0_2 = some r) :
    Calls Try.prog 88 #[.agg #[.int .i64 a0_0, .int .i64 a0_1, .slice A0_2 l0_2.length c0_2]] w fun e w' => e = .returned (.bool r) ∧ Below w.heap.size w w' := by
  obtain rfl := Option.some.inj h
  exact Are68.all_some (SizeOf.sizeOf l0_2) a0_0 a0_1 l0_2 A0_2 c0_2 w (Nat.le_refl _) hc0_2 hr0_2
end Go.Proofs.Ytcjhhdecckcibaa.G

namespace Go.Proofs.Ytcjhhdecckcibaa.G
open Go.RowKit Go.Proofs.YtcjhhdecckcibaaW.PrintWords Go.Proofs.YtcjhhdecckcibaaW.PrintLast Go.Proofs.YtcjhhdecckcibaaW.PrintMore
attribute [local go_sem] max2_int min2_int max_two min_two max_three min_three max_four min_four   -- for this text's walks alone
set_option linter.unusedVariables false
set_option linter.unusedSimpArgs false

def impl_term_isGood.f (k : Nat) (a0_0 : Int) (a0_1 : Int) (l0_2 : List (S68)) : Option (Bool) := (impl_term_size.f k a0_0 a0_1 l0_2).bind fun t102 => (if t102 ≤ 150 then ((impl_term_depth.f k a0_0 a0_1 l0_2).bind fun t103 => (if t103 ≤ 40 then ((impl_term_areNumbers.f k a0_0 a0_1 l0_2).bind fun t104 => (some t104)) else (some false))) else (some false))
set_option maxHeartbeats 8000000 in
set_option maxRecDepth 100000 in
theorem impl_term_isGood.calls (k : Nat) (a0_0 : Int) (a0_1 : Int) (A0_2 : Option Addr) (c0_2 : Nat) (l0_2 : List (S68)) (r : Bool) (w : World) (hr0_2 : Kd.C k68 w A0_2 l0_2.length l0_2) (hc0_2 : l0_2.length ≤ c0_2) (h : impl_term_isGood.f k a0_0 a0_1 l0_2 = some r) :
    Calls Try.prog 66 #[.agg #[.int .i64 a0_0, .int .i64 a0_1, .slice A0_2 l0_2.length c0_2]] w fun e w' => e = .returned (.bool r) ∧ Below w.heap.size w w' := by
  have hu68 := Try.underlying68
  have HR0_2 := Aside0.mk hr0_2
  have HC0_2 := Aside0.mk hc0_2
  clear hr0_2 hc0_2
  have HB := Aside0.mk (Below.refl w.heap.size w)
  have H : ((impl_term_size.f k a0_0 a0_1 l0_2).bind fun t102 => (if t102 ≤ 150 then ((impl_term_depth.f k a0_0 a0_1 l0_2).bind fun t103 => (if t103 ≤ 40 then ((impl_term_areNumbers.f k a0_0 a0_1 l0_2).bind fun t104 => (some t104)) else (some false))) else (some false))) = some r := h
  clear h
  replace H := Option.bind_eq_some_iff.mp H
  obtain ⟨t102, A20, H⟩ := H
  replace H : (if t102 ≤ 150 then ((impl_term_depth.f k a0_0 a0_1 l0_2).bind fun t103 => (if t103 ≤ 40 then ((impl_term_areNumbers.f k a0_0 a0_1 l0_2).bind fun t104 => (some t104)) else (some false))) else (some false)) = some r := H
  have A2 := Aside0.mk A20
  clear A20
  by_cases c3 : t102 ≤ 150
  · rw [if_pos c3] at H
    have c3b0 : decide (t102 ≤ 150) = true := decide_eq_true c3
    clear c3
    replace H := Option.bind_eq_some_iff.mp H
    obtain ⟨t103, A40, H⟩ := H
    replace H : (if t103 ≤ 40 then ((impl_term_areNumbers.f k a0_0 a0_1 l0_2).bind fun t104 => (some t104)) else (some false)) = some r := H
    have A4 := Aside0.mk A40
    clear A40
    by_cases c5 : t103 ≤ 40
    · rw [if_pos c5] at H
      have c5b0 : decide (t103 ≤ 40) = true := decide_eq_true c5
      clear c5
      replace H := Option.bind_eq_some_iff.mp H
      obtain ⟨t104, A60, H⟩ := H
      replace H : (some t104) = some r := H
      have A6 := Aside0.mk A60
      clear A60
      obtain rfl := Option.some.inj H
      go_enter Try.func66, Try.ntmps66
      go_wp2_with (first | ((with_reducible refine gate_dst (N := 1) rfl ?_); refine box_event ?hg (N := 1) ?hd (cs := #[.int .i64 a0_0, .int .i64 a0_1, .slice A0_2 l0_2.length c0_2]) (t := 68) ?hr ?_; (case hd => rfl); (case hg => rfl); (case hr => first | (go_simp; done) | (go_simp; rfl)); intro gb101 hg w7 hbox hb; have n0_ := Aside0.mk (below_step (by repeat (first | (with_reducible first | exact HB.out | apply below_alloc | apply pw_below_drewN | apply below_drew1) | exact HB.out)) hb); have n1_ := Aside0.mk (hbox); have n2_ := Aside0.mk ((by rw [hg]; exact (below_size (by repeat (first | (with_reducible first | exact HB.out | apply below_alloc | apply pw_below_drewN | apply below_drew1) | exact HB.out))) : w.heap.size ≤ gb101)); have n3_ := Aside0.mk ((by rw [hg]; exact (below_size (by repeat (first | (with_reducible first | exact HB.out | apply below_alloc | apply pw_below_drewN | apply below_drew1) | exact HB.out))) : w.heap.size ≤ gb101)); clear HB; have HB := n0_; have BK101 := n1_; have GW101 := n2_; have GE101 := n3_; clear n0_ n1_ n2_ n3_; clear hb hbox hg; have hcz8_0 : w7.cell? ⟨gb101, 0, none⟩ = some (.int .i64 a0_0) := (blk_cell BK101.out 0).trans rfl; have hcz8_1 : w7.cell? ⟨gb101, 1, none⟩ = some (.int .i64 a0_1) := (blk_cell BK101.out 1).trans rfl; have hcz8_2 : w7.cell? ⟨gb101, 2, none⟩ = some (.slice A0_2 l0_2.length c0_2) := (blk_cell BK101.out 2).trans rfl; have hfz8_0 := blk_frozen BK101.out 0; have hfz8_1 := blk_frozen BK101.out 1; have hfz8_2 := blk_frozen BK101.out 2) | ((with_reducible refine gate_callee (f := 68) rfl ?_); refine goesL_ (some 4) rfl rfl Try.func68 (by kernel_rfl) rfl #[.agg #[.int .i64 a0_0, .int .i64 a0_1, .slice A0_2 l0_2.length c0_2]] rfl (by (try simp only [List.map_toArray, List.map_cons, List.map_nil]); first | done | rfl | (simp only [List.length_drop, List.length_take]; rfl)) ?_; (with_reducible refine (impl_term_size.calls k a0_0 a0_1 _ _ l0_2 t102 _ ?side1 ?side2 A2.out).mono ?_); (case side1 => repeat (first | exact (Kd.C_below HR0_2.out HB.out) | (with_reducible refine Kd.C_alloc ?_ _) | (with_reducible refine Kd.C_drewN ?_ _) | (with_reducible refine Kd.C_drew ?_))); (case side2 => exact HC0_2.out); rintro e w9 ⟨rfl, hb⟩; refine ⟨_, rfl, ?_⟩; have n0_ := Aside0.mk (blk_below (g := gb101) (o := .cells #[.int .i64 a0_0, .int .i64 a0_1, .slice A0_2 l0_2.length c0_2] 68 (0, 0)) (by (with_reducible repeat (first | refine blk_drewN ?_ _ | refine blk_drew ?_ | refine blk_alloc ?_ _)); exact BK101.out) hb); have n1_ := Aside0.mk (below_step (by repeat (first | (with_reducible first | exact HB.out | apply below_alloc | apply pw_below_drewN | apply below_drew1 | refine below_set ?_ GE101.out) | exact HB.out)) hb); clear BK101; clear HB; have BK101 := n0_; have HB := n1_; clear n0_ n1_; (try clear hb); (try clear hb2); (try clear hk); (try clear hi); have hcz10_0 : w9.cell? ⟨gb101, 0, none⟩ = some (.int .i64 a0_0) := (blk_cell BK101.out 0).trans rfl; have hcz10_1 : w9.cell? ⟨gb101, 1, none⟩ = some (.int .i64 a0_1) := (blk_cell BK101.out 1).trans rfl; have hcz10_2 : w9.cell? ⟨gb101, 2, none⟩ = some (.slice A0_2 l0_2.length c0_2) := (blk_cell BK101.out 2).trans rfl; have hfz10_0 := blk_frozen BK101.out 0; have hfz10_1 := blk_frozen BK101.out 1; have hfz10_2 := blk_frozen BK101.out 2) | (go_at_call 87; (with_reducible refine (impl_term_depth.calls k a0_0 a0_1 _ _ l0_2 t103 _ ?side1 ?side2 A4.out).mono ?_); (case side1 => repeat (first | exact (Kd.C_below HR0_2.out HB.out) | (with_reducible refine Kd.C_alloc ?_ _) | (with_reducible refine Kd.C_drewN ?_ _) | (with_reducible refine Kd.C_drew ?_))); (case side2 => exact HC0_2.out); rintro e w11 ⟨rfl, hb⟩; have n0_ := Aside0.mk (blk_below (g := gb101) (o := .cells #[.int .i64 a0_0, .int .i64 a0_1, .slice A0_2 l0_2.length c0_2] 68 (0, 0)) (by (with_reducible repeat (first | refine blk_drewN ?_ _ | refine blk_drew ?_ | refine blk_alloc ?_ _)); exact BK101.out) hb); have n1_ := Aside0.mk (below_step (by repeat (first | (with_reducible first | exact HB.out | apply below_alloc | apply pw_below_drewN | apply below_drew1 | refine below_set ?_ GE101.out) | exact HB.out)) hb); clear BK101; clear HB; have BK101 := n0_; have HB := n1_; clear n0_ n1_; (try clear hb); (try clear hb2); (try clear hk); (try clear hi); have hcz12_0 : w11.cell? ⟨gb101, 0, none⟩ = some (.int .i64 a0_0) := (blk_cell BK101.out 0).trans rfl; have hcz12_1 : w11.cell? ⟨gb101, 1, none⟩ = some (.int .i64 a0_1) := (blk_cell BK101.out 1).trans rfl; have hcz12_2 : w11.cell? ⟨gb101, 2, none⟩ = some (.slice A0_2 l0_2.length c0_2) := (blk_cell BK101.out 2).trans rfl; have hfz12_0 := blk_frozen BK101.out 0; have hfz12_1 := blk_frozen BK101.out 1; have hfz12_2 := blk_frozen BK101.out 2) | (go_at_call 88; (with_reducible refine (impl_term_areNumbers.calls k a0_0 a0_1 _ _ l0_2 t104 _ ?side1 ?side2 A6.out).mono ?_); (case side1 => repeat (first | exact (Kd.C_below HR0_2.out HB.out) | (with_reducible refine Kd.C_alloc ?_ _) | (with_reducible refine Kd.C_drewN ?_ _) | (with_reducible refine Kd.C_drew ?_))); (case side2 => exact HC0_2.out); rintro e w13 ⟨rfl, hb⟩; have n0_ := Aside0.mk (blk_below (g := gb101) (o := .cells #[.int .i64 a0_0, .int .i64 a0_1, .slice A0_2 l0_2.length c0_2] 68 (0, 0)) (by (with_reducible repeat (first | refine blk_drewN ?_ _ | refine blk_drew ?_ | refine blk_alloc ?_ _)); exact BK101.out) hb); have n1_ := Aside0.mk (below_step (by repeat (first | (with_reducible first | exact HB.out | apply below_alloc | apply pw_below_drewN | apply below_drew1 | refine below_set ?_ GE101.out) | exact HB.out)) hb); clear BK101; clear HB; have BK101 := n0_; have HB := n1_; clear n0_ n1_; (try clear hb); (try clear hb2); (try clear hk); (try clear hi)))
      go_ret
      exact ⟨by first | rfl | (simp [errW_none, errW_some] <;> rfl) | (simp [*, errW_none, errW_some] <;> rfl), by repeat (first | (with_reducible first | exact HB.out | apply below_alloc | apply pw_below_drewN | apply below_drew1 | refine below_set ?_ GE101.out) | exact HB.out)⟩
    · rw [if_neg c5] at H
      have c5b0 : decide (t103 ≤ 40) = false := decide_eq_false c5
      clear c5
      obtain rfl := Option.some.inj H
      go_enter Try.func66, Try.ntmps66
      go_wp2_with (first | ((with_reducible refine gate_dst (N := 1) rfl ?_); refine box_event ?hg (N := 1) ?hd (cs := #[.int .i64 a0_0, .int .i64 a0_1, .slice A0_2 l0_2.length c0_2]) (t := 68) ?hr ?_; (case hd => rfl); (case hg => rfl); (case hr => first | (go_simp; done) | (go_simp; rfl)); intro gb101 hg w14 hbox hb; have n0_ := Aside0.mk (below_step (by repeat (first | (with_reducible first | exact HB.out | apply below_alloc | apply pw_below_drewN | apply below_drew1) | exact HB.out)) hb); have n1_ := Aside0.mk (hbox); have n2_ := Aside0.mk ((by rw [hg]; exact (below_size (by repeat (first | (with_reducible first | exact HB.out | apply below_alloc | apply pw_below_drewN | apply below_drew1) | exact HB.out))) : w.heap.size ≤ gb101)); have n3_ := Aside0.mk ((by rw [hg]; exact (below_size (by repeat (first | (with_reducible first | exact HB.out | apply below_alloc | apply pw_below_drewN | apply below_drew1) | exact HB.out))) : w.heap.size ≤ gb101)); clear HB; have HB := n0_; have BK101 := n1_; have GW101 := n2_; have GE101 := n3_; clear n0_ n1_ n2_ n3_; clear hb hbox hg; have hcz15_0 : w14.cell? ⟨gb101, 0, none⟩ = some (.int .i64 a0_0) := (blk_cell BK101.out 0).trans rfl; have hcz15_1 : w14.cell? ⟨gb101, 1, none⟩ = some (.int .i64 a0_1) := (blk_cell BK101.out 1).trans rfl; have hcz15_2 : w14.cell? ⟨gb101, 2, none⟩ = some (.slice A0_2 l0_2.length c0_2) := (blk_cell BK101.out 2).trans rfl; have hfz15_0 := blk_frozen BK101.out 0; have hfz15_1 := blk_frozen BK101.out 1; have hfz15_2 := blk_frozen BK101.out 2) | ((with_reducible refine gate_callee (f := 68) rfl ?_); refine goesL_ (some 4) rfl rfl Try.func68 (by kernel_rfl) rfl #[.agg #[.int .i64 a0_0, .int .i64 a0_1, .slice A0_2 l0_2.length c0_2]] rfl (by (try simp only [List.map_toArray, List.map_cons, List.map_nil]); first | done | rfl | (simp only [List.length_drop, List.length_take]; rfl)) ?_; (with_reducible refine (impl_term_size.calls k a0_0 a0_1 _ _ l0_2 t102 _ ?side1 ?side2 A2.out).mono ?_); (case side1 => repeat (first | exact (Kd.C_below HR0_2.out HB.out) | (with_reducible refine Kd.C_alloc ?_ _) | (with_reducible refine Kd.C_drewN ?_ _) | (with_reducible refine Kd.C_drew ?_))); (case side2 => exact HC0_2.out); rintro e w16 ⟨rfl, hb⟩; refine ⟨_, rfl, ?_⟩; have n0_ := Aside0.mk (blk_below (g := gb101) (o := .cells #[.int .i64 a0_0, .int .i64 a0_1, .slice A0_2 l0_2.length c0_2] 68 (0, 0)) (by (with_reducible repeat (first | refine blk_drewN ?_ _ | refine blk_drew ?_ | refine blk_alloc ?_ _)); exact BK101.out) hb); have n1_ := Aside0.mk (below_step (by repeat (first | (with_reducible first | exact HB.out | apply below_alloc | apply pw_below_drewN | apply below_drew1 | refine below_set ?_ GE101.out) | exact HB.out)) hb); clear BK101; clear HB; have BK101 := n0_; have HB := n1_; clear n0_ n1_; (try clear hb); (try clear hb2); (try clear hk); (try clear hi); have hcz17_0 : w16.cell? ⟨gb101, 0, none⟩ = some (.int .i64 a0_0) := (blk_cell BK101.out 0).trans rfl; have hcz17_1 : w16.cell? ⟨gb101, 1, none⟩ = some (.int .i64 a0_1) := (blk_cell BK101.out 1).trans rfl; have hcz17_2 : w16.cell? ⟨gb101, 2, none⟩ = some (.slice A0_2 l0_2.length c0_2) := (blk_cell BK101.out 2).trans rfl; have hfz17_0 := blk_frozen BK101.out 0; have hfz17_1 := blk_frozen BK101.out 1; have hfz17_2 := blk_frozen BK101.out 2) | (go_at_call 87; (with_reducible refine (impl_term_depth.calls k a0_0 a0_1 _ _ l0_2 t103 _ ?side1 ?side2 A4.out).mono ?_); (case side1 => repeat (first | exact (Kd.C_below HR0_2.out HB.out) | (with_reducible refine Kd.C_alloc ?_ _) | (with_reducible refine Kd.C_drewN ?_ _) | (with_reducible refine Kd.C_drew ?_))); (case side2 => exact HC0_2.out); rintro e w18 ⟨rfl, hb⟩; have n0_ := Aside0.mk (blk_below (g := gb101) (o := .cells #[.int .i64 a0_0, .int .i64 a0_1, .slice A0_2 l0_2.length c0_2] 68 (0, 0)) (by (with_reducible repeat (first | refine blk_drewN ?_ _ | refine blk_drew ?_ | refine blk_alloc ?_ _)); exact BK101.out) hb); have n1_ := Aside0.mk (below_step (by repeat (first | (with_reducible first | exact HB.out | apply below_alloc | apply pw_below_drewN | apply below_drew1 | refine below_set ?_ GE101.out) | exact HB.out)) hb); clear BK101; clear HB; have BK101 := n0_; have HB := n1_; clear n0_ n1_; (try clear hb); (try clear hb2); (try clear hk); (try clear hi)))
      go_ret
      exact ⟨by first | rfl | (simp [errW_none, errW_some] <;> rfl) | (simp [*, errW_none, errW_some] <;> rfl), by repeat (first | (with_reducible first | exact HB.out | apply below_alloc | apply pw_below_drewN | apply below_drew1 | refine below_set ?_ GE101.out) | exact HB.out)⟩
  · rw [if_neg c3] at H
    have c3b0 : decide (t102 ≤ 150) = false := decide_eq_false c3
    clear c3
    obtain rfl := Option.some.inj H
    go_enter Try.func66, Try.ntmps66
    go_wp2_with (first | ((with_reducible refine gate_dst (N := 1) rfl ?_); refine box_event ?hg (N := 1) ?hd (cs := #[.int .i64 a0_0, .int .i64 a0_1, .slice A0_2 l0_2.length c0_2]) (t := 68) ?hr ?_; (case hd => rfl); (case hg => rfl); (case hr => first | (go_simp; done) | (go_simp; rfl)); intro gb101 hg w19 hbox hb; have n0_ := Aside0.mk (below_step (by repeat (first | (with_reducible first | exact HB.out | apply below_alloc | apply pw_below_drewN | apply below_drew1) | exact HB.out)) hb); have n1_ := Aside0.mk (hbox); have n2_ := Aside0.mk ((by rw [hg]; exact (below_size (by repeat (first | (with_reducible first | exact HB.out | apply below_alloc | apply pw_below_drewN | apply below_drew1) | exact HB.out))) : w.heap.size ≤ gb101)); have n3_ := Aside0.mk ((by rw [hg]; exact (below_size (by repeat (first | (with_reducible first | exact HB.out | apply below_alloc | apply pw_below_drewN | apply below_drew1) | exact HB.out))) : w.heap.size ≤ gb101)); clear HB; have HB := n0_; have BK101 := n1_; have GW101 := n2_; have GE101 := n3_; clear n0_ n1_ n2_ n3_; clear hb hbox hg; have hcz20_0 : w19.cell? ⟨gb101, 0, none⟩ = some (.int .i64 a0_0) := (blk_cell BK101.out 0).trans rfl; have hcz20_1 : w19.cell? ⟨gb101, 1, none⟩ = some (.int .i64 a0_1) := (blk_cell BK101.out 1).trans rfl; have hcz20_2 : w19.cell? ⟨gb101, 2, none⟩ = some (.slice A0_2 l0_2.length c0_2) := (blk_cell BK101.out 2).trans rfl; have hfz20_0 := blk_frozen BK101.out 0; have hfz20_1 := blk_frozen BK101.out 1; have hfz20_2 := blk_frozen BK101.out 2) | ((with_reducible refine gate_callee (f := 68) rfl ?_); refine goesL_ (some 4) rfl rfl Try.func68 (by kernel_rfl) rfl #[.agg #[.int .i64 a0_0, .int .i64 a0_1, .slice A0_2 l0_2.length c0_2]] rfl (by (try simp only [List.map_toArray, List.map_cons, List.map_nil]); first | done | rfl | (simp only [List.length_drop, List.length_take]; rfl)) ?_; (with_reducible refine (impl_term_size.calls k a0_0 a0_1 _ _ l0_2 t102 _ ?side1 ?side2 A2.out).mono ?_); (case side1 => repeat (first | exact (Kd.C_below HR0_2.out HB.out) | (with_reducible refine Kd.C_alloc ?_ _) | (with_reducible refine Kd.C_drewN ?_ _) | (with_reducible refine Kd.C_drew ?_))); (case side2 => exact HC0_2.out); rintro e w21 ⟨rfl, hb⟩; refine ⟨_, rfl, ?_⟩; have n0_ := Aside0.mk (blk_below (g := gb101) (o := .cells #[.int .i64 a0_0, .int .i64 a0_1, .slice A0_2 l0_2.length c0_2] 68 (0, 0)) (by (with_reducible repeat (first | refine blk_drewN ?_ _ | refine blk_drew ?_ | refine blk_alloc ?_ _)); exact BK101.out) hb); have n1_ := Aside0.mk (below_step (by repeat (first | (with_reducible first | exact HB.out | apply below_alloc | apply pw_below_drewN | apply below_drew1 | refine below_set ?_ GE101.out) | exact HB.out)) hb); clear BK101; clear HB; have BK101 := n0_; have HB := n1_; clear n0_ n1_; (try clear hb); (try clear hb2); (try clear hk); (try clear hi)))
    go_ret
    exact ⟨by first | rfl | (simp [errW_none, errW_some] <;> rfl) | (simp [*, errW_none, errW_some] <;> rfl), by repeat (first | (with_reducible first | exact HB.out | apply below_alloc | apply pw_below_drewN | apply below_drew1 | refine below_set ?_ GE101.out) | exact HB.out)⟩

end Go.Proofs.Ytcjhhdecckcibaa.G
