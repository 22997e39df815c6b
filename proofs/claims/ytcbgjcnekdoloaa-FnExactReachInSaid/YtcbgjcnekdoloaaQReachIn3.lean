/- Part 3 of 4 of the proof that the law FnExactReachInSaid holds: for every input that can be read the call returns true and leaves its arguments as they were; no condition but those each theorem names. -/
import Derived.Test.YtcbgjcnekdoloaaWWords
import Derived.Test.YtcbgjcnekdoloaaWMore
import Derived.Test.YtcbgjcnekdoloaaQReachIn1
import Derived.Test.YtcbgjcnekdoloaaQReachIn2
namespace Go.Proofs.Ytcbgjcnekdoloaa.G
open Go.RowKit Go.Proofs.YtcbgjcnekdoloaaW.PrintWords Go.Proofs.YtcbgjcnekdoloaaW.PrintLast Go.Proofs.YtcbgjcnekdoloaaW.PrintMore
attribute [local go_sem] max2_int min2_int max_two min_two max_three min_three max_four min_four   -- for this text's walks alone
set_option linter.unusedVariables false
set_option linter.unusedSimpArgs false

/-! ### laws_toHeap: function 9 -/
def laws_toHeap.f (k : Nat) (a0_0 : Int) (l0_1 : List (S59)) (l0_2 : List Int) : Option (Int × (List (S44)) × List Int) := (laws_toCellS.f k l0_1).bind fun t104 => ((laws_toIntS.f k l0_2).bind fun t107 => (some (a0_0, t104, t107)))
theorem laws_toHeap.mono : ∀ a0 a1 a2 k, LeO (laws_toHeap.f k a0 a1 a2) (laws_toHeap.f (k + 1) a0 a1 a2) := by
  intro a0 a1 a2 k
  unfold laws_toHeap.f
  repeat' first
      | (with_reducible exact laws_toCellS.mono _ _)
      | (with_reducible exact laws_toIntS.mono _ _)
      | (with_reducible exact LeO.refl _)
      | (with_reducible exact LeO.none _)
      | (with_reducible refine LeO.ite ?_ ?_)
      | (with_reducible refine LeO.bind ?_ (fun _ => ?_))
      | exact laws_toCellS.mono _ _
      | exact laws_toIntS.mono _ _
      | exact LeO.none _
      | refine LeO.ite ?_ ?_
      | refine LeO.bind ?_ (fun _ => ?_)
set_option maxHeartbeats 8000000 in
set_option maxRecDepth 100000 in
theorem laws_toHeap.calls (k : Nat) (a0_0 : Int) (A0_1 : Option Addr) (c0_1 : Nat) (l0_1 : List (S59)) (A0_2 : Option Addr) (c0_2 : Nat) (l0_2 : List Int) (r1 : Int) (r2 : List (S44)) (r3 : List Int) (w : World) (hr0_1 : Kd.C k59 w A0_1 l0_1.length l0_1) (hc0_1 : l0_1.length ≤ c0_1) (hr0_2 : Kd.C (Kd.int .i64) w A0_2 l0_2.length l0_2) (hc0_2 : l0_2.length ≤ c0_2) (h : laws_toHeap.f k a0_0 l0_1 l0_2 = some (r1, r2, r3)) :
    Calls Try.prog 9 #[.agg #[.int .i64 a0_0, .slice A0_1 l0_1.length c0_1, .slice A0_2 l0_2.length c0_2]] w fun e w' => ∃ v1_ v2_ : Value, e = .returned (.agg #[.int .i64 r1, v1_, v2_]) ∧ Kd.R k44 44 w' w.heap.size (fun _ => True) v1_ r2 ∧ Kd.R (Kd.int .i64) 3 w' w.heap.size (fun _ => True) v2_ r3 ∧ Below w.heap.size w w' := by
  have hu25 := Try.underlying25
  have hu30 := Try.underlying30
  have HR0_1 := Aside0.mk hr0_1
  have HC0_1 := Aside0.mk hc0_1
  clear hr0_1 hc0_1
  have HR0_2 := Aside0.mk hr0_2
  have HC0_2 := Aside0.mk hc0_2
  clear hr0_2 hc0_2
  have HB := Aside0.mk (Below.refl w.heap.size w)
  have H : ((laws_toCellS.f k l0_1).bind fun t104 => ((laws_toIntS.f k l0_2).bind fun t107 => (some (a0_0, t104, t107)))) = some (r1, r2, r3) := h
  clear h
  replace H := Option.bind_eq_some_iff.mp H
  obtain ⟨t104, A20, H⟩ := H
  replace H : ((laws_toIntS.f k l0_2).bind fun t107 => (some (a0_0, t104, t107))) = some (r1, r2, r3) := H
  have A2 := Aside0.mk A20
  clear A20
  replace H := Option.bind_eq_some_iff.mp H
  obtain ⟨t107, A30, H⟩ := H
  replace H : (some (a0_0, t104, t107)) = some (r1, r2, r3) := H
  have A3 := Aside0.mk A30
  clear A30
  simp only [Option.some.injEq, Prod.mk.injEq] at H
  obtain ⟨rfl, rfl, rfl⟩ := H
  go_enter Try.func9, Try.ntmps9
  go_wp2_with (first | ((with_reducible refine gate_dst (N := 1) rfl ?_); refine box_event ?hg (N := 1) ?hd (cs := #[.int .i64 a0_0, .slice A0_1 l0_1.length c0_1, .slice A0_2 l0_2.length c0_2]) (t := 25) ?hr ?_; (case hd => rfl); (case hg => rfl); (case hr => first | (go_simp; done) | (go_simp; rfl)); intro gb101 hg w4 hbox hb; have n0_ := Aside0.mk (below_step (by repeat (first | (with_reducible first | exact HB.out | apply below_alloc | apply pw_below_drewN | apply below_drew1) | exact HB.out)) hb); have n1_ := Aside0.mk (hbox); have n2_ := Aside0.mk ((by rw [hg]; exact (below_size (by repeat (first | (with_reducible first | exact HB.out | apply below_alloc | apply pw_below_drewN | apply below_drew1) | exact HB.out))) : w.heap.size ≤ gb101)); have n3_ := Aside0.mk ((by rw [hg]; exact (below_size (by repeat (first | (with_reducible first | exact HB.out | apply below_alloc | apply pw_below_drewN | apply below_drew1) | exact HB.out))) : w.heap.size ≤ gb101)); clear HB; have HB := n0_; have BK101 := n1_; have GW101 := n2_; have GE101 := n3_; clear n0_ n1_ n2_ n3_; clear hb hbox hg) | ((with_reducible refine gate_dst (N := 2) rfl ?_); refine box_event ?hg (N := 2) ?hd (cs := #[.int .i64 0, .slice none 0 0, .slice none 0 0]) (t := 30) ?hr ?_; (case hd => rfl); (case hg => rfl); (case hr => first | (go_simp; done) | (go_simp; rfl)); intro gb102 hg w5 hbox hb; have n0_ := Aside0.mk (blk_below (g := gb101) (o := .cells #[.int .i64 a0_0, .slice A0_1 l0_1.length c0_1, .slice A0_2 l0_2.length c0_2] 25 (0, 0)) (by (with_reducible repeat (first | refine blk_drewN ?_ _ | refine blk_drew ?_ | refine blk_alloc ?_ _)); exact BK101.out) hb); have n1_ := Aside0.mk (below_step (by repeat (first | (with_reducible first | exact HB.out | apply below_alloc | apply pw_below_drewN | apply below_drew1 | refine below_set ?_ GE101.out) | exact HB.out)) hb); have n2_ := Aside0.mk (hbox); have n3_ := Aside0.mk ((by rw [hg]; exact (below_size (by repeat (first | (with_reducible first | exact HB.out | apply below_alloc | apply pw_below_drewN | apply below_drew1 | refine below_set ?_ GE101.out) | exact HB.out))) : w.heap.size ≤ gb102)); have n4_ := Aside0.mk ((by rw [hg]; exact (below_size (by repeat (first | (with_reducible first | exact HB.out | apply below_alloc | apply pw_below_drewN | apply below_drew1 | refine below_set ?_ GE101.out) | exact HB.out))) : w.heap.size ≤ gb102)); have n5_ := Aside0.mk ((by rw [hg]; exact Nat.ne_of_lt (blk_lt (g := gb101) (o := .cells #[.int .i64 a0_0, .slice A0_1 l0_1.length c0_1, .slice A0_2 l0_2.length c0_2] 25 (0, 0)) (by (with_reducible repeat (first | refine blk_drewN ?_ _ | refine blk_drew ?_ | refine blk_alloc ?_ _)); exact BK101.out)) : gb101 ≠ gb102)); have n6_ := Aside0.mk ((by rw [hg]; exact Nat.ne_of_gt (blk_lt (g := gb101) (o := .cells #[.int .i64 a0_0, .slice A0_1 l0_1.length c0_1, .slice A0_2 l0_2.length c0_2] 25 (0, 0)) (by (with_reducible repeat (first | refine blk_drewN ?_ _ | refine blk_drew ?_ | refine blk_alloc ?_ _)); exact BK101.out)) : gb102 ≠ gb101)); clear BK101; clear HB; have BK101 := n0_; have HB := n1_; have BK102 := n2_; have GW102 := n3_; have GE102 := n4_; have NB101_102 := n5_; have NB102_101 := n6_; clear n0_ n1_ n2_ n3_ n4_ n5_ n6_; clear hb hbox hg) | ((with_reducible refine gate_dst (N := 3) rfl ?_); refine box_event ?hg (N := 3) ?hd (cs := #[.int .i64 0, .slice none 0 0, .slice none 0 0]) (t := 30) ?hr ?_; (case hd => rfl); (case hg => rfl); (case hr => first | (go_simp; done) | (go_simp; rfl)); intro gb103 hg w6 hbox hb; have n0_ := Aside0.mk (blk_below (g := gb101) (o := .cells #[.int .i64 a0_0, .slice A0_1 l0_1.length c0_1, .slice A0_2 l0_2.length c0_2] 25 (0, 0)) (by (with_reducible repeat (first | refine blk_drewN ?_ _ | refine blk_drew ?_ | refine blk_alloc ?_ _)); exact BK101.out) hb); have n1_ := Aside0.mk (blk_below (g := gb102) (o := .cells #[.int .i64 0, .slice none 0 0, .slice none 0 0] 30 (0, 0)) (by (with_reducible repeat (first | refine blk_drewN ?_ _ | refine blk_drew ?_ | refine blk_alloc ?_ _)); exact BK102.out) hb); have n2_ := Aside0.mk (below_step (by repeat (first | (with_reducible first | exact HB.out | apply below_alloc | apply pw_below_drewN | apply below_drew1 | refine below_set ?_ GE101.out | refine below_set ?_ GE102.out) | exact HB.out)) hb); have n3_ := Aside0.mk (hbox); have n4_ := Aside0.mk ((by rw [hg]; exact (below_size (by repeat (first | (with_reducible first | exact HB.out | apply below_alloc | apply pw_below_drewN | apply below_drew1 | refine below_set ?_ GE101.out | refine below_set ?_ GE102.out) | exact HB.out))) : w.heap.size ≤ gb103)); have n5_ := Aside0.mk ((by rw [hg]; exact (below_size (by repeat (first | (with_reducible first | exact HB.out | apply below_alloc | apply pw_below_drewN | apply below_drew1 | refine below_set ?_ GE101.out | refine below_set ?_ GE102.out) | exact HB.out))) : w.heap.size ≤ gb103)); have n6_ := Aside0.mk ((by rw [hg]; exact Nat.ne_of_lt (blk_lt (g := gb101) (o := .cells #[.int .i64 a0_0, .slice A0_1 l0_1.length c0_1, .slice A0_2 l0_2.length c0_2] 25 (0, 0)) (by (with_reducible repeat (first | refine blk_drewN ?_ _ | refine blk_drew ?_ | refine blk_alloc ?_ _)); exact BK101.out)) : gb101 ≠ gb103)); have n7_ := Aside0.mk ((by rw [hg]; exact Nat.ne_of_gt (blk_lt (g := gb101) (o := .cells #[.int .i64 a0_0, .slice A0_1 l0_1.length c0_1, .slice A0_2 l0_2.length c0_2] 25 (0, 0)) (by (with_reducible repeat (first | refine blk_drewN ?_ _ | refine blk_drew ?_ | refine blk_alloc ?_ _)); exact BK101.out)) : gb103 ≠ gb101)); have n8_ := Aside0.mk ((by rw [hg]; exact Nat.ne_of_lt (blk_lt (g := gb102) (o := .cells #[.int .i64 0, .slice none 0 0, .slice none 0 0] 30 (0, 0)) (by (with_reducible repeat (first | refine blk_drewN ?_ _ | refine blk_drew ?_ | refine blk_alloc ?_ _)); exact BK102.out)) : gb102 ≠ gb103)); have n9_ := Aside0.mk ((by rw [hg]; exact Nat.ne_of_gt (blk_lt (g := gb102) (o := .cells #[.int .i64 0, .slice none 0 0, .slice none 0 0] 30 (0, 0)) (by (with_reducible repeat (first | refine blk_drewN ?_ _ | refine blk_drew ?_ | refine blk_alloc ?_ _)); exact BK102.out)) : gb103 ≠ gb102)); clear BK101; clear BK102; clear HB; have BK101 := n0_; have BK102 := n1_; have HB := n2_; have BK103 := n3_; have GW103 := n4_; have GE103 := n5_; have NB101_103 := n6_; have NB103_101 := n7_; have NB102_103 := n8_; have NB103_102 := n9_; clear n0_ n1_ n2_ n3_ n4_ n5_ n6_ n7_ n8_ n9_; clear hb hbox hg; have hnb7 := NB101_102.out; have hnc7 := NB102_101.out; have hnb8 := NB101_103.out; have hnc8 := NB103_101.out; have hcz9_0 : w6.cell? ⟨gb101, 0, none⟩ = some (.int .i64 a0_0) := (blk_cell BK101.out 0).trans rfl; have hcz9_1 : w6.cell? ⟨gb101, 1, none⟩ = some (.slice A0_1 l0_1.length c0_1) := (blk_cell BK101.out 1).trans rfl; have hcz9_2 : w6.cell? ⟨gb101, 2, none⟩ = some (.slice A0_2 l0_2.length c0_2) := (blk_cell BK101.out 2).trans rfl; have hfz9_0 := blk_frozen BK101.out 0; have hfz9_1 := blk_frozen BK101.out 1; have hfz9_2 := blk_frozen BK101.out 2; have hnb10 := NB103_102.out; have hnc10 := NB102_103.out; have hcz11_0 : w6.cell? ⟨gb103, 0, none⟩ = some (.int .i64 0) := (blk_cell BK103.out 0).trans rfl; have hcz11_1 : w6.cell? ⟨gb103, 1, none⟩ = some (.slice none 0 0) := (blk_cell BK103.out 1).trans rfl; have hcz11_2 : w6.cell? ⟨gb103, 2, none⟩ = some (.slice none 0 0) := (blk_cell BK103.out 2).trans rfl; have hfz11_0 := blk_frozen BK103.out 0; have hfz11_1 := blk_frozen BK103.out 1; have hfz11_2 := blk_frozen BK103.out 2) | ((with_reducible refine gate_callee (f := 26) rfl ?_); refine goesL_ (some 9) rfl rfl Try.func26 (by kernel_rfl) rfl #[.slice A0_1 l0_1.length c0_1] rfl (by (try simp only [List.map_toArray, List.map_cons, List.map_nil]); first | done | rfl | (simp only [List.length_drop, List.length_take]; rfl)) ?_; (with_reducible refine (laws_toCellS.calls k _ _ l0_1 t104 _ ?side1 ?side2 A2.out).mono ?_); (case side1 => exact Kd.C_below HR0_1.out (by repeat (first | (with_reducible first | exact HB.out | apply below_alloc | apply pw_below_drewN | apply below_drew1 | refine below_set ?_ GE101.out | refine below_set ?_ GE102.out | refine below_set ?_ GE103.out) | exact HB.out))); (case side2 => exact HC0_1.out); rintro e w12 ⟨v105, rfl, ho0, hb⟩; refine ⟨_, rfl, ?_⟩; have n0_ := Aside0.mk (Kd.R_lower ho0 (below_size (by repeat (first | (with_reducible first | exact HB.out | apply below_alloc | apply pw_below_drewN | apply below_drew1 | refine below_set ?_ GE101.out | refine below_set ?_ GE102.out | refine below_set ?_ GE103.out) | exact HB.out)))); have n1_ := Aside0.mk (blk_below (g := gb101) (o := .cells #[.int .i64 a0_0, .slice A0_1 l0_1.length c0_1, .slice A0_2 l0_2.length c0_2] 25 (0, 0)) (by (with_reducible repeat (first | refine blk_drewN ?_ _ | refine blk_drew ?_ | refine blk_alloc ?_ _)); refine blk_far ?_ NB101_103.out _; (with_reducible repeat (first | refine blk_drewN ?_ _ | refine blk_drew ?_ | refine blk_alloc ?_ _)); exact BK101.out) hb); have n2_ := Aside0.mk (blk_below (g := gb102) (o := .cells #[.int .i64 0, .slice none 0 0, .slice none 0 0] 30 (0, 0)) (by (with_reducible repeat (first | refine blk_drewN ?_ _ | refine blk_drew ?_ | refine blk_alloc ?_ _)); refine blk_far ?_ NB102_103.out _; (with_reducible repeat (first | refine blk_drewN ?_ _ | refine blk_drew ?_ | refine blk_alloc ?_ _)); exact BK102.out) hb); have n3_ := Aside0.mk (blk_below (g := gb103) (o := .cells #[.int .i64 a0_0, .slice none 0 0, .slice none 0 0] 30 (0, 0)) (by (with_reducible repeat (first | refine blk_drewN ?_ _ | refine blk_drew ?_ | refine blk_alloc ?_ _)); refine blk_put (cs := #[.int .i64 0, .slice none 0 0, .slice none 0 0]) ?_ 0 _ rfl; (with_reducible repeat (first | refine blk_drewN ?_ _ | refine blk_drew ?_ | refine blk_alloc ?_ _)); exact BK103.out) hb); have n4_ := Aside0.mk (below_step (by repeat (first | (with_reducible first | exact HB.out | apply below_alloc | apply pw_below_drewN | apply below_drew1 | refine below_set ?_ GE101.out | refine below_set ?_ GE102.out | refine below_set ?_ GE103.out) | exact HB.out)) hb); clear BK101; clear BK102; clear BK103; clear HB; have HO106 := n0_; have BK101 := n1_; have BK102 := n2_; have BK103 := n3_; have HB := n4_; clear n0_ n1_ n2_ n3_ n4_; (try clear hb); (try clear hb2); (try clear hk); (try clear hi); (try clear ho0); obtain ⟨Ao13, co13, eo13⟩ := Kd.R_slice HO106.out; subst eo13; have hcz14_0 : w12.cell? ⟨gb103, 0, none⟩ = some (.int .i64 a0_0) := (blk_cell BK103.out 0).trans rfl; have hcz14_1 : w12.cell? ⟨gb103, 1, none⟩ = some (.slice none 0 0) := (blk_cell BK103.out 1).trans rfl; have hcz14_2 : w12.cell? ⟨gb103, 2, none⟩ = some (.slice none 0 0) := (blk_cell BK103.out 2).trans rfl; have hfz14_0 := blk_frozen BK103.out 0; have hfz14_1 := blk_frozen BK103.out 1; have hfz14_2 := blk_frozen BK103.out 2; have hcz15_0 : w12.cell? ⟨gb101, 0, none⟩ = some (.int .i64 a0_0) := (blk_cell BK101.out 0).trans rfl; have hcz15_1 : w12.cell? ⟨gb101, 1, none⟩ = some (.slice A0_1 l0_1.length c0_1) := (blk_cell BK101.out 1).trans rfl; have hcz15_2 : w12.cell? ⟨gb101, 2, none⟩ = some (.slice A0_2 l0_2.length c0_2) := (blk_cell BK101.out 2).trans rfl; have hfz15_0 := blk_frozen BK101.out 0; have hfz15_1 := blk_frozen BK101.out 1; have hfz15_2 := blk_frozen BK101.out 2) | ((with_reducible refine gate_callee (f := 27) rfl ?_); refine goesL_ (some 13) rfl rfl Try.func27 (by kernel_rfl) rfl #[.slice A0_2 l0_2.length c0_2] rfl (by (try simp only [List.map_toArray, List.map_cons, List.map_nil]); first | done | rfl | (simp only [List.length_drop, List.length_take]; rfl)) ?_; (with_reducible refine (laws_toIntS.calls k _ _ l0_2 t107 _ ?side1 ?side2 A3.out).mono ?_); (case side1 => exact Kd.C_below HR0_2.out (by repeat (first | (with_reducible first | exact HB.out | apply below_alloc | apply pw_below_drewN | apply below_drew1 | refine below_set ?_ GE101.out | refine below_set ?_ GE102.out | refine below_set ?_ GE103.out) | exact HB.out))); (case side2 => exact HC0_2.out); rintro e w16 ⟨v108, rfl, ho0, hb⟩; refine ⟨_, rfl, ?_⟩; have n0_ := Aside0.mk (Kd.R_below (by (with_reducible repeat (first | apply Kd.R_alloc | apply Kd.R_drewN | apply Kd.R_drew)); exact (Kd.R_mono (Kd.R_far (p := ⟨gb103, 1, none⟩) (Kd.R_types HO106.out BK103.out (by decide)) (fun _ hk => hk.2) (.slice Ao13 t104.length co13)) (fun _ h_ => h_.1))) hb); have n1_ := Aside0.mk (Kd.R_lower ho0 (below_size (by repeat (first | (with_reducible first | exact HB.out | apply below_alloc | apply pw_below_drewN | apply below_drew1 | refine below_set ?_ GE101.out | refine below_set ?_ GE102.out | refine below_set ?_ GE103.out) | exact HB.out)))); have n2_ := Aside0.mk (blk_below (g := gb101) (o := .cells #[.int .i64 a0_0, .slice A0_1 l0_1.length c0_1, .slice A0_2 l0_2.length c0_2] 25 (0, 0)) (by (with_reducible repeat (first | refine blk_drewN ?_ _ | refine blk_drew ?_ | refine blk_alloc ?_ _)); refine blk_far ?_ NB101_103.out _; (with_reducible repeat (first | refine blk_drewN ?_ _ | refine blk_drew ?_ | refine blk_alloc ?_ _)); exact BK101.out) hb); have n3_ := Aside0.mk (blk_below (g := gb102) (o := .cells #[.int .i64 0, .slice none 0 0, .slice none 0 0] 30 (0, 0)) (by (with_reducible repeat (first | refine blk_drewN ?_ _ | refine blk_drew ?_ | refine blk_alloc ?_ _)); refine blk_far ?_ NB102_103.out _; (with_reducible repeat (first | refine blk_drewN ?_ _ | refine blk_drew ?_ | refine blk_alloc ?_ _)); exact BK102.out) hb); have n4_ := Aside0.mk (blk_below (g := gb103) (o := .cells #[.int .i64 a0_0, .slice Ao13 t104.length co13, .slice none 0 0] 30 (0, 0)) (by (with_reducible repeat (first | refine blk_drewN ?_ _ | refine blk_drew ?_ | refine blk_alloc ?_ _)); refine blk_put (cs := #[.int .i64 a0_0, .slice none 0 0, .slice none 0 0]) ?_ 1 _ rfl; (with_reducible repeat (first | refine blk_drewN ?_ _ | refine blk_drew ?_ | refine blk_alloc ?_ _)); exact BK103.out) hb); have n5_ := Aside0.mk (below_step (by repeat (first | (with_reducible first | exact HB.out | apply below_alloc | apply pw_below_drewN | apply below_drew1 | refine below_set ?_ GE101.out | refine below_set ?_ GE102.out | refine below_set ?_ GE103.out) | exact HB.out)) hb); clear HO106; clear BK101; clear BK102; clear BK103; clear HB; have HO106 := n0_; have HO109 := n1_; have BK101 := n2_; have BK102 := n3_; have BK103 := n4_; have HB := n5_; clear n0_ n1_ n2_ n3_ n4_ n5_; (try clear hb); (try clear hb2); (try clear hk); (try clear hi); (try clear ho0); obtain ⟨Ao17, co17, eo17⟩ := Kd.R_slice HO109.out; subst eo17; have hcz18_0 : w16.cell? ⟨gb103, 0, none⟩ = some (.int .i64 a0_0) := (blk_cell BK103.out 0).trans rfl; have hcz18_1 : w16.cell? ⟨gb103, 1, none⟩ = some (.slice Ao13 t104.length co13) := (blk_cell BK103.out 1).trans rfl; have hcz18_2 : w16.cell? ⟨gb103, 2, none⟩ = some (.slice none 0 0) := (blk_cell BK103.out 2).trans rfl; have hfz18_0 := blk_frozen BK103.out 0; have hfz18_1 := blk_frozen BK103.out 1; have hfz18_2 := blk_frozen BK103.out 2; have hcz19_0 : w16.cell? ⟨gb102, 0, none⟩ = some (.int .i64 0) := (blk_cell BK102.out 0).trans rfl; have hcz19_1 : w16.cell? ⟨gb102, 1, none⟩ = some (.slice none 0 0) := (blk_cell BK102.out 1).trans rfl; have hcz19_2 : w16.cell? ⟨gb102, 2, none⟩ = some (.slice none 0 0) := (blk_cell BK102.out 2).trans rfl; have hfz19_0 := blk_frozen BK102.out 0; have hfz19_1 := blk_frozen BK102.out 1; have hfz19_2 := blk_frozen BK102.out 2))
  refine bodyPost_ret (results_cell_row rfl _ _ gb102 30 #[.int .i64 a0_0, .slice Ao13 t104.length co13, .slice Ao17 t107.length co17] (0, 0) _ rfl (by (with_reducible repeat (first | refine blk_drewN ?_ _ | refine blk_drew ?_ | refine blk_alloc ?_ _)); refine blk_put (cs := #[.int .i64 a0_0, .slice Ao13 t104.length co13, .slice none 0 0]) ?_ 2 _ rfl; (with_reducible repeat (first | refine blk_drewN ?_ _ | refine blk_drew ?_ | refine blk_alloc ?_ _)); refine blk_put (cs := #[.int .i64 a0_0, .slice none 0 0, .slice none 0 0]) ?_ 1 _ rfl; (with_reducible repeat (first | refine blk_drewN ?_ _ | refine blk_drew ?_ | refine blk_alloc ?_ _)); refine blk_put (cs := #[.int .i64 0, .slice none 0 0, .slice none 0 0]) ?_ 0 _ rfl; (with_reducible repeat (first | refine blk_drewN ?_ _ | refine blk_drew ?_ | refine blk_alloc ?_ _)); refine blk_far ?_ NB102_103.out _; (with_reducible repeat (first | refine blk_drewN ?_ _ | refine blk_drew ?_ | refine blk_alloc ?_ _)); exact BK102.out) Try.underlying30 rfl (by kernel_rfl)) rfl ?_
  exact ⟨_, _, by first | rfl | (simp [errW_none, errW_some] <;> rfl) | (simp [*, errW_none, errW_some] <;> rfl), by (with_reducible repeat (first | apply Kd.R_alloc | apply Kd.R_drewN | apply Kd.R_drew)); exact Kd.R_mono (Kd.R_far (p := ⟨gb102, 2, none⟩) (Kd.R_far (p := ⟨gb102, 1, none⟩) (Kd.R_far (p := ⟨gb102, 0, none⟩) (Kd.R_far (p := ⟨gb103, 2, none⟩) (Kd.R_types (Kd.R_types HO106.out BK103.out (by decide)) BK102.out (by decide)) (fun _ hk => hk.1.2) (.slice Ao17 t107.length co17)) (fun _ hk => hk.2) (.int .i64 a0_0)) (fun _ hk => hk.2) (.slice Ao13 t104.length co13)) (fun _ hk => hk.2) (.slice Ao17 t107.length co17)) (fun _ hk => trivial), by (with_reducible repeat (first | apply Kd.R_alloc | apply Kd.R_drewN | apply Kd.R_drew)); exact Kd.R_mono (Kd.R_far (p := ⟨gb102, 2, none⟩) (Kd.R_far (p := ⟨gb102, 1, none⟩) (Kd.R_far (p := ⟨gb102, 0, none⟩) (Kd.R_far (p := ⟨gb103, 2, none⟩) (Kd.R_types (Kd.R_types HO109.out BK103.out (by decide)) BK102.out (by decide)) (fun _ hk => hk.1.2) (.slice Ao17 t107.length co17)) (fun _ hk => hk.2) (.int .i64 a0_0)) (fun _ hk => hk.2) (.slice Ao13 t104.length co13)) (fun _ hk => hk.2) (.slice Ao17 t107.length co17)) (fun _ hk => trivial), by repeat (first | (with_reducible first | exact HB.out | apply below_alloc | apply pw_below_drewN | apply below_drew1 | refine below_set ?_ GE101.out | refine below_set ?_ GE102.out | refine below_set ?_ GE103.out) | exact HB.out)⟩

end Go.Proofs.Ytcbgjcnekdoloaa.G

namespace Go.Proofs.Ytcbgjcnekdoloaa.G
open Go.RowKit Go.Proofs.YtcbgjcnekdoloaaW.PrintWords Go.Proofs.YtcbgjcnekdoloaaW.PrintLast Go.Proofs.YtcbgjcnekdoloaaW.PrintMore
attribute [local go_sem] max2_int min2_int max_two min_two max_three min_three max_four min_four   -- for this text's walks alone
set_option linter.unusedVariables false
set_option linter.unusedSimpArgs false

/-! ### laws_FnExactReachIn: function 4 -/
mutual
def laws_FnExactReachIn.j0 : Nat → List Int → Bool → List Int → Bool → Bool → Int → List (S59) → List Int → Int → List (S44) → List Int → Option (Bool)
  | 0, _, _, _, _, _, _, _, _, _, _, _ => none
  | k + 1, x4, x5, x7, x8, x40, x102000, x102001, x102002, x122000, x122001, x122002 => if x40 = true then (some false) else ((laws_toHeap.f k x102000 x102001 x102002).bind fun bt127 => ((laws_eqHeap.f k x122000 x122001 x122002 bt127.1 bt127.2.1 bt127.2.2).bind fun t134 => (if t134 = true then ((laws_markHeap.f k x122000 x122001 x122002 1).bind fun bt135 => (if bt135.1 < 0 then (laws_FnExactReachIn.j1 k x4 x5 x7 true x102000 x102001 x102002) else ((laws_eqIntS.f k x7 x4).bind fun t138 => (if t138 = true then (laws_FnExactReachIn.j1 k x4 x5 x7 (x8 != x5) x102000 x102001 x102002) else (laws_FnExactReachIn.j1 k x4 x5 x7 true x102000 x102001 x102002))))) else (some false))))
def laws_FnExactReachIn.j1 : Nat → List Int → Bool → List Int → Bool → Int → List (S59) → List Int → Option (Bool)
  | 0, _, _, _, _, _, _, _ => none
  | k + 1, x4, x5, x7, x61, x102000, x102001, x102002 => if x61 = true then (some false) else ((laws_markIntS.f k x7 1).bind fun bt139 => ((laws_heldIntS.f k bt139.2 1).bind fun t141 => (if t141 < 0 then (some false) else (if t141 = bt139.1 then ((laws_toHeap.f k x102000 x102001 x102002).bind fun bt142 => ((impl_ReachIn.f k bt142.1 bt142.2.1 bt142.2.2).bind fun bt149 => ((laws_eqIntS.f k bt149.1 x4).bind fun t153 => (if t153 = true then (laws_FnExactReachIn.j2 k bt139.2 bt139.1 (bt149.2 != x5)) else (laws_FnExactReachIn.j2 k bt139.2 bt139.1 true))))) else (some false)))))
def laws_FnExactReachIn.j2 : Nat → List Int → Int → Bool → Option (Bool)
  | 0, _, _, _ => none
  | k + 1, x7, x10, x87 => if x87 = true then (some false) else ((laws_heldIntS.f k x7 1).bind fun t154 => (if t154 < 0 then (some false) else (if t154 = x10 then (some true) else (some false))))
end
def laws_FnExactReachIn.f (k : Nat) (a0_0 : Int) (l0_1 : List (S59)) (l0_2 : List Int) : Option (Bool) := (laws_szHeap.f a0_0 l0_1 l0_2 1048576).bind fun t102 => (if t102 < 0 then (some true) else ((laws_toHeap.f k a0_0 l0_1 l0_2).bind fun bt103 => ((spec_ReachIn.f k bt103.1 bt103.2.1 bt103.2.2).bind fun bt110 => ((laws_toHeap.f k a0_0 l0_1 l0_2).bind fun bt114 => ((impl_ReachIn.f k bt114.1 bt114.2.1 bt114.2.2).bind fun bt122 => ((laws_eqIntS.f k bt122.1 bt110.1).bind fun t126 => (if t126 = true then (laws_FnExactReachIn.j0 k bt110.1 bt110.2 bt122.1 bt122.2 (bt122.2 != bt110.2) a0_0 l0_1 l0_2 bt114.1 bt114.2.1 bt114.2.2) else (laws_FnExactReachIn.j0 k bt110.1 bt110.2 bt122.1 bt122.2 true a0_0 l0_1 l0_2 bt114.1 bt114.2.1 bt114.2.2))))))))
theorem laws_FnExactReachIn.mono_l : ∀ k, (∀ y0 y1 y2 y3 y4 y5 y6 y7 y8 y9 y10, LeO (laws_FnExactReachIn.j0 k y0 y1 y2 y3 y4 y5 y6 y7 y8 y9 y10) (laws_FnExactReachIn.j0 (k + 1) y0 y1 y2 y3 y4 y5 y6 y7 y8 y9 y10)) ∧ (∀ y0 y1 y2 y3 y4 y5 y6, LeO (laws_FnExactReachIn.j1 k y0 y1 y2 y3 y4 y5 y6) (laws_FnExactReachIn.j1 (k + 1) y0 y1 y2 y3 y4 y5 y6)) ∧ (∀ y0 y1 y2, LeO (laws_FnExactReachIn.j2 k y0 y1 y2) (laws_FnExactReachIn.j2 (k + 1) y0 y1 y2))
  | 0 => ⟨fun _ _ _ _ _ _ _ _ _ _ _ r h => by simp [laws_FnExactReachIn.j0] at h, fun _ _ _ _ _ _ _ r h => by simp [laws_FnExactReachIn.j1] at h, fun _ _ _ r h => by simp [laws_FnExactReachIn.j2] at h⟩
  | k + 1 => by
    obtain ⟨ih0, ih1, ih2⟩ := laws_FnExactReachIn.mono_l k
    refine ⟨?_, ?_, ?_⟩
    · intro y0 y1 y2 y3 y4 y5 y6 y7 y8 y9 y10
      unfold laws_FnExactReachIn.j0
      repeat' first
      | (with_reducible exact ih0 _ _ _ _ _ _ _ _ _ _ _)
      | (with_reducible exact ih1 _ _ _ _ _ _ _)
      | (with_reducible exact ih2 _ _ _)
      | (with_reducible exact impl_ReachIn.mono _ _ _ _)
      | (with_reducible exact laws_eqHeap.mono _ _ _ _ _ _ _)
      | (with_reducible exact laws_eqIntS.mono _ _ _)
      | (with_reducible exact laws_heldIntS.mono _ _ _)
      | (with_reducible exact laws_markHeap.mono _ _ _ _ _)
      | (with_reducible exact laws_markIntS.mono _ _ _)
      | (with_reducible exact laws_toHeap.mono _ _ _ _)
      | (with_reducible exact spec_ReachIn.mono _ _ _ _)
      | (with_reducible exact LeO.refl _)
      | (with_reducible exact LeO.none _)
      | (with_reducible refine LeO.ite ?_ ?_)
      | (with_reducible refine LeO.bind ?_ (fun _ => ?_))
      | exact ih0 _ _ _ _ _ _ _ _ _ _ _
      | exact ih1 _ _ _ _ _ _ _
      | exact ih2 _ _ _
      | exact impl_ReachIn.mono _ _ _ _
      | exact laws_eqHeap.mono _ _ _ _ _ _ _
      | exact laws_eqIntS.mono _ _ _
      | exact laws_heldIntS.mono _ _ _
      | exact laws_markHeap.mono _ _ _ _ _
      | exact laws_markIntS.mono _ _ _
      | exact laws_toHeap.mono _ _ _ _
      | exact spec_ReachIn.mono _ _ _ _
      | exact LeO.none _
      | refine LeO.ite ?_ ?_
      | refine LeO.bind ?_ (fun _ => ?_)
    · intro y0 y1 y2 y3 y4 y5 y6
      unfold laws_FnExactReachIn.j1
      repeat' first
      | (with_reducible exact ih0 _ _ _ _ _ _ _ _ _ _ _)
      | (with_reducible exact ih1 _ _ _ _ _ _ _)
      | (with_reducible exact ih2 _ _ _)
      | (with_reducible exact impl_ReachIn.mono _ _ _ _)
      | (with_reducible exact laws_eqHeap.mono _ _ _ _ _ _ _)
      | (with_reducible exact laws_eqIntS.mono _ _ _)
      | (with_reducible exact laws_heldIntS.mono _ _ _)
      | (with_reducible exact laws_markHeap.mono _ _ _ _ _)
      | (with_reducible exact laws_markIntS.mono _ _ _)
      | (with_reducible exact laws_toHeap.mono _ _ _ _)
      | (with_reducible exact spec_ReachIn.mono _ _ _ _)
      | (with_reducible exact LeO.refl _)
      | (with_reducible exact LeO.none _)
      | (with_reducible refine LeO.ite ?_ ?_)
      | (with_reducible refine LeO.bind ?_ (fun _ => ?_))
      | exact ih0 _ _ _ _ _ _ _ _ _ _ _
      | exact ih1 _ _ _ _ _ _ _
      | exact ih2 _ _ _
      | exact impl_ReachIn.mono _ _ _ _
      | exact laws_eqHeap.mono _ _ _ _ _ _ _
      | exact laws_eqIntS.mono _ _ _
      | exact laws_heldIntS.mono _ _ _
      | exact laws_markHeap.mono _ _ _ _ _
      | exact laws_markIntS.mono _ _ _
      | exact laws_toHeap.mono _ _ _ _
      | exact spec_ReachIn.mono _ _ _ _
      | exact LeO.none _
      | refine LeO.ite ?_ ?_
      | refine LeO.bind ?_ (fun _ => ?_)
    · intro y0 y1 y2
      unfold laws_FnExactReachIn.j2
      repeat' first
      | (with_reducible exact ih0 _ _ _ _ _ _ _ _ _ _ _)
      | (with_reducible exact ih1 _ _ _ _ _ _ _)
      | (with_reducible exact ih2 _ _ _)
      | (with_reducible exact impl_ReachIn.mono _ _ _ _)
      | (with_reducible exact laws_eqHeap.mono _ _ _ _ _ _ _)
      | (with_reducible exact laws_eqIntS.mono _ _ _)
      | (with_reducible exact laws_heldIntS.mono _ _ _)
      | (with_reducible exact laws_markHeap.mono _ _ _ _ _)
      | (with_reducible exact laws_markIntS.mono _ _ _)
      | (with_reducible exact laws_toHeap.mono _ _ _ _)
      | (with_reducible exact spec_ReachIn.mono _ _ _ _)
      | (with_reducible exact LeO.refl _)
      | (with_reducible exact LeO.none _)
      | (with_reducible refine LeO.ite ?_ ?_)
      | (with_reducible refine LeO.bind ?_ (fun _ => ?_))
      | exact ih0 _ _ _ _ _ _ _ _ _ _ _
      | exact ih1 _ _ _ _ _ _ _
      | exact ih2 _ _ _
      | exact impl_ReachIn.mono _ _ _ _
      | exact laws_eqHeap.mono _ _ _ _ _ _ _
      | exact laws_eqIntS.mono _ _ _
      | exact laws_heldIntS.mono _ _ _
      | exact laws_markHeap.mono _ _ _ _ _
      | exact laws_markIntS.mono _ _ _
      | exact laws_toHeap.mono _ _ _ _
      | exact spec_ReachIn.mono _ _ _ _
      | exact LeO.none _
      | refine LeO.ite ?_ ?_
      | refine LeO.bind ?_ (fun _ => ?_)
theorem laws_FnExactReachIn.mono : ∀ a0 a1 a2 k, LeO (laws_FnExactReachIn.f k a0 a1 a2) (laws_FnExactReachIn.f (k + 1) a0 a1 a2) := by
  intro a0 a1 a2 k
  obtain ⟨ih0, ih1, ih2⟩ := laws_FnExactReachIn.mono_l k
  unfold laws_FnExactReachIn.f
  repeat' first
      | (with_reducible exact ih0 _ _ _ _ _ _ _ _ _ _ _)
      | (with_reducible exact ih1 _ _ _ _ _ _ _)
      | (with_reducible exact ih2 _ _ _)
      | (with_reducible exact impl_ReachIn.mono _ _ _ _)
      | (with_reducible exact laws_eqHeap.mono _ _ _ _ _ _ _)
      | (with_reducible exact laws_eqIntS.mono _ _ _)
      | (with_reducible exact laws_heldIntS.mono _ _ _)
      | (with_reducible exact laws_markHeap.mono _ _ _ _ _)
      | (with_reducible exact laws_markIntS.mono _ _ _)
      | (with_reducible exact laws_toHeap.mono _ _ _ _)
      | (with_reducible exact spec_ReachIn.mono _ _ _ _)
      | (with_reducible exact LeO.refl _)
      | (with_reducible exact LeO.none _)
      | (with_reducible refine LeO.ite ?_ ?_)
      | (with_reducible refine LeO.bind ?_ (fun _ => ?_))
      | exact ih0 _ _ _ _ _ _ _ _ _ _ _
      | exact ih1 _ _ _ _ _ _ _
      | exact ih2 _ _ _
      | exact impl_ReachIn.mono _ _ _ _
      | exact laws_eqHeap.mono _ _ _ _ _ _ _
      | exact laws_eqIntS.mono _ _ _
      | exact laws_heldIntS.mono _ _ _
      | exact laws_markHeap.mono _ _ _ _ _
      | exact laws_markIntS.mono _ _ _
      | exact laws_toHeap.mono _ _ _ _
      | exact spec_ReachIn.mono _ _ _ _
      | exact LeO.none _
      | refine LeO.ite ?_ ?_
      | refine LeO.bind ?_ (fun _ => ?_)
set_option maxHeartbeats 8000000 in
set_option maxRecDepth 100000 in
theorem laws_FnExactReachIn.calls (k : Nat) (a0_0 : Int) (A0_1 : Option Addr) (c0_1 : Nat) (l0_1 : List (S59)) (A0_2 : Option Addr) (c0_2 : Nat) (l0_2 : List Int) (r : Bool) (w : World) (hr0_1 : Kd.C k59 w A0_1 l0_1.length l0_1) (hc0_1 : l0_1.length ≤ c0_1) (hr0_2 : Kd.C (Kd.int .i64) w A0_2 l0_2.length l0_2) (hc0_2 : l0_2.length ≤ c0_2) (h : laws_FnExactReachIn.f k a0_0 l0_1 l0_2 = some r) :
    Calls Try.prog 4 #[.agg #[.int .i64 a0_0, .slice A0_1 l0_1.length c0_1, .slice A0_2 l0_2.length c0_2]] w fun e w' => e = .returned (.bool r) ∧ Below w.heap.size w w' := by
  have hu25 := Try.underlying25
  have hu30 := Try.underlying30
  have HR0_1 := Aside0.mk hr0_1
  have HC0_1 := Aside0.mk hc0_1
  clear hr0_1 hc0_1
  have HR0_2 := Aside0.mk hr0_2
  have HC0_2 := Aside0.mk hc0_2
  clear hr0_2 hc0_2
  have HB := Aside0.mk (Below.refl w.heap.size w)
  have H : ((laws_szHeap.f a0_0 l0_1 l0_2 1048576).bind fun t102 => (if t102 < 0 then (some true) else ((laws_toHeap.f k a0_0 l0_1 l0_2).bind fun bt103 => ((spec_ReachIn.f k bt103.1 bt103.2.1 bt103.2.2).bind fun bt110 => ((laws_toHeap.f k a0_0 l0_1 l0_2).bind fun bt114 => ((impl_ReachIn.f k bt114.1 bt114.2.1 bt114.2.2).bind fun bt122 => ((laws_eqIntS.f k bt122.1 bt110.1).bind fun t126 => (if t126 = true then (laws_FnExactReachIn.j0 k bt110.1 bt110.2 bt122.1 bt122.2 (bt122.2 != bt110.2) a0_0 l0_1 l0_2 bt114.1 bt114.2.1 bt114.2.2) else (laws_FnExactReachIn.j0 k bt110.1 bt110.2 bt122.1 bt122.2 true a0_0 l0_1 l0_2 bt114.1 bt114.2.1 bt114.2.2))))))))) = some r := h
  clear h
  replace H := Option.bind_eq_some_iff.mp H
  obtain ⟨t102, A20, H⟩ := H
  replace H : (if t102 < 0 then (some true) else ((laws_toHeap.f k a0_0 l0_1 l0_2).bind fun bt103 => ((spec_ReachIn.f k bt103.1 bt103.2.1 bt103.2.2).bind fun bt110 => ((laws_toHeap.f k a0_0 l0_1 l0_2).bind fun bt114 => ((impl_ReachIn.f k bt114.1 bt114.2.1 bt114.2.2).bind fun bt122 => ((laws_eqIntS.f k bt122.1 bt110.1).bind fun t126 => (if t126 = true then (laws_FnExactReachIn.j0 k bt110.1 bt110.2 bt122.1 bt122.2 (bt122.2 != bt110.2) a0_0 l0_1 l0_2 bt114.1 bt114.2.1 bt114.2.2) else (laws_FnExactReachIn.j0 k bt110.1 bt110.2 bt122.1 bt122.2 true a0_0 l0_1 l0_2 bt114.1 bt114.2.1 bt114.2.2)))))))) = some r := H
  have A2 := Aside0.mk A20
  clear A20
  by_cases c3 : t102 < 0
  · rw [if_pos c3] at H
    have c3b0 : decide (t102 < 0) = true := decide_eq_true c3
    clear c3
    obtain rfl := Option.some.inj H
    go_enter Try.func4, Try.ntmps4
    go_wp2_with (first | ((with_reducible refine gate_dst (N := 1) rfl ?_); refine box_event ?hg (N := 1) ?hd (cs := #[.int .i64 a0_0, .slice A0_1 l0_1.length c0_1, .slice A0_2 l0_2.length c0_2]) (t := 25) ?hr ?_; (case hd => rfl); (case hg => rfl); (case hr => first | (go_simp; done) | (go_simp; rfl)); intro gb101 hg w4 hbox hb; have n0_ := Aside0.mk (below_step (by repeat (first | (with_reducible first | exact HB.out | apply below_alloc | apply pw_below_drewN | apply below_drew1) | exact HB.out)) hb); have n1_ := Aside0.mk (hbox); have n2_ := Aside0.mk ((by rw [hg]; exact (below_size (by repeat (first | (with_reducible first | exact HB.out | apply below_alloc | apply pw_below_drewN | apply below_drew1) | exact HB.out))) : w.heap.size ≤ gb101)); have n3_ := Aside0.mk ((by rw [hg]; exact (below_size (by repeat (first | (with_reducible first | exact HB.out | apply below_alloc | apply pw_below_drewN | apply below_drew1) | exact HB.out))) : w.heap.size ≤ gb101)); clear HB; have HB := n0_; have BK101 := n1_; have GW101 := n2_; have GE101 := n3_; clear n0_ n1_ n2_ n3_; clear hb hbox hg; have hcz5_0 : w4.cell? ⟨gb101, 0, none⟩ = some (.int .i64 a0_0) := (blk_cell BK101.out 0).trans rfl; have hcz5_1 : w4.cell? ⟨gb101, 1, none⟩ = some (.slice A0_1 l0_1.length c0_1) := (blk_cell BK101.out 1).trans rfl; have hcz5_2 : w4.cell? ⟨gb101, 2, none⟩ = some (.slice A0_2 l0_2.length c0_2) := (blk_cell BK101.out 2).trans rfl; have hfz5_0 := blk_frozen BK101.out 0; have hfz5_1 := blk_frozen BK101.out 1; have hfz5_2 := blk_frozen BK101.out 2) | ((with_reducible refine gate_callee (f := 7) rfl ?_); refine goesL_ (some 16) rfl rfl Try.func7 (by kernel_rfl) rfl #[.agg #[.int .i64 a0_0, .slice A0_1 l0_1.length c0_1, .slice A0_2 l0_2.length c0_2], .int .i64 1048576] rfl (by (try simp only [List.map_toArray, List.map_cons, List.map_nil]); first | done | rfl | (simp only [List.length_drop, List.length_take]; rfl)) ?_; (with_reducible refine (laws_szHeap.calls a0_0 _ _ l0_1 _ _ l0_2 1048576 t102 _ ?side1 ?side2 ?side3 ?side4 A2.out).mono ?_); (case side1 => repeat (first | exact (Kd.C_below HR0_1.out HB.out) | (with_reducible refine Kd.C_alloc ?_ _) | (with_reducible refine Kd.C_drewN ?_ _) | (with_reducible refine Kd.C_drew ?_))); (case side2 => exact HC0_1.out); (case side3 => repeat (first | exact (Kd.C_below HR0_2.out HB.out) | (with_reducible refine Kd.C_alloc ?_ _) | (with_reducible refine Kd.C_drewN ?_ _) | (with_reducible refine Kd.C_drew ?_))); (case side4 => exact HC0_2.out); rintro e w6 ⟨rfl, hb⟩; refine ⟨_, rfl, ?_⟩; have n0_ := Aside0.mk (blk_below (g := gb101) (o := .cells #[.int .i64 a0_0, .slice A0_1 l0_1.length c0_1, .slice A0_2 l0_2.length c0_2] 25 (0, 0)) (by (with_reducible repeat (first | refine blk_drewN ?_ _ | refine blk_drew ?_ | refine blk_alloc ?_ _)); exact BK101.out) hb); have n1_ := Aside0.mk (below_step (by repeat (first | (with_reducible first | exact HB.out | apply below_alloc | apply pw_below_drewN | apply below_drew1 | refine below_set ?_ GE101.out) | exact HB.out)) hb); clear BK101; clear HB; have BK101 := n0_; have HB := n1_; clear n0_ n1_; (try clear hb); (try clear hb2); (try clear hk); (try clear hi)))
    go_ret
    exact ⟨by first | rfl | (simp [errW_none, errW_some] <;> rfl) | (simp [*, errW_none, errW_some] <;> rfl), by repeat (first | (with_reducible first | exact HB.out | apply below_alloc | apply pw_below_drewN | apply below_drew1 | refine below_set ?_ GE101.out) | exact HB.out)⟩
  · rw [if_neg c3] at H
    have c3b0 : decide (t102 < 0) = false := decide_eq_false c3
    clear c3
    replace H := Option.bind_eq_some_iff.mp H
    obtain ⟨⟨t103, t104, t107⟩, A70, H⟩ := H
    replace H : ((spec_ReachIn.f k t103 t104 t107).bind fun bt110 => ((laws_toHeap.f k a0_0 l0_1 l0_2).bind fun bt114 => ((impl_ReachIn.f k bt114.1 bt114.2.1 bt114.2.2).bind fun bt122 => ((laws_eqIntS.f k bt122.1 bt110.1).bind fun t126 => (if t126 = true then (laws_FnExactReachIn.j0 k bt110.1 bt110.2 bt122.1 bt122.2 (bt122.2 != bt110.2) a0_0 l0_1 l0_2 bt114.1 bt114.2.1 bt114.2.2) else (laws_FnExactReachIn.j0 k bt110.1 bt110.2 bt122.1 bt122.2 true a0_0 l0_1 l0_2 bt114.1 bt114.2.1 bt114.2.2)))))) = some r := H
    have A7 := Aside0.mk A70
    clear A70
    replace H := Option.bind_eq_some_iff.mp H
    obtain ⟨⟨t110, t113⟩, A80, H⟩ := H
    replace H : ((laws_toHeap.f k a0_0 l0_1 l0_2).bind fun bt114 => ((impl_ReachIn.f k bt114.1 bt114.2.1 bt114.2.2).bind fun bt122 => ((laws_eqIntS.f k bt122.1 t110).bind fun t126 => (if t126 = true then (laws_FnExactReachIn.j0 k t110 t113 bt122.1 bt122.2 (bt122.2 != t113) a0_0 l0_1 l0_2 bt114.1 bt114.2.1 bt114.2.2) else (laws_FnExactReachIn.j0 k t110 t113 bt122.1 bt122.2 true a0_0 l0_1 l0_2 bt114.1 bt114.2.1 bt114.2.2))))) = some r := H
    have A8 := Aside0.mk A80
    clear A80
    replace H := Option.bind_eq_some_iff.mp H
    obtain ⟨⟨t114, t115, t118⟩, A90, H⟩ := H
    replace H : ((impl_ReachIn.f k t114 t115 t118).bind fun bt122 => ((laws_eqIntS.f k bt122.1 t110).bind fun t126 => (if t126 = true then (laws_FnExactReachIn.j0 k t110 t113 bt122.1 bt122.2 (bt122.2 != t113) a0_0 l0_1 l0_2 t114 t115 t118) else (laws_FnExactReachIn.j0 k t110 t113 bt122.1 bt122.2 true a0_0 l0_1 l0_2 t114 t115 t118)))) = some r := H
    have A9 := Aside0.mk A90
    clear A90
    replace H := Option.bind_eq_some_iff.mp H
    obtain ⟨⟨t122, t125⟩, A100, H⟩ := H
    replace H : ((laws_eqIntS.f k t122 t110).bind fun t126 => (if t126 = true then (laws_FnExactReachIn.j0 k t110 t113 t122 t125 (t125 != t113) a0_0 l0_1 l0_2 t114 t115 t118) else (laws_FnExactReachIn.j0 k t110 t113 t122 t125 true a0_0 l0_1 l0_2 t114 t115 t118))) = some r := H
    have A10 := Aside0.mk A100
    clear A100
    have HC11 := Aside0.mk H
    clear H
    go_enter Try.func4, Try.ntmps4
    go_upto_region 8 with (first | ((with_reducible refine gate_dst (N := 1) rfl ?_); refine box_event ?hg (N := 1) ?hd (cs := #[.int .i64 a0_0, .slice A0_1 l0_1.length c0_1, .slice A0_2 l0_2.length c0_2]) (t := 25) ?hr ?_; (case hd => rfl); (case hg => rfl); (case hr => first | (go_simp; done) | (go_simp; rfl)); intro gb101 hg w12 hbox hb; have n0_ := Aside0.mk (below_step (by repeat (first | (with_reducible first | exact HB.out | apply below_alloc | apply pw_below_drewN | apply below_drew1) | exact HB.out)) hb); have n1_ := Aside0.mk (hbox); have n2_ := Aside0.mk ((by rw [hg]; exact (below_size (by repeat (first | (with_reducible first | exact HB.out | apply below_alloc | apply pw_below_drewN | apply below_drew1) | exact HB.out))) : w.heap.size ≤ gb101)); have n3_ := Aside0.mk ((by rw [hg]; exact (below_size (by repeat (first | (with_reducible first | exact HB.out | apply below_alloc | apply pw_below_drewN | apply below_drew1) | exact HB.out))) : w.heap.size ≤ gb101)); clear HB; have HB := n0_; have BK101 := n1_; have GW101 := n2_; have GE101 := n3_; clear n0_ n1_ n2_ n3_; clear hb hbox hg; have hcz13_0 : w12.cell? ⟨gb101, 0, none⟩ = some (.int .i64 a0_0) := (blk_cell BK101.out 0).trans rfl; have hcz13_1 : w12.cell? ⟨gb101, 1, none⟩ = some (.slice A0_1 l0_1.length c0_1) := (blk_cell BK101.out 1).trans rfl; have hcz13_2 : w12.cell? ⟨gb101, 2, none⟩ = some (.slice A0_2 l0_2.length c0_2) := (blk_cell BK101.out 2).trans rfl; have hfz13_0 := blk_frozen BK101.out 0; have hfz13_1 := blk_frozen BK101.out 1; have hfz13_2 := blk_frozen BK101.out 2) | ((with_reducible refine gate_callee (f := 7) rfl ?_); refine goesL_ (some 16) rfl rfl Try.func7 (by kernel_rfl) rfl #[.agg #[.int .i64 a0_0, .slice A0_1 l0_1.length c0_1, .slice A0_2 l0_2.length c0_2], .int .i64 1048576] rfl (by (try simp only [List.map_toArray, List.map_cons, List.map_nil]); first | done | rfl | (simp only [List.length_drop, List.length_take]; rfl)) ?_; (with_reducible refine (laws_szHeap.calls a0_0 _ _ l0_1 _ _ l0_2 1048576 t102 _ ?side1 ?side2 ?side3 ?side4 A2.out).mono ?_); (case side1 => repeat (first | exact (Kd.C_below HR0_1.out HB.out) | (with_reducible refine Kd.C_alloc ?_ _) | (with_reducible refine Kd.C_drewN ?_ _) | (with_reducible refine Kd.C_drew ?_))); (case side2 => exact HC0_1.out); (case side3 => repeat (first | exact (Kd.C_below HR0_2.out HB.out) | (with_reducible refine Kd.C_alloc ?_ _) | (with_reducible refine Kd.C_drewN ?_ _) | (with_reducible refine Kd.C_drew ?_))); (case side4 => exact HC0_2.out); rintro e w14 ⟨rfl, hb⟩; refine ⟨_, rfl, ?_⟩; have n0_ := Aside0.mk (blk_below (g := gb101) (o := .cells #[.int .i64 a0_0, .slice A0_1 l0_1.length c0_1, .slice A0_2 l0_2.length c0_2] 25 (0, 0)) (by (with_reducible repeat (first | refine blk_drewN ?_ _ | refine blk_drew ?_ | refine blk_alloc ?_ _)); exact BK101.out) hb); have n1_ := Aside0.mk (below_step (by repeat (first | (with_reducible first | exact HB.out | apply below_alloc | apply pw_below_drewN | apply below_drew1 | refine below_set ?_ GE101.out) | exact HB.out)) hb); clear BK101; clear HB; have BK101 := n0_; have HB := n1_; clear n0_ n1_; (try clear hb); (try clear hb2); (try clear hk); (try clear hi); have hcz15_0 : w14.cell? ⟨gb101, 0, none⟩ = some (.int .i64 a0_0) := (blk_cell BK101.out 0).trans rfl; have hcz15_1 : w14.cell? ⟨gb101, 1, none⟩ = some (.slice A0_1 l0_1.length c0_1) := (blk_cell BK101.out 1).trans rfl; have hcz15_2 : w14.cell? ⟨gb101, 2, none⟩ = some (.slice A0_2 l0_2.length c0_2) := (blk_cell BK101.out 2).trans rfl; have hfz15_0 := blk_frozen BK101.out 0; have hfz15_1 := blk_frozen BK101.out 1; have hfz15_2 := blk_frozen BK101.out 2) | ((with_reducible refine gate_callee (f := 9) rfl ?_); refine goesL_ (some 21) rfl rfl Try.func9 (by kernel_rfl) rfl #[.agg #[.int .i64 a0_0, .slice A0_1 l0_1.length c0_1, .slice A0_2 l0_2.length c0_2]] rfl (by (try simp only [List.map_toArray, List.map_cons, List.map_nil]); first | done | rfl | (simp only [List.length_drop, List.length_take]; rfl)) ?_; (with_reducible refine (laws_toHeap.calls k a0_0 _ _ l0_1 _ _ l0_2 t103 t104 t107 _ ?side1 ?side2 ?side3 ?side4 A7.out).mono ?_); (case side1 => repeat (first | exact (Kd.C_below HR0_1.out HB.out) | (with_reducible refine Kd.C_alloc ?_ _) | (with_reducible refine Kd.C_drewN ?_ _) | (with_reducible refine Kd.C_drew ?_))); (case side2 => exact HC0_1.out); (case side3 => repeat (first | exact (Kd.C_below HR0_2.out HB.out) | (with_reducible refine Kd.C_alloc ?_ _) | (with_reducible refine Kd.C_drewN ?_ _) | (with_reducible refine Kd.C_drew ?_))); (case side4 => exact HC0_2.out); rintro e w16 ⟨v105, v108, rfl, ho0, ho1, hb⟩; refine ⟨_, rfl, ?_⟩; have n0_ := Aside0.mk (Kd.R_lower ho0 (below_size (by repeat (first | (with_reducible first | exact HB.out | apply below_alloc | apply pw_below_drewN | apply below_drew1 | refine below_set ?_ GE101.out) | exact HB.out)))); have n1_ := Aside0.mk (Kd.R_lower ho1 (below_size (by repeat (first | (with_reducible first | exact HB.out | apply below_alloc | apply pw_below_drewN | apply below_drew1 | refine below_set ?_ GE101.out) | exact HB.out)))); have n2_ := Aside0.mk (blk_below (g := gb101) (o := .cells #[.int .i64 a0_0, .slice A0_1 l0_1.length c0_1, .slice A0_2 l0_2.length c0_2] 25 (0, 0)) (by (with_reducible repeat (first | refine blk_drewN ?_ _ | refine blk_drew ?_ | refine blk_alloc ?_ _)); exact BK101.out) hb); have n3_ := Aside0.mk (below_step (by repeat (first | (with_reducible first | exact HB.out | apply below_alloc | apply pw_below_drewN | apply below_drew1 | refine below_set ?_ GE101.out) | exact HB.out)) hb); clear BK101; clear HB; have HO106 := n0_; have HO109 := n1_; have BK101 := n2_; have HB := n3_; clear n0_ n1_ n2_ n3_; (try clear hb); (try clear hb2); (try clear hk); (try clear hi); (try clear ho0); (try clear ho1); obtain ⟨Ao17, co17, eo17⟩ := Kd.R_slice HO106.out; subst eo17; obtain ⟨Ao18, co18, eo18⟩ := Kd.R_slice HO109.out; subst eo18) | ((with_reducible refine gate_callee (f := 12) rfl ?_); refine goesL_ (some 22) rfl rfl Try.func12 (by kernel_rfl) rfl #[.agg #[.int .i64 t103, .slice Ao17 t104.length co17, .slice Ao18 t107.length co18]] rfl (by (try simp only [List.map_toArray, List.map_cons, List.map_nil]); first | done | rfl | (simp only [List.length_drop, List.length_take]; rfl)) ?_; (with_reducible refine (spec_ReachIn.calls k t103 _ _ t104 _ _ t107 t110 t113 _ ?side1 ?side2 ?side3 ?side4 A8.out).mono ?_); (case side1 => repeat (first | exact (Kd.R_reads' HO106.out).2.2 | (with_reducible refine Kd.C_alloc ?_ _) | (with_reducible refine Kd.C_drewN ?_ _) | (with_reducible refine Kd.C_drew ?_))); (case side2 => exact (Kd.R_reads' HO106.out).2.1); (case side3 => repeat (first | exact (Kd.R_reads' HO109.out).2.2 | (with_reducible refine Kd.C_alloc ?_ _) | (with_reducible refine Kd.C_drewN ?_ _) | (with_reducible refine Kd.C_drew ?_))); (case side4 => exact (Kd.R_reads' HO109.out).2.1); rintro e w19 ⟨v111, rfl, ho0, hb⟩; refine ⟨_, rfl, ?_⟩; have n0_ := Aside0.mk (Kd.R_below (by (with_reducible repeat (first | apply Kd.R_alloc | apply Kd.R_drewN | apply Kd.R_drew)); exact HO106.out) hb); have n1_ := Aside0.mk (Kd.R_elder' (by (with_reducible repeat (first | apply Kd.R_alloc | apply Kd.R_drewN | apply Kd.R_drew)); exact HO109.out) (Kd.R_base ho0) hb); have n2_ := Aside0.mk (Kd.R_lower (Kd.R_new' ho0 (Kd.R_lt (by (with_reducible repeat (first | apply Kd.R_alloc | apply Kd.R_drewN | apply Kd.R_drew)); exact HO109.out))) (below_size (by repeat (first | (with_reducible first | exact HB.out | apply below_alloc | apply pw_below_drewN | apply below_drew1 | refine below_set ?_ GE101.out) | exact HB.out)))); have n3_ := Aside0.mk (blk_below (g := gb101) (o := .cells #[.int .i64 a0_0, .slice A0_1 l0_1.length c0_1, .slice A0_2 l0_2.length c0_2] 25 (0, 0)) (by (with_reducible repeat (first | refine blk_drewN ?_ _ | refine blk_drew ?_ | refine blk_alloc ?_ _)); exact BK101.out) hb); have n4_ := Aside0.mk (below_step (by repeat (first | (with_reducible first | exact HB.out | apply below_alloc | apply pw_below_drewN | apply below_drew1 | refine below_set ?_ GE101.out) | exact HB.out)) hb); clear HO106; clear HO109; clear BK101; clear HB; have HO106 := n0_; have HO109 := n1_; have HO112 := n2_; have BK101 := n3_; have HB := n4_; clear n0_ n1_ n2_ n3_ n4_; (try clear hb); (try clear hb2); (try clear hk); (try clear hi); (try clear ho0); have hcz20_0 : w19.cell? ⟨gb101, 0, none⟩ = some (.int .i64 a0_0) := (blk_cell BK101.out 0).trans rfl; have hcz20_1 : w19.cell? ⟨gb101, 1, none⟩ = some (.slice A0_1 l0_1.length c0_1) := (blk_cell BK101.out 1).trans rfl; have hcz20_2 : w19.cell? ⟨gb101, 2, none⟩ = some (.slice A0_2 l0_2.length c0_2) := (blk_cell BK101.out 2).trans rfl; have hfz20_0 := blk_frozen BK101.out 0; have hfz20_1 := blk_frozen BK101.out 1; have hfz20_2 := blk_frozen BK101.out 2) | ((with_reducible refine gate_callee (f := 9) rfl ?_); refine goesL_ (some 26) rfl rfl Try.func9 (by kernel_rfl) rfl #[.agg #[.int .i64 a0_0, .slice A0_1 l0_1.length c0_1, .slice A0_2 l0_2.length c0_2]] rfl (by (try simp only [List.map_toArray, List.map_cons, List.map_nil]); first | done | rfl | (simp only [List.length_drop, List.length_take]; rfl)) ?_; (with_reducible refine (laws_toHeap.calls k a0_0 _ _ l0_1 _ _ l0_2 t114 t115 t118 _ ?side1 ?side2 ?side3 ?side4 A9.out).mono ?_); (case side1 => repeat (first | exact (Kd.C_below HR0_1.out HB.out) | (with_reducible refine Kd.C_alloc ?_ _) | (with_reducible refine Kd.C_drewN ?_ _) | (with_reducible refine Kd.C_drew ?_))); (case side2 => exact HC0_1.out); (case side3 => repeat (first | exact (Kd.C_below HR0_2.out HB.out) | (with_reducible refine Kd.C_alloc ?_ _) | (with_reducible refine Kd.C_drewN ?_ _) | (with_reducible refine Kd.C_drew ?_))); (case side4 => exact HC0_2.out); rintro e w21 ⟨v116, v119, rfl, ho0, ho1, hb⟩; refine ⟨_, rfl, ?_⟩; have n0_ := Aside0.mk (Kd.R_elder' (by (with_reducible repeat (first | apply Kd.R_alloc | apply Kd.R_drewN | apply Kd.R_drew)); exact HO106.out) (Kd.R_base ho0) hb); have n1_ := Aside0.mk (Kd.R_elder' (by (with_reducible repeat (first | apply Kd.R_alloc | apply Kd.R_drewN | apply Kd.R_drew)); exact HO109.out) (Kd.R_base ho1) hb); have n2_ := Aside0.mk (Kd.R_elder' (by (with_reducible repeat (first | apply Kd.R_alloc | apply Kd.R_drewN | apply Kd.R_drew)); exact HO112.out) (Kd.R_base ho1) hb); have n3_ := Aside0.mk (Kd.R_lower (Kd.R_new' ho0 (Kd.R_lt (by (with_reducible repeat (first | apply Kd.R_alloc | apply Kd.R_drewN | apply Kd.R_drew)); exact HO106.out))) (below_size (by repeat (first | (with_reducible first | exact HB.out | apply below_alloc | apply pw_below_drewN | apply below_drew1 | refine below_set ?_ GE101.out) | exact HB.out)))); have n4_ := Aside0.mk (Kd.R_lower (Kd.R_new' (Kd.R_new' ho1 (Kd.R_lt (by (with_reducible repeat (first | apply Kd.R_alloc | apply Kd.R_drewN | apply Kd.R_drew)); exact HO109.out))) (Kd.R_lt (by (with_reducible repeat (first | apply Kd.R_alloc | apply Kd.R_drewN | apply Kd.R_drew)); exact HO112.out))) (below_size (by repeat (first | (with_reducible first | exact HB.out | apply below_alloc | apply pw_below_drewN | apply below_drew1 | refine below_set ?_ GE101.out) | exact HB.out)))); have n5_ := Aside0.mk (blk_below (g := gb101) (o := .cells #[.int .i64 a0_0, .slice A0_1 l0_1.length c0_1, .slice A0_2 l0_2.length c0_2] 25 (0, 0)) (by (with_reducible repeat (first | refine blk_drewN ?_ _ | refine blk_drew ?_ | refine blk_alloc ?_ _)); exact BK101.out) hb); have n6_ := Aside0.mk (below_step (by repeat (first | (with_reducible first | exact HB.out | apply below_alloc | apply pw_below_drewN | apply below_drew1 | refine below_set ?_ GE101.out) | exact HB.out)) hb); clear HO106; clear HO109; clear HO112; clear BK101; clear HB; have HO106 := n0_; have HO109 := n1_; have HO112 := n2_; have HO117 := n3_; have HO120 := n4_; have BK101 := n5_; have HB := n6_; clear n0_ n1_ n2_ n3_ n4_ n5_ n6_; (try clear hb); (try clear hb2); (try clear hk); (try clear hi); (try clear ho0); (try clear ho1)) | ((with_reducible refine gate_dst (N := 6) rfl ?_); refine box_event ?hg (N := 6) ?hd (cs := #[.int .i64 0, .slice none 0 0, .slice none 0 0]) (t := 30) ?hr ?_; (case hd => rfl); (case hg => rfl); (case hr => first | (go_simp; done) | (go_simp; rfl)); intro gb121 hg w22 hbox hb; have n0_ := Aside0.mk (Kd.R_below (by (with_reducible repeat (first | apply Kd.R_alloc | apply Kd.R_drewN | apply Kd.R_drew)); exact HO106.out) hb); have n1_ := Aside0.mk (Kd.R_below (by (with_reducible repeat (first | apply Kd.R_alloc | apply Kd.R_drewN | apply Kd.R_drew)); exact HO109.out) hb); have n2_ := Aside0.mk (Kd.R_below (by (with_reducible repeat (first | apply Kd.R_alloc | apply Kd.R_drewN | apply Kd.R_drew)); exact HO112.out) hb); have n3_ := Aside0.mk (Kd.R_below (by (with_reducible repeat (first | apply Kd.R_alloc | apply Kd.R_drewN | apply Kd.R_drew)); exact HO117.out) hb); have n4_ := Aside0.mk (Kd.R_below (by (with_reducible repeat (first | apply Kd.R_alloc | apply Kd.R_drewN | apply Kd.R_drew)); exact HO120.out) hb); have n5_ := Aside0.mk (blk_below (g := gb101) (o := .cells #[.int .i64 a0_0, .slice A0_1 l0_1.length c0_1, .slice A0_2 l0_2.length c0_2] 25 (0, 0)) (by (with_reducible repeat (first | refine blk_drewN ?_ _ | refine blk_drew ?_ | refine blk_alloc ?_ _)); exact BK101.out) hb); have n6_ := Aside0.mk (below_step (by repeat (first | (with_reducible first | exact HB.out | apply below_alloc | apply pw_below_drewN | apply below_drew1 | refine below_set ?_ GE101.out) | exact HB.out)) hb); have n7_ := Aside0.mk (hbox); have n8_ := Aside0.mk ((by rw [hg]; exact (below_size (by repeat (first | (with_reducible first | exact HB.out | apply below_alloc | apply pw_below_drewN | apply below_drew1 | refine below_set ?_ GE101.out) | exact HB.out))) : w.heap.size ≤ gb121)); have n9_ := Aside0.mk ((by rw [hg]; exact (below_size (by repeat (first | (with_reducible first | exact HB.out | apply below_alloc | apply pw_below_drewN | apply below_drew1 | refine below_set ?_ GE101.out) | exact HB.out))) : w.heap.size ≤ gb121)); have n10_ := Aside0.mk ((by rw [hg]; exact Nat.ne_of_lt (blk_lt (g := gb101) (o := .cells #[.int .i64 a0_0, .slice A0_1 l0_1.length c0_1, .slice A0_2 l0_2.length c0_2] 25 (0, 0)) (by (with_reducible repeat (first | refine blk_drewN ?_ _ | refine blk_drew ?_ | refine blk_alloc ?_ _)); exact BK101.out)) : gb101 ≠ gb121)); have n11_ := Aside0.mk ((by rw [hg]; exact Nat.ne_of_gt (blk_lt (g := gb101) (o := .cells #[.int .i64 a0_0, .slice A0_1 l0_1.length c0_1, .slice A0_2 l0_2.length c0_2] 25 (0, 0)) (by (with_reducible repeat (first | refine blk_drewN ?_ _ | refine blk_drew ?_ | refine blk_alloc ?_ _)); exact BK101.out)) : gb121 ≠ gb101)); clear HO106; clear HO109; clear HO112; clear HO117; clear HO120; clear BK101; clear HB; have HO106 := n0_; have HO109 := n1_; have HO112 := n2_; have HO117 := n3_; have HO120 := n4_; have BK101 := n5_; have HB := n6_; have BK121 := n7_; have GW121 := n8_; have GE121 := n9_; have NB101_121 := n10_; have NB121_101 := n11_; clear n0_ n1_ n2_ n3_ n4_ n5_ n6_ n7_ n8_ n9_ n10_ n11_; clear hb hbox hg; have hnb23 := NB121_101.out; have hnc23 := NB101_121.out; have hcz24_0 : w22.cell? ⟨gb121, 0, none⟩ = some (.int .i64 0) := (blk_cell BK121.out 0).trans rfl; have hcz24_1 : w22.cell? ⟨gb121, 1, none⟩ = some (.slice none 0 0) := (blk_cell BK121.out 1).trans rfl; have hcz24_2 : w22.cell? ⟨gb121, 2, none⟩ = some (.slice none 0 0) := (blk_cell BK121.out 2).trans rfl; have hfz24_0 := blk_frozen BK121.out 0; have hfz24_1 := blk_frozen BK121.out 1; have hfz24_2 := blk_frozen BK121.out 2; obtain ⟨Ao25, co25, eo25⟩ := Kd.R_slice HO117.out; subst eo25; obtain ⟨Ao26, co26, eo26⟩ := Kd.R_slice HO120.out; subst eo26) | ((with_reducible refine gate_callee (f := 13) rfl ?_); refine goesL_ (some 29) rfl rfl Try.func13 (by kernel_rfl) rfl #[.agg #[.int .i64 t114, .slice Ao25 t115.length co25, .slice Ao26 t118.length co26]] rfl (by (try simp only [List.map_toArray, List.map_cons, List.map_nil]); first | done | rfl | (simp only [List.length_drop, List.length_take]; rfl)) ?_; (with_reducible refine (impl_ReachIn.calls k t114 _ _ t115 _ _ t118 t122 t125 _ ?side1 ?side2 ?side3 ?side4 A10.out).mono ?_); (case side1 => refine (Kd.R_reads' (e := 44) (base := w.heap.size) (ok := fun k_ => (True ∧ some k_ ≠ (.slice Ao17 t104.length co17 : Value).ownBlock)) (n := t115.length) (c := co25) ?_).2.2; exact (by (with_reducible repeat (first | apply Kd.R_alloc | apply Kd.R_drewN | apply Kd.R_drew)); exact (Kd.R_mono (Kd.R_far (p := ⟨gb121, 2, none⟩) (Kd.R_far (p := ⟨gb121, 1, none⟩) (Kd.R_far (p := ⟨gb121, 0, none⟩) (Kd.R_types HO117.out BK121.out (by decide)) (fun _ hk => hk.2) (.int .i64 t114)) (fun _ hk => hk.2) (.slice Ao25 t115.length co25)) (fun _ hk => hk.2) (.slice Ao26 t118.length co26)) (fun _ h_ => h_.1)))); (case side2 => exact (Kd.R_reads' HO117.out).2.1); (case side3 => refine (Kd.R_reads' (e := 3) (base := w.heap.size) (ok := fun k_ => ((True ∧ some k_ ≠ (.slice Ao18 t107.length co18 : Value).ownBlock) ∧ some k_ ≠ (v111 : Value).ownBlock)) (n := t118.length) (c := co26) ?_).2.2; exact (by (with_reducible repeat (first | apply Kd.R_alloc | apply Kd.R_drewN | apply Kd.R_drew)); exact (Kd.R_mono (Kd.R_far (p := ⟨gb121, 2, none⟩) (Kd.R_far (p := ⟨gb121, 1, none⟩) (Kd.R_far (p := ⟨gb121, 0, none⟩) (Kd.R_types HO120.out BK121.out (by decide)) (fun _ hk => hk.2) (.int .i64 t114)) (fun _ hk => hk.2) (.slice Ao25 t115.length co25)) (fun _ hk => hk.2) (.slice Ao26 t118.length co26)) (fun _ h_ => h_.1)))); (case side4 => exact (Kd.R_reads' HO120.out).2.1); rintro e w27 ⟨v123, rfl, ho0, hb⟩; refine ⟨_, rfl, ?_⟩; have n0_ := Aside0.mk (Kd.R_below (by (with_reducible repeat (first | apply Kd.R_alloc | apply Kd.R_drewN | apply Kd.R_drew)); exact (Kd.R_mono (Kd.R_far (p := ⟨gb121, 2, none⟩) (Kd.R_far (p := ⟨gb121, 1, none⟩) (Kd.R_far (p := ⟨gb121, 0, none⟩) (Kd.R_types HO106.out BK121.out (by decide)) (fun _ hk => hk.2) (.int .i64 t114)) (fun _ hk => hk.2) (.slice Ao25 t115.length co25)) (fun _ hk => hk.2) (.slice Ao26 t118.length co26)) (fun _ h_ => h_.1))) hb); have n1_ := Aside0.mk (Kd.R_elder' (by (with_reducible repeat (first | apply Kd.R_alloc | apply Kd.R_drewN | apply Kd.R_drew)); exact (Kd.R_mono (Kd.R_far (p := ⟨gb121, 2, none⟩) (Kd.R_far (p := ⟨gb121, 1, none⟩) (Kd.R_far (p := ⟨gb121, 0, none⟩) (Kd.R_types HO109.out BK121.out (by decide)) (fun _ hk => hk.2) (.int .i64 t114)) (fun _ hk => hk.2) (.slice Ao25 t115.length co25)) (fun _ hk => hk.2) (.slice Ao26 t118.length co26)) (fun _ h_ => h_.1))) (Kd.R_base ho0) hb); have n2_ := Aside0.mk (Kd.R_elder' (by (with_reducible repeat (first | apply Kd.R_alloc | apply Kd.R_drewN | apply Kd.R_drew)); exact (Kd.R_mono (Kd.R_far (p := ⟨gb121, 2, none⟩) (Kd.R_far (p := ⟨gb121, 1, none⟩) (Kd.R_far (p := ⟨gb121, 0, none⟩) (Kd.R_types HO112.out BK121.out (by decide)) (fun _ hk => hk.2) (.int .i64 t114)) (fun _ hk => hk.2) (.slice Ao25 t115.length co25)) (fun _ hk => hk.2) (.slice Ao26 t118.length co26)) (fun _ h_ => h_.1))) (Kd.R_base ho0) hb); have n3_ := Aside0.mk (Kd.R_below (by (with_reducible repeat (first | apply Kd.R_alloc | apply Kd.R_drewN | apply Kd.R_drew)); exact (Kd.R_mono (Kd.R_far (p := ⟨gb121, 2, none⟩) (Kd.R_far (p := ⟨gb121, 1, none⟩) (Kd.R_far (p := ⟨gb121, 0, none⟩) (Kd.R_types HO117.out BK121.out (by decide)) (fun _ hk => hk.2) (.int .i64 t114)) (fun _ hk => hk.2) (.slice Ao25 t115.length co25)) (fun _ hk => hk.2) (.slice Ao26 t118.length co26)) (fun _ h_ => h_.1))) hb); have n4_ := Aside0.mk (Kd.R_elder' (by (with_reducible repeat (first | apply Kd.R_alloc | apply Kd.R_drewN | apply Kd.R_drew)); exact (Kd.R_mono (Kd.R_far (p := ⟨gb121, 2, none⟩) (Kd.R_far (p := ⟨gb121, 1, none⟩) (Kd.R_far (p := ⟨gb121, 0, none⟩) (Kd.R_types HO120.out BK121.out (by decide)) (fun _ hk => hk.2) (.int .i64 t114)) (fun _ hk => hk.2) (.slice Ao25 t115.length co25)) (fun _ hk => hk.2) (.slice Ao26 t118.length co26)) (fun _ h_ => h_.1))) (Kd.R_base ho0) hb); have n5_ := Aside0.mk (Kd.R_lower (Kd.R_new' (Kd.R_new' (Kd.R_new' ho0 (Kd.R_lt (by (with_reducible repeat (first | apply Kd.R_alloc | apply Kd.R_drewN | apply Kd.R_drew)); exact (Kd.R_mono (Kd.R_far (p := ⟨gb121, 2, none⟩) (Kd.R_far (p := ⟨gb121, 1, none⟩) (Kd.R_far (p := ⟨gb121, 0, none⟩) (Kd.R_types HO109.out BK121.out (by decide)) (fun _ hk => hk.2) (.int .i64 t114)) (fun _ hk => hk.2) (.slice Ao25 t115.length co25)) (fun _ hk => hk.2) (.slice Ao26 t118.length co26)) (fun _ h_ => h_.1))))) (Kd.R_lt (by (with_reducible repeat (first | apply Kd.R_alloc | apply Kd.R_drewN | apply Kd.R_drew)); exact (Kd.R_mono (Kd.R_far (p := ⟨gb121, 2, none⟩) (Kd.R_far (p := ⟨gb121, 1, none⟩) (Kd.R_far (p := ⟨gb121, 0, none⟩) (Kd.R_types HO112.out BK121.out (by decide)) (fun _ hk => hk.2) (.int .i64 t114)) (fun _ hk => hk.2) (.slice Ao25 t115.length co25)) (fun _ hk => hk.2) (.slice Ao26 t118.length co26)) (fun _ h_ => h_.1))))) (Kd.R_lt (by (with_reducible repeat (first | apply Kd.R_alloc | apply Kd.R_drewN | apply Kd.R_drew)); exact (Kd.R_mono (Kd.R_far (p := ⟨gb121, 2, none⟩) (Kd.R_far (p := ⟨gb121, 1, none⟩) (Kd.R_far (p := ⟨gb121, 0, none⟩) (Kd.R_types HO120.out BK121.out (by decide)) (fun _ hk => hk.2) (.int .i64 t114)) (fun _ hk => hk.2) (.slice Ao25 t115.length co25)) (fun _ hk => hk.2) (.slice Ao26 t118.length co26)) (fun _ h_ => h_.1))))) (below_size (by repeat (first | (with_reducible first | exact HB.out | apply below_alloc | apply pw_below_drewN | apply below_drew1 | refine below_set ?_ GE101.out | refine below_set ?_ GE121.out) | exact HB.out)))); have n6_ := Aside0.mk (blk_below (g := gb101) (o := .cells #[.int .i64 a0_0, .slice A0_1 l0_1.length c0_1, .slice A0_2 l0_2.length c0_2] 25 (0, 0)) (by (with_reducible repeat (first | refine blk_drewN ?_ _ | refine blk_drew ?_ | refine blk_alloc ?_ _)); refine blk_far ?_ NB101_121.out _; (with_reducible repeat (first | refine blk_drewN ?_ _ | refine blk_drew ?_ | refine blk_alloc ?_ _)); refine blk_far ?_ NB101_121.out _; (with_reducible repeat (first | refine blk_drewN ?_ _ | refine blk_drew ?_ | refine blk_alloc ?_ _)); refine blk_far ?_ NB101_121.out _; (with_reducible repeat (first | refine blk_drewN ?_ _ | refine blk_drew ?_ | refine blk_alloc ?_ _)); exact BK101.out) hb); have n7_ := Aside0.mk (blk_below (g := gb121) (o := .cells #[.int .i64 t114, .slice Ao25 t115.length co25, .slice Ao26 t118.length co26] 30 (0, 0)) (by (with_reducible repeat (first | refine blk_drewN ?_ _ | refine blk_drew ?_ | refine blk_alloc ?_ _)); refine blk_put (cs := #[.int .i64 t114, .slice Ao25 t115.length co25, .slice none 0 0]) ?_ 2 _ rfl; (with_reducible repeat (first | refine blk_drewN ?_ _ | refine blk_drew ?_ | refine blk_alloc ?_ _)); refine blk_put (cs := #[.int .i64 t114, .slice none 0 0, .slice none 0 0]) ?_ 1 _ rfl; (with_reducible repeat (first | refine blk_drewN ?_ _ | refine blk_drew ?_ | refine blk_alloc ?_ _)); refine blk_put (cs := #[.int .i64 0, .slice none 0 0, .slice none 0 0]) ?_ 0 _ rfl; (with_reducible repeat (first | refine blk_drewN ?_ _ | refine blk_drew ?_ | refine blk_alloc ?_ _)); exact BK121.out) hb); have n8_ := Aside0.mk (below_step (by repeat (first | (with_reducible first | exact HB.out | apply below_alloc | apply pw_below_drewN | apply below_drew1 | refine below_set ?_ GE101.out | refine below_set ?_ GE121.out) | exact HB.out)) hb); clear HO106; clear HO109; clear HO112; clear HO117; clear HO120; clear BK101; clear BK121; clear HB; have HO106 := n0_; have HO109 := n1_; have HO112 := n2_; have HO117 := n3_; have HO120 := n4_; have HO124 := n5_; have BK101 := n6_; have BK121 := n7_; have HB := n8_; clear n0_ n1_ n2_ n3_ n4_ n5_ n6_ n7_ n8_; (try clear hb); (try clear hb2); (try clear hk); (try clear hi); (try clear ho0)))
    (try simp only [Act.put, List.setIfInBounds_toArray, List.set_cons_zero, List.set_cons_succ])
    go_cut [40] (fun v40 wc => ∃ (kq : Nat) (x40_10 : Bool), v40 = .bool x40_10 ∧ Aside0 (laws_FnExactReachIn.j0 kq t110 t113 t122 t125 x40_10 a0_0 l0_1 l0_2 t114 t115 t118 = some r) ∧ Aside0 (kq ≤ k) ∧ Aside0 (Kd.R (Kd.int .i64) 3 wc w.heap.size (fun k_ => some k_ ≠ (v123 : Value).ownBlock ∧ some k_ ≠ ((.slice Ao26 t118.length co26) : Value).ownBlock) v111 t110) ∧ Aside0 (Kd.R (Kd.int .i64) 3 wc w.heap.size (fun k_ => some k_ ≠ (v111 : Value).ownBlock ∧ some k_ ≠ ((.slice Ao26 t118.length co26) : Value).ownBlock) v123 t122) ∧ Aside0 (Kd.R k44 44 wc w.heap.size (fun _ => True) (.slice Ao25 t115.length co25) t115) ∧ Aside0 (Kd.R (Kd.int .i64) 3 wc w.heap.size (fun k_ => some k_ ≠ (v111 : Value).ownBlock ∧ some k_ ≠ (v123 : Value).ownBlock) (.slice Ao26 t118.length co26) t118) ∧ Aside0 (wc.heap[gb101]? = some (.cells #[.int .i64 a0_0, (.slice A0_1 l0_1.length c0_1), (.slice A0_2 l0_2.length c0_2)] 25 (0, 0))) ∧ Aside0 (wc.heap[gb121]? = some (.cells #[.int .i64 t114, (.slice Ao25 t115.length co25), (.slice Ao26 t118.length co26)] 30 (0, 0))) ∧ Aside0 (Below w.heap.size w wc))
    case first =>
      have H := HC11.out
      clear HC11
      replace H := Option.bind_eq_some_iff.mp H
      obtain ⟨t126, A280, H⟩ := H
      replace H : (if t126 = true then (laws_FnExactReachIn.j0 k t110 t113 t122 t125 (t125 != t113) a0_0 l0_1 l0_2 t114 t115 t118) else (laws_FnExactReachIn.j0 k t110 t113 t122 t125 true a0_0 l0_1 l0_2 t114 t115 t118)) = some r := H
      have A28 := Aside0.mk A280
      clear A280
      by_cases c29 : t126 = true
      · subst c29
        have H1 : (laws_FnExactReachIn.j0 k t110 t113 t122 t125 (t125 != t113) a0_0 l0_1 l0_2 t114 t115 t118) = some r := by rw [if_pos rfl] at H; exact H
        clear H
        have H := H1
        clear H1
        have H' := Aside0.mk H
        clear H
        obtain ⟨Ao30, co30, eo30⟩ := Kd.R_slice HO124.out
        subst eo30
        obtain ⟨Ao31, co31, eo31⟩ := Kd.R_slice HO112.out
        subst eo31
        go_wp2_with (first | ((with_reducible refine gate_callee (f := 14) rfl ?_); refine goesL_ (some 34) rfl rfl Try.func14 (by kernel_rfl) rfl #[.slice Ao30 t122.length co30, .slice Ao31 t110.length co31] rfl (by (try simp only [List.map_toArray, List.map_cons, List.map_nil]); first | done | rfl | (simp only [List.length_drop, List.length_take]; rfl)) ?_; (with_reducible refine (laws_eqIntS.calls k _ _ t122 _ _ t110 true _ ?side1 ?side2 ?side3 ?side4 A28.out).mono ?_); (case side1 => repeat (first | exact (Kd.R_reads' HO124.out).2.2 | (with_reducible refine Kd.C_alloc ?_ _) | (with_reducible refine Kd.C_drewN ?_ _) | (with_reducible refine Kd.C_drew ?_))); (case side2 => exact (Kd.R_reads' HO124.out).2.1); (case side3 => repeat (first | exact (Kd.R_reads' HO112.out).2.2 | (with_reducible refine Kd.C_alloc ?_ _) | (with_reducible refine Kd.C_drewN ?_ _) | (with_reducible refine Kd.C_drew ?_))); (case side4 => exact (Kd.R_reads' HO112.out).2.1); rintro e w' ⟨rfl, ⟨nd, rfl⟩⟩; refine ⟨_, rfl, ?_⟩))
        go_meet
        case rel => exact ⟨_, ((t125 != t113)), (by first | rfl | (simp; done) | (simp [*]; done)), H', ⟨by first | omega | exact Nat.le_refl _⟩, ⟨by (with_reducible repeat (first | apply Kd.R_alloc | apply Kd.R_drewN | apply Kd.R_drew)); exact Kd.R_mono HO112.out (fun _ hk => ⟨hk.2, hk.1.2⟩)⟩, ⟨by (with_reducible repeat (first | apply Kd.R_alloc | apply Kd.R_drewN | apply Kd.R_drew)); exact Kd.R_mono HO124.out (fun _ hk => ⟨hk.1.2, hk.2⟩)⟩, ⟨by (with_reducible repeat (first | apply Kd.R_alloc | apply Kd.R_drewN | apply Kd.R_drew)); exact Kd.R_mono HO117.out (fun _ hk => trivial)⟩, ⟨by (with_reducible repeat (first | apply Kd.R_alloc | apply Kd.R_drewN | apply Kd.R_drew)); exact Kd.R_mono HO120.out (fun _ hk => ⟨hk.1.2, hk.2⟩)⟩, ⟨by (with_reducible repeat (first | refine blk_drewN ?_ _ | refine blk_drew ?_ | refine blk_alloc ?_ _)); exact BK101.out⟩, ⟨by (with_reducible repeat (first | refine blk_drewN ?_ _ | refine blk_drew ?_ | refine blk_alloc ?_ _)); exact BK121.out⟩, ⟨by repeat (first | (with_reducible first | exact HB.out | apply below_alloc | apply pw_below_drewN | apply below_drew1 | refine below_set ?_ GE101.out | refine below_set ?_ GE121.out) | exact HB.out)⟩⟩
      · replace c29 := Bool.eq_false_iff.mpr c29
        subst c29
        have H1 : (laws_FnExactReachIn.j0 k t110 t113 t122 t125 true a0_0 l0_1 l0_2 t114 t115 t118) = some r := by rw [if_neg (show ¬ (false = true) by decide)] at H; exact H
        clear H
        have H := H1
        clear H1
        have H' := Aside0.mk H
        clear H
        obtain ⟨Ao32, co32, eo32⟩ := Kd.R_slice HO124.out
        subst eo32
        obtain ⟨Ao33, co33, eo33⟩ := Kd.R_slice HO112.out
        subst eo33
        go_wp2_with (first | ((with_reducible refine gate_callee (f := 14) rfl ?_); refine goesL_ (some 34) rfl rfl Try.func14 (by kernel_rfl) rfl #[.slice Ao32 t122.length co32, .slice Ao33 t110.length co33] rfl (by (try simp only [List.map_toArray, List.map_cons, List.map_nil]); first | done | rfl | (simp only [List.length_drop, List.length_take]; rfl)) ?_; (with_reducible refine (laws_eqIntS.calls k _ _ t122 _ _ t110 false _ ?side1 ?side2 ?side3 ?side4 A28.out).mono ?_); (case side1 => repeat (first | exact (Kd.R_reads' HO124.out).2.2 | (with_reducible refine Kd.C_alloc ?_ _) | (with_reducible refine Kd.C_drewN ?_ _) | (with_reducible refine Kd.C_drew ?_))); (case side2 => exact (Kd.R_reads' HO124.out).2.1); (case side3 => repeat (first | exact (Kd.R_reads' HO112.out).2.2 | (with_reducible refine Kd.C_alloc ?_ _) | (with_reducible refine Kd.C_drewN ?_ _) | (with_reducible refine Kd.C_drew ?_))); (case side4 => exact (Kd.R_reads' HO112.out).2.1); rintro e w' ⟨rfl, ⟨nd, rfl⟩⟩; refine ⟨_, rfl, ?_⟩))
        go_meet
        case rel => exact ⟨_, (true), (by first | rfl | (simp; done) | (simp [*]; done)), H', ⟨by first | omega | exact Nat.le_refl _⟩, ⟨by (with_reducible repeat (first | apply Kd.R_alloc | apply Kd.R_drewN | apply Kd.R_drew)); exact Kd.R_mono HO112.out (fun _ hk => ⟨hk.2, hk.1.2⟩)⟩, ⟨by (with_reducible repeat (first | apply Kd.R_alloc | apply Kd.R_drewN | apply Kd.R_drew)); exact Kd.R_mono HO124.out (fun _ hk => ⟨hk.1.2, hk.2⟩)⟩, ⟨by (with_reducible repeat (first | apply Kd.R_alloc | apply Kd.R_drewN | apply Kd.R_drew)); exact Kd.R_mono HO117.out (fun _ hk => trivial)⟩, ⟨by (with_reducible repeat (first | apply Kd.R_alloc | apply Kd.R_drewN | apply Kd.R_drew)); exact Kd.R_mono HO120.out (fun _ hk => ⟨hk.1.2, hk.2⟩)⟩, ⟨by (with_reducible repeat (first | refine blk_drewN ?_ _ | refine blk_drew ?_ | refine blk_alloc ?_ _)); exact BK101.out⟩, ⟨by (with_reducible repeat (first | refine blk_drewN ?_ _ | refine blk_drew ?_ | refine blk_alloc ?_ _)); exact BK121.out⟩, ⟨by repeat (first | (with_reducible first | exact HB.out | apply below_alloc | apply pw_below_drewN | apply below_drew1 | refine below_set ?_ GE101.out | refine below_set ?_ GE121.out) | exact HB.out)⟩⟩
    case rest =>
      clear HC11
      try clear c1
      try clear c2
      try clear p2
      try clear c3
      try clear c3b0
      try clear c4
      try clear c7
      try clear c9
      try clear c12
      try clear c13
      try clear c14
      try clear c23
      try clear c29
      try clear hcz13_0
      try clear hcz13_1
      try clear hcz13_2
      try clear hcz15_0
      try clear hcz15_1
      try clear hcz15_2
      try clear hcz20_0
      try clear hcz20_1
      try clear hcz20_2
      try clear hcz24_0
      try clear hcz24_1
      try clear hcz24_2
      try clear hcz5_0
      try clear hcz5_1
      try clear hcz5_2
      try clear hfz13_0
      try clear hfz13_1
      try clear hfz13_2
      try clear hfz15_0
      try clear hfz15_1
      try clear hfz15_2
      try clear hfz20_0
      try clear hfz20_1
      try clear hfz20_2
      try clear hfz24_0
      try clear hfz24_1
      try clear hfz24_2
      try clear hfz5_0
      try clear hfz5_1
      try clear hfz5_2
      obtain ⟨kq, x40_10, rfl, HA, HJ10, HO_4, HO_7, HO_122001, HO_122002, BK101, BK121, HB⟩ := hcut
      cases kq with
      | zero => exact absurd HA.out (by simp [laws_FnExactReachIn.j0])
      | succ kj10 =>
        have H := HA.out
        clear HA
        simp only [laws_FnExactReachIn.j0] at H
        by_cases c34 : x40_10 = true
        · subst c34
          have H1 : (some false) = some r := by rw [if_pos rfl] at H; exact H
          clear H
          have H := H1
          clear H1
          obtain rfl := Option.some.inj H
          go_wp2
          go_ret
          exact ⟨by first | rfl | (simp [errW_none, errW_some] <;> rfl) | (simp [*, errW_none, errW_some] <;> rfl), by repeat (first | (with_reducible first | exact HB.out | apply below_alloc | apply pw_below_drewN | apply below_drew1 | refine below_set ?_ GE101.out | refine below_set ?_ GE121.out) | exact HB.out)⟩
        · replace c34 := Bool.eq_false_iff.mpr c34
          subst c34
          have H1 : ((laws_toHeap.f kj10 a0_0 l0_1 l0_2).bind fun bt127 => ((laws_eqHeap.f kj10 t114 t115 t118 bt127.1 bt127.2.1 bt127.2.2).bind fun t134 => (if t134 = true then ((laws_markHeap.f kj10 t114 t115 t118 1).bind fun bt135 => (if bt135.1 < 0 then (laws_FnExactReachIn.j1 kj10 t110 t113 t122 true a0_0 l0_1 l0_2) else ((laws_eqIntS.f kj10 t122 t110).bind fun t138 => (if t138 = true then (laws_FnExactReachIn.j1 kj10 t110 t113 t122 (t125 != t113) a0_0 l0_1 l0_2) else (laws_FnExactReachIn.j1 kj10 t110 t113 t122 true a0_0 l0_1 l0_2))))) else (some false)))) = some r := by rw [if_neg (show ¬ (false = true) by decide)] at H; exact H
          clear H
          have H := H1
          clear H1
          replace H := Option.bind_eq_some_iff.mp H
          obtain ⟨⟨t127, t128, t131⟩, A350, H⟩ := H
          replace H : ((laws_eqHeap.f kj10 t114 t115 t118 t127 t128 t131).bind fun t134 => (if t134 = true then ((laws_markHeap.f kj10 t114 t115 t118 1).bind fun bt135 => (if bt135.1 < 0 then (laws_FnExactReachIn.j1 kj10 t110 t113 t122 true a0_0 l0_1 l0_2) else ((laws_eqIntS.f kj10 t122 t110).bind fun t138 => (if t138 = true then (laws_FnExactReachIn.j1 kj10 t110 t113 t122 (t125 != t113) a0_0 l0_1 l0_2) else (laws_FnExactReachIn.j1 kj10 t110 t113 t122 true a0_0 l0_1 l0_2))))) else (some false))) = some r := H
          have A35 := Aside0.mk A350
          clear A350
          replace H := Option.bind_eq_some_iff.mp H
          obtain ⟨t134, A360, H⟩ := H
          replace H : (if t134 = true then ((laws_markHeap.f kj10 t114 t115 t118 1).bind fun bt135 => (if bt135.1 < 0 then (laws_FnExactReachIn.j1 kj10 t110 t113 t122 true a0_0 l0_1 l0_2) else ((laws_eqIntS.f kj10 t122 t110).bind fun t138 => (if t138 = true then (laws_FnExactReachIn.j1 kj10 t110 t113 t122 (t125 != t113) a0_0 l0_1 l0_2) else (laws_FnExactReachIn.j1 kj10 t110 t113 t122 true a0_0 l0_1 l0_2))))) else (some false)) = some r := H
          have A36 := Aside0.mk A360
          clear A360
          by_cases c37 : t134 = true
          · subst c37
            have H1 : ((laws_markHeap.f kj10 t114 t115 t118 1).bind fun bt135 => (if bt135.1 < 0 then (laws_FnExactReachIn.j1 kj10 t110 t113 t122 true a0_0 l0_1 l0_2) else ((laws_eqIntS.f kj10 t122 t110).bind fun t138 => (if t138 = true then (laws_FnExactReachIn.j1 kj10 t110 t113 t122 (t125 != t113) a0_0 l0_1 l0_2) else (laws_FnExactReachIn.j1 kj10 t110 t113 t122 true a0_0 l0_1 l0_2))))) = some r := by rw [if_pos rfl] at H; exact H
            clear H
            have H := H1
            clear H1
            replace H := Option.bind_eq_some_iff.mp H
            obtain ⟨⟨t135, t136, t137⟩, A380, H⟩ := H
            replace H : (if t135 < 0 then (laws_FnExactReachIn.j1 kj10 t110 t113 t122 true a0_0 l0_1 l0_2) else ((laws_eqIntS.f kj10 t122 t110).bind fun t138 => (if t138 = true then (laws_FnExactReachIn.j1 kj10 t110 t113 t122 (t125 != t113) a0_0 l0_1 l0_2) else (laws_FnExactReachIn.j1 kj10 t110 t113 t122 true a0_0 l0_1 l0_2)))) = some r := H
            have A38 := Aside0.mk A380
            clear A380
            have HC39 := Aside0.mk H
            clear H
            try go_wp2
            have n0_ := Aside0.mk (Kd.R_drew HO_4.out)
            have n1_ := Aside0.mk (Kd.R_drew HO_7.out)
            have n2_ := Aside0.mk (Kd.R_drew HO_122001.out)
            have n3_ := Aside0.mk (Kd.R_drew HO_122002.out)
            have n4_ := Aside0.mk (blk_drew BK101.out)
            have n5_ := Aside0.mk (blk_drew BK121.out)
            have n6_ := Aside0.mk (below_drew1 HB.out)
            clear HO_4
            clear HO_7
            clear HO_122001
            clear HO_122002
            clear BK101
            clear BK121
            clear HB
            have HO_4 := n0_
            have HO_7 := n1_
            have HO_122001 := n2_
            have HO_122002 := n3_
            have BK101 := n4_
            have BK121 := n5_
            have HB := n6_
            clear n0_ n1_ n2_ n3_ n4_ n5_ n6_
            refine start_ (n := 5) (S := fun w' => w'.cell? ⟨gb121, 0, none⟩ = some (.int .i64 t114) ∧ w'.cell? ⟨gb121, 1, none⟩ = some (.slice Ao25 t115.length co25) ∧ w'.cell? ⟨gb121, 2, none⟩ = some (.slice Ao26 t118.length co26) ∧ w'.cell? ⟨gb101, 0, none⟩ = some (.int .i64 a0_0) ∧ w'.cell? ⟨gb101, 1, none⟩ = some (.slice A0_1 l0_1.length c0_1) ∧ w'.cell? ⟨gb101, 2, none⟩ = some (.slice A0_2 l0_2.length c0_2)) (ds := []) #[false, false, false, false, false] (by kernel_rfl) rfl rfl ⟨(blk_cell BK121.out 0).trans rfl, (blk_cell BK121.out 1).trans rfl, (blk_cell BK121.out 2).trans rfl, (blk_cell BK101.out 0).trans rfl, (blk_cell BK101.out 1).trans rfl, (blk_cell BK101.out 2).trans rfl⟩ (fun hHeld => ?_)
            generalize wc.drew = w40 at HO_4 HO_7 HO_122001 HO_122002 BK101 BK121 HB hHeld ⊢
            refine take_ (i := 0) (N := some 41) (v := ?_) (a' := ?_) #[true, false, false, false, false] rfl rfl (by kernel_rfl) (fun _ _ _ h => h) (Or.inl ⟨by rfl, ?_⟩) hHeld ?_ ?_
            rotate_left
            · rintro w' ⟨s0, s1, s2, s3, s4, s5⟩
              go_simp
              with_reducible rfl
            rotate_left
            · simp only [Act.put, List.setIfInBounds_toArray, List.set_cons_zero, List.set_cons_succ, i64_w, i32_w]
              rfl
            refine take_ (i := 1) (N := some 42) (v := ?_) (a' := ?_) #[true, true, false, false, false] rfl rfl (by kernel_rfl) (fun _ _ _ h => h) (Or.inl ⟨by rfl, ?_⟩) hHeld ?_ ?_
            rotate_left
            · rintro w' ⟨s0, s1, s2, s3, s4, s5⟩
              go_simp
              with_reducible rfl
            rotate_left
            · simp only [Act.put, List.setIfInBounds_toArray, List.set_cons_zero, List.set_cons_succ, i64_w, i32_w]
              rfl
            refine one_ (i := 2) (N := some 43) #[true, true, true, false, false] rfl rfl (by kernel_rfl) (by decide) (fun K hK => ?_)
            refine goes_ Try.func9 (by kernel_rfl) rfl #[.agg #[.int .i64 a0_0, .slice A0_1 l0_1.length c0_1, .slice A0_2 l0_2.length c0_2]] (by rfl) rfl rfl (by (try simp only [List.map_toArray, List.map_cons, List.map_nil]); first | done | rfl | (simp only [List.length_drop, List.length_take]; rfl)) ?_
            with_reducible refine (laws_toHeap.calls kj10 a0_0 _ _ l0_1 _ _ l0_2 t127 t128 t131 _ ?side1 ?side2 ?side3 ?side4 A35.out).mono ?_
            (case side1 => repeat (first | exact (Kd.C_below HR0_1.out HB.out) | (with_reducible refine Kd.C_alloc ?_ _) | (with_reducible refine Kd.C_drewN ?_ _) | (with_reducible refine Kd.C_drew ?_)))
            (case side2 => exact HC0_1.out)
            (case side3 => repeat (first | exact (Kd.C_below HR0_2.out HB.out) | (with_reducible refine Kd.C_alloc ?_ _) | (with_reducible refine Kd.C_drewN ?_ _) | (with_reducible refine Kd.C_drew ?_)))
            (case side4 => exact HC0_2.out)
            rintro e w41 ⟨v129, v132, rfl, ho0, ho1, hb⟩
            refine ⟨_, rfl, ?_⟩
            have n0_ := Aside0.mk (Kd.R_elder' (by (with_reducible repeat (first | apply Kd.R_alloc | apply Kd.R_drewN | apply Kd.R_drew)); exact HO_4.out) (Kd.R_base ho1) hb)
            have n1_ := Aside0.mk (Kd.R_elder' (by (with_reducible repeat (first | apply Kd.R_alloc | apply Kd.R_drewN | apply Kd.R_drew)); exact HO_7.out) (Kd.R_base ho1) hb)
            have n2_ := Aside0.mk (Kd.R_elder' (by (with_reducible repeat (first | apply Kd.R_alloc | apply Kd.R_drewN | apply Kd.R_drew)); exact HO_122001.out) (Kd.R_base ho0) hb)
            have n3_ := Aside0.mk (Kd.R_elder' (by (with_reducible repeat (first | apply Kd.R_alloc | apply Kd.R_drewN | apply Kd.R_drew)); exact HO_122002.out) (Kd.R_base ho1) hb)
            have n4_ := Aside0.mk (Kd.R_lower (Kd.R_new' ho0 (Kd.R_lt (by (with_reducible repeat (first | apply Kd.R_alloc | apply Kd.R_drewN | apply Kd.R_drew)); exact HO_122001.out))) (below_size (by repeat (first | (with_reducible first | exact HB.out | apply below_alloc | apply pw_below_drewN | apply below_drew1 | refine below_set ?_ GE101.out | refine below_set ?_ GE121.out) | exact HB.out))))
            have n5_ := Aside0.mk (Kd.R_lower (Kd.R_new' (Kd.R_new' (Kd.R_new' ho1 (Kd.R_lt (by (with_reducible repeat (first | apply Kd.R_alloc | apply Kd.R_drewN | apply Kd.R_drew)); exact HO_4.out))) (Kd.R_lt (by (with_reducible repeat (first | apply Kd.R_alloc | apply Kd.R_drewN | apply Kd.R_drew)); exact HO_7.out))) (Kd.R_lt (by (with_reducible repeat (first | apply Kd.R_alloc | apply Kd.R_drewN | apply Kd.R_drew)); exact HO_122002.out))) (below_size (by repeat (first | (with_reducible first | exact HB.out | apply below_alloc | apply pw_below_drewN | apply below_drew1 | refine below_set ?_ GE101.out | refine below_set ?_ GE121.out) | exact HB.out))))
            have n6_ := Aside0.mk (blk_below (g := gb101) (o := .cells #[.int .i64 a0_0, .slice A0_1 l0_1.length c0_1, .slice A0_2 l0_2.length c0_2] 25 (0, 0)) (by (with_reducible repeat (first | refine blk_drewN ?_ _ | refine blk_drew ?_ | refine blk_alloc ?_ _)); exact BK101.out) hb)
            have n7_ := Aside0.mk (blk_below (g := gb121) (o := .cells #[.int .i64 t114, .slice Ao25 t115.length co25, .slice Ao26 t118.length co26] 30 (0, 0)) (by (with_reducible repeat (first | refine blk_drewN ?_ _ | refine blk_drew ?_ | refine blk_alloc ?_ _)); exact BK121.out) hb)
            have n8_ := Aside0.mk (below_step (by repeat (first | (with_reducible first | exact HB.out | apply below_alloc | apply pw_below_drewN | apply below_drew1 | refine below_set ?_ GE101.out | refine below_set ?_ GE121.out) | exact HB.out)) hb)
            clear HO_4
            clear HO_7
            clear HO_122001
            clear HO_122002
            clear BK101
            clear BK121
            clear HB
            have HO_4 := n0_
            have HO_7 := n1_
            have HO_122001 := n2_
            have HO_122002 := n3_
            have HO130 := n4_
            have HO133 := n5_
            have BK101 := n6_
            have BK121 := n7_
            have HB := n8_
            clear n0_ n1_ n2_ n3_ n4_ n5_ n6_ n7_ n8_
            (try clear hb)
            (try clear hb2)
            (try clear hk)
            (try clear hi)
            (try clear ho0)
            (try clear ho1)
            obtain ⟨Ao42, co42, eo42⟩ := Kd.R_slice HO130.out
            (first | subst eo42 | (injection eo42 with f1_ f2_ f3_; have f4_ := f1_.symm; have f5_ := f3_.symm; clear f1_ f2_ f3_; subst f4_; subst f5_))
            obtain ⟨Ao43, co43, eo43⟩ := Kd.R_slice HO133.out
            (first | subst eo43 | (injection eo43 with f1_ f2_ f3_; have f4_ := f1_.symm; have f5_ := f3_.symm; clear f1_ f2_ f3_; subst f4_; subst f5_))
            refine hK.out _ _ ⟨(blk_cell BK121.out 0).trans rfl, (blk_cell BK121.out 1).trans rfl, (blk_cell BK121.out 2).trans rfl, (blk_cell BK101.out 0).trans rfl, (blk_cell BK101.out 1).trans rfl, (blk_cell BK101.out 2).trans rfl⟩ (fun hHeld => ?_)
            clear hK K
            refine norm_ (a' := ?_) ?_ ?_
            rotate_left
            · show Act.put _ (some 43) _ = _
              simp only [Act.put, List.setIfInBounds_toArray, List.set_cons_zero, List.set_cons_succ, i64_w, i32_w]
              rfl
            refine one_ (i := 3) (N := some 44) #[true, true, true, true, false] rfl rfl (by kernel_rfl) (by decide) (fun K hK => ?_)
            refine goes_ Try.func11 (by kernel_rfl) rfl #[.agg #[.int .i64 t114, .slice Ao25 t115.length co25, .slice Ao26 t118.length co26], .agg #[.int .i64 t127, .slice Ao42 t128.length co42, .slice Ao43 t131.length co43]] (by rfl) rfl rfl (by (try simp only [List.map_toArray, List.map_cons, List.map_nil]); first | done | rfl | (simp only [List.length_drop, List.length_take]; rfl)) ?_
            with_reducible refine (laws_eqHeap.calls kj10 t114 _ _ t115 _ _ t118 t127 _ _ t128 _ _ t131 true _ ?side1 ?side2 ?side3 ?side4 ?side5 ?side6 ?side7 ?side8 A36.out).mono ?_
            (case side1 => repeat (first | exact (Kd.R_reads' HO_122001.out).2.2 | (with_reducible refine Kd.C_alloc ?_ _) | (with_reducible refine Kd.C_drewN ?_ _) | (with_reducible refine Kd.C_drew ?_)))
            (case side2 => exact (Kd.R_reads' HO_122001.out).2.1)
            (case side3 => repeat (first | exact (Kd.R_reads' HO_122002.out).2.2 | (with_reducible refine Kd.C_alloc ?_ _) | (with_reducible refine Kd.C_drewN ?_ _) | (with_reducible refine Kd.C_drew ?_)))
            (case side4 => exact (Kd.R_reads' HO_122002.out).2.1)
            (case side5 => repeat (first | exact (Kd.R_reads' HO130.out).2.2 | (with_reducible refine Kd.C_alloc ?_ _) | (with_reducible refine Kd.C_drewN ?_ _) | (with_reducible refine Kd.C_drew ?_)))
            (case side6 => exact (Kd.R_reads' HO130.out).2.1)
            (case side7 => repeat (first | exact (Kd.R_reads' HO133.out).2.2 | (with_reducible refine Kd.C_alloc ?_ _) | (with_reducible refine Kd.C_drewN ?_ _) | (with_reducible refine Kd.C_drew ?_)))
            (case side8 => exact (Kd.R_reads' HO133.out).2.1)
            rintro e w44 ⟨rfl, hb⟩
            refine ⟨_, rfl, ?_⟩
            have n0_ := Aside0.mk (Kd.R_below (by (with_reducible repeat (first | apply Kd.R_alloc | apply Kd.R_drewN | apply Kd.R_drew)); exact HO_4.out) hb)
            have n1_ := Aside0.mk (Kd.R_below (by (with_reducible repeat (first | apply Kd.R_alloc | apply Kd.R_drewN | apply Kd.R_drew)); exact HO_7.out) hb)
            have n2_ := Aside0.mk (Kd.R_below (by (with_reducible repeat (first | apply Kd.R_alloc | apply Kd.R_drewN | apply Kd.R_drew)); exact HO_122001.out) hb)
            have n3_ := Aside0.mk (Kd.R_below (by (with_reducible repeat (first | apply Kd.R_alloc | apply Kd.R_drewN | apply Kd.R_drew)); exact HO_122002.out) hb)
            have n4_ := Aside0.mk (Kd.R_below (by (with_reducible repeat (first | apply Kd.R_alloc | apply Kd.R_drewN | apply Kd.R_drew)); exact HO130.out) hb)
            have n5_ := Aside0.mk (Kd.R_below (by (with_reducible repeat (first | apply Kd.R_alloc | apply Kd.R_drewN | apply Kd.R_drew)); exact HO133.out) hb)
            have n6_ := Aside0.mk (blk_below (g := gb101) (o := .cells #[.int .i64 a0_0, .slice A0_1 l0_1.length c0_1, .slice A0_2 l0_2.length c0_2] 25 (0, 0)) (by (with_reducible repeat (first | refine blk_drewN ?_ _ | refine blk_drew ?_ | refine blk_alloc ?_ _)); exact BK101.out) hb)
            have n7_ := Aside0.mk (blk_below (g := gb121) (o := .cells #[.int .i64 t114, .slice Ao25 t115.length co25, .slice Ao26 t118.length co26] 30 (0, 0)) (by (with_reducible repeat (first | refine blk_drewN ?_ _ | refine blk_drew ?_ | refine blk_alloc ?_ _)); exact BK121.out) hb)
            have n8_ := Aside0.mk (below_step (by repeat (first | (with_reducible first | exact HB.out | apply below_alloc | apply pw_below_drewN | apply below_drew1 | refine below_set ?_ GE101.out | refine below_set ?_ GE121.out) | exact HB.out)) hb)
            clear HO_4
            clear HO_7
            clear HO_122001
            clear HO_122002
            clear HO130
            clear HO133
            clear BK101
            clear BK121
            clear HB
            have HO_4 := n0_
            have HO_7 := n1_
            have HO_122001 := n2_
            have HO_122002 := n3_
            have HO130 := n4_
            have HO133 := n5_
            have BK101 := n6_
            have BK121 := n7_
            have HB := n8_
            clear n0_ n1_ n2_ n3_ n4_ n5_ n6_ n7_ n8_
            (try clear hb)
            (try clear hb2)
            (try clear hk)
            (try clear hi)
            refine hK.out _ _ ⟨(blk_cell BK121.out 0).trans rfl, (blk_cell BK121.out 1).trans rfl, (blk_cell BK121.out 2).trans rfl, (blk_cell BK101.out 0).trans rfl, (blk_cell BK101.out 1).trans rfl, (blk_cell BK101.out 2).trans rfl⟩ (fun hHeld => ?_)
            clear hK K
            refine norm_ (a' := ?_) ?_ ?_
            rotate_left
            · show Act.put _ (some 44) _ = _
              simp only [Act.put, List.setIfInBounds_toArray, List.set_cons_zero, List.set_cons_succ, i64_w, i32_w]
              rfl
            refine pure_ (i := 4) (N := some 45) (v := ?_) (a' := ?_) #[true, true, true, true, true] rfl rfl (by kernel_rfl) (fun _ _ _ h => h) (Or.inl ⟨by rfl, ?_⟩) ?_ ?_
            rotate_left
            · intro w'
              go_simp
              with_reducible rfl
            rotate_left
            · simp only [Act.put, List.setIfInBounds_toArray, List.set_cons_zero, List.set_cons_succ, i64_w, i32_w]
              rfl
            refine done_ (by kernel_rfl) ?_
            have hnb45 := NB121_101.out
            have hnc45 := NB101_121.out
            have hcz46_0 : w44.cell? ⟨gb121, 0, none⟩ = some (.int .i64 t114) := (blk_cell BK121.out 0).trans rfl
            have hcz46_1 : w44.cell? ⟨gb121, 1, none⟩ = some (.slice Ao25 t115.length co25) := (blk_cell BK121.out 1).trans rfl
            have hcz46_2 : w44.cell? ⟨gb121, 2, none⟩ = some (.slice Ao26 t118.length co26) := (blk_cell BK121.out 2).trans rfl
            have hfz46_0 := blk_frozen BK121.out 0
            have hfz46_1 := blk_frozen BK121.out 1
            have hfz46_2 := blk_frozen BK121.out 2
            go_upto_region 14 with (first | ((with_reducible refine gate_callee (f := 15) rfl ?_); refine goesL_ (some 48) rfl rfl Try.func15 (by kernel_rfl) rfl #[.agg #[.int .i64 t114, .slice Ao25 t115.length co25, .slice Ao26 t118.length co26], .int .i64 1] rfl (by (try simp only [List.map_toArray, List.map_cons, List.map_nil]); first | done | rfl | (simp only [List.length_drop, List.length_take]; rfl)) ?_; (with_reducible refine (laws_markHeap.calls kj10 t114 (fun k_ => some k_ = (.slice Ao25 t115.length co25 : Value).ownBlock) (.slice Ao25 t115.length co25) t115 (fun k_ => some k_ = (.slice Ao26 t118.length co26 : Value).ownBlock) (.slice Ao26 t118.length co26) t118 1 t135 t136 t137 w _ ?side1 ?side2 ?side3 A38.out).mono ?_); (case side1 => repeat (first | (with_reducible first | exact HB.out | apply below_alloc | apply pw_below_drewN | apply below_drew1 | refine below_set ?_ GE101.out | refine below_set ?_ GE121.out) | exact HB.out)); (case side2 => exact Kd.R_tight rfl HO_122001.out); (case side3 => exact Kd.R_tight rfl HO_122002.out); rintro e w47 ⟨rfl, hy0, hy1, hb, hkp⟩; refine ⟨_, rfl, ?_⟩; have n0_ := Aside0.mk (Kd.R_mono (ok' := fun k_ => some k_ ≠ (v123 : Value).ownBlock ∧ some k_ ≠ (.slice Ao26 t118.length co26 : Value).ownBlock ∧ some k_ ≠ (.slice Ao43 t131.length co43 : Value).ownBlock) (Kd.R_keptB ((Kd.R_apart' HO_4.out (Kd.R_typed HO_122001.out) (by decide))) hkp (fun k_ hk_ hs_ => Or.elim hs_ (fun e_ => (hk_.2) e_) (fun e_ => (hk_.1.1.2) e_))) (fun k_ hk_ => ⟨hk_.1.1.1.1, hk_.1.1.1.2, hk_.1.1.2⟩)); have n1_ := Aside0.mk (Kd.R_mono (ok' := fun k_ => some k_ ≠ (v111 : Value).ownBlock ∧ some k_ ≠ (.slice Ao26 t118.length co26 : Value).ownBlock ∧ some k_ ≠ (.slice Ao43 t131.length co43 : Value).ownBlock) (Kd.R_keptB ((Kd.R_apart' HO_7.out (Kd.R_typed HO_122001.out) (by decide))) hkp (fun k_ hk_ hs_ => Or.elim hs_ (fun e_ => (hk_.2) e_) (fun e_ => (hk_.1.1.2) e_))) (fun k_ hk_ => ⟨hk_.1.1.1.1, hk_.1.1.1.2, hk_.1.1.2⟩)); have n2_ := Aside0.mk (Kd.R_reok rfl hy0 (fun k_ e_ => HO_122001.out.1 k_ e_)); have n3_ := Aside0.mk (Kd.R_reok rfl hy1 (fun k_ e_ => HO_122002.out.1 k_ e_)); have n4_ := Aside0.mk (blk_kept (by (with_reducible repeat (first | refine blk_drewN ?_ _ | refine blk_drew ?_ | refine blk_alloc ?_ _)); exact BK101.out) hkp (fun hs_ => Or.elim hs_ (fun e_ => (fun e_ => (Kd.R_ne HO_122001.out BK101.out (by decide)) e_) e_) (fun e_ => (fun e_ => (Kd.R_ne HO_122002.out BK101.out (by decide)) e_) e_))); have n5_ := Aside0.mk (blk_kept (by (with_reducible repeat (first | refine blk_drewN ?_ _ | refine blk_drew ?_ | refine blk_alloc ?_ _)); exact BK121.out) hkp (fun hs_ => Or.elim hs_ (fun e_ => (fun e_ => (Kd.R_ne HO_122001.out BK121.out (by decide)) e_) e_) (fun e_ => (fun e_ => (Kd.R_ne HO_122002.out BK121.out (by decide)) e_) e_))); have n6_ := Aside0.mk (Kd.R_mono (ok' := fun k_ => some k_ ≠ (.slice Ao25 t115.length co25 : Value).ownBlock) (Kd.R_keptB ((Kd.R_apart' HO130.out (Kd.R_typed HO_122002.out) (by decide))) hkp (fun k_ hk_ hs_ => Or.elim hs_ (fun e_ => (hk_.1.2) e_) (fun e_ => (hk_.2) e_))) (fun k_ hk_ => hk_.1.1.2)); have n7_ := Aside0.mk (Kd.R_mono (ok' := fun k_ => some k_ ≠ (v111 : Value).ownBlock ∧ some k_ ≠ (v123 : Value).ownBlock ∧ some k_ ≠ (.slice Ao26 t118.length co26 : Value).ownBlock) (Kd.R_keptB ((Kd.R_apart' HO133.out (Kd.R_typed HO_122001.out) (by decide))) hkp (fun k_ hk_ hs_ => Or.elim hs_ (fun e_ => (hk_.2) e_) (fun e_ => (hk_.1.2) e_))) (fun k_ hk_ => ⟨hk_.1.1.1.1.2, hk_.1.1.1.2, hk_.1.1.2⟩)); have n8_ := Aside0.mk (hb); clear HO_4; clear HO_7; clear HO_122001; clear HO_122002; clear BK101; clear BK121; clear HO130; clear HO133; clear HB; have HO_4 := n0_; have HO_7 := n1_; have HO_122001 := n2_; have HO_122002 := n3_; have BK101 := n4_; have BK121 := n5_; have HO130 := n6_; have HO133 := n7_; have HB := n8_; clear n0_ n1_ n2_ n3_ n4_ n5_ n6_ n7_ n8_; (try clear hb); (try clear hkp); (try clear hy0); (try clear hy1)))
            (try simp only [Act.put, List.setIfInBounds_toArray, List.set_cons_zero, List.set_cons_succ])
            go_cut [61] (fun v61 wc => ∃ (kq : Nat) (x61_38 : Bool), v61 = .bool x61_38 ∧ Aside0 (laws_FnExactReachIn.j1 kq t110 t113 t122 x61_38 a0_0 l0_1 l0_2 = some r) ∧ Aside0 (kq ≤ kj10) ∧ Aside0 (Kd.R (Kd.int .i64) 3 wc w.heap.size (fun k_ => some k_ ≠ (v123 : Value).ownBlock ∧ some k_ ≠ ((.slice Ao26 t118.length co26) : Value).ownBlock) v111 t110) ∧ Aside0 (Kd.R (Kd.int .i64) 3 wc w.heap.size (fun k_ => some k_ ≠ (v111 : Value).ownBlock ∧ some k_ ≠ ((.slice Ao26 t118.length co26) : Value).ownBlock) v123 t122) ∧ Aside0 (Kd.R k44 44 wc w.heap.size (fun _ => True) (.slice Ao25 t115.length co25) t136) ∧ Aside0 (Kd.R (Kd.int .i64) 3 wc w.heap.size (fun k_ => some k_ ≠ (v111 : Value).ownBlock ∧ some k_ ≠ (v123 : Value).ownBlock) (.slice Ao26 t118.length co26) t137) ∧ Aside0 (wc.heap[gb101]? = some (.cells #[.int .i64 a0_0, (.slice A0_1 l0_1.length c0_1), (.slice A0_2 l0_2.length c0_2)] 25 (0, 0))) ∧ Aside0 (wc.heap[gb121]? = some (.cells #[.int .i64 t114, (.slice Ao25 t115.length co25), (.slice Ao26 t118.length co26)] 30 (0, 0))) ∧ Aside0 (Below w.heap.size w wc))
            case first =>
              have H := HC39.out
              clear HC39
              by_cases c48 : t135 < 0
              · rw [if_pos c48] at H
                have c48b0 : decide (t135 < 0) = true := decide_eq_true c48
                clear c48
                (first | rw [c48b0] | (simp only [i64_w, i32_w]; rw [c48b0]) | skip)
                have H' := Aside0.mk H
                clear H
                go_wp2
                go_meet
                case rel => exact ⟨_, (true), (by first | rfl | (simp; done) | (simp [*]; done)), H', ⟨by have := HJ10.out; first | omega | exact Nat.le_refl _⟩, ⟨by (with_reducible repeat (first | apply Kd.R_alloc | apply Kd.R_drewN | apply Kd.R_drew)); exact Kd.R_mono HO_4.out (fun _ hk => ⟨hk.1, hk.2.1⟩)⟩, ⟨by (with_reducible repeat (first | apply Kd.R_alloc | apply Kd.R_drewN | apply Kd.R_drew)); exact Kd.R_mono HO_7.out (fun _ hk => ⟨hk.1, hk.2.1⟩)⟩, ⟨by (with_reducible repeat (first | apply Kd.R_alloc | apply Kd.R_drewN | apply Kd.R_drew)); exact Kd.R_mono HO_122001.out (fun _ hk => trivial)⟩, ⟨by (with_reducible repeat (first | apply Kd.R_alloc | apply Kd.R_drewN | apply Kd.R_drew)); exact Kd.R_mono HO_122002.out (fun _ hk => ⟨hk.1.1, hk.1.2⟩)⟩, ⟨by (with_reducible repeat (first | refine blk_drewN ?_ _ | refine blk_drew ?_ | refine blk_alloc ?_ _)); exact BK101.out⟩, ⟨by (with_reducible repeat (first | refine blk_drewN ?_ _ | refine blk_drew ?_ | refine blk_alloc ?_ _)); exact BK121.out⟩, ⟨by repeat (first | (with_reducible first | exact HB.out | apply below_alloc | apply pw_below_drewN | apply below_drew1 | refine below_set ?_ GE101.out | refine below_set ?_ GE121.out) | exact HB.out)⟩⟩
              · rw [if_neg c48] at H
                have c48b0 : decide (t135 < 0) = false := decide_eq_false c48
                clear c48
                (first | rw [c48b0] | (simp only [i64_w, i32_w]; rw [c48b0]) | skip)
                replace H := Option.bind_eq_some_iff.mp H
                obtain ⟨t138, A490, H⟩ := H
                replace H : (if t138 = true then (laws_FnExactReachIn.j1 kj10 t110 t113 t122 (t125 != t113) a0_0 l0_1 l0_2) else (laws_FnExactReachIn.j1 kj10 t110 t113 t122 true a0_0 l0_1 l0_2)) = some r := H
                have A49 := Aside0.mk A490
                clear A490
                by_cases c50 : t138 = true
                · subst c50
                  have H1 : (laws_FnExactReachIn.j1 kj10 t110 t113 t122 (t125 != t113) a0_0 l0_1 l0_2) = some r := by rw [if_pos rfl] at H; exact H
                  clear H
                  have H := H1
                  clear H1
                  have H' := Aside0.mk H
                  clear H
                  obtain ⟨Ao51, co51, eo51⟩ := Kd.R_slice HO_7.out
                  subst eo51
                  obtain ⟨Ao52, co52, eo52⟩ := Kd.R_slice HO_4.out
                  subst eo52
                  go_wp2_with (first | (go_at_call 14; (with_reducible refine (laws_eqIntS.calls kj10 _ _ t122 _ _ t110 true _ ?side1 ?side2 ?side3 ?side4 A49.out).mono ?_); (case side1 => repeat (first | exact (Kd.R_reads' HO_7.out).2.2 | (with_reducible refine Kd.C_alloc ?_ _) | (with_reducible refine Kd.C_drewN ?_ _) | (with_reducible refine Kd.C_drew ?_))); (case side2 => exact (Kd.R_reads' HO_7.out).2.1); (case side3 => repeat (first | exact (Kd.R_reads' HO_4.out).2.2 | (with_reducible refine Kd.C_alloc ?_ _) | (with_reducible refine Kd.C_drewN ?_ _) | (with_reducible refine Kd.C_drew ?_))); (case side4 => exact (Kd.R_reads' HO_4.out).2.1); rintro e w' ⟨rfl, ⟨nd, rfl⟩⟩))
                  go_meet
                  case rel => exact ⟨_, ((t125 != t113)), (by first | rfl | (simp; done) | (simp [*]; done)), H', ⟨by have := HJ10.out; first | omega | exact Nat.le_refl _⟩, ⟨by (with_reducible repeat (first | apply Kd.R_alloc | apply Kd.R_drewN | apply Kd.R_drew)); exact Kd.R_mono HO_4.out (fun _ hk => ⟨hk.1, hk.2.1⟩)⟩, ⟨by (with_reducible repeat (first | apply Kd.R_alloc | apply Kd.R_drewN | apply Kd.R_drew)); exact Kd.R_mono HO_7.out (fun _ hk => ⟨hk.1, hk.2.1⟩)⟩, ⟨by (with_reducible repeat (first | apply Kd.R_alloc | apply Kd.R_drewN | apply Kd.R_drew)); exact Kd.R_mono HO_122001.out (fun _ hk => trivial)⟩, ⟨by (with_reducible repeat (first | apply Kd.R_alloc | apply Kd.R_drewN | apply Kd.R_drew)); exact Kd.R_mono HO_122002.out (fun _ hk => ⟨hk.1.1, hk.1.2⟩)⟩, ⟨by (with_reducible repeat (first | refine blk_drewN ?_ _ | refine blk_drew ?_ | refine blk_alloc ?_ _)); exact BK101.out⟩, ⟨by (with_reducible repeat (first | refine blk_drewN ?_ _ | refine blk_drew ?_ | refine blk_alloc ?_ _)); exact BK121.out⟩, ⟨by repeat (first | (with_reducible first | exact HB.out | apply below_alloc | apply pw_below_drewN | apply below_drew1 | refine below_set ?_ GE101.out | refine below_set ?_ GE121.out) | exact HB.out)⟩⟩
                · replace c50 := Bool.eq_false_iff.mpr c50
                  subst c50
                  have H1 : (laws_FnExactReachIn.j1 kj10 t110 t113 t122 true a0_0 l0_1 l0_2) = some r := by rw [if_neg (show ¬ (false = true) by decide)] at H; exact H
                  clear H
                  have H := H1
                  clear H1
                  have H' := Aside0.mk H
                  clear H
                  obtain ⟨Ao53, co53, eo53⟩ := Kd.R_slice HO_7.out
                  subst eo53
                  obtain ⟨Ao54, co54, eo54⟩ := Kd.R_slice HO_4.out
                  subst eo54
                  go_wp2_with (first | (go_at_call 14; (with_reducible refine (laws_eqIntS.calls kj10 _ _ t122 _ _ t110 false _ ?side1 ?side2 ?side3 ?side4 A49.out).mono ?_); (case side1 => repeat (first | exact (Kd.R_reads' HO_7.out).2.2 | (with_reducible refine Kd.C_alloc ?_ _) | (with_reducible refine Kd.C_drewN ?_ _) | (with_reducible refine Kd.C_drew ?_))); (case side2 => exact (Kd.R_reads' HO_7.out).2.1); (case side3 => repeat (first | exact (Kd.R_reads' HO_4.out).2.2 | (with_reducible refine Kd.C_alloc ?_ _) | (with_reducible refine Kd.C_drewN ?_ _) | (with_reducible refine Kd.C_drew ?_))); (case side4 => exact (Kd.R_reads' HO_4.out).2.1); rintro e w' ⟨rfl, ⟨nd, rfl⟩⟩))
                  go_meet
                  case rel => exact ⟨_, (true), (by first | rfl | (simp; done) | (simp [*]; done)), H', ⟨by have := HJ10.out; first | omega | exact Nat.le_refl _⟩, ⟨by (with_reducible repeat (first | apply Kd.R_alloc | apply Kd.R_drewN | apply Kd.R_drew)); exact Kd.R_mono HO_4.out (fun _ hk => ⟨hk.1, hk.2.1⟩)⟩, ⟨by (with_reducible repeat (first | apply Kd.R_alloc | apply Kd.R_drewN | apply Kd.R_drew)); exact Kd.R_mono HO_7.out (fun _ hk => ⟨hk.1, hk.2.1⟩)⟩, ⟨by (with_reducible repeat (first | apply Kd.R_alloc | apply Kd.R_drewN | apply Kd.R_drew)); exact Kd.R_mono HO_122001.out (fun _ hk => trivial)⟩, ⟨by (with_reducible repeat (first | apply Kd.R_alloc | apply Kd.R_drewN | apply Kd.R_drew)); exact Kd.R_mono HO_122002.out (fun _ hk => ⟨hk.1.1, hk.1.2⟩)⟩, ⟨by (with_reducible repeat (first | refine blk_drewN ?_ _ | refine blk_drew ?_ | refine blk_alloc ?_ _)); exact BK101.out⟩, ⟨by (with_reducible repeat (first | refine blk_drewN ?_ _ | refine blk_drew ?_ | refine blk_alloc ?_ _)); exact BK121.out⟩, ⟨by repeat (first | (with_reducible first | exact HB.out | apply below_alloc | apply pw_below_drewN | apply below_drew1 | refine below_set ?_ GE101.out | refine below_set ?_ GE121.out) | exact HB.out)⟩⟩
            case rest =>
              clear HC39
              try clear c1
              try clear c2
              try clear p2
              try clear c3
              try clear c3b0
              try clear c4
              try clear c5
              try clear c7
              try clear c9
              try clear c11
              try clear c12
              try clear c13
              try clear c14
              try clear c15
              try clear c23
              try clear c29
              try clear c34
              try clear c37
              try clear c45
              try clear c48
              try clear c48b0
              try clear c50
              try clear hcz13_0
              try clear hcz13_1
              try clear hcz13_2
              try clear hcz15_0
              try clear hcz15_1
              try clear hcz15_2
              try clear hcz20_0
              try clear hcz20_1
              try clear hcz20_2
              try clear hcz24_0
              try clear hcz24_1
              try clear hcz24_2
              try clear hcz46_0
              try clear hcz46_1
              try clear hcz46_2
              try clear hcz5_0
              try clear hcz5_1
              try clear hcz5_2
              try clear hfz13_0
              try clear hfz13_1
              try clear hfz13_2
              try clear hfz15_0
              try clear hfz15_1
              try clear hfz15_2
              try clear hfz20_0
              try clear hfz20_1
              try clear hfz20_2
              try clear hfz24_0
              try clear hfz24_1
              try clear hfz24_2
              try clear hfz46_0
              try clear hfz46_1
              try clear hfz46_2
              try clear hfz5_0
              try clear hfz5_1
              try clear hfz5_2
              try clear p2
              obtain ⟨kq, x61_38, rfl, HA, HJ38, HO_4, HO_7, HO_122001, HO_122002, BK101, BK121, HB⟩ := hcut
              have hl122001_38 := (Kd.R_reads' HO_122001.out).1
              rw [hl122001_38] at HO_122001
              (try simp only [hl122001_38])
              (try simp only [hl122001_38] at BK101)
              (try simp only [hl122001_38] at BK121)
              (try simp only [hl122001_38] at HO_4)
              (try simp only [hl122001_38] at HO_7)
              (try simp only [hl122001_38] at HO_122002)
              have hl122002_38 := (Kd.R_reads' HO_122002.out).1
              rw [hl122002_38] at HO_122002
              (try simp only [hl122002_38])
              (try simp only [hl122002_38] at BK101)
              (try simp only [hl122002_38] at BK121)
              (try simp only [hl122002_38] at HO_4)
              (try simp only [hl122002_38] at HO_7)
              (try simp only [hl122002_38] at HO_122001)
              cases kq with
              | zero => exact absurd HA.out (by simp [laws_FnExactReachIn.j1])
              | succ kj38 =>
                have H := HA.out
                clear HA
                simp only [laws_FnExactReachIn.j1] at H
                by_cases c55 : x61_38 = true
                · subst c55
                  have H1 : (some false) = some r := by rw [if_pos rfl] at H; exact H
                  clear H
                  have H := H1
                  clear H1
                  obtain rfl := Option.some.inj H
                  go_wp2
                  go_ret
                  exact ⟨by first | rfl | (simp [errW_none, errW_some] <;> rfl) | (simp [*, errW_none, errW_some] <;> rfl), by repeat (first | (with_reducible first | exact HB.out | apply below_alloc | apply pw_below_drewN | apply below_drew1 | refine below_set ?_ GE101.out | refine below_set ?_ GE121.out) | exact HB.out)⟩
                · replace c55 := Bool.eq_false_iff.mpr c55
                  subst c55
                  have H1 : ((laws_markIntS.f kj38 t122 1).bind fun bt139 => ((laws_heldIntS.f kj38 bt139.2 1).bind fun t141 => (if t141 < 0 then (some false) else (if t141 = bt139.1 then ((laws_toHeap.f kj38 a0_0 l0_1 l0_2).bind fun bt142 => ((impl_ReachIn.f kj38 bt142.1 bt142.2.1 bt142.2.2).bind fun bt149 => ((laws_eqIntS.f kj38 bt149.1 t110).bind fun t153 => (if t153 = true then (laws_FnExactReachIn.j2 kj38 bt139.2 bt139.1 (bt149.2 != t113)) else (laws_FnExactReachIn.j2 kj38 bt139.2 bt139.1 true))))) else (some false))))) = some r := by rw [if_neg (show ¬ (false = true) by decide)] at H; exact H
                  clear H
                  have H := H1
                  clear H1
                  replace H := Option.bind_eq_some_iff.mp H
                  obtain ⟨⟨t139, t140⟩, A560, H⟩ := H
                  replace H : ((laws_heldIntS.f kj38 t140 1).bind fun t141 => (if t141 < 0 then (some false) else (if t141 = t139 then ((laws_toHeap.f kj38 a0_0 l0_1 l0_2).bind fun bt142 => ((impl_ReachIn.f kj38 bt142.1 bt142.2.1 bt142.2.2).bind fun bt149 => ((laws_eqIntS.f kj38 bt149.1 t110).bind fun t153 => (if t153 = true then (laws_FnExactReachIn.j2 kj38 t140 t139 (bt149.2 != t113)) else (laws_FnExactReachIn.j2 kj38 t140 t139 true))))) else (some false)))) = some r := H
                  have A56 := Aside0.mk A560
                  clear A560
                  replace H := Option.bind_eq_some_iff.mp H
                  obtain ⟨t141, A570, H⟩ := H
                  replace H : (if t141 < 0 then (some false) else (if t141 = t139 then ((laws_toHeap.f kj38 a0_0 l0_1 l0_2).bind fun bt142 => ((impl_ReachIn.f kj38 bt142.1 bt142.2.1 bt142.2.2).bind fun bt149 => ((laws_eqIntS.f kj38 bt149.1 t110).bind fun t153 => (if t153 = true then (laws_FnExactReachIn.j2 kj38 t140 t139 (bt149.2 != t113)) else (laws_FnExactReachIn.j2 kj38 t140 t139 true))))) else (some false))) = some r := H
                  have A57 := Aside0.mk A570
                  clear A570
                  by_cases c58 : t141 < 0
                  · rw [if_pos c58] at H
                    have c58b0 : decide (t141 < 0) = true := decide_eq_true c58
                    clear c58
                    obtain rfl := Option.some.inj H
                    obtain ⟨Ao59, co59, eo59⟩ := Kd.R_slice HO_7.out
                    subst eo59
                    go_wp2_with (first | ((with_reducible refine gate_callee (f := 16) rfl ?_); refine goesL_ (some 64) rfl rfl Try.func16 (by kernel_rfl) rfl #[.slice Ao59 t122.length co59, .int .i64 1] rfl (by (try simp only [List.map_toArray, List.map_cons, List.map_nil]); first | done | rfl | (simp only [List.length_drop, List.length_take]; rfl)) ?_; (with_reducible refine (laws_markIntS.calls kj38 (fun k_ => some k_ = (.slice Ao59 t122.length co59 : Value).ownBlock) (.slice Ao59 t122.length co59) t122 1 t139 t140 w _ ?side1 ?side2 A56.out).mono ?_); (case side1 => repeat (first | (with_reducible first | exact HB.out | apply below_alloc | apply pw_below_drewN | apply below_drew1 | refine below_set ?_ GE101.out | refine below_set ?_ GE121.out) | exact HB.out)); (case side2 => exact Kd.R_tight rfl HO_7.out); rintro e w60 ⟨rfl, hy0, hb, hkp⟩; refine ⟨_, rfl, ?_⟩; have n0_ := Aside0.mk (Kd.R_mono (ok' := fun k_ => some k_ ≠ (.slice Ao59 t122.length co59 : Value).ownBlock ∧ some k_ ≠ (.slice Ao26 t137.length co26 : Value).ownBlock) (Kd.R_keptB (HO_4.out) hkp (fun k_ hk_ hs_ => (hk_.1) hs_)) (fun k_ hk_ => ⟨hk_.1.1, hk_.1.2⟩)); have n1_ := Aside0.mk (Kd.R_reok rfl hy0 (fun k_ e_ => HO_7.out.1 k_ e_)); have n2_ := Aside0.mk (Kd.R_mono (ok' := fun k_ => True) (Kd.R_keptB ((Kd.R_apart' HO_122001.out (Kd.R_typed HO_7.out) (by decide))) hkp (fun k_ hk_ hs_ => (hk_.2) hs_)) (fun k_ hk_ => trivial)); have n3_ := Aside0.mk (Kd.R_mono (ok' := fun k_ => some k_ ≠ (v111 : Value).ownBlock ∧ some k_ ≠ (.slice Ao59 t122.length co59 : Value).ownBlock) (Kd.R_keptB (HO_122002.out) hkp (fun k_ hk_ hs_ => (hk_.2) hs_)) (fun k_ hk_ => ⟨hk_.1.1, hk_.1.2⟩)); have n4_ := Aside0.mk (blk_kept (by (with_reducible repeat (first | refine blk_drewN ?_ _ | refine blk_drew ?_ | refine blk_alloc ?_ _)); exact BK101.out) hkp (fun hs_ => (fun e_ => (Kd.R_ne HO_7.out BK101.out (by decide)) e_) hs_)); have n5_ := Aside0.mk (blk_kept (by (with_reducible repeat (first | refine blk_drewN ?_ _ | refine blk_drew ?_ | refine blk_alloc ?_ _)); exact BK121.out) hkp (fun hs_ => (fun e_ => (Kd.R_ne HO_7.out BK121.out (by decide)) e_) hs_)); have n6_ := Aside0.mk (hb); clear HO_4; clear HO_7; clear HO_122001; clear HO_122002; clear BK101; clear BK121; clear HB; have HO_4 := n0_; have HO_7 := n1_; have HO_122001 := n2_; have HO_122002 := n3_; have BK101 := n4_; have BK121 := n5_; have HB := n6_; clear n0_ n1_ n2_ n3_ n4_ n5_ n6_; (try clear hb); (try clear hkp); (try clear hy0)) | ((with_reducible refine gate_callee (f := 17) rfl ?_); refine goesL_ (some 67) rfl rfl Try.func17 (by kernel_rfl) rfl #[.slice Ao59 t140.length co59, .int .i64 1] rfl (by (try simp only [List.map_toArray, List.map_cons, List.map_nil]); first | done | (rw [show t140.length = t122.length from (Kd.R_reads' HO_7.out).1.symm] <;> rfl) | rfl | (simp only [List.length_drop, List.length_take]; rfl)) ?_; (with_reducible refine (laws_heldIntS.calls kj38 _ _ t140 1 t141 _ ?side1 ?side2 A57.out).mono ?_); (case side1 => repeat (first | exact (Kd.R_reads' HO_7.out).2.2 | (with_reducible refine Kd.C_alloc ?_ _) | (with_reducible refine Kd.C_drewN ?_ _) | (with_reducible refine Kd.C_drew ?_))); (case side2 => rw [show t140.length = t122.length from (Kd.R_reads' HO_7.out).1.symm]; exact (Kd.R_reads' HO_7.out).2.1); rintro e w' ⟨rfl, ⟨nd, rfl⟩⟩; refine ⟨_, rfl, ?_⟩))
                    go_ret
                    exact ⟨by first | rfl | (simp [errW_none, errW_some] <;> rfl) | (simp [*, errW_none, errW_some] <;> rfl), by repeat (first | (with_reducible first | exact HB.out | apply below_alloc | apply pw_below_drewN | apply below_drew1 | refine below_set ?_ GE101.out | refine below_set ?_ GE121.out) | exact HB.out)⟩
                  · rw [if_neg c58] at H
                    have c58b0 : decide (t141 < 0) = false := decide_eq_false c58
                    clear c58
                    by_cases c61 : t141 = t139
                    · rw [if_pos c61] at H
                      have c61b0 : (t141 == t139) = true := beq_iff_eq.mpr c61
                      have c61b1 : (t141 != t139) = false := bne_eq_false_iff_eq.mpr c61
                      clear c61
                      replace H := Option.bind_eq_some_iff.mp H
                      obtain ⟨⟨t142, t143, t146⟩, A620, H⟩ := H
                      replace H : ((impl_ReachIn.f kj38 t142 t143 t146).bind fun bt149 => ((laws_eqIntS.f kj38 bt149.1 t110).bind fun t153 => (if t153 = true then (laws_FnExactReachIn.j2 kj38 t140 t139 (bt149.2 != t113)) else (laws_FnExactReachIn.j2 kj38 t140 t139 true)))) = some r := H
                      have A62 := Aside0.mk A620
                      clear A620
                      replace H := Option.bind_eq_some_iff.mp H
                      obtain ⟨⟨t149, t152⟩, A630, H⟩ := H
                      replace H : ((laws_eqIntS.f kj38 t149 t110).bind fun t153 => (if t153 = true then (laws_FnExactReachIn.j2 kj38 t140 t139 (t152 != t113)) else (laws_FnExactReachIn.j2 kj38 t140 t139 true))) = some r := H
                      have A63 := Aside0.mk A630
                      clear A630
                      have HC64 := Aside0.mk H
                      clear H
                      obtain ⟨Ao65, co65, eo65⟩ := Kd.R_slice HO_7.out
                      subst eo65
                      go_upto_region 25 with (first | ((with_reducible refine gate_callee (f := 16) rfl ?_); refine goesL_ (some 64) rfl rfl Try.func16 (by kernel_rfl) rfl #[.slice Ao65 t122.length co65, .int .i64 1] rfl (by (try simp only [List.map_toArray, List.map_cons, List.map_nil]); first | done | rfl | (simp only [List.length_drop, List.length_take]; rfl)) ?_; (with_reducible refine (laws_markIntS.calls kj38 (fun k_ => some k_ = (.slice Ao65 t122.length co65 : Value).ownBlock) (.slice Ao65 t122.length co65) t122 1 t139 t140 w _ ?side1 ?side2 A56.out).mono ?_); (case side1 => repeat (first | (with_reducible first | exact HB.out | apply below_alloc | apply pw_below_drewN | apply below_drew1 | refine below_set ?_ GE101.out | refine below_set ?_ GE121.out) | exact HB.out)); (case side2 => exact Kd.R_tight rfl HO_7.out); rintro e w66 ⟨rfl, hy0, hb, hkp⟩; refine ⟨_, rfl, ?_⟩; have n0_ := Aside0.mk (Kd.R_mono (ok' := fun k_ => some k_ ≠ (.slice Ao65 t122.length co65 : Value).ownBlock ∧ some k_ ≠ (.slice Ao26 t137.length co26 : Value).ownBlock) (Kd.R_keptB (HO_4.out) hkp (fun k_ hk_ hs_ => (hk_.1) hs_)) (fun k_ hk_ => ⟨hk_.1.1, hk_.1.2⟩)); have n1_ := Aside0.mk (Kd.R_reok rfl hy0 (fun k_ e_ => HO_7.out.1 k_ e_)); have n2_ := Aside0.mk (Kd.R_mono (ok' := fun k_ => True) (Kd.R_keptB ((Kd.R_apart' HO_122001.out (Kd.R_typed HO_7.out) (by decide))) hkp (fun k_ hk_ hs_ => (hk_.2) hs_)) (fun k_ hk_ => trivial)); have n3_ := Aside0.mk (Kd.R_mono (ok' := fun k_ => some k_ ≠ (v111 : Value).ownBlock ∧ some k_ ≠ (.slice Ao65 t122.length co65 : Value).ownBlock) (Kd.R_keptB (HO_122002.out) hkp (fun k_ hk_ hs_ => (hk_.2) hs_)) (fun k_ hk_ => ⟨hk_.1.1, hk_.1.2⟩)); have n4_ := Aside0.mk (blk_kept (by (with_reducible repeat (first | refine blk_drewN ?_ _ | refine blk_drew ?_ | refine blk_alloc ?_ _)); exact BK101.out) hkp (fun hs_ => (fun e_ => (Kd.R_ne HO_7.out BK101.out (by decide)) e_) hs_)); have n5_ := Aside0.mk (blk_kept (by (with_reducible repeat (first | refine blk_drewN ?_ _ | refine blk_drew ?_ | refine blk_alloc ?_ _)); exact BK121.out) hkp (fun hs_ => (fun e_ => (Kd.R_ne HO_7.out BK121.out (by decide)) e_) hs_)); have n6_ := Aside0.mk (hb); clear HO_4; clear HO_7; clear HO_122001; clear HO_122002; clear BK101; clear BK121; clear HB; have HO_4 := n0_; have HO_7 := n1_; have HO_122001 := n2_; have HO_122002 := n3_; have BK101 := n4_; have BK121 := n5_; have HB := n6_; clear n0_ n1_ n2_ n3_ n4_ n5_ n6_; (try clear hb); (try clear hkp); (try clear hy0)) | ((with_reducible refine gate_callee (f := 17) rfl ?_); refine goesL_ (some 67) rfl rfl Try.func17 (by kernel_rfl) rfl #[.slice Ao65 t140.length co65, .int .i64 1] rfl (by (try simp only [List.map_toArray, List.map_cons, List.map_nil]); first | done | (rw [show t140.length = t122.length from (Kd.R_reads' HO_7.out).1.symm] <;> rfl) | rfl | (simp only [List.length_drop, List.length_take]; rfl)) ?_; (with_reducible refine (laws_heldIntS.calls kj38 _ _ t140 1 t141 _ ?side1 ?side2 A57.out).mono ?_); (case side1 => repeat (first | exact (Kd.R_reads' HO_7.out).2.2 | (with_reducible refine Kd.C_alloc ?_ _) | (with_reducible refine Kd.C_drewN ?_ _) | (with_reducible refine Kd.C_drew ?_))); (case side2 => rw [show t140.length = t122.length from (Kd.R_reads' HO_7.out).1.symm]; exact (Kd.R_reads' HO_7.out).2.1); rintro e w' ⟨rfl, ⟨nd, rfl⟩⟩; refine ⟨_, rfl, ?_⟩; have hnb67 := NB101_121.out; have hnc67 := NB121_101.out; have hcz68_0 : w66.cell? ⟨gb101, 0, none⟩ = some (.int .i64 a0_0) := (blk_cell BK101.out 0).trans rfl; have hcz68_1 : w66.cell? ⟨gb101, 1, none⟩ = some (.slice A0_1 l0_1.length c0_1) := (blk_cell BK101.out 1).trans rfl; have hcz68_2 : w66.cell? ⟨gb101, 2, none⟩ = some (.slice A0_2 l0_2.length c0_2) := (blk_cell BK101.out 2).trans rfl; have hfz68_0 := blk_frozen BK101.out 0; have hfz68_1 := blk_frozen BK101.out 1; have hfz68_2 := blk_frozen BK101.out 2) | ((with_reducible refine gate_callee (f := 9) rfl ?_); refine goesL_ (some 75) rfl rfl Try.func9 (by kernel_rfl) rfl #[.agg #[.int .i64 a0_0, .slice A0_1 l0_1.length c0_1, .slice A0_2 l0_2.length c0_2]] rfl (by (try simp only [List.map_toArray, List.map_cons, List.map_nil]); first | done | rfl | (simp only [List.length_drop, List.length_take]; rfl)) ?_; (with_reducible refine (laws_toHeap.calls kj38 a0_0 _ _ l0_1 _ _ l0_2 t142 t143 t146 _ ?side1 ?side2 ?side3 ?side4 A62.out).mono ?_); (case side1 => repeat (first | exact (Kd.C_below HR0_1.out (by repeat (first | (with_reducible first | exact HB.out | apply below_alloc | apply pw_below_drewN | apply below_drew1 | refine below_set ?_ GE101.out | refine below_set ?_ GE121.out) | exact HB.out))) | (with_reducible refine Kd.C_alloc ?_ _) | (with_reducible refine Kd.C_drewN ?_ _) | (with_reducible refine Kd.C_drew ?_))); (case side2 => exact HC0_1.out); (case side3 => repeat (first | exact (Kd.C_below HR0_2.out (by repeat (first | (with_reducible first | exact HB.out | apply below_alloc | apply pw_below_drewN | apply below_drew1 | refine below_set ?_ GE101.out | refine below_set ?_ GE121.out) | exact HB.out))) | (with_reducible refine Kd.C_alloc ?_ _) | (with_reducible refine Kd.C_drewN ?_ _) | (with_reducible refine Kd.C_drew ?_))); (case side4 => exact HC0_2.out); rintro e w69 ⟨v144, v147, rfl, ho0, ho1, hb⟩; refine ⟨_, rfl, ?_⟩; have n0_ := Aside0.mk (Kd.R_elder' (by (with_reducible repeat (first | apply Kd.R_alloc | apply Kd.R_drewN | apply Kd.R_drew)); exact HO_4.out) (Kd.R_base ho1) hb); have n1_ := Aside0.mk (Kd.R_elder' (by (with_reducible repeat (first | apply Kd.R_alloc | apply Kd.R_drewN | apply Kd.R_drew)); exact HO_7.out) (Kd.R_base ho1) hb); have n2_ := Aside0.mk (Kd.R_elder' (by (with_reducible repeat (first | apply Kd.R_alloc | apply Kd.R_drewN | apply Kd.R_drew)); exact HO_122001.out) (Kd.R_base ho0) hb); have n3_ := Aside0.mk (Kd.R_elder' (by (with_reducible repeat (first | apply Kd.R_alloc | apply Kd.R_drewN | apply Kd.R_drew)); exact HO_122002.out) (Kd.R_base ho1) hb); have n4_ := Aside0.mk (Kd.R_lower (Kd.R_new' ho0 (Kd.R_lt (by (with_reducible repeat (first | apply Kd.R_alloc | apply Kd.R_drewN | apply Kd.R_drew)); exact HO_122001.out))) (below_size (by repeat (first | (with_reducible first | exact HB.out | apply below_alloc | apply pw_below_drewN | apply below_drew1 | refine below_set ?_ GE101.out | refine below_set ?_ GE121.out) | exact HB.out)))); have n5_ := Aside0.mk (Kd.R_lower (Kd.R_new' (Kd.R_new' (Kd.R_new' ho1 (Kd.R_lt (by (with_reducible repeat (first | apply Kd.R_alloc | apply Kd.R_drewN | apply Kd.R_drew)); exact HO_4.out))) (Kd.R_lt (by (with_reducible repeat (first | apply Kd.R_alloc | apply Kd.R_drewN | apply Kd.R_drew)); exact HO_7.out))) (Kd.R_lt (by (with_reducible repeat (first | apply Kd.R_alloc | apply Kd.R_drewN | apply Kd.R_drew)); exact HO_122002.out))) (below_size (by repeat (first | (with_reducible first | exact HB.out | apply below_alloc | apply pw_below_drewN | apply below_drew1 | refine below_set ?_ GE101.out | refine below_set ?_ GE121.out) | exact HB.out)))); have n6_ := Aside0.mk (blk_below (g := gb101) (o := .cells #[.int .i64 a0_0, .slice A0_1 l0_1.length c0_1, .slice A0_2 l0_2.length c0_2] 25 (0, 0)) (by (with_reducible repeat (first | refine blk_drewN ?_ _ | refine blk_drew ?_ | refine blk_alloc ?_ _)); exact BK101.out) hb); have n7_ := Aside0.mk (blk_below (g := gb121) (o := .cells #[.int .i64 t114, .slice Ao25 t136.length co25, .slice Ao26 t137.length co26] 30 (0, 0)) (by (with_reducible repeat (first | refine blk_drewN ?_ _ | refine blk_drew ?_ | refine blk_alloc ?_ _)); exact BK121.out) hb); have n8_ := Aside0.mk (below_step (by repeat (first | (with_reducible first | exact HB.out | apply below_alloc | apply pw_below_drewN | apply below_drew1 | refine below_set ?_ GE101.out | refine below_set ?_ GE121.out) | exact HB.out)) hb); clear HO_4; clear HO_7; clear HO_122001; clear HO_122002; clear BK101; clear BK121; clear HB; have HO_4 := n0_; have HO_7 := n1_; have HO_122001 := n2_; have HO_122002 := n3_; have HO145 := n4_; have HO148 := n5_; have BK101 := n6_; have BK121 := n7_; have HB := n8_; clear n0_ n1_ n2_ n3_ n4_ n5_ n6_ n7_ n8_; (try clear hb); (try clear hb2); (try clear hk); (try clear hi); (try clear ho0); (try clear ho1); obtain ⟨Ao70, co70, eo70⟩ := Kd.R_slice HO145.out; subst eo70; obtain ⟨Ao71, co71, eo71⟩ := Kd.R_slice HO148.out; subst eo71) | ((with_reducible refine gate_callee (f := 13) rfl ?_); refine goesL_ (some 76) rfl rfl Try.func13 (by kernel_rfl) rfl #[.agg #[.int .i64 t142, .slice Ao70 t143.length co70, .slice Ao71 t146.length co71]] rfl (by (try simp only [List.map_toArray, List.map_cons, List.map_nil]); first | done | rfl | (simp only [List.length_drop, List.length_take]; rfl)) ?_; (with_reducible refine (impl_ReachIn.calls kj38 t142 _ _ t143 _ _ t146 t149 t152 _ ?side1 ?side2 ?side3 ?side4 A63.out).mono ?_); (case side1 => repeat (first | exact (Kd.R_reads' HO145.out).2.2 | (with_reducible refine Kd.C_alloc ?_ _) | (with_reducible refine Kd.C_drewN ?_ _) | (with_reducible refine Kd.C_drew ?_))); (case side2 => exact (Kd.R_reads' HO145.out).2.1); (case side3 => repeat (first | exact (Kd.R_reads' HO148.out).2.2 | (with_reducible refine Kd.C_alloc ?_ _) | (with_reducible refine Kd.C_drewN ?_ _) | (with_reducible refine Kd.C_drew ?_))); (case side4 => exact (Kd.R_reads' HO148.out).2.1); rintro e w72 ⟨v150, rfl, ho0, hb⟩; refine ⟨_, rfl, ?_⟩; have n0_ := Aside0.mk (Kd.R_elder' (by (with_reducible repeat (first | apply Kd.R_alloc | apply Kd.R_drewN | apply Kd.R_drew)); exact HO_4.out) (Kd.R_base ho0) hb); have n1_ := Aside0.mk (Kd.R_elder' (by (with_reducible repeat (first | apply Kd.R_alloc | apply Kd.R_drewN | apply Kd.R_drew)); exact HO_7.out) (Kd.R_base ho0) hb); have n2_ := Aside0.mk (Kd.R_below (by (with_reducible repeat (first | apply Kd.R_alloc | apply Kd.R_drewN | apply Kd.R_drew)); exact HO_122001.out) hb); have n3_ := Aside0.mk (Kd.R_elder' (by (with_reducible repeat (first | apply Kd.R_alloc | apply Kd.R_drewN | apply Kd.R_drew)); exact HO_122002.out) (Kd.R_base ho0) hb); have n4_ := Aside0.mk (Kd.R_below (by (with_reducible repeat (first | apply Kd.R_alloc | apply Kd.R_drewN | apply Kd.R_drew)); exact HO145.out) hb); have n5_ := Aside0.mk (Kd.R_elder' (by (with_reducible repeat (first | apply Kd.R_alloc | apply Kd.R_drewN | apply Kd.R_drew)); exact HO148.out) (Kd.R_base ho0) hb); have n6_ := Aside0.mk (Kd.R_lower (Kd.R_new' (Kd.R_new' (Kd.R_new' (Kd.R_new' ho0 (Kd.R_lt (by (with_reducible repeat (first | apply Kd.R_alloc | apply Kd.R_drewN | apply Kd.R_drew)); exact HO_4.out))) (Kd.R_lt (by (with_reducible repeat (first | apply Kd.R_alloc | apply Kd.R_drewN | apply Kd.R_drew)); exact HO_7.out))) (Kd.R_lt (by (with_reducible repeat (first | apply Kd.R_alloc | apply Kd.R_drewN | apply Kd.R_drew)); exact HO_122002.out))) (Kd.R_lt (by (with_reducible repeat (first | apply Kd.R_alloc | apply Kd.R_drewN | apply Kd.R_drew)); exact HO148.out))) (below_size (by repeat (first | (with_reducible first | exact HB.out | apply below_alloc | apply pw_below_drewN | apply below_drew1 | refine below_set ?_ GE101.out | refine below_set ?_ GE121.out) | exact HB.out)))); have n7_ := Aside0.mk (blk_below (g := gb101) (o := .cells #[.int .i64 a0_0, .slice A0_1 l0_1.length c0_1, .slice A0_2 l0_2.length c0_2] 25 (0, 0)) (by (with_reducible repeat (first | refine blk_drewN ?_ _ | refine blk_drew ?_ | refine blk_alloc ?_ _)); exact BK101.out) hb); have n8_ := Aside0.mk (blk_below (g := gb121) (o := .cells #[.int .i64 t114, .slice Ao25 t136.length co25, .slice Ao26 t137.length co26] 30 (0, 0)) (by (with_reducible repeat (first | refine blk_drewN ?_ _ | refine blk_drew ?_ | refine blk_alloc ?_ _)); exact BK121.out) hb); have n9_ := Aside0.mk (below_step (by repeat (first | (with_reducible first | exact HB.out | apply below_alloc | apply pw_below_drewN | apply below_drew1 | refine below_set ?_ GE101.out | refine below_set ?_ GE121.out) | exact HB.out)) hb); clear HO_4; clear HO_7; clear HO_122001; clear HO_122002; clear HO145; clear HO148; clear BK101; clear BK121; clear HB; have HO_4 := n0_; have HO_7 := n1_; have HO_122001 := n2_; have HO_122002 := n3_; have HO145 := n4_; have HO148 := n5_; have HO151 := n6_; have BK101 := n7_; have BK121 := n8_; have HB := n9_; clear n0_ n1_ n2_ n3_ n4_ n5_ n6_ n7_ n8_ n9_; (try clear hb); (try clear hb2); (try clear hk); (try clear hi); (try clear ho0)))
                      (try simp only [Act.put, List.setIfInBounds_toArray, List.set_cons_zero, List.set_cons_succ])
                      go_cut [87] (fun v87 wc => ∃ (kq : Nat) (x87_63 : Bool), v87 = .bool x87_63 ∧ Aside0 (laws_FnExactReachIn.j2 kq t140 t139 x87_63 = some r) ∧ Aside0 (kq ≤ kj38) ∧ Aside0 (Kd.R (Kd.int .i64) 3 wc w.heap.size (fun k_ => some k_ ≠ ((.slice Ao26 t137.length co26) : Value).ownBlock) (.slice Ao65 t122.length co65) t140) ∧ Aside0 (Kd.R k44 44 wc w.heap.size (fun _ => True) (.slice Ao25 t136.length co25) t136) ∧ Aside0 (Kd.R (Kd.int .i64) 3 wc w.heap.size (fun k_ => some k_ ≠ ((.slice Ao65 t122.length co65) : Value).ownBlock) (.slice Ao26 t137.length co26) t137) ∧ Aside0 (wc.heap[gb101]? = some (.cells #[.int .i64 a0_0, (.slice A0_1 l0_1.length c0_1), (.slice A0_2 l0_2.length c0_2)] 25 (0, 0))) ∧ Aside0 (wc.heap[gb121]? = some (.cells #[.int .i64 t114, (.slice Ao25 t136.length co25), (.slice Ao26 t137.length co26)] 30 (0, 0))) ∧ Aside0 (Below w.heap.size w wc))
                      case first =>
                        have H := HC64.out
                        clear HC64
                        replace H := Option.bind_eq_some_iff.mp H
                        obtain ⟨t153, A730, H⟩ := H
                        replace H : (if t153 = true then (laws_FnExactReachIn.j2 kj38 t140 t139 (t152 != t113)) else (laws_FnExactReachIn.j2 kj38 t140 t139 true)) = some r := H
                        have A73 := Aside0.mk A730
                        clear A730
                        by_cases c74 : t153 = true
                        · subst c74
                          have H1 : (laws_FnExactReachIn.j2 kj38 t140 t139 (t152 != t113)) = some r := by rw [if_pos rfl] at H; exact H
                          clear H
                          have H := H1
                          clear H1
                          have H' := Aside0.mk H
                          clear H
                          obtain ⟨Ao75, co75, eo75⟩ := Kd.R_slice HO151.out
                          subst eo75
                          obtain ⟨Ao76, co76, eo76⟩ := Kd.R_slice HO_4.out
                          subst eo76
                          go_wp2_with (first | ((with_reducible refine gate_callee (f := 14) rfl ?_); refine goesL_ (some 81) rfl rfl Try.func14 (by kernel_rfl) rfl #[.slice Ao75 t149.length co75, .slice Ao76 t110.length co76] rfl (by (try simp only [List.map_toArray, List.map_cons, List.map_nil]); first | done | rfl | (simp only [List.length_drop, List.length_take]; rfl)) ?_; (with_reducible refine (laws_eqIntS.calls kj38 _ _ t149 _ _ t110 true _ ?side1 ?side2 ?side3 ?side4 A73.out).mono ?_); (case side1 => repeat (first | exact (Kd.R_reads' HO151.out).2.2 | (with_reducible refine Kd.C_alloc ?_ _) | (with_reducible refine Kd.C_drewN ?_ _) | (with_reducible refine Kd.C_drew ?_))); (case side2 => exact (Kd.R_reads' HO151.out).2.1); (case side3 => repeat (first | exact (Kd.R_reads' HO_4.out).2.2 | (with_reducible refine Kd.C_alloc ?_ _) | (with_reducible refine Kd.C_drewN ?_ _) | (with_reducible refine Kd.C_drew ?_))); (case side4 => exact (Kd.R_reads' HO_4.out).2.1); rintro e w' ⟨rfl, ⟨nd, rfl⟩⟩; refine ⟨_, rfl, ?_⟩))
                          go_meet
                          case rel => exact ⟨_, ((t152 != t113)), (by first | rfl | (simp; done) | (simp [*]; done)), H', ⟨by have := HJ10.out; have := HJ38.out; first | omega | exact Nat.le_refl _⟩, ⟨by (try simp only [hl122001_38]); (try simp only [hl122002_38]); (with_reducible repeat (first | apply Kd.R_alloc | apply Kd.R_drewN | apply Kd.R_drew)); exact Kd.R_mono HO_7.out (fun _ hk => hk.1.1.2)⟩, ⟨by (try simp only [hl122001_38]); (try simp only [hl122002_38]); (with_reducible repeat (first | apply Kd.R_alloc | apply Kd.R_drewN | apply Kd.R_drew)); exact Kd.R_mono HO_122001.out (fun _ hk => trivial)⟩, ⟨by (try simp only [hl122001_38]); (try simp only [hl122002_38]); (with_reducible repeat (first | apply Kd.R_alloc | apply Kd.R_drewN | apply Kd.R_drew)); exact Kd.R_mono HO_122002.out (fun _ hk => hk.1.1.2)⟩, ⟨by (try simp only [hl122001_38]); (try simp only [hl122002_38]); (with_reducible repeat (first | refine blk_drewN ?_ _ | refine blk_drew ?_ | refine blk_alloc ?_ _)); exact BK101.out⟩, ⟨by (try simp only [hl122001_38]); (try simp only [hl122002_38]); (with_reducible repeat (first | refine blk_drewN ?_ _ | refine blk_drew ?_ | refine blk_alloc ?_ _)); exact BK121.out⟩, ⟨by repeat (first | (with_reducible first | exact HB.out | apply below_alloc | apply pw_below_drewN | apply below_drew1 | refine below_set ?_ GE101.out | refine below_set ?_ GE121.out) | exact HB.out)⟩⟩
                        · replace c74 := Bool.eq_false_iff.mpr c74
                          subst c74
                          have H1 : (laws_FnExactReachIn.j2 kj38 t140 t139 true) = some r := by rw [if_neg (show ¬ (false = true) by decide)] at H; exact H
                          clear H
                          have H := H1
                          clear H1
                          have H' := Aside0.mk H
                          clear H
                          obtain ⟨Ao77, co77, eo77⟩ := Kd.R_slice HO151.out
                          subst eo77
                          obtain ⟨Ao78, co78, eo78⟩ := Kd.R_slice HO_4.out
                          subst eo78
                          go_wp2_with (first | ((with_reducible refine gate_callee (f := 14) rfl ?_); refine goesL_ (some 81) rfl rfl Try.func14 (by kernel_rfl) rfl #[.slice Ao77 t149.length co77, .slice Ao78 t110.length co78] rfl (by (try simp only [List.map_toArray, List.map_cons, List.map_nil]); first | done | rfl | (simp only [List.length_drop, List.length_take]; rfl)) ?_; (with_reducible refine (laws_eqIntS.calls kj38 _ _ t149 _ _ t110 false _ ?side1 ?side2 ?side3 ?side4 A73.out).mono ?_); (case side1 => repeat (first | exact (Kd.R_reads' HO151.out).2.2 | (with_reducible refine Kd.C_alloc ?_ _) | (with_reducible refine Kd.C_drewN ?_ _) | (with_reducible refine Kd.C_drew ?_))); (case side2 => exact (Kd.R_reads' HO151.out).2.1); (case side3 => repeat (first | exact (Kd.R_reads' HO_4.out).2.2 | (with_reducible refine Kd.C_alloc ?_ _) | (with_reducible refine Kd.C_drewN ?_ _) | (with_reducible refine Kd.C_drew ?_))); (case side4 => exact (Kd.R_reads' HO_4.out).2.1); rintro e w' ⟨rfl, ⟨nd, rfl⟩⟩; refine ⟨_, rfl, ?_⟩))
                          go_meet
                          case rel => exact ⟨_, (true), (by first | rfl | (simp; done) | (simp [*]; done)), H', ⟨by have := HJ10.out; have := HJ38.out; first | omega | exact Nat.le_refl _⟩, ⟨by (try simp only [hl122001_38]); (try simp only [hl122002_38]); (with_reducible repeat (first | apply Kd.R_alloc | apply Kd.R_drewN | apply Kd.R_drew)); exact Kd.R_mono HO_7.out (fun _ hk => hk.1.1.2)⟩, ⟨by (try simp only [hl122001_38]); (try simp only [hl122002_38]); (with_reducible repeat (first | apply Kd.R_alloc | apply Kd.R_drewN | apply Kd.R_drew)); exact Kd.R_mono HO_122001.out (fun _ hk => trivial)⟩, ⟨by (try simp only [hl122001_38]); (try simp only [hl122002_38]); (with_reducible repeat (first | apply Kd.R_alloc | apply Kd.R_drewN | apply Kd.R_drew)); exact Kd.R_mono HO_122002.out (fun _ hk => hk.1.1.2)⟩, ⟨by (try simp only [hl122001_38]); (try simp only [hl122002_38]); (with_reducible repeat (first | refine blk_drewN ?_ _ | refine blk_drew ?_ | refine blk_alloc ?_ _)); exact BK101.out⟩, ⟨by (try simp only [hl122001_38]); (try simp only [hl122002_38]); (with_reducible repeat (first | refine blk_drewN ?_ _ | refine blk_drew ?_ | refine blk_alloc ?_ _)); exact BK121.out⟩, ⟨by repeat (first | (with_reducible first | exact HB.out | apply below_alloc | apply pw_below_drewN | apply below_drew1 | refine below_set ?_ GE101.out | refine below_set ?_ GE121.out) | exact HB.out)⟩⟩
                      case rest =>
                        clear HC64
                        try clear c1
                        try clear c2
                        try clear p2
                        try clear c3
                        try clear c3b0
                        try clear c4
                        try clear c5
                        try clear c6
                        try clear c7
                        try clear c9
                        try clear c11
                        try clear c12
                        try clear c13
                        try clear c14
                        try clear c15
                        try clear c16
                        try clear c17
                        try clear c23
                        try clear c29
                        try clear c34
                        try clear c37
                        try clear c45
                        try clear c48
                        try clear c48b0
                        try clear c50
                        try clear c55
                        try clear c58
                        try clear c58b0
                        try clear c61
                        try clear c61b0
                        try clear c61b1
                        try clear c67
                        try clear c74
                        try clear hcz13_0
                        try clear hcz13_1
                        try clear hcz13_2
                        try clear hcz15_0
                        try clear hcz15_1
                        try clear hcz15_2
                        try clear hcz20_0
                        try clear hcz20_1
                        try clear hcz20_2
                        try clear hcz24_0
                        try clear hcz24_1
                        try clear hcz24_2
                        try clear hcz46_0
                        try clear hcz46_1
                        try clear hcz46_2
                        try clear hcz5_0
                        try clear hcz5_1
                        try clear hcz5_2
                        try clear hcz68_0
                        try clear hcz68_1
                        try clear hcz68_2
                        try clear hfz13_0
                        try clear hfz13_1
                        try clear hfz13_2
                        try clear hfz15_0
                        try clear hfz15_1
                        try clear hfz15_2
                        try clear hfz20_0
                        try clear hfz20_1
                        try clear hfz20_2
                        try clear hfz24_0
                        try clear hfz24_1
                        try clear hfz24_2
                        try clear hfz46_0
                        try clear hfz46_1
                        try clear hfz46_2
                        try clear hfz5_0
                        try clear hfz5_1
                        try clear hfz5_2
                        try clear hfz68_0
                        try clear hfz68_1
                        try clear hfz68_2
                        try clear p2
                        obtain ⟨kq, x87_63, rfl, HA, HJ63, HO_7, HO_122001, HO_122002, BK101, BK121, HB⟩ := hcut
                        have hl7_63 := (Kd.R_reads' HO_7.out).1
                        rw [hl7_63] at HO_7
                        (try simp only [hl7_63])
                        (try simp only [hl7_63] at BK101)
                        (try simp only [hl7_63] at BK121)
                        (try simp only [hl7_63] at HO_122001)
                        (try simp only [hl7_63] at HO_122002)
                        cases kq with
                        | zero => exact absurd HA.out (by simp [laws_FnExactReachIn.j2])
                        | succ kj63 =>
                          have H := HA.out
                          clear HA
                          simp only [laws_FnExactReachIn.j2] at H
                          by_cases c79 : x87_63 = true
                          · subst c79
                            have H1 : (some false) = some r := by rw [if_pos rfl] at H; exact H
                            clear H
                            have H := H1
                            clear H1
                            obtain rfl := Option.some.inj H
                            go_wp2
                            go_ret
                            exact ⟨by first | rfl | (simp [errW_none, errW_some] <;> rfl) | (simp [*, errW_none, errW_some] <;> rfl), by repeat (first | (with_reducible first | exact HB.out | apply below_alloc | apply pw_below_drewN | apply below_drew1 | refine below_set ?_ GE101.out | refine below_set ?_ GE121.out) | exact HB.out)⟩
                          · replace c79 := Bool.eq_false_iff.mpr c79
                            subst c79
                            have H1 : ((laws_heldIntS.f kj63 t140 1).bind fun t154 => (if t154 < 0 then (some false) else (if t154 = t139 then (some true) else (some false)))) = some r := by rw [if_neg (show ¬ (false = true) by decide)] at H; exact H
                            clear H
                            have H := H1
                            clear H1
                            replace H := Option.bind_eq_some_iff.mp H
                            obtain ⟨t154, A800, H⟩ := H
                            replace H : (if t154 < 0 then (some false) else (if t154 = t139 then (some true) else (some false))) = some r := H
                            have A80 := Aside0.mk A800
                            clear A800
                            by_cases c81 : t154 < 0
                            · rw [if_pos c81] at H
                              have c81b0 : decide (t154 < 0) = true := decide_eq_true c81
                              clear c81
                              obtain rfl := Option.some.inj H
                              go_wp2_with (first | ((with_reducible refine gate_callee (f := 17) rfl ?_); refine goesL_ (some 90) rfl rfl Try.func17 (by kernel_rfl) rfl #[.slice Ao65 t140.length co65, .int .i64 1] rfl (by (try simp only [List.map_toArray, List.map_cons, List.map_nil]); first | done | rfl | (simp only [List.length_drop, List.length_take]; rfl)) ?_; (with_reducible refine (laws_heldIntS.calls kj63 _ _ t140 1 t154 _ ?side1 ?side2 A80.out).mono ?_); (case side1 => repeat (first | exact (Kd.R_reads' HO_7.out).2.2 | (with_reducible refine Kd.C_alloc ?_ _) | (with_reducible refine Kd.C_drewN ?_ _) | (with_reducible refine Kd.C_drew ?_))); (case side2 => exact (Kd.R_reads' HO_7.out).2.1); rintro e w' ⟨rfl, ⟨nd, rfl⟩⟩; refine ⟨_, rfl, ?_⟩))
                              go_ret
                              exact ⟨by first | rfl | (simp [errW_none, errW_some] <;> rfl) | (simp [*, errW_none, errW_some] <;> rfl), by repeat (first | (with_reducible first | exact HB.out | apply below_alloc | apply pw_below_drewN | apply below_drew1 | refine below_set ?_ GE101.out | refine below_set ?_ GE121.out) | exact HB.out)⟩
                            · rw [if_neg c81] at H
                              have c81b0 : decide (t154 < 0) = false := decide_eq_false c81
                              clear c81
                              by_cases c82 : t154 = t139
                              · rw [if_pos c82] at H
                                have c82b0 : (t154 == t139) = true := beq_iff_eq.mpr c82
                                have c82b1 : (t154 != t139) = false := bne_eq_false_iff_eq.mpr c82
                                clear c82
                                obtain rfl := Option.some.inj H
                                go_wp2_with (first | ((with_reducible refine gate_callee (f := 17) rfl ?_); refine goesL_ (some 90) rfl rfl Try.func17 (by kernel_rfl) rfl #[.slice Ao65 t140.length co65, .int .i64 1] rfl (by (try simp only [List.map_toArray, List.map_cons, List.map_nil]); first | done | rfl | (simp only [List.length_drop, List.length_take]; rfl)) ?_; (with_reducible refine (laws_heldIntS.calls kj63 _ _ t140 1 t154 _ ?side1 ?side2 A80.out).mono ?_); (case side1 => repeat (first | exact (Kd.R_reads' HO_7.out).2.2 | (with_reducible refine Kd.C_alloc ?_ _) | (with_reducible refine Kd.C_drewN ?_ _) | (with_reducible refine Kd.C_drew ?_))); (case side2 => exact (Kd.R_reads' HO_7.out).2.1); rintro e w' ⟨rfl, ⟨nd, rfl⟩⟩; refine ⟨_, rfl, ?_⟩))
                                go_ret
                                exact ⟨by first | rfl | (simp [errW_none, errW_some] <;> rfl) | (simp [*, errW_none, errW_some] <;> rfl), by repeat (first | (with_reducible first | exact HB.out | apply below_alloc | apply pw_below_drewN | apply below_drew1 | refine below_set ?_ GE101.out | refine below_set ?_ GE121.out) | exact HB.out)⟩
                              · rw [if_neg c82] at H
                                have c82b0 : (t154 == t139) = false := beq_eq_false_iff_ne.mpr c82
                                have c82b1 : (t154 != t139) = true := bne_iff_ne.mpr c82
                                obtain rfl := Option.some.inj H
                                go_wp2_with (first | ((with_reducible refine gate_callee (f := 17) rfl ?_); refine goesL_ (some 90) rfl rfl Try.func17 (by kernel_rfl) rfl #[.slice Ao65 t140.length co65, .int .i64 1] rfl (by (try simp only [List.map_toArray, List.map_cons, List.map_nil]); first | done | rfl | (simp only [List.length_drop, List.length_take]; rfl)) ?_; (with_reducible refine (laws_heldIntS.calls kj63 _ _ t140 1 t154 _ ?side1 ?side2 A80.out).mono ?_); (case side1 => repeat (first | exact (Kd.R_reads' HO_7.out).2.2 | (with_reducible refine Kd.C_alloc ?_ _) | (with_reducible refine Kd.C_drewN ?_ _) | (with_reducible refine Kd.C_drew ?_))); (case side2 => exact (Kd.R_reads' HO_7.out).2.1); rintro e w' ⟨rfl, ⟨nd, rfl⟩⟩; refine ⟨_, rfl, ?_⟩))
                                go_ret
                                exact ⟨by first | rfl | (simp [errW_none, errW_some] <;> rfl) | (simp [*, errW_none, errW_some] <;> rfl), by repeat (first | (with_reducible first | exact HB.out | apply below_alloc | apply pw_below_drewN | apply below_drew1 | refine below_set ?_ GE101.out | refine below_set ?_ GE121.out) | exact HB.out)⟩
                    · rw [if_neg c61] at H
                      have c61b0 : (t141 == t139) = false := beq_eq_false_iff_ne.mpr c61
                      have c61b1 : (t141 != t139) = true := bne_iff_ne.mpr c61
                      obtain rfl := Option.some.inj H
                      obtain ⟨Ao83, co83, eo83⟩ := Kd.R_slice HO_7.out
                      subst eo83
                      go_wp2_with (first | ((with_reducible refine gate_callee (f := 16) rfl ?_); refine goesL_ (some 64) rfl rfl Try.func16 (by kernel_rfl) rfl #[.slice Ao83 t122.length co83, .int .i64 1] rfl (by (try simp only [List.map_toArray, List.map_cons, List.map_nil]); first | done | rfl | (simp only [List.length_drop, List.length_take]; rfl)) ?_; (with_reducible refine (laws_markIntS.calls kj38 (fun k_ => some k_ = (.slice Ao83 t122.length co83 : Value).ownBlock) (.slice Ao83 t122.length co83) t122 1 t139 t140 w _ ?side1 ?side2 A56.out).mono ?_); (case side1 => repeat (first | (with_reducible first | exact HB.out | apply below_alloc | apply pw_below_drewN | apply below_drew1 | refine below_set ?_ GE101.out | refine below_set ?_ GE121.out) | exact HB.out)); (case side2 => exact Kd.R_tight rfl HO_7.out); rintro e w84 ⟨rfl, hy0, hb, hkp⟩; refine ⟨_, rfl, ?_⟩; have n0_ := Aside0.mk (Kd.R_mono (ok' := fun k_ => some k_ ≠ (.slice Ao83 t122.length co83 : Value).ownBlock ∧ some k_ ≠ (.slice Ao26 t137.length co26 : Value).ownBlock) (Kd.R_keptB (HO_4.out) hkp (fun k_ hk_ hs_ => (hk_.1) hs_)) (fun k_ hk_ => ⟨hk_.1.1, hk_.1.2⟩)); have n1_ := Aside0.mk (Kd.R_reok rfl hy0 (fun k_ e_ => HO_7.out.1 k_ e_)); have n2_ := Aside0.mk (Kd.R_mono (ok' := fun k_ => True) (Kd.R_keptB ((Kd.R_apart' HO_122001.out (Kd.R_typed HO_7.out) (by decide))) hkp (fun k_ hk_ hs_ => (hk_.2) hs_)) (fun k_ hk_ => trivial)); have n3_ := Aside0.mk (Kd.R_mono (ok' := fun k_ => some k_ ≠ (v111 : Value).ownBlock ∧ some k_ ≠ (.slice Ao83 t122.length co83 : Value).ownBlock) (Kd.R_keptB (HO_122002.out) hkp (fun k_ hk_ hs_ => (hk_.2) hs_)) (fun k_ hk_ => ⟨hk_.1.1, hk_.1.2⟩)); have n4_ := Aside0.mk (blk_kept (by (with_reducible repeat (first | refine blk_drewN ?_ _ | refine blk_drew ?_ | refine blk_alloc ?_ _)); exact BK101.out) hkp (fun hs_ => (fun e_ => (Kd.R_ne HO_7.out BK101.out (by decide)) e_) hs_)); have n5_ := Aside0.mk (blk_kept (by (with_reducible repeat (first | refine blk_drewN ?_ _ | refine blk_drew ?_ | refine blk_alloc ?_ _)); exact BK121.out) hkp (fun hs_ => (fun e_ => (Kd.R_ne HO_7.out BK121.out (by decide)) e_) hs_)); have n6_ := Aside0.mk (hb); clear HO_4; clear HO_7; clear HO_122001; clear HO_122002; clear BK101; clear BK121; clear HB; have HO_4 := n0_; have HO_7 := n1_; have HO_122001 := n2_; have HO_122002 := n3_; have BK101 := n4_; have BK121 := n5_; have HB := n6_; clear n0_ n1_ n2_ n3_ n4_ n5_ n6_; (try clear hb); (try clear hkp); (try clear hy0)) | ((with_reducible refine gate_callee (f := 17) rfl ?_); refine goesL_ (some 67) rfl rfl Try.func17 (by kernel_rfl) rfl #[.slice Ao83 t140.length co83, .int .i64 1] rfl (by (try simp only [List.map_toArray, List.map_cons, List.map_nil]); first | done | (rw [show t140.length = t122.length from (Kd.R_reads' HO_7.out).1.symm] <;> rfl) | rfl | (simp only [List.length_drop, List.length_take]; rfl)) ?_; (with_reducible refine (laws_heldIntS.calls kj38 _ _ t140 1 t141 _ ?side1 ?side2 A57.out).mono ?_); (case side1 => repeat (first | exact (Kd.R_reads' HO_7.out).2.2 | (with_reducible refine Kd.C_alloc ?_ _) | (with_reducible refine Kd.C_drewN ?_ _) | (with_reducible refine Kd.C_drew ?_))); (case side2 => rw [show t140.length = t122.length from (Kd.R_reads' HO_7.out).1.symm]; exact (Kd.R_reads' HO_7.out).2.1); rintro e w' ⟨rfl, ⟨nd, rfl⟩⟩; refine ⟨_, rfl, ?_⟩))
                      go_ret
                      exact ⟨by first | rfl | (simp [errW_none, errW_some] <;> rfl) | (simp [*, errW_none, errW_some] <;> rfl), by repeat (first | (with_reducible first | exact HB.out | apply below_alloc | apply pw_below_drewN | apply below_drew1 | refine below_set ?_ GE101.out | refine below_set ?_ GE121.out) | exact HB.out)⟩
          · replace c37 := Bool.eq_false_iff.mpr c37
            subst c37
            have H1 : (some false) = some r := by rw [if_neg (show ¬ (false = true) by decide)] at H; exact H
            clear H
            have H := H1
            clear H1
            obtain rfl := Option.some.inj H
            try go_wp2
            have n0_ := Aside0.mk (Kd.R_drew HO_4.out)
            have n1_ := Aside0.mk (Kd.R_drew HO_7.out)
            have n2_ := Aside0.mk (Kd.R_drew HO_122001.out)
            have n3_ := Aside0.mk (Kd.R_drew HO_122002.out)
            have n4_ := Aside0.mk (blk_drew BK101.out)
            have n5_ := Aside0.mk (blk_drew BK121.out)
            have n6_ := Aside0.mk (below_drew1 HB.out)
            clear HO_4
            clear HO_7
            clear HO_122001
            clear HO_122002
            clear BK101
            clear BK121
            clear HB
            have HO_4 := n0_
            have HO_7 := n1_
            have HO_122001 := n2_
            have HO_122002 := n3_
            have BK101 := n4_
            have BK121 := n5_
            have HB := n6_
            clear n0_ n1_ n2_ n3_ n4_ n5_ n6_
            refine start_ (n := 5) (S := fun w' => w'.cell? ⟨gb121, 0, none⟩ = some (.int .i64 t114) ∧ w'.cell? ⟨gb121, 1, none⟩ = some (.slice Ao25 t115.length co25) ∧ w'.cell? ⟨gb121, 2, none⟩ = some (.slice Ao26 t118.length co26) ∧ w'.cell? ⟨gb101, 0, none⟩ = some (.int .i64 a0_0) ∧ w'.cell? ⟨gb101, 1, none⟩ = some (.slice A0_1 l0_1.length c0_1) ∧ w'.cell? ⟨gb101, 2, none⟩ = some (.slice A0_2 l0_2.length c0_2)) (ds := []) #[false, false, false, false, false] (by kernel_rfl) rfl rfl ⟨(blk_cell BK121.out 0).trans rfl, (blk_cell BK121.out 1).trans rfl, (blk_cell BK121.out 2).trans rfl, (blk_cell BK101.out 0).trans rfl, (blk_cell BK101.out 1).trans rfl, (blk_cell BK101.out 2).trans rfl⟩ (fun hHeld => ?_)
            generalize wc.drew = w85 at HO_4 HO_7 HO_122001 HO_122002 BK101 BK121 HB hHeld ⊢
            refine take_ (i := 0) (N := some 41) (v := ?_) (a' := ?_) #[true, false, false, false, false] rfl rfl (by kernel_rfl) (fun _ _ _ h => h) (Or.inl ⟨by rfl, ?_⟩) hHeld ?_ ?_
            rotate_left
            · rintro w' ⟨s0, s1, s2, s3, s4, s5⟩
              go_simp
              with_reducible rfl
            rotate_left
            · simp only [Act.put, List.setIfInBounds_toArray, List.set_cons_zero, List.set_cons_succ, i64_w, i32_w]
              rfl
            refine take_ (i := 1) (N := some 42) (v := ?_) (a' := ?_) #[true, true, false, false, false] rfl rfl (by kernel_rfl) (fun _ _ _ h => h) (Or.inl ⟨by rfl, ?_⟩) hHeld ?_ ?_
            rotate_left
            · rintro w' ⟨s0, s1, s2, s3, s4, s5⟩
              go_simp
              with_reducible rfl
            rotate_left
            · simp only [Act.put, List.setIfInBounds_toArray, List.set_cons_zero, List.set_cons_succ, i64_w, i32_w]
              rfl
            refine one_ (i := 2) (N := some 43) #[true, true, true, false, false] rfl rfl (by kernel_rfl) (by decide) (fun K hK => ?_)
            refine goes_ Try.func9 (by kernel_rfl) rfl #[.agg #[.int .i64 a0_0, .slice A0_1 l0_1.length c0_1, .slice A0_2 l0_2.length c0_2]] (by rfl) rfl rfl (by (try simp only [List.map_toArray, List.map_cons, List.map_nil]); first | done | rfl | (simp only [List.length_drop, List.length_take]; rfl)) ?_
            with_reducible refine (laws_toHeap.calls kj10 a0_0 _ _ l0_1 _ _ l0_2 t127 t128 t131 _ ?side1 ?side2 ?side3 ?side4 A35.out).mono ?_
            (case side1 => repeat (first | exact (Kd.C_below HR0_1.out HB.out) | (with_reducible refine Kd.C_alloc ?_ _) | (with_reducible refine Kd.C_drewN ?_ _) | (with_reducible refine Kd.C_drew ?_)))
            (case side2 => exact HC0_1.out)
            (case side3 => repeat (first | exact (Kd.C_below HR0_2.out HB.out) | (with_reducible refine Kd.C_alloc ?_ _) | (with_reducible refine Kd.C_drewN ?_ _) | (with_reducible refine Kd.C_drew ?_)))
            (case side4 => exact HC0_2.out)
            rintro e w86 ⟨v129, v132, rfl, ho0, ho1, hb⟩
            refine ⟨_, rfl, ?_⟩
            have n0_ := Aside0.mk (Kd.R_elder' (by (with_reducible repeat (first | apply Kd.R_alloc | apply Kd.R_drewN | apply Kd.R_drew)); exact HO_4.out) (Kd.R_base ho1) hb)
            have n1_ := Aside0.mk (Kd.R_elder' (by (with_reducible repeat (first | apply Kd.R_alloc | apply Kd.R_drewN | apply Kd.R_drew)); exact HO_7.out) (Kd.R_base ho1) hb)
            have n2_ := Aside0.mk (Kd.R_elder' (by (with_reducible repeat (first | apply Kd.R_alloc | apply Kd.R_drewN | apply Kd.R_drew)); exact HO_122001.out) (Kd.R_base ho0) hb)
            have n3_ := Aside0.mk (Kd.R_elder' (by (with_reducible repeat (first | apply Kd.R_alloc | apply Kd.R_drewN | apply Kd.R_drew)); exact HO_122002.out) (Kd.R_base ho1) hb)
            have n4_ := Aside0.mk (Kd.R_lower (Kd.R_new' ho0 (Kd.R_lt (by (with_reducible repeat (first | apply Kd.R_alloc | apply Kd.R_drewN | apply Kd.R_drew)); exact HO_122001.out))) (below_size (by repeat (first | (with_reducible first | exact HB.out | apply below_alloc | apply pw_below_drewN | apply below_drew1 | refine below_set ?_ GE101.out | refine below_set ?_ GE121.out) | exact HB.out))))
            have n5_ := Aside0.mk (Kd.R_lower (Kd.R_new' (Kd.R_new' (Kd.R_new' ho1 (Kd.R_lt (by (with_reducible repeat (first | apply Kd.R_alloc | apply Kd.R_drewN | apply Kd.R_drew)); exact HO_4.out))) (Kd.R_lt (by (with_reducible repeat (first | apply Kd.R_alloc | apply Kd.R_drewN | apply Kd.R_drew)); exact HO_7.out))) (Kd.R_lt (by (with_reducible repeat (first | apply Kd.R_alloc | apply Kd.R_drewN | apply Kd.R_drew)); exact HO_122002.out))) (below_size (by repeat (first | (with_reducible first | exact HB.out | apply below_alloc | apply pw_below_drewN | apply below_drew1 | refine below_set ?_ GE101.out | refine below_set ?_ GE121.out) | exact HB.out))))
            have n6_ := Aside0.mk (blk_below (g := gb101) (o := .cells #[.int .i64 a0_0, .slice A0_1 l0_1.length c0_1, .slice A0_2 l0_2.length c0_2] 25 (0, 0)) (by (with_reducible repeat (first | refine blk_drewN ?_ _ | refine blk_drew ?_ | refine blk_alloc ?_ _)); exact BK101.out) hb)
            have n7_ := Aside0.mk (blk_below (g := gb121) (o := .cells #[.int .i64 t114, .slice Ao25 t115.length co25, .slice Ao26 t118.length co26] 30 (0, 0)) (by (with_reducible repeat (first | refine blk_drewN ?_ _ | refine blk_drew ?_ | refine blk_alloc ?_ _)); exact BK121.out) hb)
            have n8_ := Aside0.mk (below_step (by repeat (first | (with_reducible first | exact HB.out | apply below_alloc | apply pw_below_drewN | apply below_drew1 | refine below_set ?_ GE101.out | refine below_set ?_ GE121.out) | exact HB.out)) hb)
            clear HO_4
            clear HO_7
            clear HO_122001
            clear HO_122002
            clear BK101
            clear BK121
            clear HB
            have HO_4 := n0_
            have HO_7 := n1_
            have HO_122001 := n2_
            have HO_122002 := n3_
            have HO130 := n4_
            have HO133 := n5_
            have BK101 := n6_
            have BK121 := n7_
            have HB := n8_
            clear n0_ n1_ n2_ n3_ n4_ n5_ n6_ n7_ n8_
            (try clear hb)
            (try clear hb2)
            (try clear hk)
            (try clear hi)
            (try clear ho0)
            (try clear ho1)
            obtain ⟨Ao87, co87, eo87⟩ := Kd.R_slice HO130.out
            (first | subst eo87 | (injection eo87 with f1_ f2_ f3_; have f4_ := f1_.symm; have f5_ := f3_.symm; clear f1_ f2_ f3_; subst f4_; subst f5_))
            obtain ⟨Ao88, co88, eo88⟩ := Kd.R_slice HO133.out
            (first | subst eo88 | (injection eo88 with f1_ f2_ f3_; have f4_ := f1_.symm; have f5_ := f3_.symm; clear f1_ f2_ f3_; subst f4_; subst f5_))
            refine hK.out _ _ ⟨(blk_cell BK121.out 0).trans rfl, (blk_cell BK121.out 1).trans rfl, (blk_cell BK121.out 2).trans rfl, (blk_cell BK101.out 0).trans rfl, (blk_cell BK101.out 1).trans rfl, (blk_cell BK101.out 2).trans rfl⟩ (fun hHeld => ?_)
            clear hK K
            refine norm_ (a' := ?_) ?_ ?_
            rotate_left
            · show Act.put _ (some 43) _ = _
              simp only [Act.put, List.setIfInBounds_toArray, List.set_cons_zero, List.set_cons_succ, i64_w, i32_w]
              rfl
            refine one_ (i := 3) (N := some 44) #[true, true, true, true, false] rfl rfl (by kernel_rfl) (by decide) (fun K hK => ?_)
            refine goes_ Try.func11 (by kernel_rfl) rfl #[.agg #[.int .i64 t114, .slice Ao25 t115.length co25, .slice Ao26 t118.length co26], .agg #[.int .i64 t127, .slice Ao87 t128.length co87, .slice Ao88 t131.length co88]] (by rfl) rfl rfl (by (try simp only [List.map_toArray, List.map_cons, List.map_nil]); first | done | rfl | (simp only [List.length_drop, List.length_take]; rfl)) ?_
            with_reducible refine (laws_eqHeap.calls kj10 t114 _ _ t115 _ _ t118 t127 _ _ t128 _ _ t131 false _ ?side1 ?side2 ?side3 ?side4 ?side5 ?side6 ?side7 ?side8 A36.out).mono ?_
            (case side1 => repeat (first | exact (Kd.R_reads' HO_122001.out).2.2 | (with_reducible refine Kd.C_alloc ?_ _) | (with_reducible refine Kd.C_drewN ?_ _) | (with_reducible refine Kd.C_drew ?_)))
            (case side2 => exact (Kd.R_reads' HO_122001.out).2.1)
            (case side3 => repeat (first | exact (Kd.R_reads' HO_122002.out).2.2 | (with_reducible refine Kd.C_alloc ?_ _) | (with_reducible refine Kd.C_drewN ?_ _) | (with_reducible refine Kd.C_drew ?_)))
            (case side4 => exact (Kd.R_reads' HO_122002.out).2.1)
            (case side5 => repeat (first | exact (Kd.R_reads' HO130.out).2.2 | (with_reducible refine Kd.C_alloc ?_ _) | (with_reducible refine Kd.C_drewN ?_ _) | (with_reducible refine Kd.C_drew ?_)))
            (case side6 => exact (Kd.R_reads' HO130.out).2.1)
            (case side7 => repeat (first | exact (Kd.R_reads' HO133.out).2.2 | (with_reducible refine Kd.C_alloc ?_ _) | (with_reducible refine Kd.C_drewN ?_ _) | (with_reducible refine Kd.C_drew ?_)))
            (case side8 => exact (Kd.R_reads' HO133.out).2.1)
            rintro e w89 ⟨rfl, hb⟩
            refine ⟨_, rfl, ?_⟩
            have n0_ := Aside0.mk (Kd.R_below (by (with_reducible repeat (first | apply Kd.R_alloc | apply Kd.R_drewN | apply Kd.R_drew)); exact HO_4.out) hb)
            have n1_ := Aside0.mk (Kd.R_below (by (with_reducible repeat (first | apply Kd.R_alloc | apply Kd.R_drewN | apply Kd.R_drew)); exact HO_7.out) hb)
            have n2_ := Aside0.mk (Kd.R_below (by (with_reducible repeat (first | apply Kd.R_alloc | apply Kd.R_drewN | apply Kd.R_drew)); exact HO_122001.out) hb)
            have n3_ := Aside0.mk (Kd.R_below (by (with_reducible repeat (first | apply Kd.R_alloc | apply Kd.R_drewN | apply Kd.R_drew)); exact HO_122002.out) hb)
            have n4_ := Aside0.mk (Kd.R_below (by (with_reducible repeat (first | apply Kd.R_alloc | apply Kd.R_drewN | apply Kd.R_drew)); exact HO130.out) hb)
            have n5_ := Aside0.mk (Kd.R_below (by (with_reducible repeat (first | apply Kd.R_alloc | apply Kd.R_drewN | apply Kd.R_drew)); exact HO133.out) hb)
            have n6_ := Aside0.mk (blk_below (g := gb101) (o := .cells #[.int .i64 a0_0, .slice A0_1 l0_1.length c0_1, .slice A0_2 l0_2.length c0_2] 25 (0, 0)) (by (with_reducible repeat (first | refine blk_drewN ?_ _ | refine blk_drew ?_ | refine blk_alloc ?_ _)); exact BK101.out) hb)
            have n7_ := Aside0.mk (blk_below (g := gb121) (o := .cells #[.int .i64 t114, .slice Ao25 t115.length co25, .slice Ao26 t118.length co26] 30 (0, 0)) (by (with_reducible repeat (first | refine blk_drewN ?_ _ | refine blk_drew ?_ | refine blk_alloc ?_ _)); exact BK121.out) hb)
            have n8_ := Aside0.mk (below_step (by repeat (first | (with_reducible first | exact HB.out | apply below_alloc | apply pw_below_drewN | apply below_drew1 | refine below_set ?_ GE101.out | refine below_set ?_ GE121.out) | exact HB.out)) hb)
            clear HO_4
            clear HO_7
            clear HO_122001
            clear HO_122002
            clear HO130
            clear HO133
            clear BK101
            clear BK121
            clear HB
            have HO_4 := n0_
            have HO_7 := n1_
            have HO_122001 := n2_
            have HO_122002 := n3_
            have HO130 := n4_
            have HO133 := n5_
            have BK101 := n6_
            have BK121 := n7_
            have HB := n8_
            clear n0_ n1_ n2_ n3_ n4_ n5_ n6_ n7_ n8_
            (try clear hb)
            (try clear hb2)
            (try clear hk)
            (try clear hi)
            refine hK.out _ _ ⟨(blk_cell BK121.out 0).trans rfl, (blk_cell BK121.out 1).trans rfl, (blk_cell BK121.out 2).trans rfl, (blk_cell BK101.out 0).trans rfl, (blk_cell BK101.out 1).trans rfl, (blk_cell BK101.out 2).trans rfl⟩ (fun hHeld => ?_)
            clear hK K
            refine norm_ (a' := ?_) ?_ ?_
            rotate_left
            · show Act.put _ (some 44) _ = _
              simp only [Act.put, List.setIfInBounds_toArray, List.set_cons_zero, List.set_cons_succ, i64_w, i32_w]
              rfl
            refine pure_ (i := 4) (N := some 45) (v := ?_) (a' := ?_) #[true, true, true, true, true] rfl rfl (by kernel_rfl) (fun _ _ _ h => h) (Or.inl ⟨by rfl, ?_⟩) ?_ ?_
            rotate_left
            · intro w'
              go_simp
              with_reducible rfl
            rotate_left
            · simp only [Act.put, List.setIfInBounds_toArray, List.set_cons_zero, List.set_cons_succ, i64_w, i32_w]
              rfl
            refine done_ (by kernel_rfl) ?_
            try go_wp2
            go_ret
            exact ⟨by first | rfl | (simp [errW_none, errW_some] <;> rfl) | (simp [*, errW_none, errW_some] <;> rfl), by repeat (first | (with_reducible first | exact HB.out | apply below_alloc | apply pw_below_drewN | apply below_drew1 | refine below_set ?_ GE101.out | refine below_set ?_ GE121.out) | exact HB.out)⟩

/-- The pure statement of laws_FnExactReachIn. -/
def laws_FnExactReachIn.Pure : Prop := ∀ (a0_0 : Int) (l0_1 : List (S59)) (l0_2 : List Int), (Lit.int .i64 a0_0).wf = true → (l0_1.length ≤ 9223372036854775807 ∧ ∀ x_ ∈ l0_1, (True ∧ (Lit.int .i64 x_.f1).wf = true ∧ (Lit.int .i64 x_.f2).wf = true ∧ (Lit.int .i64 x_.f3).wf = true)) → (l0_2.length ≤ 9223372036854775807 ∧ ∀ x_ ∈ l0_2, (Lit.int .i64 x_).wf = true) → ∃ k, laws_FnExactReachIn.f k a0_0 l0_1 l0_2 = some true

end Go.Proofs.Ytcbgjcnekdoloaa.G

namespace Go.Proofs.Ytcbgjcnekdoloaa.G
open Go.RowKit Go.Proofs.YtcbgjcnekdoloaaW.PrintWords Go.Proofs.YtcbgjcnekdoloaaW.PrintLast Go.Proofs.YtcbgjcnekdoloaaW.PrintMore
attribute [local go_sem] max2_int min2_int max_two min_two max_three min_three max_four min_four   -- for this text's walks alone
set_option linter.unusedVariables false
set_option linter.unusedSimpArgs false

/-! ### laws_FnExactGoodHeap: function 3 -/
def laws_FnExactGoodHeap.f (k : Nat) (a0_0 : Int) (l0_1 : List (S59)) (l0_2 : List Int) : Option (Bool) := (laws_szHeap.f a0_0 l0_1 l0_2 1048576).bind fun t102 => (if t102 < 0 then (some true) else ((laws_toHeap.f k a0_0 l0_1 l0_2).bind fun bt103 => ((spec_GoodHeap.f k bt103.1 bt103.2.1 bt103.2.2).bind fun t110 => ((laws_toHeap.f k a0_0 l0_1 l0_2).bind fun bt111 => ((impl_GoodHeap.f k bt111.1 bt111.2.1 bt111.2.2).bind fun t119 => (if (t119 != t110) = true then (some false) else ((laws_toHeap.f k a0_0 l0_1 l0_2).bind fun bt120 => ((laws_eqHeap.f k bt111.1 bt111.2.1 bt111.2.2 bt120.1 bt120.2.1 bt120.2.2).bind fun t127 => (if t127 = true then (some true) else (some false))))))))))
theorem laws_FnExactGoodHeap.mono : ∀ a0 a1 a2 k, LeO (laws_FnExactGoodHeap.f k a0 a1 a2) (laws_FnExactGoodHeap.f (k + 1) a0 a1 a2) := by
  intro a0 a1 a2 k
  unfold laws_FnExactGoodHeap.f
  repeat' first
      | (with_reducible exact impl_GoodHeap.mono _ _ _ _)
      | (with_reducible exact laws_eqHeap.mono _ _ _ _ _ _ _)
      | (with_reducible exact laws_toHeap.mono _ _ _ _)
      | (with_reducible exact spec_GoodHeap.mono _ _ _ _)
      | (with_reducible exact LeO.refl _)
      | (with_reducible exact LeO.none _)
      | (with_reducible refine LeO.ite ?_ ?_)
      | (with_reducible refine LeO.bind ?_ (fun _ => ?_))
      | exact impl_GoodHeap.mono _ _ _ _
      | exact laws_eqHeap.mono _ _ _ _ _ _ _
      | exact laws_toHeap.mono _ _ _ _
      | exact spec_GoodHeap.mono _ _ _ _
      | exact LeO.none _
      | refine LeO.ite ?_ ?_
      | refine LeO.bind ?_ (fun _ => ?_)
set_option maxHeartbeats 8000000 in
set_option maxRecDepth 100000 in
theorem laws_FnExactGoodHeap.calls (k : Nat) (a0_0 : Int) (A0_1 : Option Addr) (c0_1 : Nat) (l0_1 : List (S59)) (A0_2 : Option Addr) (c0_2 : Nat) (l0_2 : List Int) (r : Bool) (w : World) (hr0_1 : Kd.C k59 w A0_1 l0_1.length l0_1) (hc0_1 : l0_1.length ≤ c0_1) (hr0_2 : Kd.C (Kd.int .i64) w A0_2 l0_2.length l0_2) (hc0_2 : l0_2.length ≤ c0_2) (h : laws_FnExactGoodHeap.f k a0_0 l0_1 l0_2 = some r) :
    Calls Try.prog 3 #[.agg #[.int .i64 a0_0, .slice A0_1 l0_1.length c0_1, .slice A0_2 l0_2.length c0_2]] w fun e w' => e = .returned (.bool r) ∧ Below w.heap.size w w' := by
  have hu25 := Try.underlying25
  have hu30 := Try.underlying30
  have HR0_1 := Aside0.mk hr0_1
  have HC0_1 := Aside0.mk hc0_1
  clear hr0_1 hc0_1
  have HR0_2 := Aside0.mk hr0_2
  have HC0_2 := Aside0.mk hc0_2
  clear hr0_2 hc0_2
  have HB := Aside0.mk (Below.refl w.heap.size w)
  have H : ((laws_szHeap.f a0_0 l0_1 l0_2 1048576).bind fun t102 => (if t102 < 0 then (some true) else ((laws_toHeap.f k a0_0 l0_1 l0_2).bind fun bt103 => ((spec_GoodHeap.f k bt103.1 bt103.2.1 bt103.2.2).bind fun t110 => ((laws_toHeap.f k a0_0 l0_1 l0_2).bind fun bt111 => ((impl_GoodHeap.f k bt111.1 bt111.2.1 bt111.2.2).bind fun t119 => (if (t119 != t110) = true then (some false) else ((laws_toHeap.f k a0_0 l0_1 l0_2).bind fun bt120 => ((laws_eqHeap.f k bt111.1 bt111.2.1 bt111.2.2 bt120.1 bt120.2.1 bt120.2.2).bind fun t127 => (if t127 = true then (some true) else (some false))))))))))) = some r := h
  clear h
  replace H := Option.bind_eq_some_iff.mp H
  obtain ⟨t102, A20, H⟩ := H
  replace H : (if t102 < 0 then (some true) else ((laws_toHeap.f k a0_0 l0_1 l0_2).bind fun bt103 => ((spec_GoodHeap.f k bt103.1 bt103.2.1 bt103.2.2).bind fun t110 => ((laws_toHeap.f k a0_0 l0_1 l0_2).bind fun bt111 => ((impl_GoodHeap.f k bt111.1 bt111.2.1 bt111.2.2).bind fun t119 => (if (t119 != t110) = true then (some false) else ((laws_toHeap.f k a0_0 l0_1 l0_2).bind fun bt120 => ((laws_eqHeap.f k bt111.1 bt111.2.1 bt111.2.2 bt120.1 bt120.2.1 bt120.2.2).bind fun t127 => (if t127 = true then (some true) else (some false)))))))))) = some r := H
  have A2 := Aside0.mk A20
  clear A20
  by_cases c3 : t102 < 0
  · rw [if_pos c3] at H
    have c3b0 : decide (t102 < 0) = true := decide_eq_true c3
    clear c3
    obtain rfl := Option.some.inj H
    go_enter Try.func3, Try.ntmps3
    go_wp2_with (first | ((with_reducible refine gate_dst (N := 1) rfl ?_); refine box_event ?hg (N := 1) ?hd (cs := #[.int .i64 a0_0, .slice A0_1 l0_1.length c0_1, .slice A0_2 l0_2.length c0_2]) (t := 25) ?hr ?_; (case hd => rfl); (case hg => rfl); (case hr => first | (go_simp; done) | (go_simp; rfl)); intro gb101 hg w4 hbox hb; have n0_ := Aside0.mk (below_step (by repeat (first | (with_reducible first | exact HB.out | apply below_alloc | apply pw_below_drewN | apply below_drew1) | exact HB.out)) hb); have n1_ := Aside0.mk (hbox); have n2_ := Aside0.mk ((by rw [hg]; exact (below_size (by repeat (first | (with_reducible first | exact HB.out | apply below_alloc | apply pw_below_drewN | apply below_drew1) | exact HB.out))) : w.heap.size ≤ gb101)); have n3_ := Aside0.mk ((by rw [hg]; exact (below_size (by repeat (first | (with_reducible first | exact HB.out | apply below_alloc | apply pw_below_drewN | apply below_drew1) | exact HB.out))) : w.heap.size ≤ gb101)); clear HB; have HB := n0_; have BK101 := n1_; have GW101 := n2_; have GE101 := n3_; clear n0_ n1_ n2_ n3_; clear hb hbox hg; have hcz5_0 : w4.cell? ⟨gb101, 0, none⟩ = some (.int .i64 a0_0) := (blk_cell BK101.out 0).trans rfl; have hcz5_1 : w4.cell? ⟨gb101, 1, none⟩ = some (.slice A0_1 l0_1.length c0_1) := (blk_cell BK101.out 1).trans rfl; have hcz5_2 : w4.cell? ⟨gb101, 2, none⟩ = some (.slice A0_2 l0_2.length c0_2) := (blk_cell BK101.out 2).trans rfl; have hfz5_0 := blk_frozen BK101.out 0; have hfz5_1 := blk_frozen BK101.out 1; have hfz5_2 := blk_frozen BK101.out 2) | ((with_reducible refine gate_callee (f := 7) rfl ?_); refine goesL_ (some 9) rfl rfl Try.func7 (by kernel_rfl) rfl #[.agg #[.int .i64 a0_0, .slice A0_1 l0_1.length c0_1, .slice A0_2 l0_2.length c0_2], .int .i64 1048576] rfl (by (try simp only [List.map_toArray, List.map_cons, List.map_nil]); first | done | rfl | (simp only [List.length_drop, List.length_take]; rfl)) ?_; (with_reducible refine (laws_szHeap.calls a0_0 _ _ l0_1 _ _ l0_2 1048576 t102 _ ?side1 ?side2 ?side3 ?side4 A2.out).mono ?_); (case side1 => repeat (first | exact (Kd.C_below HR0_1.out HB.out) | (with_reducible refine Kd.C_alloc ?_ _) | (with_reducible refine Kd.C_drewN ?_ _) | (with_reducible refine Kd.C_drew ?_))); (case side2 => exact HC0_1.out); (case side3 => repeat (first | exact (Kd.C_below HR0_2.out HB.out) | (with_reducible refine Kd.C_alloc ?_ _) | (with_reducible refine Kd.C_drewN ?_ _) | (with_reducible refine Kd.C_drew ?_))); (case side4 => exact HC0_2.out); rintro e w6 ⟨rfl, hb⟩; refine ⟨_, rfl, ?_⟩; have n0_ := Aside0.mk (blk_below (g := gb101) (o := .cells #[.int .i64 a0_0, .slice A0_1 l0_1.length c0_1, .slice A0_2 l0_2.length c0_2] 25 (0, 0)) (by (with_reducible repeat (first | refine blk_drewN ?_ _ | refine blk_drew ?_ | refine blk_alloc ?_ _)); exact BK101.out) hb); have n1_ := Aside0.mk (below_step (by repeat (first | (with_reducible first | exact HB.out | apply below_alloc | apply pw_below_drewN | apply below_drew1 | refine below_set ?_ GE101.out) | exact HB.out)) hb); clear BK101; clear HB; have BK101 := n0_; have HB := n1_; clear n0_ n1_; (try clear hb); (try clear hb2); (try clear hk); (try clear hi)))
    go_ret
    exact ⟨by first | rfl | (simp [errW_none, errW_some] <;> rfl) | (simp [*, errW_none, errW_some] <;> rfl), by repeat (first | (with_reducible first | exact HB.out | apply below_alloc | apply pw_below_drewN | apply below_drew1 | refine below_set ?_ GE101.out) | exact HB.out)⟩
  · rw [if_neg c3] at H
    have c3b0 : decide (t102 < 0) = false := decide_eq_false c3
    clear c3
    replace H := Option.bind_eq_some_iff.mp H
    obtain ⟨⟨t103, t104, t107⟩, A70, H⟩ := H
    replace H : ((spec_GoodHeap.f k t103 t104 t107).bind fun t110 => ((laws_toHeap.f k a0_0 l0_1 l0_2).bind fun bt111 => ((impl_GoodHeap.f k bt111.1 bt111.2.1 bt111.2.2).bind fun t119 => (if (t119 != t110) = true then (some false) else ((laws_toHeap.f k a0_0 l0_1 l0_2).bind fun bt120 => ((laws_eqHeap.f k bt111.1 bt111.2.1 bt111.2.2 bt120.1 bt120.2.1 bt120.2.2).bind fun t127 => (if t127 = true then (some true) else (some false)))))))) = some r := H
    have A7 := Aside0.mk A70
    clear A70
    replace H := Option.bind_eq_some_iff.mp H
    obtain ⟨t110, A80, H⟩ := H
    replace H : ((laws_toHeap.f k a0_0 l0_1 l0_2).bind fun bt111 => ((impl_GoodHeap.f k bt111.1 bt111.2.1 bt111.2.2).bind fun t119 => (if (t119 != t110) = true then (some false) else ((laws_toHeap.f k a0_0 l0_1 l0_2).bind fun bt120 => ((laws_eqHeap.f k bt111.1 bt111.2.1 bt111.2.2 bt120.1 bt120.2.1 bt120.2.2).bind fun t127 => (if t127 = true then (some true) else (some false))))))) = some r := H
    have A8 := Aside0.mk A80
    clear A80
    replace H := Option.bind_eq_some_iff.mp H
    obtain ⟨⟨t111, t112, t115⟩, A90, H⟩ := H
    replace H : ((impl_GoodHeap.f k t111 t112 t115).bind fun t119 => (if (t119 != t110) = true then (some false) else ((laws_toHeap.f k a0_0 l0_1 l0_2).bind fun bt120 => ((laws_eqHeap.f k t111 t112 t115 bt120.1 bt120.2.1 bt120.2.2).bind fun t127 => (if t127 = true then (some true) else (some false)))))) = some r := H
    have A9 := Aside0.mk A90
    clear A90
    replace H := Option.bind_eq_some_iff.mp H
    obtain ⟨t119, A100, H⟩ := H
    replace H : (if (t119 != t110) = true then (some false) else ((laws_toHeap.f k a0_0 l0_1 l0_2).bind fun bt120 => ((laws_eqHeap.f k t111 t112 t115 bt120.1 bt120.2.1 bt120.2.2).bind fun t127 => (if t127 = true then (some true) else (some false))))) = some r := H
    have A10 := Aside0.mk A100
    clear A100
    by_cases c11 : (t119 != t110) = true
    · rw [if_pos c11] at H
      have c11b0 : (t119 != t110) = true := c11
      (try (have c11b1 : decide (t119 = t110) = false := by simpa using c11))
      (try (have c11b2 : (t119 == t110) = false := by simpa using c11))
      (try (have c11b3 : ¬ (t119 = t110) := by simpa using c11))
      clear c11
      obtain rfl := Option.some.inj H
      go_enter Try.func3, Try.ntmps3
      go_wp2_with (first | ((with_reducible refine gate_dst (N := 1) rfl ?_); refine box_event ?hg (N := 1) ?hd (cs := #[.int .i64 a0_0, .slice A0_1 l0_1.length c0_1, .slice A0_2 l0_2.length c0_2]) (t := 25) ?hr ?_; (case hd => rfl); (case hg => rfl); (case hr => first | (go_simp; done) | (go_simp; rfl)); intro gb101 hg w12 hbox hb; have n0_ := Aside0.mk (below_step (by repeat (first | (with_reducible first | exact HB.out | apply below_alloc | apply pw_below_drewN | apply below_drew1) | exact HB.out)) hb); have n1_ := Aside0.mk (hbox); have n2_ := Aside0.mk ((by rw [hg]; exact (below_size (by repeat (first | (with_reducible first | exact HB.out | apply below_alloc | apply pw_below_drewN | apply below_drew1) | exact HB.out))) : w.heap.size ≤ gb101)); have n3_ := Aside0.mk ((by rw [hg]; exact (below_size (by repeat (first | (with_reducible first | exact HB.out | apply below_alloc | apply pw_below_drewN | apply below_drew1) | exact HB.out))) : w.heap.size ≤ gb101)); clear HB; have HB := n0_; have BK101 := n1_; have GW101 := n2_; have GE101 := n3_; clear n0_ n1_ n2_ n3_; clear hb hbox hg; have hcz13_0 : w12.cell? ⟨gb101, 0, none⟩ = some (.int .i64 a0_0) := (blk_cell BK101.out 0).trans rfl; have hcz13_1 : w12.cell? ⟨gb101, 1, none⟩ = some (.slice A0_1 l0_1.length c0_1) := (blk_cell BK101.out 1).trans rfl; have hcz13_2 : w12.cell? ⟨gb101, 2, none⟩ = some (.slice A0_2 l0_2.length c0_2) := (blk_cell BK101.out 2).trans rfl; have hfz13_0 := blk_frozen BK101.out 0; have hfz13_1 := blk_frozen BK101.out 1; have hfz13_2 := blk_frozen BK101.out 2) | ((with_reducible refine gate_callee (f := 7) rfl ?_); refine goesL_ (some 9) rfl rfl Try.func7 (by kernel_rfl) rfl #[.agg #[.int .i64 a0_0, .slice A0_1 l0_1.length c0_1, .slice A0_2 l0_2.length c0_2], .int .i64 1048576] rfl (by (try simp only [List.map_toArray, List.map_cons, List.map_nil]); first | done | rfl | (simp only [List.length_drop, List.length_take]; rfl)) ?_; (with_reducible refine (laws_szHeap.calls a0_0 _ _ l0_1 _ _ l0_2 1048576 t102 _ ?side1 ?side2 ?side3 ?side4 A2.out).mono ?_); (case side1 => repeat (first | exact (Kd.C_below HR0_1.out HB.out) | (with_reducible refine Kd.C_alloc ?_ _) | (with_reducible refine Kd.C_drewN ?_ _) | (with_reducible refine Kd.C_drew ?_))); (case side2 => exact HC0_1.out); (case side3 => repeat (first | exact (Kd.C_below HR0_2.out HB.out) | (with_reducible refine Kd.C_alloc ?_ _) | (with_reducible refine Kd.C_drewN ?_ _) | (with_reducible refine Kd.C_drew ?_))); (case side4 => exact HC0_2.out); rintro e w14 ⟨rfl, hb⟩; refine ⟨_, rfl, ?_⟩; have n0_ := Aside0.mk (blk_below (g := gb101) (o := .cells #[.int .i64 a0_0, .slice A0_1 l0_1.length c0_1, .slice A0_2 l0_2.length c0_2] 25 (0, 0)) (by (with_reducible repeat (first | refine blk_drewN ?_ _ | refine blk_drew ?_ | refine blk_alloc ?_ _)); exact BK101.out) hb); have n1_ := Aside0.mk (below_step (by repeat (first | (with_reducible first | exact HB.out | apply below_alloc | apply pw_below_drewN | apply below_drew1 | refine below_set ?_ GE101.out) | exact HB.out)) hb); clear BK101; clear HB; have BK101 := n0_; have HB := n1_; clear n0_ n1_; (try clear hb); (try clear hb2); (try clear hk); (try clear hi); have hcz15_0 : w14.cell? ⟨gb101, 0, none⟩ = some (.int .i64 a0_0) := (blk_cell BK101.out 0).trans rfl; have hcz15_1 : w14.cell? ⟨gb101, 1, none⟩ = some (.slice A0_1 l0_1.length c0_1) := (blk_cell BK101.out 1).trans rfl; have hcz15_2 : w14.cell? ⟨gb101, 2, none⟩ = some (.slice A0_2 l0_2.length c0_2) := (blk_cell BK101.out 2).trans rfl; have hfz15_0 := blk_frozen BK101.out 0; have hfz15_1 := blk_frozen BK101.out 1; have hfz15_2 := blk_frozen BK101.out 2) | ((with_reducible refine gate_callee (f := 9) rfl ?_); refine goesL_ (some 13) rfl rfl Try.func9 (by kernel_rfl) rfl #[.agg #[.int .i64 a0_0, .slice A0_1 l0_1.length c0_1, .slice A0_2 l0_2.length c0_2]] rfl (by (try simp only [List.map_toArray, List.map_cons, List.map_nil]); first | done | rfl | (simp only [List.length_drop, List.length_take]; rfl)) ?_; (with_reducible refine (laws_toHeap.calls k a0_0 _ _ l0_1 _ _ l0_2 t103 t104 t107 _ ?side1 ?side2 ?side3 ?side4 A7.out).mono ?_); (case side1 => repeat (first | exact (Kd.C_below HR0_1.out HB.out) | (with_reducible refine Kd.C_alloc ?_ _) | (with_reducible refine Kd.C_drewN ?_ _) | (with_reducible refine Kd.C_drew ?_))); (case side2 => exact HC0_1.out); (case side3 => repeat (first | exact (Kd.C_below HR0_2.out HB.out) | (with_reducible refine Kd.C_alloc ?_ _) | (with_reducible refine Kd.C_drewN ?_ _) | (with_reducible refine Kd.C_drew ?_))); (case side4 => exact HC0_2.out); rintro e w16 ⟨v105, v108, rfl, ho0, ho1, hb⟩; refine ⟨_, rfl, ?_⟩; have n0_ := Aside0.mk (Kd.R_lower ho0 (below_size (by repeat (first | (with_reducible first | exact HB.out | apply below_alloc | apply pw_below_drewN | apply below_drew1 | refine below_set ?_ GE101.out) | exact HB.out)))); have n1_ := Aside0.mk (Kd.R_lower ho1 (below_size (by repeat (first | (with_reducible first | exact HB.out | apply below_alloc | apply pw_below_drewN | apply below_drew1 | refine below_set ?_ GE101.out) | exact HB.out)))); have n2_ := Aside0.mk (blk_below (g := gb101) (o := .cells #[.int .i64 a0_0, .slice A0_1 l0_1.length c0_1, .slice A0_2 l0_2.length c0_2] 25 (0, 0)) (by (with_reducible repeat (first | refine blk_drewN ?_ _ | refine blk_drew ?_ | refine blk_alloc ?_ _)); exact BK101.out) hb); have n3_ := Aside0.mk (below_step (by repeat (first | (with_reducible first | exact HB.out | apply below_alloc | apply pw_below_drewN | apply below_drew1 | refine below_set ?_ GE101.out) | exact HB.out)) hb); clear BK101; clear HB; have HO106 := n0_; have HO109 := n1_; have BK101 := n2_; have HB := n3_; clear n0_ n1_ n2_ n3_; (try clear hb); (try clear hb2); (try clear hk); (try clear hi); (try clear ho0); (try clear ho1); obtain ⟨Ao17, co17, eo17⟩ := Kd.R_slice HO106.out; subst eo17; obtain ⟨Ao18, co18, eo18⟩ := Kd.R_slice HO109.out; subst eo18) | ((with_reducible refine gate_callee (f := 8) rfl ?_); refine goesL_ (some 14) rfl rfl Try.func8 (by kernel_rfl) rfl #[.agg #[.int .i64 t103, .slice Ao17 t104.length co17, .slice Ao18 t107.length co18]] rfl (by (try simp only [List.map_toArray, List.map_cons, List.map_nil]); first | done | rfl | (simp only [List.length_drop, List.length_take]; rfl)) ?_; (with_reducible refine (spec_GoodHeap.calls k t103 _ _ t104 _ _ t107 t110 _ ?side1 ?side2 ?side3 ?side4 A8.out).mono ?_); (case side1 => repeat (first | exact (Kd.R_reads' HO106.out).2.2 | (with_reducible refine Kd.C_alloc ?_ _) | (with_reducible refine Kd.C_drewN ?_ _) | (with_reducible refine Kd.C_drew ?_))); (case side2 => exact (Kd.R_reads' HO106.out).2.1); (case side3 => repeat (first | exact (Kd.R_reads' HO109.out).2.2 | (with_reducible refine Kd.C_alloc ?_ _) | (with_reducible refine Kd.C_drewN ?_ _) | (with_reducible refine Kd.C_drew ?_))); (case side4 => exact (Kd.R_reads' HO109.out).2.1); rintro e w19 ⟨rfl, hb⟩; refine ⟨_, rfl, ?_⟩; have n0_ := Aside0.mk (Kd.R_below (by (with_reducible repeat (first | apply Kd.R_alloc | apply Kd.R_drewN | apply Kd.R_drew)); exact HO106.out) hb); have n1_ := Aside0.mk (Kd.R_below (by (with_reducible repeat (first | apply Kd.R_alloc | apply Kd.R_drewN | apply Kd.R_drew)); exact HO109.out) hb); have n2_ := Aside0.mk (blk_below (g := gb101) (o := .cells #[.int .i64 a0_0, .slice A0_1 l0_1.length c0_1, .slice A0_2 l0_2.length c0_2] 25 (0, 0)) (by (with_reducible repeat (first | refine blk_drewN ?_ _ | refine blk_drew ?_ | refine blk_alloc ?_ _)); exact BK101.out) hb); have n3_ := Aside0.mk (below_step (by repeat (first | (with_reducible first | exact HB.out | apply below_alloc | apply pw_below_drewN | apply below_drew1 | refine below_set ?_ GE101.out) | exact HB.out)) hb); clear HO106; clear HO109; clear BK101; clear HB; have HO106 := n0_; have HO109 := n1_; have BK101 := n2_; have HB := n3_; clear n0_ n1_ n2_ n3_; (try clear hb); (try clear hb2); (try clear hk); (try clear hi); have hcz20_0 : w19.cell? ⟨gb101, 0, none⟩ = some (.int .i64 a0_0) := (blk_cell BK101.out 0).trans rfl; have hcz20_1 : w19.cell? ⟨gb101, 1, none⟩ = some (.slice A0_1 l0_1.length c0_1) := (blk_cell BK101.out 1).trans rfl; have hcz20_2 : w19.cell? ⟨gb101, 2, none⟩ = some (.slice A0_2 l0_2.length c0_2) := (blk_cell BK101.out 2).trans rfl; have hfz20_0 := blk_frozen BK101.out 0; have hfz20_1 := blk_frozen BK101.out 1; have hfz20_2 := blk_frozen BK101.out 2) | ((with_reducible refine gate_callee (f := 9) rfl ?_); refine goesL_ (some 16) rfl rfl Try.func9 (by kernel_rfl) rfl #[.agg #[.int .i64 a0_0, .slice A0_1 l0_1.length c0_1, .slice A0_2 l0_2.length c0_2]] rfl (by (try simp only [List.map_toArray, List.map_cons, List.map_nil]); first | done | rfl | (simp only [List.length_drop, List.length_take]; rfl)) ?_; (with_reducible refine (laws_toHeap.calls k a0_0 _ _ l0_1 _ _ l0_2 t111 t112 t115 _ ?side1 ?side2 ?side3 ?side4 A9.out).mono ?_); (case side1 => repeat (first | exact (Kd.C_below HR0_1.out HB.out) | (with_reducible refine Kd.C_alloc ?_ _) | (with_reducible refine Kd.C_drewN ?_ _) | (with_reducible refine Kd.C_drew ?_))); (case side2 => exact HC0_1.out); (case side3 => repeat (first | exact (Kd.C_below HR0_2.out HB.out) | (with_reducible refine Kd.C_alloc ?_ _) | (with_reducible refine Kd.C_drewN ?_ _) | (with_reducible refine Kd.C_drew ?_))); (case side4 => exact HC0_2.out); rintro e w21 ⟨v113, v116, rfl, ho0, ho1, hb⟩; refine ⟨_, rfl, ?_⟩; have n0_ := Aside0.mk (Kd.R_elder' (by (with_reducible repeat (first | apply Kd.R_alloc | apply Kd.R_drewN | apply Kd.R_drew)); exact HO106.out) (Kd.R_base ho0) hb); have n1_ := Aside0.mk (Kd.R_elder' (by (with_reducible repeat (first | apply Kd.R_alloc | apply Kd.R_drewN | apply Kd.R_drew)); exact HO109.out) (Kd.R_base ho1) hb); have n2_ := Aside0.mk (Kd.R_lower (Kd.R_new' ho0 (Kd.R_lt (by (with_reducible repeat (first | apply Kd.R_alloc | apply Kd.R_drewN | apply Kd.R_drew)); exact HO106.out))) (below_size (by repeat (first | (with_reducible first | exact HB.out | apply below_alloc | apply pw_below_drewN | apply below_drew1 | refine below_set ?_ GE101.out) | exact HB.out)))); have n3_ := Aside0.mk (Kd.R_lower (Kd.R_new' ho1 (Kd.R_lt (by (with_reducible repeat (first | apply Kd.R_alloc | apply Kd.R_drewN | apply Kd.R_drew)); exact HO109.out))) (below_size (by repeat (first | (with_reducible first | exact HB.out | apply below_alloc | apply pw_below_drewN | apply below_drew1 | refine below_set ?_ GE101.out) | exact HB.out)))); have n4_ := Aside0.mk (blk_below (g := gb101) (o := .cells #[.int .i64 a0_0, .slice A0_1 l0_1.length c0_1, .slice A0_2 l0_2.length c0_2] 25 (0, 0)) (by (with_reducible repeat (first | refine blk_drewN ?_ _ | refine blk_drew ?_ | refine blk_alloc ?_ _)); exact BK101.out) hb); have n5_ := Aside0.mk (below_step (by repeat (first | (with_reducible first | exact HB.out | apply below_alloc | apply pw_below_drewN | apply below_drew1 | refine below_set ?_ GE101.out) | exact HB.out)) hb); clear HO106; clear HO109; clear BK101; clear HB; have HO106 := n0_; have HO109 := n1_; have HO114 := n2_; have HO117 := n3_; have BK101 := n4_; have HB := n5_; clear n0_ n1_ n2_ n3_ n4_ n5_; (try clear hb); (try clear hb2); (try clear hk); (try clear hi); (try clear ho0); (try clear ho1)) | ((with_reducible refine gate_dst (N := 5) rfl ?_); refine box_event ?hg (N := 5) ?hd (cs := #[.int .i64 0, .slice none 0 0, .slice none 0 0]) (t := 30) ?hr ?_; (case hd => rfl); (case hg => rfl); (case hr => first | (go_simp; done) | (go_simp; rfl)); intro gb118 hg w22 hbox hb; have n0_ := Aside0.mk (Kd.R_below (by (with_reducible repeat (first | apply Kd.R_alloc | apply Kd.R_drewN | apply Kd.R_drew)); exact HO106.out) hb); have n1_ := Aside0.mk (Kd.R_below (by (with_reducible repeat (first | apply Kd.R_alloc | apply Kd.R_drewN | apply Kd.R_drew)); exact HO109.out) hb); have n2_ := Aside0.mk (Kd.R_below (by (with_reducible repeat (first | apply Kd.R_alloc | apply Kd.R_drewN | apply Kd.R_drew)); exact HO114.out) hb); have n3_ := Aside0.mk (Kd.R_below (by (with_reducible repeat (first | apply Kd.R_alloc | apply Kd.R_drewN | apply Kd.R_drew)); exact HO117.out) hb); have n4_ := Aside0.mk (blk_below (g := gb101) (o := .cells #[.int .i64 a0_0, .slice A0_1 l0_1.length c0_1, .slice A0_2 l0_2.length c0_2] 25 (0, 0)) (by (with_reducible repeat (first | refine blk_drewN ?_ _ | refine blk_drew ?_ | refine blk_alloc ?_ _)); exact BK101.out) hb); have n5_ := Aside0.mk (below_step (by repeat (first | (with_reducible first | exact HB.out | apply below_alloc | apply pw_below_drewN | apply below_drew1 | refine below_set ?_ GE101.out) | exact HB.out)) hb); have n6_ := Aside0.mk (hbox); have n7_ := Aside0.mk ((by rw [hg]; exact (below_size (by repeat (first | (with_reducible first | exact HB.out | apply below_alloc | apply pw_below_drewN | apply below_drew1 | refine below_set ?_ GE101.out) | exact HB.out))) : w.heap.size ≤ gb118)); have n8_ := Aside0.mk ((by rw [hg]; exact (below_size (by repeat (first | (with_reducible first | exact HB.out | apply below_alloc | apply pw_below_drewN | apply below_drew1 | refine below_set ?_ GE101.out) | exact HB.out))) : w.heap.size ≤ gb118)); have n9_ := Aside0.mk ((by rw [hg]; exact Nat.ne_of_lt (blk_lt (g := gb101) (o := .cells #[.int .i64 a0_0, .slice A0_1 l0_1.length c0_1, .slice A0_2 l0_2.length c0_2] 25 (0, 0)) (by (with_reducible repeat (first | refine blk_drewN ?_ _ | refine blk_drew ?_ | refine blk_alloc ?_ _)); exact BK101.out)) : gb101 ≠ gb118)); have n10_ := Aside0.mk ((by rw [hg]; exact Nat.ne_of_gt (blk_lt (g := gb101) (o := .cells #[.int .i64 a0_0, .slice A0_1 l0_1.length c0_1, .slice A0_2 l0_2.length c0_2] 25 (0, 0)) (by (with_reducible repeat (first | refine blk_drewN ?_ _ | refine blk_drew ?_ | refine blk_alloc ?_ _)); exact BK101.out)) : gb118 ≠ gb101)); clear HO106; clear HO109; clear HO114; clear HO117; clear BK101; clear HB; have HO106 := n0_; have HO109 := n1_; have HO114 := n2_; have HO117 := n3_; have BK101 := n4_; have HB := n5_; have BK118 := n6_; have GW118 := n7_; have GE118 := n8_; have NB101_118 := n9_; have NB118_101 := n10_; clear n0_ n1_ n2_ n3_ n4_ n5_ n6_ n7_ n8_ n9_ n10_; clear hb hbox hg; have hnb23 := NB118_101.out; have hnc23 := NB101_118.out; have hcz24_0 : w22.cell? ⟨gb118, 0, none⟩ = some (.int .i64 0) := (blk_cell BK118.out 0).trans rfl; have hcz24_1 : w22.cell? ⟨gb118, 1, none⟩ = some (.slice none 0 0) := (blk_cell BK118.out 1).trans rfl; have hcz24_2 : w22.cell? ⟨gb118, 2, none⟩ = some (.slice none 0 0) := (blk_cell BK118.out 2).trans rfl; have hfz24_0 := blk_frozen BK118.out 0; have hfz24_1 := blk_frozen BK118.out 1; have hfz24_2 := blk_frozen BK118.out 2; obtain ⟨Ao25, co25, eo25⟩ := Kd.R_slice HO114.out; subst eo25; obtain ⟨Ao26, co26, eo26⟩ := Kd.R_slice HO117.out; subst eo26) | ((with_reducible refine gate_callee (f := 10) rfl ?_); refine goesL_ (some 18) rfl rfl Try.func10 (by kernel_rfl) rfl #[.agg #[.int .i64 t111, .slice Ao25 t112.length co25, .slice Ao26 t115.length co26]] rfl (by (try simp only [List.map_toArray, List.map_cons, List.map_nil]); first | done | rfl | (simp only [List.length_drop, List.length_take]; rfl)) ?_; (with_reducible refine (impl_GoodHeap.calls k t111 _ _ t112 _ _ t115 t119 _ ?side1 ?side2 ?side3 ?side4 A10.out).mono ?_); (case side1 => refine (Kd.R_reads' (e := 44) (base := w.heap.size) (ok := fun k_ => (True ∧ some k_ ≠ (.slice Ao17 t104.length co17 : Value).ownBlock)) (n := t112.length) (c := co25) ?_).2.2; exact (by (with_reducible repeat (first | apply Kd.R_alloc | apply Kd.R_drewN | apply Kd.R_drew)); exact (Kd.R_mono (Kd.R_far (p := ⟨gb118, 2, none⟩) (Kd.R_far (p := ⟨gb118, 1, none⟩) (Kd.R_far (p := ⟨gb118, 0, none⟩) (Kd.R_types HO114.out BK118.out (by decide)) (fun _ hk => hk.2) (.int .i64 t111)) (fun _ hk => hk.2) (.slice Ao25 t112.length co25)) (fun _ hk => hk.2) (.slice Ao26 t115.length co26)) (fun _ h_ => h_.1)))); (case side2 => exact (Kd.R_reads' HO114.out).2.1); (case side3 => refine (Kd.R_reads' (e := 3) (base := w.heap.size) (ok := fun k_ => (True ∧ some k_ ≠ (.slice Ao18 t107.length co18 : Value).ownBlock)) (n := t115.length) (c := co26) ?_).2.2; exact (by (with_reducible repeat (first | apply Kd.R_alloc | apply Kd.R_drewN | apply Kd.R_drew)); exact (Kd.R_mono (Kd.R_far (p := ⟨gb118, 2, none⟩) (Kd.R_far (p := ⟨gb118, 1, none⟩) (Kd.R_far (p := ⟨gb118, 0, none⟩) (Kd.R_types HO117.out BK118.out (by decide)) (fun _ hk => hk.2) (.int .i64 t111)) (fun _ hk => hk.2) (.slice Ao25 t112.length co25)) (fun _ hk => hk.2) (.slice Ao26 t115.length co26)) (fun _ h_ => h_.1)))); (case side4 => exact (Kd.R_reads' HO117.out).2.1); rintro e w27 ⟨rfl, hb⟩; refine ⟨_, rfl, ?_⟩; have n0_ := Aside0.mk (Kd.R_below (by (with_reducible repeat (first | apply Kd.R_alloc | apply Kd.R_drewN | apply Kd.R_drew)); exact (Kd.R_mono (Kd.R_far (p := ⟨gb118, 2, none⟩) (Kd.R_far (p := ⟨gb118, 1, none⟩) (Kd.R_far (p := ⟨gb118, 0, none⟩) (Kd.R_types HO106.out BK118.out (by decide)) (fun _ hk => hk.2) (.int .i64 t111)) (fun _ hk => hk.2) (.slice Ao25 t112.length co25)) (fun _ hk => hk.2) (.slice Ao26 t115.length co26)) (fun _ h_ => h_.1))) hb); have n1_ := Aside0.mk (Kd.R_below (by (with_reducible repeat (first | apply Kd.R_alloc | apply Kd.R_drewN | apply Kd.R_drew)); exact (Kd.R_mono (Kd.R_far (p := ⟨gb118, 2, none⟩) (Kd.R_far (p := ⟨gb118, 1, none⟩) (Kd.R_far (p := ⟨gb118, 0, none⟩) (Kd.R_types HO109.out BK118.out (by decide)) (fun _ hk => hk.2) (.int .i64 t111)) (fun _ hk => hk.2) (.slice Ao25 t112.length co25)) (fun _ hk => hk.2) (.slice Ao26 t115.length co26)) (fun _ h_ => h_.1))) hb); have n2_ := Aside0.mk (Kd.R_below (by (with_reducible repeat (first | apply Kd.R_alloc | apply Kd.R_drewN | apply Kd.R_drew)); exact (Kd.R_mono (Kd.R_far (p := ⟨gb118, 2, none⟩) (Kd.R_far (p := ⟨gb118, 1, none⟩) (Kd.R_far (p := ⟨gb118, 0, none⟩) (Kd.R_types HO114.out BK118.out (by decide)) (fun _ hk => hk.2) (.int .i64 t111)) (fun _ hk => hk.2) (.slice Ao25 t112.length co25)) (fun _ hk => hk.2) (.slice Ao26 t115.length co26)) (fun _ h_ => h_.1))) hb); have n3_ := Aside0.mk (Kd.R_below (by (with_reducible repeat (first | apply Kd.R_alloc | apply Kd.R_drewN | apply Kd.R_drew)); exact (Kd.R_mono (Kd.R_far (p := ⟨gb118, 2, none⟩) (Kd.R_far (p := ⟨gb118, 1, none⟩) (Kd.R_far (p := ⟨gb118, 0, none⟩) (Kd.R_types HO117.out BK118.out (by decide)) (fun _ hk => hk.2) (.int .i64 t111)) (fun _ hk => hk.2) (.slice Ao25 t112.length co25)) (fun _ hk => hk.2) (.slice Ao26 t115.length co26)) (fun _ h_ => h_.1))) hb); have n4_ := Aside0.mk (blk_below (g := gb101) (o := .cells #[.int .i64 a0_0, .slice A0_1 l0_1.length c0_1, .slice A0_2 l0_2.length c0_2] 25 (0, 0)) (by (with_reducible repeat (first | refine blk_drewN ?_ _ | refine blk_drew ?_ | refine blk_alloc ?_ _)); refine blk_far ?_ NB101_118.out _; (with_reducible repeat (first | refine blk_drewN ?_ _ | refine blk_drew ?_ | refine blk_alloc ?_ _)); refine blk_far ?_ NB101_118.out _; (with_reducible repeat (first | refine blk_drewN ?_ _ | refine blk_drew ?_ | refine blk_alloc ?_ _)); refine blk_far ?_ NB101_118.out _; (with_reducible repeat (first | refine blk_drewN ?_ _ | refine blk_drew ?_ | refine blk_alloc ?_ _)); exact BK101.out) hb); have n5_ := Aside0.mk (blk_below (g := gb118) (o := .cells #[.int .i64 t111, .slice Ao25 t112.length co25, .slice Ao26 t115.length co26] 30 (0, 0)) (by (with_reducible repeat (first | refine blk_drewN ?_ _ | refine blk_drew ?_ | refine blk_alloc ?_ _)); refine blk_put (cs := #[.int .i64 t111, .slice Ao25 t112.length co25, .slice none 0 0]) ?_ 2 _ rfl; (with_reducible repeat (first | refine blk_drewN ?_ _ | refine blk_drew ?_ | refine blk_alloc ?_ _)); refine blk_put (cs := #[.int .i64 t111, .slice none 0 0, .slice none 0 0]) ?_ 1 _ rfl; (with_reducible repeat (first | refine blk_drewN ?_ _ | refine blk_drew ?_ | refine blk_alloc ?_ _)); refine blk_put (cs := #[.int .i64 0, .slice none 0 0, .slice none 0 0]) ?_ 0 _ rfl; (with_reducible repeat (first | refine blk_drewN ?_ _ | refine blk_drew ?_ | refine blk_alloc ?_ _)); exact BK118.out) hb); have n6_ := Aside0.mk (below_step (by repeat (first | (with_reducible first | exact HB.out | apply below_alloc | apply pw_below_drewN | apply below_drew1 | refine below_set ?_ GE101.out | refine below_set ?_ GE118.out) | exact HB.out)) hb); clear HO106; clear HO109; clear HO114; clear HO117; clear BK101; clear BK118; clear HB; have HO106 := n0_; have HO109 := n1_; have HO114 := n2_; have HO117 := n3_; have BK101 := n4_; have BK118 := n5_; have HB := n6_; clear n0_ n1_ n2_ n3_ n4_ n5_ n6_; (try clear hb); (try clear hb2); (try clear hk); (try clear hi)))
      go_ret
      exact ⟨by first | rfl | (simp [errW_none, errW_some] <;> rfl) | (simp [*, errW_none, errW_some] <;> rfl), by repeat (first | (with_reducible first | exact HB.out | apply below_alloc | apply pw_below_drewN | apply below_drew1 | refine below_set ?_ GE101.out | refine below_set ?_ GE118.out) | exact HB.out)⟩
    · rw [if_neg c11] at H
      have c11b0 : (t119 != t110) = false := by simpa using c11
      (try (have c11b1 : decide (t119 = t110) = true := by simpa using c11))
      (try (have c11b2 : (t119 == t110) = true := by simpa using c11))
      clear c11
      replace H := Option.bind_eq_some_iff.mp H
      obtain ⟨⟨t120, t121, t124⟩, A280, H⟩ := H
      replace H : ((laws_eqHeap.f k t111 t112 t115 t120 t121 t124).bind fun t127 => (if t127 = true then (some true) else (some false))) = some r := H
      have A28 := Aside0.mk A280
      clear A280
      replace H := Option.bind_eq_some_iff.mp H
      obtain ⟨t127, A290, H⟩ := H
      replace H : (if t127 = true then (some true) else (some false)) = some r := H
      have A29 := Aside0.mk A290
      clear A290
      by_cases c30 : t127 = true
      · subst c30
        have H1 : (some true) = some r := by rw [if_pos rfl] at H; exact H
        clear H
        have H := H1
        clear H1
        obtain rfl := Option.some.inj H
        go_enter Try.func3, Try.ntmps3
        try go_wp2_with (first | ((with_reducible refine gate_dst (N := 1) rfl ?_); refine box_event ?hg (N := 1) ?hd (cs := #[.int .i64 a0_0, .slice A0_1 l0_1.length c0_1, .slice A0_2 l0_2.length c0_2]) (t := 25) ?hr ?_; (case hd => rfl); (case hg => rfl); (case hr => first | (go_simp; done) | (go_simp; rfl)); intro gb101 hg w31 hbox hb; have n0_ := Aside0.mk (below_step (by repeat (first | (with_reducible first | exact HB.out | apply below_alloc | apply pw_below_drewN | apply below_drew1) | exact HB.out)) hb); have n1_ := Aside0.mk (hbox); have n2_ := Aside0.mk ((by rw [hg]; exact (below_size (by repeat (first | (with_reducible first | exact HB.out | apply below_alloc | apply pw_below_drewN | apply below_drew1) | exact HB.out))) : w.heap.size ≤ gb101)); have n3_ := Aside0.mk ((by rw [hg]; exact (below_size (by repeat (first | (with_reducible first | exact HB.out | apply below_alloc | apply pw_below_drewN | apply below_drew1) | exact HB.out))) : w.heap.size ≤ gb101)); clear HB; have HB := n0_; have BK101 := n1_; have GW101 := n2_; have GE101 := n3_; clear n0_ n1_ n2_ n3_; clear hb hbox hg; have hcz32_0 : w31.cell? ⟨gb101, 0, none⟩ = some (.int .i64 a0_0) := (blk_cell BK101.out 0).trans rfl; have hcz32_1 : w31.cell? ⟨gb101, 1, none⟩ = some (.slice A0_1 l0_1.length c0_1) := (blk_cell BK101.out 1).trans rfl; have hcz32_2 : w31.cell? ⟨gb101, 2, none⟩ = some (.slice A0_2 l0_2.length c0_2) := (blk_cell BK101.out 2).trans rfl; have hfz32_0 := blk_frozen BK101.out 0; have hfz32_1 := blk_frozen BK101.out 1; have hfz32_2 := blk_frozen BK101.out 2) | ((with_reducible refine gate_callee (f := 7) rfl ?_); refine goesL_ (some 9) rfl rfl Try.func7 (by kernel_rfl) rfl #[.agg #[.int .i64 a0_0, .slice A0_1 l0_1.length c0_1, .slice A0_2 l0_2.length c0_2], .int .i64 1048576] rfl (by (try simp only [List.map_toArray, List.map_cons, List.map_nil]); first | done | rfl | (simp only [List.length_drop, List.length_take]; rfl)) ?_; (with_reducible refine (laws_szHeap.calls a0_0 _ _ l0_1 _ _ l0_2 1048576 t102 _ ?side1 ?side2 ?side3 ?side4 A2.out).mono ?_); (case side1 => repeat (first | exact (Kd.C_below HR0_1.out HB.out) | (with_reducible refine Kd.C_alloc ?_ _) | (with_reducible refine Kd.C_drewN ?_ _) | (with_reducible refine Kd.C_drew ?_))); (case side2 => exact HC0_1.out); (case side3 => repeat (first | exact (Kd.C_below HR0_2.out HB.out) | (with_reducible refine Kd.C_alloc ?_ _) | (with_reducible refine Kd.C_drewN ?_ _) | (with_reducible refine Kd.C_drew ?_))); (case side4 => exact HC0_2.out); rintro e w33 ⟨rfl, hb⟩; refine ⟨_, rfl, ?_⟩; have n0_ := Aside0.mk (blk_below (g := gb101) (o := .cells #[.int .i64 a0_0, .slice A0_1 l0_1.length c0_1, .slice A0_2 l0_2.length c0_2] 25 (0, 0)) (by (with_reducible repeat (first | refine blk_drewN ?_ _ | refine blk_drew ?_ | refine blk_alloc ?_ _)); exact BK101.out) hb); have n1_ := Aside0.mk (below_step (by repeat (first | (with_reducible first | exact HB.out | apply below_alloc | apply pw_below_drewN | apply below_drew1 | refine below_set ?_ GE101.out) | exact HB.out)) hb); clear BK101; clear HB; have BK101 := n0_; have HB := n1_; clear n0_ n1_; (try clear hb); (try clear hb2); (try clear hk); (try clear hi); have hcz34_0 : w33.cell? ⟨gb101, 0, none⟩ = some (.int .i64 a0_0) := (blk_cell BK101.out 0).trans rfl; have hcz34_1 : w33.cell? ⟨gb101, 1, none⟩ = some (.slice A0_1 l0_1.length c0_1) := (blk_cell BK101.out 1).trans rfl; have hcz34_2 : w33.cell? ⟨gb101, 2, none⟩ = some (.slice A0_2 l0_2.length c0_2) := (blk_cell BK101.out 2).trans rfl; have hfz34_0 := blk_frozen BK101.out 0; have hfz34_1 := blk_frozen BK101.out 1; have hfz34_2 := blk_frozen BK101.out 2) | ((with_reducible refine gate_callee (f := 9) rfl ?_); refine goesL_ (some 13) rfl rfl Try.func9 (by kernel_rfl) rfl #[.agg #[.int .i64 a0_0, .slice A0_1 l0_1.length c0_1, .slice A0_2 l0_2.length c0_2]] rfl (by (try simp only [List.map_toArray, List.map_cons, List.map_nil]); first | done | rfl | (simp only [List.length_drop, List.length_take]; rfl)) ?_; (with_reducible refine (laws_toHeap.calls k a0_0 _ _ l0_1 _ _ l0_2 t103 t104 t107 _ ?side1 ?side2 ?side3 ?side4 A7.out).mono ?_); (case side1 => repeat (first | exact (Kd.C_below HR0_1.out HB.out) | (with_reducible refine Kd.C_alloc ?_ _) | (with_reducible refine Kd.C_drewN ?_ _) | (with_reducible refine Kd.C_drew ?_))); (case side2 => exact HC0_1.out); (case side3 => repeat (first | exact (Kd.C_below HR0_2.out HB.out) | (with_reducible refine Kd.C_alloc ?_ _) | (with_reducible refine Kd.C_drewN ?_ _) | (with_reducible refine Kd.C_drew ?_))); (case side4 => exact HC0_2.out); rintro e w35 ⟨v105, v108, rfl, ho0, ho1, hb⟩; refine ⟨_, rfl, ?_⟩; have n0_ := Aside0.mk (Kd.R_lower ho0 (below_size (by repeat (first | (with_reducible first | exact HB.out | apply below_alloc | apply pw_below_drewN | apply below_drew1 | refine below_set ?_ GE101.out) | exact HB.out)))); have n1_ := Aside0.mk (Kd.R_lower ho1 (below_size (by repeat (first | (with_reducible first | exact HB.out | apply below_alloc | apply pw_below_drewN | apply below_drew1 | refine below_set ?_ GE101.out) | exact HB.out)))); have n2_ := Aside0.mk (blk_below (g := gb101) (o := .cells #[.int .i64 a0_0, .slice A0_1 l0_1.length c0_1, .slice A0_2 l0_2.length c0_2] 25 (0, 0)) (by (with_reducible repeat (first | refine blk_drewN ?_ _ | refine blk_drew ?_ | refine blk_alloc ?_ _)); exact BK101.out) hb); have n3_ := Aside0.mk (below_step (by repeat (first | (with_reducible first | exact HB.out | apply below_alloc | apply pw_below_drewN | apply below_drew1 | refine below_set ?_ GE101.out) | exact HB.out)) hb); clear BK101; clear HB; have HO106 := n0_; have HO109 := n1_; have BK101 := n2_; have HB := n3_; clear n0_ n1_ n2_ n3_; (try clear hb); (try clear hb2); (try clear hk); (try clear hi); (try clear ho0); (try clear ho1); obtain ⟨Ao36, co36, eo36⟩ := Kd.R_slice HO106.out; subst eo36; obtain ⟨Ao37, co37, eo37⟩ := Kd.R_slice HO109.out; subst eo37) | ((with_reducible refine gate_callee (f := 8) rfl ?_); refine goesL_ (some 14) rfl rfl Try.func8 (by kernel_rfl) rfl #[.agg #[.int .i64 t103, .slice Ao36 t104.length co36, .slice Ao37 t107.length co37]] rfl (by (try simp only [List.map_toArray, List.map_cons, List.map_nil]); first | done | rfl | (simp only [List.length_drop, List.length_take]; rfl)) ?_; (with_reducible refine (spec_GoodHeap.calls k t103 _ _ t104 _ _ t107 t110 _ ?side1 ?side2 ?side3 ?side4 A8.out).mono ?_); (case side1 => repeat (first | exact (Kd.R_reads' HO106.out).2.2 | (with_reducible refine Kd.C_alloc ?_ _) | (with_reducible refine Kd.C_drewN ?_ _) | (with_reducible refine Kd.C_drew ?_))); (case side2 => exact (Kd.R_reads' HO106.out).2.1); (case side3 => repeat (first | exact (Kd.R_reads' HO109.out).2.2 | (with_reducible refine Kd.C_alloc ?_ _) | (with_reducible refine Kd.C_drewN ?_ _) | (with_reducible refine Kd.C_drew ?_))); (case side4 => exact (Kd.R_reads' HO109.out).2.1); rintro e w38 ⟨rfl, hb⟩; refine ⟨_, rfl, ?_⟩; have n0_ := Aside0.mk (Kd.R_below (by (with_reducible repeat (first | apply Kd.R_alloc | apply Kd.R_drewN | apply Kd.R_drew)); exact HO106.out) hb); have n1_ := Aside0.mk (Kd.R_below (by (with_reducible repeat (first | apply Kd.R_alloc | apply Kd.R_drewN | apply Kd.R_drew)); exact HO109.out) hb); have n2_ := Aside0.mk (blk_below (g := gb101) (o := .cells #[.int .i64 a0_0, .slice A0_1 l0_1.length c0_1, .slice A0_2 l0_2.length c0_2] 25 (0, 0)) (by (with_reducible repeat (first | refine blk_drewN ?_ _ | refine blk_drew ?_ | refine blk_alloc ?_ _)); exact BK101.out) hb); have n3_ := Aside0.mk (below_step (by repeat (first | (with_reducible first | exact HB.out | apply below_alloc | apply pw_below_drewN | apply below_drew1 | refine below_set ?_ GE101.out) | exact HB.out)) hb); clear HO106; clear HO109; clear BK101; clear HB; have HO106 := n0_; have HO109 := n1_; have BK101 := n2_; have HB := n3_; clear n0_ n1_ n2_ n3_; (try clear hb); (try clear hb2); (try clear hk); (try clear hi); have hcz39_0 : w38.cell? ⟨gb101, 0, none⟩ = some (.int .i64 a0_0) := (blk_cell BK101.out 0).trans rfl; have hcz39_1 : w38.cell? ⟨gb101, 1, none⟩ = some (.slice A0_1 l0_1.length c0_1) := (blk_cell BK101.out 1).trans rfl; have hcz39_2 : w38.cell? ⟨gb101, 2, none⟩ = some (.slice A0_2 l0_2.length c0_2) := (blk_cell BK101.out 2).trans rfl; have hfz39_0 := blk_frozen BK101.out 0; have hfz39_1 := blk_frozen BK101.out 1; have hfz39_2 := blk_frozen BK101.out 2) | ((with_reducible refine gate_callee (f := 9) rfl ?_); refine goesL_ (some 16) rfl rfl Try.func9 (by kernel_rfl) rfl #[.agg #[.int .i64 a0_0, .slice A0_1 l0_1.length c0_1, .slice A0_2 l0_2.length c0_2]] rfl (by (try simp only [List.map_toArray, List.map_cons, List.map_nil]); first | done | rfl | (simp only [List.length_drop, List.length_take]; rfl)) ?_; (with_reducible refine (laws_toHeap.calls k a0_0 _ _ l0_1 _ _ l0_2 t111 t112 t115 _ ?side1 ?side2 ?side3 ?side4 A9.out).mono ?_); (case side1 => repeat (first | exact (Kd.C_below HR0_1.out HB.out) | (with_reducible refine Kd.C_alloc ?_ _) | (with_reducible refine Kd.C_drewN ?_ _) | (with_reducible refine Kd.C_drew ?_))); (case side2 => exact HC0_1.out); (case side3 => repeat (first | exact (Kd.C_below HR0_2.out HB.out) | (with_reducible refine Kd.C_alloc ?_ _) | (with_reducible refine Kd.C_drewN ?_ _) | (with_reducible refine Kd.C_drew ?_))); (case side4 => exact HC0_2.out); rintro e w40 ⟨v113, v116, rfl, ho0, ho1, hb⟩; refine ⟨_, rfl, ?_⟩; have n0_ := Aside0.mk (Kd.R_elder' (by (with_reducible repeat (first | apply Kd.R_alloc | apply Kd.R_drewN | apply Kd.R_drew)); exact HO106.out) (Kd.R_base ho0) hb); have n1_ := Aside0.mk (Kd.R_elder' (by (with_reducible repeat (first | apply Kd.R_alloc | apply Kd.R_drewN | apply Kd.R_drew)); exact HO109.out) (Kd.R_base ho1) hb); have n2_ := Aside0.mk (Kd.R_lower (Kd.R_new' ho0 (Kd.R_lt (by (with_reducible repeat (first | apply Kd.R_alloc | apply Kd.R_drewN | apply Kd.R_drew)); exact HO106.out))) (below_size (by repeat (first | (with_reducible first | exact HB.out | apply below_alloc | apply pw_below_drewN | apply below_drew1 | refine below_set ?_ GE101.out) | exact HB.out)))); have n3_ := Aside0.mk (Kd.R_lower (Kd.R_new' ho1 (Kd.R_lt (by (with_reducible repeat (first | apply Kd.R_alloc | apply Kd.R_drewN | apply Kd.R_drew)); exact HO109.out))) (below_size (by repeat (first | (with_reducible first | exact HB.out | apply below_alloc | apply pw_below_drewN | apply below_drew1 | refine below_set ?_ GE101.out) | exact HB.out)))); have n4_ := Aside0.mk (blk_below (g := gb101) (o := .cells #[.int .i64 a0_0, .slice A0_1 l0_1.length c0_1, .slice A0_2 l0_2.length c0_2] 25 (0, 0)) (by (with_reducible repeat (first | refine blk_drewN ?_ _ | refine blk_drew ?_ | refine blk_alloc ?_ _)); exact BK101.out) hb); have n5_ := Aside0.mk (below_step (by repeat (first | (with_reducible first | exact HB.out | apply below_alloc | apply pw_below_drewN | apply below_drew1 | refine below_set ?_ GE101.out) | exact HB.out)) hb); clear HO106; clear HO109; clear BK101; clear HB; have HO106 := n0_; have HO109 := n1_; have HO114 := n2_; have HO117 := n3_; have BK101 := n4_; have HB := n5_; clear n0_ n1_ n2_ n3_ n4_ n5_; (try clear hb); (try clear hb2); (try clear hk); (try clear hi); (try clear ho0); (try clear ho1)) | ((with_reducible refine gate_dst (N := 5) rfl ?_); refine box_event ?hg (N := 5) ?hd (cs := #[.int .i64 0, .slice none 0 0, .slice none 0 0]) (t := 30) ?hr ?_; (case hd => rfl); (case hg => rfl); (case hr => first | (go_simp; done) | (go_simp; rfl)); intro gb118 hg w41 hbox hb; have n0_ := Aside0.mk (Kd.R_below (by (with_reducible repeat (first | apply Kd.R_alloc | apply Kd.R_drewN | apply Kd.R_drew)); exact HO106.out) hb); have n1_ := Aside0.mk (Kd.R_below (by (with_reducible repeat (first | apply Kd.R_alloc | apply Kd.R_drewN | apply Kd.R_drew)); exact HO109.out) hb); have n2_ := Aside0.mk (Kd.R_below (by (with_reducible repeat (first | apply Kd.R_alloc | apply Kd.R_drewN | apply Kd.R_drew)); exact HO114.out) hb); have n3_ := Aside0.mk (Kd.R_below (by (with_reducible repeat (first | apply Kd.R_alloc | apply Kd.R_drewN | apply Kd.R_drew)); exact HO117.out) hb); have n4_ := Aside0.mk (blk_below (g := gb101) (o := .cells #[.int .i64 a0_0, .slice A0_1 l0_1.length c0_1, .slice A0_2 l0_2.length c0_2] 25 (0, 0)) (by (with_reducible repeat (first | refine blk_drewN ?_ _ | refine blk_drew ?_ | refine blk_alloc ?_ _)); exact BK101.out) hb); have n5_ := Aside0.mk (below_step (by repeat (first | (with_reducible first | exact HB.out | apply below_alloc | apply pw_below_drewN | apply below_drew1 | refine below_set ?_ GE101.out) | exact HB.out)) hb); have n6_ := Aside0.mk (hbox); have n7_ := Aside0.mk ((by rw [hg]; exact (below_size (by repeat (first | (with_reducible first | exact HB.out | apply below_alloc | apply pw_below_drewN | apply below_drew1 | refine below_set ?_ GE101.out) | exact HB.out))) : w.heap.size ≤ gb118)); have n8_ := Aside0.mk ((by rw [hg]; exact (below_size (by repeat (first | (with_reducible first | exact HB.out | apply below_alloc | apply pw_below_drewN | apply below_drew1 | refine below_set ?_ GE101.out) | exact HB.out))) : w.heap.size ≤ gb118)); have n9_ := Aside0.mk ((by rw [hg]; exact Nat.ne_of_lt (blk_lt (g := gb101) (o := .cells #[.int .i64 a0_0, .slice A0_1 l0_1.length c0_1, .slice A0_2 l0_2.length c0_2] 25 (0, 0)) (by (with_reducible repeat (first | refine blk_drewN ?_ _ | refine blk_drew ?_ | refine blk_alloc ?_ _)); exact BK101.out)) : gb101 ≠ gb118)); have n10_ := Aside0.mk ((by rw [hg]; exact Nat.ne_of_gt (blk_lt (g := gb101) (o := .cells #[.int .i64 a0_0, .slice A0_1 l0_1.length c0_1, .slice A0_2 l0_2.length c0_2] 25 (0, 0)) (by (with_reducible repeat (first | refine blk_drewN ?_ _ | refine blk_drew ?_ | refine blk_alloc ?_ _)); exact BK101.out)) : gb118 ≠ gb101)); clear HO106; clear HO109; clear HO114; clear HO117; clear BK101; clear HB; have HO106 := n0_; have HO109 := n1_; have HO114 := n2_; have HO117 := n3_; have BK101 := n4_; have HB := n5_; have BK118 := n6_; have GW118 := n7_; have GE118 := n8_; have NB101_118 := n9_; have NB118_101 := n10_; clear n0_ n1_ n2_ n3_ n4_ n5_ n6_ n7_ n8_ n9_ n10_; clear hb hbox hg; have hnb42 := NB118_101.out; have hnc42 := NB101_118.out; have hcz43_0 : w41.cell? ⟨gb118, 0, none⟩ = some (.int .i64 0) := (blk_cell BK118.out 0).trans rfl; have hcz43_1 : w41.cell? ⟨gb118, 1, none⟩ = some (.slice none 0 0) := (blk_cell BK118.out 1).trans rfl; have hcz43_2 : w41.cell? ⟨gb118, 2, none⟩ = some (.slice none 0 0) := (blk_cell BK118.out 2).trans rfl; have hfz43_0 := blk_frozen BK118.out 0; have hfz43_1 := blk_frozen BK118.out 1; have hfz43_2 := blk_frozen BK118.out 2; obtain ⟨Ao44, co44, eo44⟩ := Kd.R_slice HO114.out; subst eo44; obtain ⟨Ao45, co45, eo45⟩ := Kd.R_slice HO117.out; subst eo45) | ((with_reducible refine gate_callee (f := 10) rfl ?_); refine goesL_ (some 18) rfl rfl Try.func10 (by kernel_rfl) rfl #[.agg #[.int .i64 t111, .slice Ao44 t112.length co44, .slice Ao45 t115.length co45]] rfl (by (try simp only [List.map_toArray, List.map_cons, List.map_nil]); first | done | rfl | (simp only [List.length_drop, List.length_take]; rfl)) ?_; (with_reducible refine (impl_GoodHeap.calls k t111 _ _ t112 _ _ t115 t119 _ ?side1 ?side2 ?side3 ?side4 A10.out).mono ?_); (case side1 => refine (Kd.R_reads' (e := 44) (base := w.heap.size) (ok := fun k_ => (True ∧ some k_ ≠ (.slice Ao36 t104.length co36 : Value).ownBlock)) (n := t112.length) (c := co44) ?_).2.2; exact (by (with_reducible repeat (first | apply Kd.R_alloc | apply Kd.R_drewN | apply Kd.R_drew)); exact (Kd.R_mono (Kd.R_far (p := ⟨gb118, 2, none⟩) (Kd.R_far (p := ⟨gb118, 1, none⟩) (Kd.R_far (p := ⟨gb118, 0, none⟩) (Kd.R_types HO114.out BK118.out (by decide)) (fun _ hk => hk.2) (.int .i64 t111)) (fun _ hk => hk.2) (.slice Ao44 t112.length co44)) (fun _ hk => hk.2) (.slice Ao45 t115.length co45)) (fun _ h_ => h_.1)))); (case side2 => exact (Kd.R_reads' HO114.out).2.1); (case side3 => refine (Kd.R_reads' (e := 3) (base := w.heap.size) (ok := fun k_ => (True ∧ some k_ ≠ (.slice Ao37 t107.length co37 : Value).ownBlock)) (n := t115.length) (c := co45) ?_).2.2; exact (by (with_reducible repeat (first | apply Kd.R_alloc | apply Kd.R_drewN | apply Kd.R_drew)); exact (Kd.R_mono (Kd.R_far (p := ⟨gb118, 2, none⟩) (Kd.R_far (p := ⟨gb118, 1, none⟩) (Kd.R_far (p := ⟨gb118, 0, none⟩) (Kd.R_types HO117.out BK118.out (by decide)) (fun _ hk => hk.2) (.int .i64 t111)) (fun _ hk => hk.2) (.slice Ao44 t112.length co44)) (fun _ hk => hk.2) (.slice Ao45 t115.length co45)) (fun _ h_ => h_.1)))); (case side4 => exact (Kd.R_reads' HO117.out).2.1); rintro e w46 ⟨rfl, hb⟩; refine ⟨_, rfl, ?_⟩; have n0_ := Aside0.mk (Kd.R_below (by (with_reducible repeat (first | apply Kd.R_alloc | apply Kd.R_drewN | apply Kd.R_drew)); exact (Kd.R_mono (Kd.R_far (p := ⟨gb118, 2, none⟩) (Kd.R_far (p := ⟨gb118, 1, none⟩) (Kd.R_far (p := ⟨gb118, 0, none⟩) (Kd.R_types HO106.out BK118.out (by decide)) (fun _ hk => hk.2) (.int .i64 t111)) (fun _ hk => hk.2) (.slice Ao44 t112.length co44)) (fun _ hk => hk.2) (.slice Ao45 t115.length co45)) (fun _ h_ => h_.1))) hb); have n1_ := Aside0.mk (Kd.R_below (by (with_reducible repeat (first | apply Kd.R_alloc | apply Kd.R_drewN | apply Kd.R_drew)); exact (Kd.R_mono (Kd.R_far (p := ⟨gb118, 2, none⟩) (Kd.R_far (p := ⟨gb118, 1, none⟩) (Kd.R_far (p := ⟨gb118, 0, none⟩) (Kd.R_types HO109.out BK118.out (by decide)) (fun _ hk => hk.2) (.int .i64 t111)) (fun _ hk => hk.2) (.slice Ao44 t112.length co44)) (fun _ hk => hk.2) (.slice Ao45 t115.length co45)) (fun _ h_ => h_.1))) hb); have n2_ := Aside0.mk (Kd.R_below (by (with_reducible repeat (first | apply Kd.R_alloc | apply Kd.R_drewN | apply Kd.R_drew)); exact (Kd.R_mono (Kd.R_far (p := ⟨gb118, 2, none⟩) (Kd.R_far (p := ⟨gb118, 1, none⟩) (Kd.R_far (p := ⟨gb118, 0, none⟩) (Kd.R_types HO114.out BK118.out (by decide)) (fun _ hk => hk.2) (.int .i64 t111)) (fun _ hk => hk.2) (.slice Ao44 t112.length co44)) (fun _ hk => hk.2) (.slice Ao45 t115.length co45)) (fun _ h_ => h_.1))) hb); have n3_ := Aside0.mk (Kd.R_below (by (with_reducible repeat (first | apply Kd.R_alloc | apply Kd.R_drewN | apply Kd.R_drew)); exact (Kd.R_mono (Kd.R_far (p := ⟨gb118, 2, none⟩) (Kd.R_far (p := ⟨gb118, 1, none⟩) (Kd.R_far (p := ⟨gb118, 0, none⟩) (Kd.R_types HO117.out BK118.out (by decide)) (fun _ hk => hk.2) (.int .i64 t111)) (fun _ hk => hk.2) (.slice Ao44 t112.length co44)) (fun _ hk => hk.2) (.slice Ao45 t115.length co45)) (fun _ h_ => h_.1))) hb); have n4_ := Aside0.mk (blk_below (g := gb101) (o := .cells #[.int .i64 a0_0, .slice A0_1 l0_1.length c0_1, .slice A0_2 l0_2.length c0_2] 25 (0, 0)) (by (with_reducible repeat (first | refine blk_drewN ?_ _ | refine blk_drew ?_ | refine blk_alloc ?_ _)); refine blk_far ?_ NB101_118.out _; (with_reducible repeat (first | refine blk_drewN ?_ _ | refine blk_drew ?_ | refine blk_alloc ?_ _)); refine blk_far ?_ NB101_118.out _; (with_reducible repeat (first | refine blk_drewN ?_ _ | refine blk_drew ?_ | refine blk_alloc ?_ _)); refine blk_far ?_ NB101_118.out _; (with_reducible repeat (first | refine blk_drewN ?_ _ | refine blk_drew ?_ | refine blk_alloc ?_ _)); exact BK101.out) hb); have n5_ := Aside0.mk (blk_below (g := gb118) (o := .cells #[.int .i64 t111, .slice Ao44 t112.length co44, .slice Ao45 t115.length co45] 30 (0, 0)) (by (with_reducible repeat (first | refine blk_drewN ?_ _ | refine blk_drew ?_ | refine blk_alloc ?_ _)); refine blk_put (cs := #[.int .i64 t111, .slice Ao44 t112.length co44, .slice none 0 0]) ?_ 2 _ rfl; (with_reducible repeat (first | refine blk_drewN ?_ _ | refine blk_drew ?_ | refine blk_alloc ?_ _)); refine blk_put (cs := #[.int .i64 t111, .slice none 0 0, .slice none 0 0]) ?_ 1 _ rfl; (with_reducible repeat (first | refine blk_drewN ?_ _ | refine blk_drew ?_ | refine blk_alloc ?_ _)); refine blk_put (cs := #[.int .i64 0, .slice none 0 0, .slice none 0 0]) ?_ 0 _ rfl; (with_reducible repeat (first | refine blk_drewN ?_ _ | refine blk_drew ?_ | refine blk_alloc ?_ _)); exact BK118.out) hb); have n6_ := Aside0.mk (below_step (by repeat (first | (with_reducible first | exact HB.out | apply below_alloc | apply pw_below_drewN | apply below_drew1 | refine below_set ?_ GE101.out | refine below_set ?_ GE118.out) | exact HB.out)) hb); clear HO106; clear HO109; clear HO114; clear HO117; clear BK101; clear BK118; clear HB; have HO106 := n0_; have HO109 := n1_; have HO114 := n2_; have HO117 := n3_; have BK101 := n4_; have BK118 := n5_; have HB := n6_; clear n0_ n1_ n2_ n3_ n4_ n5_ n6_; (try clear hb); (try clear hb2); (try clear hk); (try clear hi)))
        have n0_ := Aside0.mk (Kd.R_drew HO106.out)
        have n1_ := Aside0.mk (Kd.R_drew HO109.out)
        have n2_ := Aside0.mk (Kd.R_drew HO114.out)
        have n3_ := Aside0.mk (Kd.R_drew HO117.out)
        have n4_ := Aside0.mk (blk_drew BK101.out)
        have n5_ := Aside0.mk (blk_drew BK118.out)
        have n6_ := Aside0.mk (below_drew1 HB.out)
        clear HO106
        clear HO109
        clear HO114
        clear HO117
        clear BK101
        clear BK118
        clear HB
        have HO106 := n0_
        have HO109 := n1_
        have HO114 := n2_
        have HO117 := n3_
        have BK101 := n4_
        have BK118 := n5_
        have HB := n6_
        clear n0_ n1_ n2_ n3_ n4_ n5_ n6_
        refine start_ (n := 5) (S := fun w' => w'.cell? ⟨gb118, 0, none⟩ = some (.int .i64 t111) ∧ w'.cell? ⟨gb118, 1, none⟩ = some (.slice Ao44 t112.length co44) ∧ w'.cell? ⟨gb118, 2, none⟩ = some (.slice Ao45 t115.length co45) ∧ w'.cell? ⟨gb101, 0, none⟩ = some (.int .i64 a0_0) ∧ w'.cell? ⟨gb101, 1, none⟩ = some (.slice A0_1 l0_1.length c0_1) ∧ w'.cell? ⟨gb101, 2, none⟩ = some (.slice A0_2 l0_2.length c0_2)) (ds := []) #[false, false, false, false, false] (by kernel_rfl) rfl rfl ⟨(blk_cell BK118.out 0).trans rfl, (blk_cell BK118.out 1).trans rfl, (blk_cell BK118.out 2).trans rfl, (blk_cell BK101.out 0).trans rfl, (blk_cell BK101.out 1).trans rfl, (blk_cell BK101.out 2).trans rfl⟩ (fun hHeld => ?_)
        generalize w46.drew = w47 at HO106 HO109 HO114 HO117 BK101 BK118 HB hHeld ⊢
        refine take_ (i := 0) (N := some 22) (v := ?_) (a' := ?_) #[true, false, false, false, false] rfl rfl (by kernel_rfl) (fun _ _ _ h => h) (Or.inl ⟨by rfl, ?_⟩) hHeld ?_ ?_
        rotate_left
        · rintro w' ⟨s0, s1, s2, s3, s4, s5⟩
          go_simp
          with_reducible rfl
        rotate_left
        · simp only [Act.put, List.setIfInBounds_toArray, List.set_cons_zero, List.set_cons_succ, i64_w, i32_w]
          rfl
        refine take_ (i := 1) (N := some 23) (v := ?_) (a' := ?_) #[true, true, false, false, false] rfl rfl (by kernel_rfl) (fun _ _ _ h => h) (Or.inl ⟨by rfl, ?_⟩) hHeld ?_ ?_
        rotate_left
        · rintro w' ⟨s0, s1, s2, s3, s4, s5⟩
          go_simp
          with_reducible rfl
        rotate_left
        · simp only [Act.put, List.setIfInBounds_toArray, List.set_cons_zero, List.set_cons_succ, i64_w, i32_w]
          rfl
        refine one_ (i := 2) (N := some 24) #[true, true, true, false, false] rfl rfl (by kernel_rfl) (by decide) (fun K hK => ?_)
        refine goes_ Try.func9 (by kernel_rfl) rfl #[.agg #[.int .i64 a0_0, .slice A0_1 l0_1.length c0_1, .slice A0_2 l0_2.length c0_2]] (by rfl) rfl rfl (by (try simp only [List.map_toArray, List.map_cons, List.map_nil]); first | done | rfl | (simp only [List.length_drop, List.length_take]; rfl)) ?_
        with_reducible refine (laws_toHeap.calls k a0_0 _ _ l0_1 _ _ l0_2 t120 t121 t124 _ ?side1 ?side2 ?side3 ?side4 A28.out).mono ?_
        (case side1 => repeat (first | exact (Kd.C_below HR0_1.out HB.out) | (with_reducible refine Kd.C_alloc ?_ _) | (with_reducible refine Kd.C_drewN ?_ _) | (with_reducible refine Kd.C_drew ?_)))
        (case side2 => exact HC0_1.out)
        (case side3 => repeat (first | exact (Kd.C_below HR0_2.out HB.out) | (with_reducible refine Kd.C_alloc ?_ _) | (with_reducible refine Kd.C_drewN ?_ _) | (with_reducible refine Kd.C_drew ?_)))
        (case side4 => exact HC0_2.out)
        rintro e w48 ⟨v122, v125, rfl, ho0, ho1, hb⟩
        refine ⟨_, rfl, ?_⟩
        have n0_ := Aside0.mk (Kd.R_elder' (by (with_reducible repeat (first | apply Kd.R_alloc | apply Kd.R_drewN | apply Kd.R_drew)); exact HO106.out) (Kd.R_base ho0) hb)
        have n1_ := Aside0.mk (Kd.R_elder' (by (with_reducible repeat (first | apply Kd.R_alloc | apply Kd.R_drewN | apply Kd.R_drew)); exact HO109.out) (Kd.R_base ho1) hb)
        have n2_ := Aside0.mk (Kd.R_elder' (by (with_reducible repeat (first | apply Kd.R_alloc | apply Kd.R_drewN | apply Kd.R_drew)); exact HO114.out) (Kd.R_base ho0) hb)
        have n3_ := Aside0.mk (Kd.R_elder' (by (with_reducible repeat (first | apply Kd.R_alloc | apply Kd.R_drewN | apply Kd.R_drew)); exact HO117.out) (Kd.R_base ho1) hb)
        have n4_ := Aside0.mk (Kd.R_lower (Kd.R_new' (Kd.R_new' ho0 (Kd.R_lt (by (with_reducible repeat (first | apply Kd.R_alloc | apply Kd.R_drewN | apply Kd.R_drew)); exact HO106.out))) (Kd.R_lt (by (with_reducible repeat (first | apply Kd.R_alloc | apply Kd.R_drewN | apply Kd.R_drew)); exact HO114.out))) (below_size (by repeat (first | (with_reducible first | exact HB.out | apply below_alloc | apply pw_below_drewN | apply below_drew1 | refine below_set ?_ GE101.out | refine below_set ?_ GE118.out) | exact HB.out))))
        have n5_ := Aside0.mk (Kd.R_lower (Kd.R_new' (Kd.R_new' ho1 (Kd.R_lt (by (with_reducible repeat (first | apply Kd.R_alloc | apply Kd.R_drewN | apply Kd.R_drew)); exact HO109.out))) (Kd.R_lt (by (with_reducible repeat (first | apply Kd.R_alloc | apply Kd.R_drewN | apply Kd.R_drew)); exact HO117.out))) (below_size (by repeat (first | (with_reducible first | exact HB.out | apply below_alloc | apply pw_below_drewN | apply below_drew1 | refine below_set ?_ GE101.out | refine below_set ?_ GE118.out) | exact HB.out))))
        have n6_ := Aside0.mk (blk_below (g := gb101) (o := .cells #[.int .i64 a0_0, .slice A0_1 l0_1.length c0_1, .slice A0_2 l0_2.length c0_2] 25 (0, 0)) (by (with_reducible repeat (first | refine blk_drewN ?_ _ | refine blk_drew ?_ | refine blk_alloc ?_ _)); exact BK101.out) hb)
        have n7_ := Aside0.mk (blk_below (g := gb118) (o := .cells #[.int .i64 t111, .slice Ao44 t112.length co44, .slice Ao45 t115.length co45] 30 (0, 0)) (by (with_reducible repeat (first | refine blk_drewN ?_ _ | refine blk_drew ?_ | refine blk_alloc ?_ _)); exact BK118.out) hb)
        have n8_ := Aside0.mk (below_step (by repeat (first | (with_reducible first | exact HB.out | apply below_alloc | apply pw_below_drewN | apply below_drew1 | refine below_set ?_ GE101.out | refine below_set ?_ GE118.out) | exact HB.out)) hb)
        clear HO106
        clear HO109
        clear HO114
        clear HO117
        clear BK101
        clear BK118
        clear HB
        have HO106 := n0_
        have HO109 := n1_
        have HO114 := n2_
        have HO117 := n3_
        have HO123 := n4_
        have HO126 := n5_
        have BK101 := n6_
        have BK118 := n7_
        have HB := n8_
        clear n0_ n1_ n2_ n3_ n4_ n5_ n6_ n7_ n8_
        (try clear hb)
        (try clear hb2)
        (try clear hk)
        (try clear hi)
        (try clear ho0)
        (try clear ho1)
        obtain ⟨Ao49, co49, eo49⟩ := Kd.R_slice HO123.out
        (first | subst eo49 | (injection eo49 with f1_ f2_ f3_; have f4_ := f1_.symm; have f5_ := f3_.symm; clear f1_ f2_ f3_; subst f4_; subst f5_))
        obtain ⟨Ao50, co50, eo50⟩ := Kd.R_slice HO126.out
        (first | subst eo50 | (injection eo50 with f1_ f2_ f3_; have f4_ := f1_.symm; have f5_ := f3_.symm; clear f1_ f2_ f3_; subst f4_; subst f5_))
        refine hK.out _ _ ⟨(blk_cell BK118.out 0).trans rfl, (blk_cell BK118.out 1).trans rfl, (blk_cell BK118.out 2).trans rfl, (blk_cell BK101.out 0).trans rfl, (blk_cell BK101.out 1).trans rfl, (blk_cell BK101.out 2).trans rfl⟩ (fun hHeld => ?_)
        clear hK K
        refine norm_ (a' := ?_) ?_ ?_
        rotate_left
        · show Act.put _ (some 24) _ = _
          simp only [Act.put, List.setIfInBounds_toArray, List.set_cons_zero, List.set_cons_succ, i64_w, i32_w]
          rfl
        refine one_ (i := 3) (N := some 25) #[true, true, true, true, false] rfl rfl (by kernel_rfl) (by decide) (fun K hK => ?_)
        refine goes_ Try.func11 (by kernel_rfl) rfl #[.agg #[.int .i64 t111, .slice Ao44 t112.length co44, .slice Ao45 t115.length co45], .agg #[.int .i64 t120, .slice Ao49 t121.length co49, .slice Ao50 t124.length co50]] (by rfl) rfl rfl (by (try simp only [List.map_toArray, List.map_cons, List.map_nil]); first | done | rfl | (simp only [List.length_drop, List.length_take]; rfl)) ?_
        with_reducible refine (laws_eqHeap.calls k t111 _ _ t112 _ _ t115 t120 _ _ t121 _ _ t124 true _ ?side1 ?side2 ?side3 ?side4 ?side5 ?side6 ?side7 ?side8 A29.out).mono ?_
        (case side1 => repeat (first | exact (Kd.R_reads' HO114.out).2.2 | (with_reducible refine Kd.C_alloc ?_ _) | (with_reducible refine Kd.C_drewN ?_ _) | (with_reducible refine Kd.C_drew ?_)))
        (case side2 => exact (Kd.R_reads' HO114.out).2.1)
        (case side3 => repeat (first | exact (Kd.R_reads' HO117.out).2.2 | (with_reducible refine Kd.C_alloc ?_ _) | (with_reducible refine Kd.C_drewN ?_ _) | (with_reducible refine Kd.C_drew ?_)))
        (case side4 => exact (Kd.R_reads' HO117.out).2.1)
        (case side5 => repeat (first | exact (Kd.R_reads' HO123.out).2.2 | (with_reducible refine Kd.C_alloc ?_ _) | (with_reducible refine Kd.C_drewN ?_ _) | (with_reducible refine Kd.C_drew ?_)))
        (case side6 => exact (Kd.R_reads' HO123.out).2.1)
        (case side7 => repeat (first | exact (Kd.R_reads' HO126.out).2.2 | (with_reducible refine Kd.C_alloc ?_ _) | (with_reducible refine Kd.C_drewN ?_ _) | (with_reducible refine Kd.C_drew ?_)))
        (case side8 => exact (Kd.R_reads' HO126.out).2.1)
        rintro e w51 ⟨rfl, hb⟩
        refine ⟨_, rfl, ?_⟩
        have n0_ := Aside0.mk (Kd.R_below (by (with_reducible repeat (first | apply Kd.R_alloc | apply Kd.R_drewN | apply Kd.R_drew)); exact HO106.out) hb)
        have n1_ := Aside0.mk (Kd.R_below (by (with_reducible repeat (first | apply Kd.R_alloc | apply Kd.R_drewN | apply Kd.R_drew)); exact HO109.out) hb)
        have n2_ := Aside0.mk (Kd.R_below (by (with_reducible repeat (first | apply Kd.R_alloc | apply Kd.R_drewN | apply Kd.R_drew)); exact HO114.out) hb)
        have n3_ := Aside0.mk (Kd.R_below (by (with_reducible repeat (first | apply Kd.R_alloc | apply Kd.R_drewN | apply Kd.R_drew)); exact HO117.out) hb)
        have n4_ := Aside0.mk (Kd.R_below (by (with_reducible repeat (first | apply Kd.R_alloc | apply Kd.R_drewN | apply Kd.R_drew)); exact HO123.out) hb)
        have n5_ := Aside0.mk (Kd.R_below (by (with_reducible repeat (first | apply Kd.R_alloc | apply Kd.R_drewN | apply Kd.R_drew)); exact HO126.out) hb)
        have n6_ := Aside0.mk (blk_below (g := gb101) (o := .cells #[.int .i64 a0_0, .slice A0_1 l0_1.length c0_1, .slice A0_2 l0_2.length c0_2] 25 (0, 0)) (by (with_reducible repeat (first | refine blk_drewN ?_ _ | refine blk_drew ?_ | refine blk_alloc ?_ _)); exact BK101.out) hb)
        have n7_ := Aside0.mk (blk_below (g := gb118) (o := .cells #[.int .i64 t111, .slice Ao44 t112.length co44, .slice Ao45 t115.length co45] 30 (0, 0)) (by (with_reducible repeat (first | refine blk_drewN ?_ _ | refine blk_drew ?_ | refine blk_alloc ?_ _)); exact BK118.out) hb)
        have n8_ := Aside0.mk (below_step (by repeat (first | (with_reducible first | exact HB.out | apply below_alloc | apply pw_below_drewN | apply below_drew1 | refine below_set ?_ GE101.out | refine below_set ?_ GE118.out) | exact HB.out)) hb)
        clear HO106
        clear HO109
        clear HO114
        clear HO117
        clear HO123
        clear HO126
        clear BK101
        clear BK118
        clear HB
        have HO106 := n0_
        have HO109 := n1_
        have HO114 := n2_
        have HO117 := n3_
        have HO123 := n4_
        have HO126 := n5_
        have BK101 := n6_
        have BK118 := n7_
        have HB := n8_
        clear n0_ n1_ n2_ n3_ n4_ n5_ n6_ n7_ n8_
        (try clear hb)
        (try clear hb2)
        (try clear hk)
        (try clear hi)
        refine hK.out _ _ ⟨(blk_cell BK118.out 0).trans rfl, (blk_cell BK118.out 1).trans rfl, (blk_cell BK118.out 2).trans rfl, (blk_cell BK101.out 0).trans rfl, (blk_cell BK101.out 1).trans rfl, (blk_cell BK101.out 2).trans rfl⟩ (fun hHeld => ?_)
        clear hK K
        refine norm_ (a' := ?_) ?_ ?_
        rotate_left
        · show Act.put _ (some 25) _ = _
          simp only [Act.put, List.setIfInBounds_toArray, List.set_cons_zero, List.set_cons_succ, i64_w, i32_w]
          rfl
        refine pure_ (i := 4) (N := some 26) (v := ?_) (a' := ?_) #[true, true, true, true, true] rfl rfl (by kernel_rfl) (fun _ _ _ h => h) (Or.inl ⟨by rfl, ?_⟩) ?_ ?_
        rotate_left
        · intro w'
          go_simp
          with_reducible rfl
        rotate_left
        · simp only [Act.put, List.setIfInBounds_toArray, List.set_cons_zero, List.set_cons_succ, i64_w, i32_w]
          rfl
        refine done_ (by kernel_rfl) ?_
        try go_wp2
        go_ret
        exact ⟨by first | rfl | (simp [errW_none, errW_some] <;> rfl) | (simp [*, errW_none, errW_some] <;> rfl), by repeat (first | (with_reducible first | exact HB.out | apply below_alloc | apply pw_below_drewN | apply below_drew1 | refine below_set ?_ GE101.out | refine below_set ?_ GE118.out) | exact HB.out)⟩
      · replace c30 := Bool.eq_false_iff.mpr c30
        subst c30
        have H1 : (some false) = some r := by rw [if_neg (show ¬ (false = true) by decide)] at H; exact H
        clear H
        have H := H1
        clear H1
        obtain rfl := Option.some.inj H
        go_enter Try.func3, Try.ntmps3
        try go_wp2_with (first | ((with_reducible refine gate_dst (N := 1) rfl ?_); refine box_event ?hg (N := 1) ?hd (cs := #[.int .i64 a0_0, .slice A0_1 l0_1.length c0_1, .slice A0_2 l0_2.length c0_2]) (t := 25) ?hr ?_; (case hd => rfl); (case hg => rfl); (case hr => first | (go_simp; done) | (go_simp; rfl)); intro gb101 hg w52 hbox hb; have n0_ := Aside0.mk (below_step (by repeat (first | (with_reducible first | exact HB.out | apply below_alloc | apply pw_below_drewN | apply below_drew1) | exact HB.out)) hb); have n1_ := Aside0.mk (hbox); have n2_ := Aside0.mk ((by rw [hg]; exact (below_size (by repeat (first | (with_reducible first | exact HB.out | apply below_alloc | apply pw_below_drewN | apply below_drew1) | exact HB.out))) : w.heap.size ≤ gb101)); have n3_ := Aside0.mk ((by rw [hg]; exact (below_size (by repeat (first | (with_reducible first | exact HB.out | apply below_alloc | apply pw_below_drewN | apply below_drew1) | exact HB.out))) : w.heap.size ≤ gb101)); clear HB; have HB := n0_; have BK101 := n1_; have GW101 := n2_; have GE101 := n3_; clear n0_ n1_ n2_ n3_; clear hb hbox hg; have hcz53_0 : w52.cell? ⟨gb101, 0, none⟩ = some (.int .i64 a0_0) := (blk_cell BK101.out 0).trans rfl; have hcz53_1 : w52.cell? ⟨gb101, 1, none⟩ = some (.slice A0_1 l0_1.length c0_1) := (blk_cell BK101.out 1).trans rfl; have hcz53_2 : w52.cell? ⟨gb101, 2, none⟩ = some (.slice A0_2 l0_2.length c0_2) := (blk_cell BK101.out 2).trans rfl; have hfz53_0 := blk_frozen BK101.out 0; have hfz53_1 := blk_frozen BK101.out 1; have hfz53_2 := blk_frozen BK101.out 2) | ((with_reducible refine gate_callee (f := 7) rfl ?_); refine goesL_ (some 9) rfl rfl Try.func7 (by kernel_rfl) rfl #[.agg #[.int .i64 a0_0, .slice A0_1 l0_1.length c0_1, .slice A0_2 l0_2.length c0_2], .int .i64 1048576] rfl (by (try simp only [List.map_toArray, List.map_cons, List.map_nil]); first | done | rfl | (simp only [List.length_drop, List.length_take]; rfl)) ?_; (with_reducible refine (laws_szHeap.calls a0_0 _ _ l0_1 _ _ l0_2 1048576 t102 _ ?side1 ?side2 ?side3 ?side4 A2.out).mono ?_); (case side1 => repeat (first | exact (Kd.C_below HR0_1.out HB.out) | (with_reducible refine Kd.C_alloc ?_ _) | (with_reducible refine Kd.C_drewN ?_ _) | (with_reducible refine Kd.C_drew ?_))); (case side2 => exact HC0_1.out); (case side3 => repeat (first | exact (Kd.C_below HR0_2.out HB.out) | (with_reducible refine Kd.C_alloc ?_ _) | (with_reducible refine Kd.C_drewN ?_ _) | (with_reducible refine Kd.C_drew ?_))); (case side4 => exact HC0_2.out); rintro e w54 ⟨rfl, hb⟩; refine ⟨_, rfl, ?_⟩; have n0_ := Aside0.mk (blk_below (g := gb101) (o := .cells #[.int .i64 a0_0, .slice A0_1 l0_1.length c0_1, .slice A0_2 l0_2.length c0_2] 25 (0, 0)) (by (with_reducible repeat (first | refine blk_drewN ?_ _ | refine blk_drew ?_ | refine blk_alloc ?_ _)); exact BK101.out) hb); have n1_ := Aside0.mk (below_step (by repeat (first | (with_reducible first | exact HB.out | apply below_alloc | apply pw_below_drewN | apply below_drew1 | refine below_set ?_ GE101.out) | exact HB.out)) hb); clear BK101; clear HB; have BK101 := n0_; have HB := n1_; clear n0_ n1_; (try clear hb); (try clear hb2); (try clear hk); (try clear hi); have hcz55_0 : w54.cell? ⟨gb101, 0, none⟩ = some (.int .i64 a0_0) := (blk_cell BK101.out 0).trans rfl; have hcz55_1 : w54.cell? ⟨gb101, 1, none⟩ = some (.slice A0_1 l0_1.length c0_1) := (blk_cell BK101.out 1).trans rfl; have hcz55_2 : w54.cell? ⟨gb101, 2, none⟩ = some (.slice A0_2 l0_2.length c0_2) := (blk_cell BK101.out 2).trans rfl; have hfz55_0 := blk_frozen BK101.out 0; have hfz55_1 := blk_frozen BK101.out 1; have hfz55_2 := blk_frozen BK101.out 2) | ((with_reducible refine gate_callee (f := 9) rfl ?_); refine goesL_ (some 13) rfl rfl Try.func9 (by kernel_rfl) rfl #[.agg #[.int .i64 a0_0, .slice A0_1 l0_1.length c0_1, .slice A0_2 l0_2.length c0_2]] rfl (by (try simp only [List.map_toArray, List.map_cons, List.map_nil]); first | done | rfl | (simp only [List.length_drop, List.length_take]; rfl)) ?_; (with_reducible refine (laws_toHeap.calls k a0_0 _ _ l0_1 _ _ l0_2 t103 t104 t107 _ ?side1 ?side2 ?side3 ?side4 A7.out).mono ?_); (case side1 => repeat (first | exact (Kd.C_below HR0_1.out HB.out) | (with_reducible refine Kd.C_alloc ?_ _) | (with_reducible refine Kd.C_drewN ?_ _) | (with_reducible refine Kd.C_drew ?_))); (case side2 => exact HC0_1.out); (case side3 => repeat (first | exact (Kd.C_below HR0_2.out HB.out) | (with_reducible refine Kd.C_alloc ?_ _) | (with_reducible refine Kd.C_drewN ?_ _) | (with_reducible refine Kd.C_drew ?_))); (case side4 => exact HC0_2.out); rintro e w56 ⟨v105, v108, rfl, ho0, ho1, hb⟩; refine ⟨_, rfl, ?_⟩; have n0_ := Aside0.mk (Kd.R_lower ho0 (below_size (by repeat (first | (with_reducible first | exact HB.out | apply below_alloc | apply pw_below_drewN | apply below_drew1 | refine below_set ?_ GE101.out) | exact HB.out)))); have n1_ := Aside0.mk (Kd.R_lower ho1 (below_size (by repeat (first | (with_reducible first | exact HB.out | apply below_alloc | apply pw_below_drewN | apply below_drew1 | refine below_set ?_ GE101.out) | exact HB.out)))); have n2_ := Aside0.mk (blk_below (g := gb101) (o := .cells #[.int .i64 a0_0, .slice A0_1 l0_1.length c0_1, .slice A0_2 l0_2.length c0_2] 25 (0, 0)) (by (with_reducible repeat (first | refine blk_drewN ?_ _ | refine blk_drew ?_ | refine blk_alloc ?_ _)); exact BK101.out) hb); have n3_ := Aside0.mk (below_step (by repeat (first | (with_reducible first | exact HB.out | apply below_alloc | apply pw_below_drewN | apply below_drew1 | refine below_set ?_ GE101.out) | exact HB.out)) hb); clear BK101; clear HB; have HO106 := n0_; have HO109 := n1_; have BK101 := n2_; have HB := n3_; clear n0_ n1_ n2_ n3_; (try clear hb); (try clear hb2); (try clear hk); (try clear hi); (try clear ho0); (try clear ho1); obtain ⟨Ao57, co57, eo57⟩ := Kd.R_slice HO106.out; subst eo57; obtain ⟨Ao58, co58, eo58⟩ := Kd.R_slice HO109.out; subst eo58) | ((with_reducible refine gate_callee (f := 8) rfl ?_); refine goesL_ (some 14) rfl rfl Try.func8 (by kernel_rfl) rfl #[.agg #[.int .i64 t103, .slice Ao57 t104.length co57, .slice Ao58 t107.length co58]] rfl (by (try simp only [List.map_toArray, List.map_cons, List.map_nil]); first | done | rfl | (simp only [List.length_drop, List.length_take]; rfl)) ?_; (with_reducible refine (spec_GoodHeap.calls k t103 _ _ t104 _ _ t107 t110 _ ?side1 ?side2 ?side3 ?side4 A8.out).mono ?_); (case side1 => repeat (first | exact (Kd.R_reads' HO106.out).2.2 | (with_reducible refine Kd.C_alloc ?_ _) | (with_reducible refine Kd.C_drewN ?_ _) | (with_reducible refine Kd.C_drew ?_))); (case side2 => exact (Kd.R_reads' HO106.out).2.1); (case side3 => repeat (first | exact (Kd.R_reads' HO109.out).2.2 | (with_reducible refine Kd.C_alloc ?_ _) | (with_reducible refine Kd.C_drewN ?_ _) | (with_reducible refine Kd.C_drew ?_))); (case side4 => exact (Kd.R_reads' HO109.out).2.1); rintro e w59 ⟨rfl, hb⟩; refine ⟨_, rfl, ?_⟩; have n0_ := Aside0.mk (Kd.R_below (by (with_reducible repeat (first | apply Kd.R_alloc | apply Kd.R_drewN | apply Kd.R_drew)); exact HO106.out) hb); have n1_ := Aside0.mk (Kd.R_below (by (with_reducible repeat (first | apply Kd.R_alloc | apply Kd.R_drewN | apply Kd.R_drew)); exact HO109.out) hb); have n2_ := Aside0.mk (blk_below (g := gb101) (o := .cells #[.int .i64 a0_0, .slice A0_1 l0_1.length c0_1, .slice A0_2 l0_2.length c0_2] 25 (0, 0)) (by (with_reducible repeat (first | refine blk_drewN ?_ _ | refine blk_drew ?_ | refine blk_alloc ?_ _)); exact BK101.out) hb); have n3_ := Aside0.mk (below_step (by repeat (first | (with_reducible first | exact HB.out | apply below_alloc | apply pw_below_drewN | apply below_drew1 | refine below_set ?_ GE101.out) | exact HB.out)) hb); clear HO106; clear HO109; clear BK101; clear HB; have HO106 := n0_; have HO109 := n1_; have BK101 := n2_; have HB := n3_; clear n0_ n1_ n2_ n3_; (try clear hb); (try clear hb2); (try clear hk); (try clear hi); have hcz60_0 : w59.cell? ⟨gb101, 0, none⟩ = some (.int .i64 a0_0) := (blk_cell BK101.out 0).trans rfl; have hcz60_1 : w59.cell? ⟨gb101, 1, none⟩ = some (.slice A0_1 l0_1.length c0_1) := (blk_cell BK101.out 1).trans rfl; have hcz60_2 : w59.cell? ⟨gb101, 2, none⟩ = some (.slice A0_2 l0_2.length c0_2) := (blk_cell BK101.out 2).trans rfl; have hfz60_0 := blk_frozen BK101.out 0; have hfz60_1 := blk_frozen BK101.out 1; have hfz60_2 := blk_frozen BK101.out 2) | ((with_reducible refine gate_callee (f := 9) rfl ?_); refine goesL_ (some 16) rfl rfl Try.func9 (by kernel_rfl) rfl #[.agg #[.int .i64 a0_0, .slice A0_1 l0_1.length c0_1, .slice A0_2 l0_2.length c0_2]] rfl (by (try simp only [List.map_toArray, List.map_cons, List.map_nil]); first | done | rfl | (simp only [List.length_drop, List.length_take]; rfl)) ?_; (with_reducible refine (laws_toHeap.calls k a0_0 _ _ l0_1 _ _ l0_2 t111 t112 t115 _ ?side1 ?side2 ?side3 ?side4 A9.out).mono ?_); (case side1 => repeat (first | exact (Kd.C_below HR0_1.out HB.out) | (with_reducible refine Kd.C_alloc ?_ _) | (with_reducible refine Kd.C_drewN ?_ _) | (with_reducible refine Kd.C_drew ?_))); (case side2 => exact HC0_1.out); (case side3 => repeat (first | exact (Kd.C_below HR0_2.out HB.out) | (with_reducible refine Kd.C_alloc ?_ _) | (with_reducible refine Kd.C_drewN ?_ _) | (with_reducible refine Kd.C_drew ?_))); (case side4 => exact HC0_2.out); rintro e w61 ⟨v113, v116, rfl, ho0, ho1, hb⟩; refine ⟨_, rfl, ?_⟩; have n0_ := Aside0.mk (Kd.R_elder' (by (with_reducible repeat (first | apply Kd.R_alloc | apply Kd.R_drewN | apply Kd.R_drew)); exact HO106.out) (Kd.R_base ho0) hb); have n1_ := Aside0.mk (Kd.R_elder' (by (with_reducible repeat (first | apply Kd.R_alloc | apply Kd.R_drewN | apply Kd.R_drew)); exact HO109.out) (Kd.R_base ho1) hb); have n2_ := Aside0.mk (Kd.R_lower (Kd.R_new' ho0 (Kd.R_lt (by (with_reducible repeat (first | apply Kd.R_alloc | apply Kd.R_drewN | apply Kd.R_drew)); exact HO106.out))) (below_size (by repeat (first | (with_reducible first | exact HB.out | apply below_alloc | apply pw_below_drewN | apply below_drew1 | refine below_set ?_ GE101.out) | exact HB.out)))); have n3_ := Aside0.mk (Kd.R_lower (Kd.R_new' ho1 (Kd.R_lt (by (with_reducible repeat (first | apply Kd.R_alloc | apply Kd.R_drewN | apply Kd.R_drew)); exact HO109.out))) (below_size (by repeat (first | (with_reducible first | exact HB.out | apply below_alloc | apply pw_below_drewN | apply below_drew1 | refine below_set ?_ GE101.out) | exact HB.out)))); have n4_ := Aside0.mk (blk_below (g := gb101) (o := .cells #[.int .i64 a0_0, .slice A0_1 l0_1.length c0_1, .slice A0_2 l0_2.length c0_2] 25 (0, 0)) (by (with_reducible repeat (first | refine blk_drewN ?_ _ | refine blk_drew ?_ | refine blk_alloc ?_ _)); exact BK101.out) hb); have n5_ := Aside0.mk (below_step (by repeat (first | (with_reducible first | exact HB.out | apply below_alloc | apply pw_below_drewN | apply below_drew1 | refine below_set ?_ GE101.out) | exact HB.out)) hb); clear HO106; clear HO109; clear BK101; clear HB; have HO106 := n0_; have HO109 := n1_; have HO114 := n2_; have HO117 := n3_; have BK101 := n4_; have HB := n5_; clear n0_ n1_ n2_ n3_ n4_ n5_; (try clear hb); (try clear hb2); (try clear hk); (try clear hi); (try clear ho0); (try clear ho1)) | ((with_reducible refine gate_dst (N := 5) rfl ?_); refine box_event ?hg (N := 5) ?hd (cs := #[.int .i64 0, .slice none 0 0, .slice none 0 0]) (t := 30) ?hr ?_; (case hd => rfl); (case hg => rfl); (case hr => first | (go_simp; done) | (go_simp; rfl)); intro gb118 hg w62 hbox hb; have n0_ := Aside0.mk (Kd.R_below (by (with_reducible repeat (first | apply Kd.R_alloc | apply Kd.R_drewN | apply Kd.R_drew)); exact HO106.out) hb); have n1_ := Aside0.mk (Kd.R_below (by (with_reducible repeat (first | apply Kd.R_alloc | apply Kd.R_drewN | apply Kd.R_drew)); exact HO109.out) hb); have n2_ := Aside0.mk (Kd.R_below (by (with_reducible repeat (first | apply Kd.R_alloc | apply Kd.R_drewN | apply Kd.R_drew)); exact HO114.out) hb); have n3_ := Aside0.mk (Kd.R_below (by (with_reducible repeat (first | apply Kd.R_alloc | apply Kd.R_drewN | apply Kd.R_drew)); exact HO117.out) hb); have n4_ := Aside0.mk (blk_below (g := gb101) (o := .cells #[.int .i64 a0_0, .slice A0_1 l0_1.length c0_1, .slice A0_2 l0_2.length c0_2] 25 (0, 0)) (by (with_reducible repeat (first | refine blk_drewN ?_ _ | refine blk_drew ?_ | refine blk_alloc ?_ _)); exact BK101.out) hb); have n5_ := Aside0.mk (below_step (by repeat (first | (with_reducible first | exact HB.out | apply below_alloc | apply pw_below_drewN | apply below_drew1 | refine below_set ?_ GE101.out) | exact HB.out)) hb); have n6_ := Aside0.mk (hbox); have n7_ := Aside0.mk ((by rw [hg]; exact (below_size (by repeat (first | (with_reducible first | exact HB.out | apply below_alloc | apply pw_below_drewN | apply below_drew1 | refine below_set ?_ GE101.out) | exact HB.out))) : w.heap.size ≤ gb118)); have n8_ := Aside0.mk ((by rw [hg]; exact (below_size (by repeat (first | (with_reducible first | exact HB.out | apply below_alloc | apply pw_below_drewN | apply below_drew1 | refine below_set ?_ GE101.out) | exact HB.out))) : w.heap.size ≤ gb118)); have n9_ := Aside0.mk ((by rw [hg]; exact Nat.ne_of_lt (blk_lt (g := gb101) (o := .cells #[.int .i64 a0_0, .slice A0_1 l0_1.length c0_1, .slice A0_2 l0_2.length c0_2] 25 (0, 0)) (by (with_reducible repeat (first | refine blk_drewN ?_ _ | refine blk_drew ?_ | refine blk_alloc ?_ _)); exact BK101.out)) : gb101 ≠ gb118)); have n10_ := Aside0.mk ((by rw [hg]; exact Nat.ne_of_gt (blk_lt (g := gb101) (o := .cells #[.int .i64 a0_0, .slice A0_1 l0_1.length c0_1, .slice A0_2 l0_2.length c0_2] 25 (0, 0)) (by (with_reducible repeat (first | refine blk_drewN ?_ _ | refine blk_drew ?_ | refine blk_alloc ?_ _)); exact BK101.out)) : gb118 ≠ gb101)); clear HO106; clear HO109; clear HO114; clear HO117; clear BK101; clear HB; have HO106 := n0_; have HO109 := n1_; have HO114 := n2_; have HO117 := n3_; have BK101 := n4_; have HB := n5_; have BK118 := n6_; have GW118 := n7_; have GE118 := n8_; have NB101_118 := n9_; have NB118_101 := n10_; clear n0_ n1_ n2_ n3_ n4_ n5_ n6_ n7_ n8_ n9_ n10_; clear hb hbox hg; have hnb63 := NB118_101.out; have hnc63 := NB101_118.out; have hcz64_0 : w62.cell? ⟨gb118, 0, none⟩ = some (.int .i64 0) := (blk_cell BK118.out 0).trans rfl; have hcz64_1 : w62.cell? ⟨gb118, 1, none⟩ = some (.slice none 0 0) := (blk_cell BK118.out 1).trans rfl; have hcz64_2 : w62.cell? ⟨gb118, 2, none⟩ = some (.slice none 0 0) := (blk_cell BK118.out 2).trans rfl; have hfz64_0 := blk_frozen BK118.out 0; have hfz64_1 := blk_frozen BK118.out 1; have hfz64_2 := blk_frozen BK118.out 2; obtain ⟨Ao65, co65, eo65⟩ := Kd.R_slice HO114.out; subst eo65; obtain ⟨Ao66, co66, eo66⟩ := Kd.R_slice HO117.out; subst eo66) | ((with_reducible refine gate_callee (f := 10) rfl ?_); refine goesL_ (some 18) rfl rfl Try.func10 (by kernel_rfl) rfl #[.agg #[.int .i64 t111, .slice Ao65 t112.length co65, .slice Ao66 t115.length co66]] rfl (by (try simp only [List.map_toArray, List.map_cons, List.map_nil]); first | done | rfl | (simp only [List.length_drop, List.length_take]; rfl)) ?_; (with_reducible refine (impl_GoodHeap.calls k t111 _ _ t112 _ _ t115 t119 _ ?side1 ?side2 ?side3 ?side4 A10.out).mono ?_); (case side1 => refine (Kd.R_reads' (e := 44) (base := w.heap.size) (ok := fun k_ => (True ∧ some k_ ≠ (.slice Ao57 t104.length co57 : Value).ownBlock)) (n := t112.length) (c := co65) ?_).2.2; exact (by (with_reducible repeat (first | apply Kd.R_alloc | apply Kd.R_drewN | apply Kd.R_drew)); exact (Kd.R_mono (Kd.R_far (p := ⟨gb118, 2, none⟩) (Kd.R_far (p := ⟨gb118, 1, none⟩) (Kd.R_far (p := ⟨gb118, 0, none⟩) (Kd.R_types HO114.out BK118.out (by decide)) (fun _ hk => hk.2) (.int .i64 t111)) (fun _ hk => hk.2) (.slice Ao65 t112.length co65)) (fun _ hk => hk.2) (.slice Ao66 t115.length co66)) (fun _ h_ => h_.1)))); (case side2 => exact (Kd.R_reads' HO114.out).2.1); (case side3 => refine (Kd.R_reads' (e := 3) (base := w.heap.size) (ok := fun k_ => (True ∧ some k_ ≠ (.slice Ao58 t107.length co58 : Value).ownBlock)) (n := t115.length) (c := co66) ?_).2.2; exact (by (with_reducible repeat (first | apply Kd.R_alloc | apply Kd.R_drewN | apply Kd.R_drew)); exact (Kd.R_mono (Kd.R_far (p := ⟨gb118, 2, none⟩) (Kd.R_far (p := ⟨gb118, 1, none⟩) (Kd.R_far (p := ⟨gb118, 0, none⟩) (Kd.R_types HO117.out BK118.out (by decide)) (fun _ hk => hk.2) (.int .i64 t111)) (fun _ hk => hk.2) (.slice Ao65 t112.length co65)) (fun _ hk => hk.2) (.slice Ao66 t115.length co66)) (fun _ h_ => h_.1)))); (case side4 => exact (Kd.R_reads' HO117.out).2.1); rintro e w67 ⟨rfl, hb⟩; refine ⟨_, rfl, ?_⟩; have n0_ := Aside0.mk (Kd.R_below (by (with_reducible repeat (first | apply Kd.R_alloc | apply Kd.R_drewN | apply Kd.R_drew)); exact (Kd.R_mono (Kd.R_far (p := ⟨gb118, 2, none⟩) (Kd.R_far (p := ⟨gb118, 1, none⟩) (Kd.R_far (p := ⟨gb118, 0, none⟩) (Kd.R_types HO106.out BK118.out (by decide)) (fun _ hk => hk.2) (.int .i64 t111)) (fun _ hk => hk.2) (.slice Ao65 t112.length co65)) (fun _ hk => hk.2) (.slice Ao66 t115.length co66)) (fun _ h_ => h_.1))) hb); have n1_ := Aside0.mk (Kd.R_below (by (with_reducible repeat (first | apply Kd.R_alloc | apply Kd.R_drewN | apply Kd.R_drew)); exact (Kd.R_mono (Kd.R_far (p := ⟨gb118, 2, none⟩) (Kd.R_far (p := ⟨gb118, 1, none⟩) (Kd.R_far (p := ⟨gb118, 0, none⟩) (Kd.R_types HO109.out BK118.out (by decide)) (fun _ hk => hk.2) (.int .i64 t111)) (fun _ hk => hk.2) (.slice Ao65 t112.length co65)) (fun _ hk => hk.2) (.slice Ao66 t115.length co66)) (fun _ h_ => h_.1))) hb); have n2_ := Aside0.mk (Kd.R_below (by (with_reducible repeat (first | apply Kd.R_alloc | apply Kd.R_drewN | apply Kd.R_drew)); exact (Kd.R_mono (Kd.R_far (p := ⟨gb118, 2, none⟩) (Kd.R_far (p := ⟨gb118, 1, none⟩) (Kd.R_far (p := ⟨gb118, 0, none⟩) (Kd.R_types HO114.out BK118.out (by decide)) (fun _ hk => hk.2) (.int .i64 t111)) (fun _ hk => hk.2) (.slice Ao65 t112.length co65)) (fun _ hk => hk.2) (.slice Ao66 t115.length co66)) (fun _ h_ => h_.1))) hb); have n3_ := Aside0.mk (Kd.R_below (by (with_reducible repeat (first | apply Kd.R_alloc | apply Kd.R_drewN | apply Kd.R_drew)); exact (Kd.R_mono (Kd.R_far (p := ⟨gb118, 2, none⟩) (Kd.R_far (p := ⟨gb118, 1, none⟩) (Kd.R_far (p := ⟨gb118, 0, none⟩) (Kd.R_types HO117.out BK118.out (by decide)) (fun _ hk => hk.2) (.int .i64 t111)) (fun _ hk => hk.2) (.slice Ao65 t112.length co65)) (fun _ hk => hk.2) (.slice Ao66 t115.length co66)) (fun _ h_ => h_.1))) hb); have n4_ := Aside0.mk (blk_below (g := gb101) (o := .cells #[.int .i64 a0_0, .slice A0_1 l0_1.length c0_1, .slice A0_2 l0_2.length c0_2] 25 (0, 0)) (by (with_reducible repeat (first | refine blk_drewN ?_ _ | refine blk_drew ?_ | refine blk_alloc ?_ _)); refine blk_far ?_ NB101_118.out _; (with_reducible repeat (first | refine blk_drewN ?_ _ | refine blk_drew ?_ | refine blk_alloc ?_ _)); refine blk_far ?_ NB101_118.out _; (with_reducible repeat (first | refine blk_drewN ?_ _ | refine blk_drew ?_ | refine blk_alloc ?_ _)); refine blk_far ?_ NB101_118.out _; (with_reducible repeat (first | refine blk_drewN ?_ _ | refine blk_drew ?_ | refine blk_alloc ?_ _)); exact BK101.out) hb); have n5_ := Aside0.mk (blk_below (g := gb118) (o := .cells #[.int .i64 t111, .slice Ao65 t112.length co65, .slice Ao66 t115.length co66] 30 (0, 0)) (by (with_reducible repeat (first | refine blk_drewN ?_ _ | refine blk_drew ?_ | refine blk_alloc ?_ _)); refine blk_put (cs := #[.int .i64 t111, .slice Ao65 t112.length co65, .slice none 0 0]) ?_ 2 _ rfl; (with_reducible repeat (first | refine blk_drewN ?_ _ | refine blk_drew ?_ | refine blk_alloc ?_ _)); refine blk_put (cs := #[.int .i64 t111, .slice none 0 0, .slice none 0 0]) ?_ 1 _ rfl; (with_reducible repeat (first | refine blk_drewN ?_ _ | refine blk_drew ?_ | refine blk_alloc ?_ _)); refine blk_put (cs := #[.int .i64 0, .slice none 0 0, .slice none 0 0]) ?_ 0 _ rfl; (with_reducible repeat (first | refine blk_drewN ?_ _ | refine blk_drew ?_ | refine blk_alloc ?_ _)); exact BK118.out) hb); have n6_ := Aside0.mk (below_step (by repeat (first | (with_reducible first | exact HB.out | apply below_alloc | apply pw_below_drewN | apply below_drew1 | refine below_set ?_ GE101.out | refine below_set ?_ GE118.out) | exact HB.out)) hb); clear HO106; clear HO109; clear HO114; clear HO117; clear BK101; clear BK118; clear HB; have HO106 := n0_; have HO109 := n1_; have HO114 := n2_; have HO117 := n3_; have BK101 := n4_; have BK118 := n5_; have HB := n6_; clear n0_ n1_ n2_ n3_ n4_ n5_ n6_; (try clear hb); (try clear hb2); (try clear hk); (try clear hi)))
        have n0_ := Aside0.mk (Kd.R_drew HO106.out)
        have n1_ := Aside0.mk (Kd.R_drew HO109.out)
        have n2_ := Aside0.mk (Kd.R_drew HO114.out)
        have n3_ := Aside0.mk (Kd.R_drew HO117.out)
        have n4_ := Aside0.mk (blk_drew BK101.out)
        have n5_ := Aside0.mk (blk_drew BK118.out)
        have n6_ := Aside0.mk (below_drew1 HB.out)
        clear HO106
        clear HO109
        clear HO114
        clear HO117
        clear BK101
        clear BK118
        clear HB
        have HO106 := n0_
        have HO109 := n1_
        have HO114 := n2_
        have HO117 := n3_
        have BK101 := n4_
        have BK118 := n5_
        have HB := n6_
        clear n0_ n1_ n2_ n3_ n4_ n5_ n6_
        refine start_ (n := 5) (S := fun w' => w'.cell? ⟨gb118, 0, none⟩ = some (.int .i64 t111) ∧ w'.cell? ⟨gb118, 1, none⟩ = some (.slice Ao65 t112.length co65) ∧ w'.cell? ⟨gb118, 2, none⟩ = some (.slice Ao66 t115.length co66) ∧ w'.cell? ⟨gb101, 0, none⟩ = some (.int .i64 a0_0) ∧ w'.cell? ⟨gb101, 1, none⟩ = some (.slice A0_1 l0_1.length c0_1) ∧ w'.cell? ⟨gb101, 2, none⟩ = some (.slice A0_2 l0_2.length c0_2)) (ds := []) #[false, false, false, false, false] (by kernel_rfl) rfl rfl ⟨(blk_cell BK118.out 0).trans rfl, (blk_cell BK118.out 1).trans rfl, (blk_cell BK118.out 2).trans rfl, (blk_cell BK101.out 0).trans rfl, (blk_cell BK101.out 1).trans rfl, (blk_cell BK101.out 2).trans rfl⟩ (fun hHeld => ?_)
        generalize w67.drew = w68 at HO106 HO109 HO114 HO117 BK101 BK118 HB hHeld ⊢
        refine take_ (i := 0) (N := some 22) (v := ?_) (a' := ?_) #[true, false, false, false, false] rfl rfl (by kernel_rfl) (fun _ _ _ h => h) (Or.inl ⟨by rfl, ?_⟩) hHeld ?_ ?_
        rotate_left
        · rintro w' ⟨s0, s1, s2, s3, s4, s5⟩
          go_simp
          with_reducible rfl
        rotate_left
        · simp only [Act.put, List.setIfInBounds_toArray, List.set_cons_zero, List.set_cons_succ, i64_w, i32_w]
          rfl
        refine take_ (i := 1) (N := some 23) (v := ?_) (a' := ?_) #[true, true, false, false, false] rfl rfl (by kernel_rfl) (fun _ _ _ h => h) (Or.inl ⟨by rfl, ?_⟩) hHeld ?_ ?_
        rotate_left
        · rintro w' ⟨s0, s1, s2, s3, s4, s5⟩
          go_simp
          with_reducible rfl
        rotate_left
        · simp only [Act.put, List.setIfInBounds_toArray, List.set_cons_zero, List.set_cons_succ, i64_w, i32_w]
          rfl
        refine one_ (i := 2) (N := some 24) #[true, true, true, false, false] rfl rfl (by kernel_rfl) (by decide) (fun K hK => ?_)
        refine goes_ Try.func9 (by kernel_rfl) rfl #[.agg #[.int .i64 a0_0, .slice A0_1 l0_1.length c0_1, .slice A0_2 l0_2.length c0_2]] (by rfl) rfl rfl (by (try simp only [List.map_toArray, List.map_cons, List.map_nil]); first | done | rfl | (simp only [List.length_drop, List.length_take]; rfl)) ?_
        with_reducible refine (laws_toHeap.calls k a0_0 _ _ l0_1 _ _ l0_2 t120 t121 t124 _ ?side1 ?side2 ?side3 ?side4 A28.out).mono ?_
        (case side1 => repeat (first | exact (Kd.C_below HR0_1.out HB.out) | (with_reducible refine Kd.C_alloc ?_ _) | (with_reducible refine Kd.C_drewN ?_ _) | (with_reducible refine Kd.C_drew ?_)))
        (case side2 => exact HC0_1.out)
        (case side3 => repeat (first | exact (Kd.C_below HR0_2.out HB.out) | (with_reducible refine Kd.C_alloc ?_ _) | (with_reducible refine Kd.C_drewN ?_ _) | (with_reducible refine Kd.C_drew ?_)))
        (case side4 => exact HC0_2.out)
        rintro e w69 ⟨v122, v125, rfl, ho0, ho1, hb⟩
        refine ⟨_, rfl, ?_⟩
        have n0_ := Aside0.mk (Kd.R_elder' (by (with_reducible repeat (first | apply Kd.R_alloc | apply Kd.R_drewN | apply Kd.R_drew)); exact HO106.out) (Kd.R_base ho0) hb)
        have n1_ := Aside0.mk (Kd.R_elder' (by (with_reducible repeat (first | apply Kd.R_alloc | apply Kd.R_drewN | apply Kd.R_drew)); exact HO109.out) (Kd.R_base ho1) hb)
        have n2_ := Aside0.mk (Kd.R_elder' (by (with_reducible repeat (first | apply Kd.R_alloc | apply Kd.R_drewN | apply Kd.R_drew)); exact HO114.out) (Kd.R_base ho0) hb)
        have n3_ := Aside0.mk (Kd.R_elder' (by (with_reducible repeat (first | apply Kd.R_alloc | apply Kd.R_drewN | apply Kd.R_drew)); exact HO117.out) (Kd.R_base ho1) hb)
        have n4_ := Aside0.mk (Kd.R_lower (Kd.R_new' (Kd.R_new' ho0 (Kd.R_lt (by (with_reducible repeat (first | apply Kd.R_alloc | apply Kd.R_drewN | apply Kd.R_drew)); exact HO106.out))) (Kd.R_lt (by (with_reducible repeat (first | apply Kd.R_alloc | apply Kd.R_drewN | apply Kd.R_drew)); exact HO114.out))) (below_size (by repeat (first | (with_reducible first | exact HB.out | apply below_alloc | apply pw_below_drewN | apply below_drew1 | refine below_set ?_ GE101.out | refine below_set ?_ GE118.out) | exact HB.out))))
        have n5_ := Aside0.mk (Kd.R_lower (Kd.R_new' (Kd.R_new' ho1 (Kd.R_lt (by (with_reducible repeat (first | apply Kd.R_alloc | apply Kd.R_drewN | apply Kd.R_drew)); exact HO109.out))) (Kd.R_lt (by (with_reducible repeat (first | apply Kd.R_alloc | apply Kd.R_drewN | apply Kd.R_drew)); exact HO117.out))) (below_size (by repeat (first | (with_reducible first | exact HB.out | apply below_alloc | apply pw_below_drewN | apply below_drew1 | refine below_set ?_ GE101.out | refine below_set ?_ GE118.out) | exact HB.out))))
        have n6_ := Aside0.mk (blk_below (g := gb101) (o := .cells #[.int .i64 a0_0, .slice A0_1 l0_1.length c0_1, .slice A0_2 l0_2.length c0_2] 25 (0, 0)) (by (with_reducible repeat (first | refine blk_drewN ?_ _ | refine blk_drew ?_ | refine blk_alloc ?_ _)); exact BK101.out) hb)
        have n7_ := Aside0.mk (blk_below (g := gb118) (o := .cells #[.int .i64 t111, .slice Ao65 t112.length co65, .slice Ao66 t115.length co66] 30 (0, 0)) (by (with_reducible repeat (first | refine blk_drewN ?_ _ | refine blk_drew ?_ | refine blk_alloc ?_ _)); exact BK118.out) hb)
        have n8_ := Aside0.mk (below_step (by repeat (first | (with_reducible first | exact HB.out | apply below_alloc | apply pw_below_drewN | apply below_drew1 | refine below_set ?_ GE101.out | refine below_set ?_ GE118.out) | exact HB.out)) hb)
        clear HO106
        clear HO109
        clear HO114
        clear HO117
        clear BK101
        clear BK118
        clear HB
        have HO106 := n0_
        have HO109 := n1_
        have HO114 := n2_
        have HO117 := n3_
        have HO123 := n4_
        have HO126 := n5_
        have BK101 := n6_
        have BK118 := n7_
        have HB := n8_
        clear n0_ n1_ n2_ n3_ n4_ n5_ n6_ n7_ n8_
        (try clear hb)
        (try clear hb2)
        (try clear hk)
        (try clear hi)
        (try clear ho0)
        (try clear ho1)
        obtain ⟨Ao70, co70, eo70⟩ := Kd.R_slice HO123.out
        (first | subst eo70 | (injection eo70 with f1_ f2_ f3_; have f4_ := f1_.symm; have f5_ := f3_.symm; clear f1_ f2_ f3_; subst f4_; subst f5_))
        obtain ⟨Ao71, co71, eo71⟩ := Kd.R_slice HO126.out
        (first | subst eo71 | (injection eo71 with f1_ f2_ f3_; have f4_ := f1_.symm; have f5_ := f3_.symm; clear f1_ f2_ f3_; subst f4_; subst f5_))
        refine hK.out _ _ ⟨(blk_cell BK118.out 0).trans rfl, (blk_cell BK118.out 1).trans rfl, (blk_cell BK118.out 2).trans rfl, (blk_cell BK101.out 0).trans rfl, (blk_cell BK101.out 1).trans rfl, (blk_cell BK101.out 2).trans rfl⟩ (fun hHeld => ?_)
        clear hK K
        refine norm_ (a' := ?_) ?_ ?_
        rotate_left
        · show Act.put _ (some 24) _ = _
          simp only [Act.put, List.setIfInBounds_toArray, List.set_cons_zero, List.set_cons_succ, i64_w, i32_w]
          rfl
        refine one_ (i := 3) (N := some 25) #[true, true, true, true, false] rfl rfl (by kernel_rfl) (by decide) (fun K hK => ?_)
        refine goes_ Try.func11 (by kernel_rfl) rfl #[.agg #[.int .i64 t111, .slice Ao65 t112.length co65, .slice Ao66 t115.length co66], .agg #[.int .i64 t120, .slice Ao70 t121.length co70, .slice Ao71 t124.length co71]] (by rfl) rfl rfl (by (try simp only [List.map_toArray, List.map_cons, List.map_nil]); first | done | rfl | (simp only [List.length_drop, List.length_take]; rfl)) ?_
        with_reducible refine (laws_eqHeap.calls k t111 _ _ t112 _ _ t115 t120 _ _ t121 _ _ t124 false _ ?side1 ?side2 ?side3 ?side4 ?side5 ?side6 ?side7 ?side8 A29.out).mono ?_
        (case side1 => repeat (first | exact (Kd.R_reads' HO114.out).2.2 | (with_reducible refine Kd.C_alloc ?_ _) | (with_reducible refine Kd.C_drewN ?_ _) | (with_reducible refine Kd.C_drew ?_)))
        (case side2 => exact (Kd.R_reads' HO114.out).2.1)
        (case side3 => repeat (first | exact (Kd.R_reads' HO117.out).2.2 | (with_reducible refine Kd.C_alloc ?_ _) | (with_reducible refine Kd.C_drewN ?_ _) | (with_reducible refine Kd.C_drew ?_)))
        (case side4 => exact (Kd.R_reads' HO117.out).2.1)
        (case side5 => repeat (first | exact (Kd.R_reads' HO123.out).2.2 | (with_reducible refine Kd.C_alloc ?_ _) | (with_reducible refine Kd.C_drewN ?_ _) | (with_reducible refine Kd.C_drew ?_)))
        (case side6 => exact (Kd.R_reads' HO123.out).2.1)
        (case side7 => repeat (first | exact (Kd.R_reads' HO126.out).2.2 | (with_reducible refine Kd.C_alloc ?_ _) | (with_reducible refine Kd.C_drewN ?_ _) | (with_reducible refine Kd.C_drew ?_)))
        (case side8 => exact (Kd.R_reads' HO126.out).2.1)
        rintro e w72 ⟨rfl, hb⟩
        refine ⟨_, rfl, ?_⟩
        have n0_ := Aside0.mk (Kd.R_below (by (with_reducible repeat (first | apply Kd.R_alloc | apply Kd.R_drewN | apply Kd.R_drew)); exact HO106.out) hb)
        have n1_ := Aside0.mk (Kd.R_below (by (with_reducible repeat (first | apply Kd.R_alloc | apply Kd.R_drewN | apply Kd.R_drew)); exact HO109.out) hb)
        have n2_ := Aside0.mk (Kd.R_below (by (with_reducible repeat (first | apply Kd.R_alloc | apply Kd.R_drewN | apply Kd.R_drew)); exact HO114.out) hb)
        have n3_ := Aside0.mk (Kd.R_below (by (with_reducible repeat (first | apply Kd.R_alloc | apply Kd.R_drewN | apply Kd.R_drew)); exact HO117.out) hb)
        have n4_ := Aside0.mk (Kd.R_below (by (with_reducible repeat (first | apply Kd.R_alloc | apply Kd.R_drewN | apply Kd.R_drew)); exact HO123.out) hb)
        have n5_ := Aside0.mk (Kd.R_below (by (with_reducible repeat (first | apply Kd.R_alloc | apply Kd.R_drewN | apply Kd.R_drew)); exact HO126.out) hb)
        have n6_ := Aside0.mk (blk_below (g := gb101) (o := .cells #[.int .i64 a0_0, .slice A0_1 l0_1.length c0_1, .slice A0_2 l0_2.length c0_2] 25 (0, 0)) (by (with_reducible repeat (first | refine blk_drewN ?_ _ | refine blk_drew ?_ | refine blk_alloc ?_ _)); exact BK101.out) hb)
        have n7_ := Aside0.mk (blk_below (g := gb118) (o := .cells #[.int .i64 t111, .slice Ao65 t112.length co65, .slice Ao66 t115.length co66] 30 (0, 0)) (by (with_reducible repeat (first | refine blk_drewN ?_ _ | refine blk_drew ?_ | refine blk_alloc ?_ _)); exact BK118.out) hb)
        have n8_ := Aside0.mk (below_step (by repeat (first | (with_reducible first | exact HB.out | apply below_alloc | apply pw_below_drewN | apply below_drew1 | refine below_set ?_ GE101.out | refine below_set ?_ GE118.out) | exact HB.out)) hb)
        clear HO106
        clear HO109
        clear HO114
        clear HO117
        clear HO123
        clear HO126
        clear BK101
        clear BK118
        clear HB
        have HO106 := n0_
        have HO109 := n1_
        have HO114 := n2_
        have HO117 := n3_
        have HO123 := n4_
        have HO126 := n5_
        have BK101 := n6_
        have BK118 := n7_
        have HB := n8_
        clear n0_ n1_ n2_ n3_ n4_ n5_ n6_ n7_ n8_
        (try clear hb)
        (try clear hb2)
        (try clear hk)
        (try clear hi)
        refine hK.out _ _ ⟨(blk_cell BK118.out 0).trans rfl, (blk_cell BK118.out 1).trans rfl, (blk_cell BK118.out 2).trans rfl, (blk_cell BK101.out 0).trans rfl, (blk_cell BK101.out 1).trans rfl, (blk_cell BK101.out 2).trans rfl⟩ (fun hHeld => ?_)
        clear hK K
        refine norm_ (a' := ?_) ?_ ?_
        rotate_left
        · show Act.put _ (some 25) _ = _
          simp only [Act.put, List.setIfInBounds_toArray, List.set_cons_zero, List.set_cons_succ, i64_w, i32_w]
          rfl
        refine pure_ (i := 4) (N := some 26) (v := ?_) (a' := ?_) #[true, true, true, true, true] rfl rfl (by kernel_rfl) (fun _ _ _ h => h) (Or.inl ⟨by rfl, ?_⟩) ?_ ?_
        rotate_left
        · intro w'
          go_simp
          with_reducible rfl
        rotate_left
        · simp only [Act.put, List.setIfInBounds_toArray, List.set_cons_zero, List.set_cons_succ, i64_w, i32_w]
          rfl
        refine done_ (by kernel_rfl) ?_
        try go_wp2
        go_ret
        exact ⟨by first | rfl | (simp [errW_none, errW_some] <;> rfl) | (simp [*, errW_none, errW_some] <;> rfl), by repeat (first | (with_reducible first | exact HB.out | apply below_alloc | apply pw_below_drewN | apply below_drew1 | refine below_set ?_ GE101.out | refine below_set ?_ GE118.out) | exact HB.out)⟩

/-- The pure statement of laws_FnExactGoodHeap. -/
def laws_FnExactGoodHeap.Pure : Prop := ∀ (a0_0 : Int) (l0_1 : List (S59)) (l0_2 : List Int), (Lit.int .i64 a0_0).wf = true → (l0_1.length ≤ 9223372036854775807 ∧ ∀ x_ ∈ l0_1, (True ∧ (Lit.int .i64 x_.f1).wf = true ∧ (Lit.int .i64 x_.f2).wf = true ∧ (Lit.int .i64 x_.f3).wf = true)) → (l0_2.length ≤ 9223372036854775807 ∧ ∀ x_ ∈ l0_2, (Lit.int .i64 x_).wf = true) → ∃ k, laws_FnExactGoodHeap.f k a0_0 l0_1 l0_2 = some true

end Go.Proofs.Ytcbgjcnekdoloaa.G

namespace Go.Proofs.Ytcbgjcnekdoloaa.EvL
open Go.RowKit Go.Proofs.YtcbgjcnekdoloaaW.PrintWords
set_option linter.unusedVariables false

theorem w64 {x : Int} (h1 : -9223372036854775808 ≤ x) (h2 : x ≤ 9223372036854775807) : wrap64 x = x := by unfold wrap64; omega
theorem wf64 {n : Int} (h : (Lit.int .i64 n).wf = true) : -9223372036854775808 ≤ n ∧ n ≤ 9223372036854775807 := by
  have h' : (decide (IntKind.i64.min ≤ n) && decide (n ≤ IntKind.i64.max)) = true := h
  simp only [Bool.and_eq_true, decide_eq_true_iff] at h'
  exact ⟨h'.1, h'.2⟩

theorem Ev.const {α : Type} {a : Option α} {r : α} (h : a = some r) : Ev (fun _ => a) r := ⟨0, fun _ _ => h⟩
theorem Ev.of_eq {α : Type} {g : Nat → Option α} {r r' : α} (h : Ev g r) (e : r = r') : Ev g r' := e ▸ h
theorem Ev.ite_pos {α : Type} {c : Prop} [Decidable c] {g f : Nat → Option α} {r : α} (hc : c) (h : Ev g r) : Ev (fun k => if c then g k else f k) r := Ev.congr (fun k => if_pos hc) h
theorem Ev.ite_neg {α : Type} {c : Prop} [Decidable c] {g f : Nat → Option α} {r : α} (hc : ¬ c) (h : Ev f r) : Ev (fun k => if c then g k else f k) r := Ev.congr (fun k => if_neg hc) h
theorem Ev.succ {α : Type} {g : Nat → Option α} {r : α} (h : Ev (fun k => g (k + 1)) r) : Ev g r := Ev.step (fun k => rfl) h
/-- Both tell one answer in the end. -/
theorem Ev.unique {α : Type} {g : Nat → Option α} {r r' : α} (h : Ev g r) (h' : Ev g r') : r = r' := by
  obtain ⟨K, hK⟩ := h
  obtain ⟨K', hK'⟩ := h'
  have h1 := hK (max K K') (Nat.le_max_left ..)
  have h2 := hK' (max K K') (Nat.le_max_right ..)
  rw [h1] at h2
  exact Option.some.inj h2

/-- A loop that asks of each index. -/
theorem ev_all (F : Nat → Int → Option Bool) (n : Nat) (p : Nat → Bool) (hs : ∀ (k i : Nat), i < n → F (k + 1) i = if p i = true then F k ((i + 1 : Nat) : Int) else some false) (he : ∀ k, F (k + 1) n = some true) :
    ∀ (d i : Nat), i + d = n → Ev (fun k => F k i) ((List.range d).all fun j => p (i + j)) := by
  intro d
  induction d with
  | zero => intro i hi; obtain rfl : i = n := by omega
            exact Ev.step he (Ev.now _)
  | succ d ih =>
    intro i hi
    have e : ((List.range (d + 1)).all fun j => p (i + j)) = (p i && (List.range d).all fun j => p (i + 1 + j)) := by
      rw [List.range_succ_eq_map, List.all_cons, List.all_map, Nat.add_zero]
      congr 1; congr 1; funext j; show p (i + (j + 1)) = _; congr 1; omega
    rw [e]
    by_cases hp : p i = true
    · refine Ev.step (fun k => (hs k i (by omega)).trans (if_pos hp)) ?_
      rw [hp, Bool.true_and]
      exact ih (i + 1) (by omega)
    · refine Ev.step (fun k => (hs k i (by omega)).trans (if_neg hp)) ?_
      rw [Bool.eq_false_iff.mpr hp, Bool.false_and]
      exact Ev.now _

/-- A loop that fills a list. -/
theorem ev_fill {β : Type} (F : Nat → List β → Int → Option (List β)) (n : Nat) (g : Nat → β) (hs : ∀ (k : Nat) (acc : List β) (i : Nat), i < n → acc.length = n → F (k + 1) acc i = F k (acc.set i (g i)) ((i + 1 : Nat) : Int))
    (he : ∀ (k : Nat) (acc : List β), acc.length = n → F (k + 1) acc n = some acc) :
    ∀ (d i : Nat) (acc : List β), i + d = n → acc.length = n → Ev (fun k => F k acc i) (acc.take i ++ (List.range d).map fun j => g (i + j)) := by
  intro d
  induction d with
  | zero => intro i acc hi hl; obtain rfl : i = n := by omega
            rw [List.range_zero, List.map_nil, List.append_nil, List.take_of_length_le (by omega)]
            exact Ev.step (fun k => he k acc hl) (Ev.now _)
  | succ d ih =>
    intro i acc hi hl
    refine Ev.step (fun k => hs k acc i (by omega) hl) ?_
    refine Ev.of_eq (ih (i + 1) (acc.set i (g i)) (by omega) (by simpa using hl)) ?_
    rw [List.range_succ_eq_map, List.map_cons, List.map_map, Nat.add_zero]
    have e : (acc.set i (g i)).take (i + 1) = acc.take i ++ [g i] := by
      rw [List.take_succ_eq_append_getElem (by simp; omega)]
      simp [List.take_set_of_le]
    rw [e, List.append_assoc]
    congr 1
    rw [List.singleton_append]
    congr 1
    apply List.map_congr_left
    intro j _
    show g (i + 1 + j) = g (i + (j + 1))
    congr 1; omega

theorem range_getD {β : Type} (l : List β) (z : β) : (List.range l.length).map (fun j => l.getD j z) = l := by
  apply List.ext_getElem
  · simp
  · intro i h1 h2; simp [List.getD_eq_getElem?_getD, List.getElem?_eq_getElem h2]

theorem range_all_getD {β : Type} (l : List β) (z : β) (p : Nat → β → Bool) : ((List.range l.length).all fun j => p j (l.getD j z)) = true ↔ ∀ (i : Nat) (x : β), l[i]? = some x → p i x = true := by
  rw [List.all_eq_true]
  constructor
  · intro h i x hx
    have hi : i < l.length := by
      by_cases hi : i < l.length
      · exact hi
      · rw [List.getElem?_eq_none (by omega)] at hx; simp at hx
    have := h i (by simpa using hi)
    rwa [List.getD_eq_getElem?_getD, hx] at this
  · intro h i hi
    have hi' : i < l.length := by simpa using hi
    rw [List.getD_eq_getElem?_getD, List.getElem?_eq_getElem hi']
    exact h i _ (List.getElem?_eq_getElem hi')

/-- Two lists, compared place by place. -/
theorem range_all_eq {β : Type} [DecidableEq β] (a b : List β) (z : β) (h : a.length = b.length) : ((List.range a.length).all fun j => decide (a.getD j z = b.getD j z)) = decide (a = b) := by
  rw [Bool.eq_iff_iff, List.all_eq_true, decide_eq_true_iff]
  constructor
  · intro hh
    apply List.ext_getElem h
    intro i h1 h2
    have := of_decide_eq_true (hh i (by simpa using h1))
    rwa [List.getD_eq_getElem?_getD, List.getD_eq_getElem?_getD, List.getElem?_eq_getElem h1, List.getElem?_eq_getElem h2] at this
  · rintro rfl i _; simp
end Go.Proofs.Ytcbgjcnekdoloaa.EvL

namespace Go.Proofs.Ytcbgjcnekdoloaa.HeapL
open Go.RowKit Go.Proofs.Ytcbgjcnekdoloaa.G Go.Proofs.Ytcbgjcnekdoloaa.EvL Go.Proofs.YtcbgjcnekdoloaaW.PrintWords Go.Proofs.YtcbgjcnekdoloaaW.PrintLast
set_option linter.unusedVariables false

def conv (c : S59) : S44 := ⟨c.f0, c.f1, c.f2, c.f3⟩

theorem rdC (l : List S44) (i : Nat) : rd_T44 l (i : Int) = l.getD i z44 := by unfold rd_T44; rw [Int.toNat_natCast]
theorem rdL (l : List S59) (i : Nat) : rd_T59 l (i : Int) = l.getD i z59 := by unfold rd_T59; rw [Int.toNat_natCast]
theorem rdI (l : List Int) (i : Nat) : rd l (i : Int) = l.getD i 0 := by unfold rd; rw [Int.toNat_natCast]
theorem next (i : Nat) {n : Nat} (h : i < n) (hn : n ≤ 9223372036854775807) : wrap64 ((i : Int) + 1) = ((i + 1 : Nat) : Int) := by rw [w64 (by omega) (by omega)]; omega

theorem toCells (l : List S59) (hl : l.length ≤ 1048576) : Ev (fun k => laws_toCellS.f k l) (l.map conv) := by
  unfold laws_toCellS.f
  refine Ev.ite_pos (by omega) (Ev.ite_pos (by omega) ?_)
  rw [Int.toNat_natCast]
  refine Ev.of_eq (ev_fill (fun k acc i => laws_toCellS.l0 k l acc i) l.length (fun j => conv (l.getD j z59)) ?_ ?_ l.length 0 (List.replicate l.length z44) (by omega) (by simp)) ?_
  · intro k acc i hi hacc
    simp only [laws_toCellS.l0, laws_toCell.f, Option.bind_some]
    rw [if_pos (by omega), if_pos (by omega), if_pos (by omega), next i hi (by omega), rdL, Int.toNat_natCast]
    rfl
  · intro k acc hacc
    simp only [laws_toCellS.l0]
    rw [if_neg (by omega)]
  · rw [List.take_zero, List.nil_append]
    simp only [Nat.zero_add]
    rw [show (List.range l.length).map (fun j => conv (l.getD j z59)) = ((List.range l.length).map fun j => l.getD j z59).map conv by rw [List.map_map]; rfl, range_getD]

theorem toInts (l : List Int) (hl : l.length ≤ 1048576) : Ev (fun k => laws_toIntS.f k l) l := by
  unfold laws_toIntS.f
  refine Ev.ite_pos (by omega) (Ev.ite_pos (by omega) ?_)
  rw [Int.toNat_natCast]
  refine Ev.of_eq (ev_fill (fun k acc i => laws_toIntS.l0 k l acc i) l.length (fun j => l.getD j 0) ?_ ?_ l.length 0 (List.replicate l.length 0) (by omega) (by simp)) ?_
  · intro k acc i hi hacc
    simp only [laws_toIntS.l0]
    rw [if_pos (by omega), if_pos (by omega), if_pos (by omega), next i hi (by omega), rdI, Int.toNat_natCast]
  · intro k acc hacc
    simp only [laws_toIntS.l0]
    rw [if_neg (by omega)]
  · rw [List.take_zero, List.nil_append]
    simp only [Nat.zero_add]
    exact range_getD l 0

theorem sizes (old : Int) (c : List S59) (r : List Int) (hc : c.length ≤ 9223372036854775807) (hr : r.length ≤ 9223372036854775807) :
    ∃ t, laws_szHeap.f old c r 1048576 = some t ∧ (¬ t < 0 → c.length ≤ 1048576 ∧ r.length ≤ 1048576) := by
  unfold laws_szHeap.f laws_szCellS.f laws_szIntS.f
  rw [w64 (x := 1048576 - (c.length : Int)) (by omega) (by omega)]
  by_cases h : 1048576 - (c.length : Int) < 0
  · rw [if_pos h]
    exact ⟨-1, rfl, fun h => absurd (by decide) h⟩
  · rw [if_neg h]
    simp only [Option.bind_some]
    rw [if_neg h, w64 (by omega) (by omega)]
    by_cases h2 : 1048576 - (c.length : Int) - (r.length : Int) < 0
    · rw [if_pos h2]
      exact ⟨-1, rfl, fun h => absurd (by decide) h⟩
    · rw [if_neg h2]
      simp only [Option.bind_some]
      rw [if_neg h2]
      exact ⟨_, rfl, fun _ => by omega⟩

theorem toHeap (old : Int) (c : List S59) (r : List Int) (hc : c.length ≤ 1048576) (hr : r.length ≤ 1048576) : Ev (fun k => laws_toHeap.f k old c r) (old, c.map conv, r) := by
  unfold laws_toHeap.f
  refine Ev.bind (toCells c hc) (Ev.bind (toInts r hr) (Ev.now _))

theorem eqCells (a : List S44) (ha : a.length ≤ 9223372036854775807) : Ev (fun k => laws_eqCellS.f k a a) true := by
  unfold laws_eqCellS.f
  refine Ev.ite_pos rfl ?_
  refine Ev.of_eq (ev_all (fun k i => laws_eqCellS.l0 k a a i) a.length (fun _ => true) ?_ ?_ a.length 0 (by omega)) (by simp)
  · intro k i hi
    simp only [laws_eqCellS.l0, laws_eqCell.f]
    rw [if_pos (by omega), if_pos (by omega), if_pos (by omega), if_neg (by simp)]
    simp only [if_true, Option.bind_some]
    rw [next i hi ha]
  · intro k
    simp only [laws_eqCellS.l0]
    rw [if_neg (by omega)]

theorem eqInts (a : List Int) (ha : a.length ≤ 9223372036854775807) : Ev (fun k => laws_eqIntS.f k a a) true := by
  unfold laws_eqIntS.f
  refine Ev.ite_pos rfl ?_
  refine Ev.of_eq (ev_all (fun k i => laws_eqIntS.l0 k a a i) a.length (fun _ => true) ?_ ?_ a.length 0 (by omega)) (by simp)
  · intro k i hi
    simp only [laws_eqIntS.l0]
    rw [if_pos (by omega), if_pos (by omega), if_pos (by omega)]
    simp only [if_true]
    rw [next i hi ha]
  · intro k
    simp only [laws_eqIntS.l0]
    rw [if_neg (by omega)]

theorem eqHeap (old : Int) (c : List S44) (r : List Int) (hc : c.length ≤ 9223372036854775807) (hr : r.length ≤ 9223372036854775807) : Ev (fun k => laws_eqHeap.f k old c r old c r) true := by
  unfold laws_eqHeap.f
  refine Ev.ite_pos rfl (Ev.bind (eqCells c hc) (Ev.ite_pos rfl (Ev.bind (eqInts r hr) (Ev.ite_pos rfl (Ev.now _)))))

/-- May a cell stand at place i. -/
def CellOk (c : S44) (i : Nat) : Prop := (c.f0 = true ∧ c.f2 = 0 ∧ c.f3 = 0) ∨ (c.f0 = false ∧ c.f1 = 0 ∧ 0 ≤ c.f2 ∧ c.f2 < i ∧ 0 ≤ c.f3 ∧ c.f3 < i)
instance (c : S44) (i : Nat) : Decidable (CellOk c i) := by unfold CellOk; infer_instance
def cellsOk (c : List S44) : Bool := (List.range c.length).all fun i => decide (CellOk (c.getD i z44) i)
def rootsOk (n : Nat) (r : List Int) : Bool := r.all fun x => decide (0 ≤ x ∧ x < (n : Int))
/-- Is a heap good. -/
def goodH (old : Int) (c : List S44) (r : List Int) : Bool := decide (c.length ≤ 200) && (decide (r.length ≤ 60) && (decide (0 ≤ old ∧ old ≤ (c.length : Int)) && (cellsOk c && rootsOk c.length r)))

theorem l1In_eq (a b c : Int) : spec_l1In.f a b c = some (decide (b ≤ a ∧ a ≤ c)) := by
  unfold spec_l1In.f
  by_cases h : a ≥ b
  · rw [if_pos h]; congr 1; exact decide_eq_decide.mpr (by omega)
  · rw [if_neg h, decide_eq_false (by omega)]

theorem spec_roots (old : Int) (c : List S44) (r : List Int) (hc : c.length ≤ 200) (hr : r.length ≤ 60) : Ev (fun k => spec_GoodHeap.l1 k r r.length 0 old c r) (rootsOk c.length r) := by
  refine Ev.of_eq (ev_all (fun k i => spec_GoodHeap.l1 k r r.length i old c r) r.length (fun i => decide (0 ≤ r.getD i 0 ∧ r.getD i 0 < (c.length : Int))) ?_ ?_ r.length 0 (by omega)) ?_
  · intro k i hi
    simp only [spec_GoodHeap.l1]
    rw [if_pos (by omega), if_pos (by omega), if_pos (by omega), l1In_eq, rdI, w64 (by omega) (by omega), next i hi (by omega)]
    simp only [Option.bind_some]
    rw [show decide (0 ≤ r.getD i 0 ∧ r.getD i 0 ≤ (c.length : Int) - 1) = decide (0 ≤ r.getD i 0 ∧ r.getD i 0 < (c.length : Int)) from decide_eq_decide.mpr (by omega)]
  · intro k
    simp only [spec_GoodHeap.l1]
    rw [if_neg (by omega)]
  · simp only [Nat.zero_add]
    unfold rootsOk
    rw [Bool.eq_iff_iff, range_all_getD r 0 (fun _ x => decide (0 ≤ x ∧ x < (c.length : Int))), List.all_eq_true]
    constructor
    · intro h x hx
      obtain ⟨i, hi⟩ := List.mem_iff_getElem?.mp hx
      exact h i x hi
    · intro h i x hx
      exact h x (List.mem_of_getElem? hx)

theorem spec_cells (old : Int) (c : List S44) (r : List Int) (hc : c.length ≤ 200) (hr : r.length ≤ 60) : ∀ (d i : Nat), i + d = c.length →
    Ev (fun k => spec_GoodHeap.l0 k c c.length i old c r) (((List.range d).all fun j => decide (CellOk (c.getD (i + j) z44) (i + j))) && rootsOk c.length r) := by
  intro d
  induction d with
  | zero =>
    intro i hi
    refine Ev.step (f := fun k => spec_GoodHeap.l1 k r r.length 0 old c r) (fun k => ?_) (Ev.of_eq (spec_roots old c r hc hr) (by simp))
    simp only [spec_GoodHeap.l0]
    rw [if_neg (by omega)]
  | succ d ih =>
    intro i hi
    have e : ((List.range (d + 1)).all fun j => decide (CellOk (c.getD (i + j) z44) (i + j))) = (decide (CellOk (c.getD i z44) i) && (List.range d).all fun j => decide (CellOk (c.getD (i + 1 + j) z44) (i + 1 + j))) := by
      rw [List.range_succ_eq_map, List.all_cons, List.all_map, Nat.add_zero]
      congr 1; congr 1; funext j; show decide (CellOk (c.getD (i + (j + 1)) z44) (i + (j + 1))) = _; rw [show i + (j + 1) = i + 1 + j by omega]
    rw [e]
    refine Ev.step (f := fun k => if CellOk (c.getD i z44) i then spec_GoodHeap.l0 k c c.length ((i + 1 : Nat) : Int) old c r else some false) (fun k => ?_) ?_
    · simp only [spec_GoodHeap.l0]
      rw [if_pos (by omega), if_pos (by omega), if_pos (by omega), rdC, next i (n := c.length) (by omega) (by omega), w64 (x := (i : Int) - 1) (by omega) (by omega)]
      simp only [l1In_eq, Option.bind_some]
      generalize c.getD i z44 = x
      by_cases h0 : x.f0 = true
      · rw [if_pos h0]
        by_cases h1 : x.f2 = 0
        · rw [if_pos h1]
          by_cases h2 : x.f3 = 0
          · rw [if_pos h2, if_pos (.inl ⟨h0, h1, h2⟩)]
          · rw [if_neg h2, if_neg (by rintro (⟨_, _, h⟩ | ⟨h, _⟩); exact h2 h; rw [h0] at h; cases h)]
        · rw [if_neg h1, if_neg (by rintro (⟨_, h, _⟩ | ⟨h, _⟩); exact h1 h; rw [h0] at h; cases h)]
      · have h0' : x.f0 = false := Bool.eq_false_iff.mpr h0
        rw [if_neg h0]
        by_cases h1 : x.f1 = 0
        · rw [if_pos h1]
          by_cases h2 : 0 ≤ x.f2 ∧ x.f2 ≤ (i : Int) - 1
          · rw [if_pos (decide_eq_true h2)]
            by_cases h3 : 0 ≤ x.f3 ∧ x.f3 ≤ (i : Int) - 1
            · rw [if_pos (decide_eq_true h3), if_pos (.inr ⟨h0', h1, by omega, by omega, by omega, by omega⟩)]
            · rw [if_neg (by rw [decide_eq_false h3]; decide), if_neg (by rintro (⟨h, _⟩ | ⟨_, _, _, _, _, _⟩); exact h0 h; omega)]
          · rw [if_neg (by rw [decide_eq_false h2]; decide), if_neg (by rintro (⟨h, _⟩ | ⟨_, _, _, _, _, _⟩); exact h0 h; omega)]
        · rw [if_neg h1, if_neg (by rintro (⟨h, _⟩ | ⟨_, h, _⟩); exact h0 h; exact h1 h)]
    · by_cases h : CellOk (c.getD i z44) i
      · rw [decide_eq_true h, Bool.true_and]
        exact Ev.ite_pos h (ih (i + 1) (by omega))
      · rw [decide_eq_false h, Bool.false_and, Bool.false_and]
        exact Ev.ite_neg h (Ev.now _)

theorem specGood (old : Int) (c : List S44) (r : List Int) : Ev (fun k => spec_GoodHeap.f k old c r) (goodH old c r) := by
  unfold spec_GoodHeap.f goodH
  have no : Ev (fun k => spec_GoodHeap.j0 k true old c r) false := Ev.step (f := fun _ => some false) (fun k => by simp only [spec_GoodHeap.j0, if_true]) (Ev.now _)
  by_cases h1 : c.length ≤ 200
  · refine Ev.ite_neg (by omega) ?_
    rw [decide_eq_true h1, Bool.true_and]
    by_cases h2 : r.length ≤ 60
    · refine Ev.ite_neg (by omega) ?_
      rw [decide_eq_true h2, Bool.true_and, l1In_eq]
      simp only [Option.bind_some]
      by_cases h3 : 0 ≤ old ∧ old ≤ (c.length : Int)
      · rw [decide_eq_true h3, Bool.true_and]
        refine Ev.step (f := fun k => spec_GoodHeap.l0 k c c.length 0 old c r) (fun k => by simp only [spec_GoodHeap.j0, Bool.not_true, Bool.false_eq_true, if_false]) ?_
        exact Ev.of_eq (spec_cells old c r h1 h2 c.length 0 (by omega)) (by simp only [Nat.zero_add]; rfl)
      · rw [decide_eq_false h3, Bool.false_and]
        exact no
    · rw [decide_eq_false h2, Bool.false_and]
      exact Ev.ite_pos (by omega) no
  · rw [decide_eq_false h1, Bool.false_and]
    exact Ev.ite_pos (by omega) no

theorem isBelow_eq (a b : Int) : impl_isBelow.f a b = some (decide (0 ≤ a ∧ a < b)) := by
  unfold impl_isBelow.f
  by_cases h : a ≥ 0
  · rw [if_pos h]; congr 1; exact decide_eq_decide.mpr (by omega)
  · rw [if_neg h, decide_eq_false (by omega)]

theorem isCell_eq (c : S44) (i : Nat) : impl_isCell.f c.f0 c.f1 c.f2 c.f3 i = some (decide (CellOk c i)) := by
  unfold impl_isCell.f
  simp only [isBelow_eq, Option.bind_some]
  by_cases h0 : c.f0 = true
  · rw [if_pos h0]
    by_cases h1 : c.f2 = 0
    · rw [if_pos h1]
      by_cases h2 : c.f3 = 0
      · rw [beq_iff_eq.mpr h2, decide_eq_true (show CellOk c i from .inl ⟨h0, h1, h2⟩)]
      · rw [beq_eq_false_iff_ne.mpr h2, decide_eq_false (by rintro (⟨_, _, h⟩ | ⟨h, _⟩); exact h2 h; rw [h0] at h; cases h)]
    · rw [if_neg h1, decide_eq_false (by rintro (⟨_, h, _⟩ | ⟨h, _⟩); exact h1 h; rw [h0] at h; cases h)]
  · have h0' : c.f0 = false := Bool.eq_false_iff.mpr h0
    rw [if_neg h0]
    by_cases h1 : c.f1 = 0
    · rw [if_pos h1]
      by_cases h2 : 0 ≤ c.f2 ∧ c.f2 < (i : Int)
      · rw [if_pos (decide_eq_true h2)]
        congr 1
        refine decide_eq_decide.mpr ⟨fun h => .inr ⟨h0', h1, h2.1, h2.2, h.1, h.2⟩, ?_⟩
        rintro (⟨h, _⟩ | ⟨_, _, _, _, a, b⟩)
        · exact absurd h h0
        · exact ⟨a, b⟩
      · rw [if_neg (by rw [decide_eq_false h2]; decide), decide_eq_false (by rintro (⟨h, _⟩ | ⟨_, _, _, _, _, _⟩); exact h0 h; omega)]
    · rw [if_neg h1, decide_eq_false (by rintro (⟨h, _⟩ | ⟨_, h, _⟩); exact h0 h; exact h1 h)]

theorem implGood (old : Int) (c : List S44) (r : List Int) : Ev (fun k => impl_GoodHeap.f k old c r) (goodH old c r) := by
  unfold impl_GoodHeap.f goodH impl_areRoots.f
  have no : Ev (fun k => impl_GoodHeap.j0 k true old c r) false := Ev.step (f := fun _ => some false) (fun k => by simp only [impl_GoodHeap.j0, if_true]) (Ev.now _)
  by_cases h1 : c.length ≤ 200
  · refine Ev.ite_neg (by omega) ?_
    rw [decide_eq_true h1, Bool.true_and]
    by_cases h3 : 0 ≤ old ∧ old ≤ (c.length : Int)
    · refine Ev.ite_neg (by omega) (Ev.ite_neg (by omega) ?_)
      rw [decide_eq_true h3, Bool.true_and]
      simp only [Option.bind_some]
      by_cases h2 : r.length ≤ 60
      · rw [decide_eq_true h2, Bool.true_and, Bool.true_and]
        have er : (r.all fun n => decide (0 ≤ n ∧ n < (c.length : Int))) = rootsOk c.length r := rfl
        rw [er]
        cases hr : rootsOk c.length r with
        | false => rw [Bool.and_false]; exact no
        | true =>
          rw [Bool.and_true]
          refine Ev.step (f := fun k => impl_GoodHeap.l0 k c c.length 0) (fun k => by simp only [impl_GoodHeap.j0, Bool.not_true, Bool.false_eq_true, if_false]) ?_
          refine Ev.of_eq (ev_all (fun k i => impl_GoodHeap.l0 k c c.length i) c.length (fun i => decide (CellOk (c.getD i z44) i)) ?_ ?_ c.length 0 (by omega)) (by simp only [Nat.zero_add]; rfl)
          · intro k i hi
            simp only [impl_GoodHeap.l0]
            rw [if_pos (by omega), if_pos (by omega), if_pos (by omega), rdC, isCell_eq, next i hi (by omega)]
            simp only [Option.bind_some]
          · intro k
            simp only [impl_GoodHeap.l0]
            rw [if_neg (by omega)]
      · rw [decide_eq_false h2, Bool.false_and, Bool.false_and]
        exact no
    · rw [decide_eq_false h3, Bool.false_and, Bool.and_false]
      by_cases h4 : old < 0
      · exact Ev.ite_pos h4 no
      · exact Ev.ite_neg h4 (Ev.ite_pos (by omega) no)
  · rw [decide_eq_false h1, Bool.false_and]
    exact Ev.ite_pos (by omega) no
end Go.Proofs.Ytcbgjcnekdoloaa.HeapL
