/- Part 5 of 6 of the proof that the law FnExactReadTermCardSaid holds: for every input that can be read the call returns true and leaves its arguments as they were; no condition but those each theorem names. -/
import Derived.Lib.ItoaNum
import Derived.Lib.AtoiAll
import Derived.Lib.IndexMore
import Derived.Lib.CutLaws
import Derived.Lib.Split
import Derived.Test.YtcjhhdecckcibaaDoorQReadTermW1
import Derived.Test.YtcjhhdecckcibaaDoorQReadTerm1
import Derived.Test.YtcjhhdecckcibaaDoorQReadTerm2
import Derived.Test.YtcjhhdecckcibaaDoorQReadTerm3
import Derived.Test.YtcjhhdecckcibaaDoorQReadTerm4
namespace Go.Proofs.YtcjhhdecckcibaaDoor.G
open Go.RowKit Go.Proofs.YtcjhhdecckcibaaDoorW.PrintWords Go.Proofs.YtcjhhdecckcibaaDoorW.PrintLast Go.Proofs.YtcjhhdecckcibaaDoorW.PrintMore
attribute [local go_sem] max2_int min2_int max_two min_two max_three min_three max_four min_four   -- for this text's walks alone
set_option linter.unusedVariables false
set_option linter.unusedSimpArgs false

mutual
def impl_term_size.l0 : Nat → Int → List (S72) → Int → Int → Option (Int)
  | 0, _, _, _, _ => none
  | k + 1, x3, x7, x8, x9 => if x9 < x8 then (if 0 ≤ x9 then (if x9 < (x7.length : Int) then ((impl_term_size.f k ((rd_T72 x7 x9).f0) ((rd_T72 x7 x9).f1) ((rd_T72 x7 x9).f2)).bind fun t104 => (impl_term_size.l0 k (wrap64 (x3 + t104)) x7 x8 (wrap64 (x9 + 1)))) else (none)) else (none)) else (some x3)
def impl_term_size.f : Nat → Int → Int → List (S72) → Option (Int)
  | 0, _, _, _ => none
  | k + 1, a0_0, a0_1, l0_2 => impl_term_size.l0 k 1 l0_2 (l0_2.length : Int) 0
end
set_option maxHeartbeats 8000000 in
set_option maxRecDepth 100000 in
theorem impl_term_size.calls (k : Nat) : ∀ (a0_0 : Int) (a0_1 : Int) (A0_2 : Option Addr) (c0_2 : Nat) (l0_2 : List (S72)) (r : Int) (w : World) (hr0_2 : Kd.C k72 w A0_2 l0_2.length l0_2) (hc0_2 : l0_2.length ≤ c0_2) (h : impl_term_size.f k a0_0 a0_1 l0_2 = some r),
    Calls Tryd.prog 76 #[.agg #[.int .i64 a0_0, .int .i64 a0_1, .slice A0_2 l0_2.length c0_2]] w fun e w' => e = .returned (.int .i64 r) ∧ Below w.heap.size w w' := by
  induction k using Nat.strongRecOn with
  | _ k ih =>
  intro a0_0 a0_1 A0_2 c0_2 l0_2 r w hr0_2 hc0_2 h
  cases k with
  | zero => exact absurd h (by simp [impl_term_size.f])
  | succ k =>
  simp only [impl_term_size.f] at h
  have hu72 := Tryd.underlying72
  have HR0_2 := Aside0.mk hr0_2
  have HC0_2 := Aside0.mk hc0_2
  clear hr0_2 hc0_2
  have HB := Aside0.mk (Below.refl w.heap.size w)
  have H : (impl_term_size.l0 k 1 l0_2 (l0_2.length : Int) 0) = some r := h
  clear h
  have H' := Aside0.mk H
  clear H
  go_enter Tryd.func76, Tryd.ntmps76
  go_wp2_with (first | ((with_reducible refine gate_dst (N := 1) rfl ?_); refine box_event ?hg (N := 1) ?hd (cs := #[.int .i64 a0_0, .int .i64 a0_1, .slice A0_2 l0_2.length c0_2]) (t := 72) ?hr ?_; (case hd => rfl); (case hg => rfl); (case hr => first | (go_simp; done) | (go_simp; rfl)); intro gb101 hg w2 hbox hb; have n0_ := Aside0.mk (below_step (by repeat (first | (with_reducible first | exact HB.out | apply below_alloc | apply pw_below_drewN | apply below_drew1) | exact HB.out)) hb); have n1_ := Aside0.mk (hbox); have n2_ := Aside0.mk ((by rw [hg]; exact (below_size (by repeat (first | (with_reducible first | exact HB.out | apply below_alloc | apply pw_below_drewN | apply below_drew1) | exact HB.out))) : w.heap.size ≤ gb101)); have n3_ := Aside0.mk ((by rw [hg]; exact (below_size (by repeat (first | (with_reducible first | exact HB.out | apply below_alloc | apply pw_below_drewN | apply below_drew1) | exact HB.out))) : w.heap.size ≤ gb101)); clear HB; have HB := n0_; have BK101 := n1_; have GW101 := n2_; have GE101 := n3_; clear n0_ n1_ n2_ n3_; clear hb hbox hg; have hcz3_0 : w2.cell? ⟨gb101, 0, none⟩ = some (.int .i64 a0_0) := (blk_cell BK101.out 0).trans rfl; have hcz3_1 : w2.cell? ⟨gb101, 1, none⟩ = some (.int .i64 a0_1) := (blk_cell BK101.out 1).trans rfl; have hcz3_2 : w2.cell? ⟨gb101, 2, none⟩ = some (.slice A0_2 l0_2.length c0_2) := (blk_cell BK101.out 2).trans rfl; have hfz3_0 := blk_frozen BK101.out 0; have hfz3_1 := blk_frozen BK101.out 1; have hfz3_2 := blk_frozen BK101.out 2))
  go_loopg [3, 9] k (fun kq v3 v9 w' => ∃ (x3_1 : Int) (x9_1 : Int), v3 = .int .i64 x3_1 ∧ v9 = .int .i64 x9_1 ∧ Aside0 (impl_term_size.l0 kq x3_1 l0_2 (l0_2.length : Int) x9_1 = some r) ∧ Aside0 (kq ≤ k) ∧ Aside0 (w'.heap[gb101]? = some (.cells #[.int .i64 a0_0, .int .i64 a0_1, (.slice A0_2 l0_2.length c0_2)] 72 (0, 0))) ∧ Aside0 (Below w.heap.size w w'))
  case atStart => exact ⟨(1), (0), (by first | rfl | (simp; done) | (simp [*]; done)), (by first | rfl | (simp; done) | (simp [*]; done)), H', ⟨Nat.le_refl _⟩, ⟨by (with_reducible repeat (first | refine blk_drewN ?_ _ | refine blk_drew ?_ | refine blk_alloc ?_ _)); exact BK101.out⟩, ⟨by repeat (first | (with_reducible first | exact HB.out | apply below_alloc | apply pw_below_drewN | apply below_drew1 | refine below_set ?_ GE101.out) | exact HB.out)⟩⟩
  case round =>
    clear H'
    try clear p2
    try clear hcz3_0
    try clear hcz3_1
    try clear hcz3_2
    try clear hfz3_0
    try clear hfz3_1
    try clear hfz3_2
    obtain ⟨x3_1, x9_1, rfl, rfl, HA, HK1, BK101, HB⟩ := hrel
    cases gk with
    | zero => exact absurd HA.out (by simp [impl_term_size.l0])
    | succ k1 =>
      have H := HA.out
      clear HA
      simp only [impl_term_size.l0] at H
      by_cases c4 : x9_1 < (l0_2.length : Int)
      · rw [if_pos c4] at H
        have c4b0 : decide (x9_1 < (l0_2.length : Int)) = true := decide_eq_true c4
        clear c4
        by_cases c5 : 0 ≤ x9_1
        · rw [if_pos c5] at H
          have c5b0 : decide (0 ≤ x9_1) = true := decide_eq_true c5
          clear c5
          by_cases c6 : x9_1 < (l0_2.length : Int)
          · rw [if_pos c6] at H
            have c6b0 : decide (x9_1 < (l0_2.length : Int)) = true := decide_eq_true c6
            clear c6
            replace H := Option.bind_eq_some_iff.mp H
            obtain ⟨t104, A70, H⟩ := H
            replace H : (impl_term_size.l0 k1 (wrap64 (x3_1 + t104)) l0_2 (l0_2.length : Int) (wrap64 (x9_1 + 1))) = some r := H
            have A7 := Aside0.mk A70
            clear A70
            have H' := Aside0.mk H
            clear H
            have p102 : 0 ≤ (x9_1 : Int) := of_decide_eq_true (by first | (with_reducible assumption) | assumption)
            have q102 : x9_1 < (l0_2.length : Int) := of_decide_eq_true (by first | (with_reducible assumption) | assumption)
            obtain ⟨ad102, A102_2, c102_2, e102, hx102_0, hx102_1, hx102_2, hl102_2, hi102_2⟩ := at_T72 HR0_2.out x9_1 p102 q102
            cases e102
            replace hx102_0 := (HB.out.cell (World.block_lt_of_cell? w _ hx102_0)).trans hx102_0
            replace hx102_1 := (HB.out.cell (World.block_lt_of_cell? w _ hx102_1)).trans hx102_1
            replace hx102_2 := (HB.out.cell (World.block_lt_of_cell? w _ hx102_2)).trans hx102_2
            have HR102_2 := Aside0.mk hi102_2
            have HC102_2 := Aside0.mk hl102_2
            clear hi102_2 hl102_2
            replace p102 := eq_true p102
            replace q102 := eq_true q102
            go_wp2_with (first | ((with_reducible refine gate_dst (N := 5) rfl ?_); refine box_event ?hg (N := 5) ?hd (cs := #[.int .i64 0, .int .i64 0, .slice none 0 0]) (t := 72) ?hr ?_; (case hd => rfl); (case hg => rfl); (case hr => first | (go_simp; done) | (go_simp; rfl)); intro gb103 hg w8 hbox hb; have n0_ := Aside0.mk (blk_below (g := gb101) (o := .cells #[.int .i64 a0_0, .int .i64 a0_1, .slice (some ad102) l0_2.length c0_2] 72 (0, 0)) (by (with_reducible repeat (first | refine blk_drewN ?_ _ | refine blk_drew ?_ | refine blk_alloc ?_ _)); exact BK101.out) hb); have n1_ := Aside0.mk (below_step (by repeat (first | (with_reducible first | exact HB.out | apply below_alloc | apply pw_below_drewN | apply below_drew1 | refine below_set ?_ GE101.out) | exact HB.out)) hb); have n2_ := Aside0.mk (hbox); have n3_ := Aside0.mk ((by rw [hg]; exact (below_size (by repeat (first | (with_reducible first | exact HB.out | apply below_alloc | apply pw_below_drewN | apply below_drew1 | refine below_set ?_ GE101.out) | exact HB.out))) : w.heap.size ≤ gb103)); have n4_ := Aside0.mk ((by rw [hg]; exact (below_size (by repeat (first | (with_reducible first | exact HB.out | apply below_alloc | apply pw_below_drewN | apply below_drew1 | refine below_set ?_ GE101.out) | exact HB.out))) : w.heap.size ≤ gb103)); have n5_ := Aside0.mk ((by rw [hg]; exact Nat.ne_of_lt (blk_lt (g := gb101) (o := .cells #[.int .i64 a0_0, .int .i64 a0_1, .slice (some ad102) l0_2.length c0_2] 72 (0, 0)) (by (with_reducible repeat (first | refine blk_drewN ?_ _ | refine blk_drew ?_ | refine blk_alloc ?_ _)); exact BK101.out)) : gb101 ≠ gb103)); have n6_ := Aside0.mk ((by rw [hg]; exact Nat.ne_of_gt (blk_lt (g := gb101) (o := .cells #[.int .i64 a0_0, .int .i64 a0_1, .slice (some ad102) l0_2.length c0_2] 72 (0, 0)) (by (with_reducible repeat (first | refine blk_drewN ?_ _ | refine blk_drew ?_ | refine blk_alloc ?_ _)); exact BK101.out)) : gb103 ≠ gb101)); clear BK101; clear HB; have BK101 := n0_; have HB := n1_; have BK103 := n2_; have GW103 := n3_; have GE103 := n4_; have NB101_103 := n5_; have NB103_101 := n6_; clear n0_ n1_ n2_ n3_ n4_ n5_ n6_; clear hb hbox hg; have hnb9 := NB103_101.out; have hnc9 := NB101_103.out; have hcz10_0 : w8.cell? ⟨gb103, 0, none⟩ = some (.int .i64 0) := (blk_cell BK103.out 0).trans rfl; have hcz10_1 : w8.cell? ⟨gb103, 1, none⟩ = some (.int .i64 0) := (blk_cell BK103.out 1).trans rfl; have hcz10_2 : w8.cell? ⟨gb103, 2, none⟩ = some (.slice none 0 0) := (blk_cell BK103.out 2).trans rfl; have hfz10_0 := blk_frozen BK103.out 0; have hfz10_1 := blk_frozen BK103.out 1; have hfz10_2 := blk_frozen BK103.out 2) | ((with_reducible refine gate_callee (f := 76) rfl ?_); refine goesL_ (some 15) rfl rfl Tryd.func76 (by kernel_rfl) rfl #[.agg #[.int .i64 ((rd_T72 l0_2 x9_1).f0), .int .i64 ((rd_T72 l0_2 x9_1).f1), .slice A102_2 ((rd_T72 l0_2 x9_1).f2).length c102_2]] rfl (by (try simp only [List.map_toArray, List.map_cons, List.map_nil]); first | done | rfl | (simp only [List.length_drop, List.length_take]; rfl)) ?_; (with_reducible refine (ih k1 (by have := HK1.out; omega) ((rd_T72 l0_2 x9_1).f0) ((rd_T72 l0_2 x9_1).f1) _ _ ((rd_T72 l0_2 x9_1).f2) t104 _ ?side1 ?side2 A7.out).mono ?_); (case side1 => exact Kd.C_below HR102_2.out (by repeat (first | (with_reducible first | exact HB.out | apply below_alloc | apply pw_below_drewN | apply below_drew1 | refine below_set ?_ GE101.out | refine below_set ?_ GE103.out) | exact HB.out))); (case side2 => exact HC102_2.out); rintro e w11 ⟨rfl, hb⟩; refine ⟨_, rfl, ?_⟩; have n0_ := Aside0.mk (blk_below (g := gb101) (o := .cells #[.int .i64 a0_0, .int .i64 a0_1, .slice (some ad102) l0_2.length c0_2] 72 (0, 0)) (by (with_reducible repeat (first | refine blk_drewN ?_ _ | refine blk_drew ?_ | refine blk_alloc ?_ _)); refine blk_far ?_ NB101_103.out _; (with_reducible repeat (first | refine blk_drewN ?_ _ | refine blk_drew ?_ | refine blk_alloc ?_ _)); refine blk_far ?_ NB101_103.out _; (with_reducible repeat (first | refine blk_drewN ?_ _ | refine blk_drew ?_ | refine blk_alloc ?_ _)); refine blk_far ?_ NB101_103.out _; (with_reducible repeat (first | refine blk_drewN ?_ _ | refine blk_drew ?_ | refine blk_alloc ?_ _)); exact BK101.out) hb); have n1_ := Aside0.mk (blk_below (g := gb103) (o := .cells #[.int .i64 ((rd_T72 l0_2 x9_1).f0), .int .i64 ((rd_T72 l0_2 x9_1).f1), .slice A102_2 ((rd_T72 l0_2 x9_1).f2).length c102_2] 72 (0, 0)) (by (with_reducible repeat (first | refine blk_drewN ?_ _ | refine blk_drew ?_ | refine blk_alloc ?_ _)); refine blk_put (cs := #[.int .i64 ((rd_T72 l0_2 x9_1).f0), .int .i64 ((rd_T72 l0_2 x9_1).f1), .slice none 0 0]) ?_ 2 _ rfl; (with_reducible repeat (first | refine blk_drewN ?_ _ | refine blk_drew ?_ | refine blk_alloc ?_ _)); refine blk_put (cs := #[.int .i64 ((rd_T72 l0_2 x9_1).f0), .int .i64 0, .slice none 0 0]) ?_ 1 _ rfl; (with_reducible repeat (first | refine blk_drewN ?_ _ | refine blk_drew ?_ | refine blk_alloc ?_ _)); refine blk_put (cs := #[.int .i64 0, .int .i64 0, .slice none 0 0]) ?_ 0 _ rfl; (with_reducible repeat (first | refine blk_drewN ?_ _ | refine blk_drew ?_ | refine blk_alloc ?_ _)); exact BK103.out) hb); have n2_ := Aside0.mk (below_step (by repeat (first | (with_reducible first | exact HB.out | apply below_alloc | apply pw_below_drewN | apply below_drew1 | refine below_set ?_ GE101.out | refine below_set ?_ GE103.out) | exact HB.out)) hb); clear BK101; clear BK103; clear HB; have BK101 := n0_; have BK103 := n1_; have HB := n2_; clear n0_ n1_ n2_; (try clear hb); (try clear hb2); (try clear hk); (try clear hi)))
            go_roundg k1
            case measure => have := HK1.out; omega
            case rel => exact ⟨(wrap64 (x3_1 + t104)), (wrap64 (x9_1 + 1)), (by first | rfl | (simp; done) | (simp [*]; done)), (by first | rfl | (simp; done) | (simp [*]; done)), H', ⟨by have := HK1.out; omega⟩, ⟨by (with_reducible repeat (first | refine blk_drewN ?_ _ | refine blk_drew ?_ | refine blk_alloc ?_ _)); exact BK101.out⟩, ⟨by repeat (first | (with_reducible first | exact HB.out | apply below_alloc | apply pw_below_drewN | apply below_drew1 | refine below_set ?_ GE101.out | refine below_set ?_ GE103.out) | exact HB.out)⟩⟩
          · rw [if_neg c6] at H
            exact absurd H (by simp)
        · rw [if_neg c5] at H
          exact absurd H (by simp)
      · rw [if_neg c4] at H
        have c4b0 : decide (x9_1 < (l0_2.length : Int)) = false := decide_eq_false c4
        clear c4
        obtain rfl := Option.some.inj H
        go_wp2
        go_ret
        exact ⟨by first | rfl | (simp [errW_none, errW_some] <;> rfl) | (simp [*, errW_none, errW_some] <;> rfl), by repeat (first | (with_reducible first | exact HB.out | apply below_alloc | apply pw_below_drewN | apply below_drew1 | refine below_set ?_ GE101.out) | exact HB.out)⟩

end Go.Proofs.YtcjhhdecckcibaaDoor.G

namespace Go.Proofs.YtcjhhdecckcibaaDoor.G
open Go.RowKit Go.Proofs.YtcjhhdecckcibaaDoorW.PrintWords Go.Proofs.YtcjhhdecckcibaaDoorW.PrintLast Go.Proofs.YtcjhhdecckcibaaDoorW.PrintMore
attribute [local go_sem] max2_int min2_int max_two min_two max_three min_three max_four min_four   -- for this text's walks alone
set_option linter.unusedVariables false
set_option linter.unusedSimpArgs false

mutual
def impl_term_depth.l0 : Nat → Int → List (S72) → Int → Int → Option (Int)
  | 0, _, _, _, _ => none
  | k + 1, x3, x7, x8, x9 => if x9 < x8 then (if 0 ≤ x9 then (if x9 < (x7.length : Int) then ((impl_term_depth.f k ((rd_T72 x7 x9).f0) ((rd_T72 x7 x9).f1) ((rd_T72 x7 x9).f2)).bind fun t104 => (impl_term_depth.l0 k (mx x3 t104) x7 x8 (wrap64 (x9 + 1)))) else (none)) else (none)) else (some (wrap64 (x3 + 1)))
def impl_term_depth.f : Nat → Int → Int → List (S72) → Option (Int)
  | 0, _, _, _ => none
  | k + 1, a0_0, a0_1, l0_2 => impl_term_depth.l0 k 0 l0_2 (l0_2.length : Int) 0
end
set_option maxHeartbeats 8000000 in
set_option maxRecDepth 100000 in
theorem impl_term_depth.calls (k : Nat) : ∀ (a0_0 : Int) (a0_1 : Int) (A0_2 : Option Addr) (c0_2 : Nat) (l0_2 : List (S72)) (r : Int) (w : World) (hr0_2 : Kd.C k72 w A0_2 l0_2.length l0_2) (hc0_2 : l0_2.length ≤ c0_2) (h : impl_term_depth.f k a0_0 a0_1 l0_2 = some r),
    Calls Tryd.prog 77 #[.agg #[.int .i64 a0_0, .int .i64 a0_1, .slice A0_2 l0_2.length c0_2]] w fun e w' => e = .returned (.int .i64 r) ∧ Below w.heap.size w w' := by
  induction k using Nat.strongRecOn with
  | _ k ih =>
  intro a0_0 a0_1 A0_2 c0_2 l0_2 r w hr0_2 hc0_2 h
  cases k with
  | zero => exact absurd h (by simp [impl_term_depth.f])
  | succ k =>
  simp only [impl_term_depth.f] at h
  have hu72 := Tryd.underlying72
  have HR0_2 := Aside0.mk hr0_2
  have HC0_2 := Aside0.mk hc0_2
  clear hr0_2 hc0_2
  have HB := Aside0.mk (Below.refl w.heap.size w)
  have H : (impl_term_depth.l0 k 0 l0_2 (l0_2.length : Int) 0) = some r := h
  clear h
  have H' := Aside0.mk H
  clear H
  go_enter Tryd.func77, Tryd.ntmps77
  go_wp2_with (first | ((with_reducible refine gate_dst (N := 1) rfl ?_); refine box_event ?hg (N := 1) ?hd (cs := #[.int .i64 a0_0, .int .i64 a0_1, .slice A0_2 l0_2.length c0_2]) (t := 72) ?hr ?_; (case hd => rfl); (case hg => rfl); (case hr => first | (go_simp; done) | (go_simp; rfl)); intro gb101 hg w2 hbox hb; have n0_ := Aside0.mk (below_step (by repeat (first | (with_reducible first | exact HB.out | apply below_alloc | apply pw_below_drewN | apply below_drew1) | exact HB.out)) hb); have n1_ := Aside0.mk (hbox); have n2_ := Aside0.mk ((by rw [hg]; exact (below_size (by repeat (first | (with_reducible first | exact HB.out | apply below_alloc | apply pw_below_drewN | apply below_drew1) | exact HB.out))) : w.heap.size ≤ gb101)); have n3_ := Aside0.mk ((by rw [hg]; exact (below_size (by repeat (first | (with_reducible first | exact HB.out | apply below_alloc | apply pw_below_drewN | apply below_drew1) | exact HB.out))) : w.heap.size ≤ gb101)); clear HB; have HB := n0_; have BK101 := n1_; have GW101 := n2_; have GE101 := n3_; clear n0_ n1_ n2_ n3_; clear hb hbox hg; have hcz3_0 : w2.cell? ⟨gb101, 0, none⟩ = some (.int .i64 a0_0) := (blk_cell BK101.out 0).trans rfl; have hcz3_1 : w2.cell? ⟨gb101, 1, none⟩ = some (.int .i64 a0_1) := (blk_cell BK101.out 1).trans rfl; have hcz3_2 : w2.cell? ⟨gb101, 2, none⟩ = some (.slice A0_2 l0_2.length c0_2) := (blk_cell BK101.out 2).trans rfl; have hfz3_0 := blk_frozen BK101.out 0; have hfz3_1 := blk_frozen BK101.out 1; have hfz3_2 := blk_frozen BK101.out 2))
  go_loopg [3, 9] k (fun kq v3 v9 w' => ∃ (x3_1 : Int) (x9_1 : Int), v3 = .int .i64 x3_1 ∧ v9 = .int .i64 x9_1 ∧ Aside0 (impl_term_depth.l0 kq x3_1 l0_2 (l0_2.length : Int) x9_1 = some r) ∧ Aside0 (kq ≤ k) ∧ Aside0 (w'.heap[gb101]? = some (.cells #[.int .i64 a0_0, .int .i64 a0_1, (.slice A0_2 l0_2.length c0_2)] 72 (0, 0))) ∧ Aside0 (Below w.heap.size w w'))
  case atStart => exact ⟨(0), (0), (by first | rfl | (simp; done) | (simp [*]; done)), (by first | rfl | (simp; done) | (simp [*]; done)), H', ⟨Nat.le_refl _⟩, ⟨by (with_reducible repeat (first | refine blk_drewN ?_ _ | refine blk_drew ?_ | refine blk_alloc ?_ _)); exact BK101.out⟩, ⟨by repeat (first | (with_reducible first | exact HB.out | apply below_alloc | apply pw_below_drewN | apply below_drew1 | refine below_set ?_ GE101.out) | exact HB.out)⟩⟩
  case round =>
    clear H'
    try clear p2
    try clear hcz3_0
    try clear hcz3_1
    try clear hcz3_2
    try clear hfz3_0
    try clear hfz3_1
    try clear hfz3_2
    obtain ⟨x3_1, x9_1, rfl, rfl, HA, HK1, BK101, HB⟩ := hrel
    cases gk with
    | zero => exact absurd HA.out (by simp [impl_term_depth.l0])
    | succ k1 =>
      have H := HA.out
      clear HA
      simp only [impl_term_depth.l0] at H
      by_cases c4 : x9_1 < (l0_2.length : Int)
      · rw [if_pos c4] at H
        have c4b0 : decide (x9_1 < (l0_2.length : Int)) = true := decide_eq_true c4
        clear c4
        by_cases c5 : 0 ≤ x9_1
        · rw [if_pos c5] at H
          have c5b0 : decide (0 ≤ x9_1) = true := decide_eq_true c5
          clear c5
          by_cases c6 : x9_1 < (l0_2.length : Int)
          · rw [if_pos c6] at H
            have c6b0 : decide (x9_1 < (l0_2.length : Int)) = true := decide_eq_true c6
            clear c6
            replace H := Option.bind_eq_some_iff.mp H
            obtain ⟨t104, A70, H⟩ := H
            replace H : (impl_term_depth.l0 k1 (mx x3_1 t104) l0_2 (l0_2.length : Int) (wrap64 (x9_1 + 1))) = some r := H
            have A7 := Aside0.mk A70
            clear A70
            obtain ⟨ji8, hji8⟩ : ∃ j_ : Int, (mx x3_1 t104) = j_ := ⟨_, rfl⟩
            replace H : (impl_term_depth.l0 k1 ji8 l0_2 (l0_2.length : Int) (wrap64 (x9_1 + 1))) = some r := by first | (rw [hji8] at H; exact H) | (simp only [hji8] at H ⊢; exact H)
            (try rw [hji8] at A7)
            have hji8_ : (if x3_1 < t104 then t104 else x3_1) = ji8 := hji8
            have H' := Aside0.mk H
            clear H
            have p102 : 0 ≤ (x9_1 : Int) := of_decide_eq_true (by first | (with_reducible assumption) | assumption)
            have q102 : x9_1 < (l0_2.length : Int) := of_decide_eq_true (by first | (with_reducible assumption) | assumption)
            obtain ⟨ad102, A102_2, c102_2, e102, hx102_0, hx102_1, hx102_2, hl102_2, hi102_2⟩ := at_T72 HR0_2.out x9_1 p102 q102
            cases e102
            replace hx102_0 := (HB.out.cell (World.block_lt_of_cell? w _ hx102_0)).trans hx102_0
            replace hx102_1 := (HB.out.cell (World.block_lt_of_cell? w _ hx102_1)).trans hx102_1
            replace hx102_2 := (HB.out.cell (World.block_lt_of_cell? w _ hx102_2)).trans hx102_2
            have HR102_2 := Aside0.mk hi102_2
            have HC102_2 := Aside0.mk hl102_2
            clear hi102_2 hl102_2
            replace p102 := eq_true p102
            replace q102 := eq_true q102
            go_wp2_with (first | ((with_reducible refine gate_dst (N := 5) rfl ?_); refine box_event ?hg (N := 5) ?hd (cs := #[.int .i64 0, .int .i64 0, .slice none 0 0]) (t := 72) ?hr ?_; (case hd => rfl); (case hg => rfl); (case hr => first | (go_simp; done) | (go_simp; rfl)); intro gb103 hg w9 hbox hb; have n0_ := Aside0.mk (blk_below (g := gb101) (o := .cells #[.int .i64 a0_0, .int .i64 a0_1, .slice (some ad102) l0_2.length c0_2] 72 (0, 0)) (by (with_reducible repeat (first | refine blk_drewN ?_ _ | refine blk_drew ?_ | refine blk_alloc ?_ _)); exact BK101.out) hb); have n1_ := Aside0.mk (below_step (by repeat (first | (with_reducible first | exact HB.out | apply below_alloc | apply pw_below_drewN | apply below_drew1 | refine below_set ?_ GE101.out) | exact HB.out)) hb); have n2_ := Aside0.mk (hbox); have n3_ := Aside0.mk ((by rw [hg]; exact (below_size (by repeat (first | (with_reducible first | exact HB.out | apply below_alloc | apply pw_below_drewN | apply below_drew1 | refine below_set ?_ GE101.out) | exact HB.out))) : w.heap.size ≤ gb103)); have n4_ := Aside0.mk ((by rw [hg]; exact (below_size (by repeat (first | (with_reducible first | exact HB.out | apply below_alloc | apply pw_below_drewN | apply below_drew1 | refine below_set ?_ GE101.out) | exact HB.out))) : w.heap.size ≤ gb103)); have n5_ := Aside0.mk ((by rw [hg]; exact Nat.ne_of_lt (blk_lt (g := gb101) (o := .cells #[.int .i64 a0_0, .int .i64 a0_1, .slice (some ad102) l0_2.length c0_2] 72 (0, 0)) (by (with_reducible repeat (first | refine blk_drewN ?_ _ | refine blk_drew ?_ | refine blk_alloc ?_ _)); exact BK101.out)) : gb101 ≠ gb103)); have n6_ := Aside0.mk ((by rw [hg]; exact Nat.ne_of_gt (blk_lt (g := gb101) (o := .cells #[.int .i64 a0_0, .int .i64 a0_1, .slice (some ad102) l0_2.length c0_2] 72 (0, 0)) (by (with_reducible repeat (first | refine blk_drewN ?_ _ | refine blk_drew ?_ | refine blk_alloc ?_ _)); exact BK101.out)) : gb103 ≠ gb101)); clear BK101; clear HB; have BK101 := n0_; have HB := n1_; have BK103 := n2_; have GW103 := n3_; have GE103 := n4_; have NB101_103 := n5_; have NB103_101 := n6_; clear n0_ n1_ n2_ n3_ n4_ n5_ n6_; clear hb hbox hg; have hnb10 := NB103_101.out; have hnc10 := NB101_103.out; have hcz11_0 : w9.cell? ⟨gb103, 0, none⟩ = some (.int .i64 0) := (blk_cell BK103.out 0).trans rfl; have hcz11_1 : w9.cell? ⟨gb103, 1, none⟩ = some (.int .i64 0) := (blk_cell BK103.out 1).trans rfl; have hcz11_2 : w9.cell? ⟨gb103, 2, none⟩ = some (.slice none 0 0) := (blk_cell BK103.out 2).trans rfl; have hfz11_0 := blk_frozen BK103.out 0; have hfz11_1 := blk_frozen BK103.out 1; have hfz11_2 := blk_frozen BK103.out 2) | ((with_reducible refine gate_callee (f := 77) rfl ?_); refine goesL_ (some 15) rfl rfl Tryd.func77 (by kernel_rfl) rfl #[.agg #[.int .i64 ((rd_T72 l0_2 x9_1).f0), .int .i64 ((rd_T72 l0_2 x9_1).f1), .slice A102_2 ((rd_T72 l0_2 x9_1).f2).length c102_2]] rfl (by (try simp only [List.map_toArray, List.map_cons, List.map_nil]); first | done | rfl | (simp only [List.length_drop, List.length_take]; rfl)) ?_; (with_reducible refine (ih k1 (by have := HK1.out; omega) ((rd_T72 l0_2 x9_1).f0) ((rd_T72 l0_2 x9_1).f1) _ _ ((rd_T72 l0_2 x9_1).f2) t104 _ ?side1 ?side2 A7.out).mono ?_); (case side1 => exact Kd.C_below HR102_2.out (by repeat (first | (with_reducible first | exact HB.out | apply below_alloc | apply pw_below_drewN | apply below_drew1 | refine below_set ?_ GE101.out | refine below_set ?_ GE103.out) | exact HB.out))); (case side2 => exact HC102_2.out); rintro e w12 ⟨rfl, hb⟩; refine ⟨_, rfl, ?_⟩; have n0_ := Aside0.mk (blk_below (g := gb101) (o := .cells #[.int .i64 a0_0, .int .i64 a0_1, .slice (some ad102) l0_2.length c0_2] 72 (0, 0)) (by (with_reducible repeat (first | refine blk_drewN ?_ _ | refine blk_drew ?_ | refine blk_alloc ?_ _)); refine blk_far ?_ NB101_103.out _; (with_reducible repeat (first | refine blk_drewN ?_ _ | refine blk_drew ?_ | refine blk_alloc ?_ _)); refine blk_far ?_ NB101_103.out _; (with_reducible repeat (first | refine blk_drewN ?_ _ | refine blk_drew ?_ | refine blk_alloc ?_ _)); refine blk_far ?_ NB101_103.out _; (with_reducible repeat (first | refine blk_drewN ?_ _ | refine blk_drew ?_ | refine blk_alloc ?_ _)); exact BK101.out) hb); have n1_ := Aside0.mk (blk_below (g := gb103) (o := .cells #[.int .i64 ((rd_T72 l0_2 x9_1).f0), .int .i64 ((rd_T72 l0_2 x9_1).f1), .slice A102_2 ((rd_T72 l0_2 x9_1).f2).length c102_2] 72 (0, 0)) (by (with_reducible repeat (first | refine blk_drewN ?_ _ | refine blk_drew ?_ | refine blk_alloc ?_ _)); refine blk_put (cs := #[.int .i64 ((rd_T72 l0_2 x9_1).f0), .int .i64 ((rd_T72 l0_2 x9_1).f1), .slice none 0 0]) ?_ 2 _ rfl; (with_reducible repeat (first | refine blk_drewN ?_ _ | refine blk_drew ?_ | refine blk_alloc ?_ _)); refine blk_put (cs := #[.int .i64 ((rd_T72 l0_2 x9_1).f0), .int .i64 0, .slice none 0 0]) ?_ 1 _ rfl; (with_reducible repeat (first | refine blk_drewN ?_ _ | refine blk_drew ?_ | refine blk_alloc ?_ _)); refine blk_put (cs := #[.int .i64 0, .int .i64 0, .slice none 0 0]) ?_ 0 _ rfl; (with_reducible repeat (first | refine blk_drewN ?_ _ | refine blk_drew ?_ | refine blk_alloc ?_ _)); exact BK103.out) hb); have n2_ := Aside0.mk (below_step (by repeat (first | (with_reducible first | exact HB.out | apply below_alloc | apply pw_below_drewN | apply below_drew1 | refine below_set ?_ GE101.out | refine below_set ?_ GE103.out) | exact HB.out)) hb); clear BK101; clear BK103; clear HB; have BK101 := n0_; have BK103 := n1_; have HB := n2_; clear n0_ n1_ n2_; (try clear hb); (try clear hb2); (try clear hk); (try clear hi)))
            go_roundg k1
            case measure => have := HK1.out; omega
            case rel => exact ⟨(ji8), (wrap64 (x9_1 + 1)), (by first | rfl | (simp; done) | (simp only [← hji8] <;> (first | rfl | simp)) | (simp [*]; done)), (by first | rfl | (simp; done) | (simp [*]; done)), H', ⟨by have := HK1.out; omega⟩, ⟨by (with_reducible repeat (first | refine blk_drewN ?_ _ | refine blk_drew ?_ | refine blk_alloc ?_ _)); exact BK101.out⟩, ⟨by repeat (first | (with_reducible first | exact HB.out | apply below_alloc | apply pw_below_drewN | apply below_drew1 | refine below_set ?_ GE101.out | refine below_set ?_ GE103.out) | exact HB.out)⟩⟩
          · rw [if_neg c6] at H
            exact absurd H (by simp)
        · rw [if_neg c5] at H
          exact absurd H (by simp)
      · rw [if_neg c4] at H
        have c4b0 : decide (x9_1 < (l0_2.length : Int)) = false := decide_eq_false c4
        clear c4
        obtain rfl := Option.some.inj H
        go_wp2
        go_ret
        exact ⟨by first | rfl | (simp [errW_none, errW_some] <;> rfl) | (simp [*, errW_none, errW_some] <;> rfl), by repeat (first | (with_reducible first | exact HB.out | apply below_alloc | apply pw_below_drewN | apply below_drew1 | refine below_set ?_ GE101.out) | exact HB.out)⟩

end Go.Proofs.YtcjhhdecckcibaaDoor.G

namespace Go.Proofs.YtcjhhdecckcibaaDoor.G
open Go.RowKit Go.Proofs.YtcjhhdecckcibaaDoorW.PrintWords Go.Proofs.YtcjhhdecckcibaaDoorW.PrintLast Go.Proofs.YtcjhhdecckcibaaDoorW.PrintMore
attribute [local go_sem] max2_int min2_int max_two min_two max_three min_three max_four min_four   -- for this text's walks alone
set_option linter.unusedVariables false
set_option linter.unusedSimpArgs false

namespace Are72
def Tells (g : Nat) (lb : Array Value) (p : S72 → Bool) (l : List S72) (w : World) : Prop :=
  ∀ (W : World) (x : S72) (A : Option Addr) (c : Nat), x ∈ l → Below w.heap.size w W → Kd.C k72 W A x.f2.length x.f2 → x.f2.length ≤ c → Calls Tryd.prog g (#[.agg #[.int .i64 x.f0, .int .i64 x.f1, .slice A x.f2.length c]] ++ lb) W fun e w' => e = .returned (.bool (p x)) ∧ Below W.heap.size W w'

theorem rd_mem (l : List S72) (i : Int) (h0 : 0 ≤ i) (h1 : i < l.length) : rd_T72 l i ∈ l := by
  have hlt : i.toNat < l.length := by omega
  have e : rd_T72 l i = l[i.toNat] := by unfold rd_T72; rw [List.getD_eq_getElem?_getD, List.getElem?_eq_getElem hlt]; rfl
  rw [e]; exact List.getElem_mem hlt
theorem any_take_succ (p : S72 → Bool) (l : List S72) (i : Int) (h0 : 0 ≤ i) (h1 : i < l.length) (h : (l.take i.toNat).any p = false) (hx : p (rd_T72 l i) = false) : (l.take (i + 1).toNat).any p = false := by
  have hlt : i.toNat < l.length := by omega
  rw [show (i + 1).toNat = i.toNat + 1 by omega, List.take_succ_eq_append_getElem hlt, List.any_append, h]
  have e : rd_T72 l i = l[i.toNat] := by unfold rd_T72; rw [List.getD_eq_getElem?_getD, List.getElem?_eq_getElem hlt]; rfl
  rw [← e]; simp [hx]
theorem any_at (p : S72 → Bool) (l : List S72) (i : Int) (h0 : 0 ≤ i) (h1 : i < l.length) (hx : p (rd_T72 l i) = true) : l.any p = true := by
  rw [List.any_eq_true]
  exact ⟨_, rd_mem l i h0 h1, hx⟩

set_option maxHeartbeats 1000000 in
set_option maxRecDepth 100000 in
theorem index_some (g : Nat) (lb : Array Value) (p : S72 → Bool) (A0 : Option Addr) (c0 : Nat) (l0 : List S72) (w : World) (hr0 : Kd.C k72 w A0 l0.length l0)
    (eg : ∀ (args : Array Value) (w : World), (callFunc g args).run Tryd.prog w = .ok (.enter g args) w) (hp : Tells g lb p l0 w) :
    Calls Tryd.prog 96 #[.slice A0 l0.length c0, .func (.func g) #[] lb] w fun e w' => (∃ r : Int, e = .returned (.int .i64 r) ∧ decide (0 ≤ r) = l0.any p) ∧ Below w.heap.size w w' := by
  have hu68 := Tryd.underlying72
  have HR0 := Aside0.mk hr0
  have HL := Aside0.mk hr0.2.1
  clear hr0
  have HP := Aside0.mk hp
  clear hp
  have HB := Aside0.mk (Below.refl w.heap.size w)
  go_enter Tryd.func96, Tryd.ntmps96
  go_wp2
  go_loopg [8] (l0.length + 1) (fun kq v8 w' => ∃ (i : Int), v8 = .int .i64 i ∧ Aside0 (0 ≤ i ∧ i ≤ l0.length ∧ (kq : Int) = l0.length - i + 1 ∧ (l0.take i.toNat).any p = false) ∧ Aside0 (Below w.heap.size w w'))
  case atStart => exact ⟨0, rfl, ⟨by omega, by omega, by omega, by simp⟩, HB⟩
  case round =>
    clear HB
    obtain ⟨i, rfl, HA, HB1⟩ := hrel
    by_cases c : i < (l0.length : Int)
    · have cb : decide (i < (l0.length : Int)) = true := decide_eq_true c
      have cz : decide (0 ≤ i) = true := decide_eq_true HA.out.1
      obtain ⟨ad, A2, c2, e1, hx0, hx1, hx2, hl2, hi2⟩ := at_T72 (Kd.C_below HR0.out HB1.out) i HA.out.1 c
      cases e1
      have HC2 := Aside0.mk hl2
      have HR2 := Aside0.mk hi2
      clear hl2 hi2
      have p1 := eq_true HA.out.1
      have q1 := eq_true c
      have w1 : wrap64 (i + 1) = i + 1 := by have := HA.out.1; have := HA.out.2.1; have := HL.out; unfold wrap64; omega
      have W1 := Aside0.mk w1
      have Cc := Aside0.mk c
      clear c w1
      go_wp2_with fail
      refine (HP.out _ (rd_T72 l0 i) A2 c2 (rd_mem l0 i HA.out.1 Cc.out) HB1.out HR2.out HC2.out).mono ?_
      rintro e w' ⟨rfl, hb⟩
      have HB2 := Aside0.mk (below_step HB1.out hb)
      clear hb
      by_cases hpx : p (rd_T72 l0 i) = true
      · have HX := Aside0.mk hpx
        go_wp2
        go_ret
        exact ⟨⟨i, rfl, by rw [any_at p l0 i HA.out.1 Cc.out HX.out]; exact decide_eq_true HA.out.1⟩, HB2.out⟩
      · replace hpx := Bool.eq_false_iff.mpr hpx
        have HX := Aside0.mk hpx
        obtain ⟨k1, rfl⟩ : ∃ m, gk = m + 1 := ⟨gk - 1, by have := HA.out; omega⟩
        go_wp2
        go_roundg k1
        case measure => omega
        case rel => exact ⟨i + 1, by first | rfl | rw [W1.out], ⟨by have := HA.out; omega, by have := HA.out; have := Cc.out; omega, by have := HA.out; omega, any_take_succ p l0 i HA.out.1 Cc.out HA.out.2.2.2 HX.out⟩, HB2⟩
    · have cb : decide (i < (l0.length : Int)) = false := decide_eq_false c
      have Cc := Aside0.mk c
      clear c
      go_wp2
      go_ret
      refine ⟨⟨-1, rfl, ?_⟩, HB1.out⟩
      have h := HA.out.2.2.2
      rw [List.take_of_length_le (by have := HA.out; have := Cc.out; omega)] at h
      rw [h]; rfl

set_option maxHeartbeats 1000000 in
set_option maxRecDepth 100000 in
theorem contains_some (g : Nat) (lb : Array Value) (p : S72 → Bool) (A0 : Option Addr) (c0 : Nat) (l0 : List S72) (w : World) (hr0 : Kd.C k72 w A0 l0.length l0)
    (eg : ∀ (args : Array Value) (w : World), (callFunc g args).run Tryd.prog w = .ok (.enter g args) w) (hp : Tells g lb p l0 w) :
    Calls Tryd.prog 84 #[.slice A0 l0.length c0, .func (.func g) #[] lb] w fun e w' => e = .returned (.bool (l0.any p)) ∧ Below w.heap.size w w' := by
  go_enter Tryd.func84, Tryd.ntmps84
  go_wp2_with fail
  refine (index_some g lb p A0 c0 l0 _ hr0 eg hp).mono ?_
  rintro e w' ⟨⟨r, rfl, hr⟩, hb⟩
  have HR := Aside0.mk hr
  clear hr
  go_wp2
  go_ret
  exact ⟨by rw [← HR.out]; rfl, hb⟩

def nodeOk (k n : Int) : Bool := decide (0 ≤ n) && decide (n ≤ 99) && (decide (k = 1) || decide (n = 0))
mutual
def okT : S72 → Bool
  | ⟨k, n, l⟩ => nodeOk k n && okL l
def okL : List S72 → Bool
  | [] => true
  | x :: l => okT x && okL l
end
theorem okL_all (l : List S72) : okL l = l.all okT := by
  induction l with
  | nil => rw [okL]; rfl
  | cons x l ih => rw [okL, ih]; rfl
theorem any_not (l : List S72) : (l.any fun x => !okT x) = !okL l := by
  rw [okL_all]
  induction l with
  | nil => rfl
  | cons x l ih => simp only [List.any_cons, List.all_cons, ih, Bool.not_and]
theorem okT_eq (x : S72) : okT x = (nodeOk x.f0 x.f1 && okL x.f2) := by cases x; rw [okT]

set_option maxHeartbeats 1000000 in
set_option maxRecDepth 100000 in
theorem lit_some (x : S72) (A : Option Addr) (c : Nat) (W : World) (hr : Kd.C k72 W A x.f2.length x.f2) (hc : x.f2.length ≤ c)
    (ih : ∀ (w : World), Kd.C k72 w A x.f2.length x.f2 → Calls Tryd.prog 78 #[.agg #[.int .i64 x.f0, .int .i64 x.f1, .slice A x.f2.length c]] w fun e w' => e = .returned (.bool (okT x)) ∧ Below w.heap.size w w') :
    Calls Tryd.prog 85 #[.agg #[.int .i64 x.f0, .int .i64 x.f1, .slice A x.f2.length c]] W fun e w' => e = .returned (.bool (!okT x)) ∧ Below W.heap.size W w' := by
  have hu68 := Tryd.underlying72
  have HR0 := Aside0.mk hr
  clear hr
  have HI := Aside0.mk ih
  clear ih
  have HB := Aside0.mk (Below.refl W.heap.size W)
  go_enter Tryd.func85, Tryd.ntmps85
  go_wp2_with (first | ((with_reducible refine gate_dst (N := 1) rfl ?_); refine box_event ?hg (N := 1) ?hd (cs := #[.int .i64 x.f0, .int .i64 x.f1, .slice A x.f2.length c]) (t := 72) ?hr ?_; (case hd => rfl); (case hg => rfl); (case hr => first | (go_simp; done) | (go_simp; rfl)); intro gb hg w5 hbox hb; have n0_ := Aside0.mk (below_step HB.out hb); have n1_ := Aside0.mk (hbox); clear HB; have HB := n0_; have BK := n1_; clear n0_ n1_; clear hb hbox hg; have hcz_0 : w5.cell? ⟨gb, 0, none⟩ = some (.int .i64 x.f0) := (blk_cell BK.out 0).trans rfl; have hcz_1 : w5.cell? ⟨gb, 1, none⟩ = some (.int .i64 x.f1) := (blk_cell BK.out 1).trans rfl; have hcz_2 : w5.cell? ⟨gb, 2, none⟩ = some (.slice A x.f2.length c) := (blk_cell BK.out 2).trans rfl; have hfz_0 := blk_frozen BK.out 0; have hfz_1 := blk_frozen BK.out 1; have hfz_2 := blk_frozen BK.out 2) | ((with_reducible refine gate_callee (f := 78) rfl ?_); refine goesL_ (some 4) rfl rfl Tryd.func78 (by kernel_rfl) rfl #[.agg #[.int .i64 x.f0, .int .i64 x.f1, .slice A x.f2.length c]] rfl (by (try simp only [List.map_toArray, List.map_cons, List.map_nil]); first | done | rfl) ?_; refine (HI.out _ (Kd.C_below HR0.out HB.out)).mono ?_; rintro e w7 ⟨rfl, hb⟩; refine ⟨_, rfl, ?_⟩; have n1_ := Aside0.mk (below_step HB.out hb); clear BK HB; have HB := n1_; clear n1_; clear hb))
  go_ret
  exact ⟨rfl, by repeat (first | (with_reducible first | exact HB.out | apply below_alloc | apply pw_below_drewN | apply below_drew1) | exact HB.out)⟩

set_option maxHeartbeats 2000000 in
set_option maxRecDepth 100000 in
theorem node_bad (a0 a1 : Int) (A : Option Addr) (c : Nat) (l : List S72) (w : World) (h : nodeOk a0 a1 = false) :
    Calls Tryd.prog 78 #[.agg #[.int .i64 a0, .int .i64 a1, .slice A l.length c]] w fun e w' => e = .returned (.bool false) ∧ Below w.heap.size w w' := by
  have hu68 := Tryd.underlying72
  have HB := Aside0.mk (Below.refl w.heap.size w)
  unfold nodeOk at h
  by_cases c1 : a1 < 0
  · have cb1 : decide (a1 < 0) = true := decide_eq_true c1
    clear h c1
    go_enter Tryd.func78, Tryd.ntmps78
    go_wp2_with ((with_reducible refine gate_dst (N := 1) rfl ?_); refine box_event ?hg (N := 1) ?hd (cs := #[.int .i64 a0, .int .i64 a1, .slice A l.length c]) (t := 72) ?hr ?_; (case hd => rfl); (case hg => rfl); (case hr => first | (go_simp; done) | (go_simp; rfl)); intro gb hg w5 hbox hb; have n0_ := Aside0.mk (below_step HB.out hb); have n1_ := Aside0.mk (hbox); clear HB; have HB := n0_; have BK := n1_; clear n0_ n1_; clear hb hbox hg; have hcz_0 : w5.cell? ⟨gb, 0, none⟩ = some (.int .i64 a0) := (blk_cell BK.out 0).trans rfl; have hcz_1 : w5.cell? ⟨gb, 1, none⟩ = some (.int .i64 a1) := (blk_cell BK.out 1).trans rfl; have hcz_2 : w5.cell? ⟨gb, 2, none⟩ = some (.slice A l.length c) := (blk_cell BK.out 2).trans rfl; have hfz_0 := blk_frozen BK.out 0; have hfz_1 := blk_frozen BK.out 1; have hfz_2 := blk_frozen BK.out 2)
    go_ret
    exact ⟨rfl, HB.out⟩
  · have cb1 : decide (a1 < 0) = false := decide_eq_false c1
    by_cases c2 : a1 > 99
    · have cb2 : decide (a1 > 99) = true := decide_eq_true c2
      clear h c1 c2
      go_enter Tryd.func78, Tryd.ntmps78
      go_wp2_with ((with_reducible refine gate_dst (N := 1) rfl ?_); refine box_event ?hg (N := 1) ?hd (cs := #[.int .i64 a0, .int .i64 a1, .slice A l.length c]) (t := 72) ?hr ?_; (case hd => rfl); (case hg => rfl); (case hr => first | (go_simp; done) | (go_simp; rfl)); intro gb hg w5 hbox hb; have n0_ := Aside0.mk (below_step HB.out hb); have n1_ := Aside0.mk (hbox); clear HB; have HB := n0_; have BK := n1_; clear n0_ n1_; clear hb hbox hg; have hcz_0 : w5.cell? ⟨gb, 0, none⟩ = some (.int .i64 a0) := (blk_cell BK.out 0).trans rfl; have hcz_1 : w5.cell? ⟨gb, 1, none⟩ = some (.int .i64 a1) := (blk_cell BK.out 1).trans rfl; have hcz_2 : w5.cell? ⟨gb, 2, none⟩ = some (.slice A l.length c) := (blk_cell BK.out 2).trans rfl; have hfz_0 := blk_frozen BK.out 0; have hfz_1 := blk_frozen BK.out 1; have hfz_2 := blk_frozen BK.out 2)
      go_ret
      exact ⟨rfl, HB.out⟩
    · have cb2 : decide (a1 > 99) = false := decide_eq_false c2
      have h3 : a0 ≠ 1 ∧ a1 ≠ 0 := by
        rw [decide_eq_true (show 0 ≤ a1 by omega), decide_eq_true (show a1 ≤ 99 by omega)] at h
        simp at h
        exact h
      obtain ⟨h3, h4⟩ := h3
      replace h3 : (a0 != 1) = true := bne_iff_ne.mpr h3
      replace h4 : (a1 != 0) = true := bne_iff_ne.mpr h4
      clear h c1 c2
      go_enter Tryd.func78, Tryd.ntmps78
      go_wp2_with ((with_reducible refine gate_dst (N := 1) rfl ?_); refine box_event ?hg (N := 1) ?hd (cs := #[.int .i64 a0, .int .i64 a1, .slice A l.length c]) (t := 72) ?hr ?_; (case hd => rfl); (case hg => rfl); (case hr => first | (go_simp; done) | (go_simp; rfl)); intro gb hg w5 hbox hb; have n0_ := Aside0.mk (below_step HB.out hb); have n1_ := Aside0.mk (hbox); clear HB; have HB := n0_; have BK := n1_; clear n0_ n1_; clear hb hbox hg; have hcz_0 : w5.cell? ⟨gb, 0, none⟩ = some (.int .i64 a0) := (blk_cell BK.out 0).trans rfl; have hcz_1 : w5.cell? ⟨gb, 1, none⟩ = some (.int .i64 a1) := (blk_cell BK.out 1).trans rfl; have hcz_2 : w5.cell? ⟨gb, 2, none⟩ = some (.slice A l.length c) := (blk_cell BK.out 2).trans rfl; have hfz_0 := blk_frozen BK.out 0; have hfz_1 := blk_frozen BK.out 1; have hfz_2 := blk_frozen BK.out 2)
      go_ret
      exact ⟨rfl, HB.out⟩
set_option maxHeartbeats 2000000 in
set_option maxRecDepth 100000 in
theorem node_good (a0 a1 : Int) (A : Option Addr) (c : Nat) (l : List S72) (w : World) (hr : Kd.C k72 w A l.length l) (hc : l.length ≤ c) (h : nodeOk a0 a1 = true)
    (ih : ∀ x ∈ l, ∀ (A : Option Addr) (c : Nat) (w : World), x.f2.length ≤ c → Kd.C k72 w A x.f2.length x.f2 → Calls Tryd.prog 78 #[.agg #[.int .i64 x.f0, .int .i64 x.f1, .slice A x.f2.length c]] w fun e w' => e = .returned (.bool (okT x)) ∧ Below w.heap.size w w') :
    Calls Tryd.prog 78 #[.agg #[.int .i64 a0, .int .i64 a1, .slice A l.length c]] w fun e w' => e = .returned (.bool (okL l)) ∧ Below w.heap.size w w' := by
  have hu68 := Tryd.underlying72
  have HR0 := Aside0.mk hr
  clear hr
  have eg := enters_ Tryd.func85 (by kernel_rfl) rfl
  have EG := Aside0.mk eg
  clear eg
  have HT : ∀ W, Below w.heap.size w W → Tells 85 #[] (fun x => !okT x) l W := by
    intro W hW W2 x A2 c2 hx hb hC hl
    have := lit_some x A2 c2 W2 hC hl (fun w3 h3 => ih x hx A2 c2 w3 hl h3)
    simpa using this
  have HI := Aside0.mk HT
  clear HT ih
  have HB := Aside0.mk (Below.refl w.heap.size w)
  have h1 : 0 ≤ a1 ∧ a1 ≤ 99 ∧ (a0 = 1 ∨ a1 = 0) := by
    unfold nodeOk at h
    simp at h
    omega
  clear h
  have cb1 : decide (a1 < 0) = false := decide_eq_false (by omega)
  have cb2 : decide (a1 > 99) = false := decide_eq_false (by omega)
  have key : (a0 = 1) ∨ (a0 ≠ 1 ∧ a1 = 0) := by omega
  clear h1
  rcases key with rfl | ⟨h3, rfl⟩
  · go_enter Tryd.func78, Tryd.ntmps78
    go_wp2_with (first | ((with_reducible refine gate_dst (N := 1) rfl ?_); refine box_event ?hg (N := 1) ?hd (cs := #[.int .i64 1, .int .i64 a1, .slice A l.length c]) (t := 72) ?hr ?_; (case hd => rfl); (case hg => rfl); (case hr => first | (go_simp; done) | (go_simp; rfl)); intro gb hg w5 hbox hb; have n0_ := Aside0.mk (below_step HB.out hb); have n1_ := Aside0.mk (hbox); clear HB; have HB := n0_; have BK := n1_; clear n0_ n1_; clear hb hbox hg; have hcz_0 : w5.cell? ⟨gb, 0, none⟩ = some (.int .i64 1) := (blk_cell BK.out 0).trans rfl; have hcz_1 : w5.cell? ⟨gb, 1, none⟩ = some (.int .i64 a1) := (blk_cell BK.out 1).trans rfl; have hcz_2 : w5.cell? ⟨gb, 2, none⟩ = some (.slice A l.length c) := (blk_cell BK.out 2).trans rfl; have hfz_0 := blk_frozen BK.out 0; have hfz_1 := blk_frozen BK.out 1; have hfz_2 := blk_frozen BK.out 2) | ((with_reducible refine gate_callee (f := 84) rfl ?_); refine goesL_ (some 23) rfl rfl Tryd.func84 (by kernel_rfl) rfl #[.slice A l.length c, .func (.func 85) #[] #[]] rfl (by (try simp only [List.map_toArray, List.map_cons, List.map_nil]); first | done | rfl) ?_; refine (contains_some 85 #[] (fun x => !okT x) A c l _ (Kd.C_below HR0.out HB.out) EG.out (HI.out _ HB.out)).mono ?_; rintro e w7 ⟨rfl, hb⟩; refine ⟨_, rfl, ?_⟩; have n1_ := Aside0.mk (below_step HB.out hb); clear BK HB; have HB := n1_; clear n1_; clear hb))
    go_ret
    exact ⟨by rw [any_not, Bool.not_not]; rfl, HB.out⟩
  · clear cb1 cb2
    replace h3 : (a0 != 1) = true := bne_iff_ne.mpr h3
    go_enter Tryd.func78, Tryd.ntmps78
    go_wp2_with (first | ((with_reducible refine gate_dst (N := 1) rfl ?_); refine box_event ?hg (N := 1) ?hd (cs := #[.int .i64 a0, .int .i64 0, .slice A l.length c]) (t := 72) ?hr ?_; (case hd => rfl); (case hg => rfl); (case hr => first | (go_simp; done) | (go_simp; rfl)); intro gb hg w5 hbox hb; have n0_ := Aside0.mk (below_step HB.out hb); have n1_ := Aside0.mk (hbox); clear HB; have HB := n0_; have BK := n1_; clear n0_ n1_; clear hb hbox hg; have hcz_0 : w5.cell? ⟨gb, 0, none⟩ = some (.int .i64 a0) := (blk_cell BK.out 0).trans rfl; have hcz_1 : w5.cell? ⟨gb, 1, none⟩ = some (.int .i64 0) := (blk_cell BK.out 1).trans rfl; have hcz_2 : w5.cell? ⟨gb, 2, none⟩ = some (.slice A l.length c) := (blk_cell BK.out 2).trans rfl; have hfz_0 := blk_frozen BK.out 0; have hfz_1 := blk_frozen BK.out 1; have hfz_2 := blk_frozen BK.out 2) | ((with_reducible refine gate_callee (f := 84) rfl ?_); refine goesL_ (some 23) rfl rfl Tryd.func84 (by kernel_rfl) rfl #[.slice A l.length c, .func (.func 85) #[] #[]] rfl (by (try simp only [List.map_toArray, List.map_cons, List.map_nil]); first | done | rfl) ?_; refine (contains_some 85 #[] (fun x => !okT x) A c l _ (Kd.C_below HR0.out HB.out) EG.out (HI.out _ HB.out)).mono ?_; rintro e w7 ⟨rfl, hb⟩; refine ⟨_, rfl, ?_⟩; have n1_ := Aside0.mk (below_step HB.out hb); clear BK HB; have HB := n1_; clear n1_; clear hb))
    go_ret
    exact ⟨by rw [any_not, Bool.not_not]; rfl, HB.out⟩

theorem all_some : ∀ (N : Nat) (a0 a1 : Int) (l : List S72) (A : Option Addr) (c : Nat) (w : World), SizeOf.sizeOf l ≤ N → l.length ≤ c → Kd.C k72 w A l.length l →
    Calls Tryd.prog 78 #[.agg #[.int .i64 a0, .int .i64 a1, .slice A l.length c]] w fun e w' => e = .returned (.bool (nodeOk a0 a1 && okL l)) ∧ Below w.heap.size w w' := by
  intro N
  induction N with
  | zero =>
    intro a0 a1 l A c w hN
    cases l with
    | nil => simp at hN
    | cons x l => simp at hN
  | succ N ih =>
    intro a0 a1 l A c w hN hl hC
    by_cases h : nodeOk a0 a1 = true
    · rw [h, Bool.true_and]
      refine node_good a0 a1 A c l w hC hl h fun x hx A2 c2 w2 hl2 hC2 => ?_
      rw [okT_eq]
      refine ih x.f0 x.f1 x.f2 A2 c2 w2 ?_ hl2 hC2
      have h1 := List.sizeOf_lt_of_mem hx
      have h2 : SizeOf.sizeOf x.f2 < SizeOf.sizeOf x := by cases x; simp; omega
      omega
    · replace h := Bool.eq_false_iff.mpr h
      rw [h, Bool.false_and]
      exact node_bad a0 a1 A c l w h
end Are72

def impl_term_areNumbers.f (k : Nat) (a0_0 : Int) (a0_1 : Int) (l0_2 : List (S72)) : Option (Bool) := some (Are72.nodeOk a0_0 a0_1 && Are72.okL l0_2)
theorem impl_term_areNumbers.calls (k : Nat) (a0_0 : Int) (a0_1 : Int) (A0_2 : Option Addr) (c0_2 : Nat) (l0_2 : List (S72)) (r : Bool) (w : World) (hr0_2 : Kd.C k72 w A0_2 l0_2.length l0_2) (hc0_2 : l0_2.length ≤ c0_2) (h : impl_term_areNumbers.f k a0_0 a0_1 l0_2 = some r) :
    Calls Tryd.prog 78 #[.agg #[.int .i64 a0_0, .int .i64 a0_1, .slice A0_2 l0_2.length c0_2]] w fun e w' => e = .returned (.bool r) ∧ Below w.heap.size w w' := by
  obtain rfl := Option.some.inj h
  exact Are72.all_some (SizeOf.sizeOf l0_2) a0_0 a0_1 l0_2 A0_2 c0_2 w (Nat.le_refl _) hc0_2 hr0_2
end Go.Proofs.YtcjhhdecckcibaaDoor.G

namespace Go.Proofs.YtcjhhdecckcibaaDoor.G
open Go.RowKit Go.Proofs.YtcjhhdecckcibaaDoorW.PrintWords Go.Proofs.YtcjhhdecckcibaaDoorW.PrintLast Go.Proofs.YtcjhhdecckcibaaDoorW.PrintMore
attribute [local go_sem] max2_int min2_int max_two min_two max_three min_three max_four min_four   -- for this text's walks alone
set_option linter.unusedVariables false
set_option linter.unusedSimpArgs false

def impl_term_isGood.f (k : Nat) (a0_0 : Int) (a0_1 : Int) (l0_2 : List (S72)) : Option (Bool) := (impl_term_size.f k a0_0 a0_1 l0_2).bind fun t102 => (if t102 ≤ 150 then ((impl_term_depth.f k a0_0 a0_1 l0_2).bind fun t103 => (if t103 ≤ 40 then ((impl_term_areNumbers.f k a0_0 a0_1 l0_2).bind fun t104 => (some t104)) else (some false))) else (some false))
set_option maxHeartbeats 8000000 in
set_option maxRecDepth 100000 in
theorem impl_term_isGood.calls (k : Nat) (a0_0 : Int) (a0_1 : Int) (A0_2 : Option Addr) (c0_2 : Nat) (l0_2 : List (S72)) (r : Bool) (w : World) (hr0_2 : Kd.C k72 w A0_2 l0_2.length l0_2) (hc0_2 : l0_2.length ≤ c0_2) (h : impl_term_isGood.f k a0_0 a0_1 l0_2 = some r) :
    Calls Tryd.prog 55 #[.agg #[.int .i64 a0_0, .int .i64 a0_1, .slice A0_2 l0_2.length c0_2]] w fun e w' => e = .returned (.bool r) ∧ Below w.heap.size w w' := by
  have hu72 := Tryd.underlying72
  have HR0_2 := Aside0.mk hr0_2
  have HC0_2 := Aside0.mk hc0_2
  clear hr0_2 hc0_2
  have HB := Aside0.mk (Below.refl w.heap.size w)
  have H : ((impl_term_size.f k a0_0 a0_1 l0_2).bind fun t102 => (if t102 ≤ 150 then ((impl_term_depth.f k a0_0 a0_1 l0_2).bind fun t103 => (if t103 ≤ 40 then ((impl_term_areNumbers.f k a0_0 a0_1 l0_2).bind fun t104 => (some t104)) else (some false))) else (some false))) = some r := h
  clear h
  replace H := Option.bind_eq_some_iff.mp H
  obtain ⟨t102, A20, H⟩ := H
  replace H : (if t102 ≤ 150 then ((impl_term_depth.f k a0_0 a0_1 l0_2).bind fun t103 => (if t103 ≤ 40 then ((impl_term_areNumbers.f k a0_0 a0_1 l0_2).bind fun t104 => (some t104)) else (some false))) else (some false)) = some r := H
  have A2 := Aside0.mk A20
  clear A20
  by_cases c3 : t102 ≤ 150
  · rw [if_pos c3] at H
    have c3b0 : decide (t102 ≤ 150) = true := decide_eq_true c3
    clear c3
    replace H := Option.bind_eq_some_iff.mp H
    obtain ⟨t103, A40, H⟩ := H
    replace H : (if t103 ≤ 40 then ((impl_term_areNumbers.f k a0_0 a0_1 l0_2).bind fun t104 => (some t104)) else (some false)) = some r := H
    have A4 := Aside0.mk A40
    clear A40
    by_cases c5 : t103 ≤ 40
    · rw [if_pos c5] at H
      have c5b0 : decide (t103 ≤ 40) = true := decide_eq_true c5
      clear c5
      replace H := Option.bind_eq_some_iff.mp H
      obtain ⟨t104, A60, H⟩ := H
      replace H : (some t104) = some r := H
      have A6 := Aside0.mk A60
      clear A60
      obtain rfl := Option.some.inj H
      go_enter Tryd.func55, Tryd.ntmps55
      go_wp2_with (first | ((with_reducible refine gate_dst (N := 1) rfl ?_); refine box_event ?hg (N := 1) ?hd (cs := #[.int .i64 a0_0, .int .i64 a0_1, .slice A0_2 l0_2.length c0_2]) (t := 72) ?hr ?_; (case hd => rfl); (case hg => rfl); (case hr => first | (go_simp; done) | (go_simp; rfl)); intro gb101 hg w7 hbox hb; have n0_ := Aside0.mk (below_step (by repeat (first | (with_reducible first | exact HB.out | apply below_alloc | apply pw_below_drewN | apply below_drew1) | exact HB.out)) hb); have n1_ := Aside0.mk (hbox); have n2_ := Aside0.mk ((by rw [hg]; exact (below_size (by repeat (first | (with_reducible first | exact HB.out | apply below_alloc | apply pw_below_drewN | apply below_drew1) | exact HB.out))) : w.heap.size ≤ gb101)); have n3_ := Aside0.mk ((by rw [hg]; exact (below_size (by repeat (first | (with_reducible first | exact HB.out | apply below_alloc | apply pw_below_drewN | apply below_drew1) | exact HB.out))) : w.heap.size ≤ gb101)); clear HB; have HB := n0_; have BK101 := n1_; have GW101 := n2_; have GE101 := n3_; clear n0_ n1_ n2_ n3_; clear hb hbox hg; have hcz8_0 : w7.cell? ⟨gb101, 0, none⟩ = some (.int .i64 a0_0) := (blk_cell BK101.out 0).trans rfl; have hcz8_1 : w7.cell? ⟨gb101, 1, none⟩ = some (.int .i64 a0_1) := (blk_cell BK101.out 1).trans rfl; have hcz8_2 : w7.cell? ⟨gb101, 2, none⟩ = some (.slice A0_2 l0_2.length c0_2) := (blk_cell BK101.out 2).trans rfl; have hfz8_0 := blk_frozen BK101.out 0; have hfz8_1 := blk_frozen BK101.out 1; have hfz8_2 := blk_frozen BK101.out 2) | ((with_reducible refine gate_callee (f := 76) rfl ?_); refine goesL_ (some 4) rfl rfl Tryd.func76 (by kernel_rfl) rfl #[.agg #[.int .i64 a0_0, .int .i64 a0_1, .slice A0_2 l0_2.length c0_2]] rfl (by (try simp only [List.map_toArray, List.map_cons, List.map_nil]); first | done | rfl | (simp only [List.length_drop, List.length_take]; rfl)) ?_; (with_reducible refine (impl_term_size.calls k a0_0 a0_1 _ _ l0_2 t102 _ ?side1 ?side2 A2.out).mono ?_); (case side1 => repeat (first | exact (Kd.C_below HR0_2.out HB.out) | (with_reducible refine Kd.C_alloc ?_ _) | (with_reducible refine Kd.C_drewN ?_ _) | (with_reducible refine Kd.C_drew ?_))); (case side2 => exact HC0_2.out); rintro e w9 ⟨rfl, hb⟩; refine ⟨_, rfl, ?_⟩; have n0_ := Aside0.mk (blk_below (g := gb101) (o := .cells #[.int .i64 a0_0, .int .i64 a0_1, .slice A0_2 l0_2.length c0_2] 72 (0, 0)) (by (with_reducible repeat (first | refine blk_drewN ?_ _ | refine blk_drew ?_ | refine blk_alloc ?_ _)); exact BK101.out) hb); have n1_ := Aside0.mk (below_step (by repeat (first | (with_reducible first | exact HB.out | apply below_alloc | apply pw_below_drewN | apply below_drew1 | refine below_set ?_ GE101.out) | exact HB.out)) hb); clear BK101; clear HB; have BK101 := n0_; have HB := n1_; clear n0_ n1_; (try clear hb); (try clear hb2); (try clear hk); (try clear hi); have hcz10_0 : w9.cell? ⟨gb101, 0, none⟩ = some (.int .i64 a0_0) := (blk_cell BK101.out 0).trans rfl; have hcz10_1 : w9.cell? ⟨gb101, 1, none⟩ = some (.int .i64 a0_1) := (blk_cell BK101.out 1).trans rfl; have hcz10_2 : w9.cell? ⟨gb101, 2, none⟩ = some (.slice A0_2 l0_2.length c0_2) := (blk_cell BK101.out 2).trans rfl; have hfz10_0 := blk_frozen BK101.out 0; have hfz10_1 := blk_frozen BK101.out 1; have hfz10_2 := blk_frozen BK101.out 2) | (go_at_call 77; (with_reducible refine (impl_term_depth.calls k a0_0 a0_1 _ _ l0_2 t103 _ ?side1 ?side2 A4.out).mono ?_); (case side1 => repeat (first | exact (Kd.C_below HR0_2.out HB.out) | (with_reducible refine Kd.C_alloc ?_ _) | (with_reducible refine Kd.C_drewN ?_ _) | (with_reducible refine Kd.C_drew ?_))); (case side2 => exact HC0_2.out); rintro e w11 ⟨rfl, hb⟩; have n0_ := Aside0.mk (blk_below (g := gb101) (o := .cells #[.int .i64 a0_0, .int .i64 a0_1, .slice A0_2 l0_2.length c0_2] 72 (0, 0)) (by (with_reducible repeat (first | refine blk_drewN ?_ _ | refine blk_drew ?_ | refine blk_alloc ?_ _)); exact BK101.out) hb); have n1_ := Aside0.mk (below_step (by repeat (first | (with_reducible first | exact HB.out | apply below_alloc | apply pw_below_drewN | apply below_drew1 | refine below_set ?_ GE101.out) | exact HB.out)) hb); clear BK101; clear HB; have BK101 := n0_; have HB := n1_; clear n0_ n1_; (try clear hb); (try clear hb2); (try clear hk); (try clear hi); have hcz12_0 : w11.cell? ⟨gb101, 0, none⟩ = some (.int .i64 a0_0) := (blk_cell BK101.out 0).trans rfl; have hcz12_1 : w11.cell? ⟨gb101, 1, none⟩ = some (.int .i64 a0_1) := (blk_cell BK101.out 1).trans rfl; have hcz12_2 : w11.cell? ⟨gb101, 2, none⟩ = some (.slice A0_2 l0_2.length c0_2) := (blk_cell BK101.out 2).trans rfl; have hfz12_0 := blk_frozen BK101.out 0; have hfz12_1 := blk_frozen BK101.out 1; have hfz12_2 := blk_frozen BK101.out 2) | (go_at_call 78; (with_reducible refine (impl_term_areNumbers.calls k a0_0 a0_1 _ _ l0_2 t104 _ ?side1 ?side2 A6.out).mono ?_); (case side1 => repeat (first | exact (Kd.C_below HR0_2.out HB.out) | (with_reducible refine Kd.C_alloc ?_ _) | (with_reducible refine Kd.C_drewN ?_ _) | (with_reducible refine Kd.C_drew ?_))); (case side2 => exact HC0_2.out); rintro e w13 ⟨rfl, hb⟩; have n0_ := Aside0.mk (blk_below (g := gb101) (o := .cells #[.int .i64 a0_0, .int .i64 a0_1, .slice A0_2 l0_2.length c0_2] 72 (0, 0)) (by (with_reducible repeat (first | refine blk_drewN ?_ _ | refine blk_drew ?_ | refine blk_alloc ?_ _)); exact BK101.out) hb); have n1_ := Aside0.mk (below_step (by repeat (first | (with_reducible first | exact HB.out | apply below_alloc | apply pw_below_drewN | apply below_drew1 | refine below_set ?_ GE101.out) | exact HB.out)) hb); clear BK101; clear HB; have BK101 := n0_; have HB := n1_; clear n0_ n1_; (try clear hb); (try clear hb2); (try clear hk); (try clear hi)))
      go_ret
      exact ⟨by first | rfl | (simp [errW_none, errW_some] <;> rfl) | (simp [*, errW_none, errW_some] <;> rfl), by repeat (first | (with_reducible first | exact HB.out | apply below_alloc | apply pw_below_drewN | apply below_drew1 | refine below_set ?_ GE101.out) | exact HB.out)⟩
    · rw [if_neg c5] at H
      have c5b0 : decide (t103 ≤ 40) = false := decide_eq_false c5
      clear c5
      obtain rfl := Option.some.inj H
      go_enter Tryd.func55, Tryd.ntmps55
      go_wp2_with (first | ((with_reducible refine gate_dst (N := 1) rfl ?_); refine box_event ?hg (N := 1) ?hd (cs := #[.int .i64 a0_0, .int .i64 a0_1, .slice A0_2 l0_2.length c0_2]) (t := 72) ?hr ?_; (case hd => rfl); (case hg => rfl); (case hr => first | (go_simp; done) | (go_simp; rfl)); intro gb101 hg w14 hbox hb; have n0_ := Aside0.mk (below_step (by repeat (first | (with_reducible first | exact HB.out | apply below_alloc | apply pw_below_drewN | apply below_drew1) | exact HB.out)) hb); have n1_ := Aside0.mk (hbox); have n2_ := Aside0.mk ((by rw [hg]; exact (below_size (by repeat (first | (with_reducible first | exact HB.out | apply below_alloc | apply pw_below_drewN | apply below_drew1) | exact HB.out))) : w.heap.size ≤ gb101)); have n3_ := Aside0.mk ((by rw [hg]; exact (below_size (by repeat (first | (with_reducible first | exact HB.out | apply below_alloc | apply pw_below_drewN | apply below_drew1) | exact HB.out))) : w.heap.size ≤ gb101)); clear HB; have HB := n0_; have BK101 := n1_; have GW101 := n2_; have GE101 := n3_; clear n0_ n1_ n2_ n3_; clear hb hbox hg; have hcz15_0 : w14.cell? ⟨gb101, 0, none⟩ = some (.int .i64 a0_0) := (blk_cell BK101.out 0).trans rfl; have hcz15_1 : w14.cell? ⟨gb101, 1, none⟩ = some (.int .i64 a0_1) := (blk_cell BK101.out 1).trans rfl; have hcz15_2 : w14.cell? ⟨gb101, 2, none⟩ = some (.slice A0_2 l0_2.length c0_2) := (blk_cell BK101.out 2).trans rfl; have hfz15_0 := blk_frozen BK101.out 0; have hfz15_1 := blk_frozen BK101.out 1; have hfz15_2 := blk_frozen BK101.out 2) | ((with_reducible refine gate_callee (f := 76) rfl ?_); refine goesL_ (some 4) rfl rfl Tryd.func76 (by kernel_rfl) rfl #[.agg #[.int .i64 a0_0, .int .i64 a0_1, .slice A0_2 l0_2.length c0_2]] rfl (by (try simp only [List.map_toArray, List.map_cons, List.map_nil]); first | done | rfl | (simp only [List.length_drop, List.length_take]; rfl)) ?_; (with_reducible refine (impl_term_size.calls k a0_0 a0_1 _ _ l0_2 t102 _ ?side1 ?side2 A2.out).mono ?_); (case side1 => repeat (first | exact (Kd.C_below HR0_2.out HB.out) | (with_reducible refine Kd.C_alloc ?_ _) | (with_reducible refine Kd.C_drewN ?_ _) | (with_reducible refine Kd.C_drew ?_))); (case side2 => exact HC0_2.out); rintro e w16 ⟨rfl, hb⟩; refine ⟨_, rfl, ?_⟩; have n0_ := Aside0.mk (blk_below (g := gb101) (o := .cells #[.int .i64 a0_0, .int .i64 a0_1, .slice A0_2 l0_2.length c0_2] 72 (0, 0)) (by (with_reducible repeat (first | refine blk_drewN ?_ _ | refine blk_drew ?_ | refine blk_alloc ?_ _)); exact BK101.out) hb); have n1_ := Aside0.mk (below_step (by repeat (first | (with_reducible first | exact HB.out | apply below_alloc | apply pw_below_drewN | apply below_drew1 | refine below_set ?_ GE101.out) | exact HB.out)) hb); clear BK101; clear HB; have BK101 := n0_; have HB := n1_; clear n0_ n1_; (try clear hb); (try clear hb2); (try clear hk); (try clear hi); have hcz17_0 : w16.cell? ⟨gb101, 0, none⟩ = some (.int .i64 a0_0) := (blk_cell BK101.out 0).trans rfl; have hcz17_1 : w16.cell? ⟨gb101, 1, none⟩ = some (.int .i64 a0_1) := (blk_cell BK101.out 1).trans rfl; have hcz17_2 : w16.cell? ⟨gb101, 2, none⟩ = some (.slice A0_2 l0_2.length c0_2) := (blk_cell BK101.out 2).trans rfl; have hfz17_0 := blk_frozen BK101.out 0; have hfz17_1 := blk_frozen BK101.out 1; have hfz17_2 := blk_frozen BK101.out 2) | (go_at_call 77; (with_reducible refine (impl_term_depth.calls k a0_0 a0_1 _ _ l0_2 t103 _ ?side1 ?side2 A4.out).mono ?_); (case side1 => repeat (first | exact (Kd.C_below HR0_2.out HB.out) | (with_reducible refine Kd.C_alloc ?_ _) | (with_reducible refine Kd.C_drewN ?_ _) | (with_reducible refine Kd.C_drew ?_))); (case side2 => exact HC0_2.out); rintro e w18 ⟨rfl, hb⟩; have n0_ := Aside0.mk (blk_below (g := gb101) (o := .cells #[.int .i64 a0_0, .int .i64 a0_1, .slice A0_2 l0_2.length c0_2] 72 (0, 0)) (by (with_reducible repeat (first | refine blk_drewN ?_ _ | refine blk_drew ?_ | refine blk_alloc ?_ _)); exact BK101.out) hb); have n1_ := Aside0.mk (below_step (by repeat (first | (with_reducible first | exact HB.out | apply below_alloc | apply pw_below_drewN | apply below_drew1 | refine below_set ?_ GE101.out) | exact HB.out)) hb); clear BK101; clear HB; have BK101 := n0_; have HB := n1_; clear n0_ n1_; (try clear hb); (try clear hb2); (try clear hk); (try clear hi)))
      go_ret
      exact ⟨by first | rfl | (simp [errW_none, errW_some] <;> rfl) | (simp [*, errW_none, errW_some] <;> rfl), by repeat (first | (with_reducible first | exact HB.out | apply below_alloc | apply pw_below_drewN | apply below_drew1 | refine below_set ?_ GE101.out) | exact HB.out)⟩
  · rw [if_neg c3] at H
    have c3b0 : decide (t102 ≤ 150) = false := decide_eq_false c3
    clear c3
    obtain rfl := Option.some.inj H
    go_enter Tryd.func55, Tryd.ntmps55
    go_wp2_with (first | ((with_reducible refine gate_dst (N := 1) rfl ?_); refine box_event ?hg (N := 1) ?hd (cs := #[.int .i64 a0_0, .int .i64 a0_1, .slice A0_2 l0_2.length c0_2]) (t := 72) ?hr ?_; (case hd => rfl); (case hg => rfl); (case hr => first | (go_simp; done) | (go_simp; rfl)); intro gb101 hg w19 hbox hb; have n0_ := Aside0.mk (below_step (by repeat (first | (with_reducible first | exact HB.out | apply below_alloc | apply pw_below_drewN | apply below_drew1) | exact HB.out)) hb); have n1_ := Aside0.mk (hbox); have n2_ := Aside0.mk ((by rw [hg]; exact (below_size (by repeat (first | (with_reducible first | exact HB.out | apply below_alloc | apply pw_below_drewN | apply below_drew1) | exact HB.out))) : w.heap.size ≤ gb101)); have n3_ := Aside0.mk ((by rw [hg]; exact (below_size (by repeat (first | (with_reducible first | exact HB.out | apply below_alloc | apply pw_below_drewN | apply below_drew1) | exact HB.out))) : w.heap.size ≤ gb101)); clear HB; have HB := n0_; have BK101 := n1_; have GW101 := n2_; have GE101 := n3_; clear n0_ n1_ n2_ n3_; clear hb hbox hg; have hcz20_0 : w19.cell? ⟨gb101, 0, none⟩ = some (.int .i64 a0_0) := (blk_cell BK101.out 0).trans rfl; have hcz20_1 : w19.cell? ⟨gb101, 1, none⟩ = some (.int .i64 a0_1) := (blk_cell BK101.out 1).trans rfl; have hcz20_2 : w19.cell? ⟨gb101, 2, none⟩ = some (.slice A0_2 l0_2.length c0_2) := (blk_cell BK101.out 2).trans rfl; have hfz20_0 := blk_frozen BK101.out 0; have hfz20_1 := blk_frozen BK101.out 1; have hfz20_2 := blk_frozen BK101.out 2) | ((with_reducible refine gate_callee (f := 76) rfl ?_); refine goesL_ (some 4) rfl rfl Tryd.func76 (by kernel_rfl) rfl #[.agg #[.int .i64 a0_0, .int .i64 a0_1, .slice A0_2 l0_2.length c0_2]] rfl (by (try simp only [List.map_toArray, List.map_cons, List.map_nil]); first | done | rfl | (simp only [List.length_drop, List.length_take]; rfl)) ?_; (with_reducible refine (impl_term_size.calls k a0_0 a0_1 _ _ l0_2 t102 _ ?side1 ?side2 A2.out).mono ?_); (case side1 => repeat (first | exact (Kd.C_below HR0_2.out HB.out) | (with_reducible refine Kd.C_alloc ?_ _) | (with_reducible refine Kd.C_drewN ?_ _) | (with_reducible refine Kd.C_drew ?_))); (case side2 => exact HC0_2.out); rintro e w21 ⟨rfl, hb⟩; refine ⟨_, rfl, ?_⟩; have n0_ := Aside0.mk (blk_below (g := gb101) (o := .cells #[.int .i64 a0_0, .int .i64 a0_1, .slice A0_2 l0_2.length c0_2] 72 (0, 0)) (by (with_reducible repeat (first | refine blk_drewN ?_ _ | refine blk_drew ?_ | refine blk_alloc ?_ _)); exact BK101.out) hb); have n1_ := Aside0.mk (below_step (by repeat (first | (with_reducible first | exact HB.out | apply below_alloc | apply pw_below_drewN | apply below_drew1 | refine below_set ?_ GE101.out) | exact HB.out)) hb); clear BK101; clear HB; have BK101 := n0_; have HB := n1_; clear n0_ n1_; (try clear hb); (try clear hb2); (try clear hk); (try clear hi)))
    go_ret
    exact ⟨by first | rfl | (simp [errW_none, errW_some] <;> rfl) | (simp [*, errW_none, errW_some] <;> rfl), by repeat (first | (with_reducible first | exact HB.out | apply below_alloc | apply pw_below_drewN | apply below_drew1 | refine below_set ?_ GE101.out) | exact HB.out)⟩

end Go.Proofs.YtcjhhdecckcibaaDoor.G

namespace Go.Proofs.YtcjhhdecckcibaaDoor.G
open Go.RowKit Go.Proofs.YtcjhhdecckcibaaDoorW.PrintWords Go.Proofs.YtcjhhdecckcibaaDoorW.PrintLast Go.Proofs.YtcjhhdecckcibaaDoorW.PrintMore
attribute [local go_sem] max2_int min2_int max_two min_two max_three min_three max_four min_four   -- for this text's walks alone
set_option linter.unusedVariables false
set_option linter.unusedSimpArgs false

namespace Nodes72
mutual
def flT : S72 → Int → List S67 → List S67
  | ⟨k, n, ks⟩, up, l => flL ks (l.length : Int) (l ++ [⟨k, n, up⟩])
def flL : List S72 → Int → List S67 → List S67
  | [], _, l => l
  | x :: xs, k, l => flL xs k (flT x k l)
end
mutual
def szT : S72 → Nat
  | ⟨_, _, ks⟩ => 1 + szL ks
def szL : List S72 → Nat
  | [] => 0
  | x :: xs => szT x + szL xs
end
theorem flT_eq (x : S72) (up : Int) (l : List S67) : flT x up l = flL x.f2 (l.length : Int) (l ++ [⟨x.f0, x.f1, up⟩]) := by cases x; rw [flT]
theorem szT_eq (x : S72) : szT x = 1 + szL x.f2 := by cases x; rw [szT]
theorem flL_cons (x : S72) (xs : List S72) (k : Int) (l : List S67) : flL (x :: xs) k l = flL xs k (flT x k l) := by rw [flL]
theorem flL_nil (k : Int) (l : List S67) : flL [] k l = l := by rw [flL]
theorem szL_cons (x : S72) (xs : List S72) : szL (x :: xs) = szT x + szL xs := by rw [szL]
theorem rd_drop (l : List S72) (i : Nat) (h : i < l.length) : l.drop i = rd_T72 l (i : Int) :: l.drop (i + 1) := by
  rw [List.drop_eq_getElem_cons h]
  congr 1
  unfold rd_T72
  rw [Int.toNat_natCast, List.getD_eq_getElem?_getD, List.getElem?_eq_getElem h]; rfl
theorem rd_mem (l : List S72) (i : Int) (h0 : 0 ≤ i) (h1 : i < l.length) : rd_T72 l i ∈ l := by
  have hlt : i.toNat < l.length := by omega
  have e : rd_T72 l i = l[i.toNat] := by unfold rd_T72; rw [List.getD_eq_getElem?_getD, List.getElem?_eq_getElem hlt]; rfl
  rw [e]; exact List.getElem_mem hlt
theorem len_of : ∀ (N : Nat), (∀ (x : S72) (up : Int) (l : List S67), SizeOf.sizeOf x ≤ N → (flT x up l).length = l.length + szT x) ∧ (∀ (xs : List S72) (k : Int) (l : List S67), SizeOf.sizeOf xs ≤ N → (flL xs k l).length = l.length + szL xs) := by
  intro N
  induction N with
  | zero =>
    refine ⟨fun x up l h => ?_, fun xs k l h => ?_⟩
    · cases x; simp at h
    · cases xs <;> simp at h
  | succ N ih =>
    refine ⟨fun x up l h => ?_, fun xs k l h => ?_⟩
    · cases x with
      | mk k n ks =>
        rw [flT, szT, ih.2 ks _ _ (by simp at h; omega), List.length_append]
        show l.length + 1 + szL ks = _; omega
    · cases xs with
      | nil => rw [flL, szL]; rfl
      | cons x xs =>
        have h1 : SizeOf.sizeOf x ≤ N := by simp at h; omega
        have h2 : SizeOf.sizeOf xs ≤ N := by simp at h; omega
        rw [flL, szL, ih.2 xs k _ h2, ih.1 x k l h1]; omega
theorem flT_len (x : S72) (up : Int) (l : List S67) : (flT x up l).length = l.length + szT x := (len_of _).1 x up l (Nat.le_refl _)

set_option maxHeartbeats 4000000 in
set_option maxRecDepth 100000 in
theorem node_some (w0 : World) (go gp : Nat) (hgo : w0.heap.size ≤ go) (hgp : w0.heap.size ≤ gp) (hne : gp ≠ go) (a0 a1 up : Int) (ks : List S72) (A : Option Addr) (c : Nat) (l : List S67) (A0 : Option Addr) (c0 : Nat) (w : World) (hC : Kd.C k72 w0 A ks.length ks) (hc : ks.length ≤ c) (hl : l.length + (1 + szL ks) ≤ 200000)
    (hO : Kd.R k67 67 w w0.heap.size (fun _ => True) (.slice A0 l.length c0) l) (hB : Below w0.heap.size w0 w) (hbo : w.heap[go]? = some (.cells #[.slice A0 l.length c0] 33 (0, 0))) (hbp : w.heap[gp]? = some (.cells #[.func (.func 82) #[] #[.pointer (some ⟨go, 0, none⟩), .pointer (some ⟨gp, 0, none⟩)]] 124 (0, 0)))
    (ih : ∀ (j : Nat) (A : Option Addr) (c : Nat) (acc : List S67) (v : Value) (w : World), j < ks.length → (rd_T72 ks (j : Int)).f2.length ≤ c → acc.length + szT (rd_T72 ks (j : Int)) ≤ 200000 → Kd.R k67 67 w w0.heap.size (fun _ => True) v acc → Below w0.heap.size w0 w → w.heap[go]? = some (.cells #[v] 33 (0, 0)) → w.heap[gp]? = some (.cells #[.func (.func 82) #[] #[.pointer (some ⟨go, 0, none⟩), .pointer (some ⟨gp, 0, none⟩)]] 124 (0, 0)) → Kd.C k72 w0 A (rd_T72 ks (j : Int)).f2.length (rd_T72 ks (j : Int)).f2 →
      Calls Tryd.prog 82 #[.agg #[.int .i64 (rd_T72 ks (j : Int)).f0, .int .i64 (rd_T72 ks (j : Int)).f1, .slice A (rd_T72 ks (j : Int)).f2.length c], .int .i64 (l.length : Int), .pointer (some ⟨go, 0, none⟩), .pointer (some ⟨gp, 0, none⟩)] w fun e w' => ∃ v2, e = .returned (.tuple #[]) ∧ w'.heap[go]? = some (.cells #[v2] 33 (0, 0)) ∧ w'.heap[gp]? = some (.cells #[.func (.func 82) #[] #[.pointer (some ⟨go, 0, none⟩), .pointer (some ⟨gp, 0, none⟩)]] 124 (0, 0)) ∧ Kd.R k67 67 w' w0.heap.size (fun _ => True) v2 (flT (rd_T72 ks (j : Int)) (l.length : Int) acc) ∧ Below w0.heap.size w0 w') :
    Calls Tryd.prog 82 #[.agg #[.int .i64 a0, .int .i64 a1, .slice A ks.length c], .int .i64 up, .pointer (some ⟨go, 0, none⟩), .pointer (some ⟨gp, 0, none⟩)] w fun e w' => ∃ v2, e = .returned (.tuple #[]) ∧ w'.heap[go]? = some (.cells #[v2] 33 (0, 0)) ∧ w'.heap[gp]? = some (.cells #[.func (.func 82) #[] #[.pointer (some ⟨go, 0, none⟩), .pointer (some ⟨gp, 0, none⟩)]] 124 (0, 0)) ∧ Kd.R k67 67 w' w0.heap.size (fun _ => True) v2 (flL ks (l.length : Int) (l ++ [⟨a0, a1, up⟩])) ∧ Below w0.heap.size w0 w' := by
  have hu58 := Tryd.underlying72
  have hu25 := Tryd.underlying33
  have eg := enters_ Tryd.func82 (by kernel_rfl) rfl
  have HM := Aside0.mk hC.2.1
  have HC0 := Aside0.mk hC
  have HL := Aside0.mk (show l.length ≤ 200000 by omega)
  have HZ := Aside0.mk hl
  have HO := Aside0.mk hO
  have HB := Aside0.mk hB
  have BO := Aside0.mk hbo
  have BP := Aside0.mk hbp
  have GO := Aside0.mk hgo
  have NGO := Aside0.mk hne
  have NGB : Aside0 (∀ {gb : Nat} {v : Value} {W : World}, W.heap[gb]? = some (.cells #[.int .i64 a0, .int .i64 a1, .slice A ks.length c] 72 (0, 0)) → W.heap[go]? = some (.cells #[v] 33 (0, 0)) → gb ≠ go) := ⟨fun h1 h2 e => by subst e; rw [h1] at h2; simp at h2⟩
  have IH := Aside0.mk ih
  clear hC hl hO hB ih hbo hbp hgo hgp hne
  go_enter Tryd.func82, Tryd.ntmps82
  go_wp2_with (first | ((with_reducible refine gate_dst (N := 4) rfl ?_); refine box_event ?hg (N := 4) ?hd (cs := #[.int .i64 a0, .int .i64 a1, .slice A ks.length c]) (t := 72) ?hr ?_; (case hd => rfl); (case hg => rfl); (case hr => first | (go_simp; done) | (go_simp; rfl)); intro gb hg w5 hbox hb; have m0_ := Aside0.mk (below_step HB.out hb); have m1_ := Aside0.mk (hbox); have m2_ := Aside0.mk (Kd.R_below HO.out hb); have m3_ := Aside0.mk (blk_below (g := go) (o := .cells #[.slice A0 l.length c0] 33 (0, 0)) BO.out hb); have m4_ := Aside0.mk (blk_below (g := gp) (o := .cells #[.func (.func 82) #[] #[.pointer (some ⟨go, 0, none⟩), .pointer (some ⟨gp, 0, none⟩)]] 124 (0, 0)) BP.out hb); clear BO BP HB HO; have HB := m0_; have BK := m1_; have HO := m2_; have BO := m3_; have BP := m4_; clear m0_ m1_ m2_ m3_ m4_; clear hb hbox hg; have hcz_0 : w5.cell? ⟨gb, 0, none⟩ = some (.int .i64 a0) := (blk_cell BK.out 0).trans rfl; have hcz_1 : w5.cell? ⟨gb, 1, none⟩ = some (.int .i64 a1) := (blk_cell BK.out 1).trans rfl; have hcz_2 : w5.cell? ⟨gb, 2, none⟩ = some (.slice A ks.length c) := (blk_cell BK.out 2).trans rfl; have hfz_0 := blk_frozen BK.out 0; have hfz_1 := blk_frozen BK.out 1; have hfz_2 := blk_frozen BK.out 2; have hczo_0 : w5.cell? ⟨go, 0, none⟩ = some (.slice A0 l.length c0) := (blk_cell BO.out 0).trans rfl; have hfzo_0 := blk_frozen BO.out 0) | ((with_reducible refine gate_builtin (b := .append) (xs := #[.tmp 11, .tmp 18]) rfl ?_); at_builtin; refine Kd.R_append k67 (w0 := w0) w0.heap.size rfl (.tmp 11) (.tmp 18) 33 67 (.agg #[(.int .i64 0), (.int .i64 0), (.int .i64 0)]) 24 rfl Tryd.underlying33 info67 rfl (by decide) (by omega) (.slice A0 l.length c0) l (⟨a0, a1, up⟩ : S67) [.int .i64 a0, .int .i64 a1, .int .i64 up] (fun _ => True) (fun _ => False) rfl (by first | (go_simp; done) | (go_simp; rfl)) ?aP (fun _ hk => hk.elim) ?aF ?aO ?aB ?aS ?aL ?_; (case aP => exact k67_mkM _ _ _ (⟨a0, a1, up⟩ : S67)); (case aB => exact HB.out); (case aF => exact (fun _ _ => trivial)); (case aO => exact HO.out); (case aS => exact (below_size HB.out)); (case aL => have := HL.out; omega); intro v1 w7 ho hb hg hat; obtain ⟨A3, c3, hv3⟩ := Kd.R_slice ho; obtain ⟨n3, hn3⟩ : ∃ n3, n3 = (l ++ [(⟨a0, a1, up⟩ : S67)]).length := ⟨_, rfl⟩; rw [← hn3] at hv3; subst hv3; clear hn3; have m0_ := Aside0.mk (hb); have m1_ := Aside0.mk ((hg.block gb (blk_lt BK.out) (Kd.R_ne HO.out BK.out (by decide))).trans BK.out); have m2_ := Aside0.mk ((hg.block go (blk_lt BO.out) (Kd.R_ne HO.out BO.out (by decide))).trans BO.out); have m3_ := Aside0.mk ((hg.block gp (blk_lt BP.out) (Kd.R_ne HO.out BP.out (by decide))).trans BP.out); have m4_ := Aside0.mk (ho); clear BO BP HB HO; have HB := m0_; have BK := m1_; have BO := m2_; have BP := m3_; have HO := m4_; clear m0_ m1_ m2_ m3_ m4_; clear ho hb hg hat; clear hcz_0 hfz_0 hcz_1 hfz_1 hcz_2 hfz_2 hczo_0 hfzo_0; have hcza_0 : w7.cell? ⟨gb, 0, none⟩ = some (.int .i64 a0) := (blk_cell BK.out 0).trans rfl; have hcza_1 : w7.cell? ⟨gb, 1, none⟩ = some (.int .i64 a1) := (blk_cell BK.out 1).trans rfl; have hcza_2 : w7.cell? ⟨gb, 2, none⟩ = some (.slice A ks.length c) := (blk_cell BK.out 2).trans rfl; have hfza_0 := blk_frozen BK.out 0; have hfza_1 := blk_frozen BK.out 1; have hfza_2 := blk_frozen BK.out 2; have hczp_0 : w7.cell? ⟨go, 0, none⟩ = some (.slice A0 l.length c0) := (blk_cell BO.out 0).trans rfl; have hfzp_0 := blk_frozen BO.out 0; have hnb_ := NGB.out BK.out BO.out; have hnc_ := NGO.out))
  have n0_ : Aside0 (Kd.R k67 67 (w7.setCell ⟨go, 0, none⟩ (.slice A3 n3 c3)) w0.heap.size (fun _ => True) (.slice A3 n3 c3) (l ++ [⟨a0, a1, up⟩])) := ⟨Kd.R_mono (Kd.R_far (p := ⟨go, 0, none⟩) (Kd.R_types HO.out BO.out (by decide)) (fun _ hk => hk.2) (.slice A3 n3 c3)) (fun _ hk => hk.1)⟩
  have n1_ : Aside0 (Below w0.heap.size w0 (w7.setCell ⟨go, 0, none⟩ (.slice A3 n3 c3))) := ⟨below_set HB.out GO.out⟩
  have n2_ : Aside0 ((w7.setCell ⟨go, 0, none⟩ (.slice A3 n3 c3)).heap[go]? = some (.cells #[.slice A3 n3 c3] 33 (0, 0))) := ⟨by refine blk_put (cs := #[.slice A0 l.length c0]) ?_ 0 _ rfl; exact BO.out⟩
  have n3_ : Aside0 ((w7.setCell ⟨go, 0, none⟩ (.slice A3 n3 c3)).heap[gp]? = some (.cells #[.func (.func 82) #[] #[.pointer (some ⟨go, 0, none⟩), .pointer (some ⟨gp, 0, none⟩)]] 124 (0, 0))) := ⟨by refine blk_far ?_ NGO.out _; exact BP.out⟩
  clear HO HB BO BP
  go_loopg [23] (ks.length + 1) (fun kq v23 w' => ∃ (i : Int) (acc : List S67) (v : Value), v23 = .int .i64 i ∧ Aside0 (Kd.R k67 67 w' w0.heap.size (fun _ => True) v acc) ∧ Aside0 (0 ≤ i ∧ i ≤ ks.length ∧ (kq : Int) = ks.length - i + 1) ∧ Aside0 (acc.length + szL (ks.drop i.toNat) ≤ 200000 ∧ flL (ks.drop i.toNat) (l.length : Int) acc = flL ks (l.length : Int) (l ++ [⟨a0, a1, up⟩])) ∧ Aside0 (Below w0.heap.size w0 w') ∧ Aside0 (w'.heap[go]? = some (.cells #[v] 33 (0, 0))) ∧ Aside0 (w'.heap[gp]? = some (.cells #[.func (.func 82) #[] #[.pointer (some ⟨go, 0, none⟩), .pointer (some ⟨gp, 0, none⟩)]] 124 (0, 0))))
  case atStart => exact ⟨0, l ++ [⟨a0, a1, up⟩], .slice A3 n3 c3, rfl, n0_, ⟨by omega, by omega, by omega⟩, ⟨by have := HZ.out; rw [List.length_append, show (0 : Int).toNat = 0 from rfl, List.drop_zero]; show l.length + 1 + _ ≤ _; omega, by rw [show (0 : Int).toNat = 0 from rfl, List.drop_zero]⟩, n1_, n2_, n3_⟩
  case round =>
    clear n0_ n1_ n2_ n3_ BK
    obtain ⟨i, acc, v, rfl, HO0, HA, HF, HB, BO, BP⟩ := hrel
    obtain ⟨A1, c1, rfl⟩ := Kd.R_slice HO0.out
    have HO := HO0
    clear HO0
    by_cases c2 : i < (ks.length : Int)
    · have cb : decide (i < (ks.length : Int)) = true := decide_eq_true c2
      have cz : decide (0 ≤ i) = true := decide_eq_true HA.out.1
      obtain ⟨j, rfl⟩ : ∃ j : Nat, i = (j : Int) := ⟨i.toNat, by have := HA.out.1; omega⟩
      obtain ⟨ad, A2, c2_, e1, hx0, hx1, hx2, hl2, hi2⟩ := at_T72 (HC0.out) (j : Int) HA.out.1 c2
      cases e1
      simp only [Int.toNat_natCast] at hx0 hx1 hx2
      have HC2 := Aside0.mk hl2
      have HR2 := Aside0.mk hi2
      clear hl2 hi2
      replace hx0 := (HB.out.cell (World.block_lt_of_cell? w0 _ hx0)).trans hx0
      replace hx1 := (HB.out.cell (World.block_lt_of_cell? w0 _ hx1)).trans hx1
      replace hx2 := (HB.out.cell (World.block_lt_of_cell? w0 _ hx2)).trans hx2
      have w1 : wrap64 ((j : Int) + 1) = (j : Int) + 1 := by have := HM.out; unfold wrap64; omega
      have W1 := Aside0.mk w1
      have PI := Aside0.mk (show j < ks.length by omega)
      have p1 := eq_true HA.out.1
      have q1 := eq_true c2
      clear c2 w1
      have e9 : flL (ks.drop j) (l.length : Int) acc = flL (ks.drop (j + 1)) (l.length : Int) (flT (rd_T72 ks (j : Int)) (l.length : Int) acc) := by rw [rd_drop ks j PI.out, flL_cons]
      have E9 := Aside0.mk e9
      have e8 : szL (ks.drop j) = szT (rd_T72 ks (j : Int)) + szL (ks.drop (j + 1)) := by rw [rd_drop ks j PI.out, szL_cons]
      have E8 := Aside0.mk e8
      have CL : Aside0 (acc.length + szT (rd_T72 ks (j : Int)) ≤ 200000) := ⟨by have h := HF.out.1; rw [show ((j : Int)).toNat = j by omega, e8] at h; omega⟩
      clear e9 e8
      obtain ⟨k1, rfl⟩ : ∃ m, gk = m + 1 := ⟨gk - 1, by have := HA.out; have := PI.out; omega⟩
      go_wp2_with ((with_reducible refine gate_dst (N := 8) rfl ?_); refine box_event ?hg (N := 8) ?hd (cs := #[.int .i64 0, .int .i64 0, .slice none 0 0]) (t := 72) ?hr ?_; (case hd => rfl); (case hg => rfl); (case hr => first | (go_simp; done) | (go_simp; rfl)); intro g2 hg w9 hbox hb; have hy0 := (hb.cell (World.block_lt_of_cell? _ _ hx0)).trans hx0; have hy1 := (hb.cell (World.block_lt_of_cell? _ _ hx1)).trans hx1; have hy2 := (hb.cell (World.block_lt_of_cell? _ _ hx2)).trans hx2; clear hx0 hx1 hx2; have hx0 := hy0; have hx1 := hy1; have hx2 := hy2; clear hy0 hy1 hy2; have m0_ := Aside0.mk (below_step HB.out hb); have m1_ := Aside0.mk (hbox); have m2_ := Aside0.mk (Kd.R_below HO.out hb); have m3_ := Aside0.mk (blk_below (g := go) (o := .cells #[.slice A1 acc.length c1] 33 (0, 0)) BO.out hb); have m4_ := Aside0.mk (blk_below (g := gp) (o := .cells #[.func (.func 82) #[] #[.pointer (some ⟨go, 0, none⟩), .pointer (some ⟨gp, 0, none⟩)]] 124 (0, 0)) BP.out hb); have m5_ := Aside0.mk ((by rw [hg]; exact below_size HB.out : w0.heap.size ≤ g2)); have m6_ := Aside0.mk ((by rw [hg]; exact Nat.ne_of_lt (blk_lt BO.out) : go ≠ g2)); have m7_ := Aside0.mk ((by rw [hg]; exact Nat.ne_of_lt (blk_lt BP.out) : gp ≠ g2)); clear BO BP HB HO; have HB := m0_; have BK2 := m1_; have HO := m2_; have BO := m3_; have BP := m4_; have GE2 := m5_; have N2O := m6_; have N2P := m7_; clear m0_ m1_ m2_ m3_ m4_ m5_ m6_ m7_; clear hb hbox hg; have hn1_ := N2O.out; have hn2_ := N2P.out; have hczb_0 : w9.cell? ⟨g2, 0, none⟩ = some (.int .i64 0) := (blk_cell BK2.out 0).trans rfl; have hczb_1 : w9.cell? ⟨g2, 1, none⟩ = some (.int .i64 0) := (blk_cell BK2.out 1).trans rfl; have hczb_2 : w9.cell? ⟨g2, 2, none⟩ = some (.slice none 0 0) := (blk_cell BK2.out 2).trans rfl; have hfzb_0 := blk_frozen BK2.out 0; have hfzb_1 := blk_frozen BK2.out 1; have hfzb_2 := blk_frozen BK2.out 2; have hczq_0 : w9.cell? ⟨go, 0, none⟩ = some (.slice A1 acc.length c1) := (blk_cell BO.out 0).trans rfl; have hfzq_0 := blk_frozen BO.out 0; have hczr_0 : w9.cell? ⟨gp, 0, none⟩ = some (.func (.func 82) #[] #[.pointer (some ⟨go, 0, none⟩), .pointer (some ⟨gp, 0, none⟩)]) := (blk_cell BP.out 0).trans rfl; have hfzr_0 := blk_frozen BP.out 0)
      refine (IH.out j A2 c2_ acc (.slice A1 acc.length c1) _ PI.out HC2.out (by have := CL.out; omega) (Kd.R_mono (Kd.R_far (p := ⟨g2, 2, none⟩) (Kd.R_far (p := ⟨g2, 1, none⟩) (Kd.R_far (p := ⟨g2, 0, none⟩) (Kd.R_types HO.out BK2.out (by decide)) (fun _ hk => hk.2) (.int .i64 (rd_T72 ks (j : Int)).f0)) (fun _ hk => hk.2) (.int .i64 (rd_T72 ks (j : Int)).f1)) (fun _ hk => hk.2) (.slice A2 (rd_T72 ks (j : Int)).f2.length c2_)) (fun _ hk => hk.1)) (below_set (below_set (below_set HB.out GE2.out) GE2.out) GE2.out) (by refine blk_far ?_ N2O.out _; refine blk_far ?_ N2O.out _; refine blk_far ?_ N2O.out _; exact BO.out) (by refine blk_far ?_ N2P.out _; refine blk_far ?_ N2P.out _; refine blk_far ?_ N2P.out _; exact BP.out) HR2.out).mono ?_
      rintro e w' ⟨v2, rfl, bo2, bp2, ho2, hb2⟩
      have HO2 := Aside0.mk ho2
      have HB2 := Aside0.mk hb2
      have BO2 := Aside0.mk bo2
      have BP2 := Aside0.mk bp2
      clear HB HO BK2 BO BP ho2 hb2 bo2 bp2
      go_wp2
      go_roundg k1
      case measure => omega
      case rel => exact ⟨(j : Int) + 1, _, v2, by first | rfl | rw [W1.out], HO2, ⟨by have := HA.out; omega, by have := PI.out; omega, by have := HA.out; omega⟩, ⟨by have h := HF.out.1; rw [show ((j : Int)).toNat = j by omega, E8.out] at h; rw [flT_len, show ((j : Int) + 1).toNat = j + 1 by omega]; omega, by rw [← HF.out.2, show ((j : Int) + 1).toNat = j + 1 by omega, show ((j : Int)).toNat = j by omega, E9.out]⟩, HB2, BO2, BP2⟩
    · have cb : decide (i < (ks.length : Int)) = false := decide_eq_false c2
      have hi : i.toNat = ks.length := by have := HA.out; omega
      have e := HF.out.2
      rw [hi, List.drop_length, flL_nil] at e
      have E := Aside0.mk e
      clear c2 hi e
      go_wp2
      go_end0
      exact ⟨_, rfl, BO.out, BP.out, by rw [← E.out]; exact HO.out, HB.out⟩

theorem flat_some (w0 : World) (go gp : Nat) (hgo : w0.heap.size ≤ go) (hgp : w0.heap.size ≤ gp) (hne : gp ≠ go) : ∀ (N : Nat) (x : S72) (up : Int) (A : Option Addr) (c : Nat) (l : List S67) (v : Value) (w : World), SizeOf.sizeOf x.f2 ≤ N → x.f2.length ≤ c → l.length + szT x ≤ 200000 → Kd.R k67 67 w w0.heap.size (fun _ => True) v l → Below w0.heap.size w0 w → w.heap[go]? = some (.cells #[v] 33 (0, 0)) → w.heap[gp]? = some (.cells #[.func (.func 82) #[] #[.pointer (some ⟨go, 0, none⟩), .pointer (some ⟨gp, 0, none⟩)]] 124 (0, 0)) → Kd.C k72 w0 A x.f2.length x.f2 →
    Calls Tryd.prog 82 #[.agg #[.int .i64 x.f0, .int .i64 x.f1, .slice A x.f2.length c], .int .i64 up, .pointer (some ⟨go, 0, none⟩), .pointer (some ⟨gp, 0, none⟩)] w fun e w' => ∃ v2, e = .returned (.tuple #[]) ∧ w'.heap[go]? = some (.cells #[v2] 33 (0, 0)) ∧ w'.heap[gp]? = some (.cells #[.func (.func 82) #[] #[.pointer (some ⟨go, 0, none⟩), .pointer (some ⟨gp, 0, none⟩)]] 124 (0, 0)) ∧ Kd.R k67 67 w' w0.heap.size (fun _ => True) v2 (flT x up l) ∧ Below w0.heap.size w0 w' := by
  intro N
  induction N with
  | zero =>
    intro x up A c l v w hN
    cases h : x.f2 with
    | nil => rw [h] at hN; simp at hN
    | cons y ys => rw [h] at hN; simp at hN
  | succ N ih =>
    intro x up A c l v w hN hc hl hO hB hbo hbp hC
    obtain ⟨A0, c0, rfl⟩ := Kd.R_slice hO
    rw [flT_eq]
    refine node_some w0 go gp hgo hgp hne x.f0 x.f1 up x.f2 A c l A0 c0 w hC hc (by rw [← szT_eq]; exact hl) hO hB hbo hbp fun j A2 c2 acc v2 w2 hj hc2 hacc hO2 hB2 hbo2 hbp2 hC2 => ?_
    refine ih (rd_T72 x.f2 (j : Int)) (l.length : Int) A2 c2 acc v2 w2 ?_ hc2 hacc hO2 hB2 hbo2 hbp2 hC2
    have h1 := List.sizeOf_lt_of_mem (rd_mem x.f2 (j : Int) (by omega) (by omega))
    have h2 : ∀ y : S72, SizeOf.sizeOf y.f2 < SizeOf.sizeOf y := fun y => by cases y; simp; omega
    have h3 := h2 (rd_T72 x.f2 (j : Int))
    omega
end Nodes72

theorem Nodes72.store_func (P : Program) (w : World) (a : Addr) (m : Mode) (fn : Fn) (first captured : Array Value) : (store a (.func fn first captured) m).run P w = stored P w a (.func fn first captured) m := run_store P w a _ m rfl
attribute [local go_sem] Nodes72.store_func
def impl_term_nodes.f (a0_0 : Int) (a0_1 : Int) (l0_2 : List (S72)) : Option (List (S67)) := if Nodes72.szT ⟨a0_0, a0_1, l0_2⟩ ≤ 200000 then some (Nodes72.flT ⟨a0_0, a0_1, l0_2⟩ (-1) []) else none
set_option maxHeartbeats 8000000 in
set_option maxRecDepth 100000 in
theorem impl_term_nodes.calls (a0_0 : Int) (a0_1 : Int) (A0_2 : Option Addr) (c0_2 : Nat) (l0_2 : List (S72)) (r : List (S67)) (w : World) (hr0_2 : Kd.C k72 w A0_2 l0_2.length l0_2) (hc0_2 : l0_2.length ≤ c0_2) (h : impl_term_nodes.f a0_0 a0_1 l0_2 = some r) :
    Calls Tryd.prog 73 #[.agg #[.int .i64 a0_0, .int .i64 a0_1, .slice A0_2 l0_2.length c0_2]] w fun e w' => ∃ v0_ : Value, e = .returned (v0_) ∧ Kd.R k67 67 w' w.heap.size (fun _ => True) v0_ r ∧ Below w.heap.size w w' := by
  have hu58 := Tryd.underlying72
  have hu25 := Tryd.underlying33
  have eg := enters_ Tryd.func82 (by kernel_rfl) rfl
  have hmf : ∀ (fn : Fn) (first cap : Array Value) (w : World), (Instr.makeFunc fn first cap).run Tryd.prog w = .ok (.func fn first cap) w := fun _ _ _ _ => rfl
  have HR0 := Aside0.mk hr0_2
  have HC0 := Aside0.mk hc0_2
  clear hr0_2 hc0_2
  have HB := Aside0.mk (Below.refl w.heap.size w)
  unfold impl_term_nodes.f at h
  by_cases hz : Nodes72.szT ⟨a0_0, a0_1, l0_2⟩ ≤ 200000
  case neg => rw [if_neg hz] at h; exact absurd h (by simp)
  rw [if_pos hz] at h
  have HZ := Aside0.mk hz
  clear hz
  obtain rfl := Option.some.inj h
  go_enter Tryd.func73, Tryd.ntmps73
  go_wp2_with (first | ((with_reducible refine gate_dst (N := 1) rfl ?_); refine box_event ?hg (N := 1) ?hd (cs := #[.int .i64 a0_0, .int .i64 a0_1, .slice A0_2 l0_2.length c0_2]) (t := 72) ?hr ?_; (case hd => rfl); (case hg => rfl); (case hr => first | (go_simp; done) | (go_simp; rfl)); intro gb hg w5 hbox hb; have n0_ := Aside0.mk (below_step HB.out hb); have n1_ := Aside0.mk (hbox); clear HB; have HB := n0_; have BK := n1_; clear n0_ n1_; clear hb hbox hg; have hcz_0 : w5.cell? ⟨gb, 0, none⟩ = some (.int .i64 a0_0) := (blk_cell BK.out 0).trans rfl; have hcz_1 : w5.cell? ⟨gb, 1, none⟩ = some (.int .i64 a0_1) := (blk_cell BK.out 1).trans rfl; have hcz_2 : w5.cell? ⟨gb, 2, none⟩ = some (.slice A0_2 l0_2.length c0_2) := (blk_cell BK.out 2).trans rfl; have hfz_0 := blk_frozen BK.out 0; have hfz_1 := blk_frozen BK.out 1; have hfz_2 := blk_frozen BK.out 2) | ((with_reducible refine gate_dst (N := 5) rfl ?_); refine Kd.R_lit k67 _ 67 ?hg (N := 5) ?hd (xs := ([] : List S67)) (inner := []) (ok := fun _ => True) (okp := fun _ => True) ?hr ?hp (fun _ hk => hk) trivial (Below.refl _ _) (Nat.le_refl _) (by simp) ?_; (case hd => rfl); (case hg => rfl); (case hr => first | (go_simp; done) | (go_simp; rfl)); (case hp => exact (Reps.none _ _)); intro v1 w8 ho hb hg_ hnew_; clear hg_ hnew_; obtain ⟨A1, c1, rfl⟩ := Kd.R_slice ho; have n0_ := Aside0.mk (Kd.R_lower ho (below_size HB.out)); have n1_ := Aside0.mk (below_step HB.out hb); have n2_ := Aside0.mk (blk_below (g := gb) (o := .cells #[.int .i64 a0_0, .int .i64 a0_1, .slice A0_2 l0_2.length c0_2] 72 (0, 0)) BK.out hb); clear HB BK; have HO := n0_; have HB := n1_; have BK := n2_; clear n0_ n1_ n2_; clear hb ho; clear hcz_0 hcz_1 hcz_2 hfz_0 hfz_1 hfz_2) | ((with_reducible refine gate_dst (N := 3) rfl ?_); refine box_event ?hg (N := 3) ?hd (cs := #[.slice none 0 0]) (t := 33) ?hr ?_; (case hd => rfl); (case hg => rfl); (case hr => first | (go_simp; done) | (go_simp; rfl)); intro go hg w9 hbox hb; have n0_ := Aside0.mk (Kd.R_below HO.out hb); have n1_ := Aside0.mk (below_step HB.out hb); have n2_ := Aside0.mk (blk_below (g := gb) (o := .cells #[.int .i64 a0_0, .int .i64 a0_1, .slice A0_2 l0_2.length c0_2] 72 (0, 0)) BK.out hb); have n3_ := Aside0.mk hbox; have n4_ := Aside0.mk ((by rw [hg]; exact below_size HB.out : w.heap.size ≤ go)); have n5_ := Aside0.mk ((by rw [hg]; exact Nat.ne_of_lt (blk_lt BK.out) : gb ≠ go)); clear HB BK HO; have HO := n0_; have HB := n1_; have BK := n2_; have BO := n3_; have GO := n4_; have NGB := n5_; clear n0_ n1_ n2_ n3_ n4_ n5_; clear hb hbox hg; have hczo_0 : w9.cell? ⟨go, 0, none⟩ = some (.slice none 0 0) := (blk_cell BO.out 0).trans rfl; have hfzo_0 := blk_frozen BO.out 0) | ((with_reducible refine gate_dst (N := 4) rfl ?_); refine box_event ?hg (N := 4) ?hd (cs := #[.nilFunc]) (t := 124) ?hr ?_; (case hd => rfl); (case hg => rfl); (case hr => first | (go_simp; done) | (go_simp; rfl)); intro gp hg w10 hbox hb; have n0_ := Aside0.mk (Kd.R_below (Kd.R_mono (Kd.R_far (p := ⟨go, 0, none⟩) (Kd.R_types HO.out BO.out (by decide)) (fun _ hk => hk.2) (.slice A1 0 c1)) (fun _ hk => hk.1)) hb); have n1_ := Aside0.mk (below_step (below_set HB.out GO.out) hb); have n2_ := Aside0.mk (blk_below (g := gb) (o := .cells #[.int .i64 a0_0, .int .i64 a0_1, .slice A0_2 l0_2.length c0_2] 72 (0, 0)) (blk_far BK.out NGB.out _) hb); have n3_ := Aside0.mk (blk_below (g := go) (o := .cells #[.slice A1 0 c1] 33 (0, 0)) (blk_put (cs := #[.slice none 0 0]) BO.out 0 (.slice A1 0 c1) rfl) hb); have n4_ := Aside0.mk hbox; have n5_ := Aside0.mk ((by rw [hg]; exact below_size (below_set HB.out GO.out) : w.heap.size ≤ gp)); have n6_ := Aside0.mk ((by rw [hg]; exact Nat.ne_of_gt (blk_lt (o := .cells #[.slice A1 0 c1] 33 (0, 0)) (blk_put (cs := #[.slice none 0 0]) BO.out 0 (.slice A1 0 c1) rfl)) : gp ≠ go)); have n7_ := Aside0.mk ((by rw [hg]; exact Nat.ne_of_lt (blk_lt (o := .cells #[.int .i64 a0_0, .int .i64 a0_1, .slice A0_2 l0_2.length c0_2] 72 (0, 0)) (blk_far BK.out NGB.out _)) : gb ≠ gp)); clear HB BK HO BO; have HO := n0_; have HB := n1_; have BK := n2_; have BO := n3_; have BP := n4_; have GP := n5_; have NPO := n6_; have NBP := n7_; clear n0_ n1_ n2_ n3_ n4_ n5_ n6_ n7_; clear hb hbox hg; clear hczo_0 hfzo_0; have hq1_ := NBP.out; have hq2_ := NPO.out; have hq3_ := NGB.out; have hczc_0 : w10.cell? ⟨gb, 0, none⟩ = some (.int .i64 a0_0) := (blk_cell BK.out 0).trans rfl; have hczc_1 : w10.cell? ⟨gb, 1, none⟩ = some (.int .i64 a0_1) := (blk_cell BK.out 1).trans rfl; have hczc_2 : w10.cell? ⟨gb, 2, none⟩ = some (.slice A0_2 l0_2.length c0_2) := (blk_cell BK.out 2).trans rfl; have hfzc_0 := blk_frozen BK.out 0; have hfzc_1 := blk_frozen BK.out 1; have hfzc_2 := blk_frozen BK.out 2; have hczd_0 : w10.cell? ⟨go, 0, none⟩ = some (.slice A1 0 c1) := (blk_cell BO.out 0).trans rfl; have hfzd_0 := blk_frozen BO.out 0; have hcze_0 : w10.cell? ⟨gp, 0, none⟩ = some (.nilFunc) := (blk_cell BP.out 0).trans rfl; have hfze_0 := blk_frozen BP.out 0))
  refine (Nodes72.flat_some w go gp GO.out GP.out NPO.out (SizeOf.sizeOf l0_2) (⟨a0_0, a0_1, l0_2⟩ : S72) (-1) A0_2 c0_2 [] (.slice A1 0 c1) _ (Nat.le_refl _) HC0.out (by have := HZ.out; simpa using this) (Kd.R_mono (Kd.R_far (p := ⟨gp, 0, none⟩) (Kd.R_types HO.out BP.out (by decide)) (fun _ hk => hk.2) (.func (.func 82) #[] #[.pointer (some ⟨go, 0, none⟩), .pointer (some ⟨gp, 0, none⟩)])) (fun _ hk => hk.1)) (below_set HB.out GP.out) (blk_far BO.out NPO.out.symm _) (blk_put (cs := #[.nilFunc]) BP.out 0 (.func (.func 82) #[] #[.pointer (some ⟨go, 0, none⟩), .pointer (some ⟨gp, 0, none⟩)]) rfl) HR0.out).mono ?_
  rintro e w' ⟨v2, rfl, bo2, bp2, ho2, hb2⟩
  obtain ⟨A9, c9, hv9⟩ := Kd.R_slice ho2
  obtain ⟨n9, hn9⟩ : ∃ n9, n9 = (Nodes72.flT (⟨a0_0, a0_1, l0_2⟩ : S72) (-1) []).length := ⟨_, rfl⟩
  rw [← hn9] at hv9
  subst hv9
  clear hn9
  have hq_ : w'.cell? ⟨go, 0, none⟩ = some (.slice A9 n9 c9) := (blk_cell bo2 0).trans rfl
  have hf_ := blk_frozen bo2 0
  have HO2 := Aside0.mk ho2
  have HB2 := Aside0.mk hb2
  clear ho2 hb2 bo2 bp2
  go_wp2
  go_ret
  exact ⟨_, rfl, HO2.out, HB2.out⟩
end Go.Proofs.YtcjhhdecckcibaaDoor.G

namespace Go.Proofs.YtcjhhdecckcibaaDoor.G
open Go.RowKit Go.Proofs.YtcjhhdecckcibaaDoorW.PrintWords Go.Proofs.YtcjhhdecckcibaaDoorW.PrintLast Go.Proofs.YtcjhhdecckcibaaDoorW.PrintMore
attribute [local go_sem] max2_int min2_int max_two min_two max_three min_three max_four min_four   -- for this text's walks alone
set_option linter.unusedVariables false
set_option linter.unusedSimpArgs false

def impl_term_goodNodes.f (k : Nat) (a0_0 : Int) (a0_1 : Int) (l0_2 : List (S72)) : Option ((List (S67)) × Bool) := (impl_term_isGood.f k a0_0 a0_1 l0_2).bind fun t102 => (if t102 = true then ((impl_term_nodes.f a0_0 a0_1 l0_2).bind fun t103 => (some (t103, true))) else (some (([] : List (S67)), false)))
set_option maxHeartbeats 8000000 in
set_option maxRecDepth 100000 in
theorem impl_term_goodNodes.calls (k : Nat) (a0_0 : Int) (a0_1 : Int) (A0_2 : Option Addr) (c0_2 : Nat) (l0_2 : List (S72)) (r1 : List (S67)) (r2 : Bool) (w : World) (hr0_2 : Kd.C k72 w A0_2 l0_2.length l0_2) (hc0_2 : l0_2.length ≤ c0_2) (h : impl_term_goodNodes.f k a0_0 a0_1 l0_2 = some (r1, r2)) :
    Calls Tryd.prog 46 #[.agg #[.int .i64 a0_0, .int .i64 a0_1, .slice A0_2 l0_2.length c0_2]] w fun e w' => ∃ v0_ : Value, e = .returned (.tuple #[v0_, .bool r2]) ∧ Kd.R k67 67 w' w.heap.size (fun _ => True) v0_ r1 ∧ Below w.heap.size w w' := by
  have hu72 := Tryd.underlying72
  have HR0_2 := Aside0.mk hr0_2
  have HC0_2 := Aside0.mk hc0_2
  clear hr0_2 hc0_2
  have HB := Aside0.mk (Below.refl w.heap.size w)
  have H : ((impl_term_isGood.f k a0_0 a0_1 l0_2).bind fun t102 => (if t102 = true then ((impl_term_nodes.f a0_0 a0_1 l0_2).bind fun t103 => (some (t103, true))) else (some (([] : List (S67)), false)))) = some (r1, r2) := h
  clear h
  replace H := Option.bind_eq_some_iff.mp H
  obtain ⟨t102, A20, H⟩ := H
  replace H : (if t102 = true then ((impl_term_nodes.f a0_0 a0_1 l0_2).bind fun t103 => (some (t103, true))) else (some (([] : List (S67)), false))) = some (r1, r2) := H
  have A2 := Aside0.mk A20
  clear A20
  by_cases c3 : t102 = true
  · subst c3
    have H1 : ((impl_term_nodes.f a0_0 a0_1 l0_2).bind fun t103 => (some (t103, true))) = some (r1, r2) := by rw [if_pos rfl] at H; exact H
    clear H
    have H := H1
    clear H1
    replace H := Option.bind_eq_some_iff.mp H
    obtain ⟨t103, A40, H⟩ := H
    replace H : (some (t103, true)) = some (r1, r2) := H
    have A4 := Aside0.mk A40
    clear A40
    simp only [Option.some.injEq, Prod.mk.injEq] at H
    obtain ⟨rfl, rfl⟩ := H
    go_enter Tryd.func46, Tryd.ntmps46
    go_wp2_with (first | ((with_reducible refine gate_dst (N := 1) rfl ?_); refine box_event ?hg (N := 1) ?hd (cs := #[.int .i64 a0_0, .int .i64 a0_1, .slice A0_2 l0_2.length c0_2]) (t := 72) ?hr ?_; (case hd => rfl); (case hg => rfl); (case hr => first | (go_simp; done) | (go_simp; rfl)); intro gb101 hg w5 hbox hb; have n0_ := Aside0.mk (below_step (by repeat (first | (with_reducible first | exact HB.out | apply below_alloc | apply pw_below_drewN | apply below_drew1) | exact HB.out)) hb); have n1_ := Aside0.mk (hbox); have n2_ := Aside0.mk ((by rw [hg]; exact (below_size (by repeat (first | (with_reducible first | exact HB.out | apply below_alloc | apply pw_below_drewN | apply below_drew1) | exact HB.out))) : w.heap.size ≤ gb101)); have n3_ := Aside0.mk ((by rw [hg]; exact (below_size (by repeat (first | (with_reducible first | exact HB.out | apply below_alloc | apply pw_below_drewN | apply below_drew1) | exact HB.out))) : w.heap.size ≤ gb101)); clear HB; have HB := n0_; have BK101 := n1_; have GW101 := n2_; have GE101 := n3_; clear n0_ n1_ n2_ n3_; clear hb hbox hg; have hcz6_0 : w5.cell? ⟨gb101, 0, none⟩ = some (.int .i64 a0_0) := (blk_cell BK101.out 0).trans rfl; have hcz6_1 : w5.cell? ⟨gb101, 1, none⟩ = some (.int .i64 a0_1) := (blk_cell BK101.out 1).trans rfl; have hcz6_2 : w5.cell? ⟨gb101, 2, none⟩ = some (.slice A0_2 l0_2.length c0_2) := (blk_cell BK101.out 2).trans rfl; have hfz6_0 := blk_frozen BK101.out 0; have hfz6_1 := blk_frozen BK101.out 1; have hfz6_2 := blk_frozen BK101.out 2) | ((with_reducible refine gate_callee (f := 55) rfl ?_); refine goesL_ (some 5) rfl rfl Tryd.func55 (by kernel_rfl) rfl #[.agg #[.int .i64 a0_0, .int .i64 a0_1, .slice A0_2 l0_2.length c0_2]] rfl (by (try simp only [List.map_toArray, List.map_cons, List.map_nil]); first | done | rfl | (simp only [List.length_drop, List.length_take]; rfl)) ?_; (with_reducible refine (impl_term_isGood.calls k a0_0 a0_1 _ _ l0_2 true _ ?side1 ?side2 A2.out).mono ?_); (case side1 => repeat (first | exact (Kd.C_below HR0_2.out HB.out) | (with_reducible refine Kd.C_alloc ?_ _) | (with_reducible refine Kd.C_drewN ?_ _) | (with_reducible refine Kd.C_drew ?_))); (case side2 => exact HC0_2.out); rintro e w7 ⟨rfl, hb⟩; refine ⟨_, rfl, ?_⟩; have n0_ := Aside0.mk (blk_below (g := gb101) (o := .cells #[.int .i64 a0_0, .int .i64 a0_1, .slice A0_2 l0_2.length c0_2] 72 (0, 0)) (by (with_reducible repeat (first | refine blk_drewN ?_ _ | refine blk_drew ?_ | refine blk_alloc ?_ _)); exact BK101.out) hb); have n1_ := Aside0.mk (below_step (by repeat (first | (with_reducible first | exact HB.out | apply below_alloc | apply pw_below_drewN | apply below_drew1 | refine below_set ?_ GE101.out) | exact HB.out)) hb); clear BK101; clear HB; have BK101 := n0_; have HB := n1_; clear n0_ n1_; (try clear hb); (try clear hb2); (try clear hk); (try clear hi); have hcz8_0 : w7.cell? ⟨gb101, 0, none⟩ = some (.int .i64 a0_0) := (blk_cell BK101.out 0).trans rfl; have hcz8_1 : w7.cell? ⟨gb101, 1, none⟩ = some (.int .i64 a0_1) := (blk_cell BK101.out 1).trans rfl; have hcz8_2 : w7.cell? ⟨gb101, 2, none⟩ = some (.slice A0_2 l0_2.length c0_2) := (blk_cell BK101.out 2).trans rfl; have hfz8_0 := blk_frozen BK101.out 0; have hfz8_1 := blk_frozen BK101.out 1; have hfz8_2 := blk_frozen BK101.out 2) | ((with_reducible refine gate_callee (f := 73) rfl ?_); refine goesL_ (some 8) rfl rfl Tryd.func73 (by kernel_rfl) rfl #[.agg #[.int .i64 a0_0, .int .i64 a0_1, .slice A0_2 l0_2.length c0_2]] rfl (by (try simp only [List.map_toArray, List.map_cons, List.map_nil]); first | done | rfl | (simp only [List.length_drop, List.length_take]; rfl)) ?_; (with_reducible refine (impl_term_nodes.calls a0_0 a0_1 _ _ l0_2 t103 _ ?side1 ?side2 A4.out).mono ?_); (case side1 => repeat (first | exact (Kd.C_below HR0_2.out HB.out) | (with_reducible refine Kd.C_alloc ?_ _) | (with_reducible refine Kd.C_drewN ?_ _) | (with_reducible refine Kd.C_drew ?_))); (case side2 => exact HC0_2.out); rintro e w9 ⟨v104, rfl, ho0, hb⟩; refine ⟨_, rfl, ?_⟩; have n0_ := Aside0.mk (Kd.R_lower ho0 (below_size (by repeat (first | (with_reducible first | exact HB.out | apply below_alloc | apply pw_below_drewN | apply below_drew1 | refine below_set ?_ GE101.out) | exact HB.out)))); have n1_ := Aside0.mk (blk_below (g := gb101) (o := .cells #[.int .i64 a0_0, .int .i64 a0_1, .slice A0_2 l0_2.length c0_2] 72 (0, 0)) (by (with_reducible repeat (first | refine blk_drewN ?_ _ | refine blk_drew ?_ | refine blk_alloc ?_ _)); exact BK101.out) hb); have n2_ := Aside0.mk (below_step (by repeat (first | (with_reducible first | exact HB.out | apply below_alloc | apply pw_below_drewN | apply below_drew1 | refine below_set ?_ GE101.out) | exact HB.out)) hb); clear BK101; clear HB; have HO105 := n0_; have BK101 := n1_; have HB := n2_; clear n0_ n1_ n2_; (try clear hb); (try clear hb2); (try clear hk); (try clear hi); (try clear ho0)))
    go_ret2
    exact ⟨_, by first | rfl | (simp [errW_none, errW_some] <;> rfl) | (simp [*, errW_none, errW_some] <;> rfl), by (with_reducible repeat (first | apply Kd.R_alloc | apply Kd.R_drewN | apply Kd.R_drew)); exact HO105.out, by repeat (first | (with_reducible first | exact HB.out | apply below_alloc | apply pw_below_drewN | apply below_drew1 | refine below_set ?_ GE101.out) | exact HB.out)⟩
  · replace c3 := Bool.eq_false_iff.mpr c3
    subst c3
    have H1 : (some (([] : List (S67)), false)) = some (r1, r2) := by rw [if_neg (show ¬ (false = true) by decide)] at H; exact H
    clear H
    have H := H1
    clear H1
    simp only [Option.some.injEq, Prod.mk.injEq] at H
    obtain ⟨rfl, rfl⟩ := H
    go_enter Tryd.func46, Tryd.ntmps46
    go_wp2_with (first | ((with_reducible refine gate_dst (N := 1) rfl ?_); refine box_event ?hg (N := 1) ?hd (cs := #[.int .i64 a0_0, .int .i64 a0_1, .slice A0_2 l0_2.length c0_2]) (t := 72) ?hr ?_; (case hd => rfl); (case hg => rfl); (case hr => first | (go_simp; done) | (go_simp; rfl)); intro gb101 hg w10 hbox hb; have n0_ := Aside0.mk (below_step (by repeat (first | (with_reducible first | exact HB.out | apply below_alloc | apply pw_below_drewN | apply below_drew1) | exact HB.out)) hb); have n1_ := Aside0.mk (hbox); have n2_ := Aside0.mk ((by rw [hg]; exact (below_size (by repeat (first | (with_reducible first | exact HB.out | apply below_alloc | apply pw_below_drewN | apply below_drew1) | exact HB.out))) : w.heap.size ≤ gb101)); have n3_ := Aside0.mk ((by rw [hg]; exact (below_size (by repeat (first | (with_reducible first | exact HB.out | apply below_alloc | apply pw_below_drewN | apply below_drew1) | exact HB.out))) : w.heap.size ≤ gb101)); clear HB; have HB := n0_; have BK101 := n1_; have GW101 := n2_; have GE101 := n3_; clear n0_ n1_ n2_ n3_; clear hb hbox hg; have hcz11_0 : w10.cell? ⟨gb101, 0, none⟩ = some (.int .i64 a0_0) := (blk_cell BK101.out 0).trans rfl; have hcz11_1 : w10.cell? ⟨gb101, 1, none⟩ = some (.int .i64 a0_1) := (blk_cell BK101.out 1).trans rfl; have hcz11_2 : w10.cell? ⟨gb101, 2, none⟩ = some (.slice A0_2 l0_2.length c0_2) := (blk_cell BK101.out 2).trans rfl; have hfz11_0 := blk_frozen BK101.out 0; have hfz11_1 := blk_frozen BK101.out 1; have hfz11_2 := blk_frozen BK101.out 2) | ((with_reducible refine gate_callee (f := 55) rfl ?_); refine goesL_ (some 5) rfl rfl Tryd.func55 (by kernel_rfl) rfl #[.agg #[.int .i64 a0_0, .int .i64 a0_1, .slice A0_2 l0_2.length c0_2]] rfl (by (try simp only [List.map_toArray, List.map_cons, List.map_nil]); first | done | rfl | (simp only [List.length_drop, List.length_take]; rfl)) ?_; (with_reducible refine (impl_term_isGood.calls k a0_0 a0_1 _ _ l0_2 false _ ?side1 ?side2 A2.out).mono ?_); (case side1 => repeat (first | exact (Kd.C_below HR0_2.out HB.out) | (with_reducible refine Kd.C_alloc ?_ _) | (with_reducible refine Kd.C_drewN ?_ _) | (with_reducible refine Kd.C_drew ?_))); (case side2 => exact HC0_2.out); rintro e w12 ⟨rfl, hb⟩; refine ⟨_, rfl, ?_⟩; have n0_ := Aside0.mk (blk_below (g := gb101) (o := .cells #[.int .i64 a0_0, .int .i64 a0_1, .slice A0_2 l0_2.length c0_2] 72 (0, 0)) (by (with_reducible repeat (first | refine blk_drewN ?_ _ | refine blk_drew ?_ | refine blk_alloc ?_ _)); exact BK101.out) hb); have n1_ := Aside0.mk (below_step (by repeat (first | (with_reducible first | exact HB.out | apply below_alloc | apply pw_below_drewN | apply below_drew1 | refine below_set ?_ GE101.out) | exact HB.out)) hb); clear BK101; clear HB; have BK101 := n0_; have HB := n1_; clear n0_ n1_; (try clear hb); (try clear hb2); (try clear hk); (try clear hi)))
    go_ret2
    exact ⟨_, by first | rfl | (simp [errW_none, errW_some] <;> rfl) | (simp [*, errW_none, errW_some] <;> rfl), by first | exact Kd.R_nil _ _ _ _ _ | exact Kd.N_nil _ _ _ _ _ | exact Kd.V_nil _ _ _ _ _ | exact Kd.Q_nil _ _ _ _ _ | exact Kd.S_nil _ _ _ _ _, by repeat (first | (with_reducible first | exact HB.out | apply below_alloc | apply pw_below_drewN | apply below_drew1 | refine below_set ?_ GE101.out) | exact HB.out)⟩

end Go.Proofs.YtcjhhdecckcibaaDoor.G

namespace Go.Proofs.YtcjhhdecckcibaaDoor.G
open Go.RowKit Go.Proofs.YtcjhhdecckcibaaDoorW.PrintWords Go.Proofs.YtcjhhdecckcibaaDoorW.PrintLast Go.Proofs.YtcjhhdecckcibaaDoorW.PrintMore
attribute [local go_sem] max2_int min2_int max_two min_two max_three min_three max_four min_four   -- for this text's walks alone
set_option linter.unusedVariables false
set_option linter.unusedSimpArgs false

def impl_ReadTerm.f (k : Nat) (a0 : ByteArray) : Option ((List (S67)) × Bool) := if (a0.size : Int) > 600 then (some (([] : List (S67)), false)) else ((impl_termRead.f k a0 1).bind fun bt101 => (if bt101.2.2.2.2 = true then (if bt101.2.2.2.1.toList = ([] : List UInt8) then ((impl_term_text.f k bt101.1 bt101.2.1 bt101.2.2.1).bind fun t109 => (if t109.toList = a0.toList then ((impl_term_goodNodes.f k bt101.1 bt101.2.1 bt101.2.2.1).bind fun bt110 => (some (bt110.1, bt110.2))) else (some (([] : List (S67)), false)))) else (some (([] : List (S67)), false))) else (some (([] : List (S67)), false))))
set_option maxHeartbeats 8000000 in
set_option maxRecDepth 100000 in
theorem impl_ReadTerm.calls (k : Nat) (a0 : ByteArray) (r1 : List (S67)) (r2 : Bool) (w : World) (h : impl_ReadTerm.f k a0 = some (r1, r2)) (hE : Met w) :
    Calls Tryd.prog 22 #[.string a0] w fun e w' => ∃ v0_ : Value, e = .returned (.tuple #[v0_, .bool r2]) ∧ Kd.R k67 67 w' w.heap.size (fun _ => True) v0_ r1 ∧ Below w.heap.size w w' := by
  have hu72 := Tryd.underlying72
  have HB := Aside0.mk (Below.refl w.heap.size w)
  have HE := Aside0.mk hE
  clear hE
  have H : (if (a0.size : Int) > 600 then (some (([] : List (S67)), false)) else ((impl_termRead.f k a0 1).bind fun bt101 => (if bt101.2.2.2.2 = true then (if bt101.2.2.2.1.toList = ([] : List UInt8) then ((impl_term_text.f k bt101.1 bt101.2.1 bt101.2.2.1).bind fun t109 => (if t109.toList = a0.toList then ((impl_term_goodNodes.f k bt101.1 bt101.2.1 bt101.2.2.1).bind fun bt110 => (some (bt110.1, bt110.2))) else (some (([] : List (S67)), false)))) else (some (([] : List (S67)), false))) else (some (([] : List (S67)), false))))) = some (r1, r2) := h
  clear h
  by_cases c2 : (a0.size : Int) > 600
  · rw [if_pos c2] at H
    have c2b0 : decide (600 < (a0.size : Int)) = true := decide_eq_true c2
    have c2b1 : decide (600 < a0.size) = true := decide_eq_true (by omega)
    clear c2
    simp only [Option.some.injEq, Prod.mk.injEq] at H
    obtain ⟨rfl, rfl⟩ := H
    go_enter Tryd.func22, Tryd.ntmps22
    go_wp2
    go_ret2
    exact ⟨_, by first | rfl | (simp [errW_none, errW_some] <;> rfl) | (simp [*, errW_none, errW_some] <;> rfl), by first | exact Kd.R_nil _ _ _ _ _ | exact Kd.N_nil _ _ _ _ _ | exact Kd.V_nil _ _ _ _ _ | exact Kd.Q_nil _ _ _ _ _ | exact Kd.S_nil _ _ _ _ _, by repeat (first | (with_reducible first | exact HB.out | apply below_alloc | apply pw_below_drewN | apply below_drew1) | exact HB.out)⟩
  · rw [if_neg c2] at H
    have c2b0 : decide (600 < (a0.size : Int)) = false := decide_eq_false c2
    have c2b1 : decide (600 < a0.size) = false := decide_eq_false (by omega)
    clear c2
    replace H := Option.bind_eq_some_iff.mp H
    obtain ⟨⟨t101, t102, t103, t106, t107⟩, A30, H⟩ := H
    replace H : (if t107 = true then (if t106.toList = ([] : List UInt8) then ((impl_term_text.f k t101 t102 t103).bind fun t109 => (if t109.toList = a0.toList then ((impl_term_goodNodes.f k t101 t102 t103).bind fun bt110 => (some (bt110.1, bt110.2))) else (some (([] : List (S67)), false)))) else (some (([] : List (S67)), false))) else (some (([] : List (S67)), false))) = some (r1, r2) := H
    have A3 := Aside0.mk A30
    clear A30
    by_cases c4 : t107 = true
    · subst c4
      have H1 : (if t106.toList = ([] : List UInt8) then ((impl_term_text.f k t101 t102 t103).bind fun t109 => (if t109.toList = a0.toList then ((impl_term_goodNodes.f k t101 t102 t103).bind fun bt110 => (some (bt110.1, bt110.2))) else (some (([] : List (S67)), false)))) else (some (([] : List (S67)), false))) = some (r1, r2) := by rw [if_pos rfl] at H; exact H
      clear H
      have H := H1
      clear H1
      by_cases c5 : t106.toList = ([] : List UInt8)
      · rw [if_pos c5] at H
        have c5b0 : (t106.toList == ([] : List UInt8)) = true := beq_iff_eq.mpr c5
        have c5b1 : (t106.toList != ([] : List UInt8)) = false := bne_eq_false_iff_eq.mpr c5
        clear c5
        replace H := Option.bind_eq_some_iff.mp H
        obtain ⟨t109, A60, H⟩ := H
        replace H : (if t109.toList = a0.toList then ((impl_term_goodNodes.f k t101 t102 t103).bind fun bt110 => (some (bt110.1, bt110.2))) else (some (([] : List (S67)), false))) = some (r1, r2) := H
        have A6 := Aside0.mk A60
        clear A60
        by_cases c7 : t109.toList = a0.toList
        · rw [if_pos c7] at H
          have c7b0 : (t109.toList == a0.toList) = true := beq_iff_eq.mpr c7
          have c7b1 : (t109.toList != a0.toList) = false := bne_eq_false_iff_eq.mpr c7
          clear c7
          replace H := Option.bind_eq_some_iff.mp H
          obtain ⟨⟨t110, t113⟩, A80, H⟩ := H
          replace H : (some (t110, t113)) = some (r1, r2) := H
          have A8 := Aside0.mk A80
          clear A80
          simp only [Option.some.injEq, Prod.mk.injEq] at H
          obtain ⟨rfl, rfl⟩ := H
          go_enter Tryd.func22, Tryd.ntmps22
          go_wp2_with (first | ((with_reducible refine gate_callee (f := 45) rfl ?_); refine goesL_ (some 12) rfl rfl Tryd.func45 (by kernel_rfl) rfl #[.string a0, .int .i64 1] rfl (by (try simp only [List.map_toArray, List.map_cons, List.map_nil]); first | done | rfl | (simp only [List.length_drop, List.length_take]; rfl)) ?_; (with_reducible refine (impl_termRead.calls k a0 1 t101 t102 t103 t106 true _ A3.out (HE.out.below (by repeat (first | (with_reducible first | exact HB.out | apply below_alloc | apply pw_below_drewN | apply below_drew1) | exact HB.out)))).mono ?_); rintro e w9 ⟨v104, rfl, ho0, hb⟩; refine ⟨_, rfl, ?_⟩; have n0_ := Aside0.mk (Kd.N_lower (Kd.N_mono (ok' := fun k_ => True) ho0 (fun k_ hk_ => trivial)) (below_size (by repeat (first | (with_reducible first | exact HB.out | apply below_alloc | apply pw_below_drewN | apply below_drew1) | exact HB.out)))); have n1_ := Aside0.mk (below_step (by repeat (first | (with_reducible first | exact HB.out | apply below_alloc | apply pw_below_drewN | apply below_drew1) | exact HB.out)) hb); clear HB; have HO105 := n0_; have HB := n1_; clear n0_ n1_; (try clear hb); (try clear hb2); (try clear hk); (try clear hi); (try clear ho0)) | ((with_reducible refine gate_dst (N := 4) rfl ?_); refine box_event ?hg (N := 4) ?hd (cs := #[.int .i64 0, .int .i64 0, .slice none 0 0]) (t := 72) ?hr ?_; (case hd => rfl); (case hg => rfl); (case hr => first | (go_simp; done) | (go_simp; rfl)); intro gb108 hg w10 hbox hb; have n0_ := Aside0.mk (Kd.N_below (Kd.N_elderB (by (with_reducible repeat (first | apply Kd.N_alloc | apply Kd.N_drewN | apply Kd.N_drew)); exact HO105.out) gb108 (Nat.le_of_eq hg.symm)) hb); have n1_ := Aside0.mk (below_step (by repeat (first | (with_reducible first | exact HB.out | apply below_alloc | apply pw_below_drewN | apply below_drew1) | exact HB.out)) hb); have n2_ := Aside0.mk (hbox); have n3_ := Aside0.mk ((by rw [hg]; exact (below_size (by repeat (first | (with_reducible first | exact HB.out | apply below_alloc | apply pw_below_drewN | apply below_drew1) | exact HB.out))) : w.heap.size ≤ gb108)); have n4_ := Aside0.mk ((by rw [hg]; exact (below_size (by repeat (first | (with_reducible first | exact HB.out | apply below_alloc | apply pw_below_drewN | apply below_drew1) | exact HB.out))) : w.heap.size ≤ gb108)); clear HO105; clear HB; have HO105 := n0_; have HB := n1_; have BK108 := n2_; have GW108 := n3_; have GE108 := n4_; clear n0_ n1_ n2_ n3_ n4_; clear hb hbox hg; have hcz11_0 : w10.cell? ⟨gb108, 0, none⟩ = some (.int .i64 0) := (blk_cell BK108.out 0).trans rfl; have hcz11_1 : w10.cell? ⟨gb108, 1, none⟩ = some (.int .i64 0) := (blk_cell BK108.out 1).trans rfl; have hcz11_2 : w10.cell? ⟨gb108, 2, none⟩ = some (.slice none 0 0) := (blk_cell BK108.out 2).trans rfl; have hfz11_0 := blk_frozen BK108.out 0; have hfz11_1 := blk_frozen BK108.out 1; have hfz11_2 := blk_frozen BK108.out 2; obtain ⟨Ao12, co12, eo12⟩ := Kd.N_slice HO105.out; subst eo12) | (go_at_call 37; (with_reducible refine (impl_term_text.calls k t101 t102 _ _ t103 t109 _ ?side1 ?side2 A6.out (HE.out.below (by repeat (first | (with_reducible first | exact HB.out | apply below_alloc | apply pw_below_drewN | apply below_drew1 | refine below_set ?_ GE108.out) | exact HB.out)))).mono ?_); (case side1 => refine (Kd.N_reads' (e := 72) (base := w.heap.size) (ok := fun k_ => (True ∧ k_ ≠ gb108)) (n := t103.length) (c := co12) ?_).2.2; exact (by (with_reducible repeat (first | apply Kd.N_alloc | apply Kd.N_drewN | apply Kd.N_drew)); exact (Kd.N_mono (Kd.N_far (p := ⟨gb108, 2, none⟩) (Kd.N_far (p := ⟨gb108, 1, none⟩) (Kd.N_far (p := ⟨gb108, 0, none⟩) (Kd.N_mono HO105.out (fun k_ hk => (⟨hk, hk.2⟩ : _ ∧ k_ ≠ gb108))) (fun _ hk => hk.2) (.int .i64 t101)) (fun _ hk => hk.2) (.int .i64 t102)) (fun _ hk => hk.2) (.slice Ao12 t103.length co12)) (fun _ h_ => h_.1)))); (case side2 => exact (Kd.N_reads' HO105.out).2.1); rintro e w13 ⟨rfl, hb⟩; have n0_ := Aside0.mk (Kd.N_below (by (with_reducible repeat (first | apply Kd.N_alloc | apply Kd.N_drewN | apply Kd.N_drew)); exact (Kd.N_mono (Kd.N_far (p := ⟨gb108, 2, none⟩) (Kd.N_far (p := ⟨gb108, 1, none⟩) (Kd.N_far (p := ⟨gb108, 0, none⟩) (Kd.N_mono HO105.out (fun k_ hk => (⟨hk, hk.2⟩ : _ ∧ k_ ≠ gb108))) (fun _ hk => hk.2) (.int .i64 t101)) (fun _ hk => hk.2) (.int .i64 t102)) (fun _ hk => hk.2) (.slice Ao12 t103.length co12)) (fun _ h_ => h_.1))) hb); have n1_ := Aside0.mk (blk_below (g := gb108) (o := .cells #[.int .i64 t101, .int .i64 t102, .slice Ao12 t103.length co12] 72 (0, 0)) (by (with_reducible repeat (first | refine blk_drewN ?_ _ | refine blk_drew ?_ | refine blk_alloc ?_ _)); refine blk_put (cs := #[.int .i64 t101, .int .i64 t102, .slice none 0 0]) ?_ 2 _ rfl; (with_reducible repeat (first | refine blk_drewN ?_ _ | refine blk_drew ?_ | refine blk_alloc ?_ _)); refine blk_put (cs := #[.int .i64 t101, .int .i64 0, .slice none 0 0]) ?_ 1 _ rfl; (with_reducible repeat (first | refine blk_drewN ?_ _ | refine blk_drew ?_ | refine blk_alloc ?_ _)); refine blk_put (cs := #[.int .i64 0, .int .i64 0, .slice none 0 0]) ?_ 0 _ rfl; (with_reducible repeat (first | refine blk_drewN ?_ _ | refine blk_drew ?_ | refine blk_alloc ?_ _)); exact BK108.out) hb); have n2_ := Aside0.mk (below_step (by repeat (first | (with_reducible first | exact HB.out | apply below_alloc | apply pw_below_drewN | apply below_drew1 | refine below_set ?_ GE108.out) | exact HB.out)) hb); clear HO105; clear BK108; clear HB; have HO105 := n0_; have BK108 := n1_; have HB := n2_; clear n0_ n1_ n2_; (try clear hb); (try clear hb2); (try clear hk); (try clear hi); have hcz14_0 : w13.cell? ⟨gb108, 0, none⟩ = some (.int .i64 t101) := (blk_cell BK108.out 0).trans rfl; have hcz14_1 : w13.cell? ⟨gb108, 1, none⟩ = some (.int .i64 t102) := (blk_cell BK108.out 1).trans rfl; have hcz14_2 : w13.cell? ⟨gb108, 2, none⟩ = some (.slice Ao12 t103.length co12) := (blk_cell BK108.out 2).trans rfl; have hfz14_0 := blk_frozen BK108.out 0; have hfz14_1 := blk_frozen BK108.out 1; have hfz14_2 := blk_frozen BK108.out 2) | ((with_reducible refine gate_callee (f := 46) rfl ?_); refine goesL_ (some 29) rfl rfl Tryd.func46 (by kernel_rfl) rfl #[.agg #[.int .i64 t101, .int .i64 t102, .slice Ao12 t103.length co12]] rfl (by (try simp only [List.map_toArray, List.map_cons, List.map_nil]); first | done | rfl | (simp only [List.length_drop, List.length_take]; rfl)) ?_; (with_reducible refine (impl_term_goodNodes.calls k t101 t102 _ _ t103 t110 t113 _ ?side1 ?side2 A8.out).mono ?_); (case side1 => repeat (first | exact (Kd.N_reads' HO105.out).2.2 | (with_reducible refine Kd.C_alloc ?_ _) | (with_reducible refine Kd.C_drewN ?_ _) | (with_reducible refine Kd.C_drew ?_))); (case side2 => exact (Kd.N_reads' HO105.out).2.1); rintro e w15 ⟨v111, rfl, ho0, hb⟩; refine ⟨_, rfl, ?_⟩; have n0_ := Aside0.mk (Kd.N_elder' (by (with_reducible repeat (first | apply Kd.N_alloc | apply Kd.N_drewN | apply Kd.N_drew)); exact HO105.out) (Kd.R_base ho0) hb); have n1_ := Aside0.mk (Kd.R_lower ho0 (below_size (by repeat (first | (with_reducible first | exact HB.out | apply below_alloc | apply pw_below_drewN | apply below_drew1 | refine below_set ?_ GE108.out) | exact HB.out)))); have n2_ := Aside0.mk (blk_below (g := gb108) (o := .cells #[.int .i64 t101, .int .i64 t102, .slice Ao12 t103.length co12] 72 (0, 0)) (by (with_reducible repeat (first | refine blk_drewN ?_ _ | refine blk_drew ?_ | refine blk_alloc ?_ _)); exact BK108.out) hb); have n3_ := Aside0.mk (below_step (by repeat (first | (with_reducible first | exact HB.out | apply below_alloc | apply pw_below_drewN | apply below_drew1 | refine below_set ?_ GE108.out) | exact HB.out)) hb); clear HO105; clear BK108; clear HB; have HO105 := n0_; have HO112 := n1_; have BK108 := n2_; have HB := n3_; clear n0_ n1_ n2_ n3_; (try clear hb); (try clear hb2); (try clear hk); (try clear hi); (try clear ho0)))
          go_ret2
          exact ⟨_, by first | rfl | (simp [errW_none, errW_some] <;> rfl) | (simp [*, errW_none, errW_some] <;> rfl), by (with_reducible repeat (first | apply Kd.R_alloc | apply Kd.R_drewN | apply Kd.R_drew)); exact HO112.out, by repeat (first | (with_reducible first | exact HB.out | apply below_alloc | apply pw_below_drewN | apply below_drew1 | refine below_set ?_ GE108.out) | exact HB.out)⟩
        · rw [if_neg c7] at H
          have c7b0 : (t109.toList == a0.toList) = false := beq_eq_false_iff_ne.mpr c7
          have c7b1 : (t109.toList != a0.toList) = true := bne_iff_ne.mpr c7
          simp only [Option.some.injEq, Prod.mk.injEq] at H
          obtain ⟨rfl, rfl⟩ := H
          go_enter Tryd.func22, Tryd.ntmps22
          go_wp2_with (first | ((with_reducible refine gate_callee (f := 45) rfl ?_); refine goesL_ (some 12) rfl rfl Tryd.func45 (by kernel_rfl) rfl #[.string a0, .int .i64 1] rfl (by (try simp only [List.map_toArray, List.map_cons, List.map_nil]); first | done | rfl | (simp only [List.length_drop, List.length_take]; rfl)) ?_; (with_reducible refine (impl_termRead.calls k a0 1 t101 t102 t103 t106 true _ A3.out (HE.out.below (by repeat (first | (with_reducible first | exact HB.out | apply below_alloc | apply pw_below_drewN | apply below_drew1) | exact HB.out)))).mono ?_); rintro e w16 ⟨v104, rfl, ho0, hb⟩; refine ⟨_, rfl, ?_⟩; have n0_ := Aside0.mk (Kd.N_lower (Kd.N_mono (ok' := fun k_ => True) ho0 (fun k_ hk_ => trivial)) (below_size (by repeat (first | (with_reducible first | exact HB.out | apply below_alloc | apply pw_below_drewN | apply below_drew1) | exact HB.out)))); have n1_ := Aside0.mk (below_step (by repeat (first | (with_reducible first | exact HB.out | apply below_alloc | apply pw_below_drewN | apply below_drew1) | exact HB.out)) hb); clear HB; have HO105 := n0_; have HB := n1_; clear n0_ n1_; (try clear hb); (try clear hb2); (try clear hk); (try clear hi); (try clear ho0)) | ((with_reducible refine gate_dst (N := 4) rfl ?_); refine box_event ?hg (N := 4) ?hd (cs := #[.int .i64 0, .int .i64 0, .slice none 0 0]) (t := 72) ?hr ?_; (case hd => rfl); (case hg => rfl); (case hr => first | (go_simp; done) | (go_simp; rfl)); intro gb108 hg w17 hbox hb; have n0_ := Aside0.mk (Kd.N_below (Kd.N_elderB (by (with_reducible repeat (first | apply Kd.N_alloc | apply Kd.N_drewN | apply Kd.N_drew)); exact HO105.out) gb108 (Nat.le_of_eq hg.symm)) hb); have n1_ := Aside0.mk (below_step (by repeat (first | (with_reducible first | exact HB.out | apply below_alloc | apply pw_below_drewN | apply below_drew1) | exact HB.out)) hb); have n2_ := Aside0.mk (hbox); have n3_ := Aside0.mk ((by rw [hg]; exact (below_size (by repeat (first | (with_reducible first | exact HB.out | apply below_alloc | apply pw_below_drewN | apply below_drew1) | exact HB.out))) : w.heap.size ≤ gb108)); have n4_ := Aside0.mk ((by rw [hg]; exact (below_size (by repeat (first | (with_reducible first | exact HB.out | apply below_alloc | apply pw_below_drewN | apply below_drew1) | exact HB.out))) : w.heap.size ≤ gb108)); clear HO105; clear HB; have HO105 := n0_; have HB := n1_; have BK108 := n2_; have GW108 := n3_; have GE108 := n4_; clear n0_ n1_ n2_ n3_ n4_; clear hb hbox hg; have hcz18_0 : w17.cell? ⟨gb108, 0, none⟩ = some (.int .i64 0) := (blk_cell BK108.out 0).trans rfl; have hcz18_1 : w17.cell? ⟨gb108, 1, none⟩ = some (.int .i64 0) := (blk_cell BK108.out 1).trans rfl; have hcz18_2 : w17.cell? ⟨gb108, 2, none⟩ = some (.slice none 0 0) := (blk_cell BK108.out 2).trans rfl; have hfz18_0 := blk_frozen BK108.out 0; have hfz18_1 := blk_frozen BK108.out 1; have hfz18_2 := blk_frozen BK108.out 2; obtain ⟨Ao19, co19, eo19⟩ := Kd.N_slice HO105.out; subst eo19) | (go_at_call 37; (with_reducible refine (impl_term_text.calls k t101 t102 _ _ t103 t109 _ ?side1 ?side2 A6.out (HE.out.below (by repeat (first | (with_reducible first | exact HB.out | apply below_alloc | apply pw_below_drewN | apply below_drew1 | refine below_set ?_ GE108.out) | exact HB.out)))).mono ?_); (case side1 => refine (Kd.N_reads' (e := 72) (base := w.heap.size) (ok := fun k_ => (True ∧ k_ ≠ gb108)) (n := t103.length) (c := co19) ?_).2.2; exact (by (with_reducible repeat (first | apply Kd.N_alloc | apply Kd.N_drewN | apply Kd.N_drew)); exact (Kd.N_mono (Kd.N_far (p := ⟨gb108, 2, none⟩) (Kd.N_far (p := ⟨gb108, 1, none⟩) (Kd.N_far (p := ⟨gb108, 0, none⟩) (Kd.N_mono HO105.out (fun k_ hk => (⟨hk, hk.2⟩ : _ ∧ k_ ≠ gb108))) (fun _ hk => hk.2) (.int .i64 t101)) (fun _ hk => hk.2) (.int .i64 t102)) (fun _ hk => hk.2) (.slice Ao19 t103.length co19)) (fun _ h_ => h_.1)))); (case side2 => exact (Kd.N_reads' HO105.out).2.1); rintro e w20 ⟨rfl, hb⟩; have n0_ := Aside0.mk (Kd.N_below (by (with_reducible repeat (first | apply Kd.N_alloc | apply Kd.N_drewN | apply Kd.N_drew)); exact (Kd.N_mono (Kd.N_far (p := ⟨gb108, 2, none⟩) (Kd.N_far (p := ⟨gb108, 1, none⟩) (Kd.N_far (p := ⟨gb108, 0, none⟩) (Kd.N_mono HO105.out (fun k_ hk => (⟨hk, hk.2⟩ : _ ∧ k_ ≠ gb108))) (fun _ hk => hk.2) (.int .i64 t101)) (fun _ hk => hk.2) (.int .i64 t102)) (fun _ hk => hk.2) (.slice Ao19 t103.length co19)) (fun _ h_ => h_.1))) hb); have n1_ := Aside0.mk (blk_below (g := gb108) (o := .cells #[.int .i64 t101, .int .i64 t102, .slice Ao19 t103.length co19] 72 (0, 0)) (by (with_reducible repeat (first | refine blk_drewN ?_ _ | refine blk_drew ?_ | refine blk_alloc ?_ _)); refine blk_put (cs := #[.int .i64 t101, .int .i64 t102, .slice none 0 0]) ?_ 2 _ rfl; (with_reducible repeat (first | refine blk_drewN ?_ _ | refine blk_drew ?_ | refine blk_alloc ?_ _)); refine blk_put (cs := #[.int .i64 t101, .int .i64 0, .slice none 0 0]) ?_ 1 _ rfl; (with_reducible repeat (first | refine blk_drewN ?_ _ | refine blk_drew ?_ | refine blk_alloc ?_ _)); refine blk_put (cs := #[.int .i64 0, .int .i64 0, .slice none 0 0]) ?_ 0 _ rfl; (with_reducible repeat (first | refine blk_drewN ?_ _ | refine blk_drew ?_ | refine blk_alloc ?_ _)); exact BK108.out) hb); have n2_ := Aside0.mk (below_step (by repeat (first | (with_reducible first | exact HB.out | apply below_alloc | apply pw_below_drewN | apply below_drew1 | refine below_set ?_ GE108.out) | exact HB.out)) hb); clear HO105; clear BK108; clear HB; have HO105 := n0_; have BK108 := n1_; have HB := n2_; clear n0_ n1_ n2_; (try clear hb); (try clear hb2); (try clear hk); (try clear hi)))
          go_ret2
          exact ⟨_, by first | rfl | (simp [errW_none, errW_some] <;> rfl) | (simp [*, errW_none, errW_some] <;> rfl), by first | exact Kd.R_nil _ _ _ _ _ | exact Kd.N_nil _ _ _ _ _ | exact Kd.V_nil _ _ _ _ _ | exact Kd.Q_nil _ _ _ _ _ | exact Kd.S_nil _ _ _ _ _, by repeat (first | (with_reducible first | exact HB.out | apply below_alloc | apply pw_below_drewN | apply below_drew1 | refine below_set ?_ GE108.out) | exact HB.out)⟩
      · rw [if_neg c5] at H
        have c5b0 : (t106.toList == ([] : List UInt8)) = false := beq_eq_false_iff_ne.mpr c5
        have c5b1 : (t106.toList != ([] : List UInt8)) = true := bne_iff_ne.mpr c5
        simp only [Option.some.injEq, Prod.mk.injEq] at H
        obtain ⟨rfl, rfl⟩ := H
        go_enter Tryd.func22, Tryd.ntmps22
        go_wp2_with (first | ((with_reducible refine gate_callee (f := 45) rfl ?_); refine goesL_ (some 12) rfl rfl Tryd.func45 (by kernel_rfl) rfl #[.string a0, .int .i64 1] rfl (by (try simp only [List.map_toArray, List.map_cons, List.map_nil]); first | done | rfl | (simp only [List.length_drop, List.length_take]; rfl)) ?_; (with_reducible refine (impl_termRead.calls k a0 1 t101 t102 t103 t106 true _ A3.out (HE.out.below (by repeat (first | (with_reducible first | exact HB.out | apply below_alloc | apply pw_below_drewN | apply below_drew1) | exact HB.out)))).mono ?_); rintro e w21 ⟨v104, rfl, ho0, hb⟩; refine ⟨_, rfl, ?_⟩; have n0_ := Aside0.mk (Kd.N_lower (Kd.N_mono (ok' := fun k_ => True) ho0 (fun k_ hk_ => trivial)) (below_size (by repeat (first | (with_reducible first | exact HB.out | apply below_alloc | apply pw_below_drewN | apply below_drew1) | exact HB.out)))); have n1_ := Aside0.mk (below_step (by repeat (first | (with_reducible first | exact HB.out | apply below_alloc | apply pw_below_drewN | apply below_drew1) | exact HB.out)) hb); clear HB; have HO105 := n0_; have HB := n1_; clear n0_ n1_; (try clear hb); (try clear hb2); (try clear hk); (try clear hi); (try clear ho0)) | ((with_reducible refine gate_dst (N := 4) rfl ?_); refine box_event ?hg (N := 4) ?hd (cs := #[.int .i64 0, .int .i64 0, .slice none 0 0]) (t := 72) ?hr ?_; (case hd => rfl); (case hg => rfl); (case hr => first | (go_simp; done) | (go_simp; rfl)); intro gb108 hg w22 hbox hb; have n0_ := Aside0.mk (Kd.N_below (Kd.N_elderB (by (with_reducible repeat (first | apply Kd.N_alloc | apply Kd.N_drewN | apply Kd.N_drew)); exact HO105.out) gb108 (Nat.le_of_eq hg.symm)) hb); have n1_ := Aside0.mk (below_step (by repeat (first | (with_reducible first | exact HB.out | apply below_alloc | apply pw_below_drewN | apply below_drew1) | exact HB.out)) hb); have n2_ := Aside0.mk (hbox); have n3_ := Aside0.mk ((by rw [hg]; exact (below_size (by repeat (first | (with_reducible first | exact HB.out | apply below_alloc | apply pw_below_drewN | apply below_drew1) | exact HB.out))) : w.heap.size ≤ gb108)); have n4_ := Aside0.mk ((by rw [hg]; exact (below_size (by repeat (first | (with_reducible first | exact HB.out | apply below_alloc | apply pw_below_drewN | apply below_drew1) | exact HB.out))) : w.heap.size ≤ gb108)); clear HO105; clear HB; have HO105 := n0_; have HB := n1_; have BK108 := n2_; have GW108 := n3_; have GE108 := n4_; clear n0_ n1_ n2_ n3_ n4_; clear hb hbox hg; have hcz23_0 : w22.cell? ⟨gb108, 0, none⟩ = some (.int .i64 0) := (blk_cell BK108.out 0).trans rfl; have hcz23_1 : w22.cell? ⟨gb108, 1, none⟩ = some (.int .i64 0) := (blk_cell BK108.out 1).trans rfl; have hcz23_2 : w22.cell? ⟨gb108, 2, none⟩ = some (.slice none 0 0) := (blk_cell BK108.out 2).trans rfl; have hfz23_0 := blk_frozen BK108.out 0; have hfz23_1 := blk_frozen BK108.out 1; have hfz23_2 := blk_frozen BK108.out 2; obtain ⟨Ao24, co24, eo24⟩ := Kd.N_slice HO105.out; subst eo24))
        go_ret2
        exact ⟨_, by first | rfl | (simp [errW_none, errW_some] <;> rfl) | (simp [*, errW_none, errW_some] <;> rfl), by first | exact Kd.R_nil _ _ _ _ _ | exact Kd.N_nil _ _ _ _ _ | exact Kd.V_nil _ _ _ _ _ | exact Kd.Q_nil _ _ _ _ _ | exact Kd.S_nil _ _ _ _ _, by repeat (first | (with_reducible first | exact HB.out | apply below_alloc | apply pw_below_drewN | apply below_drew1 | refine below_set ?_ GE108.out) | exact HB.out)⟩
    · replace c4 := Bool.eq_false_iff.mpr c4
      subst c4
      have H1 : (some (([] : List (S67)), false)) = some (r1, r2) := by rw [if_neg (show ¬ (false = true) by decide)] at H; exact H
      clear H
      have H := H1
      clear H1
      simp only [Option.some.injEq, Prod.mk.injEq] at H
      obtain ⟨rfl, rfl⟩ := H
      go_enter Tryd.func22, Tryd.ntmps22
      go_wp2_with (first | ((with_reducible refine gate_callee (f := 45) rfl ?_); refine goesL_ (some 12) rfl rfl Tryd.func45 (by kernel_rfl) rfl #[.string a0, .int .i64 1] rfl (by (try simp only [List.map_toArray, List.map_cons, List.map_nil]); first | done | rfl | (simp only [List.length_drop, List.length_take]; rfl)) ?_; (with_reducible refine (impl_termRead.calls k a0 1 t101 t102 t103 t106 false _ A3.out (HE.out.below (by repeat (first | (with_reducible first | exact HB.out | apply below_alloc | apply pw_below_drewN | apply below_drew1) | exact HB.out)))).mono ?_); rintro e w25 ⟨v104, rfl, ho0, hb⟩; refine ⟨_, rfl, ?_⟩; have n0_ := Aside0.mk (Kd.N_lower (Kd.N_mono (ok' := fun k_ => True) ho0 (fun k_ hk_ => trivial)) (below_size (by repeat (first | (with_reducible first | exact HB.out | apply below_alloc | apply pw_below_drewN | apply below_drew1) | exact HB.out)))); have n1_ := Aside0.mk (below_step (by repeat (first | (with_reducible first | exact HB.out | apply below_alloc | apply pw_below_drewN | apply below_drew1) | exact HB.out)) hb); clear HB; have HO105 := n0_; have HB := n1_; clear n0_ n1_; (try clear hb); (try clear hb2); (try clear hk); (try clear hi); (try clear ho0)) | ((with_reducible refine gate_dst (N := 4) rfl ?_); refine box_event ?hg (N := 4) ?hd (cs := #[.int .i64 0, .int .i64 0, .slice none 0 0]) (t := 72) ?hr ?_; (case hd => rfl); (case hg => rfl); (case hr => first | (go_simp; done) | (go_simp; rfl)); intro gb108 hg w26 hbox hb; have n0_ := Aside0.mk (Kd.N_below (Kd.N_elderB (by (with_reducible repeat (first | apply Kd.N_alloc | apply Kd.N_drewN | apply Kd.N_drew)); exact HO105.out) gb108 (Nat.le_of_eq hg.symm)) hb); have n1_ := Aside0.mk (below_step (by repeat (first | (with_reducible first | exact HB.out | apply below_alloc | apply pw_below_drewN | apply below_drew1) | exact HB.out)) hb); have n2_ := Aside0.mk (hbox); have n3_ := Aside0.mk ((by rw [hg]; exact (below_size (by repeat (first | (with_reducible first | exact HB.out | apply below_alloc | apply pw_below_drewN | apply below_drew1) | exact HB.out))) : w.heap.size ≤ gb108)); have n4_ := Aside0.mk ((by rw [hg]; exact (below_size (by repeat (first | (with_reducible first | exact HB.out | apply below_alloc | apply pw_below_drewN | apply below_drew1) | exact HB.out))) : w.heap.size ≤ gb108)); clear HO105; clear HB; have HO105 := n0_; have HB := n1_; have BK108 := n2_; have GW108 := n3_; have GE108 := n4_; clear n0_ n1_ n2_ n3_ n4_; clear hb hbox hg; have hcz27_0 : w26.cell? ⟨gb108, 0, none⟩ = some (.int .i64 0) := (blk_cell BK108.out 0).trans rfl; have hcz27_1 : w26.cell? ⟨gb108, 1, none⟩ = some (.int .i64 0) := (blk_cell BK108.out 1).trans rfl; have hcz27_2 : w26.cell? ⟨gb108, 2, none⟩ = some (.slice none 0 0) := (blk_cell BK108.out 2).trans rfl; have hfz27_0 := blk_frozen BK108.out 0; have hfz27_1 := blk_frozen BK108.out 1; have hfz27_2 := blk_frozen BK108.out 2; obtain ⟨Ao28, co28, eo28⟩ := Kd.N_slice HO105.out; subst eo28))
      go_ret2
      exact ⟨_, by first | rfl | (simp [errW_none, errW_some] <;> rfl) | (simp [*, errW_none, errW_some] <;> rfl), by first | exact Kd.R_nil _ _ _ _ _ | exact Kd.N_nil _ _ _ _ _ | exact Kd.V_nil _ _ _ _ _ | exact Kd.Q_nil _ _ _ _ _ | exact Kd.S_nil _ _ _ _ _, by repeat (first | (with_reducible first | exact HB.out | apply below_alloc | apply pw_below_drewN | apply below_drew1 | refine below_set ?_ GE108.out) | exact HB.out)⟩

end Go.Proofs.YtcjhhdecckcibaaDoor.G

namespace Go.Proofs.YtcjhhdecckcibaaDoor.G
open Go.RowKit Go.Proofs.YtcjhhdecckcibaaDoorW.PrintWords Go.Proofs.YtcjhhdecckcibaaDoorW.PrintLast Go.Proofs.YtcjhhdecckcibaaDoorW.PrintMore
attribute [local go_sem] max2_int min2_int max_two min_two max_three min_three max_four min_four   -- for this text's walks alone
set_option linter.unusedVariables false
set_option linter.unusedSimpArgs false

def laws_markTermS.l0 : Nat → List (S67) → Int → Int → Option (Int × (List (S67)))
  | 0, _, _, _ => none
  | k + 1, x0, x1, x5 => if x5 < (x0.length : Int) then (if 0 ≤ x5 then ((some (x0.set (x5 : Int).toNat (⟨x1, (rd_T67 x0 x5).f1, (rd_T67 x0 x5).f2⟩ : S67) : List (S67))).bind fun y101 => ((some (y101.set (x5 : Int).toNat (⟨(rd_T67 y101 x5).f0, wrap64 (x1 + 1), (rd_T67 y101 x5).f2⟩ : S67) : List (S67))).bind fun y102 => (laws_markTermS.l0 k (y102.set (x5 : Int).toNat (⟨(rd_T67 y102 x5).f0, (rd_T67 y102 x5).f1, wrap64 ((wrap64 (x1 + 1)) + 1)⟩ : S67)) (wrap64 ((wrap64 ((wrap64 (x1 + 1)) + 1)) + 1)) (wrap64 (x5 + 1))))) else (none)) else (some (x1, x0))
def laws_markTermS.f (k : Nat) (l0 : List (S67)) (a1 : Int) : Option (Int × (List (S67))) := laws_markTermS.l0 k l0 a1 0
set_option maxHeartbeats 8000000 in
set_option maxRecDepth 100000 in
theorem laws_markTermS.calls (k : Nat) (P0_ : Nat → Prop) (u9000_ : Value) (l0 : List (S67)) (a1 : Int) (r1 : Int) (r2 : List (S67)) (w0 w : World) (hB : Below w0.heap.size w0 w) (ho0 : Kd.R k67 67 w w0.heap.size P0_ u9000_ l0) (h : laws_markTermS.f k l0 a1 = some (r1, r2)) :
    Calls Tryd.prog 23 #[u9000_, .int .i64 a1] w fun e w' => e = .returned (.int .i64 r1) ∧ Kd.R k67 67 w' w0.heap.size (fun k_ => (P0_ k_ ∨ w.heap.size ≤ k_)) u9000_ r2 ∧ Below w0.heap.size w0 w' ∧ Kept w w' (fun k_ => P0_ k_) := by
  have HO0 := Aside0.mk (show Kd.R k67 67 w w0.heap.size (fun k_ => (P0_ k_ ∨ w.heap.size ≤ k_)) u9000_ l0 from Kd.R_mono ho0 (fun k_ hk => (.inl hk)))
  have HK := Aside0.mk (Kept.refl w (fun k_ => P0_ k_))
  have HW0 := Aside0.mk hB.size
  have HB := Aside0.mk hB
  clear hB
  have H : (laws_markTermS.l0 k l0 a1 0) = some (r1, r2) := h
  clear h
  have H' := Aside0.mk H
  clear H
  go_enter Tryd.func23, Tryd.ntmps23
  go_wp2
  go_loopg [1, 5] k (fun kq v1 v5 w' => ∃ (x0_1 : List (S67)) (x1_1 : Int) (x5_1 : Int), v1 = .int .i64 x1_1 ∧ v5 = .int .i64 x5_1 ∧ Aside0 (laws_markTermS.l0 kq x0_1 x1_1 x5_1 = some (r1, r2)) ∧ Aside0 (kq ≤ k) ∧ Aside0 (Kd.R k67 67 w' w0.heap.size (fun k_ => (P0_ k_ ∨ w.heap.size ≤ k_)) u9000_ x0_1) ∧ Aside0 (Kept w w' (fun k_ => P0_ k_)) ∧ Aside0 (Below w0.heap.size w0 w'))
  case atStart => exact ⟨(l0), (a1), (0), (by first | rfl | (simp; done) | (simp [*]; done)), (by first | rfl | (simp; done) | (simp [*]; done)), H', ⟨Nat.le_refl _⟩, ⟨by (with_reducible repeat (first | apply Kd.R_alloc | apply Kd.R_drewN | apply Kd.R_drew)); exact HO0.out⟩, ⟨by repeat (first | (with_reducible first | exact HK.out | apply Kept.alloc | apply Kept.drewN | apply Kept.drew) | exact HK.out)⟩, ⟨by repeat (first | (with_reducible first | exact HB.out | apply below_alloc | apply pw_below_drewN | apply below_drew1) | exact HB.out)⟩⟩
  case round =>
    clear H'
    try clear c2
    try clear p2
    obtain ⟨x0_1, x1_1, x5_1, rfl, rfl, HA, HK1, HO_0, HK, HB⟩ := hrel
    cases gk with
    | zero => exact absurd HA.out (by simp [laws_markTermS.l0])
    | succ k1 =>
      have H := HA.out
      clear HA
      simp only [laws_markTermS.l0] at H
      by_cases c3 : x5_1 < (x0_1.length : Int)
      · rw [if_pos c3] at H
        have c3b0 : decide (x5_1 < (x0_1.length : Int)) = true := decide_eq_true c3
        clear c3
        by_cases c4 : 0 ≤ x5_1
        · rw [if_pos c4] at H
          have c4b0 : decide (0 ≤ x5_1) = true := decide_eq_true c4
          clear c4
          obtain ⟨y101, hy101⟩ : ∃ y_ : List (S67), y_ = (x0_1.set (x5_1 : Int).toNat (⟨x1_1, (rd_T67 x0_1 x5_1).f1, (rd_T67 x0_1 x5_1).f2⟩ : S67)) := ⟨_, rfl⟩
          replace H : ((some (y101.set (x5_1 : Int).toNat (⟨(rd_T67 y101 x5_1).f0, wrap64 (x1_1 + 1), (rd_T67 y101 x5_1).f2⟩ : S67) : List (S67))).bind fun y102 => (laws_markTermS.l0 k1 (y102.set (x5_1 : Int).toNat (⟨(rd_T67 y102 x5_1).f0, (rd_T67 y102 x5_1).f1, wrap64 ((wrap64 (x1_1 + 1)) + 1)⟩ : S67)) (wrap64 ((wrap64 ((wrap64 (x1_1 + 1)) + 1)) + 1)) (wrap64 (x5_1 + 1)))) = some (r1, r2) := by first | (rw [hy101]; with_reducible exact H) | (have H2_ := (Option.bind_some _ _).symm.trans H; rw [hy101]; with_reducible exact H2_) | (have H2_ := (Option.bind_some _ _).symm.trans H; with_reducible exact H2_) | with_reducible exact H | (rw [hy101]; exact H) | exact H
          have Ny101 := Aside0.mk hy101
          clear hy101
          obtain ⟨y102, hy102⟩ : ∃ y_ : List (S67), y_ = (y101.set (x5_1 : Int).toNat (⟨(rd_T67 y101 x5_1).f0, wrap64 (x1_1 + 1), (rd_T67 y101 x5_1).f2⟩ : S67)) := ⟨_, rfl⟩
          replace H : (laws_markTermS.l0 k1 (y102.set (x5_1 : Int).toNat (⟨(rd_T67 y102 x5_1).f0, (rd_T67 y102 x5_1).f1, wrap64 ((wrap64 (x1_1 + 1)) + 1)⟩ : S67)) (wrap64 ((wrap64 ((wrap64 (x1_1 + 1)) + 1)) + 1)) (wrap64 (x5_1 + 1))) = some (r1, r2) := by first | (rw [hy102]; with_reducible exact H) | (have H2_ := (Option.bind_some _ _).symm.trans H; rw [hy102]; with_reducible exact H2_) | (have H2_ := (Option.bind_some _ _).symm.trans H; with_reducible exact H2_) | with_reducible exact H | (rw [hy102]; exact H) | exact H
          have Ny102 := Aside0.mk hy102
          clear hy102
          obtain ⟨y103, hy103⟩ : ∃ y_ : List (S67), y_ = (y102.set (x5_1 : Int).toNat (⟨(rd_T67 y102 x5_1).f0, (rd_T67 y102 x5_1).f1, wrap64 ((wrap64 (x1_1 + 1)) + 1)⟩ : S67)) := ⟨_, rfl⟩
          replace H : (laws_markTermS.l0 k1 y103 (wrap64 ((wrap64 ((wrap64 (x1_1 + 1)) + 1)) + 1)) (wrap64 (x5_1 + 1))) = some (r1, r2) := by first | (rw [hy103]; with_reducible exact H) | (have H2_ := (Option.bind_some _ _).symm.trans H; rw [hy103]; with_reducible exact H2_) | (have H2_ := (Option.bind_some _ _).symm.trans H; with_reducible exact H2_) | with_reducible exact H | (rw [hy103]; exact H) | exact H
          have Ny103 := Aside0.mk hy103
          clear hy103
          have H' := Aside0.mk H
          clear H
          obtain ⟨Ao8, co8, eo8⟩ := Kd.R_slice HO_0.out
          subst eo8
          have p5 : 0 ≤ (x5_1 : Int) := of_decide_eq_true (by first | (with_reducible assumption) | assumption)
          have q5 : (x5_1 : Int) < ((x0_1.length : Int) : Int) := of_decide_eq_true (by first | (with_reducible assumption) | assumption)
          obtain ⟨go5, co5, eo5, gb5, gl5, cl5, HG5⟩ := Kd.R_form HO_0.out (by omega)
          (first | cases eo5 | (injection eo5 with ea_ en_ ec_; (first | subst ea_ | (injection ea_ with ea_; subst ea_)); subst ec_; clear en_))
          have GB5 := Aside0.mk gb5
          have GG5 := Aside0.mk HG5
          clear gb5 gl5 HG5
          have HMgo5 := Aside0.mk (show (P0_ go5 ∨ w.heap.size ≤ go5) from (HO_0.out.1 _ rfl))
          obtain ⟨ce5, hcl5, hM5, hcc5, hfr5⟩ := Kd.R_elem HO_0.out z67 (x5_1 : Int) p5 q5
          obtain rfl := k67_openM hM5
          have hx5_0 : wr.cell? ⟨go5, (x5_1 : Int).toNat * 3, none⟩ = some (.int .i64 ((rd_T67 x0_1 x5_1).f0)) := hcc5 0 _ rfl
          have hx5_1 : wr.cell? ⟨go5, (x5_1 : Int).toNat * 3 + 1, none⟩ = some (.int .i64 ((rd_T67 x0_1 x5_1).f1)) := hcc5 1 _ rfl
          have hx5_2 : wr.cell? ⟨go5, (x5_1 : Int).toNat * 3 + 2, none⟩ = some (.int .i64 ((rd_T67 x0_1 x5_1).f2)) := hcc5 2 _ rfl
          have hf5_0 : wr.frozen? ⟨go5, (x5_1 : Int).toNat * 3, none⟩ = false := hfr5 0
          have hf5_1 : wr.frozen? ⟨go5, (x5_1 : Int).toNat * 3 + 1, none⟩ = false := hfr5 1
          have hf5_2 : wr.frozen? ⟨go5, (x5_1 : Int).toNat * 3 + 2, none⟩ = false := hfr5 2
          clear hcl5 hcc5 hfr5 hM5
          replace p5 := eq_true p5
          replace q5 := eq_true q5
          have HX9 := Aside0.mk (show Kd.R k67 67 wr w0.heap.size (fun k_ => (P0_ k_ ∨ w.heap.size ≤ k_)) (.slice (some ⟨go5, 0, none⟩) x0_1.length co8) x0_1 from (by (with_reducible repeat (first | apply Kd.R_alloc | apply Kd.R_drewN | apply Kd.R_drew)); exact HO_0.out))
          obtain ⟨ce9, hcl9, hM9, hcc9, hfr9⟩ := Kd.R_elem HX9.out z67 (x5_1 : Int) (of_decide_eq_true (by first | (with_reducible assumption) | assumption)) (by have h_ : (x5_1 : Int) < ((x0_1.length : Int) : Int) := of_decide_eq_true (by first | (with_reducible assumption) | assumption); first | exact h_ | (have e_ := (Kd.R_reads' HO_0.out).1; omega) | simpa using h_)
          obtain rfl := k67_openM hM9
          have HP9 := Kd.R_seg HX9.out (x5_1 : Int) (of_decide_eq_true (by first | (with_reducible assumption) | assumption)) (by have h_ : (x5_1 : Int) < ((x0_1.length : Int) : Int) := of_decide_eq_true (by first | (with_reducible assumption) | assumption); first | exact h_ | (have e_ := (Kd.R_reads' HO_0.out).1; omega) | simpa using h_) (seg := [.int .i64 x1_1]) (j := 0) hcl9 hcc9 (show 1 ≤ 3 from by decide) (x' := (⟨x1_1, (rd_T67 x0_1 x5_1).f1, (rd_T67 x0_1 x5_1).f2⟩ : S67)) (k67_mkM _ _ _ (⟨x1_1, (rd_T67 x0_1 x5_1).f1, (rd_T67 x0_1 x5_1).f2⟩ : S67) ) (fun _ hk => hk)
          have hx9_0 := hcc9 0 _ rfl
          (try simp only [show (k67).sz = 3 from rfl, Nat.mul_one, Nat.add_zero] at hx9_0)
          have hf9_0 := hfr9 0
          (try simp only [show (k67).sz = 3 from rfl, Nat.mul_one, Nat.add_zero] at hf9_0)
          clear hcl9 hcc9 hfr9 hM9
          go_wp2_with (first | ((with_reducible refine gate_store (t := 3) (p := 16) rfl ?_); refine store_event (t := 3) (p := 16) (v := ?vo_w10) (w1 := (wr.setCell ⟨go5, (x5_1 : Int).toNat * 3, none⟩ (.int .i64 x1_1))) ?hg ?ho ?hn ?hr ?_; (case ho => rfl); (case hg => rfl); (case hn => rfl); (case hr => first | (go_simp; done) | (go_simp; rfl)); intro w10 hw; have hg : wr.grownBy w10 (some go5) := (by rw [hw]; exact HP9.2); have hp_ : Kd.R k67 67 w10 w0.heap.size (fun k_ => (P0_ k_ ∨ w.heap.size ≤ k_)) (.slice (some ⟨go5, 0, none⟩) x0_1.length co8) y101 := (by rw [hw, Ny101.out]; exact HP9.1); clear HP9; have n0_ := Aside0.mk (hp_); have n1_ := Aside0.mk ((by rw [hw]; exact below_set (HB.out) GB5.out : Below w0.heap.size w0 w10)); have n2_ := Aside0.mk (Kept.of_grown (S := (fun k_ => P0_ k_)) hg (by repeat (first | (with_reducible first | exact HK.out | apply Kept.alloc | apply Kept.drewN | apply Kept.drew) | exact HK.out)) (fun k_ e_ => (HO_0.out.1 k_ e_))); clear HO_0; clear HB; clear HK; have HO_0 := n0_; have HB := n1_; have HK := n2_; clear n0_ n1_ n2_; clear hg hw hp_; have p6 : 0 ≤ (x5_1 : Int) := of_decide_eq_true (by first | (with_reducible assumption) | assumption); have q6 : (x5_1 : Int) < ((x0_1.length : Int) : Int) := of_decide_eq_true (by first | (with_reducible assumption) | assumption); obtain ⟨ce6, hcl6, hM6, hcc6, hfr6⟩ := Kd.R_elem HO_0.out z67 (x5_1 : Int) p6 q6; obtain rfl := k67_openM hM6; have hx6_0 : w10.cell? ⟨go5, (x5_1 : Int).toNat * 3, none⟩ = some (.int .i64 ((rd_T67 y101 x5_1).f0)) := hcc6 0 _ rfl; have hx6_1 : w10.cell? ⟨go5, (x5_1 : Int).toNat * 3 + 1, none⟩ = some (.int .i64 ((rd_T67 y101 x5_1).f1)) := hcc6 1 _ rfl; have hx6_2 : w10.cell? ⟨go5, (x5_1 : Int).toNat * 3 + 2, none⟩ = some (.int .i64 ((rd_T67 y101 x5_1).f2)) := hcc6 2 _ rfl; have hf6_0 : w10.frozen? ⟨go5, (x5_1 : Int).toNat * 3, none⟩ = false := hfr6 0; have hf6_1 : w10.frozen? ⟨go5, (x5_1 : Int).toNat * 3 + 1, none⟩ = false := hfr6 1; have hf6_2 : w10.frozen? ⟨go5, (x5_1 : Int).toNat * 3 + 2, none⟩ = false := hfr6 2; clear hcl6 hcc6 hfr6 hM6; replace p6 := eq_true p6; replace q6 := eq_true q6; have HX11 := Aside0.mk (show Kd.R k67 67 w10 w0.heap.size (fun k_ => (P0_ k_ ∨ w.heap.size ≤ k_)) (.slice (some ⟨go5, 0, none⟩) x0_1.length co8) y101 from (by (with_reducible repeat (first | apply Kd.R_alloc | apply Kd.R_drewN | apply Kd.R_drew)); exact HO_0.out)); obtain ⟨ce11, hcl11, hM11, hcc11, hfr11⟩ := Kd.R_elem HX11.out z67 (x5_1 : Int) (of_decide_eq_true (by first | (with_reducible assumption) | assumption)) (by have h_ : (x5_1 : Int) < ((x0_1.length : Int) : Int) := of_decide_eq_true (by first | (with_reducible assumption) | assumption); first | exact h_ | (have e_ := (Kd.R_reads' HO_0.out).1; omega) | simpa using h_); obtain rfl := k67_openM hM11; have HP11 := Kd.R_seg HX11.out (x5_1 : Int) (of_decide_eq_true (by first | (with_reducible assumption) | assumption)) (by have h_ : (x5_1 : Int) < ((x0_1.length : Int) : Int) := of_decide_eq_true (by first | (with_reducible assumption) | assumption); first | exact h_ | (have e_ := (Kd.R_reads' HO_0.out).1; omega) | simpa using h_) (seg := [.int .i64 (wrap64 (x1_1 + 1))]) (j := 1) hcl11 hcc11 (show 2 ≤ 3 from by decide) (x' := (⟨(rd_T67 y101 x5_1).f0, wrap64 (x1_1 + 1), (rd_T67 y101 x5_1).f2⟩ : S67)) (k67_mkM _ _ _ (⟨(rd_T67 y101 x5_1).f0, wrap64 (x1_1 + 1), (rd_T67 y101 x5_1).f2⟩ : S67) ) (fun _ hk => hk); have hx11_1 := hcc11 1 _ rfl; (try simp only [show (k67).sz = 3 from rfl, Nat.mul_one, Nat.add_zero] at hx11_1); have hf11_1 := hfr11 1; (try simp only [show (k67).sz = 3 from rfl, Nat.mul_one, Nat.add_zero] at hf11_1); clear hcl11 hcc11 hfr11 hM11) | ((with_reducible refine gate_store (t := 3) (p := 23) rfl ?_); refine store_event (t := 3) (p := 23) (v := ?vo_w12) (w1 := (w10.setCell ⟨go5, (x5_1 : Int).toNat * 3 + 1, none⟩ (.int .i64 (wrap64 (x1_1 + 1))))) ?hg ?ho ?hn ?hr ?_; (case ho => rfl); (case hg => rfl); (case hn => rfl); (case hr => first | (go_simp; done) | (go_simp; rfl)); intro w12 hw; have hg : w10.grownBy w12 (some go5) := (by rw [hw]; exact HP11.2); have hp_ : Kd.R k67 67 w12 w0.heap.size (fun k_ => (P0_ k_ ∨ w.heap.size ≤ k_)) (.slice (some ⟨go5, 0, none⟩) x0_1.length co8) y102 := (by rw [hw, Ny102.out]; exact HP11.1); clear HP11; have n0_ := Aside0.mk (hp_); have n1_ := Aside0.mk ((by rw [hw]; exact below_set (HB.out) GB5.out : Below w0.heap.size w0 w12)); have n2_ := Aside0.mk (Kept.of_grown (S := (fun k_ => P0_ k_)) hg (by repeat (first | (with_reducible first | exact HK.out | apply Kept.alloc | apply Kept.drewN | apply Kept.drew) | exact HK.out)) (fun k_ e_ => (HO_0.out.1 k_ e_))); clear HO_0; clear HB; clear HK; have HO_0 := n0_; have HB := n1_; have HK := n2_; clear n0_ n1_ n2_; clear hg hw hp_; have p7 : 0 ≤ (x5_1 : Int) := of_decide_eq_true (by first | (with_reducible assumption) | assumption); have q7 : (x5_1 : Int) < ((x0_1.length : Int) : Int) := of_decide_eq_true (by first | (with_reducible assumption) | assumption); obtain ⟨ce7, hcl7, hM7, hcc7, hfr7⟩ := Kd.R_elem HO_0.out z67 (x5_1 : Int) p7 q7; obtain rfl := k67_openM hM7; have hx7_0 : w12.cell? ⟨go5, (x5_1 : Int).toNat * 3, none⟩ = some (.int .i64 ((rd_T67 y102 x5_1).f0)) := hcc7 0 _ rfl; have hx7_1 : w12.cell? ⟨go5, (x5_1 : Int).toNat * 3 + 1, none⟩ = some (.int .i64 ((rd_T67 y102 x5_1).f1)) := hcc7 1 _ rfl; have hx7_2 : w12.cell? ⟨go5, (x5_1 : Int).toNat * 3 + 2, none⟩ = some (.int .i64 ((rd_T67 y102 x5_1).f2)) := hcc7 2 _ rfl; have hf7_0 : w12.frozen? ⟨go5, (x5_1 : Int).toNat * 3, none⟩ = false := hfr7 0; have hf7_1 : w12.frozen? ⟨go5, (x5_1 : Int).toNat * 3 + 1, none⟩ = false := hfr7 1; have hf7_2 : w12.frozen? ⟨go5, (x5_1 : Int).toNat * 3 + 2, none⟩ = false := hfr7 2; clear hcl7 hcc7 hfr7 hM7; replace p7 := eq_true p7; replace q7 := eq_true q7; have HX13 := Aside0.mk (show Kd.R k67 67 w12 w0.heap.size (fun k_ => (P0_ k_ ∨ w.heap.size ≤ k_)) (.slice (some ⟨go5, 0, none⟩) x0_1.length co8) y102 from (by (with_reducible repeat (first | apply Kd.R_alloc | apply Kd.R_drewN | apply Kd.R_drew)); exact HO_0.out)); obtain ⟨ce13, hcl13, hM13, hcc13, hfr13⟩ := Kd.R_elem HX13.out z67 (x5_1 : Int) (of_decide_eq_true (by first | (with_reducible assumption) | assumption)) (by have h_ : (x5_1 : Int) < ((x0_1.length : Int) : Int) := of_decide_eq_true (by first | (with_reducible assumption) | assumption); first | exact h_ | (have e_ := (Kd.R_reads' HO_0.out).1; omega) | simpa using h_); obtain rfl := k67_openM hM13; have HP13 := Kd.R_seg HX13.out (x5_1 : Int) (of_decide_eq_true (by first | (with_reducible assumption) | assumption)) (by have h_ : (x5_1 : Int) < ((x0_1.length : Int) : Int) := of_decide_eq_true (by first | (with_reducible assumption) | assumption); first | exact h_ | (have e_ := (Kd.R_reads' HO_0.out).1; omega) | simpa using h_) (seg := [.int .i64 (wrap64 ((wrap64 (x1_1 + 1)) + 1))]) (j := 2) hcl13 hcc13 (show 3 ≤ 3 from by decide) (x' := (⟨(rd_T67 y102 x5_1).f0, (rd_T67 y102 x5_1).f1, wrap64 ((wrap64 (x1_1 + 1)) + 1)⟩ : S67)) (k67_mkM _ _ _ (⟨(rd_T67 y102 x5_1).f0, (rd_T67 y102 x5_1).f1, wrap64 ((wrap64 (x1_1 + 1)) + 1)⟩ : S67) ) (fun _ hk => hk); have hx13_2 := hcc13 2 _ rfl; (try simp only [show (k67).sz = 3 from rfl, Nat.mul_one, Nat.add_zero] at hx13_2); have hf13_2 := hfr13 2; (try simp only [show (k67).sz = 3 from rfl, Nat.mul_one, Nat.add_zero] at hf13_2); clear hcl13 hcc13 hfr13 hM13) | ((with_reducible refine gate_store (t := 3) (p := 30) rfl ?_); refine store_event (t := 3) (p := 30) (v := ?vo_w14) (w1 := (w12.setCell ⟨go5, (x5_1 : Int).toNat * 3 + 2, none⟩ (.int .i64 (wrap64 ((wrap64 (x1_1 + 1)) + 1))))) ?hg ?ho ?hn ?hr ?_; (case ho => rfl); (case hg => rfl); (case hn => rfl); (case hr => first | (go_simp; done) | (go_simp; rfl)); intro w14 hw; have hg : w12.grownBy w14 (some go5) := (by rw [hw]; exact HP13.2); have hp_ : Kd.R k67 67 w14 w0.heap.size (fun k_ => (P0_ k_ ∨ w.heap.size ≤ k_)) (.slice (some ⟨go5, 0, none⟩) x0_1.length co8) y103 := (by rw [hw, Ny103.out]; exact HP13.1); clear HP13; have n0_ := Aside0.mk (hp_); have n1_ := Aside0.mk ((by rw [hw]; exact below_set (HB.out) GB5.out : Below w0.heap.size w0 w14)); have n2_ := Aside0.mk (Kept.of_grown (S := (fun k_ => P0_ k_)) hg (by repeat (first | (with_reducible first | exact HK.out | apply Kept.alloc | apply Kept.drewN | apply Kept.drew) | exact HK.out)) (fun k_ e_ => (HO_0.out.1 k_ e_))); clear HO_0; clear HB; clear HK; have HO_0 := n0_; have HB := n1_; have HK := n2_; clear n0_ n1_ n2_; clear hg hw hp_))
          go_roundg k1
          case measure => have := HK1.out; omega
          case rel => exact ⟨(y103), (wrap64 ((wrap64 ((wrap64 (x1_1 + 1)) + 1)) + 1)), (wrap64 (x5_1 + 1)), (by first | rfl | (simp; done) | (simp [*]; done)), (by first | rfl | (simp; done) | (simp [*]; done)), H', ⟨by have := HK1.out; omega⟩, ⟨by (with_reducible repeat (first | apply Kd.R_alloc | apply Kd.R_drewN | apply Kd.R_drew)); exact HO_0.out⟩, ⟨by repeat (first | (with_reducible first | exact HK.out | apply Kept.alloc | apply Kept.drewN | apply Kept.drew) | exact HK.out)⟩, ⟨by repeat (first | (with_reducible first | exact HB.out | apply below_alloc | apply pw_below_drewN | apply below_drew1) | exact HB.out)⟩⟩
        · rw [if_neg c4] at H
          exact absurd H (by simp)
      · rw [if_neg c3] at H
        have c3b0 : decide (x5_1 < (x0_1.length : Int)) = false := decide_eq_false c3
        clear c3
        simp only [Option.some.injEq, Prod.mk.injEq] at H
        obtain ⟨rfl, rfl⟩ := H
        obtain ⟨Ao15, co15, eo15⟩ := Kd.R_slice HO_0.out
        subst eo15
        go_wp2
        go_ret
        exact ⟨by first | rfl | (simp [errW_none, errW_some] <;> rfl) | (simp [*, errW_none, errW_some] <;> rfl), by (with_reducible repeat (first | apply Kd.R_alloc | apply Kd.R_drewN | apply Kd.R_drew)); exact HO_0.out, by repeat (first | (with_reducible first | exact HB.out | apply below_alloc | apply pw_below_drewN | apply below_drew1) | exact HB.out), by repeat (first | (with_reducible first | exact HK.out | apply Kept.alloc | apply Kept.drewN | apply Kept.drew) | exact HK.out)⟩

end Go.Proofs.YtcjhhdecckcibaaDoor.G

namespace Go.Proofs.YtcjhhdecckcibaaDoor.G
open Go.RowKit Go.Proofs.YtcjhhdecckcibaaDoorW.PrintWords Go.Proofs.YtcjhhdecckcibaaDoorW.PrintLast Go.Proofs.YtcjhhdecckcibaaDoorW.PrintMore
attribute [local go_sem] max2_int min2_int max_two min_two max_three min_three max_four min_four   -- for this text's walks alone
set_option linter.unusedVariables false
set_option linter.unusedSimpArgs false

def laws_heldTermS.l0 : Nat → List (S67) → Int → Int → Option (Int)
  | 0, _, _, _ => none
  | k + 1, x0, x1, x5 => if x5 < (x0.length : Int) then (if 0 ≤ x5 then (if ((rd_T67 x0 x5).f0) = x1 then (if ((rd_T67 x0 x5).f1) = (wrap64 (x1 + 1)) then (if ((rd_T67 x0 x5).f2) = (wrap64 ((wrap64 (x1 + 1)) + 1)) then (laws_heldTermS.l0 k x0 (wrap64 ((wrap64 ((wrap64 (x1 + 1)) + 1)) + 1)) (wrap64 (x5 + 1))) else (some (-1))) else (some (-1))) else (some (-1))) else (none)) else (some x1)
def laws_heldTermS.f (k : Nat) (l0 : List (S67)) (a1 : Int) : Option (Int) := laws_heldTermS.l0 k l0 a1 0
set_option maxHeartbeats 8000000 in
set_option maxRecDepth 100000 in
theorem laws_heldTermS.calls (k : Nat) (A0 : Option Addr) (c0 : Nat) (l0 : List (S67)) (a1 : Int) (r : Int) (w : World) (hr0 : Kd.C k67 w A0 l0.length l0) (hc0 : l0.length ≤ c0) (h : laws_heldTermS.f k l0 a1 = some r) :
    Calls Tryd.prog 24 #[.slice A0 l0.length c0, .int .i64 a1] w fun e w' => e = .returned (.int .i64 r) ∧ Drawn0 w w' := by
  have HR0 := Aside0.mk hr0
  have HC0 := Aside0.mk hc0
  clear hr0 hc0
  have H : (laws_heldTermS.l0 k l0 a1 0) = some r := h
  clear h
  have H' := Aside0.mk H
  clear H
  go_enter Tryd.func24, Tryd.ntmps24
  go_wp2
  go_loopg [1, 5] k (fun kq v1 v5 w' => ∃ (x1_1 : Int) (x5_1 : Int), v1 = .int .i64 x1_1 ∧ v5 = .int .i64 x5_1 ∧ Aside0 (laws_heldTermS.l0 kq l0 x1_1 x5_1 = some r) ∧ Aside0 (kq ≤ k) ∧ Drawn0 w w')
  case atStart => exact ⟨(a1), (0), (by first | rfl | (simp; done) | (simp [*]; done)), (by first | rfl | (simp; done) | (simp [*]; done)), H', ⟨Nat.le_refl _⟩, by repeat (first | exact Drawn0.refl _ | apply Drawn0.step)⟩
  case round =>
    clear H'
    try clear c2
    try clear p2
    obtain ⟨x1_1, x5_1, rfl, rfl, HA, HK1, ⟨m1, rfl⟩⟩ := hrel
    cases gk with
    | zero => exact absurd HA.out (by simp [laws_heldTermS.l0])
    | succ k1 =>
      have H := HA.out
      clear HA
      simp only [laws_heldTermS.l0] at H
      by_cases c3 : x5_1 < (l0.length : Int)
      · rw [if_pos c3] at H
        have c3b0 : decide (x5_1 < (l0.length : Int)) = true := decide_eq_true c3
        clear c3
        by_cases c4 : 0 ≤ x5_1
        · rw [if_pos c4] at H
          have c4b0 : decide (0 ≤ x5_1) = true := decide_eq_true c4
          clear c4
          by_cases c5 : ((rd_T67 l0 x5_1).f0) = x1_1
          · rw [if_pos c5] at H
            have c5b0 : (((rd_T67 l0 x5_1).f0) == x1_1) = true := beq_iff_eq.mpr c5
            have c5b1 : (((rd_T67 l0 x5_1).f0) != x1_1) = false := bne_eq_false_iff_eq.mpr c5
            clear c5
            by_cases c6 : ((rd_T67 l0 x5_1).f1) = (wrap64 (x1_1 + 1))
            · rw [if_pos c6] at H
              have c6b0 : (((rd_T67 l0 x5_1).f1) == (wrap64 (x1_1 + 1))) = true := beq_iff_eq.mpr c6
              have c6b1 : (((rd_T67 l0 x5_1).f1) != (wrap64 (x1_1 + 1))) = false := bne_eq_false_iff_eq.mpr c6
              clear c6
              by_cases c7 : ((rd_T67 l0 x5_1).f2) = (wrap64 ((wrap64 (x1_1 + 1)) + 1))
              · rw [if_pos c7] at H
                have c7b0 : (((rd_T67 l0 x5_1).f2) == (wrap64 ((wrap64 (x1_1 + 1)) + 1))) = true := beq_iff_eq.mpr c7
                have c7b1 : (((rd_T67 l0 x5_1).f2) != (wrap64 ((wrap64 (x1_1 + 1)) + 1))) = false := bne_eq_false_iff_eq.mpr c7
                clear c7
                have H' := Aside0.mk H
                clear H
                have p101 : 0 ≤ (x5_1 : Int) := of_decide_eq_true (by first | (with_reducible assumption) | assumption)
                have q101 : x5_1 < (l0.length : Int) := of_decide_eq_true (by first | (with_reducible assumption) | assumption)
                obtain ⟨ad101, e101, hx101_0, hx101_1, hx101_2⟩ := at_T67 HR0.out x5_1 p101 q101
                cases e101
                replace p101 := eq_true p101
                replace q101 := eq_true q101
                have p102 : 0 ≤ (x5_1 : Int) := of_decide_eq_true (by first | (with_reducible assumption) | assumption)
                have q102 : x5_1 < (l0.length : Int) := of_decide_eq_true (by first | (with_reducible assumption) | assumption)
                obtain ⟨ad102, e102, hx102_0, hx102_1, hx102_2⟩ := at_T67 HR0.out x5_1 p102 q102
                obtain rfl : ad101 = ad102 := (by injection e102)
                replace p102 := eq_true p102
                replace q102 := eq_true q102
                have p103 : 0 ≤ (x5_1 : Int) := of_decide_eq_true (by first | (with_reducible assumption) | assumption)
                have q103 : x5_1 < (l0.length : Int) := of_decide_eq_true (by first | (with_reducible assumption) | assumption)
                obtain ⟨ad103, e103, hx103_0, hx103_1, hx103_2⟩ := at_T67 HR0.out x5_1 p103 q103
                obtain rfl : ad101 = ad103 := (by injection e103)
                replace p103 := eq_true p103
                replace q103 := eq_true q103
                go_wp2
                go_roundg k1
                case measure => have := HK1.out; omega
                case rel => exact ⟨(wrap64 ((wrap64 ((wrap64 (x1_1 + 1)) + 1)) + 1)), (wrap64 (x5_1 + 1)), (by first | rfl | (simp; done) | (simp [*]; done)), (by first | rfl | (simp; done) | (simp [*]; done)), H', ⟨by have := HK1.out; omega⟩, by repeat (first | exact Drawn0.refl _ | apply Drawn0.step)⟩
              · rw [if_neg c7] at H
                have c7b0 : (((rd_T67 l0 x5_1).f2) == (wrap64 ((wrap64 (x1_1 + 1)) + 1))) = false := beq_eq_false_iff_ne.mpr c7
                have c7b1 : (((rd_T67 l0 x5_1).f2) != (wrap64 ((wrap64 (x1_1 + 1)) + 1))) = true := bne_iff_ne.mpr c7
                obtain rfl := Option.some.inj H
                have p101 : 0 ≤ (x5_1 : Int) := of_decide_eq_true (by first | (with_reducible assumption) | assumption)
                have q101 : x5_1 < (l0.length : Int) := of_decide_eq_true (by first | (with_reducible assumption) | assumption)
                obtain ⟨ad101, e101, hx101_0, hx101_1, hx101_2⟩ := at_T67 HR0.out x5_1 p101 q101
                cases e101
                replace p101 := eq_true p101
                replace q101 := eq_true q101
                have p102 : 0 ≤ (x5_1 : Int) := of_decide_eq_true (by first | (with_reducible assumption) | assumption)
                have q102 : x5_1 < (l0.length : Int) := of_decide_eq_true (by first | (with_reducible assumption) | assumption)
                obtain ⟨ad102, e102, hx102_0, hx102_1, hx102_2⟩ := at_T67 HR0.out x5_1 p102 q102
                obtain rfl : ad101 = ad102 := (by injection e102)
                replace p102 := eq_true p102
                replace q102 := eq_true q102
                have p103 : 0 ≤ (x5_1 : Int) := of_decide_eq_true (by first | (with_reducible assumption) | assumption)
                have q103 : x5_1 < (l0.length : Int) := of_decide_eq_true (by first | (with_reducible assumption) | assumption)
                obtain ⟨ad103, e103, hx103_0, hx103_1, hx103_2⟩ := at_T67 HR0.out x5_1 p103 q103
                obtain rfl : ad101 = ad103 := (by injection e103)
                replace p103 := eq_true p103
                replace q103 := eq_true q103
                go_wp2
                go_ret
                exact ⟨by first | rfl | (simp; done) | (simp [*]; done), by repeat (first | exact Drawn0.refl _ | apply Drawn0.step)⟩
            · rw [if_neg c6] at H
              have c6b0 : (((rd_T67 l0 x5_1).f1) == (wrap64 (x1_1 + 1))) = false := beq_eq_false_iff_ne.mpr c6
              have c6b1 : (((rd_T67 l0 x5_1).f1) != (wrap64 (x1_1 + 1))) = true := bne_iff_ne.mpr c6
              obtain rfl := Option.some.inj H
              have p101 : 0 ≤ (x5_1 : Int) := of_decide_eq_true (by first | (with_reducible assumption) | assumption)
              have q101 : x5_1 < (l0.length : Int) := of_decide_eq_true (by first | (with_reducible assumption) | assumption)
              obtain ⟨ad101, e101, hx101_0, hx101_1, hx101_2⟩ := at_T67 HR0.out x5_1 p101 q101
              cases e101
              replace p101 := eq_true p101
              replace q101 := eq_true q101
              have p102 : 0 ≤ (x5_1 : Int) := of_decide_eq_true (by first | (with_reducible assumption) | assumption)
              have q102 : x5_1 < (l0.length : Int) := of_decide_eq_true (by first | (with_reducible assumption) | assumption)
              obtain ⟨ad102, e102, hx102_0, hx102_1, hx102_2⟩ := at_T67 HR0.out x5_1 p102 q102
              obtain rfl : ad101 = ad102 := (by injection e102)
              replace p102 := eq_true p102
              replace q102 := eq_true q102
              go_wp2
              go_ret
              exact ⟨by first | rfl | (simp; done) | (simp [*]; done), by repeat (first | exact Drawn0.refl _ | apply Drawn0.step)⟩
          · rw [if_neg c5] at H
            have c5b0 : (((rd_T67 l0 x5_1).f0) == x1_1) = false := beq_eq_false_iff_ne.mpr c5
            have c5b1 : (((rd_T67 l0 x5_1).f0) != x1_1) = true := bne_iff_ne.mpr c5
            obtain rfl := Option.some.inj H
            have p101 : 0 ≤ (x5_1 : Int) := of_decide_eq_true (by first | (with_reducible assumption) | assumption)
            have q101 : x5_1 < (l0.length : Int) := of_decide_eq_true (by first | (with_reducible assumption) | assumption)
            obtain ⟨ad101, e101, hx101_0, hx101_1, hx101_2⟩ := at_T67 HR0.out x5_1 p101 q101
            cases e101
            replace p101 := eq_true p101
            replace q101 := eq_true q101
            go_wp2
            go_ret
            exact ⟨by first | rfl | (simp; done) | (simp [*]; done), by repeat (first | exact Drawn0.refl _ | apply Drawn0.step)⟩
        · rw [if_neg c4] at H
          exact absurd H (by simp)
      · rw [if_neg c3] at H
        have c3b0 : decide (x5_1 < (l0.length : Int)) = false := decide_eq_false c3
        clear c3
        obtain rfl := Option.some.inj H
        go_wp2
        go_ret
        exact ⟨by first | rfl | (simp; done) | (simp [*]; done), by repeat (first | exact Drawn0.refl _ | apply Drawn0.step)⟩

end Go.Proofs.YtcjhhdecckcibaaDoor.G

namespace Go.Proofs.YtcjhhdecckcibaaDoor.G
open Go.RowKit Go.Proofs.YtcjhhdecckcibaaDoorW.PrintWords Go.Proofs.YtcjhhdecckcibaaDoorW.PrintLast Go.Proofs.YtcjhhdecckcibaaDoorW.PrintMore
attribute [local go_sem] max2_int min2_int max_two min_two max_three min_three max_four min_four   -- for this text's walks alone
set_option linter.unusedVariables false
set_option linter.unusedSimpArgs false

mutual
def laws_FnExactReadTerm.j0 : Nat → ByteArray → List (S67) → Bool → List (S67) → Bool → Option (Bool)
  | 0, _, _, _, _, _ => none
  | k + 1, x0, x3, x4, x5, x32 => if x32 = true then (some false) else ((laws_markTermS.f k x5 1).bind fun bt110 => ((laws_heldTermS.f k bt110.2 1).bind fun t112 => (if t112 < 0 then (some false) else (if t112 = bt110.1 then ((impl_ReadTerm.f k x0).bind fun bt113 => ((laws_eqTermS.f k bt113.1 x3).bind fun t117 => (if t117 = true then (laws_FnExactReadTerm.j1 k bt110.2 bt110.1 (bt113.2 != x4)) else (laws_FnExactReadTerm.j1 k bt110.2 bt110.1 true)))) else (some false)))))
def laws_FnExactReadTerm.j1 : Nat → List (S67) → Int → Bool → Option (Bool)
  | 0, _, _, _ => none
  | k + 1, x5, x7, x57 => if x57 = true then (some false) else ((laws_heldTermS.f k x5 1).bind fun t118 => (if t118 < 0 then (some false) else (if t118 = x7 then (some true) else (some false))))
end
def laws_FnExactReadTerm.f (k : Nat) (a0 : ByteArray) : Option (Bool) := if (a0.size : Int) > 1048576 then (some true) else ((spec_ReadTerm.f k a0).bind fun bt101 => ((impl_ReadTerm.f k a0).bind fun bt105 => ((laws_eqTermS.f k bt105.1 bt101.1).bind fun t109 => (if t109 = true then (laws_FnExactReadTerm.j0 k a0 bt101.1 bt101.2 bt105.1 (bt105.2 != bt101.2)) else (laws_FnExactReadTerm.j0 k a0 bt101.1 bt101.2 bt105.1 true)))))
set_option maxHeartbeats 8000000 in
set_option maxRecDepth 100000 in
theorem laws_FnExactReadTerm.calls (k : Nat) (a0 : ByteArray) (r : Bool) (w : World) (h : laws_FnExactReadTerm.f k a0 = some r) (hE : Met w) :
    Calls Tryd.prog 6 #[.string a0] w fun e w' => e = .returned (.bool r) ∧ Below w.heap.size w w' := by
  have HB := Aside0.mk (Below.refl w.heap.size w)
  have HE := Aside0.mk hE
  clear hE
  have H : (if (a0.size : Int) > 1048576 then (some true) else ((spec_ReadTerm.f k a0).bind fun bt101 => ((impl_ReadTerm.f k a0).bind fun bt105 => ((laws_eqTermS.f k bt105.1 bt101.1).bind fun t109 => (if t109 = true then (laws_FnExactReadTerm.j0 k a0 bt101.1 bt101.2 bt105.1 (bt105.2 != bt101.2)) else (laws_FnExactReadTerm.j0 k a0 bt101.1 bt101.2 bt105.1 true)))))) = some r := h
  clear h
  by_cases c2 : (a0.size : Int) > 1048576
  · rw [if_pos c2] at H
    have c2b0 : decide (1048576 < (a0.size : Int)) = true := decide_eq_true c2
    have c2b1 : decide (1048576 < a0.size) = true := decide_eq_true (by omega)
    clear c2
    obtain rfl := Option.some.inj H
    go_enter Tryd.func6, Tryd.ntmps6
    go_wp2
    go_ret
    exact ⟨by first | rfl | (simp [errW_none, errW_some] <;> rfl) | (simp [*, errW_none, errW_some] <;> rfl), by repeat (first | (with_reducible first | exact HB.out | apply below_alloc | apply pw_below_drewN | apply below_drew1) | exact HB.out)⟩
  · rw [if_neg c2] at H
    have c2b0 : decide (1048576 < (a0.size : Int)) = false := decide_eq_false c2
    have c2b1 : decide (1048576 < a0.size) = false := decide_eq_false (by omega)
    clear c2
    replace H := Option.bind_eq_some_iff.mp H
    obtain ⟨⟨t101, t102⟩, A30, H⟩ := H
    replace H : ((impl_ReadTerm.f k a0).bind fun bt105 => ((laws_eqTermS.f k bt105.1 t101).bind fun t109 => (if t109 = true then (laws_FnExactReadTerm.j0 k a0 t101 t102 bt105.1 (bt105.2 != t102)) else (laws_FnExactReadTerm.j0 k a0 t101 t102 bt105.1 true)))) = some r := H
    have A3 := Aside0.mk A30
    clear A30
    replace H := Option.bind_eq_some_iff.mp H
    obtain ⟨⟨t105, t106⟩, A40, H⟩ := H
    replace H : ((laws_eqTermS.f k t105 t101).bind fun t109 => (if t109 = true then (laws_FnExactReadTerm.j0 k a0 t101 t102 t105 (t106 != t102)) else (laws_FnExactReadTerm.j0 k a0 t101 t102 t105 true))) = some r := H
    have A4 := Aside0.mk A40
    clear A40
    have HC5 := Aside0.mk H
    clear H
    go_enter Tryd.func6, Tryd.ntmps6
    go_upto_region 5 with (first | ((with_reducible refine gate_callee (f := 21) rfl ?_); refine goesL_ (some 16) rfl rfl Tryd.func21 (by kernel_rfl) rfl #[.string a0] rfl (by (try simp only [List.map_toArray, List.map_cons, List.map_nil]); first | done | rfl | (simp only [List.length_drop, List.length_take]; rfl)) ?_; (with_reducible refine (spec_ReadTerm.calls k a0 t101 t102 _ A3.out).mono ?_); rintro e w6 ⟨v103, rfl, ho0, hb⟩; refine ⟨_, rfl, ?_⟩; have n0_ := Aside0.mk (Kd.R_lower ho0 (below_size (by repeat (first | (with_reducible first | exact HB.out | apply below_alloc | apply pw_below_drewN | apply below_drew1) | exact HB.out)))); have n1_ := Aside0.mk (below_step (by repeat (first | (with_reducible first | exact HB.out | apply below_alloc | apply pw_below_drewN | apply below_drew1) | exact HB.out)) hb); clear HB; have HO104 := n0_; have HB := n1_; clear n0_ n1_; (try clear hb); (try clear hb2); (try clear hk); (try clear hi); (try clear ho0)) | ((with_reducible refine gate_callee (f := 22) rfl ?_); refine goesL_ (some 21) rfl rfl Tryd.func22 (by kernel_rfl) rfl #[.string a0] rfl (by (try simp only [List.map_toArray, List.map_cons, List.map_nil]); first | done | rfl | (simp only [List.length_drop, List.length_take]; rfl)) ?_; (with_reducible refine (impl_ReadTerm.calls k a0 t105 t106 _ A4.out (HE.out.below (by repeat (first | (with_reducible first | exact HB.out | apply below_alloc | apply pw_below_drewN | apply below_drew1) | exact HB.out)))).mono ?_); rintro e w7 ⟨v107, rfl, ho0, hb⟩; refine ⟨_, rfl, ?_⟩; have n0_ := Aside0.mk (Kd.R_elder' (by (with_reducible repeat (first | apply Kd.R_alloc | apply Kd.R_drewN | apply Kd.R_drew)); exact HO104.out) (Kd.R_base ho0) hb); have n1_ := Aside0.mk (Kd.R_lower (Kd.R_new' ho0 (Kd.R_lt (by (with_reducible repeat (first | apply Kd.R_alloc | apply Kd.R_drewN | apply Kd.R_drew)); exact HO104.out))) (below_size (by repeat (first | (with_reducible first | exact HB.out | apply below_alloc | apply pw_below_drewN | apply below_drew1) | exact HB.out)))); have n2_ := Aside0.mk (below_step (by repeat (first | (with_reducible first | exact HB.out | apply below_alloc | apply pw_below_drewN | apply below_drew1) | exact HB.out)) hb); clear HO104; clear HB; have HO104 := n0_; have HO108 := n1_; have HB := n2_; clear n0_ n1_ n2_; (try clear hb); (try clear hb2); (try clear hk); (try clear hi); (try clear ho0)))
    (try simp only [Act.put, List.setIfInBounds_toArray, List.set_cons_zero, List.set_cons_succ])
    go_cut [32] (fun v32 wc => ∃ (kq : Nat) (x32_4 : Bool), v32 = .bool x32_4 ∧ Aside0 (laws_FnExactReadTerm.j0 kq a0 t101 t102 t105 x32_4 = some r) ∧ Aside0 (kq ≤ k) ∧ Aside0 (Kd.R k67 67 wc w.heap.size (fun k_ => some k_ ≠ (v107 : Value).ownBlock) v103 t101) ∧ Aside0 (Kd.R k67 67 wc w.heap.size (fun k_ => some k_ ≠ (v103 : Value).ownBlock) v107 t105) ∧ Aside0 (Below w.heap.size w wc))
    case first =>
      have H := HC5.out
      clear HC5
      replace H := Option.bind_eq_some_iff.mp H
      obtain ⟨t109, A80, H⟩ := H
      replace H : (if t109 = true then (laws_FnExactReadTerm.j0 k a0 t101 t102 t105 (t106 != t102)) else (laws_FnExactReadTerm.j0 k a0 t101 t102 t105 true)) = some r := H
      have A8 := Aside0.mk A80
      clear A80
      by_cases c9 : t109 = true
      · subst c9
        have H1 : (laws_FnExactReadTerm.j0 k a0 t101 t102 t105 (t106 != t102)) = some r := by rw [if_pos rfl] at H; exact H
        clear H
        have H := H1
        clear H1
        have H' := Aside0.mk H
        clear H
        obtain ⟨Ao10, co10, eo10⟩ := Kd.R_slice HO108.out
        subst eo10
        obtain ⟨Ao11, co11, eo11⟩ := Kd.R_slice HO104.out
        subst eo11
        go_wp2_with (first | ((with_reducible refine gate_callee (f := 16) rfl ?_); refine goesL_ (some 26) rfl rfl Tryd.func16 (by kernel_rfl) rfl #[.slice Ao10 t105.length co10, .slice Ao11 t101.length co11] rfl (by (try simp only [List.map_toArray, List.map_cons, List.map_nil]); first | done | rfl | (simp only [List.length_drop, List.length_take]; rfl)) ?_; (with_reducible refine (laws_eqTermS.calls k _ _ t105 _ _ t101 true _ ?side1 ?side2 ?side3 ?side4 A8.out).mono ?_); (case side1 => repeat (first | exact (Kd.R_reads' HO108.out).2.2 | (with_reducible refine Kd.C_alloc ?_ _) | (with_reducible refine Kd.C_drewN ?_ _) | (with_reducible refine Kd.C_drew ?_))); (case side2 => exact (Kd.R_reads' HO108.out).2.1); (case side3 => repeat (first | exact (Kd.R_reads' HO104.out).2.2 | (with_reducible refine Kd.C_alloc ?_ _) | (with_reducible refine Kd.C_drewN ?_ _) | (with_reducible refine Kd.C_drew ?_))); (case side4 => exact (Kd.R_reads' HO104.out).2.1); rintro e w12 ⟨rfl, hb⟩; refine ⟨_, rfl, ?_⟩; have n0_ := Aside0.mk (Kd.R_below (by (with_reducible repeat (first | apply Kd.R_alloc | apply Kd.R_drewN | apply Kd.R_drew)); exact HO104.out) hb); have n1_ := Aside0.mk (Kd.R_below (by (with_reducible repeat (first | apply Kd.R_alloc | apply Kd.R_drewN | apply Kd.R_drew)); exact HO108.out) hb); have n2_ := Aside0.mk (below_step (by repeat (first | (with_reducible first | exact HB.out | apply below_alloc | apply pw_below_drewN | apply below_drew1) | exact HB.out)) hb); clear HO104; clear HO108; clear HB; have HO104 := n0_; have HO108 := n1_; have HB := n2_; clear n0_ n1_ n2_; (try clear hb); (try clear hb2); (try clear hk); (try clear hi)))
        go_meet
        case rel => exact ⟨_, ((t106 != t102)), (by first | rfl | (simp; done) | (simp [*]; done)), H', ⟨by first | omega | exact Nat.le_refl _⟩, ⟨by (with_reducible repeat (first | apply Kd.R_alloc | apply Kd.R_drewN | apply Kd.R_drew)); exact Kd.R_mono HO104.out (fun _ hk => hk.2)⟩, ⟨by (with_reducible repeat (first | apply Kd.R_alloc | apply Kd.R_drewN | apply Kd.R_drew)); exact Kd.R_mono HO108.out (fun _ hk => hk.2)⟩, ⟨by repeat (first | (with_reducible first | exact HB.out | apply below_alloc | apply pw_below_drewN | apply below_drew1) | exact HB.out)⟩⟩
      · replace c9 := Bool.eq_false_iff.mpr c9
        subst c9
        have H1 : (laws_FnExactReadTerm.j0 k a0 t101 t102 t105 true) = some r := by rw [if_neg (show ¬ (false = true) by decide)] at H; exact H
        clear H
        have H := H1
        clear H1
        have H' := Aside0.mk H
        clear H
        obtain ⟨Ao13, co13, eo13⟩ := Kd.R_slice HO108.out
        subst eo13
        obtain ⟨Ao14, co14, eo14⟩ := Kd.R_slice HO104.out
        subst eo14
        go_wp2_with (first | ((with_reducible refine gate_callee (f := 16) rfl ?_); refine goesL_ (some 26) rfl rfl Tryd.func16 (by kernel_rfl) rfl #[.slice Ao13 t105.length co13, .slice Ao14 t101.length co14] rfl (by (try simp only [List.map_toArray, List.map_cons, List.map_nil]); first | done | rfl | (simp only [List.length_drop, List.length_take]; rfl)) ?_; (with_reducible refine (laws_eqTermS.calls k _ _ t105 _ _ t101 false _ ?side1 ?side2 ?side3 ?side4 A8.out).mono ?_); (case side1 => repeat (first | exact (Kd.R_reads' HO108.out).2.2 | (with_reducible refine Kd.C_alloc ?_ _) | (with_reducible refine Kd.C_drewN ?_ _) | (with_reducible refine Kd.C_drew ?_))); (case side2 => exact (Kd.R_reads' HO108.out).2.1); (case side3 => repeat (first | exact (Kd.R_reads' HO104.out).2.2 | (with_reducible refine Kd.C_alloc ?_ _) | (with_reducible refine Kd.C_drewN ?_ _) | (with_reducible refine Kd.C_drew ?_))); (case side4 => exact (Kd.R_reads' HO104.out).2.1); rintro e w15 ⟨rfl, hb⟩; refine ⟨_, rfl, ?_⟩; have n0_ := Aside0.mk (Kd.R_below (by (with_reducible repeat (first | apply Kd.R_alloc | apply Kd.R_drewN | apply Kd.R_drew)); exact HO104.out) hb); have n1_ := Aside0.mk (Kd.R_below (by (with_reducible repeat (first | apply Kd.R_alloc | apply Kd.R_drewN | apply Kd.R_drew)); exact HO108.out) hb); have n2_ := Aside0.mk (below_step (by repeat (first | (with_reducible first | exact HB.out | apply below_alloc | apply pw_below_drewN | apply below_drew1) | exact HB.out)) hb); clear HO104; clear HO108; clear HB; have HO104 := n0_; have HO108 := n1_; have HB := n2_; clear n0_ n1_ n2_; (try clear hb); (try clear hb2); (try clear hk); (try clear hi)))
        go_meet
        case rel => exact ⟨_, (true), (by first | rfl | (simp; done) | (simp [*]; done)), H', ⟨by first | omega | exact Nat.le_refl _⟩, ⟨by (with_reducible repeat (first | apply Kd.R_alloc | apply Kd.R_drewN | apply Kd.R_drew)); exact Kd.R_mono HO104.out (fun _ hk => hk.2)⟩, ⟨by (with_reducible repeat (first | apply Kd.R_alloc | apply Kd.R_drewN | apply Kd.R_drew)); exact Kd.R_mono HO108.out (fun _ hk => hk.2)⟩, ⟨by repeat (first | (with_reducible first | exact HB.out | apply below_alloc | apply pw_below_drewN | apply below_drew1) | exact HB.out)⟩⟩
    case rest =>
      clear HC5
      try clear c1
      try clear c2
      try clear c2b0
      try clear c2b1
      try clear p2
      try clear c6
      try clear c9
      obtain ⟨kq, x32_4, rfl, HA, HJ4, HO_3, HO_5, HB⟩ := hcut
      cases kq with
      | zero => exact absurd HA.out (by simp [laws_FnExactReadTerm.j0])
      | succ kj4 =>
        have H := HA.out
        clear HA
        simp only [laws_FnExactReadTerm.j0] at H
        by_cases c16 : x32_4 = true
        · subst c16
          have H1 : (some false) = some r := by rw [if_pos rfl] at H; exact H
          clear H
          have H := H1
          clear H1
          obtain rfl := Option.some.inj H
          go_wp2
          go_ret
          exact ⟨by first | rfl | (simp [errW_none, errW_some] <;> rfl) | (simp [*, errW_none, errW_some] <;> rfl), by repeat (first | (with_reducible first | exact HB.out | apply below_alloc | apply pw_below_drewN | apply below_drew1) | exact HB.out)⟩
        · replace c16 := Bool.eq_false_iff.mpr c16
          subst c16
          have H1 : ((laws_markTermS.f kj4 t105 1).bind fun bt110 => ((laws_heldTermS.f kj4 bt110.2 1).bind fun t112 => (if t112 < 0 then (some false) else (if t112 = bt110.1 then ((impl_ReadTerm.f kj4 a0).bind fun bt113 => ((laws_eqTermS.f kj4 bt113.1 t101).bind fun t117 => (if t117 = true then (laws_FnExactReadTerm.j1 kj4 bt110.2 bt110.1 (bt113.2 != t102)) else (laws_FnExactReadTerm.j1 kj4 bt110.2 bt110.1 true)))) else (some false))))) = some r := by rw [if_neg (show ¬ (false = true) by decide)] at H; exact H
          clear H
          have H := H1
          clear H1
          replace H := Option.bind_eq_some_iff.mp H
          obtain ⟨⟨t110, t111⟩, A170, H⟩ := H
          replace H : ((laws_heldTermS.f kj4 t111 1).bind fun t112 => (if t112 < 0 then (some false) else (if t112 = t110 then ((impl_ReadTerm.f kj4 a0).bind fun bt113 => ((laws_eqTermS.f kj4 bt113.1 t101).bind fun t117 => (if t117 = true then (laws_FnExactReadTerm.j1 kj4 t111 t110 (bt113.2 != t102)) else (laws_FnExactReadTerm.j1 kj4 t111 t110 true)))) else (some false)))) = some r := H
          have A17 := Aside0.mk A170
          clear A170
          replace H := Option.bind_eq_some_iff.mp H
          obtain ⟨t112, A180, H⟩ := H
          replace H : (if t112 < 0 then (some false) else (if t112 = t110 then ((impl_ReadTerm.f kj4 a0).bind fun bt113 => ((laws_eqTermS.f kj4 bt113.1 t101).bind fun t117 => (if t117 = true then (laws_FnExactReadTerm.j1 kj4 t111 t110 (bt113.2 != t102)) else (laws_FnExactReadTerm.j1 kj4 t111 t110 true)))) else (some false))) = some r := H
          have A18 := Aside0.mk A180
          clear A180
          by_cases c19 : t112 < 0
          · rw [if_pos c19] at H
            have c19b0 : decide (t112 < 0) = true := decide_eq_true c19
            clear c19
            obtain rfl := Option.some.inj H
            obtain ⟨Ao20, co20, eo20⟩ := Kd.R_slice HO_5.out
            subst eo20
            go_wp2_with (first | ((with_reducible refine gate_callee (f := 23) rfl ?_); refine goesL_ (some 35) rfl rfl Tryd.func23 (by kernel_rfl) rfl #[.slice Ao20 t105.length co20, .int .i64 1] rfl (by (try simp only [List.map_toArray, List.map_cons, List.map_nil]); first | done | rfl | (simp only [List.length_drop, List.length_take]; rfl)) ?_; (with_reducible refine (laws_markTermS.calls kj4 (fun k_ => some k_ = (.slice Ao20 t105.length co20 : Value).ownBlock) (.slice Ao20 t105.length co20) t105 1 t110 t111 w _ ?side1 ?side2 A17.out).mono ?_); (case side1 => repeat (first | (with_reducible first | exact HB.out | apply below_alloc | apply pw_below_drewN | apply below_drew1) | exact HB.out)); (case side2 => exact Kd.R_tight rfl HO_5.out); rintro e w21 ⟨rfl, hy0, hb, hkp⟩; refine ⟨_, rfl, ?_⟩; have n0_ := Aside0.mk (Kd.R_mono (ok' := fun k_ => some k_ ≠ (.slice Ao20 t105.length co20 : Value).ownBlock) (Kd.R_keptB (HO_3.out) hkp (fun k_ hk_ hs_ => (hk_) hs_)) (fun k_ hk_ => hk_.1)); have n1_ := Aside0.mk (Kd.R_reok rfl hy0 (fun k_ e_ => HO_5.out.1 k_ e_)); have n2_ := Aside0.mk (hb); clear HO_3; clear HO_5; clear HB; have HO_3 := n0_; have HO_5 := n1_; have HB := n2_; clear n0_ n1_ n2_; (try clear hb); (try clear hkp); (try clear hy0)) | ((with_reducible refine gate_callee (f := 24) rfl ?_); refine goesL_ (some 38) rfl rfl Tryd.func24 (by kernel_rfl) rfl #[.slice Ao20 t111.length co20, .int .i64 1] rfl (by (try simp only [List.map_toArray, List.map_cons, List.map_nil]); first | done | (rw [show t111.length = t105.length from (Kd.R_reads' HO_5.out).1.symm] <;> rfl) | rfl | (simp only [List.length_drop, List.length_take]; rfl)) ?_; (with_reducible refine (laws_heldTermS.calls kj4 _ _ t111 1 t112 _ ?side1 ?side2 A18.out).mono ?_); (case side1 => repeat (first | exact (Kd.R_reads' HO_5.out).2.2 | (with_reducible refine Kd.C_alloc ?_ _) | (with_reducible refine Kd.C_drewN ?_ _) | (with_reducible refine Kd.C_drew ?_))); (case side2 => rw [show t111.length = t105.length from (Kd.R_reads' HO_5.out).1.symm]; exact (Kd.R_reads' HO_5.out).2.1); rintro e w' ⟨rfl, ⟨nd, rfl⟩⟩; refine ⟨_, rfl, ?_⟩))
            go_ret
            exact ⟨by first | rfl | (simp [errW_none, errW_some] <;> rfl) | (simp [*, errW_none, errW_some] <;> rfl), by repeat (first | (with_reducible first | exact HB.out | apply below_alloc | apply pw_below_drewN | apply below_drew1) | exact HB.out)⟩
          · rw [if_neg c19] at H
            have c19b0 : decide (t112 < 0) = false := decide_eq_false c19
            clear c19
            by_cases c22 : t112 = t110
            · rw [if_pos c22] at H
              have c22b0 : (t112 == t110) = true := beq_iff_eq.mpr c22
              have c22b1 : (t112 != t110) = false := bne_eq_false_iff_eq.mpr c22
              clear c22
              replace H := Option.bind_eq_some_iff.mp H
              obtain ⟨⟨t113, t114⟩, A230, H⟩ := H
              replace H : ((laws_eqTermS.f kj4 t113 t101).bind fun t117 => (if t117 = true then (laws_FnExactReadTerm.j1 kj4 t111 t110 (t114 != t102)) else (laws_FnExactReadTerm.j1 kj4 t111 t110 true))) = some r := H
              have A23 := Aside0.mk A230
              clear A230
              have HC24 := Aside0.mk H
              clear H
              obtain ⟨Ao25, co25, eo25⟩ := Kd.R_slice HO_5.out
              subst eo25
              go_upto_region 16 with (first | ((with_reducible refine gate_callee (f := 23) rfl ?_); refine goesL_ (some 35) rfl rfl Tryd.func23 (by kernel_rfl) rfl #[.slice Ao25 t105.length co25, .int .i64 1] rfl (by (try simp only [List.map_toArray, List.map_cons, List.map_nil]); first | done | rfl | (simp only [List.length_drop, List.length_take]; rfl)) ?_; (with_reducible refine (laws_markTermS.calls kj4 (fun k_ => some k_ = (.slice Ao25 t105.length co25 : Value).ownBlock) (.slice Ao25 t105.length co25) t105 1 t110 t111 w _ ?side1 ?side2 A17.out).mono ?_); (case side1 => repeat (first | (with_reducible first | exact HB.out | apply below_alloc | apply pw_below_drewN | apply below_drew1) | exact HB.out)); (case side2 => exact Kd.R_tight rfl HO_5.out); rintro e w26 ⟨rfl, hy0, hb, hkp⟩; refine ⟨_, rfl, ?_⟩; have n0_ := Aside0.mk (Kd.R_mono (ok' := fun k_ => some k_ ≠ (.slice Ao25 t105.length co25 : Value).ownBlock) (Kd.R_keptB (HO_3.out) hkp (fun k_ hk_ hs_ => (hk_) hs_)) (fun k_ hk_ => hk_.1)); have n1_ := Aside0.mk (Kd.R_reok rfl hy0 (fun k_ e_ => HO_5.out.1 k_ e_)); have n2_ := Aside0.mk (hb); clear HO_3; clear HO_5; clear HB; have HO_3 := n0_; have HO_5 := n1_; have HB := n2_; clear n0_ n1_ n2_; (try clear hb); (try clear hkp); (try clear hy0)) | ((with_reducible refine gate_callee (f := 24) rfl ?_); refine goesL_ (some 38) rfl rfl Tryd.func24 (by kernel_rfl) rfl #[.slice Ao25 t111.length co25, .int .i64 1] rfl (by (try simp only [List.map_toArray, List.map_cons, List.map_nil]); first | done | (rw [show t111.length = t105.length from (Kd.R_reads' HO_5.out).1.symm] <;> rfl) | rfl | (simp only [List.length_drop, List.length_take]; rfl)) ?_; (with_reducible refine (laws_heldTermS.calls kj4 _ _ t111 1 t112 _ ?side1 ?side2 A18.out).mono ?_); (case side1 => repeat (first | exact (Kd.R_reads' HO_5.out).2.2 | (with_reducible refine Kd.C_alloc ?_ _) | (with_reducible refine Kd.C_drewN ?_ _) | (with_reducible refine Kd.C_drew ?_))); (case side2 => rw [show t111.length = t105.length from (Kd.R_reads' HO_5.out).1.symm]; exact (Kd.R_reads' HO_5.out).2.1); rintro e w' ⟨rfl, ⟨nd, rfl⟩⟩; refine ⟨_, rfl, ?_⟩) | ((with_reducible refine gate_callee (f := 22) rfl ?_); refine goesL_ (some 46) rfl rfl Tryd.func22 (by kernel_rfl) rfl #[.string a0] rfl (by (try simp only [List.map_toArray, List.map_cons, List.map_nil]); first | done | rfl | (simp only [List.length_drop, List.length_take]; rfl)) ?_; (with_reducible refine (impl_ReadTerm.calls kj4 a0 t113 t114 _ A23.out (HE.out.below (by repeat (first | (with_reducible first | exact HB.out | apply below_alloc | apply pw_below_drewN | apply below_drew1) | exact HB.out)))).mono ?_); rintro e w27 ⟨v115, rfl, ho0, hb⟩; refine ⟨_, rfl, ?_⟩; have n0_ := Aside0.mk (Kd.R_elder' (by (with_reducible repeat (first | apply Kd.R_alloc | apply Kd.R_drewN | apply Kd.R_drew)); exact HO_3.out) (Kd.R_base ho0) hb); have n1_ := Aside0.mk (Kd.R_elder' (by (with_reducible repeat (first | apply Kd.R_alloc | apply Kd.R_drewN | apply Kd.R_drew)); exact HO_5.out) (Kd.R_base ho0) hb); have n2_ := Aside0.mk (Kd.R_lower (Kd.R_new' (Kd.R_new' ho0 (Kd.R_lt (by (with_reducible repeat (first | apply Kd.R_alloc | apply Kd.R_drewN | apply Kd.R_drew)); exact HO_3.out))) (Kd.R_lt (by (with_reducible repeat (first | apply Kd.R_alloc | apply Kd.R_drewN | apply Kd.R_drew)); exact HO_5.out))) (below_size (by repeat (first | (with_reducible first | exact HB.out | apply below_alloc | apply pw_below_drewN | apply below_drew1) | exact HB.out)))); have n3_ := Aside0.mk (below_step (by repeat (first | (with_reducible first | exact HB.out | apply below_alloc | apply pw_below_drewN | apply below_drew1) | exact HB.out)) hb); clear HO_3; clear HO_5; clear HB; have HO_3 := n0_; have HO_5 := n1_; have HO116 := n2_; have HB := n3_; clear n0_ n1_ n2_ n3_; (try clear hb); (try clear hb2); (try clear hk); (try clear hi); (try clear ho0)))
              (try simp only [Act.put, List.setIfInBounds_toArray, List.set_cons_zero, List.set_cons_succ])
              go_cut [57] (fun v57 wc => ∃ (kq : Nat) (x57_23 : Bool), v57 = .bool x57_23 ∧ Aside0 (laws_FnExactReadTerm.j1 kq t111 t110 x57_23 = some r) ∧ Aside0 (kq ≤ kj4) ∧ Aside0 (Kd.R k67 67 wc w.heap.size (fun _ => True) (.slice Ao25 t105.length co25) t111) ∧ Aside0 (Below w.heap.size w wc))
              case first =>
                have H := HC24.out
                clear HC24
                replace H := Option.bind_eq_some_iff.mp H
                obtain ⟨t117, A280, H⟩ := H
                replace H : (if t117 = true then (laws_FnExactReadTerm.j1 kj4 t111 t110 (t114 != t102)) else (laws_FnExactReadTerm.j1 kj4 t111 t110 true)) = some r := H
                have A28 := Aside0.mk A280
                clear A280
                by_cases c29 : t117 = true
                · subst c29
                  have H1 : (laws_FnExactReadTerm.j1 kj4 t111 t110 (t114 != t102)) = some r := by rw [if_pos rfl] at H; exact H
                  clear H
                  have H := H1
                  clear H1
                  have H' := Aside0.mk H
                  clear H
                  obtain ⟨Ao30, co30, eo30⟩ := Kd.R_slice HO116.out
                  subst eo30
                  obtain ⟨Ao31, co31, eo31⟩ := Kd.R_slice HO_3.out
                  subst eo31
                  go_wp2_with (first | ((with_reducible refine gate_callee (f := 16) rfl ?_); refine goesL_ (some 51) rfl rfl Tryd.func16 (by kernel_rfl) rfl #[.slice Ao30 t113.length co30, .slice Ao31 t101.length co31] rfl (by (try simp only [List.map_toArray, List.map_cons, List.map_nil]); first | done | rfl | (simp only [List.length_drop, List.length_take]; rfl)) ?_; (with_reducible refine (laws_eqTermS.calls kj4 _ _ t113 _ _ t101 true _ ?side1 ?side2 ?side3 ?side4 A28.out).mono ?_); (case side1 => repeat (first | exact (Kd.R_reads' HO116.out).2.2 | (with_reducible refine Kd.C_alloc ?_ _) | (with_reducible refine Kd.C_drewN ?_ _) | (with_reducible refine Kd.C_drew ?_))); (case side2 => exact (Kd.R_reads' HO116.out).2.1); (case side3 => repeat (first | exact (Kd.R_reads' HO_3.out).2.2 | (with_reducible refine Kd.C_alloc ?_ _) | (with_reducible refine Kd.C_drewN ?_ _) | (with_reducible refine Kd.C_drew ?_))); (case side4 => exact (Kd.R_reads' HO_3.out).2.1); rintro e w32 ⟨rfl, hb⟩; refine ⟨_, rfl, ?_⟩; have n0_ := Aside0.mk (Kd.R_below (by (with_reducible repeat (first | apply Kd.R_alloc | apply Kd.R_drewN | apply Kd.R_drew)); exact HO_3.out) hb); have n1_ := Aside0.mk (Kd.R_below (by (with_reducible repeat (first | apply Kd.R_alloc | apply Kd.R_drewN | apply Kd.R_drew)); exact HO_5.out) hb); have n2_ := Aside0.mk (Kd.R_below (by (with_reducible repeat (first | apply Kd.R_alloc | apply Kd.R_drewN | apply Kd.R_drew)); exact HO116.out) hb); have n3_ := Aside0.mk (below_step (by repeat (first | (with_reducible first | exact HB.out | apply below_alloc | apply pw_below_drewN | apply below_drew1) | exact HB.out)) hb); clear HO_3; clear HO_5; clear HO116; clear HB; have HO_3 := n0_; have HO_5 := n1_; have HO116 := n2_; have HB := n3_; clear n0_ n1_ n2_ n3_; (try clear hb); (try clear hb2); (try clear hk); (try clear hi)))
                  go_meet
                  case rel => exact ⟨_, ((t114 != t102)), (by first | rfl | (simp; done) | (simp [*]; done)), H', ⟨by have := HJ4.out; first | omega | exact Nat.le_refl _⟩, ⟨by (with_reducible repeat (first | apply Kd.R_alloc | apply Kd.R_drewN | apply Kd.R_drew)); exact Kd.R_mono HO_5.out (fun _ hk => trivial)⟩, ⟨by repeat (first | (with_reducible first | exact HB.out | apply below_alloc | apply pw_below_drewN | apply below_drew1) | exact HB.out)⟩⟩
                · replace c29 := Bool.eq_false_iff.mpr c29
                  subst c29
                  have H1 : (laws_FnExactReadTerm.j1 kj4 t111 t110 true) = some r := by rw [if_neg (show ¬ (false = true) by decide)] at H; exact H
                  clear H
                  have H := H1
                  clear H1
                  have H' := Aside0.mk H
                  clear H
                  obtain ⟨Ao33, co33, eo33⟩ := Kd.R_slice HO116.out
                  subst eo33
                  obtain ⟨Ao34, co34, eo34⟩ := Kd.R_slice HO_3.out
                  subst eo34
                  go_wp2_with (first | ((with_reducible refine gate_callee (f := 16) rfl ?_); refine goesL_ (some 51) rfl rfl Tryd.func16 (by kernel_rfl) rfl #[.slice Ao33 t113.length co33, .slice Ao34 t101.length co34] rfl (by (try simp only [List.map_toArray, List.map_cons, List.map_nil]); first | done | rfl | (simp only [List.length_drop, List.length_take]; rfl)) ?_; (with_reducible refine (laws_eqTermS.calls kj4 _ _ t113 _ _ t101 false _ ?side1 ?side2 ?side3 ?side4 A28.out).mono ?_); (case side1 => repeat (first | exact (Kd.R_reads' HO116.out).2.2 | (with_reducible refine Kd.C_alloc ?_ _) | (with_reducible refine Kd.C_drewN ?_ _) | (with_reducible refine Kd.C_drew ?_))); (case side2 => exact (Kd.R_reads' HO116.out).2.1); (case side3 => repeat (first | exact (Kd.R_reads' HO_3.out).2.2 | (with_reducible refine Kd.C_alloc ?_ _) | (with_reducible refine Kd.C_drewN ?_ _) | (with_reducible refine Kd.C_drew ?_))); (case side4 => exact (Kd.R_reads' HO_3.out).2.1); rintro e w35 ⟨rfl, hb⟩; refine ⟨_, rfl, ?_⟩; have n0_ := Aside0.mk (Kd.R_below (by (with_reducible repeat (first | apply Kd.R_alloc | apply Kd.R_drewN | apply Kd.R_drew)); exact HO_3.out) hb); have n1_ := Aside0.mk (Kd.R_below (by (with_reducible repeat (first | apply Kd.R_alloc | apply Kd.R_drewN | apply Kd.R_drew)); exact HO_5.out) hb); have n2_ := Aside0.mk (Kd.R_below (by (with_reducible repeat (first | apply Kd.R_alloc | apply Kd.R_drewN | apply Kd.R_drew)); exact HO116.out) hb); have n3_ := Aside0.mk (below_step (by repeat (first | (with_reducible first | exact HB.out | apply below_alloc | apply pw_below_drewN | apply below_drew1) | exact HB.out)) hb); clear HO_3; clear HO_5; clear HO116; clear HB; have HO_3 := n0_; have HO_5 := n1_; have HO116 := n2_; have HB := n3_; clear n0_ n1_ n2_ n3_; (try clear hb); (try clear hb2); (try clear hk); (try clear hi)))
                  go_meet
                  case rel => exact ⟨_, (true), (by first | rfl | (simp; done) | (simp [*]; done)), H', ⟨by have := HJ4.out; first | omega | exact Nat.le_refl _⟩, ⟨by (with_reducible repeat (first | apply Kd.R_alloc | apply Kd.R_drewN | apply Kd.R_drew)); exact Kd.R_mono HO_5.out (fun _ hk => trivial)⟩, ⟨by repeat (first | (with_reducible first | exact HB.out | apply below_alloc | apply pw_below_drewN | apply below_drew1) | exact HB.out)⟩⟩
              case rest =>
                clear HC24
                try clear c1
                try clear c2
                try clear c2b0
                try clear c2b1
                try clear p2
                try clear c6
                try clear c9
                try clear c16
                try clear c19
                try clear c19b0
                try clear c21
                try clear c22
                try clear c22b0
                try clear c22b1
                try clear c23
                try clear c24
                try clear c29
                try clear p2
                obtain ⟨kq, x57_23, rfl, HA, HJ23, HO_5, HB⟩ := hcut
                have hl5_23 := (Kd.R_reads' HO_5.out).1
                rw [hl5_23] at HO_5
                (try simp only [hl5_23])
                cases kq with
                | zero => exact absurd HA.out (by simp [laws_FnExactReadTerm.j1])
                | succ kj23 =>
                  have H := HA.out
                  clear HA
                  simp only [laws_FnExactReadTerm.j1] at H
                  by_cases c36 : x57_23 = true
                  · subst c36
                    have H1 : (some false) = some r := by rw [if_pos rfl] at H; exact H
                    clear H
                    have H := H1
                    clear H1
                    obtain rfl := Option.some.inj H
                    go_wp2
                    go_ret
                    exact ⟨by first | rfl | (simp [errW_none, errW_some] <;> rfl) | (simp [*, errW_none, errW_some] <;> rfl), by repeat (first | (with_reducible first | exact HB.out | apply below_alloc | apply pw_below_drewN | apply below_drew1) | exact HB.out)⟩
                  · replace c36 := Bool.eq_false_iff.mpr c36
                    subst c36
                    have H1 : ((laws_heldTermS.f kj23 t111 1).bind fun t118 => (if t118 < 0 then (some false) else (if t118 = t110 then (some true) else (some false)))) = some r := by rw [if_neg (show ¬ (false = true) by decide)] at H; exact H
                    clear H
                    have H := H1
                    clear H1
                    replace H := Option.bind_eq_some_iff.mp H
                    obtain ⟨t118, A370, H⟩ := H
                    replace H : (if t118 < 0 then (some false) else (if t118 = t110 then (some true) else (some false))) = some r := H
                    have A37 := Aside0.mk A370
                    clear A370
                    by_cases c38 : t118 < 0
                    · rw [if_pos c38] at H
                      have c38b0 : decide (t118 < 0) = true := decide_eq_true c38
                      clear c38
                      obtain rfl := Option.some.inj H
                      go_wp2_with (first | ((with_reducible refine gate_callee (f := 24) rfl ?_); refine goesL_ (some 60) rfl rfl Tryd.func24 (by kernel_rfl) rfl #[.slice Ao25 t111.length co25, .int .i64 1] rfl (by (try simp only [List.map_toArray, List.map_cons, List.map_nil]); first | done | rfl | (simp only [List.length_drop, List.length_take]; rfl)) ?_; (with_reducible refine (laws_heldTermS.calls kj23 _ _ t111 1 t118 _ ?side1 ?side2 A37.out).mono ?_); (case side1 => repeat (first | exact (Kd.R_reads' HO_5.out).2.2 | (with_reducible refine Kd.C_alloc ?_ _) | (with_reducible refine Kd.C_drewN ?_ _) | (with_reducible refine Kd.C_drew ?_))); (case side2 => exact (Kd.R_reads' HO_5.out).2.1); rintro e w' ⟨rfl, ⟨nd, rfl⟩⟩; refine ⟨_, rfl, ?_⟩))
                      go_ret
                      exact ⟨by first | rfl | (simp [errW_none, errW_some] <;> rfl) | (simp [*, errW_none, errW_some] <;> rfl), by repeat (first | (with_reducible first | exact HB.out | apply below_alloc | apply pw_below_drewN | apply below_drew1) | exact HB.out)⟩
                    · rw [if_neg c38] at H
                      have c38b0 : decide (t118 < 0) = false := decide_eq_false c38
                      clear c38
                      by_cases c39 : t118 = t110
                      · rw [if_pos c39] at H
                        have c39b0 : (t118 == t110) = true := beq_iff_eq.mpr c39
                        have c39b1 : (t118 != t110) = false := bne_eq_false_iff_eq.mpr c39
                        clear c39
                        obtain rfl := Option.some.inj H
                        go_wp2_with (first | ((with_reducible refine gate_callee (f := 24) rfl ?_); refine goesL_ (some 60) rfl rfl Tryd.func24 (by kernel_rfl) rfl #[.slice Ao25 t111.length co25, .int .i64 1] rfl (by (try simp only [List.map_toArray, List.map_cons, List.map_nil]); first | done | rfl | (simp only [List.length_drop, List.length_take]; rfl)) ?_; (with_reducible refine (laws_heldTermS.calls kj23 _ _ t111 1 t118 _ ?side1 ?side2 A37.out).mono ?_); (case side1 => repeat (first | exact (Kd.R_reads' HO_5.out).2.2 | (with_reducible refine Kd.C_alloc ?_ _) | (with_reducible refine Kd.C_drewN ?_ _) | (with_reducible refine Kd.C_drew ?_))); (case side2 => exact (Kd.R_reads' HO_5.out).2.1); rintro e w' ⟨rfl, ⟨nd, rfl⟩⟩; refine ⟨_, rfl, ?_⟩))
                        go_ret
                        exact ⟨by first | rfl | (simp [errW_none, errW_some] <;> rfl) | (simp [*, errW_none, errW_some] <;> rfl), by repeat (first | (with_reducible first | exact HB.out | apply below_alloc | apply pw_below_drewN | apply below_drew1) | exact HB.out)⟩
                      · rw [if_neg c39] at H
                        have c39b0 : (t118 == t110) = false := beq_eq_false_iff_ne.mpr c39
                        have c39b1 : (t118 != t110) = true := bne_iff_ne.mpr c39
                        obtain rfl := Option.some.inj H
                        go_wp2_with (first | ((with_reducible refine gate_callee (f := 24) rfl ?_); refine goesL_ (some 60) rfl rfl Tryd.func24 (by kernel_rfl) rfl #[.slice Ao25 t111.length co25, .int .i64 1] rfl (by (try simp only [List.map_toArray, List.map_cons, List.map_nil]); first | done | rfl | (simp only [List.length_drop, List.length_take]; rfl)) ?_; (with_reducible refine (laws_heldTermS.calls kj23 _ _ t111 1 t118 _ ?side1 ?side2 A37.out).mono ?_); (case side1 => repeat (first | exact (Kd.R_reads' HO_5.out).2.2 | (with_reducible refine Kd.C_alloc ?_ _) | (with_reducible refine Kd.C_drewN ?_ _) | (with_reducible refine Kd.C_drew ?_))); (case side2 => exact (Kd.R_reads' HO_5.out).2.1); rintro e w' ⟨rfl, ⟨nd, rfl⟩⟩; refine ⟨_, rfl, ?_⟩))
                        go_ret
                        exact ⟨by first | rfl | (simp [errW_none, errW_some] <;> rfl) | (simp [*, errW_none, errW_some] <;> rfl), by repeat (first | (with_reducible first | exact HB.out | apply below_alloc | apply pw_below_drewN | apply below_drew1) | exact HB.out)⟩
            · rw [if_neg c22] at H
              have c22b0 : (t112 == t110) = false := beq_eq_false_iff_ne.mpr c22
              have c22b1 : (t112 != t110) = true := bne_iff_ne.mpr c22
              obtain rfl := Option.some.inj H
              obtain ⟨Ao40, co40, eo40⟩ := Kd.R_slice HO_5.out
              subst eo40
              go_wp2_with (first | ((with_reducible refine gate_callee (f := 23) rfl ?_); refine goesL_ (some 35) rfl rfl Tryd.func23 (by kernel_rfl) rfl #[.slice Ao40 t105.length co40, .int .i64 1] rfl (by (try simp only [List.map_toArray, List.map_cons, List.map_nil]); first | done | rfl | (simp only [List.length_drop, List.length_take]; rfl)) ?_; (with_reducible refine (laws_markTermS.calls kj4 (fun k_ => some k_ = (.slice Ao40 t105.length co40 : Value).ownBlock) (.slice Ao40 t105.length co40) t105 1 t110 t111 w _ ?side1 ?side2 A17.out).mono ?_); (case side1 => repeat (first | (with_reducible first | exact HB.out | apply below_alloc | apply pw_below_drewN | apply below_drew1) | exact HB.out)); (case side2 => exact Kd.R_tight rfl HO_5.out); rintro e w41 ⟨rfl, hy0, hb, hkp⟩; refine ⟨_, rfl, ?_⟩; have n0_ := Aside0.mk (Kd.R_mono (ok' := fun k_ => some k_ ≠ (.slice Ao40 t105.length co40 : Value).ownBlock) (Kd.R_keptB (HO_3.out) hkp (fun k_ hk_ hs_ => (hk_) hs_)) (fun k_ hk_ => hk_.1)); have n1_ := Aside0.mk (Kd.R_reok rfl hy0 (fun k_ e_ => HO_5.out.1 k_ e_)); have n2_ := Aside0.mk (hb); clear HO_3; clear HO_5; clear HB; have HO_3 := n0_; have HO_5 := n1_; have HB := n2_; clear n0_ n1_ n2_; (try clear hb); (try clear hkp); (try clear hy0)) | ((with_reducible refine gate_callee (f := 24) rfl ?_); refine goesL_ (some 38) rfl rfl Tryd.func24 (by kernel_rfl) rfl #[.slice Ao40 t111.length co40, .int .i64 1] rfl (by (try simp only [List.map_toArray, List.map_cons, List.map_nil]); first | done | (rw [show t111.length = t105.length from (Kd.R_reads' HO_5.out).1.symm] <;> rfl) | rfl | (simp only [List.length_drop, List.length_take]; rfl)) ?_; (with_reducible refine (laws_heldTermS.calls kj4 _ _ t111 1 t112 _ ?side1 ?side2 A18.out).mono ?_); (case side1 => repeat (first | exact (Kd.R_reads' HO_5.out).2.2 | (with_reducible refine Kd.C_alloc ?_ _) | (with_reducible refine Kd.C_drewN ?_ _) | (with_reducible refine Kd.C_drew ?_))); (case side2 => rw [show t111.length = t105.length from (Kd.R_reads' HO_5.out).1.symm]; exact (Kd.R_reads' HO_5.out).2.1); rintro e w' ⟨rfl, ⟨nd, rfl⟩⟩; refine ⟨_, rfl, ?_⟩))
              go_ret
              exact ⟨by first | rfl | (simp [errW_none, errW_some] <;> rfl) | (simp [*, errW_none, errW_some] <;> rfl), by repeat (first | (with_reducible first | exact HB.out | apply below_alloc | apply pw_below_drewN | apply below_drew1) | exact HB.out)⟩

def laws_FnExactReadTerm.Pure : Prop := ∀ (a0 : ByteArray), a0.size ≤ 140737488351232 → ∃ k, laws_FnExactReadTerm.f k a0 = some true

end Go.Proofs.YtcjhhdecckcibaaDoor.G

namespace Go.Proofs.YtcjhhdecckcibaaDoor.EvL
open Go.RowKit Go.Proofs.YtcjhhdecckcibaaDoorW.PrintWords
set_option linter.unusedVariables false

theorem w64 {x : Int} (h1 : -9223372036854775808 ≤ x) (h2 : x ≤ 9223372036854775807) : wrap64 x = x := by unfold wrap64; omega
theorem Ev.const {α : Type} {a : Option α} {r : α} (h : a = some r) : Ev (fun _ => a) r := ⟨0, fun _ _ => h⟩
theorem Ev.of_eq {α : Type} {g : Nat → Option α} {r r' : α} (h : Ev g r) (e : r = r') : Ev g r' := e ▸ h
theorem Ev.ite_pos {α : Type} {c : Prop} [Decidable c] {g f : Nat → Option α} {r : α} (hc : c) (h : Ev g r) : Ev (fun k => if c then g k else f k) r := Ev.congr (fun k => if_pos hc) h
theorem Ev.ite_neg {α : Type} {c : Prop} [Decidable c] {g f : Nat → Option α} {r : α} (hc : ¬ c) (h : Ev f r) : Ev (fun k => if c then g k else f k) r := Ev.congr (fun k => if_neg hc) h
theorem Ev.succ {α : Type} {g : Nat → Option α} {r : α} (h : Ev (fun k => g (k + 1)) r) : Ev g r := Ev.step (fun k => rfl) h
theorem Ev.unique {α : Type} {g : Nat → Option α} {r r' : α} (h : Ev g r) (h' : Ev g r') : r = r' := by
  obtain ⟨K, hK⟩ := h
  obtain ⟨K', hK'⟩ := h'
  have h1 := hK (max K K') (Nat.le_max_left ..)
  have h2 := hK' (max K K') (Nat.le_max_right ..)
  rw [h1] at h2
  exact Option.some.inj h2

theorem ev_all (F : Nat → Int → Option Bool) (n : Nat) (p : Nat → Bool) (hs : ∀ (k i : Nat), i < n → F (k + 1) i = if p i = true then F k ((i + 1 : Nat) : Int) else some false) (he : ∀ k, F (k + 1) n = some true) :
    ∀ (d i : Nat), i + d = n → Ev (fun k => F k i) ((List.range d).all fun j => p (i + j)) := by
  intro d
  induction d with
  | zero => intro i hi; obtain rfl : i = n := by omega
            exact Ev.step he (Ev.now _)
  | succ d ih =>
    intro i hi
    have e : ((List.range (d + 1)).all fun j => p (i + j)) = (p i && (List.range d).all fun j => p (i + 1 + j)) := by
      rw [List.range_succ_eq_map, List.all_cons, List.all_map, Nat.add_zero]
      congr 1; congr 1; funext j; show p (i + (j + 1)) = _; congr 1; omega
    rw [e]
    by_cases hp : p i = true
    · refine Ev.step (fun k => (hs k i (by omega)).trans (if_pos hp)) ?_
      rw [hp, Bool.true_and]
      exact ih (i + 1) (by omega)
    · refine Ev.step (fun k => (hs k i (by omega)).trans (if_neg hp)) ?_
      rw [Bool.eq_false_iff.mpr hp, Bool.false_and]
      exact Ev.now _

end Go.Proofs.YtcjhhdecckcibaaDoor.EvL

namespace Go.Proofs.YtcjhhdecckcibaaDoor.TxtL
open Go.RowKit Go.Proofs.YtcjhhdecckcibaaDoor.EvL Go.Proofs.YtcjhhdecckcibaaDoorW.PrintWords
set_option linter.unusedVariables false
set_option linter.unusedSimpArgs false

def B (l : List UInt8) : ByteArray := ⟨l.toArray⟩
theorem B_list (l : List UInt8) : (B l).data.toList = l := rfl
theorem B_of (s : ByteArray) : B s.data.toList = s := rfl
theorem B_size (l : List UInt8) : (B l).size = l.length := by show l.toArray.size = _; simp
theorem len (s : ByteArray) : s.data.toList.length = s.size := by rw [Array.length_toList]; rfl
theorem B_append (a b : List UInt8) : B a ++ B b = B (a ++ b) := by
  apply ByteArray.ext
  simp [B]
theorem data_inj {s t : ByteArray} (h : s.data.toList = t.data.toList) : s = t := by rw [← B_of s, ← B_of t, h]
theorem loop_eq (s : ByteArray) : ∀ (n i : Nat) (r : List UInt8), s.size - i = n → ByteArray.toList.loop s i r = r.reverse ++ s.data.toList.drop i := by
  intro n
  induction n with
  | zero =>
    intro i r h
    rw [ByteArray.toList.loop, if_neg (by omega), List.drop_eq_nil_of_le (by rw [len]; omega), List.append_nil]
  | succ n ih =>
    intro i r h
    have hi : i < s.size := by omega
    rw [ByteArray.toList.loop, if_pos hi, ih (i + 1) _ (by omega), List.drop_eq_getElem_cons (show i < s.data.toList.length by rw [len]; exact hi)]
    have e : s.get! i = s.data.toList[i]'(by rw [len]; exact hi) := by
      show s.data[i]! = _
      rw [getElem!_pos s.data i hi]
      exact (Array.getElem_toList _).symm
    rw [List.reverse_cons, List.append_assoc, List.singleton_append, e]
theorem toList_eq (s : ByteArray) : s.toList = s.data.toList := by
  show ByteArray.toList.loop s 0 [] = _
  rw [loop_eq s s.size 0 [] (by omega)]; rfl
theorem toList_B (l : List UInt8) : (B l).toList = l := toList_eq _
theorem bt_B (l : List UInt8) (i : Nat) (h : i < l.length) : bt (B l) (i : Int) = ((l[i]).toNat : Int) := by
  rw [← bt_at (B l) i (by rw [Int.toNat_natCast, B_size]; exact h)]
  rfl
theorem ext_take (l : List UInt8) (n : Nat) : (B l).extract 0 n = B (l.take n) := data_inj (by rw [Lib.extract_from_zero]; rfl)
theorem ext_drop (l : List UInt8) (n m : Nat) (h : m = l.length) : (B l).extract n m = B (l.drop n) := by
  subst h
  apply ByteArray.ext
  simp [B]
  exact List.take_of_length_le (by rw [List.length_drop]; omega)

def isD (c : UInt8) : Prop := 48 ≤ c.toNat ∧ c.toNat ≤ 57
instance (c : UInt8) : Decidable (isD c) := by unfold isD; exact inferInstance
def stepD (a : Nat) (c : UInt8) : Nat := a * 10 + (c.toNat - 48)
def valF (a : Nat) (l : List UInt8) : Nat := l.foldl stepD a
theorem valF_cons (a : Nat) (c : UInt8) (l : List UInt8) : valF a (c :: l) = valF (a * 10 + (c.toNat - 48)) l := by unfold valF; rw [List.foldl_cons, stepD]
theorem valF_one (a : Nat) (c : UInt8) : valF a [c] = a * 10 + (c.toNat - 48) := by unfold valF; rw [List.foldl_cons, List.foldl_nil, stepD]
theorem valF_app (l m : List UInt8) (a : Nat) : valF a (l ++ m) = valF (valF a l) m := List.foldl_append
theorem head_app {α : Type} {l : List α} (m : List α) (h : l ≠ []) : (l ++ m).head? = l.head? := by
  cases l with
  | nil => exact absurd rfl h
  | cons a l => rfl
theorem valF_ge : ∀ (l : List UInt8) (a : Nat), a ≤ valF a l
  | [], a => Nat.le_refl _
  | c :: l, a => by rw [valF_cons]; exact Nat.le_trans (by omega) (valF_ge l _)
theorem valF_lt : ∀ (l : List UInt8) (a : Nat), (∀ c ∈ l, isD c) → valF a l < (a + 1) * 10 ^ l.length
  | [], a, _ => by show a < (a + 1) * 1; omega
  | c :: l, a, h => by
    have hc := h c (by simp)
    have ih := valF_lt l (a * 10 + (c.toNat - 48)) (fun x hx => h x (by simp [hx]))
    rw [valF_cons, List.length_cons, Nat.pow_succ]
    refine Nat.lt_of_lt_of_le ih ?_
    rw [Nat.mul_comm (10 ^ l.length) 10, ← Nat.mul_assoc]
    exact Nat.mul_le_mul_right _ (by unfold isD at hc; omega)
theorem digit_ofNat (i : Nat) (h : i < 10) : (UInt8.ofNat (48 + i)).toNat = 48 + i := by
  rw [UInt8.toNat_ofNat']; omega
def Numeral (l : List UInt8) : Prop := (∀ c ∈ l, isD c) ∧ l ≠ [] ∧ (l.head? ≠ some 48 ∨ l.length = 1)
theorem dec_numeral : ∀ (n : Nat), Numeral (Lib.decDigits n) ∧ valF 0 (Lib.decDigits n) = n ∧ (1 ≤ n → (Lib.decDigits n).head? ≠ some 48) := by
  intro n
  induction n using Nat.strongRecOn with
  | _ n ih =>
    by_cases h : n < 10
    · have hd := digit_ofNat n h
      rw [Lib.decDigits_one h]
      refine ⟨⟨?_, by simp, .inr rfl⟩, ?_, ?_⟩
      · intro c hc
        rw [List.mem_singleton] at hc
        rw [hc]; unfold isD; rw [hd]; omega
      · rw [valF_one, hd]; omega
      · intro h1 e
        have e2 : UInt8.ofNat (48 + n) = 48 := by simpa using e
        have e3 := congrArg UInt8.toNat e2
        rw [hd] at e3
        have : (48 : UInt8).toNat = 48 := rfl
        omega
    · have e : Lib.decDigits n = Lib.decDigits (n / 10) ++ [UInt8.ofNat (48 + n % 10)] := by rw [Lib.decDigits, dif_neg h]
      obtain ⟨⟨h1, h2, _⟩, h4, h5⟩ := ih (n / 10) (by omega)
      have hd := digit_ofNat (n % 10) (by omega)
      have hh : (Lib.decDigits n).head? ≠ some 48 := by
        rw [e, head_app _ h2]
        exact h5 (by omega)
      refine ⟨⟨?_, by rw [e]; simp, .inl hh⟩, ?_, fun _ => hh⟩
      · intro c hc
        rw [e, List.mem_append, List.mem_singleton] at hc
        rcases hc with hc | hc
        · exact h1 c hc
        · rw [hc]; unfold isD; rw [hd]; omega
      · rw [e, valF_app, h4, valF_one, hd]; omega
theorem parse_ok : ∀ (l : List UInt8) (a : Nat), (∀ c ∈ l, isD c) → valF a l ≤ 1000000000000000000 → Lib.parseUint10 a l = .ok (valF a l)
  | [], a, _, _ => rfl
  | c :: l, a, h, hv => by
    have hc : isD c := h c (by simp)
    rw [valF_cons] at hv
    have hg := valF_ge l (a * 10 + (c.toNat - 48))
    unfold Lib.parseUint10
    rw [if_pos (show 48 ≤ c.toNat ∧ c.toNat ≤ 57 from hc), if_neg (by omega), if_neg (by omega), parse_ok l _ (fun x hx => h x (by simp [hx])) hv, valF_cons]
theorem atoi_digits (l : List UInt8) (h1 : ∀ c ∈ l, isD c) (h2 : l ≠ []) (hn : valF 0 l ≤ 1000000000000000000) : Lib.atoiAll l = .ok ((valF 0 l : Nat) : Int) := by
  have hp := parse_ok l 0 h1 hn
  generalize valF 0 l = n at hp hn
  cases l with
  | nil => exact absurd rfl h2
  | cons c r =>
    have hc : isD c := h1 c (by simp)
    unfold isD at hc
    unfold Lib.atoiAll
    have hs : ¬ (c.toNat = 43 ∨ c.toNat = 45) := by omega
    have hs2 : ¬ c.toNat = 45 := by omega
    simp only [if_neg hs]
    unfold Lib.parseMag
    rw [if_neg (by simp), hp]
    simp only [hs2, not_false_eq_true, true_and, false_and, if_false]
    rw [if_neg (by omega)]
end Go.Proofs.YtcjhhdecckcibaaDoor.TxtL

namespace Go.Proofs.YtcjhhdecckcibaaDoor.TreeM
set_option linter.unusedVariables false

structure Nd where
  kind : Int
  n : Int
  up : Int
inductive Tr where
  | leaf (k n : Int)
  | un (k n : Int) (a : Tr)
  | bin (k n : Int) (a b : Tr)
def Tr.kind : Tr → Int
  | .leaf k _ => k
  | .un k _ _ => k
  | .bin k _ _ _ => k
def Tr.num : Tr → Int
  | .leaf _ n => n
  | .un _ n _ => n
  | .bin _ n _ _ => n
def Tr.size : Tr → Nat
  | .leaf _ _ => 1
  | .un _ _ a => 1 + a.size
  | .bin _ _ a b => 1 + a.size + b.size
def Tr.depth : Tr → Nat
  | .leaf _ _ => 1
  | .un _ _ a => a.depth + 1
  | .bin _ _ a b => max a.depth b.depth + 1
def Tr.all (p : Int → Int → Prop) : Tr → Prop
  | .leaf k n => p k n
  | .un k n a => p k n ∧ a.all p
  | .bin k n a b => p k n ∧ a.all p ∧ b.all p

def z : Nd := ⟨0, 0, 0⟩
def up (l : List Nd) (i : Nat) : Int := (l.getD i z).up
theorem up_of {l : List Nd} {i : Nat} {x : Nd} (h : l[i]? = some x) : up l i = x.up := by unfold up; rw [List.getD_eq_getElem?_getD, h]; rfl
theorem lt_of {l : List Nd} {i : Nat} {x : Nd} (h : l[i]? = some x) : i < l.length := by
  by_cases hi : i < l.length
  · exact hi
  · rw [List.getElem?_eq_none (by omega)] at h; cases h
theorem get_of {l : List Nd} {i : Nat} (h : i < l.length) : l[i]? = some (l.getD i z) := by rw [List.getD_eq_getElem?_getD, List.getElem?_eq_getElem h]; rfl

def chain (l : List Nd) (i : Nat) : List Nat := i :: if h : 0 ≤ up l i ∧ up l i < (i : Int) then chain l (up l i).toNat else []
termination_by i
decreasing_by omega
theorem chain_self (l : List Nd) (i : Nat) : i ∈ chain l i := by rw [chain]; simp
theorem chain_up {l : List Nd} {i : Nat} (h : 0 ≤ up l i ∧ up l i < (i : Int)) : chain l i = i :: chain l (up l i).toNat := by rw [chain, dif_pos h]
theorem chain_top {l : List Nd} {i : Nat} (h : ¬ (0 ≤ up l i ∧ up l i < (i : Int))) : chain l i = [i] := by rw [chain, dif_neg h]
theorem chain_le {l : List Nd} : ∀ (i j : Nat), j ∈ chain l i → j ≤ i := by
  intro i
  induction i using Nat.strongRecOn with
  | _ i ih =>
    intro j hj
    by_cases h : 0 ≤ up l i ∧ up l i < (i : Int)
    · rw [chain_up h, List.mem_cons] at hj
      rcases hj with rfl | hj
      · exact Nat.le_refl _
      · have := ih _ (by omega) j hj; omega
    · rw [chain_top h] at hj
      have : j = i := by simpa using hj
      omega
theorem chain_trans {l : List Nd} : ∀ (i j x : Nat), j ∈ chain l i → x ∈ chain l j → x ∈ chain l i := by
  intro i
  induction i using Nat.strongRecOn with
  | _ i ih =>
    intro j x hj hx
    by_cases h : 0 ≤ up l i ∧ up l i < (i : Int)
    · rw [chain_up h, List.mem_cons] at hj
      rcases hj with rfl | hj
      · exact hx
      · rw [chain_up h]
        exact List.mem_cons_of_mem _ (ih _ (by omega) j x hj hx)
    · rw [chain_top h] at hj
      obtain rfl : j = i := by simpa using hj
      exact hx
theorem chain_below {l : List Nd} : ∀ (i j x : Nat), j ∈ chain l i → x ∈ chain l i → x ≤ j → x ∈ chain l j := by
  intro i
  induction i using Nat.strongRecOn with
  | _ i ih =>
    intro j x hj hx hle
    by_cases h : 0 ≤ up l i ∧ up l i < (i : Int)
    · rw [chain_up h, List.mem_cons] at hj hx
      rcases hj with rfl | hj
      · rw [chain_up h]; exact List.mem_cons.mpr hx
      · rcases hx with rfl | hx
        · have := chain_le _ _ hj; omega
        · exact ih _ (by omega) j x hj hx hle
    · rw [chain_top h] at hj hx
      obtain rfl : j = i := by simpa using hj
      rw [chain_top h]; exact hx
theorem chain_mem_up {l : List Nd} {i : Nat} (h : 0 ≤ up l i ∧ up l i < (i : Int)) {x : Nat} (hx : x ∈ chain l i) (hne : x ≠ i) : x ∈ chain l (up l i).toNat := by
  rw [chain_up h, List.mem_cons] at hx
  exact hx.resolve_left hne

def cnt (l : List Nd) (i : Nat) : Nat → Nat → Nat
  | _, 0 => 0
  | a, d + 1 => (if up l a = (i : Int) then 1 else 0) + cnt l i (a + 1) d
theorem cnt_add (l : List Nd) (i : Nat) : ∀ (d a d' : Nat), cnt l i a (d + d') = cnt l i a d + cnt l i (a + d) d'
  | 0, a, d' => by simp [cnt]
  | d + 1, a, d' => by
    have e : d + 1 + d' = (d + d') + 1 := by omega
    rw [e]
    show (if up l a = (i : Int) then 1 else 0) + cnt l i (a + 1) (d + d') = (if up l a = (i : Int) then 1 else 0) + cnt l i (a + 1) d + cnt l i (a + (d + 1)) d'
    rw [cnt_add l i d (a + 1) d', show a + 1 + d = a + (d + 1) by omega]; omega
theorem cnt_zero (l : List Nd) (i : Nat) : ∀ (d a : Nat), (∀ m, a ≤ m → m < a + d → up l m ≠ (i : Int)) → cnt l i a d = 0
  | 0, a, h => rfl
  | d + 1, a, h => by
    show (if up l a = (i : Int) then 1 else 0) + cnt l i (a + 1) d = 0
    rw [if_neg (h a (Nat.le_refl _) (by omega)), cnt_zero l i d (a + 1) (fun m h1 h2 => h m (by omega) (by omega))]

structure Arity where
  top : Int
  want : Int → Nat

inductive Par (A : Arity) (l : List Nd) : Nat → Int → Tr → Nat → Prop
  | leaf {i : Nat} {u k n : Int} (h : l[i]? = some ⟨k, n, u⟩) (hk : 1 ≤ k ∧ k ≤ A.top) (hw : A.want k = 0) : Par A l i u (.leaf k n) (i + 1)
  | un {i e : Nat} {u k n : Int} {a : Tr} (h : l[i]? = some ⟨k, n, u⟩) (hk : 1 ≤ k ∧ k ≤ A.top) (hw : A.want k = 1) (ha : Par A l (i + 1) i a e) : Par A l i u (.un k n a) e
  | bin {i e e' : Nat} {u k n : Int} {a b : Tr} (h : l[i]? = some ⟨k, n, u⟩) (hk : 1 ≤ k ∧ k ≤ A.top) (hw : A.want k = 2) (ha : Par A l (i + 1) i a e) (hb : Par A l e i b e') : Par A l i u (.bin k n a b) e'

theorem Par.span {A : Arity} {l : List Nd} {i e : Nat} {u : Int} {t : Tr} (h : Par A l i u t e) : e = i + t.size ∧ e ≤ l.length ∧ up l i = u := by
  induction h with
  | @leaf i u k n h hk hw => exact ⟨rfl, lt_of h, up_of h⟩
  | @un i e u k n a h hk hw ha ih => exact ⟨by rw [ih.1]; show _ = _ + (1 + _); omega, ih.2.1, up_of h⟩
  | @bin i e e' u k n a b h hk hw ha hb ih1 ih2 => exact ⟨by rw [ih2.1, ih1.1]; show _ = _ + (1 + _ + _); omega, ih2.2.1, up_of h⟩
theorem Tr.size_pos (t : Tr) : 0 < t.size := by cases t <;> (simp only [Tr.size]; omega)
theorem Par.lt {A : Arity} {l : List Nd} {i e : Nat} {u : Int} {t : Tr} (h : Par A l i u t e) : i < e := by have := h.span.1; have := t.size_pos; omega

theorem Par.inside {A : Arity} {l : List Nd} {i e : Nat} {u : Int} {t : Tr} (h : Par A l i u t e) : ∀ m, i < m → m < e → (i : Int) ≤ up l m ∧ up l m < (m : Int) := by
  induction h with
  | @leaf i u k n h hk hw => intro m h1 h2; omega
  | @un i e u k n a h hk hw ha ih =>
    intro m h1 h2
    by_cases hm : m = i + 1
    · subst hm; rw [ha.span.2.2]; omega
    · have := ih m (by omega) h2; omega
  | @bin i e e' u k n a b h hk hw ha hb ih1 ih2 =>
    intro m h1 h2
    have := ha.lt
    by_cases hm : m = i + 1
    · subst hm; rw [ha.span.2.2]; omega
    · by_cases hme : m < e
      · have := ih1 m (by omega) hme; omega
      · by_cases hm2 : m = e
        · subst hm2; rw [hb.span.2.2]; omega
        · have := ih2 m (by omega) h2; omega

theorem anc_of_sub {l : List Nd} {i e : Nat} (h : ∀ m, i < m → m < e → (i : Int) ≤ up l m ∧ up l m < (m : Int)) : ∀ m, i ≤ m → m < e → i ∈ chain l m := by
  intro m
  induction m using Nat.strongRecOn with
  | _ m ih =>
    intro h1 h2
    by_cases hm : m = i
    · subst hm; exact chain_self l m
    · have hu := h m (by omega) h2
      rw [chain_up (by omega)]
      exact List.mem_cons_of_mem _ (ih (up l m).toNat (by omega) (by omega) (by omega))

theorem Par.around {A : Arity} {l : List Nd} {i e : Nat} {u : Int} {t : Tr} (h : Par A l i u t e) : ∀ m, i < m → m < e → (up l m).toNat ∈ chain l (m - 1) := by
  induction h with
  | @leaf i u k n h hk hw => intro m h1 h2; omega
  | @un i e u k n a h hk hw ha ih =>
    intro m h1 h2
    by_cases hm : m = i + 1
    · subst hm; rw [ha.span.2.2]; exact chain_self l i
    · exact ih m (by omega) h2
  | @bin i e e' u k n a b h hk hw ha hb ih1 ih2 =>
    intro m h1 h2
    have hlt := ha.lt
    by_cases hm : m = i + 1
    · subst hm; rw [ha.span.2.2]; exact chain_self l i
    · by_cases hme : m < e
      · exact ih1 m (by omega) hme
      · by_cases hm2 : m = e
        · subst hm2
          rw [hb.span.2.2]
          exact anc_of_sub (e := m) (fun q h3 h4 => (Par.bin h hk hw ha hb).inside q h3 (by have := hb.lt; omega)) (m - 1) (by omega) (by omega)
        · exact ih2 m (by omega) h2

theorem Par.counts {A : Arity} {l : List Nd} {i e : Nat} {u : Int} {t : Tr} (h : Par A l i u t e) : ∀ m, i ≤ m → m < e → ∃ k n v, l[m]? = some ⟨k, n, v⟩ ∧ (1 ≤ k ∧ k ≤ A.top) ∧ cnt l m (m + 1) (e - (m + 1)) = A.want k := by
  induction h with
  | @leaf i u k n h hk hw =>
    intro m h1 h2
    obtain rfl : m = i := by omega
    exact ⟨k, n, u, h, hk, by rw [hw, Nat.sub_self]; rfl⟩
  | @un i e u k n a h hk hw ha ih =>
    intro m h1 h2
    have hlt := ha.lt
    by_cases hm : m = i
    · subst hm
      refine ⟨k, n, u, h, hk, ?_⟩
      obtain ⟨d, hd⟩ : ∃ d, e - (m + 1) = d + 1 := ⟨e - (m + 1) - 1, by omega⟩
      rw [hd, hw]
      show (if up l (m + 1) = (m : Int) then 1 else 0) + cnt l m (m + 1 + 1) d = 1
      rw [if_pos ha.span.2.2, cnt_zero]
      intro q h3 h4
      have := ha.inside q (by omega) (by omega); omega
    · exact ih m (by omega) h2
  | @bin i e e' u k n a b h hk hw ha hb ih1 ih2 =>
    intro m h1 h2
    have hlt := ha.lt
    have hlt2 := hb.lt
    by_cases hm : m = i
    · subst hm
      refine ⟨k, n, u, h, hk, ?_⟩
      obtain ⟨d, hd⟩ : ∃ d, e - (m + 1) = d + 1 := ⟨e - (m + 1) - 1, by omega⟩
      obtain ⟨d2, hd2⟩ : ∃ d2, e' - e = d2 + 1 := ⟨e' - e - 1, by omega⟩
      rw [show e' - (m + 1) = (d + 1) + (d2 + 1) by omega, hw, cnt_add, show m + 1 + (d + 1) = e by omega]
      show (if up l (m + 1) = (m : Int) then 1 else 0) + cnt l m (m + 1 + 1) d + ((if up l e = (m : Int) then 1 else 0) + cnt l m (e + 1) d2) = 2
      rw [if_pos ha.span.2.2, if_pos hb.span.2.2, cnt_zero, cnt_zero]
      · intro q h3 h4
        have := hb.inside q (by omega) (by omega); omega
      · intro q h3 h4
        have := ha.inside q (by omega) (by omega); omega
    · by_cases hme : m < e
      · obtain ⟨k', n', v', h3, h4, h5⟩ := ih1 m (by omega) hme
        refine ⟨k', n', v', h3, h4, ?_⟩
        rw [show e' - (m + 1) = (e - (m + 1)) + (e' - e) by omega, cnt_add, h5, show m + 1 + (e - (m + 1)) = e by omega, cnt_zero, Nat.add_zero]
        intro q h6 h7
        by_cases hq : q = e
        · subst hq; rw [hb.span.2.2]; omega
        · have := hb.inside q (by omega) (by omega); omega
      · exact ih2 m (by omega) h2

theorem Par.deep {A : Arity} {l : List Nd} {i e : Nat} {u : Int} {t : Tr} (h : Par A l i u t e) : (∀ m, i ≤ m → m < e → (chain l m).length + 1 ≤ (chain l i).length + t.depth) ∧ ∃ m, i ≤ m ∧ m < e ∧ (chain l m).length + 1 = (chain l i).length + t.depth := by
  have up1 : ∀ (q i : Nat), up l q = (i : Int) → i < q → (chain l q).length = (chain l i).length + 1 := fun q i h1 h2 => by
    rw [chain_up (by omega), h1]; simp
  induction h with
  | @leaf i u k n h hk hw =>
    exact ⟨fun m h1 h2 => by obtain rfl : m = i := by omega
                             exact Nat.le_refl _, i, Nat.le_refl _, by omega, rfl⟩
  | @un i e u k n a h hk hw ha ih =>
    have hlt := ha.lt
    have e1 := up1 (i + 1) i ha.span.2.2 (by omega)
    refine ⟨fun m h1 h2 => ?_, ?_⟩
    · by_cases hm : m = i
      · subst hm; show _ ≤ _ + (a.depth + 1); omega
      · have := ih.1 m (by omega) h2; show _ ≤ _ + (a.depth + 1); omega
    · obtain ⟨m, h1, h2, h3⟩ := ih.2
      exact ⟨m, by omega, h2, by show _ = _ + (a.depth + 1); omega⟩
  | @bin i e e' u k n a b h hk hw ha hb ih1 ih2 =>
    have hlt := ha.lt
    have hlt2 := hb.lt
    have e1 := up1 (i + 1) i ha.span.2.2 (by omega)
    have e2 := up1 e i hb.span.2.2 (by omega)
    refine ⟨fun m h1 h2 => ?_, ?_⟩
    · show _ ≤ _ + (max a.depth b.depth + 1)
      by_cases hm : m = i
      · subst hm; omega
      · by_cases hme : m < e
        · have := ih1.1 m (by omega) hme; omega
        · have := ih2.1 m (by omega) h2; omega
    · by_cases hd : b.depth ≤ a.depth
      · obtain ⟨m, h1, h2, h3⟩ := ih1.2
        exact ⟨m, by omega, by omega, by show _ = _ + (max a.depth b.depth + 1); omega⟩
      · obtain ⟨m, h1, h2, h3⟩ := ih2.2
        exact ⟨m, by omega, by omega, by show _ = _ + (max a.depth b.depth + 1); omega⟩

theorem Par.alls {A : Arity} {l : List Nd} {i e : Nat} {u : Int} {t : Tr} (h : Par A l i u t e) (p : Int → Int → Prop) : t.all p ↔ ∀ m, i ≤ m → m < e → p (l.getD m z).kind (l.getD m z).n := by
  have at1 : ∀ (q : Nat) (x : Nd), l[q]? = some x → l.getD q z = x := fun q x h => by rw [List.getD_eq_getElem?_getD, h]; rfl
  induction h with
  | @leaf i u k n h hk hw =>
    constructor
    · intro h1 m h2 h3
      obtain rfl : m = i := by omega
      rw [at1 _ _ h]; exact h1
    · intro h1
      have := h1 i (Nat.le_refl _) (by omega)
      rw [at1 _ _ h] at this; exact this
  | @un i e u k n a h hk hw ha ih =>
    have hlt := ha.lt
    constructor
    · rintro ⟨h1, h2⟩ m h3 h4
      by_cases hm : m = i
      · subst hm; rw [at1 _ _ h]; exact h1
      · exact ih.mp h2 m (by omega) h4
    · intro h1
      have := h1 i (Nat.le_refl _) (by omega)
      rw [at1 _ _ h] at this
      exact ⟨this, ih.mpr (fun m h3 h4 => h1 m (by omega) h4)⟩
  | @bin i e e' u k n a b h hk hw ha hb ih1 ih2 =>
    have hlt := ha.lt
    have hlt2 := hb.lt
    constructor
    · rintro ⟨h1, h2, h2'⟩ m h3 h4
      by_cases hm : m = i
      · subst hm; rw [at1 _ _ h]; exact h1
      · by_cases hme : m < e
        · exact ih1.mp h2 m (by omega) hme
        · exact ih2.mp h2' m (by omega) h4
    · intro h1
      have := h1 i (Nat.le_refl _) (by omega)
      rw [at1 _ _ h] at this
      exact ⟨this, ih1.mpr (fun m h3 h4 => h1 m (by omega) (by omega)), ih2.mpr (fun m h3 h4 => h1 m (by omega) (by omega))⟩

structure Loc (A : Arity) (l : List Nd) : Prop where
  root : ∀ h : 0 < l.length, up l 0 = -1
  ahead : ∀ m, 0 < m → m < l.length → 0 ≤ up l m ∧ up l m < (m : Int)
  around : ∀ m, 0 < m → m < l.length → (up l m).toNat ∈ chain l (m - 1)
  kinds : ∀ m, m < l.length → 1 ≤ (l.getD m z).kind ∧ (l.getD m z).kind ≤ A.top
  wants : ∀ m, m < l.length → cnt l m (m + 1) (l.length - (m + 1)) = A.want (l.getD m z).kind

theorem Par.loc {A : Arity} {l : List Nd} {t : Tr} (h : Par A l 0 (-1) t l.length) : Loc A l := by
  have at1 : ∀ (q : Nat) (x : Nd), l[q]? = some x → l.getD q z = x := fun q x h => by rw [List.getD_eq_getElem?_getD, h]; rfl
  refine ⟨fun _ => h.span.2.2, fun m h1 h2 => by have := h.inside m h1 h2; omega, fun m h1 h2 => h.around m h1 h2, fun m h1 => ?_, fun m h1 => ?_⟩
  · obtain ⟨k, n, v, h2, h3, _⟩ := h.counts m (by omega) h1
    rw [at1 _ _ h2]; exact h3
  · obtain ⟨k, n, v, h2, _, h3⟩ := h.counts m (by omega) h1
    rw [at1 _ _ h2]; exact h3

theorem Loc.past {A : Arity} {l : List Nd} (L : Loc A l) {i e : Nat} (hi : i < e) (he : e < l.length) (hu : up l e < (i : Int)) : ∀ m, e ≤ m → m < l.length → ∀ x ∈ chain l m, x < i ∨ e ≤ x := by
  intro m
  induction m using Nat.strongRecOn with
  | _ m ih =>
    intro h1 h2 x hx
    have ha := L.ahead m (by omega) h2
    rw [chain_up ha, List.mem_cons] at hx
    rcases hx with rfl | hx
    · exact .inr h1
    · by_cases hm : m = e
      · subst hm
        have := chain_le _ _ hx
        exact .inl (by omega)
      · exact ih (m - 1) (by omega) (by omega) (by omega) x (chain_trans _ _ _ (L.around m (by omega) h2) hx)

theorem Loc.par {A : Arity} {l : List Nd} (L : Loc A l) (hA : ∀ k, A.want k ≤ 2) : ∀ (d i : Nat), i + d = l.length → 0 < d → ∃ t e, Par A l i (up l i) t e ∧ (e = l.length ∨ up l e < (i : Int)) := by
  intro d
  induction d using Nat.strongRecOn with
  | _ d ih =>
    intro i hi hd
    have hlt : i < l.length := by omega
    have hx : l[i]? = some ⟨(l.getD i z).kind, (l.getD i z).n, up l i⟩ := get_of hlt
    have hk := L.kinds i hlt
    have hw := L.wants i hlt
    -- the first part, if there is any
    have first : ∀ h : 0 < A.want (l.getD i z).kind, i + 1 < l.length ∧ up l (i + 1) = (i : Int) := by
      intro h
      have h1 : i + 1 < l.length := by
        by_cases h1 : i + 1 < l.length
        · exact h1
        · rw [show l.length - (i + 1) = 0 by omega] at hw
          have : cnt l i (i + 1) 0 = 0 := rfl
          omega
      refine ⟨h1, ?_⟩
      have ha := L.ahead (i + 1) (by omega) h1
      by_cases hu : up l (i + 1) = (i : Int)
      · exact hu
      · have hz : cnt l i (i + 1) (l.length - (i + 1)) = 0 := cnt_zero l i _ _ (fun m h2 h3 he => by
          have hp := L.past (i := i) (e := i + 1) (by omega) h1 (by omega) m (by omega) (by omega) i (by
            rw [chain_up (L.ahead m (by omega) (by omega)), he, Int.toNat_natCast]
            exact List.mem_cons_of_mem _ (chain_self l i))
          omega)
        omega
    by_cases h0 : A.want (l.getD i z).kind = 0
    · refine ⟨_, i + 1, .leaf hx hk h0, ?_⟩
      by_cases h1 : i + 1 < l.length
      · refine .inr ?_
        have ha := L.ahead (i + 1) (by omega) h1
        by_cases hu : up l (i + 1) = (i : Int)
        · obtain ⟨d', hd'⟩ : ∃ d', l.length - (i + 1) = d' + 1 := ⟨l.length - (i + 1) - 1, by omega⟩
          rw [hd', h0] at hw
          have hw' : (if up l (i + 1) = (i : Int) then 1 else 0) + cnt l i (i + 1 + 1) d' = 0 := hw
          rw [if_pos hu] at hw'; omega
        · omega
      · exact .inl (by omega)
    · obtain ⟨h1, hu1⟩ := first (by omega)
      obtain ⟨a, e1, pa, he1⟩ := ih (l.length - (i + 1)) (by omega) (i + 1) (by omega) (by omega)
      rw [hu1] at pa
      have hs1 := pa.span
      have hl1 := pa.lt
      have c1 : cnt l i (i + 1) (e1 - (i + 1)) = 1 := by
        obtain ⟨d', hd'⟩ : ∃ d', e1 - (i + 1) = d' + 1 := ⟨e1 - (i + 1) - 1, by omega⟩
        rw [hd']
        show (if up l (i + 1) = (i : Int) then 1 else 0) + cnt l i (i + 1 + 1) d' = 1
        rw [if_pos hu1, cnt_zero]
        intro q h3 h4
        have := pa.inside q (by omega) (by omega); omega
      have c2 : cnt l i (i + 1) (l.length - (i + 1)) = 1 + cnt l i e1 (l.length - e1) := by
        rw [show l.length - (i + 1) = (e1 - (i + 1)) + (l.length - e1) by omega, cnt_add, c1, show i + 1 + (e1 - (i + 1)) = e1 by omega]
      by_cases hw1 : A.want (l.getD i z).kind = 1
      · refine ⟨_, e1, .un hx hk hw1 pa, ?_⟩
        by_cases h2 : e1 < l.length
        · refine .inr ?_
          have hu := he1.resolve_left (by omega)
          by_cases hq : up l e1 = (i : Int)
          · obtain ⟨d', hd'⟩ : ∃ d', l.length - e1 = d' + 1 := ⟨l.length - e1 - 1, by omega⟩
            have : cnt l i e1 (l.length - e1) = (if up l e1 = (i : Int) then 1 else 0) + cnt l i (e1 + 1) d' := by rw [hd']; rfl
            rw [if_pos hq] at this; omega
          · omega
        · exact .inl (by omega)
      · have hw2 : A.want (l.getD i z).kind = 2 := by have := hA (l.getD i z).kind; omega
        have h2 : e1 < l.length := by
          by_cases h2 : e1 < l.length
          · exact h2
          · rw [show l.length - e1 = 0 by omega] at c2
            have : cnt l i e1 0 = 0 := rfl
            omega
        have hu := he1.resolve_left (by omega)
        have hu2 : up l e1 = (i : Int) := by
          by_cases hq : up l e1 = (i : Int)
          · exact hq
          · have hz : cnt l i e1 (l.length - e1) = 0 := cnt_zero l i _ _ (fun m h3 h4 he => by
              have hp := L.past (i := i) (e := e1) (by omega) h2 (by omega) m (by omega) (by omega) i (by
                rw [chain_up (L.ahead m (by omega) (by omega)), he, Int.toNat_natCast]
                exact List.mem_cons_of_mem _ (chain_self l i))
              omega)
            omega
        obtain ⟨b, e2, pb, he2⟩ := ih (l.length - e1) (by omega) e1 (by omega) (by omega)
        rw [hu2] at pb
        have hl2 := pb.lt
        have hs2 := pb.span
        refine ⟨_, e2, .bin hx hk hw2 pa pb, ?_⟩
        by_cases h3 : e2 < l.length
        · refine .inr ?_
          have hv := he2.resolve_left (by omega)
          have hav := L.ahead e2 (by omega) h3
          have hanc : e1 ∈ chain l (e2 - 1) := anc_of_sub (e := e2) (fun q h5 h6 => by have := pb.inside q h5 h6; omega) (e2 - 1) (by omega) (by omega)
          have hin := chain_below _ _ _ hanc (L.around e2 (by omega) h3) (by omega)
          have hin2 := chain_mem_up (L.ahead e1 (by omega) h2) hin (by omega)
          rw [hu2, Int.toNat_natCast] at hin2
          have hle := chain_le _ _ hin2
          by_cases hq : up l e2 = (i : Int)
          · obtain ⟨d1, hd1⟩ : ∃ d', e2 - e1 = d' + 1 := ⟨e2 - e1 - 1, by omega⟩
            obtain ⟨d2, hd2⟩ : ∃ d', l.length - e2 = d' + 1 := ⟨l.length - e2 - 1, by omega⟩
            have e3 : cnt l i e1 (l.length - e1) = cnt l i e1 (e2 - e1) + cnt l i e2 (l.length - e2) := by
              rw [show l.length - e1 = (e2 - e1) + (l.length - e2) by omega, cnt_add, show e1 + (e2 - e1) = e2 by omega]
            have e4 : cnt l i e1 (e2 - e1) = (if up l e1 = (i : Int) then 1 else 0) + cnt l i (e1 + 1) d1 := by rw [hd1]; rfl
            have e5 : cnt l i e2 (l.length - e2) = (if up l e2 = (i : Int) then 1 else 0) + cnt l i (e2 + 1) d2 := by rw [hd2]; rfl
            rw [if_pos hu2] at e4
            rw [if_pos hq] at e5
            omega
          · omega
        · exact .inl (by omega)

theorem loc_iff {A : Arity} {l : List Nd} (hA : ∀ k, A.want k ≤ 2) (hl : 0 < l.length) : Loc A l ↔ ∃ t, Par A l 0 (-1) t l.length := by
  constructor
  · intro L
    obtain ⟨t, e, h, he⟩ := L.par hA l.length 0 (by omega) hl
    rw [L.root hl] at h
    rcases he with rfl | he
    · exact ⟨t, h⟩
    · have hlt := h.lt
      have hs := h.span
      by_cases h2 : e < l.length
      · have := L.ahead e (by omega) h2; omega
      · obtain rfl : e = l.length := by omega
        exact ⟨t, h⟩
  · rintro ⟨t, h⟩
    exact h.loc

theorem Par.unique {A : Arity} {l : List Nd} {i e e' : Nat} {u : Int} {t t' : Tr} (h : Par A l i u t e) (h' : Par A l i u t' e') : t = t' ∧ e = e' := by
  induction h generalizing t' e' with
  | @leaf i u k n h hk hw =>
    cases h' with
    | leaf h2 _ _ => rw [h] at h2; injection h2 with h2; injection h2 with a b c; subst a; subst b; exact ⟨rfl, rfl⟩
    | un h2 _ hw2 _ => rw [h] at h2; injection h2 with h2; injection h2 with a b c; subst a; omega
    | bin h2 _ hw2 _ _ => rw [h] at h2; injection h2 with h2; injection h2 with a b c; subst a; omega
  | @un i e u k n a h hk hw ha ih =>
    cases h' with
    | leaf h2 _ hw2 => rw [h] at h2; injection h2 with h2; injection h2 with a b c; subst a; omega
    | un h2 _ _ ha2 =>
      rw [h] at h2; injection h2 with h2; injection h2 with a b c; subst a; subst b
      obtain ⟨rfl, rfl⟩ := ih ha2
      exact ⟨rfl, rfl⟩
    | bin h2 _ hw2 _ _ => rw [h] at h2; injection h2 with h2; injection h2 with a b c; subst a; omega
  | @bin i e e' u k n a b h hk hw ha hb ih1 ih2 =>
    cases h' with
    | leaf h2 _ hw2 => rw [h] at h2; injection h2 with h2; injection h2 with a b c; subst a; omega
    | un h2 _ hw2 _ => rw [h] at h2; injection h2 with h2; injection h2 with a b c; subst a; omega
    | bin h2 _ _ ha2 hb2 =>
      rw [h] at h2; injection h2 with h2; injection h2 with a b c; subst a; subst b
      obtain ⟨rfl, rfl⟩ := ih1 ha2
      obtain ⟨rfl, rfl⟩ := ih2 hb2
      exact ⟨rfl, rfl⟩
end Go.Proofs.YtcjhhdecckcibaaDoor.TreeM

namespace Go.Proofs.YtcjhhdecckcibaaDoor.TreeM
set_option linter.unusedVariables false

def flat : Tr → Nat → Int → List Nd
  | .leaf k n, _, u => [⟨k, n, u⟩]
  | .un k n a, i, u => ⟨k, n, u⟩ :: flat a (i + 1) i
  | .bin k n a b, i, u => ⟨k, n, u⟩ :: (flat a (i + 1) i ++ flat b (i + 1 + a.size) i)
theorem flat_len : ∀ (t : Tr) (i : Nat) (u : Int), (flat t i u).length = t.size
  | .leaf _ _, _, _ => rfl
  | .un k n a, i, u => by show (flat a (i + 1) i).length + 1 = 1 + a.size; rw [flat_len a]; omega
  | .bin k n a b, i, u => by show (flat a (i + 1) i ++ flat b (i + 1 + a.size) i).length + 1 = 1 + a.size + b.size; rw [List.length_append, flat_len a, flat_len b]; omega

def Tr.wf (A : Arity) : Tr → Prop
  | .leaf k _ => (1 ≤ k ∧ k ≤ A.top) ∧ A.want k = 0
  | .un k _ a => ((1 ≤ k ∧ k ≤ A.top) ∧ A.want k = 1) ∧ a.wf A
  | .bin k _ a b => ((1 ≤ k ∧ k ≤ A.top) ∧ A.want k = 2) ∧ a.wf A ∧ b.wf A
theorem Par.wf {A : Arity} {l : List Nd} {i e : Nat} {u : Int} {t : Tr} (h : Par A l i u t e) : t.wf A := by
  induction h with
  | leaf h hk hw => exact ⟨hk, hw⟩
  | un h hk hw ha ih => exact ⟨⟨hk, hw⟩, ih⟩
  | bin h hk hw ha hb ih1 ih2 => exact ⟨⟨hk, hw⟩, ih1, ih2⟩

theorem par_flat {A : Arity} : ∀ (t : Tr) (i : Nat) (u : Int) (l : List Nd), t.wf A → (∀ j x, (flat t i u)[j]? = some x → l[i + j]? = some x) → Par A l i u t (i + t.size)
  | .leaf k n, i, u, l, hw, h => .leaf (h 0 _ rfl) hw.1 hw.2
  | .un k n a, i, u, l, hw, h => by
    have pa := par_flat a (i + 1) i l hw.2 (fun j x hx => by rw [show i + 1 + j = i + (j + 1) by omega]; exact h (j + 1) x hx)
    have e : i + (Tr.un k n a).size = i + 1 + a.size := by show i + (1 + a.size) = _; omega
    rw [e]
    exact .un (h 0 _ rfl) hw.1.1 hw.1.2 pa
  | .bin k n a b, i, u, l, hw, h => by
    have pa := par_flat a (i + 1) i l hw.2.1 (fun j x hx => by
      rw [show i + 1 + j = i + (j + 1) by omega]
      refine h (j + 1) x ?_
      show (flat a (i + 1) i ++ flat b (i + 1 + a.size) i)[j]? = _
      rw [List.getElem?_append_left (by have := lt_of hx; exact this)]; exact hx)
    have pb := par_flat b (i + 1 + a.size) i l hw.2.2 (fun j x hx => by
      rw [show i + 1 + a.size + j = i + (a.size + j + 1) by omega]
      refine h (a.size + j + 1) x ?_
      show (flat a (i + 1) i ++ flat b (i + 1 + a.size) i)[a.size + j]? = _
      rw [List.getElem?_append_right (by rw [flat_len]; omega), flat_len, show a.size + j - a.size = j by omega]; exact hx)
    have e : i + (Tr.bin k n a b).size = i + 1 + a.size + b.size := by show i + (1 + a.size + b.size) = _; omega
    rw [e]
    exact .bin (h 0 _ rfl) hw.1.1 hw.1.2 pa pb

theorem flat_par {A : Arity} (t : Tr) (hw : t.wf A) : Par A (flat t 0 (-1)) 0 (-1) t (flat t 0 (-1)).length := by
  have := par_flat (A := A) t 0 (-1) (flat t 0 (-1)) hw (fun j x hx => by rw [Nat.zero_add]; exact hx)
  rw [flat_len]; rw [Nat.zero_add] at this; exact this

def pts (l : List Nd) (i : Nat) : Nat → Nat → List Nat
  | _, 0 => []
  | a, d + 1 => if up l a = (i : Int) then a :: pts l i (a + 1) d else pts l i (a + 1) d
theorem pts_add (l : List Nd) (i : Nat) : ∀ (d a d' : Nat), pts l i a (d + d') = pts l i a d ++ pts l i (a + d) d'
  | 0, a, d' => by simp [pts]
  | d + 1, a, d' => by
    have e : d + 1 + d' = (d + d') + 1 := by omega
    rw [e]
    show (if up l a = (i : Int) then a :: pts l i (a + 1) (d + d') else pts l i (a + 1) (d + d')) = (if up l a = (i : Int) then a :: pts l i (a + 1) d else pts l i (a + 1) d) ++ pts l i (a + (d + 1)) d'
    rw [pts_add l i d (a + 1) d', show a + 1 + d = a + (d + 1) by omega]
    split <;> rfl
theorem pts_none (l : List Nd) (i : Nat) : ∀ (d a : Nat), (∀ m, a ≤ m → m < a + d → up l m ≠ (i : Int)) → pts l i a d = []
  | 0, a, h => rfl
  | d + 1, a, h => by
    show (if up l a = (i : Int) then a :: pts l i (a + 1) d else pts l i (a + 1) d) = []
    rw [if_neg (h a (Nat.le_refl _) (by omega)), pts_none l i d (a + 1) (fun m h1 h2 => h m (by omega) (by omega))]

def Shut (l : List Nd) (i e : Nat) : Prop := ∀ m, e ≤ m → m < l.length → ¬ ((i : Int) ≤ up l m ∧ up l m < (e : Int))

inductive Parts (A : Arity) (l : List Nd) : Nat → Tr → Nat → Prop
  | leaf {i : Nat} {k n : Int} (h : l.getD i z = ⟨k, n, up l i⟩) (hi : i < l.length) (hw : A.want k = 0) (hp : pts l i (i + 1) (l.length - (i + 1)) = []) : Parts A l i (.leaf k n) (i + 1)
  | un {i e : Nat} {k n : Int} {a : Tr} (h : l.getD i z = ⟨k, n, up l i⟩) (hi : i < l.length) (hw : A.want k = 1) (hp : pts l i (i + 1) (l.length - (i + 1)) = [i + 1]) (ha : Parts A l (i + 1) a e) : Parts A l i (.un k n a) e
  | bin {i e e' : Nat} {k n : Int} {a b : Tr} (h : l.getD i z = ⟨k, n, up l i⟩) (hi : i < l.length) (hw : A.want k = 2) (hp : pts l i (i + 1) (l.length - (i + 1)) = [i + 1, e]) (ha : Parts A l (i + 1) a e) (hb : Parts A l e b e') : Parts A l i (.bin k n a b) e'

theorem Par.parts {A : Arity} {l : List Nd} {i e : Nat} {u : Int} {t : Tr} (h : Par A l i u t e) : Shut l i e → Parts A l i t e := by
  have at1 : ∀ (q : Nat) (k n v : Int), l[q]? = some ⟨k, n, v⟩ → l.getD q z = ⟨k, n, up l q⟩ := fun q k n v h => by rw [up_of h, List.getD_eq_getElem?_getD, h]; rfl
  induction h with
  | @leaf i u k n h hk hw =>
    intro hs
    refine .leaf (at1 _ _ _ _ h) (lt_of h) hw (pts_none _ _ _ _ fun m h1 h2 he => hs m h1 (by have := lt_of h; omega) ?_)
    omega
  | @un i e u k n a h hk hw ha ih =>
    intro hs
    have hlt := ha.lt
    have hsp := ha.span
    refine .un (at1 _ _ _ _ h) (lt_of h) hw ?_ (ih fun m h1 h2 h3 => hs m h1 h2 (by omega))
    obtain ⟨d, hd⟩ : ∃ d, e - (i + 1) = d + 1 := ⟨e - (i + 1) - 1, by omega⟩
    rw [show l.length - (i + 1) = (d + 1) + (l.length - e) by omega, pts_add l i (d + 1) (i + 1) (l.length - e), show i + 1 + (d + 1) = e by omega]
    have e1 : pts l i (i + 1) (d + 1) = [i + 1] := by
      show (if up l (i + 1) = (i : Int) then (i + 1) :: pts l i (i + 1 + 1) d else pts l i (i + 1 + 1) d) = _
      rw [if_pos hsp.2.2, pts_none]
      intro q h3 h4
      have := ha.inside q (by omega) (by omega); omega
    have e2 : pts l i e (l.length - e) = [] := pts_none _ _ _ _ fun m h1 h2 he => hs m h1 (by omega) (by omega)
    rw [e1, e2]; rfl
  | @bin i e e' u k n a b h hk hw ha hb ih1 ih2 =>
    intro hs
    have hlt := ha.lt
    have hsp := ha.span
    have hlt2 := hb.lt
    have hsp2 := hb.span
    refine .bin (at1 _ _ _ _ h) (lt_of h) hw ?_ (ih1 fun m h1 h2 h3 => ?_) (ih2 fun m h1 h2 h3 => hs m h1 h2 (by omega))
    · obtain ⟨d, hd⟩ : ∃ d, e - (i + 1) = d + 1 := ⟨e - (i + 1) - 1, by omega⟩
      obtain ⟨d2, hd2⟩ : ∃ d2, e' - e = d2 + 1 := ⟨e' - e - 1, by omega⟩
      rw [show l.length - (i + 1) = (d + 1) + ((d2 + 1) + (l.length - e')) by omega, pts_add l i (d + 1) (i + 1) ((d2 + 1) + (l.length - e')), show i + 1 + (d + 1) = e by omega, pts_add l i (d2 + 1) e (l.length - e'), show e + (d2 + 1) = e' by omega]
      have e1 : pts l i (i + 1) (d + 1) = [i + 1] := by
        show (if up l (i + 1) = (i : Int) then (i + 1) :: pts l i (i + 1 + 1) d else pts l i (i + 1 + 1) d) = _
        rw [if_pos hsp.2.2, pts_none]
        intro q h3 h4
        have := ha.inside q (by omega) (by omega); omega
      have e2 : pts l i e (d2 + 1) = [e] := by
        show (if up l e = (i : Int) then e :: pts l i (e + 1) d2 else pts l i (e + 1) d2) = _
        rw [if_pos hsp2.2.2, pts_none]
        intro q h3 h4
        have := hb.inside q (by omega) (by omega); omega
      have e3 : pts l i e' (l.length - e') = [] := pts_none _ _ _ _ fun m h1 h2 he => hs m h1 (by omega) (by omega)
      rw [e1, e2, e3]; rfl
    · by_cases hm : m < e'
      · by_cases hme : m = e
        · subst hme; omega
        · have := hb.inside m (by omega) hm; omega
      · exact hs m (by omega) h2 (by omega)

end Go.Proofs.YtcjhhdecckcibaaDoor.TreeM

namespace Go.Proofs.YtcjhhdecckcibaaDoor.ReadM
open Go.RowKit Go.Proofs.YtcjhhdecckcibaaDoor.EvL Go.Proofs.YtcjhhdecckcibaaDoor.TxtL Go.Proofs.YtcjhhdecckcibaaDoor.TreeM Go.Proofs.YtcjhhdecckcibaaDoorW.PrintWords
set_option linter.unusedVariables false
set_option linter.unusedSimpArgs false

def digs : Nat → List UInt8 → List UInt8
  | 0, _ => []
  | _ + 1, [] => []
  | m + 1, c :: l => if isD c then c :: digs m l else []
theorem digs_all : ∀ (m : Nat) (l : List UInt8), ∀ c ∈ digs m l, isD c
  | 0, _, c, h => by simp [digs] at h
  | _ + 1, [], c, h => by simp [digs] at h
  | m + 1, x :: l, c, h => by
    unfold digs at h
    by_cases hx : isD x
    · rw [if_pos hx] at h
      rcases List.mem_cons.mp h with rfl | h
      · exact hx
      · exact digs_all m l c h
    · rw [if_neg hx] at h; simp at h
theorem digs_len : ∀ (m : Nat) (l : List UInt8), (digs m l).length ≤ m ∧ (digs m l).length ≤ l.length
  | 0, _ => by simp [digs]
  | _ + 1, [] => by simp [digs]
  | m + 1, x :: l => by
    have ih := digs_len m l
    unfold digs
    split
    · simp only [List.length_cons]; omega
    · simp
theorem digs_pre : ∀ (m : Nat) (l : List UInt8), l = digs m l ++ l.drop (digs m l).length
  | 0, _ => by simp [digs]
  | _ + 1, [] => by simp [digs]
  | m + 1, x :: l => by
    have ih := digs_pre m l
    unfold digs
    split
    · rw [List.length_cons, List.drop_succ_cons, List.cons_append, ← ih]
    · rfl
def NoD (r : List UInt8) : Prop := ∀ c, r.head? = some c → ¬ isD c
theorem noD_nil : NoD [] := fun c h => by cases h
theorem noD_cons {c : UInt8} (r : List UInt8) (h : ¬ isD c) : NoD (c :: r) := fun x hx => by
  have : c = x := by simpa using hx
  rw [← this]; exact h
theorem digs_app : ∀ (m : Nat) (ds r : List UInt8), (∀ c ∈ ds, isD c) → ds.length ≤ m → NoD r → digs m (ds ++ r) = ds
  | 0, ds, r, _, hl, _ => by
    have : ds = [] := List.eq_nil_of_length_eq_zero (by omega)
    rw [this]; rfl
  | m + 1, [], r, _, _, hr => by
    cases r with
    | nil => rfl
    | cons c r => rw [List.nil_append, digs, if_neg (hr c rfl)]
  | m + 1, x :: ds, r, h, hl, hr => by
    rw [List.cons_append, digs, if_pos (h x (by simp)), digs_app m ds r (fun c hc => h c (by simp [hc])) (by simpa using hl) hr]
theorem dec_len : ∀ (m n : Nat), 1 ≤ m → n < 10 ^ m → (Lib.decDigits n).length ≤ m
  | 0, n, h, _ => by omega
  | m + 1, n, _, hn => by
    by_cases h : n < 10
    · rw [Lib.decDigits_one h]; simp
    · have hm : 1 ≤ m := by
        cases m with
        | zero => simp at hn; omega
        | succ m => omega
      rw [Nat.pow_succ] at hn
      have ih := dec_len m (n / 10) hm (by omega)
      rw [Lib.decDigits, dif_neg h, List.length_append, List.length_singleton]
      omega
theorem val_lt (ds : List UInt8) (h : ∀ c ∈ ds, isD c) : valF 0 ds < 10 ^ ds.length := by
  have := valF_lt ds 0 h
  rwa [Nat.zero_add, Nat.one_mul] at this
theorem val_le (m : Nat) (ds : List UInt8) (h : ∀ c ∈ ds, isD c) (hl : ds.length ≤ m) : valF 0 ds < 10 ^ m := Nat.lt_of_lt_of_le (val_lt ds h) (Nat.pow_le_pow_right (by omega) hl)
theorem dec_val_len (ds : List UInt8) (h : ∀ c ∈ ds, isD c) (hne : ds ≠ []) : (Lib.decDigits (valF 0 ds)).length ≤ ds.length := by
  refine dec_len ds.length _ ?_ (val_lt ds h)
  cases ds with
  | nil => exact absurd rfl hne
  | cons c ds => simp

def eat (x : UInt8) : List UInt8 → Option (List UInt8)
  | [] => none
  | c :: r => if c = x then some r else none
theorem eat_some {x : UInt8} {r r' : List UInt8} (h : eat x r = some r') : r = x :: r' := by
  cases r with
  | nil => cases h
  | cons c r =>
    replace h : (if c = x then some r else none) = some r' := h
    by_cases hc : c = x
    · rw [if_pos hc] at h; injection h with h; rw [hc, h]
    · rw [if_neg hc] at h; cases h
theorem eat_cons (x : UInt8) (r : List UInt8) : eat x (x :: r) = some r := if_pos rfl
theorem trim_eat (x : UInt8) (r : List UInt8) : Lib.hasPrefix r [x] = (eat x r).isSome ∧ Lib.trimPrefix r [x] = (eat x r).getD r := by
  cases r with
  | nil => exact ⟨rfl, rfl⟩
  | cons c r =>
    have hp : Lib.hasPrefix (c :: r) [x] = decide (x = c) := by unfold Lib.hasPrefix; rw [Bool.eq_iff_iff, decide_eq_true_iff]; simp [List.isPrefixOf]
    have he : eat x (c :: r) = if c = x then some r else none := rfl
    unfold Lib.trimPrefix
    rw [hp, he]
    by_cases h : c = x
    · subst h; simp
    · have h' : ¬ x = c := fun e => h e.symm
      simp [h, h']

def ttxt : Tr → List UInt8
  | .leaf _ n => Lib.decDigits n.toNat
  | .un _ _ a => 92 :: ttxt a
  | .bin _ _ a b => 40 :: (ttxt a ++ 32 :: (ttxt b ++ [41]))
def TForm (m : Nat) : Tr → Prop
  | .leaf k n => k = 1 ∧ 0 ≤ n ∧ n < (m : Int)
  | .un k n a => k = 2 ∧ n = 0 ∧ TForm m a
  | .bin k n a b => k = 3 ∧ n = 0 ∧ TForm m a ∧ TForm m b
def trd (m : Nat) : Nat → List UInt8 → Option (Tr × List UInt8)
  | 0, _ => none
  | _ + 1, [] => none
  | d + 1, c :: s =>
    if c = 92 then (trd m d s).bind fun p => some (.un 2 0 p.1, p.2)
    else if c = 40 then (trd m d s).bind fun p => (eat 32 p.2).bind fun r1 => (trd m d r1).bind fun q => (eat 41 q.2).bind fun r3 => some (.bin 3 0 p.1 q.1, r3)
    else if digs m (c :: s) = [] then none else some (.leaf 1 (valF 0 (digs m (c :: s)) : Nat), (c :: s).drop (digs m (c :: s)).length)
theorem trd_sound (m : Nat) : ∀ (d : Nat) (s : List UInt8) (t : Tr) (r : List UInt8), trd m d s = some (t, r) → TForm (10 ^ m) t ∧ (ttxt t).length + r.length ≤ s.length ∧ t.size + r.length ≤ s.length ∧ t.depth ≤ d
  | 0, _, _, _, h => by cases h
  | _ + 1, [], _, _, h => by cases h
  | d + 1, c :: s, t, r, h => by
    unfold trd at h
    by_cases h1 : c = 92
    · rw [if_pos h1] at h
      obtain ⟨⟨a, r0⟩, ha, h⟩ := Option.bind_eq_some_iff.mp h
      simp only [Option.some.injEq, Prod.mk.injEq] at h
      obtain ⟨rfl, rfl⟩ := h
      obtain ⟨a1, a2, a3, a4⟩ := trd_sound m d s a r0 ha
      refine ⟨⟨rfl, rfl, a1⟩, ?_, ?_, ?_⟩
      · simp only [ttxt, List.length_cons]; omega
      · show 1 + a.size + _ ≤ _; rw [List.length_cons]; omega
      · show a.depth + 1 ≤ _; omega
    rw [if_neg h1] at h
    by_cases h5 : c = 40
    · rw [if_pos h5] at h
      obtain ⟨⟨a, r0⟩, ha, h⟩ := Option.bind_eq_some_iff.mp h
      obtain ⟨r1, e1, h⟩ := Option.bind_eq_some_iff.mp h
      obtain ⟨⟨b, r2⟩, hb, h⟩ := Option.bind_eq_some_iff.mp h
      obtain ⟨r3, e2, h⟩ := Option.bind_eq_some_iff.mp h
      simp only [Option.some.injEq, Prod.mk.injEq] at h
      obtain ⟨rfl, rfl⟩ := h
      obtain ⟨a1, a2, a3, a4⟩ := trd_sound m d s a r0 ha
      obtain ⟨b1, b2, b3, b4⟩ := trd_sound m d r1 b r2 hb
      have q1 : r0 = 32 :: r1 := eat_some e1
      have q2 : r2 = 41 :: r3 := eat_some e2
      rw [q1, List.length_cons] at a2 a3
      rw [q2, List.length_cons] at b2 b3
      refine ⟨⟨rfl, rfl, a1, b1⟩, ?_, ?_, ?_⟩
      · simp only [ttxt, List.length_cons, List.length_append, List.length_nil]; omega
      · show 1 + a.size + b.size + _ ≤ _; rw [List.length_cons]; omega
      · show max a.depth b.depth + 1 ≤ _; omega
    rw [if_neg h5] at h
    by_cases h6 : digs m (c :: s) = []
    · rw [if_pos h6] at h; cases h
    rw [if_neg h6] at h
    simp only [Option.some.injEq, Prod.mk.injEq] at h
    obtain ⟨rfl, rfl⟩ := h
    have hl := digs_len m (c :: s)
    have hv := val_le m _ (digs_all m (c :: s)) hl.1
    have hd := dec_val_len _ (digs_all m (c :: s)) h6
    have hp : 1 ≤ (digs m (c :: s)).length := by
      cases hq : digs m (c :: s) with
      | nil => exact absurd hq h6
      | cons a b => simp
    refine ⟨⟨rfl, by omega, by exact_mod_cast hv⟩, ?_, ?_, by simp [Tr.depth]⟩
    · rw [ttxt, List.length_drop, Int.toNat_natCast]; omega
    · rw [List.length_drop]; show 1 + _ ≤ _; omega
theorem trd_text (m : Nat) (hm : 2 ≤ m) : ∀ (t : Tr) (d : Nat) (r : List UInt8), TForm 100 t → t.depth ≤ d → NoD r → trd m d (ttxt t ++ r) = some (t, r)
  | .leaf k n, 0, r, _, hd, _ => by simp [Tr.depth] at hd
  | .leaf k n, d + 1, r, h, _, hr => by
    obtain ⟨rfl, h0, h1⟩ := h
    have hN := dec_numeral n.toNat
    have hds : digs m (Lib.decDigits n.toNat ++ r) = Lib.decDigits n.toNat := digs_app m _ r hN.1.1 (Nat.le_trans (dec_len 2 n.toNat (by omega) (by show _ < 100; omega)) hm) hr
    have hdr : (Lib.decDigits n.toNat ++ r).drop (Lib.decDigits n.toNat).length = r := List.drop_left
    have hv := hN.2.1
    have hne := hN.1.2.1
    have hall := hN.1.1
    rw [ttxt]
    have hnn : ((n.toNat : Nat) : Int) = n := by omega
    rw [← hnn]
    generalize n.toNat = v at *
    cases hq : Lib.decDigits v with
    | nil => exact absurd hq hne
    | cons c l =>
      rw [hq] at hds hdr hv hall
      have hc : isD c := hall c (by simp)
      unfold isD at hc
      rw [List.cons_append] at *
      have n1 : ¬ c = 92 := fun e => by rw [e] at hc; exact absurd hc (by decide)
      have n2 : ¬ c = 40 := fun e => by rw [e] at hc; exact absurd hc (by decide)
      have e : trd m (d + 1) (c :: (l ++ r)) = if digs m (c :: (l ++ r)) = [] then none else some (.leaf 1 (valF 0 (digs m (c :: (l ++ r))) : Nat), (c :: (l ++ r)).drop (digs m (c :: (l ++ r))).length) := by
        rw [trd, if_neg n1, if_neg n2]
      rw [Int.toNat_natCast, hq, List.cons_append, e, hds, if_neg (by simp), hdr, hv]
  | .un k n a, 0, r, _, hd, _ => by simp [Tr.depth] at hd
  | .un k n a, d + 1, r, h, hd, hr => by
    obtain ⟨rfl, rfl, ha⟩ := h
    have hd' : a.depth + 1 ≤ d + 1 := hd
    have e : ttxt (.un 2 0 a) ++ r = 92 :: (ttxt a ++ r) := rfl
    rw [e, trd, if_pos rfl, trd_text m hm a d _ ha (by omega) hr, Option.bind_some]
  | .bin k n a b, 0, r, _, hd, _ => by simp [Tr.depth] at hd
  | .bin k n a b, d + 1, r, h, hd, hr => by
    obtain ⟨rfl, rfl, ha, hb⟩ := h
    have hd' : max a.depth b.depth + 1 ≤ d + 1 := hd
    have e : ttxt (.bin 3 0 a b) ++ r = 40 :: (ttxt a ++ 32 :: (ttxt b ++ 41 :: r)) := by simp [ttxt]
    rw [e, trd, if_neg (by decide), if_pos rfl,
      trd_text m hm a d _ ha (by omega) (noD_cons _ (by decide)), Option.bind_some, eat_cons, Option.bind_some,
      trd_text m hm b d _ hb (by omega) (noD_cons _ (by decide)), Option.bind_some, eat_cons, Option.bind_some]
theorem ttxt_len : ∀ (t : Tr), TForm 100 t → (ttxt t).length ≤ 4 * t.size
  | .leaf k n, h => by
    have := dec_len 2 n.toNat (by omega) (by show _ < 100; have := h.2; omega)
    rw [ttxt]; show _ ≤ 4 * 1; omega
  | .un k n a, h => by
    have ia := ttxt_len a h.2.2
    rw [ttxt, List.length_cons]; show _ ≤ 4 * (1 + a.size); omega
  | .bin k n a b, h => by
    have ia := ttxt_len a h.2.2.1
    have ib := ttxt_len b h.2.2.2
    simp only [ttxt, List.length_cons, List.length_append, List.length_nil]
    show _ ≤ 4 * (1 + a.size + b.size); omega
theorem eat_suffix {x : UInt8} {r r' : List UInt8} (h : eat x r = some r') : r' <:+ r := by rw [eat_some h]; exact List.suffix_cons _ _
theorem trd_suffix (m : Nat) : ∀ (d : Nat) (s : List UInt8) (t : Tr) (r : List UInt8), trd m d s = some (t, r) → r <:+ s
  | 0, _, _, _, h => by cases h
  | _ + 1, [], _, _, h => by cases h
  | d + 1, c :: s, t, r, h => by
    unfold trd at h
    split at h
    · obtain ⟨⟨a, r0⟩, ha, h⟩ := Option.bind_eq_some_iff.mp h
      simp only [Option.some.injEq, Prod.mk.injEq] at h
      rw [← h.2]
      exact (trd_suffix m d s a r0 ha).trans (List.suffix_cons _ _)
    split at h
    · obtain ⟨⟨a, r0⟩, ha, h⟩ := Option.bind_eq_some_iff.mp h
      obtain ⟨r1, e1, h⟩ := Option.bind_eq_some_iff.mp h
      obtain ⟨⟨b, r2⟩, hb, h⟩ := Option.bind_eq_some_iff.mp h
      obtain ⟨r3, e2, h⟩ := Option.bind_eq_some_iff.mp h
      simp only [Option.some.injEq, Prod.mk.injEq] at h
      rw [← h.2]
      exact (eat_suffix e2).trans ((trd_suffix m d r1 b r2 hb).trans ((eat_suffix e1).trans ((trd_suffix m d s a r0 ha).trans (List.suffix_cons _ _))))
    split at h
    · cases h
    · simp only [Option.some.injEq, Prod.mk.injEq] at h
      rw [← h.2]
      exact List.drop_suffix _ _
theorem suffix_get {y : UInt8} {r s : List UInt8} (h : (y :: r) <:+ s) (hl : s.length - (y :: r).length < s.length) : s[s.length - (y :: r).length]'hl = y := by
  obtain ⟨p, rfl⟩ := h
  have e : (p ++ y :: r).length - (y :: r).length = p.length := by simp
  have : (p ++ y :: r)[p.length]? = some y := by simp
  have h2 : (p ++ y :: r)[(p ++ y :: r).length - (y :: r).length]? = some y := by rw [e]; exact this
  rw [List.getElem?_eq_getElem hl] at h2
  exact Option.some.inj h2
theorem suffix_drop {y : UInt8} {r s : List UInt8} (h : (y :: r) <:+ s) : s.drop (s.length - r.length) = r := by
  obtain ⟨p, rfl⟩ := h
  have e : (p ++ y :: r).length - r.length = (p ++ [y]).length := by simp; omega
  rw [e, show p ++ y :: r = (p ++ [y]) ++ r by simp, List.drop_left]
end Go.Proofs.YtcjhhdecckcibaaDoor.ReadM

namespace Go.Proofs.YtcjhhdecckcibaaDoor.NumL
open Go.RowKit Go.Proofs.YtcjhhdecckcibaaDoor.G Go.Proofs.YtcjhhdecckcibaaDoor.EvL Go.Proofs.YtcjhhdecckcibaaDoor.TxtL Go.Proofs.YtcjhhdecckcibaaDoorW.PrintWords Go.Proofs.YtcjhhdecckcibaaDoorW.PrintLast
set_option linter.unusedVariables false
set_option linter.unusedSimpArgs false

theorem digit_all : ∀ i : Fin 10, strOfNums (([(wrap64 (48 + (i.val : Int))) % 256] : List Int)) = ⟨([UInt8.ofNat (48 + i.val)] : List UInt8).toArray⟩ := by decide +kernel
theorem digit (n : Int) (h0 : 0 ≤ n) (h1 : n < 10) : strOfNums (([(wrap64 (48 + n)) % 256] : List Int)) = ⟨([UInt8.ofNat (48 + n.toNat)] : List UInt8).toArray⟩ := by
  have h := digit_all ⟨n.toNat, by omega⟩
  have e : (((⟨n.toNat, by omega⟩ : Fin 10).val : Nat) : Int) = n := by show ((n.toNat : Nat) : Int) = n; omega
  rw [e] at h
  exact h
theorem low_ev (n : Int) (h0 : 0 ≤ n) (h1 : n < 10) : Ev (fun k => spec_l1Num.f k n) ⟨(Lib.decDigits n.toNat).toArray⟩ := by
  refine Ev.step (f := fun _ => some ⟨(Lib.decDigits n.toNat).toArray⟩) (fun k => ?_) (Ev.now _)
  simp only [spec_l1Num.f]
  rw [if_neg (by omega), if_pos h1, digit n h0 h1, Lib.decDigits_one (by omega)]
theorem up_ev (n : Int) (h0 : 10 ≤ n) (h1 : n ≤ 100000) (hl : (Lib.decDigits (n / 10).toNat).length ≤ 100) (h : Ev (fun k => spec_l1Num.f k (n / 10)) ⟨(Lib.decDigits (n / 10).toNat).toArray⟩) : Ev (fun k => spec_l1Num.f k n) ⟨(Lib.decDigits n.toNat).toArray⟩ := by
  have e : Int.tdiv n 10 = n / 10 := Int.tdiv_eq_ediv_of_nonneg (by omega)
  have e2 : wrap64 (Int.tdiv n 10) = n / 10 := by rw [e]; exact w64 (by omega) (by omega)
  have e3 : Int.tmod n 10 = n % 10 := Int.tmod_eq_emod_of_nonneg (by omega)
  have e4 := digit (n % 10) (by omega) (by omega)
  have e5 : Lib.decDigits n.toNat = Lib.decDigits (n / 10).toNat ++ [UInt8.ofNat (48 + (n % 10).toNat)] := by
    rw [Lib.decDigits, dif_neg (by omega), show n.toNat / 10 = (n / 10).toNat by omega, show n.toNat % 10 = (n % 10).toNat by omega]
  refine Ev.step (f := fun k => (spec_l1Num.f k (n / 10)).bind fun t105 => (if t105.size + (⟨([UInt8.ofNat (48 + (n % 10).toNat)] : List UInt8).toArray⟩ : ByteArray).size ≤ 9223372036854775807 then (some (t105 ++ (⟨([UInt8.ofNat (48 + (n % 10).toNat)] : List UInt8).toArray⟩ : ByteArray))) else (none))) (fun k => ?_) (Ev.bind h (Ev.ite_pos ?_ (Ev.of_eq (Ev.now _) ?_)))
  · simp only [spec_l1Num.f]
    rw [if_neg (by omega), if_neg (by omega), e2, e3]
    simp only [Option.bind_some, e4]
  · show (Lib.decDigits (n / 10).toNat).toArray.size + 1 ≤ _
    simp; omega
  · rw [e5]
    apply ByteArray.ext
    simp
theorem num_ev : ∀ (m : Nat) (n : Int), 0 ≤ n → n < 10 ^ (m + 1) → n ≤ 100000 → m ≤ 20 → Ev (fun k => spec_l1Num.f k n) ⟨(Lib.decDigits n.toNat).toArray⟩ ∧ (Lib.decDigits n.toNat).length ≤ m + 1 := by
  intro m
  induction m with
  | zero =>
    intro n h0 h1 h2 hm
    have h1' : n < 10 := by simpa using h1
    exact ⟨low_ev n h0 h1', by rw [Lib.decDigits_one (by omega)]; simp⟩
  | succ m ih =>
    intro n h0 h1 h2 hm
    by_cases c : n < 10
    · exact ⟨low_ev n h0 c, by rw [Lib.decDigits_one (by omega)]; simp⟩
    · have hp : (10 : Int) ^ (m + 1 + 1) = 10 ^ (m + 1) * 10 := Int.pow_succ ..
      obtain ⟨hE, hl⟩ := ih (n / 10) (by omega) (by rw [hp] at h1; omega) (by omega) (by omega)
      refine ⟨up_ev n (by omega) h2 (by omega) hE, ?_⟩
      rw [Lib.decDigits, dif_neg (by omega), show n.toNat / 10 = (n / 10).toNat by omega]
      simp; omega
theorem num (n : Int) (h0 : 0 ≤ n) (h1 : n ≤ 100000) : Ev (fun k => spec_l1Num.f k n) ⟨(Lib.decDigits n.toNat).toArray⟩ ∧ (Lib.decDigits n.toNat).length ≤ 6 :=
  num_ev 5 n h0 (by have : (10 : Int) ^ (5 + 1) = 1000000 := by decide
                    omega) h1 (by decide)

theorem next (i n : Nat) (h : i < n) (hn : n ≤ 9223372036854775807) : wrap64 ((i : Int) + 1) = ((i + 1 : Nat) : Int) := w64 (by omega) (by omega)
theorem num_step (a v P : Nat) (h : a < P) (hP : P ≤ 1000000) (hv : v ≤ 9) (x : Int) (hx : x = (v : Int) + 48) : a * 10 + v < P * 10 ∧ wrap64 (wrap64 (10 * (a : Int)) + (x - 48) % 256) = ((a * 10 + v : Nat) : Int) := by
  refine ⟨by omega, ?_⟩
  have e1 : (x - 48) % 256 = (v : Int) := by omega
  have e2 : wrap64 (10 * (a : Int)) = 10 * (a : Int) := w64 (by omega) (by omega)
  rw [e1, e2, w64 (by omega) (by omega)]; omega
theorem numAt (l : List UInt8) (hl : l.length ≤ 6) (hd : ∀ c ∈ l, isD c) : ∀ (d i a : Nat), i + d = l.length → a < 10 ^ i → Ev (fun k => spec_laSmall.l0 k (B l) a i) ((valF a (l.drop i) : Nat) : Int) := by
  intro d
  have hsz : (B l).size = l.length := B_size l
  induction d with
  | zero =>
    intro i a hi ha
    have c1 : ¬ (i : Int) < (((B l).size : Nat) : Int) := by rw [hsz]; omega
    rw [List.drop_eq_nil_of_le (show l.length ≤ i by omega)]
    refine Ev.step (f := fun _ => some (a : Int)) (fun k => ?_) (Ev.now _)
    rw [spec_laSmall.l0, if_neg c1]
  | succ d ih =>
    intro i a hi ha
    have hlt : i < l.length := by omega
    have c1 : (i : Int) < (((B l).size : Nat) : Int) := by rw [hsz]; omega
    have c0 : 0 ≤ (i : Int) := by omega
    have hw := next i l.length hlt (by omega)
    have hbt := bt_B l i hlt
    have hD : isD l[i] := hd _ (List.getElem_mem hlt)
    unfold isD at hD
    have hp : 10 ^ i ≤ 1000000 := Nat.le_trans (Nat.pow_le_pow_right (by omega) (show i ≤ 6 by omega)) (by decide)
    rw [List.drop_eq_getElem_cons hlt, valF_cons]
    obtain ⟨v, hv⟩ : ∃ v, v = (l[i]).toNat - 48 := ⟨_, rfl⟩
    rw [← hv]
    obtain ⟨q1, q2⟩ := num_step a v (10 ^ i) ha hp (by omega) (bt (B l) (i : Int)) (by rw [hbt]; omega)
    refine Ev.step (f := fun k => spec_laSmall.l0 k (B l) ((a * 10 + v : Nat) : Int) ((i + 1 : Nat) : Int)) (fun k => ?_) (ih (i + 1) (a * 10 + v) (by omega) (by rw [Nat.pow_succ]; exact q1))
    rw [spec_laSmall.l0, if_pos c1, if_pos c0, q2, hw]
theorem small_ev (l : List UInt8) (hl : l.length ≤ 6) (hd : ∀ c ∈ l, isD c) : Ev (fun k => spec_laSmall.f k (B l)) ((valF 0 l : Nat) : Int) := numAt l hl hd l.length 0 0 (by omega) (by decide)
theorem num_B (n : Int) (h0 : 0 ≤ n) (h1 : n ≤ 100000) : Ev (fun k => spec_l1Num.f k n) (B (Lib.decDigits n.toNat)) := (num n h0 h1).1
end Go.Proofs.YtcjhhdecckcibaaDoor.NumL

namespace Go.Proofs.YtcjhhdecckcibaaDoor.TermL
open Go.RowKit Go.Proofs.YtcjhhdecckcibaaDoor.G Go.Proofs.YtcjhhdecckcibaaDoor.EvL Go.Proofs.YtcjhhdecckcibaaDoor.TreeM Go.Proofs.YtcjhhdecckcibaaDoorW.PrintWords Go.Proofs.YtcjhhdecckcibaaDoorW.PrintLast
set_option linter.unusedVariables false

def conv (c : S69) : S67 := ⟨c.f0, c.f1, c.f2⟩
def nd (c : S67) : Nd := ⟨c.f0, c.f1, c.f2⟩
theorem rdC (l : List S67) (i : Nat) : rd_T67 l (i : Int) = l.getD i z67 := by unfold rd_T67; rw [Int.toNat_natCast]
theorem next (i : Nat) {n : Nat} (h : i < n) (hn : n ≤ 9223372036854775807) : wrap64 ((i : Int) + 1) = ((i + 1 : Nat) : Int) := by rw [w64 (by omega) (by omega)]; omega
theorem getD_nd (l : List S67) (i : Nat) : (l.map nd).getD i z = nd (l.getD i z67) := by
  rw [List.getD_eq_getElem?_getD, List.getD_eq_getElem?_getD, List.getElem?_map]
  cases l[i]? <;> rfl
theorem up_nd (l : List S67) (i : Nat) : (l.getD i z67).f2 = TreeM.up (l.map nd) i := by unfold TreeM.up; rw [getD_nd]; rfl

theorem eqTerms (a : List S67) (ha : a.length ≤ 9223372036854775807) : Ev (fun k => laws_eqTermS.f k a a) true := by
  unfold laws_eqTermS.f
  refine Ev.ite_pos rfl ?_
  refine Ev.of_eq (ev_all (fun k i => laws_eqTermS.l0 k a a i) a.length (fun _ => true) ?_ ?_ a.length 0 (by omega)) (by simp)
  · intro k i hi
    simp only [laws_eqTermS.l0, laws_eqTerm.f]
    rw [if_pos (by omega), if_pos (by omega), if_pos (by omega)]
    simp only [if_true, Option.bind_some]
    rw [next i hi ha]
  · intro k
    simp only [laws_eqTermS.l0]
    rw [if_neg (by omega)]

theorem l1In_eq (a b c : Int) : spec_l1In.f a b c = some (decide (b ≤ a ∧ a ≤ c)) := by
  unfold spec_l1In.f
  by_cases h : a ≥ b
  · rw [if_pos h]; congr 1; exact decide_eq_decide.mpr (by omega)
  · rw [if_neg h, decide_eq_false (by omega)]

def ar : Arity := ⟨3, fun k => if k = 2 then 1 else if k = 3 then 2 else 0⟩
theorem ar2 (k : Int) : ar.want k ≤ 2 := by show (if k = 2 then 1 else if k = 3 then 2 else 0) ≤ 2; split <;> (try split) <;> omega
structure NodeOk (L : List Nd) (m : Nat) : Prop where
  top : m = 0 ↔ up L m = -1
  ahead : -1 ≤ up L m ∧ up L m < (m : Int)
  kind : 1 ≤ (L.getD m z).kind ∧ (L.getD m z).kind ≤ 3
  num : 0 ≤ (L.getD m z).n ∧ (L.getD m z).n ≤ 99 ∧ ((L.getD m z).kind = 1 ∨ (L.getD m z).n = 0)
  around : m = 0 ∨ ∃ x ∈ chain L (m - 1), (x : Int) = up L m
  deep : (chain L m).length ≤ 40
  wants : cnt L m (m + 1) (L.length - (m + 1)) = ar.want (L.getD m z).kind

theorem parts (l : List S67) (i : Nat) (hl : l.length ≤ 200) : ∀ (d a : Nat) (acc : List Int), a + d = l.length → acc.length + d ≤ 200 → ∃ r, Ev (fun k => spec_lcParts.l0 k l i acc a) r ∧ r.length = acc.length + cnt (l.map nd) i a d := by
  intro d
  induction d with
  | zero =>
    intro a acc ha _
    refine ⟨acc, Ev.step (f := fun _ => some acc) (fun k => ?_) (Ev.now _), rfl⟩
    simp only [spec_lcParts.l0]
    rw [if_neg (by omega)]
  | succ d ih =>
    intro a acc ha hacc
    by_cases h : up (l.map nd) a = (i : Int)
    · obtain ⟨r, hr, hn⟩ := ih (a + 1) (acc ++ [(a : Int)]) (by omega) (by simp; omega)
      refine ⟨r, Ev.step (fun k => ?_) hr, ?_⟩
      · simp only [spec_lcParts.l0]
        rw [if_pos (by omega), if_pos (by omega), rdC, up_nd, if_pos h, if_pos (by omega), next a (n := l.length) (by omega) (by omega)]
      · rw [hn, List.length_append]
        show acc.length + 1 + _ = acc.length + ((if up (l.map nd) a = (i : Int) then 1 else 0) + _)
        rw [if_pos h]; omega
    · obtain ⟨r, hr, hn⟩ := ih (a + 1) acc (by omega) (by omega)
      refine ⟨r, Ev.step (fun k => ?_) hr, ?_⟩
      · simp only [spec_lcParts.l0]
        rw [if_pos (by omega), if_pos (by omega), rdC, up_nd, if_neg h, next a (n := l.length) (by omega) (by omega)]
      · rw [hn]
        show _ = acc.length + ((if up (l.map nd) a = (i : Int) then 1 else 0) + _)
        rw [if_neg h]; omega

theorem lcParts (l : List S67) (i : Nat) (hi : i < l.length) (hl : l.length ≤ 200) : ∃ r, Ev (fun k => spec_lcParts.f k l i) r ∧ r.length = cnt (l.map nd) i (i + 1) (l.length - (i + 1)) := by
  obtain ⟨r, hr, hn⟩ := parts l i hl (l.length - (i + 1)) (i + 1) [] (by omega) (by simp; omega)
  refine ⟨r, ?_, by rw [hn]; simp⟩
  unfold spec_lcParts.f
  rw [next i hi (by omega)]
  exact hr

theorem deepLoop (l : List S67) (hl : l.length ≤ 200) (i : Nat) (hi : i < l.length) (b : Bool) (kd n u : Int) (h : ∀ m, m ≤ i → -1 ≤ up (l.map nd) m ∧ up (l.map nd) m < (m : Int)) {r : Bool} :
    ∀ (j d : Nat), j ≤ i → d + j ≤ 400 → Ev (fun k => spec_GoodTerm.l2 k l i b ((d + (chain (l.map nd) j).length : Nat) : Int) (-1) l l.length i kd n u) r → Ev (fun k => spec_GoodTerm.l2 k l i b (d : Int) (j : Int) l l.length i kd n u) r := by
  intro j
  induction j using Nat.strongRecOn with
  | _ j ih =>
    intro d hj hd hE
    refine Ev.step (f := fun k => spec_GoodTerm.l2 k l i b ((d + 1 : Nat) : Int) (up (l.map nd) j) l l.length i kd n u) (fun k => ?_) ?_
    · show (if (j : Int) ≥ 0 then _ else _) = _
      rw [if_pos (by omega), if_pos (by omega), if_pos (by omega), rdC, up_nd, w64 (by omega) (by omega)]
      rfl
    · have hu := h j hj
      by_cases hu0 : 0 ≤ up (l.map nd) j
      · rw [show up (l.map nd) j = (((up (l.map nd) j).toNat : Nat) : Int) by omega]
        refine ih _ (by omega) (d + 1) (by omega) (by omega) ?_
        rw [chain_up ⟨hu0, hu.2⟩, List.length_cons] at hE
        rw [show d + 1 + (chain (l.map nd) (up (l.map nd) j).toNat).length = d + ((chain (l.map nd) (up (l.map nd) j).toNat).length + 1) by omega]
        exact hE
      · rw [chain_top (by omega)] at hE
        rw [show up (l.map nd) j = -1 by omega]
        exact hE

theorem aroundLoop (l : List S67) (hl : l.length ≤ 200) (i : Nat) (hi : i < l.length) (kd n u : Int) (h : ∀ m, m < i → -1 ≤ up (l.map nd) m ∧ up (l.map nd) m < (m : Int)) {r : Bool} {c : Bool} :
    ∀ (j : Nat), j < i → (c = true ↔ ∃ x ∈ chain (l.map nd) j, (x : Int) = u) → Ev (fun k => spec_GoodTerm.j3 k l i c l l.length i kd n u) r → Ev (fun k => spec_GoodTerm.l1 k l i false (j : Int) l l.length i kd n u) r := by
  intro j
  induction j using Nat.strongRecOn with
  | _ j ih =>
    intro hj hc hE
    have hu := h j hj
    refine Ev.step (f := fun k => spec_GoodTerm.l1 k l i ((j : Int) == u) (up (l.map nd) j) l l.length i kd n u) (fun k => ?_) ?_
    · show (if (j : Int) ≥ 0 then _ else _) = _
      rw [if_pos (by omega), if_neg (by simp), if_pos (by omega), if_pos (by omega), rdC, up_nd]
    · by_cases hju : (j : Int) = u
      · obtain rfl : c = true := hc.mpr ⟨j, chain_self _ _, hju⟩
        rw [show ((j : Int) == u) = true by simpa using hju]
        refine Ev.step (f := fun k => spec_GoodTerm.j3 k l i true l l.length i kd n u) (fun k => ?_) hE
        simp only [spec_GoodTerm.l1]
        simp
      · rw [show ((j : Int) == u) = false by simpa using hju]
        by_cases hu0 : 0 ≤ up (l.map nd) j
        · rw [show up (l.map nd) j = (((up (l.map nd) j).toNat : Nat) : Int) by omega]
          refine ih _ (by omega) (by omega) (hc.trans ?_) hE
          rw [chain_up ⟨hu0, hu.2⟩]
          simp [hju]
        · obtain rfl : c = false := by
            cases c with
            | false => rfl
            | true =>
              obtain ⟨x, hx, hxu⟩ := hc.mp rfl
              rw [chain_top (by omega)] at hx
              have : x = j := by simpa using hx
              subst this; exact absurd hxu hju
          refine Ev.step (f := fun k => spec_GoodTerm.j3 k l i false l l.length i kd n u) (fun k => ?_) hE
          simp only [spec_GoodTerm.l1]
          rw [if_neg (by omega)]

theorem badNode (l : List S67) (a b c kd n u : Int) : Ev (fun k => spec_GoodTerm.j1 k l a l b c true kd n u) false := by
  refine Ev.step (f := fun _ => some false) (fun k => ?_) (Ev.now _)
  simp only [spec_GoodTerm.j1]
  rfl

theorem specLoop (l : List S67) (hl : l.length ≤ 200) : ∀ (d i : Nat), i + d = l.length → (∀ m, m < i → -1 ≤ up (l.map nd) m ∧ up (l.map nd) m < (m : Int)) →
    ∃ b, Ev (fun k => spec_GoodTerm.l0 k l l l.length i) b ∧ (b = true ↔ ∀ m, i ≤ m → m < l.length → NodeOk (l.map nd) m) := by
  intro d
  induction d with
  | zero =>
    intro i hi _
    refine ⟨true, Ev.step (f := fun _ => some true) (fun k => ?_) (Ev.now _), ?_⟩
    · simp only [spec_GoodTerm.l0]
      rw [if_neg (by omega)]
    · exact ⟨fun _ m h1 h2 => by omega, fun _ => rfl⟩
  | succ d ih =>
    intro i hi hah
    have hil : i < l.length := by omega
    have eu : (l.getD i z67).f2 = TreeM.up (l.map nd) i := up_nd l i
    have ek : (l.getD i z67).f0 = ((l.map nd).getD i z).kind := by rw [getD_nd]; rfl
    have en : (l.getD i z67).f1 = ((l.map nd).getD i z).n := by rw [getD_nd]; rfl
    have hlen : (l.map nd).length = l.length := List.length_map ..
    -- a node that is not good
    have bad : ∀ {F : Nat → Option Bool}, ¬ NodeOk (l.map nd) i → Ev F false → ∃ b, Ev F b ∧ (b = true ↔ ∀ m, i ≤ m → m < l.length → NodeOk (l.map nd) m) :=
      fun hn hE => ⟨false, hE, fun h => absurd h (by simp), fun h => absurd (h i (Nat.le_refl _) hil) hn⟩
    generalize hu : up (l.map nd) i = u at *
    generalize hk : ((l.map nd).getD i z).kind = kd at *
    generalize hn : ((l.map nd).getD i z).n = n at *
    have st : ∀ k, spec_GoodTerm.l0 (k + 1) l l l.length i = (if ((((i : Int) == 0) != (u == (-1))) = true) then (spec_GoodTerm.j1 k l i l l.length i true kd n u) else (spec_GoodTerm.j1 k l i l l.length i (!decide (-1 ≤ u ∧ u ≤ (i : Int) - 1)) kd n u)) := by
      intro k
      simp only [spec_GoodTerm.l0]
      rw [if_pos (by omega), if_pos (by omega), if_pos (by omega), rdC, eu, ek, en, l1In_eq, w64 (by omega) (by omega)]
      simp only [Option.bind_some]
    have hT : ((((i : Int) == 0) != (u == (-1))) = true) ↔ ¬ (i = 0 ↔ u = -1) := by
      have e1 : ((i : Int) == 0) = decide (i = 0) := by rw [Bool.eq_iff_iff]; simp
      have e2 : (u == (-1)) = decide (u = -1) := by rw [Bool.eq_iff_iff]; simp
      rw [e1, e2]
      by_cases h1 : i = 0 <;> by_cases h2 : u = -1 <;> simp [h1, h2]
    by_cases h1 : i = 0 ↔ u = -1
    case neg =>
      exact bad (fun h => h1 (hu ▸ h.top)) (Ev.step (fun k => (st k).trans (if_pos (hT.mpr h1))) (badNode ..))
    have st := fun k => (st k).trans (if_neg (fun h => hT.mp h h1))
    by_cases h2 : -1 ≤ u ∧ u ≤ (i : Int) - 1
    case neg =>
      refine bad (fun h => h2 (by have := h.ahead; rw [hu] at this; omega)) (Ev.step (f := fun k => spec_GoodTerm.j1 k l i l l.length i true kd n u) (fun k => (st k).trans ?_) (badNode ..))
      rw [decide_eq_false h2]; rfl
    have st : ∀ k, spec_GoodTerm.l0 (k + 1) l l l.length i = spec_GoodTerm.j1 k l i l l.length i false kd n u := by
      intro k
      rw [st k, decide_eq_true h2]; rfl
    have hah' : ∀ m, m < i + 1 → -1 ≤ up (l.map nd) m ∧ up (l.map nd) m < (m : Int) := by
      intro m hm
      by_cases hmi : m = i
      · subst hmi; rw [hu]; omega
      · exact hah m (by omega)
    obtain ⟨b, hb, hbi⟩ := ih (i + 1) (by omega) hah'
    obtain ⟨ps, hps, hpn⟩ := lcParts l i hil hl
    -- the end
    obtain ⟨c, hc⟩ : ∃ c : Bool, c = true ↔ (i = 0 ∨ ∃ x ∈ chain (l.map nd) (i - 1), (x : Int) = u) := by
      by_cases h : (i = 0 ∨ ∃ x ∈ chain (l.map nd) (i - 1), (x : Int) = u)
      · exact ⟨true, by simp [h]⟩
      · exact ⟨false, by simp [h]⟩
    have go : ∀ {r : Bool}, Ev (fun k => spec_GoodTerm.l2 k l i c (((chain (l.map nd) i).length : Nat) : Int) (-1) l l.length i kd n u) r → Ev (fun k => spec_GoodTerm.l0 k l l l.length i) r := by
      intro r hE
      refine Ev.step st ?_
      refine Ev.step (f := fun k => spec_GoodTerm.l1 k l i ((i : Int) == 0) ((i : Int) - 1) l l.length i kd n u) (fun k => ?_) ?_
      · simp only [spec_GoodTerm.j1]
        rw [w64 (by omega) (by omega)]
        rfl
      · have hj3 : Ev (fun k => spec_GoodTerm.j3 k l i c l l.length i kd n u) r := by
          refine Ev.step (f := fun k => spec_GoodTerm.l2 k l i c ((0 : Nat) : Int) (i : Int) l l.length i kd n u) (fun k => rfl) ?_
          refine deepLoop l hl i hil c kd n u (fun m hm => hah' m (by omega)) i 0 (Nat.le_refl _) (by omega) ?_
          rw [Nat.zero_add]; exact hE
        by_cases hi0 : i = 0
        · obtain rfl : c = true := hc.mpr (.inl hi0)
          subst hi0
          refine Ev.step (f := fun k => spec_GoodTerm.j3 k l (0 : Nat) true l l.length (0 : Nat) kd n u) (fun k => ?_) hj3
          simp only [spec_GoodTerm.l1]
          rfl
        · rw [show ((i : Int) == 0) = false by simpa using hi0, show (i : Int) - 1 = ((i - 1 : Nat) : Int) by omega]
          refine aroundLoop l hl i hil kd n u hah (i - 1) (by omega) (hc.trans ?_) hj3
          simp [hi0]
    have fin : ∀ k, spec_GoodTerm.l2 (k + 1) l i c (((chain (l.map nd) i).length : Nat) : Int) (-1) l l.length i kd n u = (if 1 ≤ kd ∧ kd ≤ 3 then spec_GoodTerm.j5 k l i c (((chain (l.map nd) i).length : Nat) : Int) (ar.want kd) l l.length i kd n u else some false) := by
      intro k
      simp only [spec_GoodTerm.l2]
      rw [if_neg (by decide)]
      by_cases h1 : kd = 1
      · subst h1; rw [if_pos rfl, if_pos (by decide)]; rfl
      · rw [if_neg h1]
        by_cases h2 : kd = 2
        · subst h2; rw [if_pos rfl, if_pos (by decide)]; rfl
        · rw [if_neg h2]
          by_cases h3 : kd = 3
          · subst h3; rw [if_pos rfl, if_pos (by decide)]; rfl
          · rw [if_neg h3, if_neg (by omega)]
    by_cases h3 : 1 ≤ kd ∧ kd ≤ 3
    case neg =>
      exact bad (fun h => h3 (hk ▸ h.kind)) (go (Ev.step (f := fun _ => some false) (fun k => (fin k).trans (if_neg h3)) (Ev.now _)))
    have go : ∀ {r : Bool}, Ev (fun k => spec_GoodTerm.j5 k l i c (((chain (l.map nd) i).length : Nat) : Int) (ar.want kd) l l.length i kd n u) r → Ev (fun k => spec_GoodTerm.l0 k l l l.length i) r :=
      fun hE => go (Ev.step (fun k => (fin k).trans (if_pos h3)) hE)
    have fin : ∀ k, spec_GoodTerm.j5 (k + 1) l i c (((chain (l.map nd) i).length : Nat) : Int) (ar.want kd) l l.length i kd n u = (if c = true then (if (((chain (l.map nd) i).length : Nat) : Int) > 40 then some false else ((spec_lcParts.f k l i).bind fun t => (if (t.length : Int) = ar.want kd then (if 0 ≤ n ∧ n ≤ 99 then (if kd = 1 then spec_GoodTerm.l0 k l l l.length ((i + 1 : Nat) : Int) else if n = 0 then spec_GoodTerm.l0 k l l l.length ((i + 1 : Nat) : Int) else some false) else some false) else some false))) else some false) := by
      intro k
      simp only [spec_GoodTerm.j5, l1In_eq, next i hil (Nat.le_trans hl (by decide)), Option.bind_some, decide_eq_true_eq]
    by_cases h7 : c = true
    case neg =>
      exact bad (fun h => h7 (hc.mpr (hu ▸ h.around))) (go (Ev.step (f := fun _ => some false) (fun k => (fin k).trans (if_neg h7)) (Ev.now _)))
    have fin := fun k => (fin k).trans (if_pos h7)
    by_cases h8 : (chain (l.map nd) i).length ≤ 40
    case neg =>
      exact bad (fun h => h8 h.deep) (go (Ev.step (f := fun _ => some false) (fun k => (fin k).trans (if_pos (by omega))) (Ev.now _)))
    have fin := fun k => (fin k).trans (if_neg (by omega))
    by_cases h9 : ps.length = ar.want kd
    case neg =>
      exact bad (fun h => h9 (by have := h.wants; rw [hk, hlen] at this; rw [hpn]; exact this)) (go (Ev.step fin (Ev.bind hps (Ev.ite_neg (by omega) (Ev.now _)))))
    have go : ∀ {r : Bool}, Ev (fun k => (if 0 ≤ n ∧ n ≤ 99 then (if kd = 1 then spec_GoodTerm.l0 k l l l.length ((i + 1 : Nat) : Int) else if n = 0 then spec_GoodTerm.l0 k l l l.length ((i + 1 : Nat) : Int) else some false) else some false)) r → Ev (fun k => spec_GoodTerm.l0 k l l l.length i) r :=
      fun hE => go (Ev.step fin (Ev.bind hps (Ev.ite_pos (by omega) hE)))
    by_cases h4 : 0 ≤ n ∧ n ≤ 99
    case neg =>
      exact bad (fun h => h4 (by have := h.num; rw [hn] at this; omega)) (go (Ev.ite_neg h4 (Ev.now _)))
    by_cases h5 : kd = 1 ∨ n = 0
    case neg =>
      exact bad (fun h => h5 (by have := h.num; rw [hn, hk] at this; omega)) (go (Ev.ite_pos h4 (Ev.ite_neg (by omega) (Ev.ite_neg (by omega) (Ev.now _)))))
    have good : NodeOk (l.map nd) i := by
      refine ⟨by rw [hu]; exact h1, by rw [hu]; omega, by rw [hk]; exact h3, by rw [hn, hk]; exact ⟨h4.1, h4.2, h5⟩, by rw [hu]; exact hc.mp h7, h8, ?_⟩
      rw [hk, hlen, ← hpn]; exact h9
    refine ⟨b, go (Ev.ite_pos h4 ?_), hbi.trans ?_⟩
    · by_cases h6 : kd = 1
      · exact Ev.ite_pos h6 hb
      · exact Ev.ite_neg h6 (Ev.ite_pos (by omega) hb)
    constructor
    · intro h m hm1 hm2
      by_cases hmi : m = i
      · subst hmi; exact good
      · exact h m (by omega) hm2
    · intro h m hm1 hm2
      exact h m (by omega) hm2
end Go.Proofs.YtcjhhdecckcibaaDoor.TermL

namespace Go.Proofs.YtcjhhdecckcibaaDoor.TermL
open Go.RowKit Go.Proofs.YtcjhhdecckcibaaDoor.G Go.Proofs.YtcjhhdecckcibaaDoor.EvL Go.Proofs.YtcjhhdecckcibaaDoor.TreeM Go.Proofs.YtcjhhdecckcibaaDoorW.PrintWords Go.Proofs.YtcjhhdecckcibaaDoorW.PrintLast
set_option linter.unusedVariables false

def toS : Tr → S72
  | .leaf k n => ⟨k, n, []⟩
  | .un k n a => ⟨k, n, [toS a]⟩
  | .bin k n a b => ⟨k, n, [toS a, toS b]⟩
theorem toS_eta (a : Tr) : (⟨(toS a).f0, (toS a).f1, (toS a).f2⟩ : S72) = toS a := by cases toS a; rfl

def numOk (k n : Int) : Prop := 0 ≤ n ∧ n ≤ 99 ∧ (k = 1 ∨ n = 0)

theorem Tr.depth_le (t : Tr) : t.depth ≤ t.size ∧ 1 ≤ t.depth := by
  induction t with
  | leaf k n => exact ⟨Nat.le_refl _, Nat.le_refl _⟩
  | un k n a ih => show a.depth + 1 ≤ 1 + a.size ∧ 1 ≤ a.depth + 1; omega
  | bin k n a b iha ihb => show max a.depth b.depth + 1 ≤ 1 + a.size + b.size ∧ 1 ≤ max a.depth b.depth + 1; omega

theorem size_ev : ∀ (t : Tr), t.size ≤ 4000 → Ev (fun k => impl_term_size.f k (toS t).f0 (toS t).f1 (toS t).f2) (t.size : Int) := by
  have start : ∀ (kd n : Int) (ps : List S72) {r}, Ev (fun k => impl_term_size.l0 k 1 ps ps.length 0) r → Ev (fun k => impl_term_size.f k kd n ps) r := fun kd n ps r h => Ev.step (fun k => rfl) h
  have fin : ∀ (s : Int) (ps : List S72), Ev (fun k => impl_term_size.l0 k s ps ps.length ps.length) s := by
    intro s ps
    refine Ev.step (f := fun _ => some s) (fun k => ?_) (Ev.now _)
    simp only [impl_term_size.l0]
    rw [if_neg (by omega)]
  have part : ∀ (s i s2 : Nat) (ps : List S72) (x : S72), i < ps.length → ps.length ≤ 2 → rd_T72 ps i = x → s + s2 ≤ 4000 → Ev (fun k => impl_term_size.f k x.f0 x.f1 x.f2) (s2 : Int) → ∀ {r}, Ev (fun k => impl_term_size.l0 k ((s + s2 : Nat) : Int) ps ps.length ((i + 1 : Nat) : Int)) r → Ev (fun k => impl_term_size.l0 k s ps ps.length i) r := by
    intro s i s2 ps x hi hl hx hs hE r h
    refine Ev.step (f := fun k => (impl_term_size.f k x.f0 x.f1 x.f2).bind fun t104 => impl_term_size.l0 k (wrap64 ((s : Int) + t104)) ps ps.length ((i + 1 : Nat) : Int)) (fun k => ?_) (Ev.bind hE ?_)
    · simp only [impl_term_size.l0]
      rw [if_pos (by omega), if_pos (by omega), if_pos (by omega), hx, next i hi (by omega)]
    · show Ev (fun k => impl_term_size.l0 k (wrap64 ((s : Int) + s2)) ps ps.length ((i + 1 : Nat) : Int)) r
      rw [w64 (by omega) (by omega), show (s : Int) + s2 = ((s + s2 : Nat) : Int) by omega]
      exact h
  intro t
  induction t with
  | leaf kd n => intro _; exact start kd n [] (fin 1 [])
  | un kd n a ih =>
    intro hs
    have hs' : 1 + a.size ≤ 4000 := hs
    exact start kd n [toS a] (part 1 0 a.size [toS a] (toS a) (by simp) (by simp) rfl hs' (ih (by omega)) (fin _ [toS a]))
  | bin kd n x y ihx ihy =>
    intro hs
    have hs' : 1 + x.size + y.size ≤ 4000 := hs
    exact start kd n [toS x, toS y] (part 1 0 x.size [toS x, toS y] (toS x) (by simp) (by simp) rfl (by omega) (ihx (by omega))
      (part (1 + x.size) 1 y.size [toS x, toS y] (toS y) (by simp) (by simp) rfl hs' (ihy (by omega)) (fin _ [toS x, toS y])))

theorem depth_ev : ∀ (t : Tr), t.size ≤ 4000 → Ev (fun k => impl_term_depth.f k (toS t).f0 (toS t).f1 (toS t).f2) (t.depth : Int) := by
  have start : ∀ (kd n : Int) (ps : List S72) {r}, Ev (fun k => impl_term_depth.l0 k 0 ps ps.length 0) r → Ev (fun k => impl_term_depth.f k kd n ps) r := fun kd n ps r h => Ev.step (fun k => rfl) h
  have fin : ∀ (s : Nat) (ps : List S72), s ≤ 4000 → Ev (fun k => impl_term_depth.l0 k s ps ps.length ps.length) ((s + 1 : Nat) : Int) := by
    intro s ps hs
    refine Ev.step (f := fun _ => some ((s + 1 : Nat) : Int)) (fun k => ?_) (Ev.now _)
    simp only [impl_term_depth.l0]
    rw [if_neg (by omega), w64 (by omega) (by omega)]
    rfl
  have part : ∀ (s i s2 : Nat) (ps : List S72) (x : S72), i < ps.length → ps.length ≤ 2 → rd_T72 ps i = x → Ev (fun k => impl_term_depth.f k x.f0 x.f1 x.f2) (s2 : Int) → ∀ {r}, Ev (fun k => impl_term_depth.l0 k ((max s s2 : Nat) : Int) ps ps.length ((i + 1 : Nat) : Int)) r → Ev (fun k => impl_term_depth.l0 k s ps ps.length i) r := by
    intro s i s2 ps x hi hl hx hE r h
    have hm : mx (s : Int) (s2 : Int) = ((max s s2 : Nat) : Int) := by unfold mx; split <;> omega
    refine Ev.step (f := fun k => (impl_term_depth.f k x.f0 x.f1 x.f2).bind fun t104 => impl_term_depth.l0 k (mx (s : Int) t104) ps ps.length ((i + 1 : Nat) : Int)) (fun k => ?_) (Ev.bind hE ?_)
    · simp only [impl_term_depth.l0]
      rw [if_pos (by omega), if_pos (by omega), if_pos (by omega), hx, next i hi (by omega)]
    · show Ev (fun k => impl_term_depth.l0 k (mx (s : Int) s2) ps ps.length ((i + 1 : Nat) : Int)) r
      rw [hm]
      exact h
  intro t
  induction t with
  | leaf kd n => intro _; exact start kd n [] (fin 0 [] (by omega))
  | un kd n a ih =>
    intro hs
    have hs' : 1 + a.size ≤ 4000 := hs
    have := Tr.depth_le a
    refine start kd n [toS a] (part 0 0 a.depth [toS a] (toS a) (by simp) (by simp) rfl (ih (by omega)) (Ev.of_eq (fin _ [toS a] (by omega)) ?_))
    rw [Nat.zero_max]; rfl
  | bin kd n x y ihx ihy =>
    intro hs
    have hs' : 1 + x.size + y.size ≤ 4000 := hs
    have := Tr.depth_le x
    have := Tr.depth_le y
    refine start kd n [toS x, toS y] (part 0 0 x.depth [toS x, toS y] (toS x) (by simp) (by simp) rfl (ihx (by omega)) (part _ 1 y.depth [toS x, toS y] (toS y) (by simp) (by simp) rfl (ihy (by omega)) (Ev.of_eq (fin _ [toS x, toS y] (by omega)) ?_)))
    rw [Nat.zero_max]; rfl

theorem node_iff (k n : Int) : Are72.nodeOk k n = true ↔ numOk k n := by
  unfold Are72.nodeOk numOk; simp; omega
theorem nums_iff : ∀ (t : Tr), (Are72.nodeOk (toS t).f0 (toS t).f1 && Are72.okL (toS t).f2) = true ↔ t.all numOk := by
  intro t
  induction t with
  | leaf k n =>
    show (Are72.nodeOk k n && Are72.okL []) = true ↔ numOk k n
    rw [Are72.okL_all]; simp [node_iff]
  | un k n a ih =>
    show (Are72.nodeOk k n && Are72.okL [toS a]) = true ↔ numOk k n ∧ a.all numOk
    rw [Are72.okL_all, ← ih, ← node_iff, ← Are72.okT_eq]; simp
  | bin k n a b iha ihb =>
    show (Are72.nodeOk k n && Are72.okL [toS a, toS b]) = true ↔ numOk k n ∧ a.all numOk ∧ b.all numOk
    rw [Are72.okL_all, ← iha, ← ihb, ← node_iff, ← Are72.okT_eq, ← Are72.okT_eq]; simp

theorem isGood_ev (t : Tr) (hs : t.size ≤ 4000) : ∃ b, Ev (fun k => impl_term_isGood.f k (toS t).f0 (toS t).f1 (toS t).f2) b ∧ (b = true ↔ t.size ≤ 150 ∧ t.depth ≤ 40 ∧ t.all numOk) := by
  have h1 := size_ev t hs
  have h2 := depth_ev t hs
  unfold impl_term_isGood.f
  by_cases c1 : t.size ≤ 150
  case neg => exact ⟨false, Ev.bind h1 (Ev.ite_neg (by omega) (Ev.now _)), fun h => absurd h (by simp), fun h => absurd h.1 c1⟩
  by_cases c2 : t.depth ≤ 40
  case neg => exact ⟨false, Ev.bind h1 (Ev.ite_pos (by omega) (Ev.bind h2 (Ev.ite_neg (by omega) (Ev.now _)))), fun h => absurd h (by simp), fun h => absurd h.2.1 c2⟩
  refine ⟨Are72.nodeOk (toS t).f0 (toS t).f1 && Are72.okL (toS t).f2, Ev.bind h1 (Ev.ite_pos (by omega) (Ev.bind h2 (Ev.ite_pos (by omega) (Ev.now _)))), ?_⟩
  rw [nums_iff]
  exact ⟨fun h => ⟨c1, c2, h⟩, fun h => h.2.2⟩
end Go.Proofs.YtcjhhdecckcibaaDoor.TermL

namespace Go.Proofs.YtcjhhdecckcibaaDoor.TermL
open Go.RowKit Go.Proofs.YtcjhhdecckcibaaDoor.G Go.Proofs.YtcjhhdecckcibaaDoor.EvL Go.Proofs.YtcjhhdecckcibaaDoor.TreeM Go.Proofs.YtcjhhdecckcibaaDoorW.PrintWords Go.Proofs.YtcjhhdecckcibaaDoorW.PrintLast
set_option linter.unusedVariables false

def Tells (l : List S67) (t : Tr) : Prop := 1 ≤ l.length ∧ l.length ≤ 150 ∧ Par ar (l.map nd) 0 (-1) t l.length ∧ t.all numOk ∧ t.depth ≤ 40

theorem nodes_iff (l : List S67) (h1 : 1 ≤ l.length) (h2 : l.length ≤ 150) : (∀ m, 0 ≤ m → m < l.length → NodeOk (l.map nd) m) ↔ ∃ t, Tells l t := by
  have hlen : (l.map nd).length = l.length := List.length_map ..
  have hli := loc_iff (A := ar) (l := l.map nd) ar2 (by omega)
  constructor
  · intro h
    have L : TreeM.Loc ar (l.map nd) := by
      refine ⟨fun _ => (h 0 (Nat.le_refl _) (by omega)).top.mp rfl, fun m h3 h4 => ?_, fun m h3 h4 => ?_, fun m h3 => (h m (by omega) (by omega)).kind, fun m h3 => (h m (by omega) (by omega)).wants⟩
      · have hm := h m (by omega) (by omega)
        have := hm.ahead
        have := hm.top
        omega
      · have hm := h m (by omega) (by omega)
        obtain ⟨x, hx, hxu⟩ := hm.around.resolve_left (by omega)
        rw [← hxu, Int.toNat_natCast]; exact hx
    obtain ⟨t, ht⟩ := hli.mp L
    rw [hlen] at ht
    refine ⟨t, h1, h2, ht, (ht.alls numOk).mpr (fun m h3 h4 => (h m h3 h4).num), ?_⟩
    obtain ⟨m, h3, h4, h5⟩ := ht.deep.2
    have hm := (h m h3 h4).deep
    have h0 : (chain (l.map nd) 0).length = 1 := by rw [chain_top (by rw [ht.span.2.2]; omega)]; rfl
    omega
  · rintro ⟨t, _, _, ht, hn, hd⟩ m _ hm
    have L : TreeM.Loc ar (l.map nd) := hli.mpr ⟨t, by rw [hlen]; exact ht⟩
    have h0 : (chain (l.map nd) 0).length = 1 := by rw [chain_top (by rw [ht.span.2.2]; omega)]; rfl
    have hr := L.root (by omega)
    refine ⟨?_, ?_, L.kinds m (by omega), (ht.alls numOk).mp hn m (by omega) hm, ?_, by have := ht.deep.1 m (by omega) hm; omega, L.wants m (by omega)⟩
    · by_cases h3 : m = 0
      · subst h3; exact ⟨fun _ => hr, fun _ => rfl⟩
      · have := L.ahead m (by omega) (by omega); omega
    · by_cases h3 : m = 0
      · subst h3; omega
      · have := L.ahead m (by omega) (by omega); omega
    · by_cases h3 : m = 0
      · exact .inl h3
      · have h4 := L.ahead m (by omega) (by omega)
        exact .inr ⟨_, L.around m (by omega) (by omega), by omega⟩

theorem specGood (l : List S67) (hl : l.length ≤ 9223372036854775807) : ∃ b, Ev (fun k => spec_GoodTerm.f k l) b ∧ (b = true ↔ ∃ t, Tells l t) := by
  unfold spec_GoodTerm.f
  rw [l1In_eq]
  simp only [Option.bind_some, decide_eq_true_eq]
  by_cases h : (1 : Int) ≤ (l.length : Int) ∧ (l.length : Int) ≤ 150
  · obtain ⟨b, hb, hbi⟩ := specLoop l (by omega) l.length 0 (by omega) (fun m hm => by omega)
    exact ⟨b, Ev.ite_pos h hb, hbi.trans (nodes_iff l (by omega) (by omega))⟩
  · exact ⟨false, Ev.ite_neg h (Ev.now _), fun h2 => absurd h2 (by simp), fun ⟨t, h2, h3, _⟩ => absurd ⟨by omega, by omega⟩ h⟩

end Go.Proofs.YtcjhhdecckcibaaDoor.TermL

namespace Go.Proofs.YtcjhhdecckcibaaDoor.TermL
open Go.RowKit Go.Proofs.YtcjhhdecckcibaaDoor.G Go.Proofs.YtcjhhdecckcibaaDoor.EvL Go.Proofs.YtcjhhdecckcibaaDoor.TreeM Go.Proofs.YtcjhhdecckcibaaDoorW.PrintWords Go.Proofs.YtcjhhdecckcibaaDoorW.PrintLast
set_option linter.unusedVariables false

def toL : Tr → S65
  | .leaf k n => ⟨k, n, []⟩
  | .un k n a => ⟨k, n, [toL a]⟩
  | .bin k n a b => ⟨k, n, [toL a, toL b]⟩
theorem toL_eta (a : Tr) : (⟨(toL a).f0, (toL a).f1, (toL a).f2⟩ : S65) = toL a := by cases toL a; rfl
end Go.Proofs.YtcjhhdecckcibaaDoor.TermL
