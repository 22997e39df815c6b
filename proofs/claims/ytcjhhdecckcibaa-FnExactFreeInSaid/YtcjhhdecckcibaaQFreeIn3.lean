/- Part 3 of 4 of the proof that the law FnExactFreeInSaid holds: for every input that can be read the call returns true and leaves its arguments as they were; no condition but those each theorem names. -/
import Derived.Ground.NamesProg
import Derived.Ground.SlgmProg
import Derived.Ground.SlgnProg
import Derived.Shelf.Lay
import Derived.Shelf.SortM.Plain
import Derived.Shelf.SortM.SortNone
import Derived.Shelf.SlicesG.CompactI
import Derived.Test.YtcjhhdecckcibaaQFreeInW1
import Derived.Test.YtcjhhdecckcibaaQFreeIn1
import Derived.Test.YtcjhhdecckcibaaQFreeIn2
namespace Go.Proofs.Ytcjhhdecckcibaa.G
open Go.RowKit Go.Proofs.YtcjhhdecckcibaaW.PrintWords Go.Proofs.YtcjhhdecckcibaaW.PrintLast Go.Proofs.YtcjhhdecckcibaaW.PrintMore
attribute [local go_sem] max2_int min2_int max_two min_two max_three min_three max_four min_four   -- for this text's walks alone
set_option linter.unusedVariables false
set_option linter.unusedSimpArgs false

def impl_termOf.j0 : Nat → List (S62) → Bool → Option (Int × Int × (List (S68)) × Bool)
  | 0, _, _ => none
  | k + 1, x0, x14 => if x14 = true then (some (0, 0, ([] : List (S68)), false)) else ((impl_termAt.f k x0 0 (-1)).bind fun bt102 => (if bt102.2.2.2.2 = true then (if bt102.2.2.2.1 = (x0.length : Int) then ((impl_term_isGood.f k bt102.1 bt102.2.1 bt102.2.2.1).bind fun t110 => (some (bt102.1, bt102.2.1, bt102.2.2.1, t110))) else (some (bt102.1, bt102.2.1, bt102.2.2.1, false))) else (some (bt102.1, bt102.2.1, bt102.2.2.1, false))))
def impl_termOf.f (k : Nat) (l0 : List (S62)) : Option (Int × Int × (List (S68)) × Bool) := if (l0.length : Int) < 1 then (impl_termOf.j0 k l0 true) else (impl_termOf.j0 k l0 (decide ((l0.length : Int) > 150)))
def impl_termOf.T4 : Bool × List (List Nat × List Nat) := (true, [([], []), ([], []), ([1], [1]), ([2], [2]), ([2], [2]), ([4, 2], [2, 4]), ([3, 5, 2], [2, 3, 5]), ([2, 6], [2, 6]), ([7, 2], [7]), ([8], [8]), ([9, 8, 8], [8, 9]), ([8, 10], [8, 10]), ([0, 10, 0], [0]), ([11, 12, 0, 1, 2, 3, 4, 5, 6, 7, 8, 9, 10, 11, 12], [11])])
def impl_termOf.B4 : List Nat := [0, 0, 2, 6, 6, 22, 62, 126, 254, 510, 1022, 2046, 2047, 8191]
theorem impl_termOf.tab4 : rtab .any (opsOf Try.f46 4) = impl_termOf.T4 := by kernel_rfl
theorem impl_termOf.bits4 : waitsOk impl_termOf.T4.2 impl_termOf.B4 = true := by kernel_rfl
set_option maxHeartbeats 8000000 in
set_option maxRecDepth 100000 in
theorem impl_termOf.calls (k : Nat) (A0 : Option Addr) (c0 : Nat) (l0 : List (S62)) (r1 : Int) (r2 : Int) (r3 : List (S68)) (r4 : Bool) (w : World) (hr0 : Kd.C k62 w A0 l0.length l0) (hc0 : l0.length ≤ c0) (h : impl_termOf.f k l0 = some (r1, r2, r3, r4)) :
    Calls Try.prog 46 #[.slice A0 l0.length c0] w fun e w' => ∃ v2_ : Value, e = .returned (.tuple #[.agg #[.int .i64 r1, .int .i64 r2, v2_], .bool r4]) ∧ Kd.R k68 68 w' w.heap.size (fun _ => True) v2_ r3 ∧ Below w.heap.size w w' := by
  have hu68 := Try.underlying68
  have HR0 := Aside0.mk hr0
  have HC0 := Aside0.mk hc0
  clear hr0 hc0
  have HB := Aside0.mk (Below.refl w.heap.size w)
  have H : (if (l0.length : Int) < 1 then (impl_termOf.j0 k l0 true) else (impl_termOf.j0 k l0 (decide ((l0.length : Int) > 150)))) = some (r1, r2, r3, r4) := h
  clear h
  have HC2 := Aside0.mk H
  clear H
  go_enter Try.func46, Try.ntmps46
  go_upto_region 1 with (first | ((with_reducible refine gate_dst (N := 2) rfl ?_); (try (refine gate_guard (by rfl) ?_; dsimp only)); refine box_event ?hg (N := 2) ?hd (cs := #[.int .i64 0, .int .i64 0, .slice none 0 0]) (t := 68) ?hr ?_; (case hd => rfl); (case hg => rfl); (case hr => first | (go_simp; done) | (go_simp; rfl)); intro gb101 hg w3 hbox hb; have n0_ := Aside0.mk (below_step (by repeat (first | (with_reducible first | exact HB.out | apply below_alloc | apply pw_below_drewN | apply below_drew1) | exact HB.out)) hb); have n1_ := Aside0.mk (hbox); have n2_ := Aside0.mk ((by rw [hg]; exact (below_size (by repeat (first | (with_reducible first | exact HB.out | apply below_alloc | apply pw_below_drewN | apply below_drew1) | exact HB.out))) : w.heap.size ≤ gb101)); have n3_ := Aside0.mk ((by rw [hg]; exact (below_size (by repeat (first | (with_reducible first | exact HB.out | apply below_alloc | apply pw_below_drewN | apply below_drew1) | exact HB.out))) : w.heap.size ≤ gb101)); clear HB; have HB := n0_; have BK101 := n1_; have GW101 := n2_; have GE101 := n3_; clear n0_ n1_ n2_ n3_; clear hb hbox hg))
  (try simp only [Act.put, List.setIfInBounds_toArray, List.set_cons_zero, List.set_cons_succ])
  go_cut [14] (fun v14 wc => ∃ (kq : Nat) (x14_1 : Bool), v14 = .bool x14_1 ∧ Aside0 (impl_termOf.j0 kq l0 x14_1 = some (r1, r2, r3, r4)) ∧ Aside0 (kq ≤ k) ∧ Aside0 (wc.heap[gb101]? = some (.cells #[.int .i64 0, .int .i64 0, (.slice none 0 0)] 68 (0, 0))) ∧ Aside0 (Below w.heap.size w wc))
  case first =>
    have H := HC2.out
    clear HC2
    by_cases c4 : (l0.length : Int) < 1
    · rw [if_pos c4] at H
      have c4b0 : decide ((l0.length : Int) < 1) = true := decide_eq_true c4
      have c4b1 : decide (l0.length < 1) = true := decide_eq_true (by omega)
      clear c4
      (first | rw [c4b0] | (simp only [i64_w, i32_w]; rw [c4b0]) | skip)
      have H' := Aside0.mk H
      clear H
      go_wp2
      go_meet
      case rel => exact ⟨_, (true), (by first | rfl | (simp; done) | (simp [*]; done)), H', ⟨by first | omega | exact Nat.le_refl _⟩, ⟨by (with_reducible repeat (first | refine blk_drewN ?_ _ | refine blk_drew ?_ | refine blk_alloc ?_ _)); exact BK101.out⟩, ⟨by repeat (first | (with_reducible first | exact HB.out | apply below_alloc | apply pw_below_drewN | apply below_drew1 | refine below_set ?_ GE101.out) | exact HB.out)⟩⟩
    · rw [if_neg c4] at H
      have c4b0 : decide ((l0.length : Int) < 1) = false := decide_eq_false c4
      have c4b1 : decide (l0.length < 1) = false := decide_eq_false (by omega)
      clear c4
      (first | rw [c4b0] | (simp only [i64_w, i32_w]; rw [c4b0]) | skip)
      have H' := Aside0.mk H
      clear H
      go_wp2
      go_meet
      case rel => exact ⟨_, (decide ((l0.length : Int) > 150)), (by first | rfl | (simp; done) | (simp [*]; done)), H', ⟨by first | omega | exact Nat.le_refl _⟩, ⟨by (with_reducible repeat (first | refine blk_drewN ?_ _ | refine blk_drew ?_ | refine blk_alloc ?_ _)); exact BK101.out⟩, ⟨by repeat (first | (with_reducible first | exact HB.out | apply below_alloc | apply pw_below_drewN | apply below_drew1 | refine below_set ?_ GE101.out) | exact HB.out)⟩⟩
  case rest =>
    clear HC2
    try clear p2
    try clear c4
    try clear c4b0
    try clear c4b1
    obtain ⟨kq, x14_1, rfl, HA, HJ1, BK101, HB⟩ := hcut
    cases kq with
    | zero => exact absurd HA.out (by simp [impl_termOf.j0])
    | succ kj1 =>
      have H := HA.out
      clear HA
      simp only [impl_termOf.j0] at H
      by_cases c5 : x14_1 = true
      · subst c5
        have H1 : (some (0, 0, ([] : List (S68)), false)) = some (r1, r2, r3, r4) := by rw [if_pos rfl] at H; exact H
        clear H
        have H := H1
        clear H1
        simp only [Option.some.injEq, Prod.mk.injEq] at H
        obtain ⟨rfl, rfl, rfl, rfl⟩ := H
        have hcz6_0 : wc.cell? ⟨gb101, 0, none⟩ = some (.int .i64 0) := (blk_cell BK101.out 0).trans rfl
        have hcz6_1 : wc.cell? ⟨gb101, 1, none⟩ = some (.int .i64 0) := (blk_cell BK101.out 1).trans rfl
        have hcz6_2 : wc.cell? ⟨gb101, 2, none⟩ = some (.slice none 0 0) := (blk_cell BK101.out 2).trans rfl
        have hfz6_0 := blk_frozen BK101.out 0
        have hfz6_1 := blk_frozen BK101.out 1
        have hfz6_2 := blk_frozen BK101.out 2
        go_wp2
        refine bodyPost_ret (results_ct rfl _ _ gb101 68 #[.int .i64 0, .int .i64 0, .slice none 0 0] (0, 0) _ rfl (by (with_reducible repeat (first | refine blk_drewN ?_ _ | refine blk_drew ?_ | refine blk_alloc ?_ _)); refine blk_put (cs := #[.int .i64 0, .int .i64 0, .slice none 0 0]) ?_ 2 _ rfl; (with_reducible repeat (first | refine blk_drewN ?_ _ | refine blk_drew ?_ | refine blk_alloc ?_ _)); refine blk_put (cs := #[.int .i64 0, .int .i64 0, .slice none 0 0]) ?_ 1 _ rfl; (with_reducible repeat (first | refine blk_drewN ?_ _ | refine blk_drew ?_ | refine blk_alloc ?_ _)); refine blk_put (cs := #[.int .i64 0, .int .i64 0, .slice none 0 0]) ?_ 0 _ rfl; (with_reducible repeat (first | refine blk_drewN ?_ _ | refine blk_drew ?_ | refine blk_alloc ?_ _)); exact BK101.out) Try.underlying68 rfl (by kernel_rfl)) rfl ?_
        exact ⟨_, by first | rfl | (simp [errW_none, errW_some] <;> rfl) | (simp [*, errW_none, errW_some] <;> rfl), by first | exact Kd.R_nil _ _ _ _ _ | exact Kd.N_nil _ _ _ _ _ | exact Kd.V_nil _ _ _ _ _ | exact Kd.Q_nil _ _ _ _ _ | exact Kd.S_nil _ _ _ _ _, by repeat (first | (with_reducible first | exact HB.out | apply below_alloc | apply pw_below_drewN | apply below_drew1 | refine below_set ?_ GE101.out) | exact HB.out)⟩
      · replace c5 := Bool.eq_false_iff.mpr c5
        subst c5
        have H1 : ((impl_termAt.f kj1 l0 0 (-1)).bind fun bt102 => (if bt102.2.2.2.2 = true then (if bt102.2.2.2.1 = (l0.length : Int) then ((impl_term_isGood.f kj1 bt102.1 bt102.2.1 bt102.2.2.1).bind fun t110 => (some (bt102.1, bt102.2.1, bt102.2.2.1, t110))) else (some (bt102.1, bt102.2.1, bt102.2.2.1, false))) else (some (bt102.1, bt102.2.1, bt102.2.2.1, false)))) = some (r1, r2, r3, r4) := by rw [if_neg (show ¬ (false = true) by decide)] at H; exact H
        clear H
        have H := H1
        clear H1
        replace H := Option.bind_eq_some_iff.mp H
        obtain ⟨⟨t102, t103, t104, t107, t108⟩, A70, H⟩ := H
        replace H : (if t108 = true then (if t107 = (l0.length : Int) then ((impl_term_isGood.f kj1 t102 t103 t104).bind fun t110 => (some (t102, t103, t104, t110))) else (some (t102, t103, t104, false))) else (some (t102, t103, t104, false))) = some (r1, r2, r3, r4) := H
        have A7 := Aside0.mk A70
        clear A70
        by_cases c8 : t108 = true
        · subst c8
          have H1 : (if t107 = (l0.length : Int) then ((impl_term_isGood.f kj1 t102 t103 t104).bind fun t110 => (some (t102, t103, t104, t110))) else (some (t102, t103, t104, false))) = some (r1, r2, r3, r4) := by rw [if_pos rfl] at H; exact H
          clear H
          have H := H1
          clear H1
          by_cases c9 : t107 = (l0.length : Int)
          · rw [if_pos c9] at H
            have c9b0 : (t107 == (l0.length : Int)) = true := beq_iff_eq.mpr c9
            have c9b1 : (t107 != (l0.length : Int)) = false := bne_eq_false_iff_eq.mpr c9
            clear c9
            replace H := Option.bind_eq_some_iff.mp H
            obtain ⟨t110, A100, H⟩ := H
            replace H : (some (t102, t103, t104, t110)) = some (r1, r2, r3, r4) := H
            have A10 := Aside0.mk A100
            clear A100
            simp only [Option.some.injEq, Prod.mk.injEq] at H
            obtain ⟨rfl, rfl, rfl, rfl⟩ := H
            try go_wp2_with (first | ((with_reducible refine gate_callee (f := 65) rfl ?_); refine goesL_ (some 18) rfl rfl Try.func65 (by kernel_rfl) rfl #[.slice A0 l0.length c0, .int .i64 0, .int .i64 (-1)] rfl (by (try simp only [List.map_toArray, List.map_cons, List.map_nil]); first | done | rfl | (simp only [List.length_drop, List.length_take]; rfl)) ?_; (with_reducible refine (impl_termAt.calls kj1 _ _ l0 0 (-1) t102 t103 t104 t107 true _ ?side1 ?side2 A7.out).mono ?_); (case side1 => repeat (first | exact (Kd.C_below HR0.out HB.out) | (with_reducible refine Kd.C_alloc ?_ _) | (with_reducible refine Kd.C_drewN ?_ _) | (with_reducible refine Kd.C_drew ?_))); (case side2 => exact HC0.out); rintro e w11 ⟨v105, rfl, ho0, hb⟩; refine ⟨_, rfl, ?_⟩; have n0_ := Aside0.mk (Kd.R_lower (Kd.R_newB ho0 (g := gb101) (o := .cells #[.int .i64 0, .int .i64 0, .slice none 0 0] 68 (0, 0)) (by (with_reducible repeat (first | refine blk_drewN ?_ _ | refine blk_drew ?_ | refine blk_alloc ?_ _)); exact BK101.out)) (below_size (by repeat (first | (with_reducible first | exact HB.out | apply below_alloc | apply pw_below_drewN | apply below_drew1 | refine below_set ?_ GE101.out) | exact HB.out)))); have n1_ := Aside0.mk (blk_below (g := gb101) (o := .cells #[.int .i64 0, .int .i64 0, .slice none 0 0] 68 (0, 0)) (by (with_reducible repeat (first | refine blk_drewN ?_ _ | refine blk_drew ?_ | refine blk_alloc ?_ _)); exact BK101.out) hb); have n2_ := Aside0.mk (below_step (by repeat (first | (with_reducible first | exact HB.out | apply below_alloc | apply pw_below_drewN | apply below_drew1 | refine below_set ?_ GE101.out) | exact HB.out)) hb); clear BK101; clear HB; have HO106 := n0_; have BK101 := n1_; have HB := n2_; clear n0_ n1_ n2_; (try clear hb); (try clear hb2); (try clear hk); (try clear hi); (try clear ho0)) | ((with_reducible refine gate_dst (N := 4) rfl ?_); (try (refine gate_guard (by rfl) ?_; dsimp only)); refine box_event ?hg (N := 4) ?hd (cs := #[.int .i64 0, .int .i64 0, .slice none 0 0]) (t := 68) ?hr ?_; (case hd => rfl); (case hg => rfl); (case hr => first | (go_simp; done) | (go_simp; rfl)); intro gb109 hg w12 hbox hb; have n0_ := Aside0.mk (Kd.R_below (Kd.R_elderB (by (with_reducible repeat (first | apply Kd.R_alloc | apply Kd.R_drewN | apply Kd.R_drew)); exact HO106.out) gb109 (Nat.le_of_eq hg.symm)) hb); have n1_ := Aside0.mk (blk_below (g := gb101) (o := .cells #[.int .i64 0, .int .i64 0, .slice none 0 0] 68 (0, 0)) (by (with_reducible repeat (first | refine blk_drewN ?_ _ | refine blk_drew ?_ | refine blk_alloc ?_ _)); exact BK101.out) hb); have n2_ := Aside0.mk (below_step (by repeat (first | (with_reducible first | exact HB.out | apply below_alloc | apply pw_below_drewN | apply below_drew1 | refine below_set ?_ GE101.out) | exact HB.out)) hb); have n3_ := Aside0.mk (hbox); have n4_ := Aside0.mk ((by rw [hg]; exact (below_size (by repeat (first | (with_reducible first | exact HB.out | apply below_alloc | apply pw_below_drewN | apply below_drew1 | refine below_set ?_ GE101.out) | exact HB.out))) : w.heap.size ≤ gb109)); have n5_ := Aside0.mk ((by rw [hg]; exact (below_size (by repeat (first | (with_reducible first | exact HB.out | apply below_alloc | apply pw_below_drewN | apply below_drew1 | refine below_set ?_ GE101.out) | exact HB.out))) : w.heap.size ≤ gb109)); have n6_ := Aside0.mk ((by rw [hg]; exact Nat.ne_of_lt (blk_lt (g := gb101) (o := .cells #[.int .i64 0, .int .i64 0, .slice none 0 0] 68 (0, 0)) (by (with_reducible repeat (first | refine blk_drewN ?_ _ | refine blk_drew ?_ | refine blk_alloc ?_ _)); exact BK101.out)) : gb101 ≠ gb109)); have n7_ := Aside0.mk ((by rw [hg]; exact Nat.ne_of_gt (blk_lt (g := gb101) (o := .cells #[.int .i64 0, .int .i64 0, .slice none 0 0] 68 (0, 0)) (by (with_reducible repeat (first | refine blk_drewN ?_ _ | refine blk_drew ?_ | refine blk_alloc ?_ _)); exact BK101.out)) : gb109 ≠ gb101)); clear HO106; clear BK101; clear HB; have HO106 := n0_; have BK101 := n1_; have HB := n2_; have BK109 := n3_; have GW109 := n4_; have GE109 := n5_; have NB101_109 := n6_; have NB109_101 := n7_; clear n0_ n1_ n2_ n3_ n4_ n5_ n6_ n7_; clear hb hbox hg; have hnb13 := NB109_101.out; have hnc13 := NB101_109.out; have hcz14_0 : w12.cell? ⟨gb109, 0, none⟩ = some (.int .i64 0) := (blk_cell BK109.out 0).trans rfl; have hcz14_1 : w12.cell? ⟨gb109, 1, none⟩ = some (.int .i64 0) := (blk_cell BK109.out 1).trans rfl; have hcz14_2 : w12.cell? ⟨gb109, 2, none⟩ = some (.slice none 0 0) := (blk_cell BK109.out 2).trans rfl; have hfz14_0 := blk_frozen BK109.out 0; have hfz14_1 := blk_frozen BK109.out 1; have hfz14_2 := blk_frozen BK109.out 2; obtain ⟨Ao15, co15, eo15⟩ := Kd.R_slice HO106.out; subst eo15))
            have n0_ : Aside0 (Kd.R k68 68 (((w12.setCell ⟨gb109, 0, none⟩ (.int .i64 t102)).setCell ⟨gb109, 1, none⟩ (.int .i64 t103)).setCell ⟨gb109, 2, none⟩ (.slice Ao15 t104.length co15)) w.heap.size (fun k_ => k_ ≠ gb101 ∧ k_ ≠ gb109) (.slice Ao15 t104.length co15) t104) := ⟨by (with_reducible repeat (first | apply Kd.R_alloc | apply Kd.R_drewN | apply Kd.R_drew)); exact Kd.R_mono (Kd.R_far (p := ⟨gb109, 2, none⟩) (Kd.R_far (p := ⟨gb109, 1, none⟩) (Kd.R_far (p := ⟨gb109, 0, none⟩) (Kd.R_mono HO106.out (fun k_ hk => (⟨hk, hk.2⟩ : _ ∧ k_ ≠ gb109))) (fun _ hk => hk.2) (.int .i64 t102)) (fun _ hk => hk.2) (.int .i64 t103)) (fun _ hk => hk.2) (.slice Ao15 t104.length co15)) (fun _ hk => ⟨hk.1.1.2, hk.1.2⟩)⟩
            have n1_ : Aside0 ((((w12.setCell ⟨gb109, 0, none⟩ (.int .i64 t102)).setCell ⟨gb109, 1, none⟩ (.int .i64 t103)).setCell ⟨gb109, 2, none⟩ (.slice Ao15 t104.length co15)).heap[gb101]? = some (.cells #[.int .i64 0, .int .i64 0, .slice none 0 0] 68 (0, 0))) := ⟨by (with_reducible repeat (first | refine blk_drewN ?_ _ | refine blk_drew ?_ | refine blk_alloc ?_ _)); refine blk_far ?_ NB101_109.out _; (with_reducible repeat (first | refine blk_drewN ?_ _ | refine blk_drew ?_ | refine blk_alloc ?_ _)); refine blk_far ?_ NB101_109.out _; (with_reducible repeat (first | refine blk_drewN ?_ _ | refine blk_drew ?_ | refine blk_alloc ?_ _)); refine blk_far ?_ NB101_109.out _; (with_reducible repeat (first | refine blk_drewN ?_ _ | refine blk_drew ?_ | refine blk_alloc ?_ _)); exact BK101.out⟩
            have n2_ : Aside0 ((((w12.setCell ⟨gb109, 0, none⟩ (.int .i64 t102)).setCell ⟨gb109, 1, none⟩ (.int .i64 t103)).setCell ⟨gb109, 2, none⟩ (.slice Ao15 t104.length co15)).heap[gb109]? = some (.cells #[.int .i64 t102, .int .i64 t103, .slice Ao15 t104.length co15] 68 (0, 0))) := ⟨by (with_reducible repeat (first | refine blk_drewN ?_ _ | refine blk_drew ?_ | refine blk_alloc ?_ _)); refine blk_put (cs := #[.int .i64 t102, .int .i64 t103, .slice none 0 0]) ?_ 2 _ rfl; (with_reducible repeat (first | refine blk_drewN ?_ _ | refine blk_drew ?_ | refine blk_alloc ?_ _)); refine blk_put (cs := #[.int .i64 t102, .int .i64 0, .slice none 0 0]) ?_ 1 _ rfl; (with_reducible repeat (first | refine blk_drewN ?_ _ | refine blk_drew ?_ | refine blk_alloc ?_ _)); refine blk_put (cs := #[.int .i64 0, .int .i64 0, .slice none 0 0]) ?_ 0 _ rfl; (with_reducible repeat (first | refine blk_drewN ?_ _ | refine blk_drew ?_ | refine blk_alloc ?_ _)); exact BK109.out⟩
            have n3_ : Aside0 (Below w.heap.size w (((w12.setCell ⟨gb109, 0, none⟩ (.int .i64 t102)).setCell ⟨gb109, 1, none⟩ (.int .i64 t103)).setCell ⟨gb109, 2, none⟩ (.slice Ao15 t104.length co15))) := ⟨by repeat (first | (with_reducible first | exact HB.out | apply below_alloc | apply pw_below_drewN | apply below_drew1 | refine below_set ?_ GE101.out | refine below_set ?_ GE109.out) | exact HB.out)⟩
            (try clear HO106)
            (try clear BK101)
            (try clear BK109)
            (try clear HB)
            generalize (((w12.setCell ⟨gb109, 0, none⟩ (.int .i64 t102)).setCell ⟨gb109, 1, none⟩ (.int .i64 t103)).setCell ⟨gb109, 2, none⟩ (.slice Ao15 t104.length co15)) = w16 at n0_ n1_ n2_ n3_ ⊢
            have HO106 := n0_
            have BK101 := n1_
            have BK109 := n2_
            have HB := n3_
            clear n0_ n1_ n2_ n3_
            have n0_ := Aside0.mk (Kd.R_drew HO106.out)
            have n1_ := Aside0.mk (blk_drew BK101.out)
            have n2_ := Aside0.mk (blk_drew BK109.out)
            have n3_ := Aside0.mk (below_drew1 HB.out)
            clear HO106
            clear BK101
            clear BK109
            clear HB
            have HO106 := n0_
            have BK101 := n1_
            have BK109 := n2_
            have HB := n3_
            clear n0_ n1_ n2_ n3_
            refine start_ (n := 14) (S := fun w' => w'.cell? ⟨gb109, 0, none⟩ = some (.int .i64 t102) ∧ w'.cell? ⟨gb109, 1, none⟩ = some (.int .i64 t103) ∧ w'.cell? ⟨gb109, 2, none⟩ = some (.slice Ao15 t104.length co15)) (ds := []) #[false, false, false, false, false, false, false, false, false, false, false, false, false, false] (by kernel_rfl) rfl rfl ⟨(blk_cell BK109.out 0).trans rfl, (blk_cell BK109.out 1).trans rfl, (blk_cell BK109.out 2).trans rfl⟩ (fun hHeld => ?_); refine with_tabW impl_termOf.tab4 impl_termOf.bits4 (fun HT_ HW_ => ?_)
            generalize w16.drew = w17 at HO106 BK101 BK109 HB hHeld ⊢
            refine pure_ (i := 1) (N := some 23) (v := ?_) (a' := ?_) #[false, true, false, false, false, false, false, false, false, false, false, false, false, false] rfl rfl (any_of HT_.out (by kernel_rfl)) (fun _ _ _ h => h) (Or.inl ⟨by rfl, ?_⟩) ?_ ?_
            rotate_left
            · intro w'
              go_simp
              with_reducible rfl
            rotate_left
            · simp only [Act.put, List.setIfInBounds_toArray, List.set_cons_zero, List.set_cons_succ, i64_w, i32_w]
              rfl
            refine pure_ (i := 2) (N := some 24) (v := ?_) (a' := ?_) #[false, true, true, false, false, false, false, false, false, false, false, false, false, false] rfl rfl (any_of HT_.out (by kernel_rfl)) (fun _ _ _ h => h) (Or.inl ⟨by rfl, ?_⟩) ?_ ?_
            rotate_left
            · intro w'
              go_simp
              with_reducible rfl
            rotate_left
            · simp only [Act.put, List.setIfInBounds_toArray, List.set_cons_zero, List.set_cons_succ, i64_w, i32_w]
              rfl
            refine pure_ (i := 3) (N := some 25) (v := ?_) (a' := ?_) #[false, true, true, true, false, false, false, false, false, false, false, false, false, false] rfl rfl (any_of HT_.out (by kernel_rfl)) (fun _ _ _ h => h) (Or.inl ⟨by rfl, ?_⟩) ?_ ?_
            rotate_left
            · intro w'
              go_simp
              with_reducible rfl
            rotate_left
            · simp only [Act.put, List.setIfInBounds_toArray, List.set_cons_zero, List.set_cons_succ, i64_w, i32_w]
              rfl
            refine pure_ (i := 4) (N := some 26) (v := ?_) (a' := ?_) #[false, true, true, true, true, false, false, false, false, false, false, false, false, false] rfl rfl (any_of HT_.out (by kernel_rfl)) (fun _ _ _ h => h) (Or.inl ⟨by rfl, ?_⟩) ?_ ?_
            rotate_left
            · intro w'
              go_simp
              with_reducible rfl
            rotate_left
            · simp only [Act.put, List.setIfInBounds_toArray, List.set_cons_zero, List.set_cons_succ, i64_w, i32_w]
              rfl
            refine pure_ (i := 5) (N := some 27) (v := ?_) (a' := ?_) #[false, true, true, true, true, true, false, false, false, false, false, false, false, false] rfl rfl (any_of HT_.out (by kernel_rfl)) (fun _ _ _ h => h) (Or.inl ⟨by rfl, ?_⟩) ?_ ?_
            rotate_left
            · intro w'
              go_simp
              with_reducible rfl
            rotate_left
            · simp only [Act.put, List.setIfInBounds_toArray, List.set_cons_zero, List.set_cons_succ, i64_w, i32_w]
              rfl
            refine pure_ (i := 6) (N := some 28) (v := ?_) (a' := ?_) #[false, true, true, true, true, true, true, false, false, false, false, false, false, false] rfl rfl (any_of HT_.out (by kernel_rfl)) (fun _ _ _ h => h) (Or.inl ⟨by rfl, ?_⟩) ?_ ?_
            rotate_left
            · intro w'
              go_simp
              with_reducible rfl
            rotate_left
            · simp only [Act.put, List.setIfInBounds_toArray, List.set_cons_zero, List.set_cons_succ, i64_w, i32_w]
              rfl
            refine pure_ (i := 7) (N := some 29) (v := ?_) (a' := ?_) #[false, true, true, true, true, true, true, true, false, false, false, false, false, false] rfl rfl (any_of HT_.out (by kernel_rfl)) (fun _ _ _ h => h) (Or.inl ⟨by rfl, ?_⟩) ?_ ?_
            rotate_left
            · intro w'
              go_simp
              with_reducible rfl
            rotate_left
            · simp only [Act.put, List.setIfInBounds_toArray, List.set_cons_zero, List.set_cons_succ, i64_w, i32_w]
              rfl
            refine pure_ (i := 8) (N := some 30) (v := ?_) (a' := ?_) #[false, true, true, true, true, true, true, true, true, false, false, false, false, false] rfl rfl (any_of HT_.out (by kernel_rfl)) (fun _ _ _ h => h) (Or.inl ⟨by rfl, ?_⟩) ?_ ?_
            rotate_left
            · intro w'
              go_simp
              with_reducible rfl
            rotate_left
            · simp only [Act.put, List.setIfInBounds_toArray, List.set_cons_zero, List.set_cons_succ, i64_w, i32_w]
              rfl
            refine take_ (i := 0) (N := some 22) (v := ?_) (a' := ?_) #[true, true, true, true, true, true, true, true, true, false, false, false, false, false] rfl rfl (take_ofW HT_.out HW_.out (by kernel_rfl)) (fun _ _ _ h => h) (Or.inl ⟨by rfl, ?_⟩) hHeld ?_ ?_
            rotate_left
            · rintro w' ⟨s0, s1, s2⟩
              go_simp
              with_reducible rfl
            rotate_left
            · simp only [Act.put, List.setIfInBounds_toArray, List.set_cons_zero, List.set_cons_succ, i64_w, i32_w]
              rfl
            refine take_ (i := 9) (N := some 31) (v := ?_) (a' := ?_) #[true, true, true, true, true, true, true, true, true, true, false, false, false, false] rfl rfl (take_ofW HT_.out HW_.out (by kernel_rfl)) (fun _ _ _ h => h) (Or.inl ⟨by rfl, ?_⟩) hHeld ?_ ?_
            rotate_left
            · rintro w' ⟨s0, s1, s2⟩
              go_simp
              with_reducible rfl
            rotate_left
            · simp only [Act.put, List.setIfInBounds_toArray, List.set_cons_zero, List.set_cons_succ, i64_w, i32_w]
              rfl
            refine one_ (i := 10) (N := some 32) #[true, true, true, true, true, true, true, true, true, true, true, false, false, false] rfl rfl (one_of HT_.out (by kernel_rfl)) (by decide) (fun K hK => ?_)
            refine goes_ Try.func66 (by kernel_rfl) rfl #[.agg #[.int .i64 t102, .int .i64 t103, .slice Ao15 t104.length co15]] (by rfl) rfl rfl (by (try simp only [List.map_toArray, List.map_cons, List.map_nil]); first | done | rfl | (simp only [List.length_drop, List.length_take]; rfl)) ?_
            with_reducible refine (impl_term_isGood.calls kj1 t102 t103 _ _ t104 t110 _ ?side1 ?side2 A10.out).mono ?_
            (case side1 => repeat (first | exact (Kd.R_reads' HO106.out).2.2 | (with_reducible refine Kd.C_alloc ?_ _) | (with_reducible refine Kd.C_drewN ?_ _) | (with_reducible refine Kd.C_drew ?_)))
            (case side2 => exact (Kd.R_reads' HO106.out).2.1)
            rintro e w18 ⟨rfl, hb⟩
            refine ⟨_, rfl, ?_⟩
            have n0_ := Aside0.mk (Kd.R_below (by (with_reducible repeat (first | apply Kd.R_alloc | apply Kd.R_drewN | apply Kd.R_drew)); exact HO106.out) hb)
            have n1_ := Aside0.mk (blk_below (g := gb101) (o := .cells #[.int .i64 0, .int .i64 0, .slice none 0 0] 68 (0, 0)) (by (with_reducible repeat (first | refine blk_drewN ?_ _ | refine blk_drew ?_ | refine blk_alloc ?_ _)); exact BK101.out) hb)
            have n2_ := Aside0.mk (blk_below (g := gb109) (o := .cells #[.int .i64 t102, .int .i64 t103, .slice Ao15 t104.length co15] 68 (0, 0)) (by (with_reducible repeat (first | refine blk_drewN ?_ _ | refine blk_drew ?_ | refine blk_alloc ?_ _)); exact BK109.out) hb)
            have n3_ := Aside0.mk (below_step (by repeat (first | (with_reducible first | exact HB.out | apply below_alloc | apply pw_below_drewN | apply below_drew1 | refine below_set ?_ GE101.out | refine below_set ?_ GE109.out) | exact HB.out)) hb)
            clear HO106
            clear BK101
            clear BK109
            clear HB
            have HO106 := n0_
            have BK101 := n1_
            have BK109 := n2_
            have HB := n3_
            clear n0_ n1_ n2_ n3_
            (try clear hb)
            (try clear hb2)
            (try clear hk)
            (try clear hi)
            refine hK.out _ _ ⟨(blk_cell BK109.out 0).trans rfl, (blk_cell BK109.out 1).trans rfl, (blk_cell BK109.out 2).trans rfl⟩ (fun hHeld => ?_)
            clear hK K
            refine norm_ (a' := ?_) ?_ ?_
            rotate_left
            · show Act.put _ (some 32) _ = _
              simp only [Act.put, List.setIfInBounds_toArray, List.set_cons_zero, List.set_cons_succ, i64_w, i32_w]
              rfl
            refine pure_ (i := 11) (N := some 33) (v := ?_) (a' := ?_) #[true, true, true, true, true, true, true, true, true, true, true, true, false, false] rfl rfl (any_of HT_.out (by kernel_rfl)) (fun _ _ _ h => h) (Or.inl ⟨by rfl, ?_⟩) ?_ ?_
            rotate_left
            · intro w'
              go_simp
              with_reducible rfl
            rotate_left
            · simp only [Act.put, List.setIfInBounds_toArray, List.set_cons_zero, List.set_cons_succ, i64_w, i32_w]
              rfl
            refine one_ (i := 12) (N := none) #[true, true, true, true, true, true, true, true, true, true, true, true, true, false] rfl rfl (one_of HT_.out (by kernel_rfl)) (by decide) (fun K hK => ?_)
            have hs19 : w18.cell? ⟨gb101, 0, none⟩ = some (.int .i64 0) := (blk_cell BK101.out 0).trans rfl
            have hfs19 := blk_frozen BK101.out 0
            have hns19_1 := NB109_101.out
            have hms19_1 := NB101_109.out
            have hs20 : w18.cell? ⟨gb101, 1, none⟩ = some (.int .i64 0) := (blk_cell BK101.out 1).trans rfl
            have hfs20 := blk_frozen BK101.out 1
            have hns20_1 := NB109_101.out
            have hms20_1 := NB101_109.out
            have hs21 : w18.cell? ⟨gb101, 2, none⟩ = some (.slice none 0 0) := (blk_cell BK101.out 2).trans rfl
            have hfs21 := blk_frozen BK101.out 2
            have hns21_1 := NB109_101.out
            have hms21_1 := NB101_109.out
            refine skip_ (w1 := ?_) (by rfl) rfl ?_ ?_
            rotate_left
            · go_simp
              rfl
            refine hK.out _ _ ⟨((cell_far (p := ⟨gb101, _, none⟩) NB109_101.out _).trans (((cell_far (p := ⟨gb101, _, none⟩) NB109_101.out _).trans (((cell_far (p := ⟨gb101, _, none⟩) NB109_101.out _).trans (hHeld.1)))))), ((cell_far (p := ⟨gb101, _, none⟩) NB109_101.out _).trans (((cell_far (p := ⟨gb101, _, none⟩) NB109_101.out _).trans (((cell_far (p := ⟨gb101, _, none⟩) NB109_101.out _).trans (hHeld.2.1)))))), ((cell_far (p := ⟨gb101, _, none⟩) NB109_101.out _).trans (((cell_far (p := ⟨gb101, _, none⟩) NB109_101.out _).trans (((cell_far (p := ⟨gb101, _, none⟩) NB109_101.out _).trans (hHeld.2.2))))))⟩ (fun hHeld => ?_)
            clear hK K
            refine pure_ (i := 13) (N := some 3) (v := ?_) (a' := ?_) #[true, true, true, true, true, true, true, true, true, true, true, true, true, true] rfl rfl (any_of HT_.out (by kernel_rfl)) (fun _ _ _ h => h) (Or.inl ⟨by rfl, ?_⟩) ?_ ?_
            rotate_left
            · intro w'
              go_simp
              with_reducible rfl
            rotate_left
            · simp only [Act.put, List.setIfInBounds_toArray, List.set_cons_zero, List.set_cons_succ, i64_w, i32_w]
              rfl
            refine done_ (done_of HT_.out (by kernel_rfl)) ?_
            try go_wp2
            refine bodyPost_ret (results_ct rfl _ _ gb101 68 #[.int .i64 t102, .int .i64 t103, .slice Ao15 t104.length co15] (0, 0) _ rfl (by (with_reducible repeat (first | refine blk_drewN ?_ _ | refine blk_drew ?_ | refine blk_alloc ?_ _)); refine blk_put (cs := #[.int .i64 t102, .int .i64 t103, .slice none 0 0]) ?_ 2 _ rfl; (with_reducible repeat (first | refine blk_drewN ?_ _ | refine blk_drew ?_ | refine blk_alloc ?_ _)); refine blk_put (cs := #[.int .i64 t102, .int .i64 0, .slice none 0 0]) ?_ 1 _ rfl; (with_reducible repeat (first | refine blk_drewN ?_ _ | refine blk_drew ?_ | refine blk_alloc ?_ _)); refine blk_put (cs := #[.int .i64 0, .int .i64 0, .slice none 0 0]) ?_ 0 _ rfl; (with_reducible repeat (first | refine blk_drewN ?_ _ | refine blk_drew ?_ | refine blk_alloc ?_ _)); exact BK101.out) Try.underlying68 rfl (by kernel_rfl)) rfl ?_
            exact ⟨_, by first | rfl | (simp [errW_none, errW_some] <;> rfl) | (simp [*, errW_none, errW_some] <;> rfl), by (with_reducible repeat (first | apply Kd.R_alloc | apply Kd.R_drewN | apply Kd.R_drew)); exact Kd.R_mono (Kd.R_far (p := ⟨gb101, 2, none⟩) (Kd.R_far (p := ⟨gb101, 1, none⟩) (Kd.R_far (p := ⟨gb101, 0, none⟩) (Kd.R_mono HO106.out (fun k_ hk => (⟨hk, hk.1⟩ : _ ∧ k_ ≠ gb101))) (fun _ hk => hk.2) (.int .i64 t102)) (fun _ hk => hk.2) (.int .i64 t103)) (fun _ hk => hk.2) (.slice Ao15 t104.length co15)) (fun _ hk => trivial), by repeat (first | (with_reducible first | exact HB.out | apply below_alloc | apply pw_below_drewN | apply below_drew1 | refine below_set ?_ GE101.out | refine below_set ?_ GE109.out) | exact HB.out)⟩
          · rw [if_neg c9] at H
            have c9b0 : (t107 == (l0.length : Int)) = false := beq_eq_false_iff_ne.mpr c9
            have c9b1 : (t107 != (l0.length : Int)) = true := bne_iff_ne.mpr c9
            simp only [Option.some.injEq, Prod.mk.injEq] at H
            obtain ⟨rfl, rfl, rfl, rfl⟩ := H
            try go_wp2_with (first | ((with_reducible refine gate_callee (f := 65) rfl ?_); refine goesL_ (some 18) rfl rfl Try.func65 (by kernel_rfl) rfl #[.slice A0 l0.length c0, .int .i64 0, .int .i64 (-1)] rfl (by (try simp only [List.map_toArray, List.map_cons, List.map_nil]); first | done | rfl | (simp only [List.length_drop, List.length_take]; rfl)) ?_; (with_reducible refine (impl_termAt.calls kj1 _ _ l0 0 (-1) t102 t103 t104 t107 true _ ?side1 ?side2 A7.out).mono ?_); (case side1 => repeat (first | exact (Kd.C_below HR0.out HB.out) | (with_reducible refine Kd.C_alloc ?_ _) | (with_reducible refine Kd.C_drewN ?_ _) | (with_reducible refine Kd.C_drew ?_))); (case side2 => exact HC0.out); rintro e w22 ⟨v105, rfl, ho0, hb⟩; refine ⟨_, rfl, ?_⟩; have n0_ := Aside0.mk (Kd.R_lower (Kd.R_newB ho0 (g := gb101) (o := .cells #[.int .i64 0, .int .i64 0, .slice none 0 0] 68 (0, 0)) (by (with_reducible repeat (first | refine blk_drewN ?_ _ | refine blk_drew ?_ | refine blk_alloc ?_ _)); exact BK101.out)) (below_size (by repeat (first | (with_reducible first | exact HB.out | apply below_alloc | apply pw_below_drewN | apply below_drew1 | refine below_set ?_ GE101.out) | exact HB.out)))); have n1_ := Aside0.mk (blk_below (g := gb101) (o := .cells #[.int .i64 0, .int .i64 0, .slice none 0 0] 68 (0, 0)) (by (with_reducible repeat (first | refine blk_drewN ?_ _ | refine blk_drew ?_ | refine blk_alloc ?_ _)); exact BK101.out) hb); have n2_ := Aside0.mk (below_step (by repeat (first | (with_reducible first | exact HB.out | apply below_alloc | apply pw_below_drewN | apply below_drew1 | refine below_set ?_ GE101.out) | exact HB.out)) hb); clear BK101; clear HB; have HO106 := n0_; have BK101 := n1_; have HB := n2_; clear n0_ n1_ n2_; (try clear hb); (try clear hb2); (try clear hk); (try clear hi); (try clear ho0)) | ((with_reducible refine gate_dst (N := 4) rfl ?_); (try (refine gate_guard (by rfl) ?_; dsimp only)); refine box_event ?hg (N := 4) ?hd (cs := #[.int .i64 0, .int .i64 0, .slice none 0 0]) (t := 68) ?hr ?_; (case hd => rfl); (case hg => rfl); (case hr => first | (go_simp; done) | (go_simp; rfl)); intro gb109 hg w23 hbox hb; have n0_ := Aside0.mk (Kd.R_below (Kd.R_elderB (by (with_reducible repeat (first | apply Kd.R_alloc | apply Kd.R_drewN | apply Kd.R_drew)); exact HO106.out) gb109 (Nat.le_of_eq hg.symm)) hb); have n1_ := Aside0.mk (blk_below (g := gb101) (o := .cells #[.int .i64 0, .int .i64 0, .slice none 0 0] 68 (0, 0)) (by (with_reducible repeat (first | refine blk_drewN ?_ _ | refine blk_drew ?_ | refine blk_alloc ?_ _)); exact BK101.out) hb); have n2_ := Aside0.mk (below_step (by repeat (first | (with_reducible first | exact HB.out | apply below_alloc | apply pw_below_drewN | apply below_drew1 | refine below_set ?_ GE101.out) | exact HB.out)) hb); have n3_ := Aside0.mk (hbox); have n4_ := Aside0.mk ((by rw [hg]; exact (below_size (by repeat (first | (with_reducible first | exact HB.out | apply below_alloc | apply pw_below_drewN | apply below_drew1 | refine below_set ?_ GE101.out) | exact HB.out))) : w.heap.size ≤ gb109)); have n5_ := Aside0.mk ((by rw [hg]; exact (below_size (by repeat (first | (with_reducible first | exact HB.out | apply below_alloc | apply pw_below_drewN | apply below_drew1 | refine below_set ?_ GE101.out) | exact HB.out))) : w.heap.size ≤ gb109)); have n6_ := Aside0.mk ((by rw [hg]; exact Nat.ne_of_lt (blk_lt (g := gb101) (o := .cells #[.int .i64 0, .int .i64 0, .slice none 0 0] 68 (0, 0)) (by (with_reducible repeat (first | refine blk_drewN ?_ _ | refine blk_drew ?_ | refine blk_alloc ?_ _)); exact BK101.out)) : gb101 ≠ gb109)); have n7_ := Aside0.mk ((by rw [hg]; exact Nat.ne_of_gt (blk_lt (g := gb101) (o := .cells #[.int .i64 0, .int .i64 0, .slice none 0 0] 68 (0, 0)) (by (with_reducible repeat (first | refine blk_drewN ?_ _ | refine blk_drew ?_ | refine blk_alloc ?_ _)); exact BK101.out)) : gb109 ≠ gb101)); clear HO106; clear BK101; clear HB; have HO106 := n0_; have BK101 := n1_; have HB := n2_; have BK109 := n3_; have GW109 := n4_; have GE109 := n5_; have NB101_109 := n6_; have NB109_101 := n7_; clear n0_ n1_ n2_ n3_ n4_ n5_ n6_ n7_; clear hb hbox hg; have hnb24 := NB109_101.out; have hnc24 := NB101_109.out; have hcz25_0 : w23.cell? ⟨gb109, 0, none⟩ = some (.int .i64 0) := (blk_cell BK109.out 0).trans rfl; have hcz25_1 : w23.cell? ⟨gb109, 1, none⟩ = some (.int .i64 0) := (blk_cell BK109.out 1).trans rfl; have hcz25_2 : w23.cell? ⟨gb109, 2, none⟩ = some (.slice none 0 0) := (blk_cell BK109.out 2).trans rfl; have hfz25_0 := blk_frozen BK109.out 0; have hfz25_1 := blk_frozen BK109.out 1; have hfz25_2 := blk_frozen BK109.out 2; obtain ⟨Ao26, co26, eo26⟩ := Kd.R_slice HO106.out; subst eo26))
            have n0_ : Aside0 (Kd.R k68 68 (((w23.setCell ⟨gb109, 0, none⟩ (.int .i64 t102)).setCell ⟨gb109, 1, none⟩ (.int .i64 t103)).setCell ⟨gb109, 2, none⟩ (.slice Ao26 t104.length co26)) w.heap.size (fun k_ => k_ ≠ gb101 ∧ k_ ≠ gb109) (.slice Ao26 t104.length co26) t104) := ⟨by (with_reducible repeat (first | apply Kd.R_alloc | apply Kd.R_drewN | apply Kd.R_drew)); exact Kd.R_mono (Kd.R_far (p := ⟨gb109, 2, none⟩) (Kd.R_far (p := ⟨gb109, 1, none⟩) (Kd.R_far (p := ⟨gb109, 0, none⟩) (Kd.R_mono HO106.out (fun k_ hk => (⟨hk, hk.2⟩ : _ ∧ k_ ≠ gb109))) (fun _ hk => hk.2) (.int .i64 t102)) (fun _ hk => hk.2) (.int .i64 t103)) (fun _ hk => hk.2) (.slice Ao26 t104.length co26)) (fun _ hk => ⟨hk.1.1.2, hk.1.2⟩)⟩
            have n1_ : Aside0 ((((w23.setCell ⟨gb109, 0, none⟩ (.int .i64 t102)).setCell ⟨gb109, 1, none⟩ (.int .i64 t103)).setCell ⟨gb109, 2, none⟩ (.slice Ao26 t104.length co26)).heap[gb101]? = some (.cells #[.int .i64 0, .int .i64 0, .slice none 0 0] 68 (0, 0))) := ⟨by (with_reducible repeat (first | refine blk_drewN ?_ _ | refine blk_drew ?_ | refine blk_alloc ?_ _)); refine blk_far ?_ NB101_109.out _; (with_reducible repeat (first | refine blk_drewN ?_ _ | refine blk_drew ?_ | refine blk_alloc ?_ _)); refine blk_far ?_ NB101_109.out _; (with_reducible repeat (first | refine blk_drewN ?_ _ | refine blk_drew ?_ | refine blk_alloc ?_ _)); refine blk_far ?_ NB101_109.out _; (with_reducible repeat (first | refine blk_drewN ?_ _ | refine blk_drew ?_ | refine blk_alloc ?_ _)); exact BK101.out⟩
            have n2_ : Aside0 ((((w23.setCell ⟨gb109, 0, none⟩ (.int .i64 t102)).setCell ⟨gb109, 1, none⟩ (.int .i64 t103)).setCell ⟨gb109, 2, none⟩ (.slice Ao26 t104.length co26)).heap[gb109]? = some (.cells #[.int .i64 t102, .int .i64 t103, .slice Ao26 t104.length co26] 68 (0, 0))) := ⟨by (with_reducible repeat (first | refine blk_drewN ?_ _ | refine blk_drew ?_ | refine blk_alloc ?_ _)); refine blk_put (cs := #[.int .i64 t102, .int .i64 t103, .slice none 0 0]) ?_ 2 _ rfl; (with_reducible repeat (first | refine blk_drewN ?_ _ | refine blk_drew ?_ | refine blk_alloc ?_ _)); refine blk_put (cs := #[.int .i64 t102, .int .i64 0, .slice none 0 0]) ?_ 1 _ rfl; (with_reducible repeat (first | refine blk_drewN ?_ _ | refine blk_drew ?_ | refine blk_alloc ?_ _)); refine blk_put (cs := #[.int .i64 0, .int .i64 0, .slice none 0 0]) ?_ 0 _ rfl; (with_reducible repeat (first | refine blk_drewN ?_ _ | refine blk_drew ?_ | refine blk_alloc ?_ _)); exact BK109.out⟩
            have n3_ : Aside0 (Below w.heap.size w (((w23.setCell ⟨gb109, 0, none⟩ (.int .i64 t102)).setCell ⟨gb109, 1, none⟩ (.int .i64 t103)).setCell ⟨gb109, 2, none⟩ (.slice Ao26 t104.length co26))) := ⟨by repeat (first | (with_reducible first | exact HB.out | apply below_alloc | apply pw_below_drewN | apply below_drew1 | refine below_set ?_ GE101.out | refine below_set ?_ GE109.out) | exact HB.out)⟩
            (try clear HO106)
            (try clear BK101)
            (try clear BK109)
            (try clear HB)
            generalize (((w23.setCell ⟨gb109, 0, none⟩ (.int .i64 t102)).setCell ⟨gb109, 1, none⟩ (.int .i64 t103)).setCell ⟨gb109, 2, none⟩ (.slice Ao26 t104.length co26)) = w27 at n0_ n1_ n2_ n3_ ⊢
            have HO106 := n0_
            have BK101 := n1_
            have BK109 := n2_
            have HB := n3_
            clear n0_ n1_ n2_ n3_
            have n0_ := Aside0.mk (Kd.R_drew HO106.out)
            have n1_ := Aside0.mk (blk_drew BK101.out)
            have n2_ := Aside0.mk (blk_drew BK109.out)
            have n3_ := Aside0.mk (below_drew1 HB.out)
            clear HO106
            clear BK101
            clear BK109
            clear HB
            have HO106 := n0_
            have BK101 := n1_
            have BK109 := n2_
            have HB := n3_
            clear n0_ n1_ n2_ n3_
            refine start_ (n := 14) (S := fun w' => w'.cell? ⟨gb109, 0, none⟩ = some (.int .i64 t102) ∧ w'.cell? ⟨gb109, 1, none⟩ = some (.int .i64 t103) ∧ w'.cell? ⟨gb109, 2, none⟩ = some (.slice Ao26 t104.length co26)) (ds := []) #[false, false, false, false, false, false, false, false, false, false, false, false, false, false] (by kernel_rfl) rfl rfl ⟨(blk_cell BK109.out 0).trans rfl, (blk_cell BK109.out 1).trans rfl, (blk_cell BK109.out 2).trans rfl⟩ (fun hHeld => ?_); refine with_tabW impl_termOf.tab4 impl_termOf.bits4 (fun HT_ HW_ => ?_)
            generalize w27.drew = w28 at HO106 BK101 BK109 HB hHeld ⊢
            refine pure_ (i := 1) (N := some 23) (v := ?_) (a' := ?_) #[false, true, false, false, false, false, false, false, false, false, false, false, false, false] rfl rfl (any_of HT_.out (by kernel_rfl)) (fun _ _ _ h => h) (Or.inl ⟨by rfl, ?_⟩) ?_ ?_
            rotate_left
            · intro w'
              go_simp
              with_reducible rfl
            rotate_left
            · simp only [Act.put, List.setIfInBounds_toArray, List.set_cons_zero, List.set_cons_succ, i64_w, i32_w]
              rfl
            refine pure_ (i := 2) (N := some 24) (v := ?_) (a' := ?_) #[false, true, true, false, false, false, false, false, false, false, false, false, false, false] rfl rfl (any_of HT_.out (by kernel_rfl)) (fun _ _ _ h => h) (Or.inl ⟨by rfl, ?_⟩) ?_ ?_
            rotate_left
            · intro w'
              go_simp
              with_reducible rfl
            rotate_left
            · simp only [Act.put, List.setIfInBounds_toArray, List.set_cons_zero, List.set_cons_succ, i64_w, i32_w]
              rfl
            refine pure_ (i := 3) (N := some 25) (v := ?_) (a' := ?_) #[false, true, true, true, false, false, false, false, false, false, false, false, false, false] rfl rfl (any_of HT_.out (by kernel_rfl)) (fun _ _ _ h => h) (Or.inl ⟨by rfl, ?_⟩) ?_ ?_
            rotate_left
            · intro w'
              go_simp
              with_reducible rfl
            rotate_left
            · simp only [Act.put, List.setIfInBounds_toArray, List.set_cons_zero, List.set_cons_succ, i64_w, i32_w]
              rfl
            refine pure_ (i := 4) (N := some 26) (v := ?_) (a' := ?_) #[false, true, true, true, true, false, false, false, false, false, false, false, false, false] rfl rfl (any_of HT_.out (by kernel_rfl)) (fun _ _ _ h => h) (Or.inl ⟨by rfl, ?_⟩) ?_ ?_
            rotate_left
            · intro w'
              go_simp
              with_reducible rfl
            rotate_left
            · simp only [Act.put, List.setIfInBounds_toArray, List.set_cons_zero, List.set_cons_succ, i64_w, i32_w]
              rfl
            refine pure_ (i := 5) (N := some 27) (v := ?_) (a' := ?_) #[false, true, true, true, true, true, false, false, false, false, false, false, false, false] rfl rfl (any_of HT_.out (by kernel_rfl)) (fun _ _ _ h => h) (Or.inl ⟨by rfl, ?_⟩) ?_ ?_
            rotate_left
            · intro w'
              go_simp
              with_reducible rfl
            rotate_left
            · simp only [Act.put, List.setIfInBounds_toArray, List.set_cons_zero, List.set_cons_succ, i64_w, i32_w]
              rfl
            refine pure_ (i := 6) (N := some 28) (v := ?_) (a' := ?_) #[false, true, true, true, true, true, true, false, false, false, false, false, false, false] rfl rfl (any_of HT_.out (by kernel_rfl)) (fun _ _ _ h => h) (Or.inl ⟨by rfl, ?_⟩) ?_ ?_
            rotate_left
            · intro w'
              go_simp
              with_reducible rfl
            rotate_left
            · simp only [Act.put, List.setIfInBounds_toArray, List.set_cons_zero, List.set_cons_succ, i64_w, i32_w]
              rfl
            refine pure_ (i := 7) (N := some 29) (v := ?_) (a' := ?_) #[false, true, true, true, true, true, true, true, false, false, false, false, false, false] rfl rfl (any_of HT_.out (by kernel_rfl)) (fun _ _ _ h => h) (Or.inl ⟨by rfl, ?_⟩) ?_ ?_
            rotate_left
            · intro w'
              go_simp
              with_reducible rfl
            rotate_left
            · simp only [Act.put, List.setIfInBounds_toArray, List.set_cons_zero, List.set_cons_succ, i64_w, i32_w]
              rfl
            refine pure_ (i := 8) (N := some 30) (v := ?_) (a' := ?_) #[false, true, true, true, true, true, true, true, true, false, false, false, false, false] rfl rfl (any_of HT_.out (by kernel_rfl)) (fun _ _ _ h => h) (Or.inl ⟨by rfl, ?_⟩) ?_ ?_
            rotate_left
            · intro w'
              go_simp
              with_reducible rfl
            rotate_left
            · simp only [Act.put, List.setIfInBounds_toArray, List.set_cons_zero, List.set_cons_succ, i64_w, i32_w]
              rfl
            refine pure_ (i := 9) (N := some 31) (v := undef) (a' := ?_) #[false, true, true, true, true, true, true, true, true, true, false, false, false, false] rfl rfl (any_of HT_.out (by kernel_rfl)) (fun _ _ _ h => h) (Or.inr ⟨by rfl, rfl⟩) ?_ ?_
            rotate_left
            · simp only [Act.put, List.setIfInBounds_toArray, List.set_cons_zero, List.set_cons_succ, i64_w, i32_w]
              rfl
            refine pure_ (i := 10) (N := some 32) (v := undef) (a' := ?_) #[false, true, true, true, true, true, true, true, true, true, true, false, false, false] rfl rfl (any_of HT_.out (by kernel_rfl)) (fun _ _ _ h => h) (Or.inr ⟨by rfl, rfl⟩) ?_ ?_
            rotate_left
            · simp only [Act.put, List.setIfInBounds_toArray, List.set_cons_zero, List.set_cons_succ, i64_w, i32_w]
              rfl
            refine pure_ (i := 11) (N := some 33) (v := ?_) (a' := ?_) #[false, true, true, true, true, true, true, true, true, true, true, true, false, false] rfl rfl (any_of HT_.out (by kernel_rfl)) (fun _ _ _ h => h) (Or.inl ⟨by rfl, ?_⟩) ?_ ?_
            rotate_left
            · intro w'
              go_simp
              with_reducible rfl
            rotate_left
            · simp only [Act.put, List.setIfInBounds_toArray, List.set_cons_zero, List.set_cons_succ, i64_w, i32_w]
              rfl
            refine take_ (i := 0) (N := some 22) (v := ?_) (a' := ?_) #[true, true, true, true, true, true, true, true, true, true, true, true, false, false] rfl rfl (take_ofW HT_.out HW_.out (by kernel_rfl)) (fun _ _ _ h => h) (Or.inl ⟨by rfl, ?_⟩) hHeld ?_ ?_
            rotate_left
            · rintro w' ⟨s0, s1, s2⟩
              go_simp
              with_reducible rfl
            rotate_left
            · simp only [Act.put, List.setIfInBounds_toArray, List.set_cons_zero, List.set_cons_succ, i64_w, i32_w]
              rfl
            refine one_ (i := 12) (N := none) #[true, true, true, true, true, true, true, true, true, true, true, true, true, false] rfl rfl (one_of HT_.out (by kernel_rfl)) (by decide) (fun K hK => ?_)
            have hs29 : w28.cell? ⟨gb101, 0, none⟩ = some (.int .i64 0) := (blk_cell BK101.out 0).trans rfl
            have hfs29 := blk_frozen BK101.out 0
            have hns29_1 := NB109_101.out
            have hms29_1 := NB101_109.out
            have hs30 : w28.cell? ⟨gb101, 1, none⟩ = some (.int .i64 0) := (blk_cell BK101.out 1).trans rfl
            have hfs30 := blk_frozen BK101.out 1
            have hns30_1 := NB109_101.out
            have hms30_1 := NB101_109.out
            have hs31 : w28.cell? ⟨gb101, 2, none⟩ = some (.slice none 0 0) := (blk_cell BK101.out 2).trans rfl
            have hfs31 := blk_frozen BK101.out 2
            have hns31_1 := NB109_101.out
            have hms31_1 := NB101_109.out
            refine skip_ (w1 := ?_) (by rfl) rfl ?_ ?_
            rotate_left
            · go_simp
              rfl
            refine hK.out _ _ ⟨((cell_far (p := ⟨gb101, _, none⟩) NB109_101.out _).trans (((cell_far (p := ⟨gb101, _, none⟩) NB109_101.out _).trans (((cell_far (p := ⟨gb101, _, none⟩) NB109_101.out _).trans (hHeld.1)))))), ((cell_far (p := ⟨gb101, _, none⟩) NB109_101.out _).trans (((cell_far (p := ⟨gb101, _, none⟩) NB109_101.out _).trans (((cell_far (p := ⟨gb101, _, none⟩) NB109_101.out _).trans (hHeld.2.1)))))), ((cell_far (p := ⟨gb101, _, none⟩) NB109_101.out _).trans (((cell_far (p := ⟨gb101, _, none⟩) NB109_101.out _).trans (((cell_far (p := ⟨gb101, _, none⟩) NB109_101.out _).trans (hHeld.2.2))))))⟩ (fun hHeld => ?_)
            clear hK K
            refine pure_ (i := 13) (N := some 3) (v := ?_) (a' := ?_) #[true, true, true, true, true, true, true, true, true, true, true, true, true, true] rfl rfl (any_of HT_.out (by kernel_rfl)) (fun _ _ _ h => h) (Or.inl ⟨by rfl, ?_⟩) ?_ ?_
            rotate_left
            · intro w'
              go_simp
              with_reducible rfl
            rotate_left
            · simp only [Act.put, List.setIfInBounds_toArray, List.set_cons_zero, List.set_cons_succ, i64_w, i32_w]
              rfl
            refine done_ (done_of HT_.out (by kernel_rfl)) ?_
            try go_wp2
            refine bodyPost_ret (results_ct rfl _ _ gb101 68 #[.int .i64 t102, .int .i64 t103, .slice Ao26 t104.length co26] (0, 0) _ rfl (by (with_reducible repeat (first | refine blk_drewN ?_ _ | refine blk_drew ?_ | refine blk_alloc ?_ _)); refine blk_put (cs := #[.int .i64 t102, .int .i64 t103, .slice none 0 0]) ?_ 2 _ rfl; (with_reducible repeat (first | refine blk_drewN ?_ _ | refine blk_drew ?_ | refine blk_alloc ?_ _)); refine blk_put (cs := #[.int .i64 t102, .int .i64 0, .slice none 0 0]) ?_ 1 _ rfl; (with_reducible repeat (first | refine blk_drewN ?_ _ | refine blk_drew ?_ | refine blk_alloc ?_ _)); refine blk_put (cs := #[.int .i64 0, .int .i64 0, .slice none 0 0]) ?_ 0 _ rfl; (with_reducible repeat (first | refine blk_drewN ?_ _ | refine blk_drew ?_ | refine blk_alloc ?_ _)); exact BK101.out) Try.underlying68 rfl (by kernel_rfl)) rfl ?_
            exact ⟨_, by first | rfl | (simp [errW_none, errW_some] <;> rfl) | (simp [*, errW_none, errW_some] <;> rfl), by (with_reducible repeat (first | apply Kd.R_alloc | apply Kd.R_drewN | apply Kd.R_drew)); exact Kd.R_mono (Kd.R_far (p := ⟨gb101, 2, none⟩) (Kd.R_far (p := ⟨gb101, 1, none⟩) (Kd.R_far (p := ⟨gb101, 0, none⟩) (Kd.R_mono HO106.out (fun k_ hk => (⟨hk, hk.1⟩ : _ ∧ k_ ≠ gb101))) (fun _ hk => hk.2) (.int .i64 t102)) (fun _ hk => hk.2) (.int .i64 t103)) (fun _ hk => hk.2) (.slice Ao26 t104.length co26)) (fun _ hk => trivial), by repeat (first | (with_reducible first | exact HB.out | apply below_alloc | apply pw_below_drewN | apply below_drew1 | refine below_set ?_ GE101.out | refine below_set ?_ GE109.out) | exact HB.out)⟩
        · replace c8 := Bool.eq_false_iff.mpr c8
          subst c8
          have H1 : (some (t102, t103, t104, false)) = some (r1, r2, r3, r4) := by rw [if_neg (show ¬ (false = true) by decide)] at H; exact H
          clear H
          have H := H1
          clear H1
          simp only [Option.some.injEq, Prod.mk.injEq] at H
          obtain ⟨rfl, rfl, rfl, rfl⟩ := H
          try go_wp2_with (first | ((with_reducible refine gate_callee (f := 65) rfl ?_); refine goesL_ (some 18) rfl rfl Try.func65 (by kernel_rfl) rfl #[.slice A0 l0.length c0, .int .i64 0, .int .i64 (-1)] rfl (by (try simp only [List.map_toArray, List.map_cons, List.map_nil]); first | done | rfl | (simp only [List.length_drop, List.length_take]; rfl)) ?_; (with_reducible refine (impl_termAt.calls kj1 _ _ l0 0 (-1) t102 t103 t104 t107 false _ ?side1 ?side2 A7.out).mono ?_); (case side1 => repeat (first | exact (Kd.C_below HR0.out HB.out) | (with_reducible refine Kd.C_alloc ?_ _) | (with_reducible refine Kd.C_drewN ?_ _) | (with_reducible refine Kd.C_drew ?_))); (case side2 => exact HC0.out); rintro e w32 ⟨v105, rfl, ho0, hb⟩; refine ⟨_, rfl, ?_⟩; have n0_ := Aside0.mk (Kd.R_lower (Kd.R_newB ho0 (g := gb101) (o := .cells #[.int .i64 0, .int .i64 0, .slice none 0 0] 68 (0, 0)) (by (with_reducible repeat (first | refine blk_drewN ?_ _ | refine blk_drew ?_ | refine blk_alloc ?_ _)); exact BK101.out)) (below_size (by repeat (first | (with_reducible first | exact HB.out | apply below_alloc | apply pw_below_drewN | apply below_drew1 | refine below_set ?_ GE101.out) | exact HB.out)))); have n1_ := Aside0.mk (blk_below (g := gb101) (o := .cells #[.int .i64 0, .int .i64 0, .slice none 0 0] 68 (0, 0)) (by (with_reducible repeat (first | refine blk_drewN ?_ _ | refine blk_drew ?_ | refine blk_alloc ?_ _)); exact BK101.out) hb); have n2_ := Aside0.mk (below_step (by repeat (first | (with_reducible first | exact HB.out | apply below_alloc | apply pw_below_drewN | apply below_drew1 | refine below_set ?_ GE101.out) | exact HB.out)) hb); clear BK101; clear HB; have HO106 := n0_; have BK101 := n1_; have HB := n2_; clear n0_ n1_ n2_; (try clear hb); (try clear hb2); (try clear hk); (try clear hi); (try clear ho0)) | ((with_reducible refine gate_dst (N := 4) rfl ?_); (try (refine gate_guard (by rfl) ?_; dsimp only)); refine box_event ?hg (N := 4) ?hd (cs := #[.int .i64 0, .int .i64 0, .slice none 0 0]) (t := 68) ?hr ?_; (case hd => rfl); (case hg => rfl); (case hr => first | (go_simp; done) | (go_simp; rfl)); intro gb109 hg w33 hbox hb; have n0_ := Aside0.mk (Kd.R_below (Kd.R_elderB (by (with_reducible repeat (first | apply Kd.R_alloc | apply Kd.R_drewN | apply Kd.R_drew)); exact HO106.out) gb109 (Nat.le_of_eq hg.symm)) hb); have n1_ := Aside0.mk (blk_below (g := gb101) (o := .cells #[.int .i64 0, .int .i64 0, .slice none 0 0] 68 (0, 0)) (by (with_reducible repeat (first | refine blk_drewN ?_ _ | refine blk_drew ?_ | refine blk_alloc ?_ _)); exact BK101.out) hb); have n2_ := Aside0.mk (below_step (by repeat (first | (with_reducible first | exact HB.out | apply below_alloc | apply pw_below_drewN | apply below_drew1 | refine below_set ?_ GE101.out) | exact HB.out)) hb); have n3_ := Aside0.mk (hbox); have n4_ := Aside0.mk ((by rw [hg]; exact (below_size (by repeat (first | (with_reducible first | exact HB.out | apply below_alloc | apply pw_below_drewN | apply below_drew1 | refine below_set ?_ GE101.out) | exact HB.out))) : w.heap.size ≤ gb109)); have n5_ := Aside0.mk ((by rw [hg]; exact (below_size (by repeat (first | (with_reducible first | exact HB.out | apply below_alloc | apply pw_below_drewN | apply below_drew1 | refine below_set ?_ GE101.out) | exact HB.out))) : w.heap.size ≤ gb109)); have n6_ := Aside0.mk ((by rw [hg]; exact Nat.ne_of_lt (blk_lt (g := gb101) (o := .cells #[.int .i64 0, .int .i64 0, .slice none 0 0] 68 (0, 0)) (by (with_reducible repeat (first | refine blk_drewN ?_ _ | refine blk_drew ?_ | refine blk_alloc ?_ _)); exact BK101.out)) : gb101 ≠ gb109)); have n7_ := Aside0.mk ((by rw [hg]; exact Nat.ne_of_gt (blk_lt (g := gb101) (o := .cells #[.int .i64 0, .int .i64 0, .slice none 0 0] 68 (0, 0)) (by (with_reducible repeat (first | refine blk_drewN ?_ _ | refine blk_drew ?_ | refine blk_alloc ?_ _)); exact BK101.out)) : gb109 ≠ gb101)); clear HO106; clear BK101; clear HB; have HO106 := n0_; have BK101 := n1_; have HB := n2_; have BK109 := n3_; have GW109 := n4_; have GE109 := n5_; have NB101_109 := n6_; have NB109_101 := n7_; clear n0_ n1_ n2_ n3_ n4_ n5_ n6_ n7_; clear hb hbox hg; have hnb34 := NB109_101.out; have hnc34 := NB101_109.out; have hcz35_0 : w33.cell? ⟨gb109, 0, none⟩ = some (.int .i64 0) := (blk_cell BK109.out 0).trans rfl; have hcz35_1 : w33.cell? ⟨gb109, 1, none⟩ = some (.int .i64 0) := (blk_cell BK109.out 1).trans rfl; have hcz35_2 : w33.cell? ⟨gb109, 2, none⟩ = some (.slice none 0 0) := (blk_cell BK109.out 2).trans rfl; have hfz35_0 := blk_frozen BK109.out 0; have hfz35_1 := blk_frozen BK109.out 1; have hfz35_2 := blk_frozen BK109.out 2; obtain ⟨Ao36, co36, eo36⟩ := Kd.R_slice HO106.out; subst eo36))
          have n0_ : Aside0 (Kd.R k68 68 (((w33.setCell ⟨gb109, 0, none⟩ (.int .i64 t102)).setCell ⟨gb109, 1, none⟩ (.int .i64 t103)).setCell ⟨gb109, 2, none⟩ (.slice Ao36 t104.length co36)) w.heap.size (fun k_ => k_ ≠ gb101 ∧ k_ ≠ gb109) (.slice Ao36 t104.length co36) t104) := ⟨by (with_reducible repeat (first | apply Kd.R_alloc | apply Kd.R_drewN | apply Kd.R_drew)); exact Kd.R_mono (Kd.R_far (p := ⟨gb109, 2, none⟩) (Kd.R_far (p := ⟨gb109, 1, none⟩) (Kd.R_far (p := ⟨gb109, 0, none⟩) (Kd.R_mono HO106.out (fun k_ hk => (⟨hk, hk.2⟩ : _ ∧ k_ ≠ gb109))) (fun _ hk => hk.2) (.int .i64 t102)) (fun _ hk => hk.2) (.int .i64 t103)) (fun _ hk => hk.2) (.slice Ao36 t104.length co36)) (fun _ hk => ⟨hk.1.1.2, hk.1.2⟩)⟩
          have n1_ : Aside0 ((((w33.setCell ⟨gb109, 0, none⟩ (.int .i64 t102)).setCell ⟨gb109, 1, none⟩ (.int .i64 t103)).setCell ⟨gb109, 2, none⟩ (.slice Ao36 t104.length co36)).heap[gb101]? = some (.cells #[.int .i64 0, .int .i64 0, .slice none 0 0] 68 (0, 0))) := ⟨by (with_reducible repeat (first | refine blk_drewN ?_ _ | refine blk_drew ?_ | refine blk_alloc ?_ _)); refine blk_far ?_ NB101_109.out _; (with_reducible repeat (first | refine blk_drewN ?_ _ | refine blk_drew ?_ | refine blk_alloc ?_ _)); refine blk_far ?_ NB101_109.out _; (with_reducible repeat (first | refine blk_drewN ?_ _ | refine blk_drew ?_ | refine blk_alloc ?_ _)); refine blk_far ?_ NB101_109.out _; (with_reducible repeat (first | refine blk_drewN ?_ _ | refine blk_drew ?_ | refine blk_alloc ?_ _)); exact BK101.out⟩
          have n2_ : Aside0 ((((w33.setCell ⟨gb109, 0, none⟩ (.int .i64 t102)).setCell ⟨gb109, 1, none⟩ (.int .i64 t103)).setCell ⟨gb109, 2, none⟩ (.slice Ao36 t104.length co36)).heap[gb109]? = some (.cells #[.int .i64 t102, .int .i64 t103, .slice Ao36 t104.length co36] 68 (0, 0))) := ⟨by (with_reducible repeat (first | refine blk_drewN ?_ _ | refine blk_drew ?_ | refine blk_alloc ?_ _)); refine blk_put (cs := #[.int .i64 t102, .int .i64 t103, .slice none 0 0]) ?_ 2 _ rfl; (with_reducible repeat (first | refine blk_drewN ?_ _ | refine blk_drew ?_ | refine blk_alloc ?_ _)); refine blk_put (cs := #[.int .i64 t102, .int .i64 0, .slice none 0 0]) ?_ 1 _ rfl; (with_reducible repeat (first | refine blk_drewN ?_ _ | refine blk_drew ?_ | refine blk_alloc ?_ _)); refine blk_put (cs := #[.int .i64 0, .int .i64 0, .slice none 0 0]) ?_ 0 _ rfl; (with_reducible repeat (first | refine blk_drewN ?_ _ | refine blk_drew ?_ | refine blk_alloc ?_ _)); exact BK109.out⟩
          have n3_ : Aside0 (Below w.heap.size w (((w33.setCell ⟨gb109, 0, none⟩ (.int .i64 t102)).setCell ⟨gb109, 1, none⟩ (.int .i64 t103)).setCell ⟨gb109, 2, none⟩ (.slice Ao36 t104.length co36))) := ⟨by repeat (first | (with_reducible first | exact HB.out | apply below_alloc | apply pw_below_drewN | apply below_drew1 | refine below_set ?_ GE101.out | refine below_set ?_ GE109.out) | exact HB.out)⟩
          (try clear HO106)
          (try clear BK101)
          (try clear BK109)
          (try clear HB)
          generalize (((w33.setCell ⟨gb109, 0, none⟩ (.int .i64 t102)).setCell ⟨gb109, 1, none⟩ (.int .i64 t103)).setCell ⟨gb109, 2, none⟩ (.slice Ao36 t104.length co36)) = w37 at n0_ n1_ n2_ n3_ ⊢
          have HO106 := n0_
          have BK101 := n1_
          have BK109 := n2_
          have HB := n3_
          clear n0_ n1_ n2_ n3_
          have n0_ := Aside0.mk (Kd.R_drew HO106.out)
          have n1_ := Aside0.mk (blk_drew BK101.out)
          have n2_ := Aside0.mk (blk_drew BK109.out)
          have n3_ := Aside0.mk (below_drew1 HB.out)
          clear HO106
          clear BK101
          clear BK109
          clear HB
          have HO106 := n0_
          have BK101 := n1_
          have BK109 := n2_
          have HB := n3_
          clear n0_ n1_ n2_ n3_
          refine start_ (n := 14) (S := fun w' => w'.cell? ⟨gb109, 0, none⟩ = some (.int .i64 t102) ∧ w'.cell? ⟨gb109, 1, none⟩ = some (.int .i64 t103) ∧ w'.cell? ⟨gb109, 2, none⟩ = some (.slice Ao36 t104.length co36)) (ds := []) #[false, false, false, false, false, false, false, false, false, false, false, false, false, false] (by kernel_rfl) rfl rfl ⟨(blk_cell BK109.out 0).trans rfl, (blk_cell BK109.out 1).trans rfl, (blk_cell BK109.out 2).trans rfl⟩ (fun hHeld => ?_); refine with_tabW impl_termOf.tab4 impl_termOf.bits4 (fun HT_ HW_ => ?_)
          generalize w37.drew = w38 at HO106 BK101 BK109 HB hHeld ⊢
          refine pure_ (i := 1) (N := some 23) (v := ?_) (a' := ?_) #[false, true, false, false, false, false, false, false, false, false, false, false, false, false] rfl rfl (any_of HT_.out (by kernel_rfl)) (fun _ _ _ h => h) (Or.inl ⟨by rfl, ?_⟩) ?_ ?_
          rotate_left
          · intro w'
            go_simp
            with_reducible rfl
          rotate_left
          · simp only [Act.put, List.setIfInBounds_toArray, List.set_cons_zero, List.set_cons_succ, i64_w, i32_w]
            rfl
          refine pure_ (i := 2) (N := some 24) (v := ?_) (a' := ?_) #[false, true, true, false, false, false, false, false, false, false, false, false, false, false] rfl rfl (any_of HT_.out (by kernel_rfl)) (fun _ _ _ h => h) (Or.inl ⟨by rfl, ?_⟩) ?_ ?_
          rotate_left
          · intro w'
            go_simp
            with_reducible rfl
          rotate_left
          · simp only [Act.put, List.setIfInBounds_toArray, List.set_cons_zero, List.set_cons_succ, i64_w, i32_w]
            rfl
          refine pure_ (i := 3) (N := some 25) (v := undef) (a' := ?_) #[false, true, true, true, false, false, false, false, false, false, false, false, false, false] rfl rfl (any_of HT_.out (by kernel_rfl)) (fun _ _ _ h => h) (Or.inr ⟨by rfl, rfl⟩) ?_ ?_
          rotate_left
          · simp only [Act.put, List.setIfInBounds_toArray, List.set_cons_zero, List.set_cons_succ, i64_w, i32_w]
            rfl
          refine pure_ (i := 4) (N := some 26) (v := undef) (a' := ?_) #[false, true, true, true, true, false, false, false, false, false, false, false, false, false] rfl rfl (any_of HT_.out (by kernel_rfl)) (fun _ _ _ h => h) (Or.inr ⟨by rfl, rfl⟩) ?_ ?_
          rotate_left
          · simp only [Act.put, List.setIfInBounds_toArray, List.set_cons_zero, List.set_cons_succ, i64_w, i32_w]
            rfl
          refine pure_ (i := 5) (N := some 27) (v := undef) (a' := ?_) #[false, true, true, true, true, true, false, false, false, false, false, false, false, false] rfl rfl (any_of HT_.out (by kernel_rfl)) (fun _ _ _ h => h) (Or.inr ⟨by rfl, rfl⟩) ?_ ?_
          rotate_left
          · simp only [Act.put, List.setIfInBounds_toArray, List.set_cons_zero, List.set_cons_succ, i64_w, i32_w]
            rfl
          refine pure_ (i := 6) (N := some 28) (v := undef) (a' := ?_) #[false, true, true, true, true, true, true, false, false, false, false, false, false, false] rfl rfl (any_of HT_.out (by kernel_rfl)) (fun _ _ _ h => h) (Or.inr ⟨by rfl, rfl⟩) ?_ ?_
          rotate_left
          · simp only [Act.put, List.setIfInBounds_toArray, List.set_cons_zero, List.set_cons_succ, i64_w, i32_w]
            rfl
          refine pure_ (i := 7) (N := some 29) (v := ?_) (a' := ?_) #[false, true, true, true, true, true, true, true, false, false, false, false, false, false] rfl rfl (any_of HT_.out (by kernel_rfl)) (fun _ _ _ h => h) (Or.inl ⟨by rfl, ?_⟩) ?_ ?_
          rotate_left
          · intro w'
            go_simp
            with_reducible rfl
          rotate_left
          · simp only [Act.put, List.setIfInBounds_toArray, List.set_cons_zero, List.set_cons_succ, i64_w, i32_w]
            rfl
          refine pure_ (i := 8) (N := some 30) (v := ?_) (a' := ?_) #[false, true, true, true, true, true, true, true, true, false, false, false, false, false] rfl rfl (any_of HT_.out (by kernel_rfl)) (fun _ _ _ h => h) (Or.inl ⟨by rfl, ?_⟩) ?_ ?_
          rotate_left
          · intro w'
            go_simp
            with_reducible rfl
          rotate_left
          · simp only [Act.put, List.setIfInBounds_toArray, List.set_cons_zero, List.set_cons_succ, i64_w, i32_w]
            rfl
          refine pure_ (i := 9) (N := some 31) (v := undef) (a' := ?_) #[false, true, true, true, true, true, true, true, true, true, false, false, false, false] rfl rfl (any_of HT_.out (by kernel_rfl)) (fun _ _ _ h => h) (Or.inr ⟨by rfl, rfl⟩) ?_ ?_
          rotate_left
          · simp only [Act.put, List.setIfInBounds_toArray, List.set_cons_zero, List.set_cons_succ, i64_w, i32_w]
            rfl
          refine pure_ (i := 10) (N := some 32) (v := undef) (a' := ?_) #[false, true, true, true, true, true, true, true, true, true, true, false, false, false] rfl rfl (any_of HT_.out (by kernel_rfl)) (fun _ _ _ h => h) (Or.inr ⟨by rfl, rfl⟩) ?_ ?_
          rotate_left
          · simp only [Act.put, List.setIfInBounds_toArray, List.set_cons_zero, List.set_cons_succ, i64_w, i32_w]
            rfl
          refine pure_ (i := 11) (N := some 33) (v := ?_) (a' := ?_) #[false, true, true, true, true, true, true, true, true, true, true, true, false, false] rfl rfl (any_of HT_.out (by kernel_rfl)) (fun _ _ _ h => h) (Or.inl ⟨by rfl, ?_⟩) ?_ ?_
          rotate_left
          · intro w'
            go_simp
            with_reducible rfl
          rotate_left
          · simp only [Act.put, List.setIfInBounds_toArray, List.set_cons_zero, List.set_cons_succ, i64_w, i32_w]
            rfl
          refine take_ (i := 0) (N := some 22) (v := ?_) (a' := ?_) #[true, true, true, true, true, true, true, true, true, true, true, true, false, false] rfl rfl (take_ofW HT_.out HW_.out (by kernel_rfl)) (fun _ _ _ h => h) (Or.inl ⟨by rfl, ?_⟩) hHeld ?_ ?_
          rotate_left
          · rintro w' ⟨s0, s1, s2⟩
            go_simp
            with_reducible rfl
          rotate_left
          · simp only [Act.put, List.setIfInBounds_toArray, List.set_cons_zero, List.set_cons_succ, i64_w, i32_w]
            rfl
          refine one_ (i := 12) (N := none) #[true, true, true, true, true, true, true, true, true, true, true, true, true, false] rfl rfl (one_of HT_.out (by kernel_rfl)) (by decide) (fun K hK => ?_)
          have hs39 : w38.cell? ⟨gb101, 0, none⟩ = some (.int .i64 0) := (blk_cell BK101.out 0).trans rfl
          have hfs39 := blk_frozen BK101.out 0
          have hns39_1 := NB109_101.out
          have hms39_1 := NB101_109.out
          have hs40 : w38.cell? ⟨gb101, 1, none⟩ = some (.int .i64 0) := (blk_cell BK101.out 1).trans rfl
          have hfs40 := blk_frozen BK101.out 1
          have hns40_1 := NB109_101.out
          have hms40_1 := NB101_109.out
          have hs41 : w38.cell? ⟨gb101, 2, none⟩ = some (.slice none 0 0) := (blk_cell BK101.out 2).trans rfl
          have hfs41 := blk_frozen BK101.out 2
          have hns41_1 := NB109_101.out
          have hms41_1 := NB101_109.out
          refine skip_ (w1 := ?_) (by rfl) rfl ?_ ?_
          rotate_left
          · go_simp
            rfl
          refine hK.out _ _ ⟨((cell_far (p := ⟨gb101, _, none⟩) NB109_101.out _).trans (((cell_far (p := ⟨gb101, _, none⟩) NB109_101.out _).trans (((cell_far (p := ⟨gb101, _, none⟩) NB109_101.out _).trans (hHeld.1)))))), ((cell_far (p := ⟨gb101, _, none⟩) NB109_101.out _).trans (((cell_far (p := ⟨gb101, _, none⟩) NB109_101.out _).trans (((cell_far (p := ⟨gb101, _, none⟩) NB109_101.out _).trans (hHeld.2.1)))))), ((cell_far (p := ⟨gb101, _, none⟩) NB109_101.out _).trans (((cell_far (p := ⟨gb101, _, none⟩) NB109_101.out _).trans (((cell_far (p := ⟨gb101, _, none⟩) NB109_101.out _).trans (hHeld.2.2))))))⟩ (fun hHeld => ?_)
          clear hK K
          refine pure_ (i := 13) (N := some 3) (v := ?_) (a' := ?_) #[true, true, true, true, true, true, true, true, true, true, true, true, true, true] rfl rfl (any_of HT_.out (by kernel_rfl)) (fun _ _ _ h => h) (Or.inl ⟨by rfl, ?_⟩) ?_ ?_
          rotate_left
          · intro w'
            go_simp
            with_reducible rfl
          rotate_left
          · simp only [Act.put, List.setIfInBounds_toArray, List.set_cons_zero, List.set_cons_succ, i64_w, i32_w]
            rfl
          refine done_ (done_of HT_.out (by kernel_rfl)) ?_
          try go_wp2
          refine bodyPost_ret (results_ct rfl _ _ gb101 68 #[.int .i64 t102, .int .i64 t103, .slice Ao36 t104.length co36] (0, 0) _ rfl (by (with_reducible repeat (first | refine blk_drewN ?_ _ | refine blk_drew ?_ | refine blk_alloc ?_ _)); refine blk_put (cs := #[.int .i64 t102, .int .i64 t103, .slice none 0 0]) ?_ 2 _ rfl; (with_reducible repeat (first | refine blk_drewN ?_ _ | refine blk_drew ?_ | refine blk_alloc ?_ _)); refine blk_put (cs := #[.int .i64 t102, .int .i64 0, .slice none 0 0]) ?_ 1 _ rfl; (with_reducible repeat (first | refine blk_drewN ?_ _ | refine blk_drew ?_ | refine blk_alloc ?_ _)); refine blk_put (cs := #[.int .i64 0, .int .i64 0, .slice none 0 0]) ?_ 0 _ rfl; (with_reducible repeat (first | refine blk_drewN ?_ _ | refine blk_drew ?_ | refine blk_alloc ?_ _)); exact BK101.out) Try.underlying68 rfl (by kernel_rfl)) rfl ?_
          exact ⟨_, by first | rfl | (simp [errW_none, errW_some] <;> rfl) | (simp [*, errW_none, errW_some] <;> rfl), by (with_reducible repeat (first | apply Kd.R_alloc | apply Kd.R_drewN | apply Kd.R_drew)); exact Kd.R_mono (Kd.R_far (p := ⟨gb101, 2, none⟩) (Kd.R_far (p := ⟨gb101, 1, none⟩) (Kd.R_far (p := ⟨gb101, 0, none⟩) (Kd.R_mono HO106.out (fun k_ hk => (⟨hk, hk.1⟩ : _ ∧ k_ ≠ gb101))) (fun _ hk => hk.2) (.int .i64 t102)) (fun _ hk => hk.2) (.int .i64 t103)) (fun _ hk => hk.2) (.slice Ao36 t104.length co36)) (fun _ hk => trivial), by repeat (first | (with_reducible first | exact HB.out | apply below_alloc | apply pw_below_drewN | apply below_drew1 | refine below_set ?_ GE101.out | refine below_set ?_ GE109.out) | exact HB.out)⟩

end Go.Proofs.Ytcjhhdecckcibaa.G

namespace Go.Proofs.Ytcjhhdecckcibaa.G
open Go.RowKit Go.Proofs.YtcjhhdecckcibaaW.PrintWords Go.Proofs.YtcjhhdecckcibaaW.PrintLast Go.Proofs.YtcjhhdecckcibaaW.PrintMore
attribute [local go_sem] max2_int min2_int max_two min_two max_three min_three max_four min_four   -- for this text's walks alone
set_option linter.unusedVariables false
set_option linter.unusedSimpArgs false

namespace Free68
mutual
def frT : S68 → Int → List Int → List Int
  | ⟨k, n, ks⟩, ar, l => frL ks (if k = 2 then wrap64 (ar + 1) else ar) (if k = 1 ∧ ar ≤ n then l ++ [wrap64 (n - ar)] else l)
def frL : List S68 → Int → List Int → List Int
  | [], _, l => l
  | x :: xs, ar, l => frL xs ar (frT x ar l)
end
mutual
def szT : S68 → Nat
  | ⟨_, _, ks⟩ => 1 + szL ks
def szL : List S68 → Nat
  | [] => 0
  | x :: xs => szT x + szL xs
end
theorem frT_eq (x : S68) (ar : Int) (l : List Int) : frT x ar l = frL x.f2 (if x.f0 = 2 then wrap64 (ar + 1) else ar) (if x.f0 = 1 ∧ ar ≤ x.f1 then l ++ [wrap64 (x.f1 - ar)] else l) := by cases x; rw [frT]
theorem szT_eq (x : S68) : szT x = 1 + szL x.f2 := by cases x; rw [szT]
theorem frL_cons (x : S68) (xs : List S68) (ar : Int) (l : List Int) : frL (x :: xs) ar l = frL xs ar (frT x ar l) := by rw [frL]
theorem frL_nil (ar : Int) (l : List Int) : frL [] ar l = l := by rw [frL]
theorem szL_cons (x : S68) (xs : List S68) : szL (x :: xs) = szT x + szL xs := by rw [szL]
theorem rd_drop (l : List S68) (i : Nat) (h : i < l.length) : l.drop i = rd_T68 l (i : Int) :: l.drop (i + 1) := by
  rw [List.drop_eq_getElem_cons h]
  congr 1
  unfold rd_T68
  rw [Int.toNat_natCast, List.getD_eq_getElem?_getD, List.getElem?_eq_getElem h]; rfl
theorem rd_mem (l : List S68) (i : Int) (h0 : 0 ≤ i) (h1 : i < l.length) : rd_T68 l i ∈ l := by
  have hlt : i.toNat < l.length := by omega
  have e : rd_T68 l i = l[i.toNat] := by unfold rd_T68; rw [List.getD_eq_getElem?_getD, List.getElem?_eq_getElem hlt]; rfl
  rw [e]; exact List.getElem_mem hlt
theorem len_of : ∀ (N : Nat), (∀ (x : S68) (ar : Int) (l : List Int), SizeOf.sizeOf x ≤ N → (frT x ar l).length ≤ l.length + szT x) ∧ (∀ (xs : List S68) (ar : Int) (l : List Int), SizeOf.sizeOf xs ≤ N → (frL xs ar l).length ≤ l.length + szL xs) := by
  intro N
  induction N with
  | zero =>
    refine ⟨fun x ar l h => ?_, fun xs ar l h => ?_⟩
    · cases x; simp at h
    · cases xs <;> simp at h
  | succ N ih =>
    refine ⟨fun x ar l h => ?_, fun xs ar l h => ?_⟩
    · cases x with
      | mk k n ks =>
        rw [frT, szT]
        have h1 := ih.2 ks (if k = 2 then wrap64 (ar + 1) else ar) (if k = 1 ∧ ar ≤ n then l ++ [wrap64 (n - ar)] else l) (by simp at h; omega)
        have h2 : (if k = 1 ∧ ar ≤ n then l ++ [wrap64 (n - ar)] else l).length ≤ l.length + 1 := by split <;> simp
        omega
    · cases xs with
      | nil => rw [frL, szL]; exact Nat.le_refl _
      | cons x xs =>
        have h1 : SizeOf.sizeOf x ≤ N := by simp at h; omega
        have h2 : SizeOf.sizeOf xs ≤ N := by simp at h; omega
        rw [frL, szL]
        have := ih.2 xs ar (frT x ar l) h2
        have := ih.1 x ar l h1
        omega
theorem frT_len (x : S68) (ar : Int) (l : List Int) : (frT x ar l).length ≤ l.length + szT x := (len_of _).1 x ar l (Nat.le_refl _)

set_option maxHeartbeats 4000000 in
set_option maxRecDepth 100000 in
theorem put_one (w0 : World) (go : Nat) (hgo : w0.heap.size ≤ go) (x : Int) (l : List Int) (A0 : Option Addr) (c0 : Nat) (w : World) (hl : l.length ≤ 200000) (hO : Kd.R (Kd.int .i64) 3 w w0.heap.size (fun _ => True) (.slice A0 l.length c0) l) (hB : Below w0.heap.size w0 w) (hbo : w.heap[go]? = some (.cells #[.slice A0 l.length c0] 36 (0, 0))) :
    Calls Try.prog 84 #[.int .i64 x, .pointer (some ⟨go, 0, none⟩)] w fun e w' => ∃ A1 n1 c1, e = .returned (.tuple #[]) ∧ w'.heap[go]? = some (.cells #[.slice A1 n1 c1] 36 (0, 0)) ∧ Kd.R (Kd.int .i64) 3 w' w0.heap.size (fun _ => True) (.slice A1 n1 c1) (l ++ [x]) ∧ Below w0.heap.size w0 w' ∧ (∀ (k : Nat) (o : Obj), w.heap[k]? = some o → k ≠ go → some k ≠ (.slice A0 l.length c0 : Value).ownBlock → w'.heap[k]? = w.heap[k]?) := by
  have hu36 := Try.underlying36
  have HL := Aside0.mk hl
  have HO := Aside0.mk hO
  have HB := Aside0.mk hB
  have BO := Aside0.mk hbo
  have GO := Aside0.mk hgo
  clear hl hO hB hbo hgo
  have hczo_0 : w.cell? ⟨go, 0, none⟩ = some (.slice A0 l.length c0) := (blk_cell BO.out 0).trans rfl
  have hfzo_0 := blk_frozen BO.out 0
  go_enter Try.func84, Try.ntmps84
  go_wp2_with (first | ((with_reducible refine gate_builtin (b := .append) (xs := #[.tmp 3, .tmp 5]) rfl ?_); at_builtin; refine Kd.R_append (Kd.int .i64) (w0 := w0) w0.heap.size rfl (.tmp 3) (.tmp 5) 36 3 (.int .i64 0) 8 rfl Try.underlying36 info3 rfl (by decide) (by omega) (.slice A0 l.length c0) l x [.int .i64 x] (fun _ => True) (fun _ => False) rfl (by first | (go_simp; done) | (go_simp; rfl)) ?aP (fun _ hk => hk.elim) ?aF ?aO ?aB ?aS ?aL ?_; (case aP => exact rfl); (case aB => exact HB.out); (case aF => exact (fun _ _ => trivial)); (case aO => exact HO.out); (case aS => exact (below_size HB.out)); (case aL => have := HL.out; omega); intro v1 w7 ho hb hg hat; have KG := Aside0.mk hg; obtain ⟨A3, c3, hv3⟩ := Kd.R_slice ho; obtain ⟨n3, hn3⟩ : ∃ n3, n3 = (l ++ [x]).length := ⟨_, rfl⟩; rw [← hn3] at hv3; subst hv3; clear hn3; have m0_ := Aside0.mk (hb); have m1_ := Aside0.mk ((hg.block go (blk_lt BO.out) (Kd.R_ne HO.out BO.out (by decide))).trans BO.out); have m2_ := Aside0.mk (ho); clear HB BO HO hczo_0 hfzo_0; have HB := m0_; have BO := m1_; have HO := m2_; clear m0_ m1_ m2_; clear ho hb hg hat; have hczp_0 : w7.cell? ⟨go, 0, none⟩ = some (.slice A0 l.length c0) := (blk_cell BO.out 0).trans rfl; have hfzp_0 := blk_frozen BO.out 0))
  go_end0
  exact ⟨A3, n3, c3, rfl, by refine blk_put (cs := #[.slice A0 l.length c0]) ?_ 0 _ rfl; exact BO.out, Kd.R_mono (Kd.R_far (p := ⟨go, 0, none⟩) (Kd.R_types HO.out BO.out (by decide)) (fun _ hk => hk.2) (.slice A3 n3 c3)) (fun _ hk => hk.1), below_set HB.out GO.out, fun k o hk hne hno => by
    have hlt : k < w.heap.size := blk_lt hk
    rw [Below.heap_setCell _ ⟨go, 0, none⟩ _ k hne]
    exact KG.out.block k hlt hno⟩

set_option maxHeartbeats 8000000 in
set_option maxRecDepth 100000 in
theorem node_some (w0 : World) (go : Nat) (hgo : w0.heap.size ≤ go) (a0 a1 ar : Int) (ks : List S68) (A : Option Addr) (c : Nat) (l : List Int) (A0 : Option Addr) (c0 : Nat) (w : World) (hC : Kd.C k68 w0 A ks.length ks) (hc : ks.length ≤ c) (hl : l.length + (1 + szL ks) ≤ 200000)
    (hO : Kd.R (Kd.int .i64) 3 w w0.heap.size (fun _ => True) (.slice A0 l.length c0) l) (hB : Below w0.heap.size w0 w) (hbo : w.heap[go]? = some (.cells #[.slice A0 l.length c0] 36 (0, 0)))
    (ih : ∀ (j : Nat) (A : Option Addr) (c : Nat) (ar : Int) (acc : List Int) (v : Value) (w : World), j < ks.length → (rd_T68 ks (j : Int)).f2.length ≤ c → acc.length + szT (rd_T68 ks (j : Int)) ≤ 200000 → Kd.R (Kd.int .i64) 3 w w0.heap.size (fun _ => True) v acc → Below w0.heap.size w0 w → w.heap[go]? = some (.cells #[v] 36 (0, 0)) → Kd.C k68 w0 A (rd_T68 ks (j : Int)).f2.length (rd_T68 ks (j : Int)).f2 →
      Calls Try.prog 83 #[.agg #[.int .i64 (rd_T68 ks (j : Int)).f0, .int .i64 (rd_T68 ks (j : Int)).f1, .slice A (rd_T68 ks (j : Int)).f2.length c], .int .i64 ar, .func (.func 84) #[] #[.pointer (some ⟨go, 0, none⟩)]] w fun e w' => ∃ A1 n1 c1, e = .returned (.tuple #[]) ∧ w'.heap[go]? = some (.cells #[.slice A1 n1 c1] 36 (0, 0)) ∧ Kd.R (Kd.int .i64) 3 w' w0.heap.size (fun _ => True) (.slice A1 n1 c1) (frT (rd_T68 ks (j : Int)) ar acc) ∧ Below w0.heap.size w0 w') :
    Calls Try.prog 83 #[.agg #[.int .i64 a0, .int .i64 a1, .slice A ks.length c], .int .i64 ar, .func (.func 84) #[] #[.pointer (some ⟨go, 0, none⟩)]] w fun e w' => ∃ A1 n1 c1, e = .returned (.tuple #[]) ∧ w'.heap[go]? = some (.cells #[.slice A1 n1 c1] 36 (0, 0)) ∧ Kd.R (Kd.int .i64) 3 w' w0.heap.size (fun _ => True) (.slice A1 n1 c1) (frL ks (if a0 = 2 then wrap64 (ar + 1) else ar) (if a0 = 1 ∧ ar ≤ a1 then l ++ [wrap64 (a1 - ar)] else l)) ∧ Below w0.heap.size w0 w' := by
  have hu68 := Try.underlying68
  have hu36 := Try.underlying36
  have e83 := enters_ Try.func83 (by kernel_rfl) rfl
  have e84 := enters_ Try.func84 (by kernel_rfl) rfl
  have HM := Aside0.mk hC.2.1
  have HC0 := Aside0.mk hC
  have HL := Aside0.mk (show l.length ≤ 200000 by omega)
  have HZ := Aside0.mk hl
  have HO := Aside0.mk hO
  have HB := Aside0.mk hB
  have BO := Aside0.mk hbo
  have GO := Aside0.mk hgo
  have IH := Aside0.mk ih
  clear hC hl hO hB ih hbo hgo
  have NG : Aside0 (∀ {gb : Nat} {v : Value} {W : World}, W.heap[gb]? = some (.cells #[.int .i64 a0, .int .i64 a1, .slice A ks.length c] 68 (0, 0)) → W.heap[go]? = some (.cells #[v] 36 (0, 0)) → gb ≠ go) := ⟨fun h1 h2 e => by subst e; rw [h1] at h2; simp at h2⟩
  by_cases ca : a0 = 1
  · have k1b : (a0 == 1) = true := beq_iff_eq.mpr ca
    have k2b : (a0 == 2) = false := beq_eq_false_iff_ne.mpr (by omega)
    have en : (if a0 = 2 then wrap64 (ar + 1) else ar) = ar := if_neg (by omega)
    rw [en]
    clear en
    by_cases cg : ar ≤ a1
    · have cgb : decide (ar ≤ a1) = true := decide_eq_true cg
      have en : (if a0 = 1 ∧ ar ≤ a1 then l ++ [wrap64 (a1 - ar)] else l) = l ++ [wrap64 (a1 - ar)] := if_pos ⟨ca, cg⟩
      rw [en]
      clear en cg ca
      go_enter Try.func83, Try.ntmps83
      go_wp2_with (first | ((with_reducible refine gate_dst (N := 3) rfl ?_); refine box_event ?hg (N := 3) ?hd (cs := #[.int .i64 a0, .int .i64 a1, .slice A ks.length c]) (t := 68) ?hr ?_; (case hd => rfl); (case hg => rfl); (case hr => first | (go_simp; done) | (go_simp; rfl)); intro gb hg w5 hbox hb; have m0_ := Aside0.mk (below_step HB.out hb); have m1_ := Aside0.mk (hbox); have m2_ := Aside0.mk (Kd.R_below HO.out hb); have m3_ := Aside0.mk (blk_below (g := go) (o := .cells #[.slice A0 l.length c0] 36 (0, 0)) BO.out hb); have m4_ := Aside0.mk ((by rw [hg]; exact below_size HB.out : w0.heap.size ≤ gb)); clear HB HO BO; have HB := m0_; have BK := m1_; have HO := m2_; have BO := m3_; have GEB := m4_; clear m0_ m1_ m2_ m3_ m4_; clear hb hbox hg; have hcz_0 : w5.cell? ⟨gb, 0, none⟩ = some (.int .i64 a0) := (blk_cell BK.out 0).trans rfl; have hcz_1 : w5.cell? ⟨gb, 1, none⟩ = some (.int .i64 a1) := (blk_cell BK.out 1).trans rfl; have hcz_2 : w5.cell? ⟨gb, 2, none⟩ = some (.slice A ks.length c) := (blk_cell BK.out 2).trans rfl; have hfz_0 := blk_frozen BK.out 0; have hfz_1 := blk_frozen BK.out 1; have hfz_2 := blk_frozen BK.out 2))
      refine (put_one w0 go GO.out (wrap64 (a1 - ar)) l A0 c0 _ HL.out HO.out HB.out BO.out).mono ?_
      rintro e w7 ⟨A4, n4, c4, rfl, bo2, ho2, hb2, hkp⟩
      have BKn := Aside0.mk ((hkp gb _ BK.out (NG.out BK.out BO.out) (Kd.R_ne HO.out BK.out (by decide))).trans BK.out)
      clear hkp BK HO HB BO hcz_0 hcz_1 hcz_2 hfz_0 hfz_1 hfz_2
      have BK := BKn
      clear BKn
      have HO := Aside0.mk ho2
      have HB := Aside0.mk hb2
      have BO := Aside0.mk bo2
      clear ho2 hb2 bo2
      have hcza_0 : w7.cell? ⟨gb, 0, none⟩ = some (.int .i64 a0) := (blk_cell BK.out 0).trans rfl
      have hcza_1 : w7.cell? ⟨gb, 1, none⟩ = some (.int .i64 a1) := (blk_cell BK.out 1).trans rfl
      have hcza_2 : w7.cell? ⟨gb, 2, none⟩ = some (.slice A ks.length c) := (blk_cell BK.out 2).trans rfl
      have hfza_0 := blk_frozen BK.out 0
      have hfza_1 := blk_frozen BK.out 1
      have hfza_2 := blk_frozen BK.out 2
      go_wp2
      go_loopg [31] (ks.length + 1) (fun kq v31 w' => ∃ (i : Int) (acc : List Int) (A1 : Option Addr) (n1 c1 : Nat), v31 = .int .i64 i ∧ Aside0 (Kd.R (Kd.int .i64) 3 w' w0.heap.size (fun _ => True) (.slice A1 n1 c1) acc) ∧ Aside0 (0 ≤ i ∧ i ≤ ks.length ∧ (kq : Int) = ks.length - i + 1) ∧ Aside0 (acc.length + szL (ks.drop i.toNat) ≤ 200000 ∧ frL (ks.drop i.toNat) ar acc = frL ks ar (l ++ [wrap64 (a1 - ar)])) ∧ Aside0 (Below w0.heap.size w0 w') ∧ Aside0 (w'.heap[go]? = some (.cells #[.slice A1 n1 c1] 36 (0, 0))))
      case atStart => exact ⟨0, (l ++ [wrap64 (a1 - ar)]), _, _, _, rfl, HO, ⟨by omega, by omega, by omega⟩, ⟨by have := HZ.out; rw [show (0 : Int).toNat = 0 from rfl, List.drop_zero]; (try rw [List.length_append, List.length_singleton]); omega, by rw [show (0 : Int).toNat = 0 from rfl, List.drop_zero]⟩, HB, BO⟩
      case round =>
        clear HO HB BO BK
        obtain ⟨i, acc, A1, n1, c1, rfl, HO, HA, HF, HB, BO⟩ := hrel
        by_cases c2 : i < (ks.length : Int)
        · have cb : decide (i < (ks.length : Int)) = true := decide_eq_true c2
          have cz : decide (0 ≤ i) = true := decide_eq_true HA.out.1
          obtain ⟨j, rfl⟩ : ∃ j : Nat, i = (j : Int) := ⟨i.toNat, by have := HA.out.1; omega⟩
          obtain ⟨ad, A2, c2_, e1, hx0, hx1, hx2, hl2, hi2⟩ := at_T68 (HC0.out) (j : Int) HA.out.1 c2
          cases e1
          simp only [Int.toNat_natCast] at hx0 hx1 hx2
          have HC2 := Aside0.mk hl2
          have HR2 := Aside0.mk hi2
          clear hl2 hi2
          replace hx0 := (HB.out.cell (World.block_lt_of_cell? w0 _ hx0)).trans hx0
          replace hx1 := (HB.out.cell (World.block_lt_of_cell? w0 _ hx1)).trans hx1
          replace hx2 := (HB.out.cell (World.block_lt_of_cell? w0 _ hx2)).trans hx2
          have w1 : wrap64 ((j : Int) + 1) = (j : Int) + 1 := by have := HM.out; unfold wrap64; omega
          have W1 := Aside0.mk w1
          have PI := Aside0.mk (show j < ks.length by omega)
          have p1 := eq_true HA.out.1
          have q1 := eq_true c2
          clear c2 w1
          have e9 : frL (ks.drop j) ar acc = frL (ks.drop (j + 1)) ar (frT (rd_T68 ks (j : Int)) ar acc) := by rw [rd_drop ks j PI.out, frL_cons]
          have E9 := Aside0.mk e9
          have e8 : szL (ks.drop j) = szT (rd_T68 ks (j : Int)) + szL (ks.drop (j + 1)) := by rw [rd_drop ks j PI.out, szL_cons]
          have E8 := Aside0.mk e8
          have CL : Aside0 (acc.length + szT (rd_T68 ks (j : Int)) ≤ 200000) := ⟨by have h := HF.out.1; rw [show ((j : Int)).toNat = j by omega, e8] at h; omega⟩
          clear e9 e8
          obtain ⟨k1, rfl⟩ : ∃ m, gk = m + 1 := ⟨gk - 1, by have := HA.out; have := PI.out; omega⟩
          go_wp2_with ((with_reducible refine gate_dst (N := 7) rfl ?_); refine box_event ?hg (N := 7) ?hd (cs := #[.int .i64 0, .int .i64 0, .slice none 0 0]) (t := 68) ?hr ?_; (case hd => rfl); (case hg => rfl); (case hr => first | (go_simp; done) | (go_simp; rfl)); intro g2 hg w9 hbox hb; have hy0 := (hb.cell (World.block_lt_of_cell? _ _ hx0)).trans hx0; have hy1 := (hb.cell (World.block_lt_of_cell? _ _ hx1)).trans hx1; have hy2 := (hb.cell (World.block_lt_of_cell? _ _ hx2)).trans hx2; clear hx0 hx1 hx2; have hx0 := hy0; have hx1 := hy1; have hx2 := hy2; clear hy0 hy1 hy2; have m0_ := Aside0.mk (below_step HB.out hb); have m1_ := Aside0.mk (hbox); have m2_ := Aside0.mk (Kd.R_below HO.out hb); have m3_ := Aside0.mk (blk_below (g := go) (o := .cells #[.slice A1 n1 c1] 36 (0, 0)) BO.out hb); have m4_ := Aside0.mk ((by rw [hg]; exact below_size HB.out : w0.heap.size ≤ g2)); have m5_ := Aside0.mk ((by rw [hg]; exact Nat.ne_of_lt (blk_lt BO.out) : go ≠ g2)); clear HB HO BO; have HB := m0_; have BK2 := m1_; have HO := m2_; have BO := m3_; have GE2 := m4_; have N2O := m5_; clear m0_ m1_ m2_ m3_ m4_ m5_; clear hb hbox hg; have hn1_ := N2O.out; have hczb_0 : w9.cell? ⟨g2, 0, none⟩ = some (.int .i64 0) := (blk_cell BK2.out 0).trans rfl; have hczb_1 : w9.cell? ⟨g2, 1, none⟩ = some (.int .i64 0) := (blk_cell BK2.out 1).trans rfl; have hczb_2 : w9.cell? ⟨g2, 2, none⟩ = some (.slice none 0 0) := (blk_cell BK2.out 2).trans rfl; have hfzb_0 := blk_frozen BK2.out 0; have hfzb_1 := blk_frozen BK2.out 1; have hfzb_2 := blk_frozen BK2.out 2; have hczq_0 : w9.cell? ⟨go, 0, none⟩ = some (.slice A1 n1 c1) := (blk_cell BO.out 0).trans rfl; have hfzq_0 := blk_frozen BO.out 0)
          refine (IH.out j A2 c2_ ar acc (.slice A1 n1 c1) _ PI.out HC2.out (by have := CL.out; omega) (Kd.R_mono (Kd.R_far (p := ⟨g2, 2, none⟩) (Kd.R_far (p := ⟨g2, 1, none⟩) (Kd.R_far (p := ⟨g2, 0, none⟩) (Kd.R_types HO.out BK2.out (by decide)) (fun _ hk => hk.2) (.int .i64 (rd_T68 ks (j : Int)).f0)) (fun _ hk => hk.2) (.int .i64 (rd_T68 ks (j : Int)).f1)) (fun _ hk => hk.2) (.slice A2 (rd_T68 ks (j : Int)).f2.length c2_)) (fun _ hk => hk.1)) (below_set (below_set (below_set HB.out GE2.out) GE2.out) GE2.out) (by refine blk_far ?_ N2O.out _; refine blk_far ?_ N2O.out _; refine blk_far ?_ N2O.out _; exact BO.out) HR2.out).mono ?_
          rintro e w' ⟨A3, n3, c3, rfl, bo2, ho2, hb2⟩
          have HO2 := Aside0.mk ho2
          have HB2 := Aside0.mk hb2
          have BO2 := Aside0.mk bo2
          clear HB HO BK2 BO ho2 hb2 bo2
          go_wp2
          go_roundg k1
          case measure => omega
          case rel => exact ⟨(j : Int) + 1, _, A3, n3, c3, by first | rfl | rw [W1.out], HO2, ⟨by have := HA.out; omega, by have := PI.out; omega, by have := HA.out; omega⟩, ⟨by have h := HF.out.1; rw [show ((j : Int)).toNat = j by omega, E8.out] at h; have := frT_len (rd_T68 ks (j : Int)) ar acc; rw [show ((j : Int) + 1).toNat = j + 1 by omega]; omega, by rw [← HF.out.2, show ((j : Int) + 1).toNat = j + 1 by omega, show ((j : Int)).toNat = j by omega, E9.out]⟩, HB2, BO2⟩
        · have cb : decide (i < (ks.length : Int)) = false := decide_eq_false c2
          have hi : i.toNat = ks.length := by have := HA.out; omega
          have e := HF.out.2
          rw [hi, List.drop_length, frL_nil] at e
          have E := Aside0.mk e
          clear c2 hi e
          go_wp2
          go_end0
          exact ⟨A1, n1, c1, rfl, BO.out, by rw [← E.out]; exact HO.out, HB.out⟩
    · have cgb : decide (ar ≤ a1) = false := decide_eq_false cg
      have en : (if a0 = 1 ∧ ar ≤ a1 then l ++ [wrap64 (a1 - ar)] else l) = l := if_neg (fun h => cg h.2)
      rw [en]
      clear en cg ca
      go_enter Try.func83, Try.ntmps83
      go_wp2_with (first | ((with_reducible refine gate_dst (N := 3) rfl ?_); refine box_event ?hg (N := 3) ?hd (cs := #[.int .i64 a0, .int .i64 a1, .slice A ks.length c]) (t := 68) ?hr ?_; (case hd => rfl); (case hg => rfl); (case hr => first | (go_simp; done) | (go_simp; rfl)); intro gb hg w5 hbox hb; have m0_ := Aside0.mk (below_step HB.out hb); have m1_ := Aside0.mk (hbox); have m2_ := Aside0.mk (Kd.R_below HO.out hb); have m3_ := Aside0.mk (blk_below (g := go) (o := .cells #[.slice A0 l.length c0] 36 (0, 0)) BO.out hb); have m4_ := Aside0.mk ((by rw [hg]; exact below_size HB.out : w0.heap.size ≤ gb)); clear HB HO BO; have HB := m0_; have BK := m1_; have HO := m2_; have BO := m3_; have GEB := m4_; clear m0_ m1_ m2_ m3_ m4_; clear hb hbox hg; have hcz_0 : w5.cell? ⟨gb, 0, none⟩ = some (.int .i64 a0) := (blk_cell BK.out 0).trans rfl; have hcz_1 : w5.cell? ⟨gb, 1, none⟩ = some (.int .i64 a1) := (blk_cell BK.out 1).trans rfl; have hcz_2 : w5.cell? ⟨gb, 2, none⟩ = some (.slice A ks.length c) := (blk_cell BK.out 2).trans rfl; have hfz_0 := blk_frozen BK.out 0; have hfz_1 := blk_frozen BK.out 1; have hfz_2 := blk_frozen BK.out 2))
      go_loopg [31] (ks.length + 1) (fun kq v31 w' => ∃ (i : Int) (acc : List Int) (A1 : Option Addr) (n1 c1 : Nat), v31 = .int .i64 i ∧ Aside0 (Kd.R (Kd.int .i64) 3 w' w0.heap.size (fun _ => True) (.slice A1 n1 c1) acc) ∧ Aside0 (0 ≤ i ∧ i ≤ ks.length ∧ (kq : Int) = ks.length - i + 1) ∧ Aside0 (acc.length + szL (ks.drop i.toNat) ≤ 200000 ∧ frL (ks.drop i.toNat) ar acc = frL ks ar l) ∧ Aside0 (Below w0.heap.size w0 w') ∧ Aside0 (w'.heap[go]? = some (.cells #[.slice A1 n1 c1] 36 (0, 0))))
      case atStart => exact ⟨0, l, _, _, _, rfl, HO, ⟨by omega, by omega, by omega⟩, ⟨by have := HZ.out; rw [show (0 : Int).toNat = 0 from rfl, List.drop_zero]; (try rw [List.length_append, List.length_singleton]); omega, by rw [show (0 : Int).toNat = 0 from rfl, List.drop_zero]⟩, HB, BO⟩
      case round =>
        clear HO HB BO BK
        obtain ⟨i, acc, A1, n1, c1, rfl, HO, HA, HF, HB, BO⟩ := hrel
        by_cases c2 : i < (ks.length : Int)
        · have cb : decide (i < (ks.length : Int)) = true := decide_eq_true c2
          have cz : decide (0 ≤ i) = true := decide_eq_true HA.out.1
          obtain ⟨j, rfl⟩ : ∃ j : Nat, i = (j : Int) := ⟨i.toNat, by have := HA.out.1; omega⟩
          obtain ⟨ad, A2, c2_, e1, hx0, hx1, hx2, hl2, hi2⟩ := at_T68 (HC0.out) (j : Int) HA.out.1 c2
          cases e1
          simp only [Int.toNat_natCast] at hx0 hx1 hx2
          have HC2 := Aside0.mk hl2
          have HR2 := Aside0.mk hi2
          clear hl2 hi2
          replace hx0 := (HB.out.cell (World.block_lt_of_cell? w0 _ hx0)).trans hx0
          replace hx1 := (HB.out.cell (World.block_lt_of_cell? w0 _ hx1)).trans hx1
          replace hx2 := (HB.out.cell (World.block_lt_of_cell? w0 _ hx2)).trans hx2
          have w1 : wrap64 ((j : Int) + 1) = (j : Int) + 1 := by have := HM.out; unfold wrap64; omega
          have W1 := Aside0.mk w1
          have PI := Aside0.mk (show j < ks.length by omega)
          have p1 := eq_true HA.out.1
          have q1 := eq_true c2
          clear c2 w1
          have e9 : frL (ks.drop j) ar acc = frL (ks.drop (j + 1)) ar (frT (rd_T68 ks (j : Int)) ar acc) := by rw [rd_drop ks j PI.out, frL_cons]
          have E9 := Aside0.mk e9
          have e8 : szL (ks.drop j) = szT (rd_T68 ks (j : Int)) + szL (ks.drop (j + 1)) := by rw [rd_drop ks j PI.out, szL_cons]
          have E8 := Aside0.mk e8
          have CL : Aside0 (acc.length + szT (rd_T68 ks (j : Int)) ≤ 200000) := ⟨by have h := HF.out.1; rw [show ((j : Int)).toNat = j by omega, e8] at h; omega⟩
          clear e9 e8
          obtain ⟨k1, rfl⟩ : ∃ m, gk = m + 1 := ⟨gk - 1, by have := HA.out; have := PI.out; omega⟩
          go_wp2_with ((with_reducible refine gate_dst (N := 7) rfl ?_); refine box_event ?hg (N := 7) ?hd (cs := #[.int .i64 0, .int .i64 0, .slice none 0 0]) (t := 68) ?hr ?_; (case hd => rfl); (case hg => rfl); (case hr => first | (go_simp; done) | (go_simp; rfl)); intro g2 hg w9 hbox hb; have hy0 := (hb.cell (World.block_lt_of_cell? _ _ hx0)).trans hx0; have hy1 := (hb.cell (World.block_lt_of_cell? _ _ hx1)).trans hx1; have hy2 := (hb.cell (World.block_lt_of_cell? _ _ hx2)).trans hx2; clear hx0 hx1 hx2; have hx0 := hy0; have hx1 := hy1; have hx2 := hy2; clear hy0 hy1 hy2; have m0_ := Aside0.mk (below_step HB.out hb); have m1_ := Aside0.mk (hbox); have m2_ := Aside0.mk (Kd.R_below HO.out hb); have m3_ := Aside0.mk (blk_below (g := go) (o := .cells #[.slice A1 n1 c1] 36 (0, 0)) BO.out hb); have m4_ := Aside0.mk ((by rw [hg]; exact below_size HB.out : w0.heap.size ≤ g2)); have m5_ := Aside0.mk ((by rw [hg]; exact Nat.ne_of_lt (blk_lt BO.out) : go ≠ g2)); clear HB HO BO; have HB := m0_; have BK2 := m1_; have HO := m2_; have BO := m3_; have GE2 := m4_; have N2O := m5_; clear m0_ m1_ m2_ m3_ m4_ m5_; clear hb hbox hg; have hn1_ := N2O.out; have hczb_0 : w9.cell? ⟨g2, 0, none⟩ = some (.int .i64 0) := (blk_cell BK2.out 0).trans rfl; have hczb_1 : w9.cell? ⟨g2, 1, none⟩ = some (.int .i64 0) := (blk_cell BK2.out 1).trans rfl; have hczb_2 : w9.cell? ⟨g2, 2, none⟩ = some (.slice none 0 0) := (blk_cell BK2.out 2).trans rfl; have hfzb_0 := blk_frozen BK2.out 0; have hfzb_1 := blk_frozen BK2.out 1; have hfzb_2 := blk_frozen BK2.out 2; have hczq_0 : w9.cell? ⟨go, 0, none⟩ = some (.slice A1 n1 c1) := (blk_cell BO.out 0).trans rfl; have hfzq_0 := blk_frozen BO.out 0)
          refine (IH.out j A2 c2_ ar acc (.slice A1 n1 c1) _ PI.out HC2.out (by have := CL.out; omega) (Kd.R_mono (Kd.R_far (p := ⟨g2, 2, none⟩) (Kd.R_far (p := ⟨g2, 1, none⟩) (Kd.R_far (p := ⟨g2, 0, none⟩) (Kd.R_types HO.out BK2.out (by decide)) (fun _ hk => hk.2) (.int .i64 (rd_T68 ks (j : Int)).f0)) (fun _ hk => hk.2) (.int .i64 (rd_T68 ks (j : Int)).f1)) (fun _ hk => hk.2) (.slice A2 (rd_T68 ks (j : Int)).f2.length c2_)) (fun _ hk => hk.1)) (below_set (below_set (below_set HB.out GE2.out) GE2.out) GE2.out) (by refine blk_far ?_ N2O.out _; refine blk_far ?_ N2O.out _; refine blk_far ?_ N2O.out _; exact BO.out) HR2.out).mono ?_
          rintro e w' ⟨A3, n3, c3, rfl, bo2, ho2, hb2⟩
          have HO2 := Aside0.mk ho2
          have HB2 := Aside0.mk hb2
          have BO2 := Aside0.mk bo2
          clear HB HO BK2 BO ho2 hb2 bo2
          go_wp2
          go_roundg k1
          case measure => omega
          case rel => exact ⟨(j : Int) + 1, _, A3, n3, c3, by first | rfl | rw [W1.out], HO2, ⟨by have := HA.out; omega, by have := PI.out; omega, by have := HA.out; omega⟩, ⟨by have h := HF.out.1; rw [show ((j : Int)).toNat = j by omega, E8.out] at h; have := frT_len (rd_T68 ks (j : Int)) ar acc; rw [show ((j : Int) + 1).toNat = j + 1 by omega]; omega, by rw [← HF.out.2, show ((j : Int) + 1).toNat = j + 1 by omega, show ((j : Int)).toNat = j by omega, E9.out]⟩, HB2, BO2⟩
        · have cb : decide (i < (ks.length : Int)) = false := decide_eq_false c2
          have hi : i.toNat = ks.length := by have := HA.out; omega
          have e := HF.out.2
          rw [hi, List.drop_length, frL_nil] at e
          have E := Aside0.mk e
          clear c2 hi e
          go_wp2
          go_end0
          exact ⟨A1, n1, c1, rfl, BO.out, by rw [← E.out]; exact HO.out, HB.out⟩
  · have k1b : (a0 == 1) = false := beq_eq_false_iff_ne.mpr ca
    have en : (if a0 = 1 ∧ ar ≤ a1 then l ++ [wrap64 (a1 - ar)] else l) = l := if_neg (fun h => ca h.1)
    rw [en]
    clear en ca
    by_cases cb2 : a0 = 2
    · have k2b : (a0 == 2) = true := beq_iff_eq.mpr cb2
      have en : (if a0 = 2 then wrap64 (ar + 1) else ar) = wrap64 (ar + 1) := if_pos cb2
      rw [en]
      clear en cb2
      go_enter Try.func83, Try.ntmps83
      go_wp2_with (first | ((with_reducible refine gate_dst (N := 3) rfl ?_); refine box_event ?hg (N := 3) ?hd (cs := #[.int .i64 a0, .int .i64 a1, .slice A ks.length c]) (t := 68) ?hr ?_; (case hd => rfl); (case hg => rfl); (case hr => first | (go_simp; done) | (go_simp; rfl)); intro gb hg w5 hbox hb; have m0_ := Aside0.mk (below_step HB.out hb); have m1_ := Aside0.mk (hbox); have m2_ := Aside0.mk (Kd.R_below HO.out hb); have m3_ := Aside0.mk (blk_below (g := go) (o := .cells #[.slice A0 l.length c0] 36 (0, 0)) BO.out hb); have m4_ := Aside0.mk ((by rw [hg]; exact below_size HB.out : w0.heap.size ≤ gb)); clear HB HO BO; have HB := m0_; have BK := m1_; have HO := m2_; have BO := m3_; have GEB := m4_; clear m0_ m1_ m2_ m3_ m4_; clear hb hbox hg; have hcz_0 : w5.cell? ⟨gb, 0, none⟩ = some (.int .i64 a0) := (blk_cell BK.out 0).trans rfl; have hcz_1 : w5.cell? ⟨gb, 1, none⟩ = some (.int .i64 a1) := (blk_cell BK.out 1).trans rfl; have hcz_2 : w5.cell? ⟨gb, 2, none⟩ = some (.slice A ks.length c) := (blk_cell BK.out 2).trans rfl; have hfz_0 := blk_frozen BK.out 0; have hfz_1 := blk_frozen BK.out 1; have hfz_2 := blk_frozen BK.out 2))
      go_loopg [31] (ks.length + 1) (fun kq v31 w' => ∃ (i : Int) (acc : List Int) (A1 : Option Addr) (n1 c1 : Nat), v31 = .int .i64 i ∧ Aside0 (Kd.R (Kd.int .i64) 3 w' w0.heap.size (fun _ => True) (.slice A1 n1 c1) acc) ∧ Aside0 (0 ≤ i ∧ i ≤ ks.length ∧ (kq : Int) = ks.length - i + 1) ∧ Aside0 (acc.length + szL (ks.drop i.toNat) ≤ 200000 ∧ frL (ks.drop i.toNat) (wrap64 (ar + 1)) acc = frL ks (wrap64 (ar + 1)) l) ∧ Aside0 (Below w0.heap.size w0 w') ∧ Aside0 (w'.heap[go]? = some (.cells #[.slice A1 n1 c1] 36 (0, 0))))
      case atStart => exact ⟨0, l, _, _, _, rfl, HO, ⟨by omega, by omega, by omega⟩, ⟨by have := HZ.out; rw [show (0 : Int).toNat = 0 from rfl, List.drop_zero]; (try rw [List.length_append, List.length_singleton]); omega, by rw [show (0 : Int).toNat = 0 from rfl, List.drop_zero]⟩, HB, BO⟩
      case round =>
        clear HO HB BO BK
        obtain ⟨i, acc, A1, n1, c1, rfl, HO, HA, HF, HB, BO⟩ := hrel
        by_cases c2 : i < (ks.length : Int)
        · have cb : decide (i < (ks.length : Int)) = true := decide_eq_true c2
          have cz : decide (0 ≤ i) = true := decide_eq_true HA.out.1
          obtain ⟨j, rfl⟩ : ∃ j : Nat, i = (j : Int) := ⟨i.toNat, by have := HA.out.1; omega⟩
          obtain ⟨ad, A2, c2_, e1, hx0, hx1, hx2, hl2, hi2⟩ := at_T68 (HC0.out) (j : Int) HA.out.1 c2
          cases e1
          simp only [Int.toNat_natCast] at hx0 hx1 hx2
          have HC2 := Aside0.mk hl2
          have HR2 := Aside0.mk hi2
          clear hl2 hi2
          replace hx0 := (HB.out.cell (World.block_lt_of_cell? w0 _ hx0)).trans hx0
          replace hx1 := (HB.out.cell (World.block_lt_of_cell? w0 _ hx1)).trans hx1
          replace hx2 := (HB.out.cell (World.block_lt_of_cell? w0 _ hx2)).trans hx2
          have w1 : wrap64 ((j : Int) + 1) = (j : Int) + 1 := by have := HM.out; unfold wrap64; omega
          have W1 := Aside0.mk w1
          have PI := Aside0.mk (show j < ks.length by omega)
          have p1 := eq_true HA.out.1
          have q1 := eq_true c2
          clear c2 w1
          have e9 : frL (ks.drop j) (wrap64 (ar + 1)) acc = frL (ks.drop (j + 1)) (wrap64 (ar + 1)) (frT (rd_T68 ks (j : Int)) (wrap64 (ar + 1)) acc) := by rw [rd_drop ks j PI.out, frL_cons]
          have E9 := Aside0.mk e9
          have e8 : szL (ks.drop j) = szT (rd_T68 ks (j : Int)) + szL (ks.drop (j + 1)) := by rw [rd_drop ks j PI.out, szL_cons]
          have E8 := Aside0.mk e8
          have CL : Aside0 (acc.length + szT (rd_T68 ks (j : Int)) ≤ 200000) := ⟨by have h := HF.out.1; rw [show ((j : Int)).toNat = j by omega, e8] at h; omega⟩
          clear e9 e8
          obtain ⟨k1, rfl⟩ : ∃ m, gk = m + 1 := ⟨gk - 1, by have := HA.out; have := PI.out; omega⟩
          go_wp2_with ((with_reducible refine gate_dst (N := 7) rfl ?_); refine box_event ?hg (N := 7) ?hd (cs := #[.int .i64 0, .int .i64 0, .slice none 0 0]) (t := 68) ?hr ?_; (case hd => rfl); (case hg => rfl); (case hr => first | (go_simp; done) | (go_simp; rfl)); intro g2 hg w9 hbox hb; have hy0 := (hb.cell (World.block_lt_of_cell? _ _ hx0)).trans hx0; have hy1 := (hb.cell (World.block_lt_of_cell? _ _ hx1)).trans hx1; have hy2 := (hb.cell (World.block_lt_of_cell? _ _ hx2)).trans hx2; clear hx0 hx1 hx2; have hx0 := hy0; have hx1 := hy1; have hx2 := hy2; clear hy0 hy1 hy2; have m0_ := Aside0.mk (below_step HB.out hb); have m1_ := Aside0.mk (hbox); have m2_ := Aside0.mk (Kd.R_below HO.out hb); have m3_ := Aside0.mk (blk_below (g := go) (o := .cells #[.slice A1 n1 c1] 36 (0, 0)) BO.out hb); have m4_ := Aside0.mk ((by rw [hg]; exact below_size HB.out : w0.heap.size ≤ g2)); have m5_ := Aside0.mk ((by rw [hg]; exact Nat.ne_of_lt (blk_lt BO.out) : go ≠ g2)); clear HB HO BO; have HB := m0_; have BK2 := m1_; have HO := m2_; have BO := m3_; have GE2 := m4_; have N2O := m5_; clear m0_ m1_ m2_ m3_ m4_ m5_; clear hb hbox hg; have hn1_ := N2O.out; have hczb_0 : w9.cell? ⟨g2, 0, none⟩ = some (.int .i64 0) := (blk_cell BK2.out 0).trans rfl; have hczb_1 : w9.cell? ⟨g2, 1, none⟩ = some (.int .i64 0) := (blk_cell BK2.out 1).trans rfl; have hczb_2 : w9.cell? ⟨g2, 2, none⟩ = some (.slice none 0 0) := (blk_cell BK2.out 2).trans rfl; have hfzb_0 := blk_frozen BK2.out 0; have hfzb_1 := blk_frozen BK2.out 1; have hfzb_2 := blk_frozen BK2.out 2; have hczq_0 : w9.cell? ⟨go, 0, none⟩ = some (.slice A1 n1 c1) := (blk_cell BO.out 0).trans rfl; have hfzq_0 := blk_frozen BO.out 0)
          refine (IH.out j A2 c2_ (wrap64 (ar + 1)) acc (.slice A1 n1 c1) _ PI.out HC2.out (by have := CL.out; omega) (Kd.R_mono (Kd.R_far (p := ⟨g2, 2, none⟩) (Kd.R_far (p := ⟨g2, 1, none⟩) (Kd.R_far (p := ⟨g2, 0, none⟩) (Kd.R_types HO.out BK2.out (by decide)) (fun _ hk => hk.2) (.int .i64 (rd_T68 ks (j : Int)).f0)) (fun _ hk => hk.2) (.int .i64 (rd_T68 ks (j : Int)).f1)) (fun _ hk => hk.2) (.slice A2 (rd_T68 ks (j : Int)).f2.length c2_)) (fun _ hk => hk.1)) (below_set (below_set (below_set HB.out GE2.out) GE2.out) GE2.out) (by refine blk_far ?_ N2O.out _; refine blk_far ?_ N2O.out _; refine blk_far ?_ N2O.out _; exact BO.out) HR2.out).mono ?_
          rintro e w' ⟨A3, n3, c3, rfl, bo2, ho2, hb2⟩
          have HO2 := Aside0.mk ho2
          have HB2 := Aside0.mk hb2
          have BO2 := Aside0.mk bo2
          clear HB HO BK2 BO ho2 hb2 bo2
          go_wp2
          go_roundg k1
          case measure => omega
          case rel => exact ⟨(j : Int) + 1, _, A3, n3, c3, by first | rfl | rw [W1.out], HO2, ⟨by have := HA.out; omega, by have := PI.out; omega, by have := HA.out; omega⟩, ⟨by have h := HF.out.1; rw [show ((j : Int)).toNat = j by omega, E8.out] at h; have := frT_len (rd_T68 ks (j : Int)) (wrap64 (ar + 1)) acc; rw [show ((j : Int) + 1).toNat = j + 1 by omega]; omega, by rw [← HF.out.2, show ((j : Int) + 1).toNat = j + 1 by omega, show ((j : Int)).toNat = j by omega, E9.out]⟩, HB2, BO2⟩
        · have cb : decide (i < (ks.length : Int)) = false := decide_eq_false c2
          have hi : i.toNat = ks.length := by have := HA.out; omega
          have e := HF.out.2
          rw [hi, List.drop_length, frL_nil] at e
          have E := Aside0.mk e
          clear c2 hi e
          go_wp2
          go_end0
          exact ⟨A1, n1, c1, rfl, BO.out, by rw [← E.out]; exact HO.out, HB.out⟩
    · have k2b : (a0 == 2) = false := beq_eq_false_iff_ne.mpr cb2
      have en : (if a0 = 2 then wrap64 (ar + 1) else ar) = ar := if_neg cb2
      rw [en]
      clear en cb2
      go_enter Try.func83, Try.ntmps83
      go_wp2_with (first | ((with_reducible refine gate_dst (N := 3) rfl ?_); refine box_event ?hg (N := 3) ?hd (cs := #[.int .i64 a0, .int .i64 a1, .slice A ks.length c]) (t := 68) ?hr ?_; (case hd => rfl); (case hg => rfl); (case hr => first | (go_simp; done) | (go_simp; rfl)); intro gb hg w5 hbox hb; have m0_ := Aside0.mk (below_step HB.out hb); have m1_ := Aside0.mk (hbox); have m2_ := Aside0.mk (Kd.R_below HO.out hb); have m3_ := Aside0.mk (blk_below (g := go) (o := .cells #[.slice A0 l.length c0] 36 (0, 0)) BO.out hb); have m4_ := Aside0.mk ((by rw [hg]; exact below_size HB.out : w0.heap.size ≤ gb)); clear HB HO BO; have HB := m0_; have BK := m1_; have HO := m2_; have BO := m3_; have GEB := m4_; clear m0_ m1_ m2_ m3_ m4_; clear hb hbox hg; have hcz_0 : w5.cell? ⟨gb, 0, none⟩ = some (.int .i64 a0) := (blk_cell BK.out 0).trans rfl; have hcz_1 : w5.cell? ⟨gb, 1, none⟩ = some (.int .i64 a1) := (blk_cell BK.out 1).trans rfl; have hcz_2 : w5.cell? ⟨gb, 2, none⟩ = some (.slice A ks.length c) := (blk_cell BK.out 2).trans rfl; have hfz_0 := blk_frozen BK.out 0; have hfz_1 := blk_frozen BK.out 1; have hfz_2 := blk_frozen BK.out 2))
      go_loopg [31] (ks.length + 1) (fun kq v31 w' => ∃ (i : Int) (acc : List Int) (A1 : Option Addr) (n1 c1 : Nat), v31 = .int .i64 i ∧ Aside0 (Kd.R (Kd.int .i64) 3 w' w0.heap.size (fun _ => True) (.slice A1 n1 c1) acc) ∧ Aside0 (0 ≤ i ∧ i ≤ ks.length ∧ (kq : Int) = ks.length - i + 1) ∧ Aside0 (acc.length + szL (ks.drop i.toNat) ≤ 200000 ∧ frL (ks.drop i.toNat) ar acc = frL ks ar l) ∧ Aside0 (Below w0.heap.size w0 w') ∧ Aside0 (w'.heap[go]? = some (.cells #[.slice A1 n1 c1] 36 (0, 0))))
      case atStart => exact ⟨0, l, _, _, _, rfl, HO, ⟨by omega, by omega, by omega⟩, ⟨by have := HZ.out; rw [show (0 : Int).toNat = 0 from rfl, List.drop_zero]; (try rw [List.length_append, List.length_singleton]); omega, by rw [show (0 : Int).toNat = 0 from rfl, List.drop_zero]⟩, HB, BO⟩
      case round =>
        clear HO HB BO BK
        obtain ⟨i, acc, A1, n1, c1, rfl, HO, HA, HF, HB, BO⟩ := hrel
        by_cases c2 : i < (ks.length : Int)
        · have cb : decide (i < (ks.length : Int)) = true := decide_eq_true c2
          have cz : decide (0 ≤ i) = true := decide_eq_true HA.out.1
          obtain ⟨j, rfl⟩ : ∃ j : Nat, i = (j : Int) := ⟨i.toNat, by have := HA.out.1; omega⟩
          obtain ⟨ad, A2, c2_, e1, hx0, hx1, hx2, hl2, hi2⟩ := at_T68 (HC0.out) (j : Int) HA.out.1 c2
          cases e1
          simp only [Int.toNat_natCast] at hx0 hx1 hx2
          have HC2 := Aside0.mk hl2
          have HR2 := Aside0.mk hi2
          clear hl2 hi2
          replace hx0 := (HB.out.cell (World.block_lt_of_cell? w0 _ hx0)).trans hx0
          replace hx1 := (HB.out.cell (World.block_lt_of_cell? w0 _ hx1)).trans hx1
          replace hx2 := (HB.out.cell (World.block_lt_of_cell? w0 _ hx2)).trans hx2
          have w1 : wrap64 ((j : Int) + 1) = (j : Int) + 1 := by have := HM.out; unfold wrap64; omega
          have W1 := Aside0.mk w1
          have PI := Aside0.mk (show j < ks.length by omega)
          have p1 := eq_true HA.out.1
          have q1 := eq_true c2
          clear c2 w1
          have e9 : frL (ks.drop j) ar acc = frL (ks.drop (j + 1)) ar (frT (rd_T68 ks (j : Int)) ar acc) := by rw [rd_drop ks j PI.out, frL_cons]
          have E9 := Aside0.mk e9
          have e8 : szL (ks.drop j) = szT (rd_T68 ks (j : Int)) + szL (ks.drop (j + 1)) := by rw [rd_drop ks j PI.out, szL_cons]
          have E8 := Aside0.mk e8
          have CL : Aside0 (acc.length + szT (rd_T68 ks (j : Int)) ≤ 200000) := ⟨by have h := HF.out.1; rw [show ((j : Int)).toNat = j by omega, e8] at h; omega⟩
          clear e9 e8
          obtain ⟨k1, rfl⟩ : ∃ m, gk = m + 1 := ⟨gk - 1, by have := HA.out; have := PI.out; omega⟩
          go_wp2_with ((with_reducible refine gate_dst (N := 7) rfl ?_); refine box_event ?hg (N := 7) ?hd (cs := #[.int .i64 0, .int .i64 0, .slice none 0 0]) (t := 68) ?hr ?_; (case hd => rfl); (case hg => rfl); (case hr => first | (go_simp; done) | (go_simp; rfl)); intro g2 hg w9 hbox hb; have hy0 := (hb.cell (World.block_lt_of_cell? _ _ hx0)).trans hx0; have hy1 := (hb.cell (World.block_lt_of_cell? _ _ hx1)).trans hx1; have hy2 := (hb.cell (World.block_lt_of_cell? _ _ hx2)).trans hx2; clear hx0 hx1 hx2; have hx0 := hy0; have hx1 := hy1; have hx2 := hy2; clear hy0 hy1 hy2; have m0_ := Aside0.mk (below_step HB.out hb); have m1_ := Aside0.mk (hbox); have m2_ := Aside0.mk (Kd.R_below HO.out hb); have m3_ := Aside0.mk (blk_below (g := go) (o := .cells #[.slice A1 n1 c1] 36 (0, 0)) BO.out hb); have m4_ := Aside0.mk ((by rw [hg]; exact below_size HB.out : w0.heap.size ≤ g2)); have m5_ := Aside0.mk ((by rw [hg]; exact Nat.ne_of_lt (blk_lt BO.out) : go ≠ g2)); clear HB HO BO; have HB := m0_; have BK2 := m1_; have HO := m2_; have BO := m3_; have GE2 := m4_; have N2O := m5_; clear m0_ m1_ m2_ m3_ m4_ m5_; clear hb hbox hg; have hn1_ := N2O.out; have hczb_0 : w9.cell? ⟨g2, 0, none⟩ = some (.int .i64 0) := (blk_cell BK2.out 0).trans rfl; have hczb_1 : w9.cell? ⟨g2, 1, none⟩ = some (.int .i64 0) := (blk_cell BK2.out 1).trans rfl; have hczb_2 : w9.cell? ⟨g2, 2, none⟩ = some (.slice none 0 0) := (blk_cell BK2.out 2).trans rfl; have hfzb_0 := blk_frozen BK2.out 0; have hfzb_1 := blk_frozen BK2.out 1; have hfzb_2 := blk_frozen BK2.out 2; have hczq_0 : w9.cell? ⟨go, 0, none⟩ = some (.slice A1 n1 c1) := (blk_cell BO.out 0).trans rfl; have hfzq_0 := blk_frozen BO.out 0)
          refine (IH.out j A2 c2_ ar acc (.slice A1 n1 c1) _ PI.out HC2.out (by have := CL.out; omega) (Kd.R_mono (Kd.R_far (p := ⟨g2, 2, none⟩) (Kd.R_far (p := ⟨g2, 1, none⟩) (Kd.R_far (p := ⟨g2, 0, none⟩) (Kd.R_types HO.out BK2.out (by decide)) (fun _ hk => hk.2) (.int .i64 (rd_T68 ks (j : Int)).f0)) (fun _ hk => hk.2) (.int .i64 (rd_T68 ks (j : Int)).f1)) (fun _ hk => hk.2) (.slice A2 (rd_T68 ks (j : Int)).f2.length c2_)) (fun _ hk => hk.1)) (below_set (below_set (below_set HB.out GE2.out) GE2.out) GE2.out) (by refine blk_far ?_ N2O.out _; refine blk_far ?_ N2O.out _; refine blk_far ?_ N2O.out _; exact BO.out) HR2.out).mono ?_
          rintro e w' ⟨A3, n3, c3, rfl, bo2, ho2, hb2⟩
          have HO2 := Aside0.mk ho2
          have HB2 := Aside0.mk hb2
          have BO2 := Aside0.mk bo2
          clear HB HO BK2 BO ho2 hb2 bo2
          go_wp2
          go_roundg k1
          case measure => omega
          case rel => exact ⟨(j : Int) + 1, _, A3, n3, c3, by first | rfl | rw [W1.out], HO2, ⟨by have := HA.out; omega, by have := PI.out; omega, by have := HA.out; omega⟩, ⟨by have h := HF.out.1; rw [show ((j : Int)).toNat = j by omega, E8.out] at h; have := frT_len (rd_T68 ks (j : Int)) ar acc; rw [show ((j : Int) + 1).toNat = j + 1 by omega]; omega, by rw [← HF.out.2, show ((j : Int) + 1).toNat = j + 1 by omega, show ((j : Int)).toNat = j by omega, E9.out]⟩, HB2, BO2⟩
        · have cb : decide (i < (ks.length : Int)) = false := decide_eq_false c2
          have hi : i.toNat = ks.length := by have := HA.out; omega
          have e := HF.out.2
          rw [hi, List.drop_length, frL_nil] at e
          have E := Aside0.mk e
          clear c2 hi e
          go_wp2
          go_end0
          exact ⟨A1, n1, c1, rfl, BO.out, by rw [← E.out]; exact HO.out, HB.out⟩

theorem free_some (w0 : World) (go : Nat) (hgo : w0.heap.size ≤ go) : ∀ (N : Nat) (x : S68) (ar : Int) (A : Option Addr) (c : Nat) (l : List Int) (v : Value) (w : World), SizeOf.sizeOf x.f2 ≤ N → x.f2.length ≤ c → l.length + szT x ≤ 200000 → Kd.R (Kd.int .i64) 3 w w0.heap.size (fun _ => True) v l → Below w0.heap.size w0 w → w.heap[go]? = some (.cells #[v] 36 (0, 0)) → Kd.C k68 w0 A x.f2.length x.f2 →
    Calls Try.prog 83 #[.agg #[.int .i64 x.f0, .int .i64 x.f1, .slice A x.f2.length c], .int .i64 ar, .func (.func 84) #[] #[.pointer (some ⟨go, 0, none⟩)]] w fun e w' => ∃ A1 n1 c1, e = .returned (.tuple #[]) ∧ w'.heap[go]? = some (.cells #[.slice A1 n1 c1] 36 (0, 0)) ∧ Kd.R (Kd.int .i64) 3 w' w0.heap.size (fun _ => True) (.slice A1 n1 c1) (frT x ar l) ∧ Below w0.heap.size w0 w' := by
  intro N
  induction N with
  | zero =>
    intro x ar A c l v w hN
    cases h : x.f2 with
    | nil => rw [h] at hN; simp at hN
    | cons y ys => rw [h] at hN; simp at hN
  | succ N ih =>
    intro x ar A c l v w hN hc hl hO hB hbo hC
    obtain ⟨A0, c0, rfl⟩ := Kd.R_slice hO
    rw [frT_eq]
    refine node_some w0 go hgo x.f0 x.f1 ar x.f2 A c l A0 c0 w hC hc (by rw [← szT_eq]; exact hl) hO hB hbo fun j A2 c2 ar2 acc v2 w2 hj hc2 hacc hO2 hB2 hbo2 hC2 => ?_
    refine ih (rd_T68 x.f2 (j : Int)) ar2 A2 c2 acc v2 w2 ?_ hc2 hacc hO2 hB2 hbo2 hC2
    have h1 := List.sizeOf_lt_of_mem (rd_mem x.f2 (j : Int) (by omega) (by omega))
    have h2 : ∀ y : S68, SizeOf.sizeOf y.f2 < SizeOf.sizeOf y := fun y => by cases y; simp; omega
    have h3 := h2 (rd_T68 x.f2 (j : Int))
    omega
end Free68
end Go.Proofs.Ytcjhhdecckcibaa.G

namespace Go.Proofs
open Go.Shelf
def Try.sort85_ren : Go.Shelf.Ren := ⟨fun | 5 => 85 | 8 => 93 | 7 => 92 | 19 => 106 | 20 => 107 | 10 => 97 | 11 => 98 | 12 => 99 | 13 => 100 | 14 => 101 | 15 => 102 | 16 => 103 | 17 => 104 | 18 => 105 | 30 => 109 | 31 => 110 | 32 => 111 | 33 => 112 | 34 => 113 | 35 => 114 | 40 => 115 | n => n, fun | 23 => 36 | 25 => 3 | 3 => 3 | 32 => 119 | 22 => 36 | 0 => 0 | 44 => 133 | 46 => 135 | 4 => 4 | 36 => 125 | 35 => 124 | 41 => 130 | 5 => 5 | 9 => 9 | 53 => 137 | 57 => 141 | 63 => 143 | 64 => 144 | n => n, fun | n => n⟩
theorem Try.sort85 : Go.Proofs.SlLaysM.n5 Try.prog Try.sort85_ren := {
 mixed := by kernel_rfl
 f5 := ⟨Try.f85.name, by decide, Try.func85.trans (congrArg some (by kernel_rfl))⟩
 f7 := ⟨Try.f92.name, by decide, Try.func92.trans (congrArg some (by kernel_rfl))⟩
 f8 := Try.func93.trans (congrArg some (by kernel_rfl))
 f10 := ⟨Try.f97.name, by decide, Try.func97.trans (congrArg some (by kernel_rfl))⟩
 f11 := ⟨Try.f98.name, by decide, Try.func98.trans (congrArg some (by kernel_rfl))⟩
 f12 := ⟨Try.f99.name, by decide, Try.func99.trans (congrArg some (by kernel_rfl))⟩
 f13 := ⟨Try.f100.name, by decide, Try.func100.trans (congrArg some (by kernel_rfl))⟩
 f14 := ⟨Try.f101.name, by decide, Try.func101.trans (congrArg some (by kernel_rfl))⟩
 f15 := ⟨Try.f102.name, by decide, Try.func102.trans (congrArg some (by kernel_rfl))⟩
 f16 := ⟨Try.f103.name, by decide, Try.func103.trans (congrArg some (by kernel_rfl))⟩
 f17 := ⟨Try.f104.name, by decide, Try.func104.trans (congrArg some (by kernel_rfl))⟩
 f18 := ⟨Try.f105.name, by decide, Try.func105.trans (congrArg some (by kernel_rfl))⟩
 f19 := Try.func106.trans (congrArg some (by kernel_rfl))
 f20 := Try.func107.trans (congrArg some (by kernel_rfl))
 f30 := ⟨Try.f109.name, by decide, Try.func109.trans (congrArg some (by kernel_rfl))⟩
 f31 := Try.func110.trans (congrArg some (by kernel_rfl))
 f32 := Try.func111.trans (congrArg some (by kernel_rfl))
 f33 := ⟨Try.f112.name, by decide, Try.func112.trans (congrArg some (by kernel_rfl))⟩
 f34 := ⟨Try.f113.name, by decide, Try.func113.trans (congrArg some (by kernel_rfl))⟩
 f35 := ⟨Try.f114.name, by decide, Try.func114.trans (congrArg some (by kernel_rfl))⟩
 f40 := ⟨Try.f115.name, by decide, Try.func115.trans (congrArg some (by kernel_rfl))⟩
 t0 := Try.underlying0
 a0 := Try.isAgg0
 z0 := Try.sizeOf0
 v0 := Try.zeroValue0
 t3 := Try.underlying3
 a3 := Try.isAgg3
 z3 := Try.sizeOf3
 v3 := Try.zeroValue3
 t4 := Try.underlying4
 a4 := Try.isAgg4
 z4 := Try.sizeOf4
 v4 := Try.zeroValue4
 t5 := Try.underlying5
 a5 := Try.isAgg5
 z5 := Try.sizeOf5
 v5 := Try.zeroValue5
 t9 := Try.underlying9
 a9 := Try.isAgg9
 z9 := Try.sizeOf9
 v9 := Try.zeroValue9
 t22 := Try.underlying36
 a22 := Try.isAgg36
 z22 := Try.sizeOf36
 v22 := Try.zeroValue36
 t23 := Try.underlying36
 a23 := Try.isAgg36
 z23 := Try.sizeOf36
 v23 := Try.zeroValue36
 t25 := Try.underlying3
 a25 := Try.isAgg3
 z25 := Try.sizeOf3
 v25 := Try.zeroValue3
 t32 := Try.underlying119
 a32 := Try.isAgg119
 z32 := Try.sizeOf119
 v32 := Try.zeroValue119
 t35 := Try.underlying124
 a35 := Try.isAgg124
 z35 := Try.sizeOf124
 v35 := Try.zeroValue124
 t36 := Try.underlying125
 a36 := Try.isAgg125
 z36 := Try.sizeOf125
 v36 := Try.zeroValue125
 t41 := Try.underlying130
 a41 := Try.isAgg130
 z41 := Try.sizeOf130
 v41 := Try.zeroValue130
 t44 := Try.underlying133
 a44 := Try.isAgg133
 z44 := Try.sizeOf133
 v44 := Try.zeroValue133
 t46 := Try.underlying135
 a46 := Try.isAgg135
 z46 := Try.sizeOf135
 v46 := Try.zeroValue135
 t53 := Try.underlying137
 a53 := Try.isAgg137
 z53 := Try.sizeOf137
 v53 := Try.zeroValue137
 t57 := Try.underlying141
 a57 := Try.isAgg141
 z57 := Try.sizeOf141
 v57 := Try.zeroValue141
 t63 := Try.underlying143
 a63 := Try.isAgg143
 z63 := Try.sizeOf143
 v63 := Try.zeroValue143
 t64 := Try.underlying144
 a64 := Try.isAgg144
 z64 := Try.sizeOf144
 v64 := Try.zeroValue144 }
def Try.compact86_ren : Go.Shelf.Ren := ⟨fun | 43 => 86 | n => n, fun | 22 => 36 | 23 => 3 | 3 => 3 | 4 => 4 | 0 => 0 | n => n, fun | n => n⟩
theorem Try.compact86 : Go.Proofs.SlLaysN.n43 Try.prog Try.compact86_ren := {
 mixed := by kernel_rfl
 f43 := ⟨Try.f86.name, by decide, Try.func86.trans (congrArg some (by kernel_rfl))⟩
 t0 := Try.underlying0
 a0 := Try.isAgg0
 z0 := Try.sizeOf0
 v0 := Try.zeroValue0
 t3 := Try.underlying3
 a3 := Try.isAgg3
 z3 := Try.sizeOf3
 v3 := Try.zeroValue3
 t4 := Try.underlying4
 a4 := Try.isAgg4
 z4 := Try.sizeOf4
 v4 := Try.zeroValue4
 t22 := Try.underlying36
 a22 := Try.isAgg36
 z22 := Try.sizeOf36
 v22 := Try.zeroValue36
 t23 := Try.underlying3
 a23 := Try.isAgg3
 z23 := Try.sizeOf3
 v23 := Try.zeroValue3
 i23 := by kernel_rfl }
end Go.Proofs
namespace Go.Proofs.Ytcjhhdecckcibaa.G
open Go.RowKit Go.Sort Go.Proofs.YtcjhhdecckcibaaW.PrintWords Go.Proofs.YtcjhhdecckcibaaW.PrintLast Go.Proofs.YtcjhhdecckcibaaW.PrintMore
set_option linter.unusedVariables false

namespace IntRow
abbrev enc : Int → Value := Value.int .i64
theorem put_get (zs : List Int) (cur : Array Value) (t : Nat) (ht : t < zs.length) (hc : zs.length ≤ cur.size) : (putCells enc 0 zs.toArray cur)[t]? = some (enc zs[t]) := by
  unfold putCells
  rw [Array.getElem?_mapIdx, Array.getElem?_eq_getElem (by omega), Option.map_some, if_pos (by simp; omega)]
  rw [Nat.sub_zero, getElem!_pos _ _ (by simpa using ht)]
  simp
theorem put_take (zs : List Int) (n : Nat) (hn : n ≤ zs.length) (cur : Array Value) (hc : zs.length ≤ cur.size) : (putCells enc 0 zs.toArray cur).toList.take n = encs enc (zs.take n) := by
  apply List.ext_getElem?
  intro t
  by_cases ht : t < n
  · rw [List.getElem?_take, if_pos ht, Array.getElem?_toList, put_get zs cur t (by omega) hc]
    simp [encs, ht, List.getElem?_eq_getElem (show t < zs.length by omega)]
  · rw [List.getElem?_take, if_neg ht, List.getElem?_eq_none (by simp [encs]; omega)]
theorem own_put (W : World) (base g n cap q : Nat) (cur : Array Value) (os : Array Obj) (zs : List Int) (hh : W.heap[g]? = some (.cells cur 3 (0, 0))) (hb : base ≤ g) (hn : n ≤ zs.length) (hz : zs.length ≤ cap) (hcap : cap ≤ maxLen) (hcur : cur.size = cap * 1) :
    (grow (putRow enc (Sort.ahead W q) g 0 zs.toArray) os).ownsRow base 3 1 (.slice (some ⟨g, 0, none⟩) n cap) n (encs enc (zs.take n)) := by
  have hlt : g < W.heap.size := blk_lt hh
  refine ⟨by simp [encs]; omega, .inr ⟨g, cap, putCells enc 0 zs.toArray cur, rfl, hb, ?_, by omega, hcap, ?_, ?_⟩⟩
  · show ((W.heap.modify g _) ++ os)[g]? = _
    rw [Array.getElem?_append_left (by rw [Array.size_modify]; exact hlt), Array.getElem?_modify, if_pos rfl, hh]; rfl
  · unfold putCells
    rw [Array.size_mapIdx, hcur]
  · rw [Nat.mul_one]
    exact put_take zs n hn cur (by omega)
theorem grown (W : World) (g q : Nat) (os : Array Obj) (d : Array Int) : W.grownBy (grow (putRow enc (Sort.ahead W q) g 0 d) os) (some g) where
  os := rfl
  tape := rfl
  output := rfl
  size := by
    show W.heap.size ≤ ((W.heap.modify g _) ++ os).size
    rw [Array.size_append, Array.size_modify]; omega
  block := fun k hk hne => by
    show ((W.heap.modify g _) ++ os)[k]? = _
    rw [Array.getElem?_append_left (by rw [Array.size_modify]; exact hk), Array.getElem?_modify, if_neg (fun h => hne (by rw [h]))]
theorem holds (W : World) (g : Nat) (cur : Array Value) (zs : List Int) (hh : W.heap[g]? = some (.cells cur 3 (0, 0))) (ht : cur.toList.take (zs.length * 1) = encs enc zs) : Holds enc W g 0 zs.toArray := by
  intro j hj
  have hj' : j < zs.length := by simpa using hj
  refine ⟨?_, blk_frozen hh _⟩
  have h3 : W.cell? ⟨g, 0 + j, none⟩ = cur[j]? := by rw [Nat.zero_add]; exact blk_cell hh j
  rw [h3, getElem!_pos zs.toArray j hj]
  have h2 : (cur.toList.take (zs.length * 1))[j]? = (encs enc zs)[j]? := by rw [ht]
  rw [Nat.mul_one, List.getElem?_take, if_pos hj', Array.getElem?_toList] at h2
  rw [h2]
  simp [encs, List.getElem?_eq_getElem hj']
end IntRow

abbrev sorted (xs : List Int) : List Int := xs.mergeSort fun x y => decide (x ≤ y)
theorem sort85.calls (base : Nat) (v : Value) (xs : List Int) (W : World) (h : Kd.R (Kd.int .i64) 3 W base (fun _ => True) v xs) (hl : xs.length ≤ 200000) :
    Calls Try.prog 85 #[v] W fun e W' => e = .returned (.tuple #[]) ∧ Kd.R (Kd.int .i64) 3 W' base (fun _ => True) v (sorted xs) ∧ W.grownBy W' v.ownBlock := by
  have hown := Kd.own_of_R h
  rcases hown.2 with ⟨rfl, hn⟩ | ⟨g, cap, cur, rfl, hb, hh, hnc, hcap, hcur, htake⟩
  · obtain rfl : xs = [] := List.eq_nil_of_length_eq_zero hn
    refine (AnyM.slices_Sort_int_none Try.sort85 none 0 W).mono ?_
    rintro e w' ⟨rfl, rfl⟩
    exact ⟨rfl, by simpa [sorted] using h, World.grownBy.refl _ _⟩
  · refine (AnyM.slices_Sort_int Try.sort85 g 0 cap xs W (IntRow.holds W g cur xs hh htake) (blk_lt hh) (by omega)).mono ?_
    rintro e w' ⟨rfl, q, os, rfl⟩
    have hlen : (sorted xs).length = xs.length := List.length_mergeSort _
    have ho := IntRow.own_put W base g xs.length cap q cur os (sorted xs) hh hb (by omega) (by omega) hcap hcur
    rw [List.take_of_length_le (by omega)] at ho
    refine ⟨rfl, Kd.R_of_own ?_ (fun _ _ => trivial), IntRow.grown W g q os _⟩
    rw [hlen]
    exact ho
theorem compact86.calls (base : Nat) (v : Value) (xs : List Int) (W : World) (h : Kd.R (Kd.int .i64) 3 W base (fun _ => True) v xs) (hl : xs.length ≤ 200000) :
    Calls Try.prog 86 #[v] W fun e W' => ∃ v', e = .returned v' ∧ Kd.R (Kd.int .i64) 3 W' base (fun _ => True) v' (Lib.compact xs) ∧ W.grownBy W' v.ownBlock := by
  have hown := Kd.own_of_R h
  rcases hown.2 with ⟨rfl, hn⟩ | ⟨g, cap, cur, rfl, hb, hh, hnc, hcap, hcur, htake⟩
  · obtain rfl : xs = [] := List.eq_nil_of_length_eq_zero hn
    refine (AnyG.slices_Compact_int_empty Try.compact86 none 0 W).mono ?_
    rintro e w' ⟨rfl, rfl⟩
    exact ⟨_, rfl, h, World.grownBy.refl _ _⟩
  · refine (AnyG.slices_Compact_int Try.compact86 g 0 cap xs W (IntRow.holds W g cur xs hh htake) (by omega) hnc).mono ?_
    rintro e w' ⟨rfl, q, rfl⟩
    have hc : (Lib.compact xs).length ≤ xs.length := by
      unfold Lib.compact Lib.compactUpTo
      rw [List.length_map]
      refine Nat.le_trans (List.length_filter_le _ _) ?_
      simp
    have hlen : (Lib.compact xs ++ List.replicate (xs.length - (Lib.compact xs).length) 0).length = xs.length := by simp; omega
    have ho := IntRow.own_put W base g (Lib.compact xs).length cap q cur #[] (Lib.compact xs ++ List.replicate (xs.length - (Lib.compact xs).length) 0) hh hb (by rw [hlen]; exact hc) (by omega) hcap hcur
    rw [List.take_left, grow_empty] at ho
    have hg := IntRow.grown W g q #[] (Lib.compact xs ++ List.replicate (xs.length - (Lib.compact xs).length) 0).toArray
    rw [grow_empty] at hg
    exact ⟨_, rfl, Kd.R_of_own ho (fun _ _ => trivial), hg⟩
end Go.Proofs.Ytcjhhdecckcibaa.G

namespace Go.Proofs.Ytcjhhdecckcibaa.G
open Go.RowKit Go.Proofs.YtcjhhdecckcibaaW.PrintWords Go.Proofs.YtcjhhdecckcibaaW.PrintLast Go.Proofs.YtcjhhdecckcibaaW.PrintMore
attribute [local go_sem] max2_int min2_int max_two min_two max_three min_three max_four min_four   -- for this text's walks alone
set_option linter.unusedVariables false
set_option linter.unusedSimpArgs false

def impl_term_freeIn.f (a0_0 : Int) (a0_1 : Int) (l0_2 : List (S68)) : Option (List Int) := if Free68.szT ⟨a0_0, a0_1, l0_2⟩ ≤ 200000 then some (Lib.compact (sorted (Free68.frT ⟨a0_0, a0_1, l0_2⟩ 0 []))) else none
set_option maxHeartbeats 8000000 in
set_option maxRecDepth 100000 in
theorem impl_term_freeIn.calls (a0_0 : Int) (a0_1 : Int) (A0_2 : Option Addr) (c0_2 : Nat) (l0_2 : List (S68)) (r : List Int) (w : World) (hr0_2 : Kd.C k68 w A0_2 l0_2.length l0_2) (hc0_2 : l0_2.length ≤ c0_2) (h : impl_term_freeIn.f a0_0 a0_1 l0_2 = some r) :
    Calls Try.prog 63 #[.agg #[.int .i64 a0_0, .int .i64 a0_1, .slice A0_2 l0_2.length c0_2]] w fun e w' => ∃ v0_ : Value, e = .returned (v0_) ∧ Kd.R (Kd.int .i64) 3 w' w.heap.size (fun _ => True) v0_ r ∧ Below w.heap.size w w' := by
  have hu68 := Try.underlying68
  have hu36 := Try.underlying36
  have e83 := enters_ Try.func83 (by kernel_rfl) rfl
  have e85 := enters_ Try.func85 (by kernel_rfl) rfl
  have e86 := enters_ Try.func86 (by kernel_rfl) rfl
  have hmf : ∀ (fn : Fn) (first cap : Array Value) (w : World), (Instr.makeFunc fn first cap).run Try.prog w = .ok (.func fn first cap) w := fun _ _ _ _ => rfl
  have HR0 := Aside0.mk hr0_2
  have HC0 := Aside0.mk hc0_2
  clear hr0_2 hc0_2
  have HB := Aside0.mk (Below.refl w.heap.size w)
  unfold impl_term_freeIn.f at h
  by_cases hz : Free68.szT ⟨a0_0, a0_1, l0_2⟩ ≤ 200000
  case neg => rw [if_neg hz] at h; exact absurd h (by simp)
  rw [if_pos hz] at h
  have HZ := Aside0.mk hz
  clear hz
  obtain rfl := Option.some.inj h
  go_enter Try.func63, Try.ntmps63
  go_wp2_with (first | ((with_reducible refine gate_dst (N := 1) rfl ?_); refine box_event ?hg (N := 1) ?hd (cs := #[.int .i64 a0_0, .int .i64 a0_1, .slice A0_2 l0_2.length c0_2]) (t := 68) ?hr ?_; (case hd => rfl); (case hg => rfl); (case hr => first | (go_simp; done) | (go_simp; rfl)); intro gb hg w5 hbox hb; have m0_ := Aside0.mk (below_step HB.out hb); have m1_ := Aside0.mk (hbox); clear HB; have HB := m0_; have BK := m1_; clear m0_ m1_; clear hb hbox hg; have hcz_0 : w5.cell? ⟨gb, 0, none⟩ = some (.int .i64 a0_0) := (blk_cell BK.out 0).trans rfl; have hcz_1 : w5.cell? ⟨gb, 1, none⟩ = some (.int .i64 a0_1) := (blk_cell BK.out 1).trans rfl; have hcz_2 : w5.cell? ⟨gb, 2, none⟩ = some (.slice A0_2 l0_2.length c0_2) := (blk_cell BK.out 2).trans rfl; have hfz_0 := blk_frozen BK.out 0; have hfz_1 := blk_frozen BK.out 1; have hfz_2 := blk_frozen BK.out 2) | ((with_reducible refine gate_dst (N := 4) rfl ?_); refine Kd.R_lit (Kd.int .i64) _ 3 ?hg (N := 4) ?hd (xs := ([] : List Int)) (inner := []) (ok := fun _ => True) (okp := fun _ => True) ?hr ?hp (fun _ hk => hk) trivial (Below.refl _ _) (Nat.le_refl _) (by simp) ?_; (case hd => rfl); (case hg => rfl); (case hr => first | (go_simp; done) | (go_simp; rfl)); (case hp => exact (Reps.none _ _)); intro v1 w8 ho hb hg_ hnew_; clear hg_ hnew_; obtain ⟨A1, c1, rfl⟩ := Kd.R_slice ho; have m0_ := Aside0.mk (Kd.R_lower ho (below_size HB.out)); have m1_ := Aside0.mk (below_step HB.out hb); have m2_ := Aside0.mk (blk_below (g := gb) (o := .cells #[.int .i64 a0_0, .int .i64 a0_1, .slice A0_2 l0_2.length c0_2] 68 (0, 0)) BK.out hb); clear HB BK; have HO := m0_; have HB := m1_; have BK := m2_; clear m0_ m1_ m2_; clear hb ho; clear hcz_0 hcz_1 hcz_2 hfz_0 hfz_1 hfz_2) | ((with_reducible refine gate_dst (N := 3) rfl ?_); refine box_event ?hg (N := 3) ?hd (cs := #[.slice none 0 0]) (t := 36) ?hr ?_; (case hd => rfl); (case hg => rfl); (case hr => first | (go_simp; done) | (go_simp; rfl)); intro go hg w9 hbox hb; have m0_ := Aside0.mk (Kd.R_below HO.out hb); have m1_ := Aside0.mk (below_step HB.out hb); have m2_ := Aside0.mk (blk_below (g := gb) (o := .cells #[.int .i64 a0_0, .int .i64 a0_1, .slice A0_2 l0_2.length c0_2] 68 (0, 0)) BK.out hb); have m3_ := Aside0.mk (hbox); have m4_ := Aside0.mk ((by rw [hg]; exact below_size HB.out : w.heap.size ≤ go)); have m5_ := Aside0.mk ((by rw [hg]; exact Nat.ne_of_lt (blk_lt BK.out) : gb ≠ go)); clear HB BK HO; have HO := m0_; have HB := m1_; have BK := m2_; have BO := m3_; have GO := m4_; have NGB := m5_; clear m0_ m1_ m2_ m3_ m4_ m5_; clear hb hbox hg; have hq1_ := NGB.out; have hczc_0 : w9.cell? ⟨gb, 0, none⟩ = some (.int .i64 a0_0) := (blk_cell BK.out 0).trans rfl; have hczc_1 : w9.cell? ⟨gb, 1, none⟩ = some (.int .i64 a0_1) := (blk_cell BK.out 1).trans rfl; have hczc_2 : w9.cell? ⟨gb, 2, none⟩ = some (.slice A0_2 l0_2.length c0_2) := (blk_cell BK.out 2).trans rfl; have hfzc_0 := blk_frozen BK.out 0; have hfzc_1 := blk_frozen BK.out 1; have hfzc_2 := blk_frozen BK.out 2; have hczo_0 : w9.cell? ⟨go, 0, none⟩ = some (.slice none 0 0) := (blk_cell BO.out 0).trans rfl; have hfzo_0 := blk_frozen BO.out 0))
  refine (Free68.free_some w go GO.out (SizeOf.sizeOf l0_2) (⟨a0_0, a0_1, l0_2⟩ : S68) 0 A0_2 c0_2 [] (.slice A1 0 c1) _ (Nat.le_refl _) HC0.out (by have := HZ.out; simpa using this) (Kd.R_mono (Kd.R_far (p := ⟨go, 0, none⟩) (Kd.R_types HO.out BO.out (by decide)) (fun _ hk => hk.2) (.slice A1 0 c1)) (fun _ hk => hk.1)) (below_set HB.out GO.out) (blk_put (cs := #[.slice none 0 0]) BO.out 0 (.slice A1 0 c1) rfl) HR0.out).mono ?_
  rintro e w' ⟨A9, n9, c9, rfl, bo2, ho2, hb2⟩
  clear HO HB BO BK NGB hczc_0 hczc_1 hczc_2 hfzc_0 hfzc_1 hfzc_2 hczo_0 hfzo_0
  have hq_ : w'.cell? ⟨go, 0, none⟩ = some (.slice A9 n9 c9) := (blk_cell bo2 0).trans rfl
  have hf_ := blk_frozen bo2 0
  have HO2 := Aside0.mk ho2
  have HB2 := Aside0.mk hb2
  have BO2 := Aside0.mk bo2
  clear ho2 hb2 bo2
  have hll : (Free68.frT (⟨a0_0, a0_1, l0_2⟩ : S68) 0 []).length ≤ 200000 := by
    have h1 := Free68.frT_len (⟨a0_0, a0_1, l0_2⟩ : S68) 0 []
    have h2 := HZ.out
    rw [List.length_nil] at h1; omega
  have HL := Aside0.mk hll
  clear hll
  go_wp2_with fail
  refine (sort85.calls w.heap.size (.slice A9 n9 c9) _ _ HO2.out HL.out).mono ?_
  rintro e w10 ⟨rfl, ho3, hg3⟩
  have HB3 := Aside0.mk (HB2.out.grown hg3 (below_size HB2.out) (fun k hk => own_base (Kd.own_of_R HO2.out) k hk))
  have BO3 := Aside0.mk ((hg3.block go (blk_lt BO2.out) (Kd.R_ne HO2.out BO2.out (by decide))).trans BO2.out)
  have HO3 := Aside0.mk ho3
  clear HO2 HB2 BO2 hq_ hf_ ho3 hg3
  have hq_ : w10.cell? ⟨go, 0, none⟩ = some (.slice A9 n9 c9) := (blk_cell BO3.out 0).trans rfl
  have hf_ := blk_frozen BO3.out 0
  go_wp2_with fail
  refine (compact86.calls w.heap.size (.slice A9 n9 c9) _ _ HO3.out (by rw [List.length_mergeSort]; exact HL.out)).mono ?_
  rintro e w11 ⟨v', rfl, ho4, hg4⟩
  have HB4 := Aside0.mk (HB3.out.grown hg4 (below_size HB3.out) (fun k hk => own_base (Kd.own_of_R HO3.out) k hk))
  have HO4 := Aside0.mk ho4
  clear HO3 HB3 BO3 hq_ hf_ ho4 hg4
  go_wp2
  go_ret
  exact ⟨_, rfl, HO4.out, HB4.out⟩
end Go.Proofs.Ytcjhhdecckcibaa.G

namespace Go.Proofs.Ytcjhhdecckcibaa.G
open Go.RowKit Go.Proofs.YtcjhhdecckcibaaW.PrintWords Go.Proofs.YtcjhhdecckcibaaW.PrintLast Go.Proofs.YtcjhhdecckcibaaW.PrintMore
attribute [local go_sem] max2_int min2_int max_two min_two max_three min_three max_four min_four   -- for this text's walks alone
set_option linter.unusedVariables false
set_option linter.unusedSimpArgs false

def impl_FreeIn.f (k : Nat) (l0 : List (S62)) : Option (List Int × Bool) := (impl_termOf.f k l0).bind fun bt101 => (if bt101.2.2.2 = true then ((impl_term_freeIn.f bt101.1 bt101.2.1 bt101.2.2.1).bind fun t108 => (some (t108, true))) else (some (([] : List Int), false)))
set_option maxHeartbeats 8000000 in
set_option maxRecDepth 100000 in
theorem impl_FreeIn.calls (k : Nat) (A0 : Option Addr) (c0 : Nat) (l0 : List (S62)) (r1 : List Int) (r2 : Bool) (w : World) (hr0 : Kd.C k62 w A0 l0.length l0) (hc0 : l0.length ≤ c0) (h : impl_FreeIn.f k l0 = some (r1, r2)) :
    Calls Try.prog 38 #[.slice A0 l0.length c0] w fun e w' => ∃ v0_ : Value, e = .returned (.tuple #[v0_, .bool r2]) ∧ Kd.R (Kd.int .i64) 3 w' w.heap.size (fun _ => True) v0_ r1 ∧ Below w.heap.size w w' := by
  have hu68 := Try.underlying68
  have HR0 := Aside0.mk hr0
  have HC0 := Aside0.mk hc0
  clear hr0 hc0
  have HB := Aside0.mk (Below.refl w.heap.size w)
  have H : ((impl_termOf.f k l0).bind fun bt101 => (if bt101.2.2.2 = true then ((impl_term_freeIn.f bt101.1 bt101.2.1 bt101.2.2.1).bind fun t108 => (some (t108, true))) else (some (([] : List Int), false)))) = some (r1, r2) := h
  clear h
  replace H := Option.bind_eq_some_iff.mp H
  obtain ⟨⟨t101, t102, t103, t106⟩, A20, H⟩ := H
  replace H : (if t106 = true then ((impl_term_freeIn.f t101 t102 t103).bind fun t108 => (some (t108, true))) else (some (([] : List Int), false))) = some (r1, r2) := H
  have A2 := Aside0.mk A20
  clear A20
  by_cases c3 : t106 = true
  · subst c3
    have H1 : ((impl_term_freeIn.f t101 t102 t103).bind fun t108 => (some (t108, true))) = some (r1, r2) := by rw [if_pos rfl] at H; exact H
    clear H
    have H := H1
    clear H1
    replace H := Option.bind_eq_some_iff.mp H
    obtain ⟨t108, A40, H⟩ := H
    replace H : (some (t108, true)) = some (r1, r2) := H
    have A4 := Aside0.mk A40
    clear A40
    simp only [Option.some.injEq, Prod.mk.injEq] at H
    obtain ⟨rfl, rfl⟩ := H
    go_enter Try.func38, Try.ntmps38
    go_wp2_with (first | ((with_reducible refine gate_callee (f := 46) rfl ?_); refine goesL_ (some 8) rfl rfl Try.func46 (by kernel_rfl) rfl #[.slice A0 l0.length c0] rfl (by (try simp only [List.map_toArray, List.map_cons, List.map_nil]); first | done | rfl | (simp only [List.length_drop, List.length_take]; rfl)) ?_; (with_reducible refine (impl_termOf.calls k _ _ l0 t101 t102 t103 true _ ?side1 ?side2 A2.out).mono ?_); (case side1 => repeat (first | exact HR0.out | (with_reducible refine Kd.C_alloc ?_ _) | (with_reducible refine Kd.C_drewN ?_ _) | (with_reducible refine Kd.C_drew ?_))); (case side2 => exact HC0.out); rintro e w5 ⟨v104, rfl, ho0, hb⟩; refine ⟨_, rfl, ?_⟩; have n0_ := Aside0.mk (Kd.R_lower ho0 (below_size (by repeat (first | (with_reducible first | exact HB.out | apply below_alloc | apply pw_below_drewN | apply below_drew1) | exact HB.out)))); have n1_ := Aside0.mk (below_step (by repeat (first | (with_reducible first | exact HB.out | apply below_alloc | apply pw_below_drewN | apply below_drew1) | exact HB.out)) hb); clear HB; have HO105 := n0_; have HB := n1_; clear n0_ n1_; (try clear hb); (try clear hb2); (try clear hk); (try clear hi); (try clear ho0)) | ((with_reducible refine gate_dst (N := 4) rfl ?_); refine box_event ?hg (N := 4) ?hd (cs := #[.int .i64 0, .int .i64 0, .slice none 0 0]) (t := 68) ?hr ?_; (case hd => rfl); (case hg => rfl); (case hr => first | (go_simp; done) | (go_simp; rfl)); intro gb107 hg w6 hbox hb; have n0_ := Aside0.mk (Kd.R_below (Kd.R_elderB (by (with_reducible repeat (first | apply Kd.R_alloc | apply Kd.R_drewN | apply Kd.R_drew)); exact HO105.out) gb107 (Nat.le_of_eq hg.symm)) hb); have n1_ := Aside0.mk (below_step (by repeat (first | (with_reducible first | exact HB.out | apply below_alloc | apply pw_below_drewN | apply below_drew1) | exact HB.out)) hb); have n2_ := Aside0.mk (hbox); have n3_ := Aside0.mk ((by rw [hg]; exact (below_size (by repeat (first | (with_reducible first | exact HB.out | apply below_alloc | apply pw_below_drewN | apply below_drew1) | exact HB.out))) : w.heap.size ≤ gb107)); have n4_ := Aside0.mk ((by rw [hg]; exact (below_size (by repeat (first | (with_reducible first | exact HB.out | apply below_alloc | apply pw_below_drewN | apply below_drew1) | exact HB.out))) : w.heap.size ≤ gb107)); clear HO105; clear HB; have HO105 := n0_; have HB := n1_; have BK107 := n2_; have GW107 := n3_; have GE107 := n4_; clear n0_ n1_ n2_ n3_ n4_; clear hb hbox hg; have hcz7_0 : w6.cell? ⟨gb107, 0, none⟩ = some (.int .i64 0) := (blk_cell BK107.out 0).trans rfl; have hcz7_1 : w6.cell? ⟨gb107, 1, none⟩ = some (.int .i64 0) := (blk_cell BK107.out 1).trans rfl; have hcz7_2 : w6.cell? ⟨gb107, 2, none⟩ = some (.slice none 0 0) := (blk_cell BK107.out 2).trans rfl; have hfz7_0 := blk_frozen BK107.out 0; have hfz7_1 := blk_frozen BK107.out 1; have hfz7_2 := blk_frozen BK107.out 2; obtain ⟨Ao8, co8, eo8⟩ := Kd.R_slice HO105.out; subst eo8) | ((with_reducible refine gate_callee (f := 63) rfl ?_); refine goesL_ (some 14) rfl rfl Try.func63 (by kernel_rfl) rfl #[.agg #[.int .i64 t101, .int .i64 t102, .slice Ao8 t103.length co8]] rfl (by (try simp only [List.map_toArray, List.map_cons, List.map_nil]); first | done | rfl | (simp only [List.length_drop, List.length_take]; rfl)) ?_; (with_reducible refine (impl_term_freeIn.calls t101 t102 _ _ t103 t108 _ ?side1 ?side2 A4.out).mono ?_); (case side1 => refine (Kd.R_reads' (e := 68) (base := w.heap.size) (ok := fun k_ => (True ∧ k_ ≠ gb107)) (n := t103.length) (c := co8) ?_).2.2; exact (by (with_reducible repeat (first | apply Kd.R_alloc | apply Kd.R_drewN | apply Kd.R_drew)); exact (Kd.R_mono (Kd.R_far (p := ⟨gb107, 2, none⟩) (Kd.R_far (p := ⟨gb107, 1, none⟩) (Kd.R_far (p := ⟨gb107, 0, none⟩) (Kd.R_mono HO105.out (fun k_ hk => (⟨hk, hk.2⟩ : _ ∧ k_ ≠ gb107))) (fun _ hk => hk.2) (.int .i64 t101)) (fun _ hk => hk.2) (.int .i64 t102)) (fun _ hk => hk.2) (.slice Ao8 t103.length co8)) (fun _ h_ => h_.1)))); (case side2 => exact (Kd.R_reads' HO105.out).2.1); rintro e w9 ⟨v109, rfl, ho0, hb⟩; refine ⟨_, rfl, ?_⟩; have n0_ := Aside0.mk (Kd.R_below (by (with_reducible repeat (first | apply Kd.R_alloc | apply Kd.R_drewN | apply Kd.R_drew)); exact (Kd.R_mono (Kd.R_far (p := ⟨gb107, 2, none⟩) (Kd.R_far (p := ⟨gb107, 1, none⟩) (Kd.R_far (p := ⟨gb107, 0, none⟩) (Kd.R_mono HO105.out (fun k_ hk => (⟨hk, hk.2⟩ : _ ∧ k_ ≠ gb107))) (fun _ hk => hk.2) (.int .i64 t101)) (fun _ hk => hk.2) (.int .i64 t102)) (fun _ hk => hk.2) (.slice Ao8 t103.length co8)) (fun _ h_ => h_.1))) hb); have n1_ := Aside0.mk (Kd.R_lower ho0 (below_size (by repeat (first | (with_reducible first | exact HB.out | apply below_alloc | apply pw_below_drewN | apply below_drew1 | refine below_set ?_ GE107.out) | exact HB.out)))); have n2_ := Aside0.mk (blk_below (g := gb107) (o := .cells #[.int .i64 t101, .int .i64 t102, .slice Ao8 t103.length co8] 68 (0, 0)) (by (with_reducible repeat (first | refine blk_drewN ?_ _ | refine blk_drew ?_ | refine blk_alloc ?_ _)); refine blk_put (cs := #[.int .i64 t101, .int .i64 t102, .slice none 0 0]) ?_ 2 _ rfl; (with_reducible repeat (first | refine blk_drewN ?_ _ | refine blk_drew ?_ | refine blk_alloc ?_ _)); refine blk_put (cs := #[.int .i64 t101, .int .i64 0, .slice none 0 0]) ?_ 1 _ rfl; (with_reducible repeat (first | refine blk_drewN ?_ _ | refine blk_drew ?_ | refine blk_alloc ?_ _)); refine blk_put (cs := #[.int .i64 0, .int .i64 0, .slice none 0 0]) ?_ 0 _ rfl; (with_reducible repeat (first | refine blk_drewN ?_ _ | refine blk_drew ?_ | refine blk_alloc ?_ _)); exact BK107.out) hb); have n3_ := Aside0.mk (below_step (by repeat (first | (with_reducible first | exact HB.out | apply below_alloc | apply pw_below_drewN | apply below_drew1 | refine below_set ?_ GE107.out) | exact HB.out)) hb); clear HO105; clear BK107; clear HB; have HO105 := n0_; have HO110 := n1_; have BK107 := n2_; have HB := n3_; clear n0_ n1_ n2_ n3_; (try clear hb); (try clear hb2); (try clear hk); (try clear hi); (try clear ho0)))
    go_ret2
    exact ⟨_, by first | rfl | (simp [errW_none, errW_some] <;> rfl) | (simp [*, errW_none, errW_some] <;> rfl), by (with_reducible repeat (first | apply Kd.R_alloc | apply Kd.R_drewN | apply Kd.R_drew)); exact HO110.out, by repeat (first | (with_reducible first | exact HB.out | apply below_alloc | apply pw_below_drewN | apply below_drew1 | refine below_set ?_ GE107.out) | exact HB.out)⟩
  · replace c3 := Bool.eq_false_iff.mpr c3
    subst c3
    have H1 : (some (([] : List Int), false)) = some (r1, r2) := by rw [if_neg (show ¬ (false = true) by decide)] at H; exact H
    clear H
    have H := H1
    clear H1
    simp only [Option.some.injEq, Prod.mk.injEq] at H
    obtain ⟨rfl, rfl⟩ := H
    go_enter Try.func38, Try.ntmps38
    go_wp2_with (first | ((with_reducible refine gate_callee (f := 46) rfl ?_); refine goesL_ (some 8) rfl rfl Try.func46 (by kernel_rfl) rfl #[.slice A0 l0.length c0] rfl (by (try simp only [List.map_toArray, List.map_cons, List.map_nil]); first | done | rfl | (simp only [List.length_drop, List.length_take]; rfl)) ?_; (with_reducible refine (impl_termOf.calls k _ _ l0 t101 t102 t103 false _ ?side1 ?side2 A2.out).mono ?_); (case side1 => repeat (first | exact HR0.out | (with_reducible refine Kd.C_alloc ?_ _) | (with_reducible refine Kd.C_drewN ?_ _) | (with_reducible refine Kd.C_drew ?_))); (case side2 => exact HC0.out); rintro e w10 ⟨v104, rfl, ho0, hb⟩; refine ⟨_, rfl, ?_⟩; have n0_ := Aside0.mk (Kd.R_lower ho0 (below_size (by repeat (first | (with_reducible first | exact HB.out | apply below_alloc | apply pw_below_drewN | apply below_drew1) | exact HB.out)))); have n1_ := Aside0.mk (below_step (by repeat (first | (with_reducible first | exact HB.out | apply below_alloc | apply pw_below_drewN | apply below_drew1) | exact HB.out)) hb); clear HB; have HO105 := n0_; have HB := n1_; clear n0_ n1_; (try clear hb); (try clear hb2); (try clear hk); (try clear hi); (try clear ho0)) | ((with_reducible refine gate_dst (N := 4) rfl ?_); refine box_event ?hg (N := 4) ?hd (cs := #[.int .i64 0, .int .i64 0, .slice none 0 0]) (t := 68) ?hr ?_; (case hd => rfl); (case hg => rfl); (case hr => first | (go_simp; done) | (go_simp; rfl)); intro gb107 hg w11 hbox hb; have n0_ := Aside0.mk (Kd.R_below (Kd.R_elderB (by (with_reducible repeat (first | apply Kd.R_alloc | apply Kd.R_drewN | apply Kd.R_drew)); exact HO105.out) gb107 (Nat.le_of_eq hg.symm)) hb); have n1_ := Aside0.mk (below_step (by repeat (first | (with_reducible first | exact HB.out | apply below_alloc | apply pw_below_drewN | apply below_drew1) | exact HB.out)) hb); have n2_ := Aside0.mk (hbox); have n3_ := Aside0.mk ((by rw [hg]; exact (below_size (by repeat (first | (with_reducible first | exact HB.out | apply below_alloc | apply pw_below_drewN | apply below_drew1) | exact HB.out))) : w.heap.size ≤ gb107)); have n4_ := Aside0.mk ((by rw [hg]; exact (below_size (by repeat (first | (with_reducible first | exact HB.out | apply below_alloc | apply pw_below_drewN | apply below_drew1) | exact HB.out))) : w.heap.size ≤ gb107)); clear HO105; clear HB; have HO105 := n0_; have HB := n1_; have BK107 := n2_; have GW107 := n3_; have GE107 := n4_; clear n0_ n1_ n2_ n3_ n4_; clear hb hbox hg; have hcz12_0 : w11.cell? ⟨gb107, 0, none⟩ = some (.int .i64 0) := (blk_cell BK107.out 0).trans rfl; have hcz12_1 : w11.cell? ⟨gb107, 1, none⟩ = some (.int .i64 0) := (blk_cell BK107.out 1).trans rfl; have hcz12_2 : w11.cell? ⟨gb107, 2, none⟩ = some (.slice none 0 0) := (blk_cell BK107.out 2).trans rfl; have hfz12_0 := blk_frozen BK107.out 0; have hfz12_1 := blk_frozen BK107.out 1; have hfz12_2 := blk_frozen BK107.out 2; obtain ⟨Ao13, co13, eo13⟩ := Kd.R_slice HO105.out; subst eo13))
    go_ret2
    exact ⟨_, by first | rfl | (simp [errW_none, errW_some] <;> rfl) | (simp [*, errW_none, errW_some] <;> rfl), by first | exact Kd.R_nil _ _ _ _ _ | exact Kd.N_nil _ _ _ _ _ | exact Kd.V_nil _ _ _ _ _ | exact Kd.Q_nil _ _ _ _ _ | exact Kd.S_nil _ _ _ _ _, by repeat (first | (with_reducible first | exact HB.out | apply below_alloc | apply pw_below_drewN | apply below_drew1 | refine below_set ?_ GE107.out) | exact HB.out)⟩

end Go.Proofs.Ytcjhhdecckcibaa.G

namespace Go.Proofs.Ytcjhhdecckcibaa.G
open Go.RowKit Go.Proofs.YtcjhhdecckcibaaW.PrintWords Go.Proofs.YtcjhhdecckcibaaW.PrintLast Go.Proofs.YtcjhhdecckcibaaW.PrintMore
attribute [local go_sem] max2_int min2_int max_two min_two max_three min_three max_four min_four   -- for this text's walks alone
set_option linter.unusedVariables false
set_option linter.unusedSimpArgs false

mutual
def laws_FnExactFreeIn.j0 : Nat → List (S65) → List Int → Bool → List (S62) → List Int → Bool → Bool → Option (Bool)
  | 0, _, _, _, _, _, _, _ => none
  | k + 1, x0, x4, x5, x6, x7, x8, x40 => if x40 = true then (some false) else ((laws_toTermS.f k x0).bind fun t117 => ((laws_eqTermS.f k x6 t117).bind fun t120 => (if t120 = true then ((laws_markTermS.f k x6 1).bind fun bt121 => (if bt121.1 < 0 then (laws_FnExactFreeIn.j1 k x0 x4 x5 x7 true) else ((laws_eqIntS.f k x7 x4).bind fun t123 => (if t123 = true then (laws_FnExactFreeIn.j1 k x0 x4 x5 x7 (x8 != x5)) else (laws_FnExactFreeIn.j1 k x0 x4 x5 x7 true))))) else (some false))))
def laws_FnExactFreeIn.j1 : Nat → List (S65) → List Int → Bool → List Int → Bool → Option (Bool)
  | 0, _, _, _, _, _ => none
  | k + 1, x0, x4, x5, x7, x61 => if x61 = true then (some false) else ((laws_markIntS.f k x7 1).bind fun bt124 => ((laws_heldIntS.f k bt124.2 1).bind fun t126 => (if t126 < 0 then (some false) else (if t126 = bt124.1 then ((laws_toTermS.f k x0).bind fun t127 => ((impl_FreeIn.f k t127).bind fun bt130 => ((laws_eqIntS.f k bt130.1 x4).bind fun t134 => (if t134 = true then (laws_FnExactFreeIn.j2 k bt124.2 bt124.1 (bt130.2 != x5)) else (laws_FnExactFreeIn.j2 k bt124.2 bt124.1 true))))) else (some false)))))
def laws_FnExactFreeIn.j2 : Nat → List Int → Int → Bool → Option (Bool)
  | 0, _, _, _ => none
  | k + 1, x7, x10, x87 => if x87 = true then (some false) else ((laws_heldIntS.f k x7 1).bind fun t135 => (if t135 < 0 then (some false) else (if t135 = x10 then (some true) else (some false))))
end
def laws_FnExactFreeIn.f (k : Nat) (l0 : List (S65)) : Option (Bool) := (laws_szTermS.f l0 1048576).bind fun t101 => (if t101 < 0 then (some true) else ((laws_toTermS.f k l0).bind fun t102 => ((spec_FreeIn.f k t102).bind fun bt105 => ((laws_toTermS.f k l0).bind fun t109 => ((impl_FreeIn.f k t109).bind fun bt112 => ((laws_eqIntS.f k bt112.1 bt105.1).bind fun t116 => (if t116 = true then (laws_FnExactFreeIn.j0 k l0 bt105.1 bt105.2 t109 bt112.1 bt112.2 (bt112.2 != bt105.2)) else (laws_FnExactFreeIn.j0 k l0 bt105.1 bt105.2 t109 bt112.1 bt112.2 true))))))))
set_option maxHeartbeats 8000000 in
set_option maxRecDepth 100000 in
theorem laws_FnExactFreeIn.calls (k : Nat) (A0 : Option Addr) (c0 : Nat) (l0 : List (S65)) (r : Bool) (w : World) (hr0 : Kd.C k65 w A0 l0.length l0) (hc0 : l0.length ≤ c0) (h : laws_FnExactFreeIn.f k l0 = some r) :
    Calls Try.prog 10 #[.slice A0 l0.length c0] w fun e w' => e = .returned (.bool r) ∧ Below w.heap.size w w' := by
  have HR0 := Aside0.mk hr0
  have HC0 := Aside0.mk hc0
  clear hr0 hc0
  have HB := Aside0.mk (Below.refl w.heap.size w)
  have H : ((laws_szTermS.f l0 1048576).bind fun t101 => (if t101 < 0 then (some true) else ((laws_toTermS.f k l0).bind fun t102 => ((spec_FreeIn.f k t102).bind fun bt105 => ((laws_toTermS.f k l0).bind fun t109 => ((impl_FreeIn.f k t109).bind fun bt112 => ((laws_eqIntS.f k bt112.1 bt105.1).bind fun t116 => (if t116 = true then (laws_FnExactFreeIn.j0 k l0 bt105.1 bt105.2 t109 bt112.1 bt112.2 (bt112.2 != bt105.2)) else (laws_FnExactFreeIn.j0 k l0 bt105.1 bt105.2 t109 bt112.1 bt112.2 true))))))))) = some r := h
  clear h
  replace H := Option.bind_eq_some_iff.mp H
  obtain ⟨t101, A20, H⟩ := H
  replace H : (if t101 < 0 then (some true) else ((laws_toTermS.f k l0).bind fun t102 => ((spec_FreeIn.f k t102).bind fun bt105 => ((laws_toTermS.f k l0).bind fun t109 => ((impl_FreeIn.f k t109).bind fun bt112 => ((laws_eqIntS.f k bt112.1 bt105.1).bind fun t116 => (if t116 = true then (laws_FnExactFreeIn.j0 k l0 bt105.1 bt105.2 t109 bt112.1 bt112.2 (bt112.2 != bt105.2)) else (laws_FnExactFreeIn.j0 k l0 bt105.1 bt105.2 t109 bt112.1 bt112.2 true)))))))) = some r := H
  have A2 := Aside0.mk A20
  clear A20
  by_cases c3 : t101 < 0
  · rw [if_pos c3] at H
    have c3b0 : decide (t101 < 0) = true := decide_eq_true c3
    clear c3
    obtain rfl := Option.some.inj H
    go_enter Try.func10, Try.ntmps10
    go_wp2_with (first | ((with_reducible refine gate_callee (f := 16) rfl ?_); refine goesL_ (some 16) rfl rfl Try.func16 (by kernel_rfl) rfl #[.slice A0 l0.length c0, .int .i64 1048576] rfl (by (try simp only [List.map_toArray, List.map_cons, List.map_nil]); first | done | rfl | (simp only [List.length_drop, List.length_take]; rfl)) ?_; (with_reducible refine (laws_szTermS.calls _ _ l0 1048576 t101 _ ?side1 ?side2 A2.out).mono ?_); (case side1 => repeat (first | exact HR0.out | (with_reducible refine Kd.C_alloc ?_ _) | (with_reducible refine Kd.C_drewN ?_ _) | (with_reducible refine Kd.C_drew ?_))); (case side2 => exact HC0.out); rintro e w' ⟨rfl, ⟨nd, rfl⟩⟩; refine ⟨_, rfl, ?_⟩))
    go_ret
    exact ⟨by first | rfl | (simp [errW_none, errW_some] <;> rfl) | (simp [*, errW_none, errW_some] <;> rfl), by repeat (first | (with_reducible first | exact HB.out | apply below_alloc | apply pw_below_drewN | apply below_drew1) | exact HB.out)⟩
  · rw [if_neg c3] at H
    have c3b0 : decide (t101 < 0) = false := decide_eq_false c3
    clear c3
    replace H := Option.bind_eq_some_iff.mp H
    obtain ⟨t102, A40, H⟩ := H
    replace H : ((spec_FreeIn.f k t102).bind fun bt105 => ((laws_toTermS.f k l0).bind fun t109 => ((impl_FreeIn.f k t109).bind fun bt112 => ((laws_eqIntS.f k bt112.1 bt105.1).bind fun t116 => (if t116 = true then (laws_FnExactFreeIn.j0 k l0 bt105.1 bt105.2 t109 bt112.1 bt112.2 (bt112.2 != bt105.2)) else (laws_FnExactFreeIn.j0 k l0 bt105.1 bt105.2 t109 bt112.1 bt112.2 true)))))) = some r := H
    have A4 := Aside0.mk A40
    clear A40
    replace H := Option.bind_eq_some_iff.mp H
    obtain ⟨⟨t105, t106⟩, A50, H⟩ := H
    replace H : ((laws_toTermS.f k l0).bind fun t109 => ((impl_FreeIn.f k t109).bind fun bt112 => ((laws_eqIntS.f k bt112.1 t105).bind fun t116 => (if t116 = true then (laws_FnExactFreeIn.j0 k l0 t105 t106 t109 bt112.1 bt112.2 (bt112.2 != t106)) else (laws_FnExactFreeIn.j0 k l0 t105 t106 t109 bt112.1 bt112.2 true))))) = some r := H
    have A5 := Aside0.mk A50
    clear A50
    replace H := Option.bind_eq_some_iff.mp H
    obtain ⟨t109, A60, H⟩ := H
    replace H : ((impl_FreeIn.f k t109).bind fun bt112 => ((laws_eqIntS.f k bt112.1 t105).bind fun t116 => (if t116 = true then (laws_FnExactFreeIn.j0 k l0 t105 t106 t109 bt112.1 bt112.2 (bt112.2 != t106)) else (laws_FnExactFreeIn.j0 k l0 t105 t106 t109 bt112.1 bt112.2 true)))) = some r := H
    have A6 := Aside0.mk A60
    clear A60
    replace H := Option.bind_eq_some_iff.mp H
    obtain ⟨⟨t112, t113⟩, A70, H⟩ := H
    replace H : ((laws_eqIntS.f k t112 t105).bind fun t116 => (if t116 = true then (laws_FnExactFreeIn.j0 k l0 t105 t106 t109 t112 t113 (t113 != t106)) else (laws_FnExactFreeIn.j0 k l0 t105 t106 t109 t112 t113 true))) = some r := H
    have A7 := Aside0.mk A70
    clear A70
    have HC8 := Aside0.mk H
    clear H
    go_enter Try.func10, Try.ntmps10
    go_upto_region 8 with (first | ((with_reducible refine gate_callee (f := 16) rfl ?_); refine goesL_ (some 16) rfl rfl Try.func16 (by kernel_rfl) rfl #[.slice A0 l0.length c0, .int .i64 1048576] rfl (by (try simp only [List.map_toArray, List.map_cons, List.map_nil]); first | done | rfl | (simp only [List.length_drop, List.length_take]; rfl)) ?_; (with_reducible refine (laws_szTermS.calls _ _ l0 1048576 t101 _ ?side1 ?side2 A2.out).mono ?_); (case side1 => repeat (first | exact HR0.out | (with_reducible refine Kd.C_alloc ?_ _) | (with_reducible refine Kd.C_drewN ?_ _) | (with_reducible refine Kd.C_drew ?_))); (case side2 => exact HC0.out); rintro e w' ⟨rfl, ⟨nd, rfl⟩⟩; refine ⟨_, rfl, ?_⟩) | ((with_reducible refine gate_callee (f := 18) rfl ?_); refine goesL_ (some 21) rfl rfl Try.func18 (by kernel_rfl) rfl #[.slice A0 l0.length c0] rfl (by (try simp only [List.map_toArray, List.map_cons, List.map_nil]); first | done | rfl | (simp only [List.length_drop, List.length_take]; rfl)) ?_; (with_reducible refine (laws_toTermS.calls k _ _ l0 t102 _ ?side1 ?side2 A4.out).mono ?_); (case side1 => repeat (first | exact HR0.out | (with_reducible refine Kd.C_alloc ?_ _) | (with_reducible refine Kd.C_drewN ?_ _) | (with_reducible refine Kd.C_drew ?_))); (case side2 => exact HC0.out); rintro e w9 ⟨v103, rfl, ho0, hb⟩; refine ⟨_, rfl, ?_⟩; have n0_ := Aside0.mk (Kd.R_lower ho0 (below_size (by repeat (first | (with_reducible first | exact HB.out | apply below_alloc | apply pw_below_drewN | apply below_drew1) | exact HB.out)))); have n1_ := Aside0.mk (below_step (by repeat (first | (with_reducible first | exact HB.out | apply below_alloc | apply pw_below_drewN | apply below_drew1) | exact HB.out)) hb); clear HB; have HO104 := n0_; have HB := n1_; clear n0_ n1_; (try clear hb); (try clear hb2); (try clear hk); (try clear hi); (try clear ho0); obtain ⟨Ao10, co10, eo10⟩ := Kd.R_slice HO104.out; subst eo10) | ((with_reducible refine gate_callee (f := 37) rfl ?_); refine goesL_ (some 22) rfl rfl Try.func37 (by kernel_rfl) rfl #[.slice Ao10 t102.length co10] rfl (by (try simp only [List.map_toArray, List.map_cons, List.map_nil]); first | done | rfl | (simp only [List.length_drop, List.length_take]; rfl)) ?_; (with_reducible refine (spec_FreeIn.calls k _ _ t102 t105 t106 _ ?side1 ?side2 A5.out).mono ?_); (case side1 => repeat (first | exact (Kd.R_reads' HO104.out).2.2 | (with_reducible refine Kd.C_alloc ?_ _) | (with_reducible refine Kd.C_drewN ?_ _) | (with_reducible refine Kd.C_drew ?_))); (case side2 => exact (Kd.R_reads' HO104.out).2.1); rintro e w11 ⟨v107, rfl, ho0, hb⟩; refine ⟨_, rfl, ?_⟩; have n0_ := Aside0.mk (Kd.R_below (by (with_reducible repeat (first | apply Kd.R_alloc | apply Kd.R_drewN | apply Kd.R_drew)); exact HO104.out) hb); have n1_ := Aside0.mk (Kd.R_lower ho0 (below_size (by repeat (first | (with_reducible first | exact HB.out | apply below_alloc | apply pw_below_drewN | apply below_drew1) | exact HB.out)))); have n2_ := Aside0.mk (below_step (by repeat (first | (with_reducible first | exact HB.out | apply below_alloc | apply pw_below_drewN | apply below_drew1) | exact HB.out)) hb); clear HO104; clear HB; have HO104 := n0_; have HO108 := n1_; have HB := n2_; clear n0_ n1_ n2_; (try clear hb); (try clear hb2); (try clear hk); (try clear hi); (try clear ho0)) | ((with_reducible refine gate_callee (f := 18) rfl ?_); refine goesL_ (some 26) rfl rfl Try.func18 (by kernel_rfl) rfl #[.slice A0 l0.length c0] rfl (by (try simp only [List.map_toArray, List.map_cons, List.map_nil]); first | done | rfl | (simp only [List.length_drop, List.length_take]; rfl)) ?_; (with_reducible refine (laws_toTermS.calls k _ _ l0 t109 _ ?side1 ?side2 A6.out).mono ?_); (case side1 => repeat (first | exact (Kd.C_below HR0.out HB.out) | (with_reducible refine Kd.C_alloc ?_ _) | (with_reducible refine Kd.C_drewN ?_ _) | (with_reducible refine Kd.C_drew ?_))); (case side2 => exact HC0.out); rintro e w12 ⟨v110, rfl, ho0, hb⟩; refine ⟨_, rfl, ?_⟩; have n0_ := Aside0.mk (Kd.R_elder' (by (with_reducible repeat (first | apply Kd.R_alloc | apply Kd.R_drewN | apply Kd.R_drew)); exact HO104.out) (Kd.R_base ho0) hb); have n1_ := Aside0.mk (Kd.R_below (by (with_reducible repeat (first | apply Kd.R_alloc | apply Kd.R_drewN | apply Kd.R_drew)); exact HO108.out) hb); have n2_ := Aside0.mk (Kd.R_lower (Kd.R_new' ho0 (Kd.R_lt (by (with_reducible repeat (first | apply Kd.R_alloc | apply Kd.R_drewN | apply Kd.R_drew)); exact HO104.out))) (below_size (by repeat (first | (with_reducible first | exact HB.out | apply below_alloc | apply pw_below_drewN | apply below_drew1) | exact HB.out)))); have n3_ := Aside0.mk (below_step (by repeat (first | (with_reducible first | exact HB.out | apply below_alloc | apply pw_below_drewN | apply below_drew1) | exact HB.out)) hb); clear HO104; clear HO108; clear HB; have HO104 := n0_; have HO108 := n1_; have HO111 := n2_; have HB := n3_; clear n0_ n1_ n2_ n3_; (try clear hb); (try clear hb2); (try clear hk); (try clear hi); (try clear ho0); obtain ⟨Ao13, co13, eo13⟩ := Kd.R_slice HO111.out; subst eo13) | ((with_reducible refine gate_callee (f := 38) rfl ?_); refine goesL_ (some 29) rfl rfl Try.func38 (by kernel_rfl) rfl #[.slice Ao13 t109.length co13] rfl (by (try simp only [List.map_toArray, List.map_cons, List.map_nil]); first | done | rfl | (simp only [List.length_drop, List.length_take]; rfl)) ?_; (with_reducible refine (impl_FreeIn.calls k _ _ t109 t112 t113 _ ?side1 ?side2 A7.out).mono ?_); (case side1 => repeat (first | exact (Kd.R_reads' HO111.out).2.2 | (with_reducible refine Kd.C_alloc ?_ _) | (with_reducible refine Kd.C_drewN ?_ _) | (with_reducible refine Kd.C_drew ?_))); (case side2 => exact (Kd.R_reads' HO111.out).2.1); rintro e w14 ⟨v114, rfl, ho0, hb⟩; refine ⟨_, rfl, ?_⟩; have n0_ := Aside0.mk (Kd.R_below (by (with_reducible repeat (first | apply Kd.R_alloc | apply Kd.R_drewN | apply Kd.R_drew)); exact HO104.out) hb); have n1_ := Aside0.mk (Kd.R_elder' (by (with_reducible repeat (first | apply Kd.R_alloc | apply Kd.R_drewN | apply Kd.R_drew)); exact HO108.out) (Kd.R_base ho0) hb); have n2_ := Aside0.mk (Kd.R_below (by (with_reducible repeat (first | apply Kd.R_alloc | apply Kd.R_drewN | apply Kd.R_drew)); exact HO111.out) hb); have n3_ := Aside0.mk (Kd.R_lower (Kd.R_new' ho0 (Kd.R_lt (by (with_reducible repeat (first | apply Kd.R_alloc | apply Kd.R_drewN | apply Kd.R_drew)); exact HO108.out))) (below_size (by repeat (first | (with_reducible first | exact HB.out | apply below_alloc | apply pw_below_drewN | apply below_drew1) | exact HB.out)))); have n4_ := Aside0.mk (below_step (by repeat (first | (with_reducible first | exact HB.out | apply below_alloc | apply pw_below_drewN | apply below_drew1) | exact HB.out)) hb); clear HO104; clear HO108; clear HO111; clear HB; have HO104 := n0_; have HO108 := n1_; have HO111 := n2_; have HO115 := n3_; have HB := n4_; clear n0_ n1_ n2_ n3_ n4_; (try clear hb); (try clear hb2); (try clear hk); (try clear hi); (try clear ho0)))
    (try simp only [Act.put, List.setIfInBounds_toArray, List.set_cons_zero, List.set_cons_succ])
    go_cut [40] (fun v40 wc => ∃ (kq : Nat) (x40_7 : Bool), v40 = .bool x40_7 ∧ Aside0 (laws_FnExactFreeIn.j0 kq l0 t105 t106 t109 t112 t113 x40_7 = some r) ∧ Aside0 (kq ≤ k) ∧ Aside0 (Kd.R (Kd.int .i64) 3 wc w.heap.size (fun k_ => some k_ ≠ (v114 : Value).ownBlock) v107 t105) ∧ Aside0 (Kd.R k62 62 wc w.heap.size (fun _ => True) (.slice Ao13 t109.length co13) t109) ∧ Aside0 (Kd.R (Kd.int .i64) 3 wc w.heap.size (fun k_ => some k_ ≠ (v107 : Value).ownBlock) v114 t112) ∧ Aside0 (Below w.heap.size w wc))
    case first =>
      have H := HC8.out
      clear HC8
      replace H := Option.bind_eq_some_iff.mp H
      obtain ⟨t116, A150, H⟩ := H
      replace H : (if t116 = true then (laws_FnExactFreeIn.j0 k l0 t105 t106 t109 t112 t113 (t113 != t106)) else (laws_FnExactFreeIn.j0 k l0 t105 t106 t109 t112 t113 true)) = some r := H
      have A15 := Aside0.mk A150
      clear A150
      by_cases c16 : t116 = true
      · subst c16
        have H1 : (laws_FnExactFreeIn.j0 k l0 t105 t106 t109 t112 t113 (t113 != t106)) = some r := by rw [if_pos rfl] at H; exact H
        clear H
        have H := H1
        clear H1
        have H' := Aside0.mk H
        clear H
        obtain ⟨Ao17, co17, eo17⟩ := Kd.R_slice HO115.out
        subst eo17
        obtain ⟨Ao18, co18, eo18⟩ := Kd.R_slice HO108.out
        subst eo18
        go_wp2_with (first | ((with_reducible refine gate_callee (f := 23) rfl ?_); refine goesL_ (some 34) rfl rfl Try.func23 (by kernel_rfl) rfl #[.slice Ao17 t112.length co17, .slice Ao18 t105.length co18] rfl (by (try simp only [List.map_toArray, List.map_cons, List.map_nil]); first | done | rfl | (simp only [List.length_drop, List.length_take]; rfl)) ?_; (with_reducible refine (laws_eqIntS.calls k _ _ t112 _ _ t105 true _ ?side1 ?side2 ?side3 ?side4 A15.out).mono ?_); (case side1 => repeat (first | exact (Kd.R_reads' HO115.out).2.2 | (with_reducible refine Kd.C_alloc ?_ _) | (with_reducible refine Kd.C_drewN ?_ _) | (with_reducible refine Kd.C_drew ?_))); (case side2 => exact (Kd.R_reads' HO115.out).2.1); (case side3 => repeat (first | exact (Kd.R_reads' HO108.out).2.2 | (with_reducible refine Kd.C_alloc ?_ _) | (with_reducible refine Kd.C_drewN ?_ _) | (with_reducible refine Kd.C_drew ?_))); (case side4 => exact (Kd.R_reads' HO108.out).2.1); rintro e w' ⟨rfl, ⟨nd, rfl⟩⟩; refine ⟨_, rfl, ?_⟩))
        go_meet
        case rel => exact ⟨_, ((t113 != t106)), (by first | rfl | (simp; done) | (simp [*]; done)), H', ⟨by first | omega | exact Nat.le_refl _⟩, ⟨by (with_reducible repeat (first | apply Kd.R_alloc | apply Kd.R_drewN | apply Kd.R_drew)); exact Kd.R_mono HO108.out (fun _ hk => hk.2)⟩, ⟨by (with_reducible repeat (first | apply Kd.R_alloc | apply Kd.R_drewN | apply Kd.R_drew)); exact Kd.R_mono HO111.out (fun _ hk => trivial)⟩, ⟨by (with_reducible repeat (first | apply Kd.R_alloc | apply Kd.R_drewN | apply Kd.R_drew)); exact Kd.R_mono HO115.out (fun _ hk => hk.2)⟩, ⟨by repeat (first | (with_reducible first | exact HB.out | apply below_alloc | apply pw_below_drewN | apply below_drew1) | exact HB.out)⟩⟩
      · replace c16 := Bool.eq_false_iff.mpr c16
        subst c16
        have H1 : (laws_FnExactFreeIn.j0 k l0 t105 t106 t109 t112 t113 true) = some r := by rw [if_neg (show ¬ (false = true) by decide)] at H; exact H
        clear H
        have H := H1
        clear H1
        have H' := Aside0.mk H
        clear H
        obtain ⟨Ao19, co19, eo19⟩ := Kd.R_slice HO115.out
        subst eo19
        obtain ⟨Ao20, co20, eo20⟩ := Kd.R_slice HO108.out
        subst eo20
        go_wp2_with (first | ((with_reducible refine gate_callee (f := 23) rfl ?_); refine goesL_ (some 34) rfl rfl Try.func23 (by kernel_rfl) rfl #[.slice Ao19 t112.length co19, .slice Ao20 t105.length co20] rfl (by (try simp only [List.map_toArray, List.map_cons, List.map_nil]); first | done | rfl | (simp only [List.length_drop, List.length_take]; rfl)) ?_; (with_reducible refine (laws_eqIntS.calls k _ _ t112 _ _ t105 false _ ?side1 ?side2 ?side3 ?side4 A15.out).mono ?_); (case side1 => repeat (first | exact (Kd.R_reads' HO115.out).2.2 | (with_reducible refine Kd.C_alloc ?_ _) | (with_reducible refine Kd.C_drewN ?_ _) | (with_reducible refine Kd.C_drew ?_))); (case side2 => exact (Kd.R_reads' HO115.out).2.1); (case side3 => repeat (first | exact (Kd.R_reads' HO108.out).2.2 | (with_reducible refine Kd.C_alloc ?_ _) | (with_reducible refine Kd.C_drewN ?_ _) | (with_reducible refine Kd.C_drew ?_))); (case side4 => exact (Kd.R_reads' HO108.out).2.1); rintro e w' ⟨rfl, ⟨nd, rfl⟩⟩; refine ⟨_, rfl, ?_⟩))
        go_meet
        case rel => exact ⟨_, (true), (by first | rfl | (simp; done) | (simp [*]; done)), H', ⟨by first | omega | exact Nat.le_refl _⟩, ⟨by (with_reducible repeat (first | apply Kd.R_alloc | apply Kd.R_drewN | apply Kd.R_drew)); exact Kd.R_mono HO108.out (fun _ hk => hk.2)⟩, ⟨by (with_reducible repeat (first | apply Kd.R_alloc | apply Kd.R_drewN | apply Kd.R_drew)); exact Kd.R_mono HO111.out (fun _ hk => trivial)⟩, ⟨by (with_reducible repeat (first | apply Kd.R_alloc | apply Kd.R_drewN | apply Kd.R_drew)); exact Kd.R_mono HO115.out (fun _ hk => hk.2)⟩, ⟨by repeat (first | (with_reducible first | exact HB.out | apply below_alloc | apply pw_below_drewN | apply below_drew1) | exact HB.out)⟩⟩
    case rest =>
      clear HC8
      try clear c1
      try clear c2
      try clear p2
      try clear c3
      try clear c3b0
      try clear c10
      try clear c16
      try clear c18
      obtain ⟨kq, x40_7, rfl, HA, HJ7, HO_4, HO_6, HO_7, HB⟩ := hcut
      cases kq with
      | zero => exact absurd HA.out (by simp [laws_FnExactFreeIn.j0])
      | succ kj7 =>
        have H := HA.out
        clear HA
        simp only [laws_FnExactFreeIn.j0] at H
        by_cases c21 : x40_7 = true
        · subst c21
          have H1 : (some false) = some r := by rw [if_pos rfl] at H; exact H
          clear H
          have H := H1
          clear H1
          obtain rfl := Option.some.inj H
          go_wp2
          go_ret
          exact ⟨by first | rfl | (simp [errW_none, errW_some] <;> rfl) | (simp [*, errW_none, errW_some] <;> rfl), by repeat (first | (with_reducible first | exact HB.out | apply below_alloc | apply pw_below_drewN | apply below_drew1) | exact HB.out)⟩
        · replace c21 := Bool.eq_false_iff.mpr c21
          subst c21
          have H1 : ((laws_toTermS.f kj7 l0).bind fun t117 => ((laws_eqTermS.f kj7 t109 t117).bind fun t120 => (if t120 = true then ((laws_markTermS.f kj7 t109 1).bind fun bt121 => (if bt121.1 < 0 then (laws_FnExactFreeIn.j1 kj7 l0 t105 t106 t112 true) else ((laws_eqIntS.f kj7 t112 t105).bind fun t123 => (if t123 = true then (laws_FnExactFreeIn.j1 kj7 l0 t105 t106 t112 (t113 != t106)) else (laws_FnExactFreeIn.j1 kj7 l0 t105 t106 t112 true))))) else (some false)))) = some r := by rw [if_neg (show ¬ (false = true) by decide)] at H; exact H
          clear H
          have H := H1
          clear H1
          replace H := Option.bind_eq_some_iff.mp H
          obtain ⟨t117, A220, H⟩ := H
          replace H : ((laws_eqTermS.f kj7 t109 t117).bind fun t120 => (if t120 = true then ((laws_markTermS.f kj7 t109 1).bind fun bt121 => (if bt121.1 < 0 then (laws_FnExactFreeIn.j1 kj7 l0 t105 t106 t112 true) else ((laws_eqIntS.f kj7 t112 t105).bind fun t123 => (if t123 = true then (laws_FnExactFreeIn.j1 kj7 l0 t105 t106 t112 (t113 != t106)) else (laws_FnExactFreeIn.j1 kj7 l0 t105 t106 t112 true))))) else (some false))) = some r := H
          have A22 := Aside0.mk A220
          clear A220
          replace H := Option.bind_eq_some_iff.mp H
          obtain ⟨t120, A230, H⟩ := H
          replace H : (if t120 = true then ((laws_markTermS.f kj7 t109 1).bind fun bt121 => (if bt121.1 < 0 then (laws_FnExactFreeIn.j1 kj7 l0 t105 t106 t112 true) else ((laws_eqIntS.f kj7 t112 t105).bind fun t123 => (if t123 = true then (laws_FnExactFreeIn.j1 kj7 l0 t105 t106 t112 (t113 != t106)) else (laws_FnExactFreeIn.j1 kj7 l0 t105 t106 t112 true))))) else (some false)) = some r := H
          have A23 := Aside0.mk A230
          clear A230
          by_cases c24 : t120 = true
          · subst c24
            have H1 : ((laws_markTermS.f kj7 t109 1).bind fun bt121 => (if bt121.1 < 0 then (laws_FnExactFreeIn.j1 kj7 l0 t105 t106 t112 true) else ((laws_eqIntS.f kj7 t112 t105).bind fun t123 => (if t123 = true then (laws_FnExactFreeIn.j1 kj7 l0 t105 t106 t112 (t113 != t106)) else (laws_FnExactFreeIn.j1 kj7 l0 t105 t106 t112 true))))) = some r := by rw [if_pos rfl] at H; exact H
            clear H
            have H := H1
            clear H1
            replace H := Option.bind_eq_some_iff.mp H
            obtain ⟨⟨t121, t122⟩, A250, H⟩ := H
            replace H : (if t121 < 0 then (laws_FnExactFreeIn.j1 kj7 l0 t105 t106 t112 true) else ((laws_eqIntS.f kj7 t112 t105).bind fun t123 => (if t123 = true then (laws_FnExactFreeIn.j1 kj7 l0 t105 t106 t112 (t113 != t106)) else (laws_FnExactFreeIn.j1 kj7 l0 t105 t106 t112 true)))) = some r := H
            have A25 := Aside0.mk A250
            clear A250
            have HC26 := Aside0.mk H
            clear H
            go_upto_region 14 with (first | ((with_reducible refine gate_callee (f := 18) rfl ?_); refine goesL_ (some 43) rfl rfl Try.func18 (by kernel_rfl) rfl #[.slice A0 l0.length c0] rfl (by (try simp only [List.map_toArray, List.map_cons, List.map_nil]); first | done | rfl | (simp only [List.length_drop, List.length_take]; rfl)) ?_; (with_reducible refine (laws_toTermS.calls kj7 _ _ l0 t117 _ ?side1 ?side2 A22.out).mono ?_); (case side1 => repeat (first | exact (Kd.C_below HR0.out HB.out) | (with_reducible refine Kd.C_alloc ?_ _) | (with_reducible refine Kd.C_drewN ?_ _) | (with_reducible refine Kd.C_drew ?_))); (case side2 => exact HC0.out); rintro e w27 ⟨v118, rfl, ho0, hb⟩; refine ⟨_, rfl, ?_⟩; have n0_ := Aside0.mk (Kd.R_below (by (with_reducible repeat (first | apply Kd.R_alloc | apply Kd.R_drewN | apply Kd.R_drew)); exact HO_4.out) hb); have n1_ := Aside0.mk (Kd.R_elder' (by (with_reducible repeat (first | apply Kd.R_alloc | apply Kd.R_drewN | apply Kd.R_drew)); exact HO_6.out) (Kd.R_base ho0) hb); have n2_ := Aside0.mk (Kd.R_below (by (with_reducible repeat (first | apply Kd.R_alloc | apply Kd.R_drewN | apply Kd.R_drew)); exact HO_7.out) hb); have n3_ := Aside0.mk (Kd.R_lower (Kd.R_new' ho0 (Kd.R_lt (by (with_reducible repeat (first | apply Kd.R_alloc | apply Kd.R_drewN | apply Kd.R_drew)); exact HO_6.out))) (below_size (by repeat (first | (with_reducible first | exact HB.out | apply below_alloc | apply pw_below_drewN | apply below_drew1) | exact HB.out)))); have n4_ := Aside0.mk (below_step (by repeat (first | (with_reducible first | exact HB.out | apply below_alloc | apply pw_below_drewN | apply below_drew1) | exact HB.out)) hb); clear HO_4; clear HO_6; clear HO_7; clear HB; have HO_4 := n0_; have HO_6 := n1_; have HO_7 := n2_; have HO119 := n3_; have HB := n4_; clear n0_ n1_ n2_ n3_ n4_; (try clear hb); (try clear hb2); (try clear hk); (try clear hi); (try clear ho0); obtain ⟨Ao28, co28, eo28⟩ := Kd.R_slice HO119.out; subst eo28) | ((with_reducible refine gate_callee (f := 20) rfl ?_); refine goesL_ (some 44) rfl rfl Try.func20 (by kernel_rfl) rfl #[.slice Ao13 t109.length co13, .slice Ao28 t117.length co28] rfl (by (try simp only [List.map_toArray, List.map_cons, List.map_nil]); first | done | rfl | (simp only [List.length_drop, List.length_take]; rfl)) ?_; (with_reducible refine (laws_eqTermS.calls kj7 _ _ t109 _ _ t117 true _ ?side1 ?side2 ?side3 ?side4 A23.out).mono ?_); (case side1 => repeat (first | exact (Kd.R_reads' HO_6.out).2.2 | (with_reducible refine Kd.C_alloc ?_ _) | (with_reducible refine Kd.C_drewN ?_ _) | (with_reducible refine Kd.C_drew ?_))); (case side2 => exact (Kd.R_reads' HO_6.out).2.1); (case side3 => repeat (first | exact (Kd.R_reads' HO119.out).2.2 | (with_reducible refine Kd.C_alloc ?_ _) | (with_reducible refine Kd.C_drewN ?_ _) | (with_reducible refine Kd.C_drew ?_))); (case side4 => exact (Kd.R_reads' HO119.out).2.1); rintro e w29 ⟨rfl, hb⟩; refine ⟨_, rfl, ?_⟩; have n0_ := Aside0.mk (Kd.R_below (by (with_reducible repeat (first | apply Kd.R_alloc | apply Kd.R_drewN | apply Kd.R_drew)); exact HO_4.out) hb); have n1_ := Aside0.mk (Kd.R_below (by (with_reducible repeat (first | apply Kd.R_alloc | apply Kd.R_drewN | apply Kd.R_drew)); exact HO_6.out) hb); have n2_ := Aside0.mk (Kd.R_below (by (with_reducible repeat (first | apply Kd.R_alloc | apply Kd.R_drewN | apply Kd.R_drew)); exact HO_7.out) hb); have n3_ := Aside0.mk (Kd.R_below (by (with_reducible repeat (first | apply Kd.R_alloc | apply Kd.R_drewN | apply Kd.R_drew)); exact HO119.out) hb); have n4_ := Aside0.mk (below_step (by repeat (first | (with_reducible first | exact HB.out | apply below_alloc | apply pw_below_drewN | apply below_drew1) | exact HB.out)) hb); clear HO_4; clear HO_6; clear HO_7; clear HO119; clear HB; have HO_4 := n0_; have HO_6 := n1_; have HO_7 := n2_; have HO119 := n3_; have HB := n4_; clear n0_ n1_ n2_ n3_ n4_; (try clear hb); (try clear hb2); (try clear hk); (try clear hi)) | ((with_reducible refine gate_callee (f := 24) rfl ?_); refine goesL_ (some 48) rfl rfl Try.func24 (by kernel_rfl) rfl #[.slice Ao13 t109.length co13, .int .i64 1] rfl (by (try simp only [List.map_toArray, List.map_cons, List.map_nil]); first | done | rfl | (simp only [List.length_drop, List.length_take]; rfl)) ?_; (with_reducible refine (laws_markTermS.calls kj7 (fun k_ => some k_ = (.slice Ao13 t109.length co13 : Value).ownBlock) (.slice Ao13 t109.length co13) t109 1 t121 t122 w _ ?side1 ?side2 A25.out).mono ?_); (case side1 => repeat (first | (with_reducible first | exact HB.out | apply below_alloc | apply pw_below_drewN | apply below_drew1) | exact HB.out)); (case side2 => exact Kd.R_tight rfl HO_6.out); rintro e w30 ⟨rfl, hy0, hb, hkp⟩; refine ⟨_, rfl, ?_⟩; have n0_ := Aside0.mk (Kd.R_mono (ok' := fun k_ => some k_ ≠ (v114 : Value).ownBlock) (Kd.R_keptB ((Kd.R_apart' HO_4.out (Kd.R_typed HO_6.out) (by decide))) hkp (fun k_ hk_ hs_ => (hk_.2) hs_)) (fun k_ hk_ => hk_.1.1)); have n1_ := Aside0.mk (Kd.R_reok rfl hy0 (fun k_ e_ => HO_6.out.1 k_ e_)); have n2_ := Aside0.mk (Kd.R_mono (ok' := fun k_ => some k_ ≠ (v107 : Value).ownBlock) (Kd.R_keptB ((Kd.R_apart' HO_7.out (Kd.R_typed HO_6.out) (by decide))) hkp (fun k_ hk_ hs_ => (hk_.2) hs_)) (fun k_ hk_ => hk_.1.1)); have n3_ := Aside0.mk (Kd.R_mono (ok' := fun k_ => some k_ ≠ (.slice Ao13 t109.length co13 : Value).ownBlock) (Kd.R_keptB (HO119.out) hkp (fun k_ hk_ hs_ => (hk_.2) hs_)) (fun k_ hk_ => hk_.1.2)); have n4_ := Aside0.mk (hb); clear HO_4; clear HO_6; clear HO_7; clear HO119; clear HB; have HO_4 := n0_; have HO_6 := n1_; have HO_7 := n2_; have HO119 := n3_; have HB := n4_; clear n0_ n1_ n2_ n3_ n4_; (try clear hb); (try clear hkp); (try clear hy0)))
            (try simp only [Act.put, List.setIfInBounds_toArray, List.set_cons_zero, List.set_cons_succ])
            go_cut [61] (fun v61 wc => ∃ (kq : Nat) (x61_25 : Bool), v61 = .bool x61_25 ∧ Aside0 (laws_FnExactFreeIn.j1 kq l0 t105 t106 t112 x61_25 = some r) ∧ Aside0 (kq ≤ kj7) ∧ Aside0 (Kd.R (Kd.int .i64) 3 wc w.heap.size (fun k_ => some k_ ≠ (v114 : Value).ownBlock) v107 t105) ∧ Aside0 (Kd.R (Kd.int .i64) 3 wc w.heap.size (fun k_ => some k_ ≠ (v107 : Value).ownBlock) v114 t112) ∧ Aside0 (Below w.heap.size w wc))
            case first =>
              have H := HC26.out
              clear HC26
              by_cases c31 : t121 < 0
              · rw [if_pos c31] at H
                have c31b0 : decide (t121 < 0) = true := decide_eq_true c31
                clear c31
                (first | rw [c31b0] | (simp only [i64_w, i32_w]; rw [c31b0]) | skip)
                have H' := Aside0.mk H
                clear H
                go_wp2
                go_meet
                case rel => exact ⟨_, (true), (by first | rfl | (simp; done) | (simp [*]; done)), H', ⟨by have := HJ7.out; first | omega | exact Nat.le_refl _⟩, ⟨by (with_reducible repeat (first | apply Kd.R_alloc | apply Kd.R_drewN | apply Kd.R_drew)); exact HO_4.out⟩, ⟨by (with_reducible repeat (first | apply Kd.R_alloc | apply Kd.R_drewN | apply Kd.R_drew)); exact HO_7.out⟩, ⟨by repeat (first | (with_reducible first | exact HB.out | apply below_alloc | apply pw_below_drewN | apply below_drew1) | exact HB.out)⟩⟩
              · rw [if_neg c31] at H
                have c31b0 : decide (t121 < 0) = false := decide_eq_false c31
                clear c31
                (first | rw [c31b0] | (simp only [i64_w, i32_w]; rw [c31b0]) | skip)
                replace H := Option.bind_eq_some_iff.mp H
                obtain ⟨t123, A320, H⟩ := H
                replace H : (if t123 = true then (laws_FnExactFreeIn.j1 kj7 l0 t105 t106 t112 (t113 != t106)) else (laws_FnExactFreeIn.j1 kj7 l0 t105 t106 t112 true)) = some r := H
                have A32 := Aside0.mk A320
                clear A320
                by_cases c33 : t123 = true
                · subst c33
                  have H1 : (laws_FnExactFreeIn.j1 kj7 l0 t105 t106 t112 (t113 != t106)) = some r := by rw [if_pos rfl] at H; exact H
                  clear H
                  have H := H1
                  clear H1
                  have H' := Aside0.mk H
                  clear H
                  obtain ⟨Ao34, co34, eo34⟩ := Kd.R_slice HO_7.out
                  subst eo34
                  obtain ⟨Ao35, co35, eo35⟩ := Kd.R_slice HO_4.out
                  subst eo35
                  go_wp2_with (first | (go_at_call 23; (with_reducible refine (laws_eqIntS.calls kj7 _ _ t112 _ _ t105 true _ ?side1 ?side2 ?side3 ?side4 A32.out).mono ?_); (case side1 => repeat (first | exact (Kd.R_reads' HO_7.out).2.2 | (with_reducible refine Kd.C_alloc ?_ _) | (with_reducible refine Kd.C_drewN ?_ _) | (with_reducible refine Kd.C_drew ?_))); (case side2 => exact (Kd.R_reads' HO_7.out).2.1); (case side3 => repeat (first | exact (Kd.R_reads' HO_4.out).2.2 | (with_reducible refine Kd.C_alloc ?_ _) | (with_reducible refine Kd.C_drewN ?_ _) | (with_reducible refine Kd.C_drew ?_))); (case side4 => exact (Kd.R_reads' HO_4.out).2.1); rintro e w' ⟨rfl, ⟨nd, rfl⟩⟩))
                  go_meet
                  case rel => exact ⟨_, ((t113 != t106)), (by first | rfl | (simp; done) | (simp [*]; done)), H', ⟨by have := HJ7.out; first | omega | exact Nat.le_refl _⟩, ⟨by (with_reducible repeat (first | apply Kd.R_alloc | apply Kd.R_drewN | apply Kd.R_drew)); exact HO_4.out⟩, ⟨by (with_reducible repeat (first | apply Kd.R_alloc | apply Kd.R_drewN | apply Kd.R_drew)); exact HO_7.out⟩, ⟨by repeat (first | (with_reducible first | exact HB.out | apply below_alloc | apply pw_below_drewN | apply below_drew1) | exact HB.out)⟩⟩
                · replace c33 := Bool.eq_false_iff.mpr c33
                  subst c33
                  have H1 : (laws_FnExactFreeIn.j1 kj7 l0 t105 t106 t112 true) = some r := by rw [if_neg (show ¬ (false = true) by decide)] at H; exact H
                  clear H
                  have H := H1
                  clear H1
                  have H' := Aside0.mk H
                  clear H
                  obtain ⟨Ao36, co36, eo36⟩ := Kd.R_slice HO_7.out
                  subst eo36
                  obtain ⟨Ao37, co37, eo37⟩ := Kd.R_slice HO_4.out
                  subst eo37
                  go_wp2_with (first | (go_at_call 23; (with_reducible refine (laws_eqIntS.calls kj7 _ _ t112 _ _ t105 false _ ?side1 ?side2 ?side3 ?side4 A32.out).mono ?_); (case side1 => repeat (first | exact (Kd.R_reads' HO_7.out).2.2 | (with_reducible refine Kd.C_alloc ?_ _) | (with_reducible refine Kd.C_drewN ?_ _) | (with_reducible refine Kd.C_drew ?_))); (case side2 => exact (Kd.R_reads' HO_7.out).2.1); (case side3 => repeat (first | exact (Kd.R_reads' HO_4.out).2.2 | (with_reducible refine Kd.C_alloc ?_ _) | (with_reducible refine Kd.C_drewN ?_ _) | (with_reducible refine Kd.C_drew ?_))); (case side4 => exact (Kd.R_reads' HO_4.out).2.1); rintro e w' ⟨rfl, ⟨nd, rfl⟩⟩))
                  go_meet
                  case rel => exact ⟨_, (true), (by first | rfl | (simp; done) | (simp [*]; done)), H', ⟨by have := HJ7.out; first | omega | exact Nat.le_refl _⟩, ⟨by (with_reducible repeat (first | apply Kd.R_alloc | apply Kd.R_drewN | apply Kd.R_drew)); exact HO_4.out⟩, ⟨by (with_reducible repeat (first | apply Kd.R_alloc | apply Kd.R_drewN | apply Kd.R_drew)); exact HO_7.out⟩, ⟨by repeat (first | (with_reducible first | exact HB.out | apply below_alloc | apply pw_below_drewN | apply below_drew1) | exact HB.out)⟩⟩
            case rest =>
              clear HC26
              try clear c1
              try clear c2
              try clear p2
              try clear c3
              try clear c3b0
              try clear c10
              try clear c16
              try clear c18
              try clear c20
              try clear c21
              try clear c23
              try clear c24
              try clear c31
              try clear c31b0
              try clear c33
              try clear c37
              try clear p2
              obtain ⟨kq, x61_25, rfl, HA, HJ25, HO_4, HO_7, HB⟩ := hcut
              cases kq with
              | zero => exact absurd HA.out (by simp [laws_FnExactFreeIn.j1])
              | succ kj25 =>
                have H := HA.out
                clear HA
                simp only [laws_FnExactFreeIn.j1] at H
                by_cases c38 : x61_25 = true
                · subst c38
                  have H1 : (some false) = some r := by rw [if_pos rfl] at H; exact H
                  clear H
                  have H := H1
                  clear H1
                  obtain rfl := Option.some.inj H
                  go_wp2
                  go_ret
                  exact ⟨by first | rfl | (simp [errW_none, errW_some] <;> rfl) | (simp [*, errW_none, errW_some] <;> rfl), by repeat (first | (with_reducible first | exact HB.out | apply below_alloc | apply pw_below_drewN | apply below_drew1) | exact HB.out)⟩
                · replace c38 := Bool.eq_false_iff.mpr c38
                  subst c38
                  have H1 : ((laws_markIntS.f kj25 t112 1).bind fun bt124 => ((laws_heldIntS.f kj25 bt124.2 1).bind fun t126 => (if t126 < 0 then (some false) else (if t126 = bt124.1 then ((laws_toTermS.f kj25 l0).bind fun t127 => ((impl_FreeIn.f kj25 t127).bind fun bt130 => ((laws_eqIntS.f kj25 bt130.1 t105).bind fun t134 => (if t134 = true then (laws_FnExactFreeIn.j2 kj25 bt124.2 bt124.1 (bt130.2 != t106)) else (laws_FnExactFreeIn.j2 kj25 bt124.2 bt124.1 true))))) else (some false))))) = some r := by rw [if_neg (show ¬ (false = true) by decide)] at H; exact H
                  clear H
                  have H := H1
                  clear H1
                  replace H := Option.bind_eq_some_iff.mp H
                  obtain ⟨⟨t124, t125⟩, A390, H⟩ := H
                  replace H : ((laws_heldIntS.f kj25 t125 1).bind fun t126 => (if t126 < 0 then (some false) else (if t126 = t124 then ((laws_toTermS.f kj25 l0).bind fun t127 => ((impl_FreeIn.f kj25 t127).bind fun bt130 => ((laws_eqIntS.f kj25 bt130.1 t105).bind fun t134 => (if t134 = true then (laws_FnExactFreeIn.j2 kj25 t125 t124 (bt130.2 != t106)) else (laws_FnExactFreeIn.j2 kj25 t125 t124 true))))) else (some false)))) = some r := H
                  have A39 := Aside0.mk A390
                  clear A390
                  replace H := Option.bind_eq_some_iff.mp H
                  obtain ⟨t126, A400, H⟩ := H
                  replace H : (if t126 < 0 then (some false) else (if t126 = t124 then ((laws_toTermS.f kj25 l0).bind fun t127 => ((impl_FreeIn.f kj25 t127).bind fun bt130 => ((laws_eqIntS.f kj25 bt130.1 t105).bind fun t134 => (if t134 = true then (laws_FnExactFreeIn.j2 kj25 t125 t124 (bt130.2 != t106)) else (laws_FnExactFreeIn.j2 kj25 t125 t124 true))))) else (some false))) = some r := H
                  have A40 := Aside0.mk A400
                  clear A400
                  by_cases c41 : t126 < 0
                  · rw [if_pos c41] at H
                    have c41b0 : decide (t126 < 0) = true := decide_eq_true c41
                    clear c41
                    obtain rfl := Option.some.inj H
                    obtain ⟨Ao42, co42, eo42⟩ := Kd.R_slice HO_7.out
                    subst eo42
                    go_wp2_with (first | ((with_reducible refine gate_callee (f := 25) rfl ?_); refine goesL_ (some 64) rfl rfl Try.func25 (by kernel_rfl) rfl #[.slice Ao42 t112.length co42, .int .i64 1] rfl (by (try simp only [List.map_toArray, List.map_cons, List.map_nil]); first | done | rfl | (simp only [List.length_drop, List.length_take]; rfl)) ?_; (with_reducible refine (laws_markIntS.calls kj25 (fun k_ => some k_ = (.slice Ao42 t112.length co42 : Value).ownBlock) (.slice Ao42 t112.length co42) t112 1 t124 t125 w _ ?side1 ?side2 A39.out).mono ?_); (case side1 => repeat (first | (with_reducible first | exact HB.out | apply below_alloc | apply pw_below_drewN | apply below_drew1) | exact HB.out)); (case side2 => exact Kd.R_tight rfl HO_7.out); rintro e w43 ⟨rfl, hy0, hb, hkp⟩; refine ⟨_, rfl, ?_⟩; have n0_ := Aside0.mk (Kd.R_mono (ok' := fun k_ => some k_ ≠ (.slice Ao42 t112.length co42 : Value).ownBlock) (Kd.R_keptB (HO_4.out) hkp (fun k_ hk_ hs_ => (hk_) hs_)) (fun k_ hk_ => hk_.1)); have n1_ := Aside0.mk (Kd.R_reok rfl hy0 (fun k_ e_ => HO_7.out.1 k_ e_)); have n2_ := Aside0.mk (hb); clear HO_4; clear HO_7; clear HB; have HO_4 := n0_; have HO_7 := n1_; have HB := n2_; clear n0_ n1_ n2_; (try clear hb); (try clear hkp); (try clear hy0)) | ((with_reducible refine gate_callee (f := 26) rfl ?_); refine goesL_ (some 67) rfl rfl Try.func26 (by kernel_rfl) rfl #[.slice Ao42 t125.length co42, .int .i64 1] rfl (by (try simp only [List.map_toArray, List.map_cons, List.map_nil]); first | done | (rw [show t125.length = t112.length from (Kd.R_reads' HO_7.out).1.symm] <;> rfl) | rfl | (simp only [List.length_drop, List.length_take]; rfl)) ?_; (with_reducible refine (laws_heldIntS.calls kj25 _ _ t125 1 t126 _ ?side1 ?side2 A40.out).mono ?_); (case side1 => repeat (first | exact (Kd.R_reads' HO_7.out).2.2 | (with_reducible refine Kd.C_alloc ?_ _) | (with_reducible refine Kd.C_drewN ?_ _) | (with_reducible refine Kd.C_drew ?_))); (case side2 => rw [show t125.length = t112.length from (Kd.R_reads' HO_7.out).1.symm]; exact (Kd.R_reads' HO_7.out).2.1); rintro e w' ⟨rfl, ⟨nd, rfl⟩⟩; refine ⟨_, rfl, ?_⟩))
                    go_ret
                    exact ⟨by first | rfl | (simp [errW_none, errW_some] <;> rfl) | (simp [*, errW_none, errW_some] <;> rfl), by repeat (first | (with_reducible first | exact HB.out | apply below_alloc | apply pw_below_drewN | apply below_drew1) | exact HB.out)⟩
                  · rw [if_neg c41] at H
                    have c41b0 : decide (t126 < 0) = false := decide_eq_false c41
                    clear c41
                    by_cases c44 : t126 = t124
                    · rw [if_pos c44] at H
                      have c44b0 : (t126 == t124) = true := beq_iff_eq.mpr c44
                      have c44b1 : (t126 != t124) = false := bne_eq_false_iff_eq.mpr c44
                      clear c44
                      replace H := Option.bind_eq_some_iff.mp H
                      obtain ⟨t127, A450, H⟩ := H
                      replace H : ((impl_FreeIn.f kj25 t127).bind fun bt130 => ((laws_eqIntS.f kj25 bt130.1 t105).bind fun t134 => (if t134 = true then (laws_FnExactFreeIn.j2 kj25 t125 t124 (bt130.2 != t106)) else (laws_FnExactFreeIn.j2 kj25 t125 t124 true)))) = some r := H
                      have A45 := Aside0.mk A450
                      clear A450
                      replace H := Option.bind_eq_some_iff.mp H
                      obtain ⟨⟨t130, t131⟩, A460, H⟩ := H
                      replace H : ((laws_eqIntS.f kj25 t130 t105).bind fun t134 => (if t134 = true then (laws_FnExactFreeIn.j2 kj25 t125 t124 (t131 != t106)) else (laws_FnExactFreeIn.j2 kj25 t125 t124 true))) = some r := H
                      have A46 := Aside0.mk A460
                      clear A460
                      have HC47 := Aside0.mk H
                      clear H
                      obtain ⟨Ao48, co48, eo48⟩ := Kd.R_slice HO_7.out
                      subst eo48
                      go_upto_region 25 with (first | ((with_reducible refine gate_callee (f := 25) rfl ?_); refine goesL_ (some 64) rfl rfl Try.func25 (by kernel_rfl) rfl #[.slice Ao48 t112.length co48, .int .i64 1] rfl (by (try simp only [List.map_toArray, List.map_cons, List.map_nil]); first | done | rfl | (simp only [List.length_drop, List.length_take]; rfl)) ?_; (with_reducible refine (laws_markIntS.calls kj25 (fun k_ => some k_ = (.slice Ao48 t112.length co48 : Value).ownBlock) (.slice Ao48 t112.length co48) t112 1 t124 t125 w _ ?side1 ?side2 A39.out).mono ?_); (case side1 => repeat (first | (with_reducible first | exact HB.out | apply below_alloc | apply pw_below_drewN | apply below_drew1) | exact HB.out)); (case side2 => exact Kd.R_tight rfl HO_7.out); rintro e w49 ⟨rfl, hy0, hb, hkp⟩; refine ⟨_, rfl, ?_⟩; have n0_ := Aside0.mk (Kd.R_mono (ok' := fun k_ => some k_ ≠ (.slice Ao48 t112.length co48 : Value).ownBlock) (Kd.R_keptB (HO_4.out) hkp (fun k_ hk_ hs_ => (hk_) hs_)) (fun k_ hk_ => hk_.1)); have n1_ := Aside0.mk (Kd.R_reok rfl hy0 (fun k_ e_ => HO_7.out.1 k_ e_)); have n2_ := Aside0.mk (hb); clear HO_4; clear HO_7; clear HB; have HO_4 := n0_; have HO_7 := n1_; have HB := n2_; clear n0_ n1_ n2_; (try clear hb); (try clear hkp); (try clear hy0)) | ((with_reducible refine gate_callee (f := 26) rfl ?_); refine goesL_ (some 67) rfl rfl Try.func26 (by kernel_rfl) rfl #[.slice Ao48 t125.length co48, .int .i64 1] rfl (by (try simp only [List.map_toArray, List.map_cons, List.map_nil]); first | done | (rw [show t125.length = t112.length from (Kd.R_reads' HO_7.out).1.symm] <;> rfl) | rfl | (simp only [List.length_drop, List.length_take]; rfl)) ?_; (with_reducible refine (laws_heldIntS.calls kj25 _ _ t125 1 t126 _ ?side1 ?side2 A40.out).mono ?_); (case side1 => repeat (first | exact (Kd.R_reads' HO_7.out).2.2 | (with_reducible refine Kd.C_alloc ?_ _) | (with_reducible refine Kd.C_drewN ?_ _) | (with_reducible refine Kd.C_drew ?_))); (case side2 => rw [show t125.length = t112.length from (Kd.R_reads' HO_7.out).1.symm]; exact (Kd.R_reads' HO_7.out).2.1); rintro e w' ⟨rfl, ⟨nd, rfl⟩⟩; refine ⟨_, rfl, ?_⟩) | ((with_reducible refine gate_callee (f := 18) rfl ?_); refine goesL_ (some 75) rfl rfl Try.func18 (by kernel_rfl) rfl #[.slice A0 l0.length c0] rfl (by (try simp only [List.map_toArray, List.map_cons, List.map_nil]); first | done | rfl | (simp only [List.length_drop, List.length_take]; rfl)) ?_; (with_reducible refine (laws_toTermS.calls kj25 _ _ l0 t127 _ ?side1 ?side2 A45.out).mono ?_); (case side1 => repeat (first | exact (Kd.C_below HR0.out (by repeat (first | (with_reducible first | exact HB.out | apply below_alloc | apply pw_below_drewN | apply below_drew1) | exact HB.out))) | (with_reducible refine Kd.C_alloc ?_ _) | (with_reducible refine Kd.C_drewN ?_ _) | (with_reducible refine Kd.C_drew ?_))); (case side2 => exact HC0.out); rintro e w50 ⟨v128, rfl, ho0, hb⟩; refine ⟨_, rfl, ?_⟩; have n0_ := Aside0.mk (Kd.R_below (by (with_reducible repeat (first | apply Kd.R_alloc | apply Kd.R_drewN | apply Kd.R_drew)); exact HO_4.out) hb); have n1_ := Aside0.mk (Kd.R_below (by (with_reducible repeat (first | apply Kd.R_alloc | apply Kd.R_drewN | apply Kd.R_drew)); exact HO_7.out) hb); have n2_ := Aside0.mk (Kd.R_lower ho0 (below_size (by repeat (first | (with_reducible first | exact HB.out | apply below_alloc | apply pw_below_drewN | apply below_drew1) | exact HB.out)))); have n3_ := Aside0.mk (below_step (by repeat (first | (with_reducible first | exact HB.out | apply below_alloc | apply pw_below_drewN | apply below_drew1) | exact HB.out)) hb); clear HO_4; clear HO_7; clear HB; have HO_4 := n0_; have HO_7 := n1_; have HO129 := n2_; have HB := n3_; clear n0_ n1_ n2_ n3_; (try clear hb); (try clear hb2); (try clear hk); (try clear hi); (try clear ho0); obtain ⟨Ao51, co51, eo51⟩ := Kd.R_slice HO129.out; subst eo51) | ((with_reducible refine gate_callee (f := 38) rfl ?_); refine goesL_ (some 76) rfl rfl Try.func38 (by kernel_rfl) rfl #[.slice Ao51 t127.length co51] rfl (by (try simp only [List.map_toArray, List.map_cons, List.map_nil]); first | done | rfl | (simp only [List.length_drop, List.length_take]; rfl)) ?_; (with_reducible refine (impl_FreeIn.calls kj25 _ _ t127 t130 t131 _ ?side1 ?side2 A46.out).mono ?_); (case side1 => repeat (first | exact (Kd.R_reads' HO129.out).2.2 | (with_reducible refine Kd.C_alloc ?_ _) | (with_reducible refine Kd.C_drewN ?_ _) | (with_reducible refine Kd.C_drew ?_))); (case side2 => exact (Kd.R_reads' HO129.out).2.1); rintro e w52 ⟨v132, rfl, ho0, hb⟩; refine ⟨_, rfl, ?_⟩; have n0_ := Aside0.mk (Kd.R_elder' (by (with_reducible repeat (first | apply Kd.R_alloc | apply Kd.R_drewN | apply Kd.R_drew)); exact HO_4.out) (Kd.R_base ho0) hb); have n1_ := Aside0.mk (Kd.R_elder' (by (with_reducible repeat (first | apply Kd.R_alloc | apply Kd.R_drewN | apply Kd.R_drew)); exact HO_7.out) (Kd.R_base ho0) hb); have n2_ := Aside0.mk (Kd.R_below (by (with_reducible repeat (first | apply Kd.R_alloc | apply Kd.R_drewN | apply Kd.R_drew)); exact HO129.out) hb); have n3_ := Aside0.mk (Kd.R_lower (Kd.R_new' (Kd.R_new' ho0 (Kd.R_lt (by (with_reducible repeat (first | apply Kd.R_alloc | apply Kd.R_drewN | apply Kd.R_drew)); exact HO_4.out))) (Kd.R_lt (by (with_reducible repeat (first | apply Kd.R_alloc | apply Kd.R_drewN | apply Kd.R_drew)); exact HO_7.out))) (below_size (by repeat (first | (with_reducible first | exact HB.out | apply below_alloc | apply pw_below_drewN | apply below_drew1) | exact HB.out)))); have n4_ := Aside0.mk (below_step (by repeat (first | (with_reducible first | exact HB.out | apply below_alloc | apply pw_below_drewN | apply below_drew1) | exact HB.out)) hb); clear HO_4; clear HO_7; clear HO129; clear HB; have HO_4 := n0_; have HO_7 := n1_; have HO129 := n2_; have HO133 := n3_; have HB := n4_; clear n0_ n1_ n2_ n3_ n4_; (try clear hb); (try clear hb2); (try clear hk); (try clear hi); (try clear ho0)))
                      (try simp only [Act.put, List.setIfInBounds_toArray, List.set_cons_zero, List.set_cons_succ])
                      go_cut [87] (fun v87 wc => ∃ (kq : Nat) (x87_46 : Bool), v87 = .bool x87_46 ∧ Aside0 (laws_FnExactFreeIn.j2 kq t125 t124 x87_46 = some r) ∧ Aside0 (kq ≤ kj25) ∧ Aside0 (Kd.R (Kd.int .i64) 3 wc w.heap.size (fun _ => True) (.slice Ao48 t112.length co48) t125) ∧ Aside0 (Below w.heap.size w wc))
                      case first =>
                        have H := HC47.out
                        clear HC47
                        replace H := Option.bind_eq_some_iff.mp H
                        obtain ⟨t134, A530, H⟩ := H
                        replace H : (if t134 = true then (laws_FnExactFreeIn.j2 kj25 t125 t124 (t131 != t106)) else (laws_FnExactFreeIn.j2 kj25 t125 t124 true)) = some r := H
                        have A53 := Aside0.mk A530
                        clear A530
                        by_cases c54 : t134 = true
                        · subst c54
                          have H1 : (laws_FnExactFreeIn.j2 kj25 t125 t124 (t131 != t106)) = some r := by rw [if_pos rfl] at H; exact H
                          clear H
                          have H := H1
                          clear H1
                          have H' := Aside0.mk H
                          clear H
                          obtain ⟨Ao55, co55, eo55⟩ := Kd.R_slice HO133.out
                          subst eo55
                          obtain ⟨Ao56, co56, eo56⟩ := Kd.R_slice HO_4.out
                          subst eo56
                          go_wp2_with (first | ((with_reducible refine gate_callee (f := 23) rfl ?_); refine goesL_ (some 81) rfl rfl Try.func23 (by kernel_rfl) rfl #[.slice Ao55 t130.length co55, .slice Ao56 t105.length co56] rfl (by (try simp only [List.map_toArray, List.map_cons, List.map_nil]); first | done | rfl | (simp only [List.length_drop, List.length_take]; rfl)) ?_; (with_reducible refine (laws_eqIntS.calls kj25 _ _ t130 _ _ t105 true _ ?side1 ?side2 ?side3 ?side4 A53.out).mono ?_); (case side1 => repeat (first | exact (Kd.R_reads' HO133.out).2.2 | (with_reducible refine Kd.C_alloc ?_ _) | (with_reducible refine Kd.C_drewN ?_ _) | (with_reducible refine Kd.C_drew ?_))); (case side2 => exact (Kd.R_reads' HO133.out).2.1); (case side3 => repeat (first | exact (Kd.R_reads' HO_4.out).2.2 | (with_reducible refine Kd.C_alloc ?_ _) | (with_reducible refine Kd.C_drewN ?_ _) | (with_reducible refine Kd.C_drew ?_))); (case side4 => exact (Kd.R_reads' HO_4.out).2.1); rintro e w' ⟨rfl, ⟨nd, rfl⟩⟩; refine ⟨_, rfl, ?_⟩))
                          go_meet
                          case rel => exact ⟨_, ((t131 != t106)), (by first | rfl | (simp; done) | (simp [*]; done)), H', ⟨by have := HJ7.out; have := HJ25.out; first | omega | exact Nat.le_refl _⟩, ⟨by (with_reducible repeat (first | apply Kd.R_alloc | apply Kd.R_drewN | apply Kd.R_drew)); exact Kd.R_mono HO_7.out (fun _ hk => trivial)⟩, ⟨by repeat (first | (with_reducible first | exact HB.out | apply below_alloc | apply pw_below_drewN | apply below_drew1) | exact HB.out)⟩⟩
                        · replace c54 := Bool.eq_false_iff.mpr c54
                          subst c54
                          have H1 : (laws_FnExactFreeIn.j2 kj25 t125 t124 true) = some r := by rw [if_neg (show ¬ (false = true) by decide)] at H; exact H
                          clear H
                          have H := H1
                          clear H1
                          have H' := Aside0.mk H
                          clear H
                          obtain ⟨Ao57, co57, eo57⟩ := Kd.R_slice HO133.out
                          subst eo57
                          obtain ⟨Ao58, co58, eo58⟩ := Kd.R_slice HO_4.out
                          subst eo58
                          go_wp2_with (first | ((with_reducible refine gate_callee (f := 23) rfl ?_); refine goesL_ (some 81) rfl rfl Try.func23 (by kernel_rfl) rfl #[.slice Ao57 t130.length co57, .slice Ao58 t105.length co58] rfl (by (try simp only [List.map_toArray, List.map_cons, List.map_nil]); first | done | rfl | (simp only [List.length_drop, List.length_take]; rfl)) ?_; (with_reducible refine (laws_eqIntS.calls kj25 _ _ t130 _ _ t105 false _ ?side1 ?side2 ?side3 ?side4 A53.out).mono ?_); (case side1 => repeat (first | exact (Kd.R_reads' HO133.out).2.2 | (with_reducible refine Kd.C_alloc ?_ _) | (with_reducible refine Kd.C_drewN ?_ _) | (with_reducible refine Kd.C_drew ?_))); (case side2 => exact (Kd.R_reads' HO133.out).2.1); (case side3 => repeat (first | exact (Kd.R_reads' HO_4.out).2.2 | (with_reducible refine Kd.C_alloc ?_ _) | (with_reducible refine Kd.C_drewN ?_ _) | (with_reducible refine Kd.C_drew ?_))); (case side4 => exact (Kd.R_reads' HO_4.out).2.1); rintro e w' ⟨rfl, ⟨nd, rfl⟩⟩; refine ⟨_, rfl, ?_⟩))
                          go_meet
                          case rel => exact ⟨_, (true), (by first | rfl | (simp; done) | (simp [*]; done)), H', ⟨by have := HJ7.out; have := HJ25.out; first | omega | exact Nat.le_refl _⟩, ⟨by (with_reducible repeat (first | apply Kd.R_alloc | apply Kd.R_drewN | apply Kd.R_drew)); exact Kd.R_mono HO_7.out (fun _ hk => trivial)⟩, ⟨by repeat (first | (with_reducible first | exact HB.out | apply below_alloc | apply pw_below_drewN | apply below_drew1) | exact HB.out)⟩⟩
                      case rest =>
                        clear HC47
                        try clear c1
                        try clear c2
                        try clear p2
                        try clear c3
                        try clear c3b0
                        try clear c4
                        try clear c5
                        try clear c10
                        try clear c16
                        try clear c18
                        try clear c20
                        try clear c21
                        try clear c23
                        try clear c24
                        try clear c25
                        try clear c26
                        try clear c31
                        try clear c31b0
                        try clear c33
                        try clear c37
                        try clear c38
                        try clear c41
                        try clear c41b0
                        try clear c44
                        try clear c44b0
                        try clear c44b1
                        try clear c54
                        try clear p2
                        obtain ⟨kq, x87_46, rfl, HA, HJ46, HO_7, HB⟩ := hcut
                        have hl7_46 := (Kd.R_reads' HO_7.out).1
                        rw [hl7_46] at HO_7
                        (try simp only [hl7_46])
                        cases kq with
                        | zero => exact absurd HA.out (by simp [laws_FnExactFreeIn.j2])
                        | succ kj46 =>
                          have H := HA.out
                          clear HA
                          simp only [laws_FnExactFreeIn.j2] at H
                          by_cases c59 : x87_46 = true
                          · subst c59
                            have H1 : (some false) = some r := by rw [if_pos rfl] at H; exact H
                            clear H
                            have H := H1
                            clear H1
                            obtain rfl := Option.some.inj H
                            go_wp2
                            go_ret
                            exact ⟨by first | rfl | (simp [errW_none, errW_some] <;> rfl) | (simp [*, errW_none, errW_some] <;> rfl), by repeat (first | (with_reducible first | exact HB.out | apply below_alloc | apply pw_below_drewN | apply below_drew1) | exact HB.out)⟩
                          · replace c59 := Bool.eq_false_iff.mpr c59
                            subst c59
                            have H1 : ((laws_heldIntS.f kj46 t125 1).bind fun t135 => (if t135 < 0 then (some false) else (if t135 = t124 then (some true) else (some false)))) = some r := by rw [if_neg (show ¬ (false = true) by decide)] at H; exact H
                            clear H
                            have H := H1
                            clear H1
                            replace H := Option.bind_eq_some_iff.mp H
                            obtain ⟨t135, A600, H⟩ := H
                            replace H : (if t135 < 0 then (some false) else (if t135 = t124 then (some true) else (some false))) = some r := H
                            have A60 := Aside0.mk A600
                            clear A600
                            by_cases c61 : t135 < 0
                            · rw [if_pos c61] at H
                              have c61b0 : decide (t135 < 0) = true := decide_eq_true c61
                              clear c61
                              obtain rfl := Option.some.inj H
                              go_wp2_with (first | ((with_reducible refine gate_callee (f := 26) rfl ?_); refine goesL_ (some 90) rfl rfl Try.func26 (by kernel_rfl) rfl #[.slice Ao48 t125.length co48, .int .i64 1] rfl (by (try simp only [List.map_toArray, List.map_cons, List.map_nil]); first | done | rfl | (simp only [List.length_drop, List.length_take]; rfl)) ?_; (with_reducible refine (laws_heldIntS.calls kj46 _ _ t125 1 t135 _ ?side1 ?side2 A60.out).mono ?_); (case side1 => repeat (first | exact (Kd.R_reads' HO_7.out).2.2 | (with_reducible refine Kd.C_alloc ?_ _) | (with_reducible refine Kd.C_drewN ?_ _) | (with_reducible refine Kd.C_drew ?_))); (case side2 => exact (Kd.R_reads' HO_7.out).2.1); rintro e w' ⟨rfl, ⟨nd, rfl⟩⟩; refine ⟨_, rfl, ?_⟩))
                              go_ret
                              exact ⟨by first | rfl | (simp [errW_none, errW_some] <;> rfl) | (simp [*, errW_none, errW_some] <;> rfl), by repeat (first | (with_reducible first | exact HB.out | apply below_alloc | apply pw_below_drewN | apply below_drew1) | exact HB.out)⟩
                            · rw [if_neg c61] at H
                              have c61b0 : decide (t135 < 0) = false := decide_eq_false c61
                              clear c61
                              by_cases c62 : t135 = t124
                              · rw [if_pos c62] at H
                                have c62b0 : (t135 == t124) = true := beq_iff_eq.mpr c62
                                have c62b1 : (t135 != t124) = false := bne_eq_false_iff_eq.mpr c62
                                clear c62
                                obtain rfl := Option.some.inj H
                                go_wp2_with (first | ((with_reducible refine gate_callee (f := 26) rfl ?_); refine goesL_ (some 90) rfl rfl Try.func26 (by kernel_rfl) rfl #[.slice Ao48 t125.length co48, .int .i64 1] rfl (by (try simp only [List.map_toArray, List.map_cons, List.map_nil]); first | done | rfl | (simp only [List.length_drop, List.length_take]; rfl)) ?_; (with_reducible refine (laws_heldIntS.calls kj46 _ _ t125 1 t135 _ ?side1 ?side2 A60.out).mono ?_); (case side1 => repeat (first | exact (Kd.R_reads' HO_7.out).2.2 | (with_reducible refine Kd.C_alloc ?_ _) | (with_reducible refine Kd.C_drewN ?_ _) | (with_reducible refine Kd.C_drew ?_))); (case side2 => exact (Kd.R_reads' HO_7.out).2.1); rintro e w' ⟨rfl, ⟨nd, rfl⟩⟩; refine ⟨_, rfl, ?_⟩))
                                go_ret
                                exact ⟨by first | rfl | (simp [errW_none, errW_some] <;> rfl) | (simp [*, errW_none, errW_some] <;> rfl), by repeat (first | (with_reducible first | exact HB.out | apply below_alloc | apply pw_below_drewN | apply below_drew1) | exact HB.out)⟩
                              · rw [if_neg c62] at H
                                have c62b0 : (t135 == t124) = false := beq_eq_false_iff_ne.mpr c62
                                have c62b1 : (t135 != t124) = true := bne_iff_ne.mpr c62
                                obtain rfl := Option.some.inj H
                                go_wp2_with (first | ((with_reducible refine gate_callee (f := 26) rfl ?_); refine goesL_ (some 90) rfl rfl Try.func26 (by kernel_rfl) rfl #[.slice Ao48 t125.length co48, .int .i64 1] rfl (by (try simp only [List.map_toArray, List.map_cons, List.map_nil]); first | done | rfl | (simp only [List.length_drop, List.length_take]; rfl)) ?_; (with_reducible refine (laws_heldIntS.calls kj46 _ _ t125 1 t135 _ ?side1 ?side2 A60.out).mono ?_); (case side1 => repeat (first | exact (Kd.R_reads' HO_7.out).2.2 | (with_reducible refine Kd.C_alloc ?_ _) | (with_reducible refine Kd.C_drewN ?_ _) | (with_reducible refine Kd.C_drew ?_))); (case side2 => exact (Kd.R_reads' HO_7.out).2.1); rintro e w' ⟨rfl, ⟨nd, rfl⟩⟩; refine ⟨_, rfl, ?_⟩))
                                go_ret
                                exact ⟨by first | rfl | (simp [errW_none, errW_some] <;> rfl) | (simp [*, errW_none, errW_some] <;> rfl), by repeat (first | (with_reducible first | exact HB.out | apply below_alloc | apply pw_below_drewN | apply below_drew1) | exact HB.out)⟩
                    · rw [if_neg c44] at H
                      have c44b0 : (t126 == t124) = false := beq_eq_false_iff_ne.mpr c44
                      have c44b1 : (t126 != t124) = true := bne_iff_ne.mpr c44
                      obtain rfl := Option.some.inj H
                      obtain ⟨Ao63, co63, eo63⟩ := Kd.R_slice HO_7.out
                      subst eo63
                      go_wp2_with (first | ((with_reducible refine gate_callee (f := 25) rfl ?_); refine goesL_ (some 64) rfl rfl Try.func25 (by kernel_rfl) rfl #[.slice Ao63 t112.length co63, .int .i64 1] rfl (by (try simp only [List.map_toArray, List.map_cons, List.map_nil]); first | done | rfl | (simp only [List.length_drop, List.length_take]; rfl)) ?_; (with_reducible refine (laws_markIntS.calls kj25 (fun k_ => some k_ = (.slice Ao63 t112.length co63 : Value).ownBlock) (.slice Ao63 t112.length co63) t112 1 t124 t125 w _ ?side1 ?side2 A39.out).mono ?_); (case side1 => repeat (first | (with_reducible first | exact HB.out | apply below_alloc | apply pw_below_drewN | apply below_drew1) | exact HB.out)); (case side2 => exact Kd.R_tight rfl HO_7.out); rintro e w64 ⟨rfl, hy0, hb, hkp⟩; refine ⟨_, rfl, ?_⟩; have n0_ := Aside0.mk (Kd.R_mono (ok' := fun k_ => some k_ ≠ (.slice Ao63 t112.length co63 : Value).ownBlock) (Kd.R_keptB (HO_4.out) hkp (fun k_ hk_ hs_ => (hk_) hs_)) (fun k_ hk_ => hk_.1)); have n1_ := Aside0.mk (Kd.R_reok rfl hy0 (fun k_ e_ => HO_7.out.1 k_ e_)); have n2_ := Aside0.mk (hb); clear HO_4; clear HO_7; clear HB; have HO_4 := n0_; have HO_7 := n1_; have HB := n2_; clear n0_ n1_ n2_; (try clear hb); (try clear hkp); (try clear hy0)) | ((with_reducible refine gate_callee (f := 26) rfl ?_); refine goesL_ (some 67) rfl rfl Try.func26 (by kernel_rfl) rfl #[.slice Ao63 t125.length co63, .int .i64 1] rfl (by (try simp only [List.map_toArray, List.map_cons, List.map_nil]); first | done | (rw [show t125.length = t112.length from (Kd.R_reads' HO_7.out).1.symm] <;> rfl) | rfl | (simp only [List.length_drop, List.length_take]; rfl)) ?_; (with_reducible refine (laws_heldIntS.calls kj25 _ _ t125 1 t126 _ ?side1 ?side2 A40.out).mono ?_); (case side1 => repeat (first | exact (Kd.R_reads' HO_7.out).2.2 | (with_reducible refine Kd.C_alloc ?_ _) | (with_reducible refine Kd.C_drewN ?_ _) | (with_reducible refine Kd.C_drew ?_))); (case side2 => rw [show t125.length = t112.length from (Kd.R_reads' HO_7.out).1.symm]; exact (Kd.R_reads' HO_7.out).2.1); rintro e w' ⟨rfl, ⟨nd, rfl⟩⟩; refine ⟨_, rfl, ?_⟩))
                      go_ret
                      exact ⟨by first | rfl | (simp [errW_none, errW_some] <;> rfl) | (simp [*, errW_none, errW_some] <;> rfl), by repeat (first | (with_reducible first | exact HB.out | apply below_alloc | apply pw_below_drewN | apply below_drew1) | exact HB.out)⟩
          · replace c24 := Bool.eq_false_iff.mpr c24
            subst c24
            have H1 : (some false) = some r := by rw [if_neg (show ¬ (false = true) by decide)] at H; exact H
            clear H
            have H := H1
            clear H1
            obtain rfl := Option.some.inj H
            go_wp2_with (first | ((with_reducible refine gate_callee (f := 18) rfl ?_); refine goesL_ (some 43) rfl rfl Try.func18 (by kernel_rfl) rfl #[.slice A0 l0.length c0] rfl (by (try simp only [List.map_toArray, List.map_cons, List.map_nil]); first | done | rfl | (simp only [List.length_drop, List.length_take]; rfl)) ?_; (with_reducible refine (laws_toTermS.calls kj7 _ _ l0 t117 _ ?side1 ?side2 A22.out).mono ?_); (case side1 => repeat (first | exact (Kd.C_below HR0.out HB.out) | (with_reducible refine Kd.C_alloc ?_ _) | (with_reducible refine Kd.C_drewN ?_ _) | (with_reducible refine Kd.C_drew ?_))); (case side2 => exact HC0.out); rintro e w65 ⟨v118, rfl, ho0, hb⟩; refine ⟨_, rfl, ?_⟩; have n0_ := Aside0.mk (Kd.R_below (by (with_reducible repeat (first | apply Kd.R_alloc | apply Kd.R_drewN | apply Kd.R_drew)); exact HO_4.out) hb); have n1_ := Aside0.mk (Kd.R_elder' (by (with_reducible repeat (first | apply Kd.R_alloc | apply Kd.R_drewN | apply Kd.R_drew)); exact HO_6.out) (Kd.R_base ho0) hb); have n2_ := Aside0.mk (Kd.R_below (by (with_reducible repeat (first | apply Kd.R_alloc | apply Kd.R_drewN | apply Kd.R_drew)); exact HO_7.out) hb); have n3_ := Aside0.mk (Kd.R_lower (Kd.R_new' ho0 (Kd.R_lt (by (with_reducible repeat (first | apply Kd.R_alloc | apply Kd.R_drewN | apply Kd.R_drew)); exact HO_6.out))) (below_size (by repeat (first | (with_reducible first | exact HB.out | apply below_alloc | apply pw_below_drewN | apply below_drew1) | exact HB.out)))); have n4_ := Aside0.mk (below_step (by repeat (first | (with_reducible first | exact HB.out | apply below_alloc | apply pw_below_drewN | apply below_drew1) | exact HB.out)) hb); clear HO_4; clear HO_6; clear HO_7; clear HB; have HO_4 := n0_; have HO_6 := n1_; have HO_7 := n2_; have HO119 := n3_; have HB := n4_; clear n0_ n1_ n2_ n3_ n4_; (try clear hb); (try clear hb2); (try clear hk); (try clear hi); (try clear ho0); obtain ⟨Ao66, co66, eo66⟩ := Kd.R_slice HO119.out; subst eo66) | ((with_reducible refine gate_callee (f := 20) rfl ?_); refine goesL_ (some 44) rfl rfl Try.func20 (by kernel_rfl) rfl #[.slice Ao13 t109.length co13, .slice Ao66 t117.length co66] rfl (by (try simp only [List.map_toArray, List.map_cons, List.map_nil]); first | done | rfl | (simp only [List.length_drop, List.length_take]; rfl)) ?_; (with_reducible refine (laws_eqTermS.calls kj7 _ _ t109 _ _ t117 false _ ?side1 ?side2 ?side3 ?side4 A23.out).mono ?_); (case side1 => repeat (first | exact (Kd.R_reads' HO_6.out).2.2 | (with_reducible refine Kd.C_alloc ?_ _) | (with_reducible refine Kd.C_drewN ?_ _) | (with_reducible refine Kd.C_drew ?_))); (case side2 => exact (Kd.R_reads' HO_6.out).2.1); (case side3 => repeat (first | exact (Kd.R_reads' HO119.out).2.2 | (with_reducible refine Kd.C_alloc ?_ _) | (with_reducible refine Kd.C_drewN ?_ _) | (with_reducible refine Kd.C_drew ?_))); (case side4 => exact (Kd.R_reads' HO119.out).2.1); rintro e w67 ⟨rfl, hb⟩; refine ⟨_, rfl, ?_⟩; have n0_ := Aside0.mk (Kd.R_below (by (with_reducible repeat (first | apply Kd.R_alloc | apply Kd.R_drewN | apply Kd.R_drew)); exact HO_4.out) hb); have n1_ := Aside0.mk (Kd.R_below (by (with_reducible repeat (first | apply Kd.R_alloc | apply Kd.R_drewN | apply Kd.R_drew)); exact HO_6.out) hb); have n2_ := Aside0.mk (Kd.R_below (by (with_reducible repeat (first | apply Kd.R_alloc | apply Kd.R_drewN | apply Kd.R_drew)); exact HO_7.out) hb); have n3_ := Aside0.mk (Kd.R_below (by (with_reducible repeat (first | apply Kd.R_alloc | apply Kd.R_drewN | apply Kd.R_drew)); exact HO119.out) hb); have n4_ := Aside0.mk (below_step (by repeat (first | (with_reducible first | exact HB.out | apply below_alloc | apply pw_below_drewN | apply below_drew1) | exact HB.out)) hb); clear HO_4; clear HO_6; clear HO_7; clear HO119; clear HB; have HO_4 := n0_; have HO_6 := n1_; have HO_7 := n2_; have HO119 := n3_; have HB := n4_; clear n0_ n1_ n2_ n3_ n4_; (try clear hb); (try clear hb2); (try clear hk); (try clear hi)))
            go_ret
            exact ⟨by first | rfl | (simp [errW_none, errW_some] <;> rfl) | (simp [*, errW_none, errW_some] <;> rfl), by repeat (first | (with_reducible first | exact HB.out | apply below_alloc | apply pw_below_drewN | apply below_drew1) | exact HB.out)⟩

def laws_FnExactFreeIn.Pure : Prop := ∀ (l0 : List (S65)), (l0.length ≤ 9223372036854775807 ∧ ∀ x_ ∈ l0, ((Lit.int .i64 x_.f0).wf = true ∧ (Lit.int .i64 x_.f1).wf = true ∧ (Lit.int .i64 x_.f2).wf = true)) → ∃ k, laws_FnExactFreeIn.f k l0 = some true

end Go.Proofs.Ytcjhhdecckcibaa.G

namespace Go.Proofs.Ytcjhhdecckcibaa.EvL
open Go.RowKit Go.Proofs.YtcjhhdecckcibaaW.PrintWords
set_option linter.unusedVariables false

theorem w64 {x : Int} (h1 : -9223372036854775808 ≤ x) (h2 : x ≤ 9223372036854775807) : wrap64 x = x := by unfold wrap64; omega
theorem Ev.const {α : Type} {a : Option α} {r : α} (h : a = some r) : Ev (fun _ => a) r := ⟨0, fun _ _ => h⟩
theorem Ev.of_eq {α : Type} {g : Nat → Option α} {r r' : α} (h : Ev g r) (e : r = r') : Ev g r' := e ▸ h
theorem Ev.ite_pos {α : Type} {c : Prop} [Decidable c] {g f : Nat → Option α} {r : α} (hc : c) (h : Ev g r) : Ev (fun k => if c then g k else f k) r := Ev.congr (fun k => if_pos hc) h
theorem Ev.ite_neg {α : Type} {c : Prop} [Decidable c] {g f : Nat → Option α} {r : α} (hc : ¬ c) (h : Ev f r) : Ev (fun k => if c then g k else f k) r := Ev.congr (fun k => if_neg hc) h
theorem Ev.succ {α : Type} {g : Nat → Option α} {r : α} (h : Ev (fun k => g (k + 1)) r) : Ev g r := Ev.step (fun k => rfl) h
theorem Ev.unique {α : Type} {g : Nat → Option α} {r r' : α} (h : Ev g r) (h' : Ev g r') : r = r' := by
  obtain ⟨K, hK⟩ := h
  obtain ⟨K', hK'⟩ := h'
  have h1 := hK (max K K') (Nat.le_max_left ..)
  have h2 := hK' (max K K') (Nat.le_max_right ..)
  rw [h1] at h2
  exact Option.some.inj h2

theorem ev_all (F : Nat → Int → Option Bool) (n : Nat) (p : Nat → Bool) (hs : ∀ (k i : Nat), i < n → F (k + 1) i = if p i = true then F k ((i + 1 : Nat) : Int) else some false) (he : ∀ k, F (k + 1) n = some true) :
    ∀ (d i : Nat), i + d = n → Ev (fun k => F k i) ((List.range d).all fun j => p (i + j)) := by
  intro d
  induction d with
  | zero => intro i hi; obtain rfl : i = n := by omega
            exact Ev.step he (Ev.now _)
  | succ d ih =>
    intro i hi
    have e : ((List.range (d + 1)).all fun j => p (i + j)) = (p i && (List.range d).all fun j => p (i + 1 + j)) := by
      rw [List.range_succ_eq_map, List.all_cons, List.all_map, Nat.add_zero]
      congr 1; congr 1; funext j; show p (i + (j + 1)) = _; congr 1; omega
    rw [e]
    by_cases hp : p i = true
    · refine Ev.step (fun k => (hs k i (by omega)).trans (if_pos hp)) ?_
      rw [hp, Bool.true_and]
      exact ih (i + 1) (by omega)
    · refine Ev.step (fun k => (hs k i (by omega)).trans (if_neg hp)) ?_
      rw [Bool.eq_false_iff.mpr hp, Bool.false_and]
      exact Ev.now _

theorem ev_fill {β : Type} (F : Nat → List β → Int → Option (List β)) (n : Nat) (g : Nat → β) (hs : ∀ (k : Nat) (acc : List β) (i : Nat), i < n → acc.length = n → F (k + 1) acc i = F k (acc.set i (g i)) ((i + 1 : Nat) : Int))
    (he : ∀ (k : Nat) (acc : List β), acc.length = n → F (k + 1) acc n = some acc) :
    ∀ (d i : Nat) (acc : List β), i + d = n → acc.length = n → Ev (fun k => F k acc i) (acc.take i ++ (List.range d).map fun j => g (i + j)) := by
  intro d
  induction d with
  | zero => intro i acc hi hl; obtain rfl : i = n := by omega
            rw [List.range_zero, List.map_nil, List.append_nil, List.take_of_length_le (by omega)]
            exact Ev.step (fun k => he k acc hl) (Ev.now _)
  | succ d ih =>
    intro i acc hi hl
    refine Ev.step (fun k => hs k acc i (by omega) hl) ?_
    refine Ev.of_eq (ih (i + 1) (acc.set i (g i)) (by omega) (by simpa using hl)) ?_
    rw [List.range_succ_eq_map, List.map_cons, List.map_map, Nat.add_zero]
    have e : (acc.set i (g i)).take (i + 1) = acc.take i ++ [g i] := by
      rw [List.take_succ_eq_append_getElem (by simp; omega)]
      simp [List.take_set_of_le]
    rw [e, List.append_assoc]
    congr 1
    rw [List.singleton_append]
    congr 1
    apply List.map_congr_left
    intro j _
    show g (i + 1 + j) = g (i + (j + 1))
    congr 1; omega

theorem range_getD {β : Type} (l : List β) (z : β) : (List.range l.length).map (fun j => l.getD j z) = l := by
  apply List.ext_getElem
  · simp
  · intro i h1 h2; simp [List.getD_eq_getElem?_getD, List.getElem?_eq_getElem h2]

end Go.Proofs.Ytcjhhdecckcibaa.EvL

namespace Go.Proofs.Ytcjhhdecckcibaa.TreeM
set_option linter.unusedVariables false

structure Nd where
  kind : Int
  n : Int
  up : Int
inductive Tr where
  | leaf (k n : Int)
  | un (k n : Int) (a : Tr)
  | bin (k n : Int) (a b : Tr)
def Tr.kind : Tr → Int
  | .leaf k _ => k
  | .un k _ _ => k
  | .bin k _ _ _ => k
def Tr.num : Tr → Int
  | .leaf _ n => n
  | .un _ n _ => n
  | .bin _ n _ _ => n
def Tr.size : Tr → Nat
  | .leaf _ _ => 1
  | .un _ _ a => 1 + a.size
  | .bin _ _ a b => 1 + a.size + b.size
def Tr.depth : Tr → Nat
  | .leaf _ _ => 1
  | .un _ _ a => a.depth + 1
  | .bin _ _ a b => max a.depth b.depth + 1
def Tr.all (p : Int → Int → Prop) : Tr → Prop
  | .leaf k n => p k n
  | .un k n a => p k n ∧ a.all p
  | .bin k n a b => p k n ∧ a.all p ∧ b.all p

def z : Nd := ⟨0, 0, 0⟩
def up (l : List Nd) (i : Nat) : Int := (l.getD i z).up
theorem up_of {l : List Nd} {i : Nat} {x : Nd} (h : l[i]? = some x) : up l i = x.up := by unfold up; rw [List.getD_eq_getElem?_getD, h]; rfl
theorem lt_of {l : List Nd} {i : Nat} {x : Nd} (h : l[i]? = some x) : i < l.length := by
  by_cases hi : i < l.length
  · exact hi
  · rw [List.getElem?_eq_none (by omega)] at h; cases h
theorem get_of {l : List Nd} {i : Nat} (h : i < l.length) : l[i]? = some (l.getD i z) := by rw [List.getD_eq_getElem?_getD, List.getElem?_eq_getElem h]; rfl

def chain (l : List Nd) (i : Nat) : List Nat := i :: if h : 0 ≤ up l i ∧ up l i < (i : Int) then chain l (up l i).toNat else []
termination_by i
decreasing_by omega
theorem chain_self (l : List Nd) (i : Nat) : i ∈ chain l i := by rw [chain]; simp
theorem chain_up {l : List Nd} {i : Nat} (h : 0 ≤ up l i ∧ up l i < (i : Int)) : chain l i = i :: chain l (up l i).toNat := by rw [chain, dif_pos h]
theorem chain_top {l : List Nd} {i : Nat} (h : ¬ (0 ≤ up l i ∧ up l i < (i : Int))) : chain l i = [i] := by rw [chain, dif_neg h]
theorem chain_le {l : List Nd} : ∀ (i j : Nat), j ∈ chain l i → j ≤ i := by
  intro i
  induction i using Nat.strongRecOn with
  | _ i ih =>
    intro j hj
    by_cases h : 0 ≤ up l i ∧ up l i < (i : Int)
    · rw [chain_up h, List.mem_cons] at hj
      rcases hj with rfl | hj
      · exact Nat.le_refl _
      · have := ih _ (by omega) j hj; omega
    · rw [chain_top h] at hj
      have : j = i := by simpa using hj
      omega
theorem chain_trans {l : List Nd} : ∀ (i j x : Nat), j ∈ chain l i → x ∈ chain l j → x ∈ chain l i := by
  intro i
  induction i using Nat.strongRecOn with
  | _ i ih =>
    intro j x hj hx
    by_cases h : 0 ≤ up l i ∧ up l i < (i : Int)
    · rw [chain_up h, List.mem_cons] at hj
      rcases hj with rfl | hj
      · exact hx
      · rw [chain_up h]
        exact List.mem_cons_of_mem _ (ih _ (by omega) j x hj hx)
    · rw [chain_top h] at hj
      obtain rfl : j = i := by simpa using hj
      exact hx
theorem chain_below {l : List Nd} : ∀ (i j x : Nat), j ∈ chain l i → x ∈ chain l i → x ≤ j → x ∈ chain l j := by
  intro i
  induction i using Nat.strongRecOn with
  | _ i ih =>
    intro j x hj hx hle
    by_cases h : 0 ≤ up l i ∧ up l i < (i : Int)
    · rw [chain_up h, List.mem_cons] at hj hx
      rcases hj with rfl | hj
      · rw [chain_up h]; exact List.mem_cons.mpr hx
      · rcases hx with rfl | hx
        · have := chain_le _ _ hj; omega
        · exact ih _ (by omega) j x hj hx hle
    · rw [chain_top h] at hj hx
      obtain rfl : j = i := by simpa using hj
      rw [chain_top h]; exact hx
theorem chain_mem_up {l : List Nd} {i : Nat} (h : 0 ≤ up l i ∧ up l i < (i : Int)) {x : Nat} (hx : x ∈ chain l i) (hne : x ≠ i) : x ∈ chain l (up l i).toNat := by
  rw [chain_up h, List.mem_cons] at hx
  exact hx.resolve_left hne

def cnt (l : List Nd) (i : Nat) : Nat → Nat → Nat
  | _, 0 => 0
  | a, d + 1 => (if up l a = (i : Int) then 1 else 0) + cnt l i (a + 1) d
theorem cnt_add (l : List Nd) (i : Nat) : ∀ (d a d' : Nat), cnt l i a (d + d') = cnt l i a d + cnt l i (a + d) d'
  | 0, a, d' => by simp [cnt]
  | d + 1, a, d' => by
    have e : d + 1 + d' = (d + d') + 1 := by omega
    rw [e]
    show (if up l a = (i : Int) then 1 else 0) + cnt l i (a + 1) (d + d') = (if up l a = (i : Int) then 1 else 0) + cnt l i (a + 1) d + cnt l i (a + (d + 1)) d'
    rw [cnt_add l i d (a + 1) d', show a + 1 + d = a + (d + 1) by omega]; omega
theorem cnt_zero (l : List Nd) (i : Nat) : ∀ (d a : Nat), (∀ m, a ≤ m → m < a + d → up l m ≠ (i : Int)) → cnt l i a d = 0
  | 0, a, h => rfl
  | d + 1, a, h => by
    show (if up l a = (i : Int) then 1 else 0) + cnt l i (a + 1) d = 0
    rw [if_neg (h a (Nat.le_refl _) (by omega)), cnt_zero l i d (a + 1) (fun m h1 h2 => h m (by omega) (by omega))]

structure Arity where
  top : Int
  want : Int → Nat

inductive Par (A : Arity) (l : List Nd) : Nat → Int → Tr → Nat → Prop
  | leaf {i : Nat} {u k n : Int} (h : l[i]? = some ⟨k, n, u⟩) (hk : 1 ≤ k ∧ k ≤ A.top) (hw : A.want k = 0) : Par A l i u (.leaf k n) (i + 1)
  | un {i e : Nat} {u k n : Int} {a : Tr} (h : l[i]? = some ⟨k, n, u⟩) (hk : 1 ≤ k ∧ k ≤ A.top) (hw : A.want k = 1) (ha : Par A l (i + 1) i a e) : Par A l i u (.un k n a) e
  | bin {i e e' : Nat} {u k n : Int} {a b : Tr} (h : l[i]? = some ⟨k, n, u⟩) (hk : 1 ≤ k ∧ k ≤ A.top) (hw : A.want k = 2) (ha : Par A l (i + 1) i a e) (hb : Par A l e i b e') : Par A l i u (.bin k n a b) e'

theorem Par.span {A : Arity} {l : List Nd} {i e : Nat} {u : Int} {t : Tr} (h : Par A l i u t e) : e = i + t.size ∧ e ≤ l.length ∧ up l i = u := by
  induction h with
  | @leaf i u k n h hk hw => exact ⟨rfl, lt_of h, up_of h⟩
  | @un i e u k n a h hk hw ha ih => exact ⟨by rw [ih.1]; show _ = _ + (1 + _); omega, ih.2.1, up_of h⟩
  | @bin i e e' u k n a b h hk hw ha hb ih1 ih2 => exact ⟨by rw [ih2.1, ih1.1]; show _ = _ + (1 + _ + _); omega, ih2.2.1, up_of h⟩
theorem Tr.size_pos (t : Tr) : 0 < t.size := by cases t <;> (simp only [Tr.size]; omega)
theorem Par.lt {A : Arity} {l : List Nd} {i e : Nat} {u : Int} {t : Tr} (h : Par A l i u t e) : i < e := by have := h.span.1; have := t.size_pos; omega

theorem Par.inside {A : Arity} {l : List Nd} {i e : Nat} {u : Int} {t : Tr} (h : Par A l i u t e) : ∀ m, i < m → m < e → (i : Int) ≤ up l m ∧ up l m < (m : Int) := by
  induction h with
  | @leaf i u k n h hk hw => intro m h1 h2; omega
  | @un i e u k n a h hk hw ha ih =>
    intro m h1 h2
    by_cases hm : m = i + 1
    · subst hm; rw [ha.span.2.2]; omega
    · have := ih m (by omega) h2; omega
  | @bin i e e' u k n a b h hk hw ha hb ih1 ih2 =>
    intro m h1 h2
    have := ha.lt
    by_cases hm : m = i + 1
    · subst hm; rw [ha.span.2.2]; omega
    · by_cases hme : m < e
      · have := ih1 m (by omega) hme; omega
      · by_cases hm2 : m = e
        · subst hm2; rw [hb.span.2.2]; omega
        · have := ih2 m (by omega) h2; omega

theorem anc_of_sub {l : List Nd} {i e : Nat} (h : ∀ m, i < m → m < e → (i : Int) ≤ up l m ∧ up l m < (m : Int)) : ∀ m, i ≤ m → m < e → i ∈ chain l m := by
  intro m
  induction m using Nat.strongRecOn with
  | _ m ih =>
    intro h1 h2
    by_cases hm : m = i
    · subst hm; exact chain_self l m
    · have hu := h m (by omega) h2
      rw [chain_up (by omega)]
      exact List.mem_cons_of_mem _ (ih (up l m).toNat (by omega) (by omega) (by omega))

theorem Par.around {A : Arity} {l : List Nd} {i e : Nat} {u : Int} {t : Tr} (h : Par A l i u t e) : ∀ m, i < m → m < e → (up l m).toNat ∈ chain l (m - 1) := by
  induction h with
  | @leaf i u k n h hk hw => intro m h1 h2; omega
  | @un i e u k n a h hk hw ha ih =>
    intro m h1 h2
    by_cases hm : m = i + 1
    · subst hm; rw [ha.span.2.2]; exact chain_self l i
    · exact ih m (by omega) h2
  | @bin i e e' u k n a b h hk hw ha hb ih1 ih2 =>
    intro m h1 h2
    have hlt := ha.lt
    by_cases hm : m = i + 1
    · subst hm; rw [ha.span.2.2]; exact chain_self l i
    · by_cases hme : m < e
      · exact ih1 m (by omega) hme
      · by_cases hm2 : m = e
        · subst hm2
          rw [hb.span.2.2]
          exact anc_of_sub (e := m) (fun q h3 h4 => (Par.bin h hk hw ha hb).inside q h3 (by have := hb.lt; omega)) (m - 1) (by omega) (by omega)
        · exact ih2 m (by omega) h2

theorem Par.counts {A : Arity} {l : List Nd} {i e : Nat} {u : Int} {t : Tr} (h : Par A l i u t e) : ∀ m, i ≤ m → m < e → ∃ k n v, l[m]? = some ⟨k, n, v⟩ ∧ (1 ≤ k ∧ k ≤ A.top) ∧ cnt l m (m + 1) (e - (m + 1)) = A.want k := by
  induction h with
  | @leaf i u k n h hk hw =>
    intro m h1 h2
    obtain rfl : m = i := by omega
    exact ⟨k, n, u, h, hk, by rw [hw, Nat.sub_self]; rfl⟩
  | @un i e u k n a h hk hw ha ih =>
    intro m h1 h2
    have hlt := ha.lt
    by_cases hm : m = i
    · subst hm
      refine ⟨k, n, u, h, hk, ?_⟩
      obtain ⟨d, hd⟩ : ∃ d, e - (m + 1) = d + 1 := ⟨e - (m + 1) - 1, by omega⟩
      rw [hd, hw]
      show (if up l (m + 1) = (m : Int) then 1 else 0) + cnt l m (m + 1 + 1) d = 1
      rw [if_pos ha.span.2.2, cnt_zero]
      intro q h3 h4
      have := ha.inside q (by omega) (by omega); omega
    · exact ih m (by omega) h2
  | @bin i e e' u k n a b h hk hw ha hb ih1 ih2 =>
    intro m h1 h2
    have hlt := ha.lt
    have hlt2 := hb.lt
    by_cases hm : m = i
    · subst hm
      refine ⟨k, n, u, h, hk, ?_⟩
      obtain ⟨d, hd⟩ : ∃ d, e - (m + 1) = d + 1 := ⟨e - (m + 1) - 1, by omega⟩
      obtain ⟨d2, hd2⟩ : ∃ d2, e' - e = d2 + 1 := ⟨e' - e - 1, by omega⟩
      rw [show e' - (m + 1) = (d + 1) + (d2 + 1) by omega, hw, cnt_add, show m + 1 + (d + 1) = e by omega]
      show (if up l (m + 1) = (m : Int) then 1 else 0) + cnt l m (m + 1 + 1) d + ((if up l e = (m : Int) then 1 else 0) + cnt l m (e + 1) d2) = 2
      rw [if_pos ha.span.2.2, if_pos hb.span.2.2, cnt_zero, cnt_zero]
      · intro q h3 h4
        have := hb.inside q (by omega) (by omega); omega
      · intro q h3 h4
        have := ha.inside q (by omega) (by omega); omega
    · by_cases hme : m < e
      · obtain ⟨k', n', v', h3, h4, h5⟩ := ih1 m (by omega) hme
        refine ⟨k', n', v', h3, h4, ?_⟩
        rw [show e' - (m + 1) = (e - (m + 1)) + (e' - e) by omega, cnt_add, h5, show m + 1 + (e - (m + 1)) = e by omega, cnt_zero, Nat.add_zero]
        intro q h6 h7
        by_cases hq : q = e
        · subst hq; rw [hb.span.2.2]; omega
        · have := hb.inside q (by omega) (by omega); omega
      · exact ih2 m (by omega) h2

theorem Par.deep {A : Arity} {l : List Nd} {i e : Nat} {u : Int} {t : Tr} (h : Par A l i u t e) : (∀ m, i ≤ m → m < e → (chain l m).length + 1 ≤ (chain l i).length + t.depth) ∧ ∃ m, i ≤ m ∧ m < e ∧ (chain l m).length + 1 = (chain l i).length + t.depth := by
  have up1 : ∀ (q i : Nat), up l q = (i : Int) → i < q → (chain l q).length = (chain l i).length + 1 := fun q i h1 h2 => by
    rw [chain_up (by omega), h1]; simp
  induction h with
  | @leaf i u k n h hk hw =>
    exact ⟨fun m h1 h2 => by obtain rfl : m = i := by omega
                             exact Nat.le_refl _, i, Nat.le_refl _, by omega, rfl⟩
  | @un i e u k n a h hk hw ha ih =>
    have hlt := ha.lt
    have e1 := up1 (i + 1) i ha.span.2.2 (by omega)
    refine ⟨fun m h1 h2 => ?_, ?_⟩
    · by_cases hm : m = i
      · subst hm; show _ ≤ _ + (a.depth + 1); omega
      · have := ih.1 m (by omega) h2; show _ ≤ _ + (a.depth + 1); omega
    · obtain ⟨m, h1, h2, h3⟩ := ih.2
      exact ⟨m, by omega, h2, by show _ = _ + (a.depth + 1); omega⟩
  | @bin i e e' u k n a b h hk hw ha hb ih1 ih2 =>
    have hlt := ha.lt
    have hlt2 := hb.lt
    have e1 := up1 (i + 1) i ha.span.2.2 (by omega)
    have e2 := up1 e i hb.span.2.2 (by omega)
    refine ⟨fun m h1 h2 => ?_, ?_⟩
    · show _ ≤ _ + (max a.depth b.depth + 1)
      by_cases hm : m = i
      · subst hm; omega
      · by_cases hme : m < e
        · have := ih1.1 m (by omega) hme; omega
        · have := ih2.1 m (by omega) h2; omega
    · by_cases hd : b.depth ≤ a.depth
      · obtain ⟨m, h1, h2, h3⟩ := ih1.2
        exact ⟨m, by omega, by omega, by show _ = _ + (max a.depth b.depth + 1); omega⟩
      · obtain ⟨m, h1, h2, h3⟩ := ih2.2
        exact ⟨m, by omega, by omega, by show _ = _ + (max a.depth b.depth + 1); omega⟩

theorem Par.alls {A : Arity} {l : List Nd} {i e : Nat} {u : Int} {t : Tr} (h : Par A l i u t e) (p : Int → Int → Prop) : t.all p ↔ ∀ m, i ≤ m → m < e → p (l.getD m z).kind (l.getD m z).n := by
  have at1 : ∀ (q : Nat) (x : Nd), l[q]? = some x → l.getD q z = x := fun q x h => by rw [List.getD_eq_getElem?_getD, h]; rfl
  induction h with
  | @leaf i u k n h hk hw =>
    constructor
    · intro h1 m h2 h3
      obtain rfl : m = i := by omega
      rw [at1 _ _ h]; exact h1
    · intro h1
      have := h1 i (Nat.le_refl _) (by omega)
      rw [at1 _ _ h] at this; exact this
  | @un i e u k n a h hk hw ha ih =>
    have hlt := ha.lt
    constructor
    · rintro ⟨h1, h2⟩ m h3 h4
      by_cases hm : m = i
      · subst hm; rw [at1 _ _ h]; exact h1
      · exact ih.mp h2 m (by omega) h4
    · intro h1
      have := h1 i (Nat.le_refl _) (by omega)
      rw [at1 _ _ h] at this
      exact ⟨this, ih.mpr (fun m h3 h4 => h1 m (by omega) h4)⟩
  | @bin i e e' u k n a b h hk hw ha hb ih1 ih2 =>
    have hlt := ha.lt
    have hlt2 := hb.lt
    constructor
    · rintro ⟨h1, h2, h2'⟩ m h3 h4
      by_cases hm : m = i
      · subst hm; rw [at1 _ _ h]; exact h1
      · by_cases hme : m < e
        · exact ih1.mp h2 m (by omega) hme
        · exact ih2.mp h2' m (by omega) h4
    · intro h1
      have := h1 i (Nat.le_refl _) (by omega)
      rw [at1 _ _ h] at this
      exact ⟨this, ih1.mpr (fun m h3 h4 => h1 m (by omega) (by omega)), ih2.mpr (fun m h3 h4 => h1 m (by omega) (by omega))⟩

structure Loc (A : Arity) (l : List Nd) : Prop where
  root : ∀ h : 0 < l.length, up l 0 = -1
  ahead : ∀ m, 0 < m → m < l.length → 0 ≤ up l m ∧ up l m < (m : Int)
  around : ∀ m, 0 < m → m < l.length → (up l m).toNat ∈ chain l (m - 1)
  kinds : ∀ m, m < l.length → 1 ≤ (l.getD m z).kind ∧ (l.getD m z).kind ≤ A.top
  wants : ∀ m, m < l.length → cnt l m (m + 1) (l.length - (m + 1)) = A.want (l.getD m z).kind

theorem Par.loc {A : Arity} {l : List Nd} {t : Tr} (h : Par A l 0 (-1) t l.length) : Loc A l := by
  have at1 : ∀ (q : Nat) (x : Nd), l[q]? = some x → l.getD q z = x := fun q x h => by rw [List.getD_eq_getElem?_getD, h]; rfl
  refine ⟨fun _ => h.span.2.2, fun m h1 h2 => by have := h.inside m h1 h2; omega, fun m h1 h2 => h.around m h1 h2, fun m h1 => ?_, fun m h1 => ?_⟩
  · obtain ⟨k, n, v, h2, h3, _⟩ := h.counts m (by omega) h1
    rw [at1 _ _ h2]; exact h3
  · obtain ⟨k, n, v, h2, _, h3⟩ := h.counts m (by omega) h1
    rw [at1 _ _ h2]; exact h3

theorem Loc.past {A : Arity} {l : List Nd} (L : Loc A l) {i e : Nat} (hi : i < e) (he : e < l.length) (hu : up l e < (i : Int)) : ∀ m, e ≤ m → m < l.length → ∀ x ∈ chain l m, x < i ∨ e ≤ x := by
  intro m
  induction m using Nat.strongRecOn with
  | _ m ih =>
    intro h1 h2 x hx
    have ha := L.ahead m (by omega) h2
    rw [chain_up ha, List.mem_cons] at hx
    rcases hx with rfl | hx
    · exact .inr h1
    · by_cases hm : m = e
      · subst hm
        have := chain_le _ _ hx
        exact .inl (by omega)
      · exact ih (m - 1) (by omega) (by omega) (by omega) x (chain_trans _ _ _ (L.around m (by omega) h2) hx)

theorem Loc.par {A : Arity} {l : List Nd} (L : Loc A l) (hA : ∀ k, A.want k ≤ 2) : ∀ (d i : Nat), i + d = l.length → 0 < d → ∃ t e, Par A l i (up l i) t e ∧ (e = l.length ∨ up l e < (i : Int)) := by
  intro d
  induction d using Nat.strongRecOn with
  | _ d ih =>
    intro i hi hd
    have hlt : i < l.length := by omega
    have hx : l[i]? = some ⟨(l.getD i z).kind, (l.getD i z).n, up l i⟩ := get_of hlt
    have hk := L.kinds i hlt
    have hw := L.wants i hlt
    -- the first part, if there is any
    have first : ∀ h : 0 < A.want (l.getD i z).kind, i + 1 < l.length ∧ up l (i + 1) = (i : Int) := by
      intro h
      have h1 : i + 1 < l.length := by
        by_cases h1 : i + 1 < l.length
        · exact h1
        · rw [show l.length - (i + 1) = 0 by omega] at hw
          have : cnt l i (i + 1) 0 = 0 := rfl
          omega
      refine ⟨h1, ?_⟩
      have ha := L.ahead (i + 1) (by omega) h1
      by_cases hu : up l (i + 1) = (i : Int)
      · exact hu
      · have hz : cnt l i (i + 1) (l.length - (i + 1)) = 0 := cnt_zero l i _ _ (fun m h2 h3 he => by
          have hp := L.past (i := i) (e := i + 1) (by omega) h1 (by omega) m (by omega) (by omega) i (by
            rw [chain_up (L.ahead m (by omega) (by omega)), he, Int.toNat_natCast]
            exact List.mem_cons_of_mem _ (chain_self l i))
          omega)
        omega
    by_cases h0 : A.want (l.getD i z).kind = 0
    · refine ⟨_, i + 1, .leaf hx hk h0, ?_⟩
      by_cases h1 : i + 1 < l.length
      · refine .inr ?_
        have ha := L.ahead (i + 1) (by omega) h1
        by_cases hu : up l (i + 1) = (i : Int)
        · obtain ⟨d', hd'⟩ : ∃ d', l.length - (i + 1) = d' + 1 := ⟨l.length - (i + 1) - 1, by omega⟩
          rw [hd', h0] at hw
          have hw' : (if up l (i + 1) = (i : Int) then 1 else 0) + cnt l i (i + 1 + 1) d' = 0 := hw
          rw [if_pos hu] at hw'; omega
        · omega
      · exact .inl (by omega)
    · obtain ⟨h1, hu1⟩ := first (by omega)
      obtain ⟨a, e1, pa, he1⟩ := ih (l.length - (i + 1)) (by omega) (i + 1) (by omega) (by omega)
      rw [hu1] at pa
      have hs1 := pa.span
      have hl1 := pa.lt
      have c1 : cnt l i (i + 1) (e1 - (i + 1)) = 1 := by
        obtain ⟨d', hd'⟩ : ∃ d', e1 - (i + 1) = d' + 1 := ⟨e1 - (i + 1) - 1, by omega⟩
        rw [hd']
        show (if up l (i + 1) = (i : Int) then 1 else 0) + cnt l i (i + 1 + 1) d' = 1
        rw [if_pos hu1, cnt_zero]
        intro q h3 h4
        have := pa.inside q (by omega) (by omega); omega
      have c2 : cnt l i (i + 1) (l.length - (i + 1)) = 1 + cnt l i e1 (l.length - e1) := by
        rw [show l.length - (i + 1) = (e1 - (i + 1)) + (l.length - e1) by omega, cnt_add, c1, show i + 1 + (e1 - (i + 1)) = e1 by omega]
      by_cases hw1 : A.want (l.getD i z).kind = 1
      · refine ⟨_, e1, .un hx hk hw1 pa, ?_⟩
        by_cases h2 : e1 < l.length
        · refine .inr ?_
          have hu := he1.resolve_left (by omega)
          by_cases hq : up l e1 = (i : Int)
          · obtain ⟨d', hd'⟩ : ∃ d', l.length - e1 = d' + 1 := ⟨l.length - e1 - 1, by omega⟩
            have : cnt l i e1 (l.length - e1) = (if up l e1 = (i : Int) then 1 else 0) + cnt l i (e1 + 1) d' := by rw [hd']; rfl
            rw [if_pos hq] at this; omega
          · omega
        · exact .inl (by omega)
      · have hw2 : A.want (l.getD i z).kind = 2 := by have := hA (l.getD i z).kind; omega
        have h2 : e1 < l.length := by
          by_cases h2 : e1 < l.length
          · exact h2
          · rw [show l.length - e1 = 0 by omega] at c2
            have : cnt l i e1 0 = 0 := rfl
            omega
        have hu := he1.resolve_left (by omega)
        have hu2 : up l e1 = (i : Int) := by
          by_cases hq : up l e1 = (i : Int)
          · exact hq
          · have hz : cnt l i e1 (l.length - e1) = 0 := cnt_zero l i _ _ (fun m h3 h4 he => by
              have hp := L.past (i := i) (e := e1) (by omega) h2 (by omega) m (by omega) (by omega) i (by
                rw [chain_up (L.ahead m (by omega) (by omega)), he, Int.toNat_natCast]
                exact List.mem_cons_of_mem _ (chain_self l i))
              omega)
            omega
        obtain ⟨b, e2, pb, he2⟩ := ih (l.length - e1) (by omega) e1 (by omega) (by omega)
        rw [hu2] at pb
        have hl2 := pb.lt
        have hs2 := pb.span
        refine ⟨_, e2, .bin hx hk hw2 pa pb, ?_⟩
        by_cases h3 : e2 < l.length
        · refine .inr ?_
          have hv := he2.resolve_left (by omega)
          have hav := L.ahead e2 (by omega) h3
          have hanc : e1 ∈ chain l (e2 - 1) := anc_of_sub (e := e2) (fun q h5 h6 => by have := pb.inside q h5 h6; omega) (e2 - 1) (by omega) (by omega)
          have hin := chain_below _ _ _ hanc (L.around e2 (by omega) h3) (by omega)
          have hin2 := chain_mem_up (L.ahead e1 (by omega) h2) hin (by omega)
          rw [hu2, Int.toNat_natCast] at hin2
          have hle := chain_le _ _ hin2
          by_cases hq : up l e2 = (i : Int)
          · obtain ⟨d1, hd1⟩ : ∃ d', e2 - e1 = d' + 1 := ⟨e2 - e1 - 1, by omega⟩
            obtain ⟨d2, hd2⟩ : ∃ d', l.length - e2 = d' + 1 := ⟨l.length - e2 - 1, by omega⟩
            have e3 : cnt l i e1 (l.length - e1) = cnt l i e1 (e2 - e1) + cnt l i e2 (l.length - e2) := by
              rw [show l.length - e1 = (e2 - e1) + (l.length - e2) by omega, cnt_add, show e1 + (e2 - e1) = e2 by omega]
            have e4 : cnt l i e1 (e2 - e1) = (if up l e1 = (i : Int) then 1 else 0) + cnt l i (e1 + 1) d1 := by rw [hd1]; rfl
            have e5 : cnt l i e2 (l.length - e2) = (if up l e2 = (i : Int) then 1 else 0) + cnt l i (e2 + 1) d2 := by rw [hd2]; rfl
            rw [if_pos hu2] at e4
            rw [if_pos hq] at e5
            omega
          · omega
        · exact .inl (by omega)

theorem loc_iff {A : Arity} {l : List Nd} (hA : ∀ k, A.want k ≤ 2) (hl : 0 < l.length) : Loc A l ↔ ∃ t, Par A l 0 (-1) t l.length := by
  constructor
  · intro L
    obtain ⟨t, e, h, he⟩ := L.par hA l.length 0 (by omega) hl
    rw [L.root hl] at h
    rcases he with rfl | he
    · exact ⟨t, h⟩
    · have hlt := h.lt
      have hs := h.span
      by_cases h2 : e < l.length
      · have := L.ahead e (by omega) h2; omega
      · obtain rfl : e = l.length := by omega
        exact ⟨t, h⟩
  · rintro ⟨t, h⟩
    exact h.loc

theorem Par.unique {A : Arity} {l : List Nd} {i e e' : Nat} {u : Int} {t t' : Tr} (h : Par A l i u t e) (h' : Par A l i u t' e') : t = t' ∧ e = e' := by
  induction h generalizing t' e' with
  | @leaf i u k n h hk hw =>
    cases h' with
    | leaf h2 _ _ => rw [h] at h2; injection h2 with h2; injection h2 with a b c; subst a; subst b; exact ⟨rfl, rfl⟩
    | un h2 _ hw2 _ => rw [h] at h2; injection h2 with h2; injection h2 with a b c; subst a; omega
    | bin h2 _ hw2 _ _ => rw [h] at h2; injection h2 with h2; injection h2 with a b c; subst a; omega
  | @un i e u k n a h hk hw ha ih =>
    cases h' with
    | leaf h2 _ hw2 => rw [h] at h2; injection h2 with h2; injection h2 with a b c; subst a; omega
    | un h2 _ _ ha2 =>
      rw [h] at h2; injection h2 with h2; injection h2 with a b c; subst a; subst b
      obtain ⟨rfl, rfl⟩ := ih ha2
      exact ⟨rfl, rfl⟩
    | bin h2 _ hw2 _ _ => rw [h] at h2; injection h2 with h2; injection h2 with a b c; subst a; omega
  | @bin i e e' u k n a b h hk hw ha hb ih1 ih2 =>
    cases h' with
    | leaf h2 _ hw2 => rw [h] at h2; injection h2 with h2; injection h2 with a b c; subst a; omega
    | un h2 _ hw2 _ => rw [h] at h2; injection h2 with h2; injection h2 with a b c; subst a; omega
    | bin h2 _ _ ha2 hb2 =>
      rw [h] at h2; injection h2 with h2; injection h2 with a b c; subst a; subst b
      obtain ⟨rfl, rfl⟩ := ih1 ha2
      obtain ⟨rfl, rfl⟩ := ih2 hb2
      exact ⟨rfl, rfl⟩
end Go.Proofs.Ytcjhhdecckcibaa.TreeM

namespace Go.Proofs.Ytcjhhdecckcibaa.TermL
open Go.RowKit Go.Proofs.Ytcjhhdecckcibaa.G Go.Proofs.Ytcjhhdecckcibaa.EvL Go.Proofs.Ytcjhhdecckcibaa.TreeM Go.Proofs.YtcjhhdecckcibaaW.PrintWords Go.Proofs.YtcjhhdecckcibaaW.PrintLast
set_option linter.unusedVariables false

def conv (c : S65) : S62 := ⟨c.f0, c.f1, c.f2⟩
def nd (c : S62) : Nd := ⟨c.f0, c.f1, c.f2⟩
theorem rdC (l : List S62) (i : Nat) : rd_T62 l (i : Int) = l.getD i z62 := by unfold rd_T62; rw [Int.toNat_natCast]
theorem rdL (l : List S65) (i : Nat) : rd_T65 l (i : Int) = l.getD i z65 := by unfold rd_T65; rw [Int.toNat_natCast]
theorem next (i : Nat) {n : Nat} (h : i < n) (hn : n ≤ 9223372036854775807) : wrap64 ((i : Int) + 1) = ((i + 1 : Nat) : Int) := by rw [w64 (by omega) (by omega)]; omega
theorem getD_nd (l : List S62) (i : Nat) : (l.map nd).getD i z = nd (l.getD i z62) := by
  rw [List.getD_eq_getElem?_getD, List.getD_eq_getElem?_getD, List.getElem?_map]
  cases l[i]? <;> rfl
theorem up_nd (l : List S62) (i : Nat) : (l.getD i z62).f2 = TreeM.up (l.map nd) i := by unfold TreeM.up; rw [getD_nd]; rfl

theorem toTerms (l : List S65) (hl : l.length ≤ 1048576) : Ev (fun k => laws_toTermS.f k l) (l.map conv) := by
  unfold laws_toTermS.f
  refine Ev.ite_pos (by omega) (Ev.ite_pos (by omega) ?_)
  rw [Int.toNat_natCast]
  refine Ev.of_eq (ev_fill (fun k acc i => laws_toTermS.l0 k l acc i) l.length (fun j => conv (l.getD j z65)) ?_ ?_ l.length 0 (List.replicate l.length z62) (by omega) (by simp)) ?_
  · intro k acc i hi hacc
    simp only [laws_toTermS.l0, laws_toTerm.f, Option.bind_some]
    rw [if_pos (by omega), if_pos (by omega), if_pos (by omega), next i hi (by omega), rdL, Int.toNat_natCast]
    rfl
  · intro k acc hacc
    simp only [laws_toTermS.l0]
    rw [if_neg (by omega)]
  · rw [List.take_zero, List.nil_append]
    simp only [Nat.zero_add]
    rw [show (List.range l.length).map (fun j => conv (l.getD j z65)) = ((List.range l.length).map fun j => l.getD j z65).map conv by rw [List.map_map]; rfl, range_getD]

theorem eqTerms (a : List S62) (ha : a.length ≤ 9223372036854775807) : Ev (fun k => laws_eqTermS.f k a a) true := by
  unfold laws_eqTermS.f
  refine Ev.ite_pos rfl ?_
  refine Ev.of_eq (ev_all (fun k i => laws_eqTermS.l0 k a a i) a.length (fun _ => true) ?_ ?_ a.length 0 (by omega)) (by simp)
  · intro k i hi
    simp only [laws_eqTermS.l0, laws_eqTerm.f]
    rw [if_pos (by omega), if_pos (by omega), if_pos (by omega)]
    simp only [if_true, Option.bind_some]
    rw [next i hi ha]
  · intro k
    simp only [laws_eqTermS.l0]
    rw [if_neg (by omega)]

theorem l1In_eq (a b c : Int) : spec_l1In.f a b c = some (decide (b ≤ a ∧ a ≤ c)) := by
  unfold spec_l1In.f
  by_cases h : a ≥ b
  · rw [if_pos h]; congr 1; exact decide_eq_decide.mpr (by omega)
  · rw [if_neg h, decide_eq_false (by omega)]

def ar : Arity := ⟨3, fun k => if k = 2 then 1 else if k = 3 then 2 else 0⟩
theorem ar2 (k : Int) : ar.want k ≤ 2 := by show (if k = 2 then 1 else if k = 3 then 2 else 0) ≤ 2; split <;> (try split) <;> omega
structure NodeOk (L : List Nd) (m : Nat) : Prop where
  top : m = 0 ↔ up L m = -1
  ahead : -1 ≤ up L m ∧ up L m < (m : Int)
  kind : 1 ≤ (L.getD m z).kind ∧ (L.getD m z).kind ≤ 3
  num : 0 ≤ (L.getD m z).n ∧ (L.getD m z).n ≤ 99 ∧ ((L.getD m z).kind = 1 ∨ (L.getD m z).n = 0)
  around : m = 0 ∨ ∃ x ∈ chain L (m - 1), (x : Int) = up L m
  deep : (chain L m).length ≤ 40
  wants : cnt L m (m + 1) (L.length - (m + 1)) = ar.want (L.getD m z).kind

theorem parts (l : List S62) (i : Nat) (hl : l.length ≤ 200) : ∀ (d a : Nat) (acc : List Int), a + d = l.length → acc.length + d ≤ 200 → ∃ r, Ev (fun k => spec_lcParts.l0 k l i acc a) r ∧ r.length = acc.length + cnt (l.map nd) i a d := by
  intro d
  induction d with
  | zero =>
    intro a acc ha _
    refine ⟨acc, Ev.step (f := fun _ => some acc) (fun k => ?_) (Ev.now _), rfl⟩
    simp only [spec_lcParts.l0]
    rw [if_neg (by omega)]
  | succ d ih =>
    intro a acc ha hacc
    by_cases h : up (l.map nd) a = (i : Int)
    · obtain ⟨r, hr, hn⟩ := ih (a + 1) (acc ++ [(a : Int)]) (by omega) (by simp; omega)
      refine ⟨r, Ev.step (fun k => ?_) hr, ?_⟩
      · simp only [spec_lcParts.l0]
        rw [if_pos (by omega), if_pos (by omega), rdC, up_nd, if_pos h, if_pos (by omega), next a (n := l.length) (by omega) (by omega)]
      · rw [hn, List.length_append]
        show acc.length + 1 + _ = acc.length + ((if up (l.map nd) a = (i : Int) then 1 else 0) + _)
        rw [if_pos h]; omega
    · obtain ⟨r, hr, hn⟩ := ih (a + 1) acc (by omega) (by omega)
      refine ⟨r, Ev.step (fun k => ?_) hr, ?_⟩
      · simp only [spec_lcParts.l0]
        rw [if_pos (by omega), if_pos (by omega), rdC, up_nd, if_neg h, next a (n := l.length) (by omega) (by omega)]
      · rw [hn]
        show _ = acc.length + ((if up (l.map nd) a = (i : Int) then 1 else 0) + _)
        rw [if_neg h]; omega

theorem lcParts (l : List S62) (i : Nat) (hi : i < l.length) (hl : l.length ≤ 200) : ∃ r, Ev (fun k => spec_lcParts.f k l i) r ∧ r.length = cnt (l.map nd) i (i + 1) (l.length - (i + 1)) := by
  obtain ⟨r, hr, hn⟩ := parts l i hl (l.length - (i + 1)) (i + 1) [] (by omega) (by simp; omega)
  refine ⟨r, ?_, by rw [hn]; simp⟩
  unfold spec_lcParts.f
  rw [next i hi (by omega)]
  exact hr

theorem deepLoop (l : List S62) (hl : l.length ≤ 200) (i : Nat) (hi : i < l.length) (b : Bool) (kd n u : Int) (h : ∀ m, m ≤ i → -1 ≤ up (l.map nd) m ∧ up (l.map nd) m < (m : Int)) {r : Bool} :
    ∀ (j d : Nat), j ≤ i → d + j ≤ 400 → Ev (fun k => spec_GoodTerm.l2 k l i b ((d + (chain (l.map nd) j).length : Nat) : Int) (-1) l l.length i kd n u) r → Ev (fun k => spec_GoodTerm.l2 k l i b (d : Int) (j : Int) l l.length i kd n u) r := by
  intro j
  induction j using Nat.strongRecOn with
  | _ j ih =>
    intro d hj hd hE
    refine Ev.step (f := fun k => spec_GoodTerm.l2 k l i b ((d + 1 : Nat) : Int) (up (l.map nd) j) l l.length i kd n u) (fun k => ?_) ?_
    · show (if (j : Int) ≥ 0 then _ else _) = _
      rw [if_pos (by omega), if_pos (by omega), if_pos (by omega), rdC, up_nd, w64 (by omega) (by omega)]
      rfl
    · have hu := h j hj
      by_cases hu0 : 0 ≤ up (l.map nd) j
      · rw [show up (l.map nd) j = (((up (l.map nd) j).toNat : Nat) : Int) by omega]
        refine ih _ (by omega) (d + 1) (by omega) (by omega) ?_
        rw [chain_up ⟨hu0, hu.2⟩, List.length_cons] at hE
        rw [show d + 1 + (chain (l.map nd) (up (l.map nd) j).toNat).length = d + ((chain (l.map nd) (up (l.map nd) j).toNat).length + 1) by omega]
        exact hE
      · rw [chain_top (by omega)] at hE
        rw [show up (l.map nd) j = -1 by omega]
        exact hE

theorem aroundLoop (l : List S62) (hl : l.length ≤ 200) (i : Nat) (hi : i < l.length) (kd n u : Int) (h : ∀ m, m < i → -1 ≤ up (l.map nd) m ∧ up (l.map nd) m < (m : Int)) {r : Bool} {c : Bool} :
    ∀ (j : Nat), j < i → (c = true ↔ ∃ x ∈ chain (l.map nd) j, (x : Int) = u) → Ev (fun k => spec_GoodTerm.j3 k l i c l l.length i kd n u) r → Ev (fun k => spec_GoodTerm.l1 k l i false (j : Int) l l.length i kd n u) r := by
  intro j
  induction j using Nat.strongRecOn with
  | _ j ih =>
    intro hj hc hE
    have hu := h j hj
    refine Ev.step (f := fun k => spec_GoodTerm.l1 k l i ((j : Int) == u) (up (l.map nd) j) l l.length i kd n u) (fun k => ?_) ?_
    · show (if (j : Int) ≥ 0 then _ else _) = _
      rw [if_pos (by omega), if_neg (by simp), if_pos (by omega), if_pos (by omega), rdC, up_nd]
    · by_cases hju : (j : Int) = u
      · obtain rfl : c = true := hc.mpr ⟨j, chain_self _ _, hju⟩
        rw [show ((j : Int) == u) = true by simpa using hju]
        refine Ev.step (f := fun k => spec_GoodTerm.j3 k l i true l l.length i kd n u) (fun k => ?_) hE
        simp only [spec_GoodTerm.l1]
        simp
      · rw [show ((j : Int) == u) = false by simpa using hju]
        by_cases hu0 : 0 ≤ up (l.map nd) j
        · rw [show up (l.map nd) j = (((up (l.map nd) j).toNat : Nat) : Int) by omega]
          refine ih _ (by omega) (by omega) (hc.trans ?_) hE
          rw [chain_up ⟨hu0, hu.2⟩]
          simp [hju]
        · obtain rfl : c = false := by
            cases c with
            | false => rfl
            | true =>
              obtain ⟨x, hx, hxu⟩ := hc.mp rfl
              rw [chain_top (by omega)] at hx
              have : x = j := by simpa using hx
              subst this; exact absurd hxu hju
          refine Ev.step (f := fun k => spec_GoodTerm.j3 k l i false l l.length i kd n u) (fun k => ?_) hE
          simp only [spec_GoodTerm.l1]
          rw [if_neg (by omega)]

theorem badNode (l : List S62) (a b c kd n u : Int) : Ev (fun k => spec_GoodTerm.j1 k l a l b c true kd n u) false := by
  refine Ev.step (f := fun _ => some false) (fun k => ?_) (Ev.now _)
  simp only [spec_GoodTerm.j1]
  rfl

theorem specLoop (l : List S62) (hl : l.length ≤ 200) : ∀ (d i : Nat), i + d = l.length → (∀ m, m < i → -1 ≤ up (l.map nd) m ∧ up (l.map nd) m < (m : Int)) →
    ∃ b, Ev (fun k => spec_GoodTerm.l0 k l l l.length i) b ∧ (b = true ↔ ∀ m, i ≤ m → m < l.length → NodeOk (l.map nd) m) := by
  intro d
  induction d with
  | zero =>
    intro i hi _
    refine ⟨true, Ev.step (f := fun _ => some true) (fun k => ?_) (Ev.now _), ?_⟩
    · simp only [spec_GoodTerm.l0]
      rw [if_neg (by omega)]
    · exact ⟨fun _ m h1 h2 => by omega, fun _ => rfl⟩
  | succ d ih =>
    intro i hi hah
    have hil : i < l.length := by omega
    have eu : (l.getD i z62).f2 = TreeM.up (l.map nd) i := up_nd l i
    have ek : (l.getD i z62).f0 = ((l.map nd).getD i z).kind := by rw [getD_nd]; rfl
    have en : (l.getD i z62).f1 = ((l.map nd).getD i z).n := by rw [getD_nd]; rfl
    have hlen : (l.map nd).length = l.length := List.length_map ..
    -- a node that is not good
    have bad : ∀ {F : Nat → Option Bool}, ¬ NodeOk (l.map nd) i → Ev F false → ∃ b, Ev F b ∧ (b = true ↔ ∀ m, i ≤ m → m < l.length → NodeOk (l.map nd) m) :=
      fun hn hE => ⟨false, hE, fun h => absurd h (by simp), fun h => absurd (h i (Nat.le_refl _) hil) hn⟩
    generalize hu : up (l.map nd) i = u at *
    generalize hk : ((l.map nd).getD i z).kind = kd at *
    generalize hn : ((l.map nd).getD i z).n = n at *
    have st : ∀ k, spec_GoodTerm.l0 (k + 1) l l l.length i = (if ((((i : Int) == 0) != (u == (-1))) = true) then (spec_GoodTerm.j1 k l i l l.length i true kd n u) else (spec_GoodTerm.j1 k l i l l.length i (!decide (-1 ≤ u ∧ u ≤ (i : Int) - 1)) kd n u)) := by
      intro k
      simp only [spec_GoodTerm.l0]
      rw [if_pos (by omega), if_pos (by omega), if_pos (by omega), rdC, eu, ek, en, l1In_eq, w64 (by omega) (by omega)]
      simp only [Option.bind_some]
    have hT : ((((i : Int) == 0) != (u == (-1))) = true) ↔ ¬ (i = 0 ↔ u = -1) := by
      have e1 : ((i : Int) == 0) = decide (i = 0) := by rw [Bool.eq_iff_iff]; simp
      have e2 : (u == (-1)) = decide (u = -1) := by rw [Bool.eq_iff_iff]; simp
      rw [e1, e2]
      by_cases h1 : i = 0 <;> by_cases h2 : u = -1 <;> simp [h1, h2]
    by_cases h1 : i = 0 ↔ u = -1
    case neg =>
      exact bad (fun h => h1 (hu ▸ h.top)) (Ev.step (fun k => (st k).trans (if_pos (hT.mpr h1))) (badNode ..))
    have st := fun k => (st k).trans (if_neg (fun h => hT.mp h h1))
    by_cases h2 : -1 ≤ u ∧ u ≤ (i : Int) - 1
    case neg =>
      refine bad (fun h => h2 (by have := h.ahead; rw [hu] at this; omega)) (Ev.step (f := fun k => spec_GoodTerm.j1 k l i l l.length i true kd n u) (fun k => (st k).trans ?_) (badNode ..))
      rw [decide_eq_false h2]; rfl
    have st : ∀ k, spec_GoodTerm.l0 (k + 1) l l l.length i = spec_GoodTerm.j1 k l i l l.length i false kd n u := by
      intro k
      rw [st k, decide_eq_true h2]; rfl
    have hah' : ∀ m, m < i + 1 → -1 ≤ up (l.map nd) m ∧ up (l.map nd) m < (m : Int) := by
      intro m hm
      by_cases hmi : m = i
      · subst hmi; rw [hu]; omega
      · exact hah m (by omega)
    obtain ⟨b, hb, hbi⟩ := ih (i + 1) (by omega) hah'
    obtain ⟨ps, hps, hpn⟩ := lcParts l i hil hl
    -- the end
    obtain ⟨c, hc⟩ : ∃ c : Bool, c = true ↔ (i = 0 ∨ ∃ x ∈ chain (l.map nd) (i - 1), (x : Int) = u) := by
      by_cases h : (i = 0 ∨ ∃ x ∈ chain (l.map nd) (i - 1), (x : Int) = u)
      · exact ⟨true, by simp [h]⟩
      · exact ⟨false, by simp [h]⟩
    have go : ∀ {r : Bool}, Ev (fun k => spec_GoodTerm.l2 k l i c (((chain (l.map nd) i).length : Nat) : Int) (-1) l l.length i kd n u) r → Ev (fun k => spec_GoodTerm.l0 k l l l.length i) r := by
      intro r hE
      refine Ev.step st ?_
      refine Ev.step (f := fun k => spec_GoodTerm.l1 k l i ((i : Int) == 0) ((i : Int) - 1) l l.length i kd n u) (fun k => ?_) ?_
      · simp only [spec_GoodTerm.j1]
        rw [w64 (by omega) (by omega)]
        rfl
      · have hj3 : Ev (fun k => spec_GoodTerm.j3 k l i c l l.length i kd n u) r := by
          refine Ev.step (f := fun k => spec_GoodTerm.l2 k l i c ((0 : Nat) : Int) (i : Int) l l.length i kd n u) (fun k => rfl) ?_
          refine deepLoop l hl i hil c kd n u (fun m hm => hah' m (by omega)) i 0 (Nat.le_refl _) (by omega) ?_
          rw [Nat.zero_add]; exact hE
        by_cases hi0 : i = 0
        · obtain rfl : c = true := hc.mpr (.inl hi0)
          subst hi0
          refine Ev.step (f := fun k => spec_GoodTerm.j3 k l (0 : Nat) true l l.length (0 : Nat) kd n u) (fun k => ?_) hj3
          simp only [spec_GoodTerm.l1]
          rfl
        · rw [show ((i : Int) == 0) = false by simpa using hi0, show (i : Int) - 1 = ((i - 1 : Nat) : Int) by omega]
          refine aroundLoop l hl i hil kd n u hah (i - 1) (by omega) (hc.trans ?_) hj3
          simp [hi0]
    have fin : ∀ k, spec_GoodTerm.l2 (k + 1) l i c (((chain (l.map nd) i).length : Nat) : Int) (-1) l l.length i kd n u = (if 1 ≤ kd ∧ kd ≤ 3 then spec_GoodTerm.j5 k l i c (((chain (l.map nd) i).length : Nat) : Int) (ar.want kd) l l.length i kd n u else some false) := by
      intro k
      simp only [spec_GoodTerm.l2]
      rw [if_neg (by decide)]
      by_cases h1 : kd = 1
      · subst h1; rw [if_pos rfl, if_pos (by decide)]; rfl
      · rw [if_neg h1]
        by_cases h2 : kd = 2
        · subst h2; rw [if_pos rfl, if_pos (by decide)]; rfl
        · rw [if_neg h2]
          by_cases h3 : kd = 3
          · subst h3; rw [if_pos rfl, if_pos (by decide)]; rfl
          · rw [if_neg h3, if_neg (by omega)]
    by_cases h3 : 1 ≤ kd ∧ kd ≤ 3
    case neg =>
      exact bad (fun h => h3 (hk ▸ h.kind)) (go (Ev.step (f := fun _ => some false) (fun k => (fin k).trans (if_neg h3)) (Ev.now _)))
    have go : ∀ {r : Bool}, Ev (fun k => spec_GoodTerm.j5 k l i c (((chain (l.map nd) i).length : Nat) : Int) (ar.want kd) l l.length i kd n u) r → Ev (fun k => spec_GoodTerm.l0 k l l l.length i) r :=
      fun hE => go (Ev.step (fun k => (fin k).trans (if_pos h3)) hE)
    have fin : ∀ k, spec_GoodTerm.j5 (k + 1) l i c (((chain (l.map nd) i).length : Nat) : Int) (ar.want kd) l l.length i kd n u = (if c = true then (if (((chain (l.map nd) i).length : Nat) : Int) > 40 then some false else ((spec_lcParts.f k l i).bind fun t => (if (t.length : Int) = ar.want kd then (if 0 ≤ n ∧ n ≤ 99 then (if kd = 1 then spec_GoodTerm.l0 k l l l.length ((i + 1 : Nat) : Int) else if n = 0 then spec_GoodTerm.l0 k l l l.length ((i + 1 : Nat) : Int) else some false) else some false) else some false))) else some false) := by
      intro k
      simp only [spec_GoodTerm.j5, l1In_eq, next i hil (Nat.le_trans hl (by decide)), Option.bind_some, decide_eq_true_eq]
    by_cases h7 : c = true
    case neg =>
      exact bad (fun h => h7 (hc.mpr (hu ▸ h.around))) (go (Ev.step (f := fun _ => some false) (fun k => (fin k).trans (if_neg h7)) (Ev.now _)))
    have fin := fun k => (fin k).trans (if_pos h7)
    by_cases h8 : (chain (l.map nd) i).length ≤ 40
    case neg =>
      exact bad (fun h => h8 h.deep) (go (Ev.step (f := fun _ => some false) (fun k => (fin k).trans (if_pos (by omega))) (Ev.now _)))
    have fin := fun k => (fin k).trans (if_neg (by omega))
    by_cases h9 : ps.length = ar.want kd
    case neg =>
      exact bad (fun h => h9 (by have := h.wants; rw [hk, hlen] at this; rw [hpn]; exact this)) (go (Ev.step fin (Ev.bind hps (Ev.ite_neg (by omega) (Ev.now _)))))
    have go : ∀ {r : Bool}, Ev (fun k => (if 0 ≤ n ∧ n ≤ 99 then (if kd = 1 then spec_GoodTerm.l0 k l l l.length ((i + 1 : Nat) : Int) else if n = 0 then spec_GoodTerm.l0 k l l l.length ((i + 1 : Nat) : Int) else some false) else some false)) r → Ev (fun k => spec_GoodTerm.l0 k l l l.length i) r :=
      fun hE => go (Ev.step fin (Ev.bind hps (Ev.ite_pos (by omega) hE)))
    by_cases h4 : 0 ≤ n ∧ n ≤ 99
    case neg =>
      exact bad (fun h => h4 (by have := h.num; rw [hn] at this; omega)) (go (Ev.ite_neg h4 (Ev.now _)))
    by_cases h5 : kd = 1 ∨ n = 0
    case neg =>
      exact bad (fun h => h5 (by have := h.num; rw [hn, hk] at this; omega)) (go (Ev.ite_pos h4 (Ev.ite_neg (by omega) (Ev.ite_neg (by omega) (Ev.now _)))))
    have good : NodeOk (l.map nd) i := by
      refine ⟨by rw [hu]; exact h1, by rw [hu]; omega, by rw [hk]; exact h3, by rw [hn, hk]; exact ⟨h4.1, h4.2, h5⟩, by rw [hu]; exact hc.mp h7, h8, ?_⟩
      rw [hk, hlen, ← hpn]; exact h9
    refine ⟨b, go (Ev.ite_pos h4 ?_), hbi.trans ?_⟩
    · by_cases h6 : kd = 1
      · exact Ev.ite_pos h6 hb
      · exact Ev.ite_neg h6 (Ev.ite_pos (by omega) hb)
    constructor
    · intro h m hm1 hm2
      by_cases hmi : m = i
      · subst hmi; exact good
      · exact h m (by omega) hm2
    · intro h m hm1 hm2
      exact h m (by omega) hm2
end Go.Proofs.Ytcjhhdecckcibaa.TermL

namespace Go.Proofs.Ytcjhhdecckcibaa.TermL
open Go.RowKit Go.Proofs.Ytcjhhdecckcibaa.G Go.Proofs.Ytcjhhdecckcibaa.EvL Go.Proofs.Ytcjhhdecckcibaa.TreeM Go.Proofs.YtcjhhdecckcibaaW.PrintWords Go.Proofs.YtcjhhdecckcibaaW.PrintLast
set_option linter.unusedVariables false

def toS : Tr → S68
  | .leaf k n => ⟨k, n, []⟩
  | .un k n a => ⟨k, n, [toS a]⟩
  | .bin k n a b => ⟨k, n, [toS a, toS b]⟩
theorem toS_eta (a : Tr) : (⟨(toS a).f0, (toS a).f1, (toS a).f2⟩ : S68) = toS a := by cases toS a; rfl

theorem at_nd {l : List S62} {i : Nat} (h : i < l.length) : (l.map nd)[i]? = some ⟨(l.getD i z62).f0, (l.getD i z62).f1, TreeM.up (l.map nd) i⟩ := by
  rw [get_of (by rw [List.length_map]; exact h), getD_nd, ← up_nd]; rfl

theorem termAt_ev (l : List S62) (hl : l.length ≤ 200) : ∀ (d i : Nat) (u : Int), i + d = l.length →
    (∃ t e, Par ar (l.map nd) i u t e ∧ Ev (fun k => impl_termAt.f k l i u) ((toS t).f0, (toS t).f1, (toS t).f2, (e : Int), true)) ∨
    ((∀ t e, ¬ Par ar (l.map nd) i u t e) ∧ Ev (fun k => impl_termAt.f k l i u) (0, 0, ([] : List S68), 0, false)) := by
  intro d
  induction d using Nat.strongRecOn with
  | _ d ih =>
    intro i u hi
    have bad : ∀ {x}, Ev (fun k => impl_termAt.j0 k l x true) (0, 0, ([] : List S68), 0, false) := fun {x} => Ev.step (f := fun _ => some (0, 0, ([] : List S68), 0, false)) (fun k => by simp only [impl_termAt.j0]; rfl) (Ev.now _)
    have hlen : (l.map nd).length = l.length := List.length_map ..
    by_cases hd : d = 0
    · refine .inr ⟨fun t e h => ?_, Ev.step (f := fun k => impl_termAt.j0 k l i true) (fun k => ?_) bad⟩
      · have := h.lt; have := h.span; omega
      · simp only [impl_termAt.f]; rw [if_pos (by omega)]
    have hil : i < l.length := by omega
    have hx := at_nd hil
    generalize hk : (l.getD i z62).f0 = kd at *
    generalize hn : (l.getD i z62).f1 = n at *
    -- what a tree from here on begins with
    have inv : ∀ {t e}, Par ar (l.map nd) i u t e → TreeM.up (l.map nd) i = u ∧ 1 ≤ kd ∧ kd ≤ 3 := by
      intro t e h
      cases h with
      | leaf h2 h3 _ => rw [hx] at h2; injection h2 with h2; injection h2 with a b c; subst a; exact ⟨c, h3⟩
      | un h2 h3 _ _ => rw [hx] at h2; injection h2 with h2; injection h2 with a b c; subst a; exact ⟨c, h3⟩
      | bin h2 h3 _ _ _ => rw [hx] at h2; injection h2 with h2; injection h2 with a b c; subst a; exact ⟨c, h3⟩
    have st : ∀ k, impl_termAt.f (k + 1) l i u = (if TreeM.up (l.map nd) i = u then (if kd < 1 then (impl_termAt.j0 k l i true) else (impl_termAt.j0 k l i (decide (kd > 3)))) else (impl_termAt.j0 k l i true)) := by
      intro k
      simp only [impl_termAt.f]
      rw [if_neg (by omega), if_pos (by omega), if_pos (by omega), rdC, up_nd, hk]
    by_cases h1 : TreeM.up (l.map nd) i = u
    case neg => exact .inr ⟨fun t e h => h1 (inv h).1, Ev.step (fun k => (st k).trans (if_neg h1)) bad⟩
    have st := fun k => (st k).trans (if_pos h1)
    by_cases h2 : kd < 1
    · exact .inr ⟨fun t e h => by have := inv h; omega, Ev.step (fun k => (st k).trans (if_pos h2)) bad⟩
    have st := fun k => (st k).trans (if_neg h2)
    by_cases h3 : kd > 3
    · refine .inr ⟨fun t e h => by have := inv h; omega, Ev.step (f := fun k => impl_termAt.j0 k l i true) (fun k => ?_) bad⟩
      rw [st k, decide_eq_true h3]
    have hkd : 1 ≤ kd ∧ kd ≤ ar.top := ⟨by omega, by show kd ≤ 3; omega⟩
    -- the rounds over its parts
    have go : ∀ {r}, Ev (fun k => impl_termAt.l0 k l i ((i + 1 : Nat) : Int) (kd - 1) 0 kd n []) r → Ev (fun k => impl_termAt.f k l i u) r := by
      intro r hE
      refine Ev.step (f := fun k => impl_termAt.j0 k l i false) (fun k => ?_) (Ev.step (fun k => ?_) hE)
      · rw [st k, decide_eq_false h3]
      · simp only [impl_termAt.j0]
        rw [if_neg (by simp), if_pos (by omega), if_pos (by omega), rdC, hk, hn, next i hil (by omega), w64 (x := kd - 1) (by omega) (by omega)]
    have done : ∀ (e j : Int) (ps : List S68), ¬ j < kd - 1 → Ev (fun k => impl_termAt.l0 k l i e (kd - 1) j kd n ps) (kd, n, ps, e, true) := by
      intro e j ps hps
      refine Ev.step (f := fun _ => some (kd, n, ps, e, true)) (fun k => ?_) (Ev.now _)
      simp only [impl_termAt.l0]
      rw [if_neg hps]
    have one : ∀ (e : Nat) (j : Int) (ps : List S68), 0 ≤ j → j < kd - 1 → ∀ {r}, Ev (fun k => (impl_termAt.f k l e i).bind fun bt => (if bt.2.2.2.2 = true then (if ps.length < 3518437208883 then (impl_termAt.l0 k l i bt.2.2.2.1 (kd - 1) (j + 1) kd n (ps ++ [(⟨bt.1, bt.2.1, bt.2.2.1⟩ : S68)])) else (none)) else (some (0, 0, ([] : List S68), 0, false)))) r → Ev (fun k => impl_termAt.l0 k l i e (kd - 1) j kd n ps) r := by
      intro e j ps hj0 hj r hE
      refine Ev.step (fun k => ?_) hE
      simp only [impl_termAt.l0]
      rw [if_pos hj, w64 (x := j + 1) (by omega) (by omega)]
    by_cases hk1 : kd = 1
    · refine .inl ⟨.leaf kd n, i + 1, .leaf (by rw [hx, h1]) hkd (by rw [hk1]; rfl), ?_⟩
      exact go (done _ _ _ (by omega))
    have inva : ∀ {t e}, Par ar (l.map nd) i u t e → ∃ a e1, Par ar (l.map nd) (i + 1) i a e1 := by
      intro t e h
      cases h with
      | leaf h2 h3 h4 =>
        rw [hx] at h2; injection h2 with h2; injection h2 with a b c; subst a
        have : kd = 2 ∨ kd = 3 := by omega
        rcases this with rfl | rfl <;> exact absurd h4 (by decide)
      | un h2 _ _ h5 => exact ⟨_, _, h5⟩
      | bin _ _ _ h5 _ => exact ⟨_, _, h5⟩
    rcases ih (d - 1) (by omega) (i + 1) i (by omega) with ⟨a, e1, pa, ea⟩ | ⟨na, ea⟩
    case inr =>
      refine .inr ⟨fun t e h => ?_, go (one _ _ _ (by omega) (by omega) (Ev.bind ea (Ev.ite_neg (by simp) (Ev.now _))))⟩
      obtain ⟨a, e1, h5⟩ := inva h
      exact na _ _ h5
    have s1 := pa.span
    have l1 := pa.lt
    by_cases hk2 : kd = 2
    · refine .inl ⟨.un kd n a, e1, .un (by rw [hx, h1]) hkd (by rw [hk2]; rfl) pa, ?_⟩
      refine go (one _ 0 [] (by omega) (by omega) (Ev.bind ea (Ev.ite_pos rfl (Ev.ite_pos (by simp) ?_))))
      show Ev (fun k => impl_termAt.l0 k l i (e1 : Int) (kd - 1) (0 + 1) kd n ([] ++ [(⟨(toS a).f0, (toS a).f1, (toS a).f2⟩ : S68)])) _
      rw [toS_eta, List.nil_append]
      exact done (e1 : Int) _ [toS a] (by omega)
    have hk3 : kd = 3 := by omega
    have hw : ar.want kd = 2 := by rw [hk3]; rfl
    have invb : ∀ {t e}, Par ar (l.map nd) i u t e → ∃ a b e1, Par ar (l.map nd) (i + 1) i a e1 ∧ Par ar (l.map nd) e1 i b e := by
      intro t e h
      cases h with
      | leaf h2 _ h4 => rw [hx] at h2; injection h2 with h2; injection h2 with a b c; subst a; omega
      | un h2 _ h4 _ => rw [hx] at h2; injection h2 with h2; injection h2 with a b c; subst a; omega
      | bin _ _ _ h5 h6 => exact ⟨_, _, _, h5, h6⟩
    rcases ih (l.length - e1) (by omega) e1 i (by omega) with ⟨b, e2, pb, eb⟩ | ⟨nb, eb⟩
    case inr =>
      refine .inr ⟨fun t e h => ?_, go (one _ 0 _ (by omega) (by omega) (Ev.bind ea (Ev.ite_pos rfl (Ev.ite_pos (by simp) (one _ _ _ (by omega) (by omega) (Ev.bind eb (Ev.ite_neg (by simp) (Ev.now _))))))))⟩
      obtain ⟨a', b', e1', h5, h6⟩ := invb h
      obtain ⟨_, rfl⟩ := pa.unique h5
      exact nb _ _ h6
    refine .inl ⟨.bin kd n a b, e2, .bin (by rw [hx, h1]) hkd hw pa pb, ?_⟩
    refine go (one _ 0 [] (by omega) (by omega) (Ev.bind ea (Ev.ite_pos rfl (Ev.ite_pos (by simp) ?_))))
    show Ev (fun k => impl_termAt.l0 k l i (e1 : Int) (kd - 1) (0 + 1) kd n ([] ++ [(⟨(toS a).f0, (toS a).f1, (toS a).f2⟩ : S68)])) _
    rw [toS_eta, List.nil_append]
    refine one e1 _ [toS a] (by omega) (by omega) (Ev.bind eb (Ev.ite_pos rfl (Ev.ite_pos (by simp) ?_)))
    show Ev (fun k => impl_termAt.l0 k l i (e2 : Int) (kd - 1) (0 + 1 + 1) kd n ([toS a] ++ [(⟨(toS b).f0, (toS b).f1, (toS b).f2⟩ : S68)])) _
    rw [toS_eta]
    exact done (e2 : Int) _ [toS a, toS b] (by omega)

def numOk (k n : Int) : Prop := 0 ≤ n ∧ n ≤ 99 ∧ (k = 1 ∨ n = 0)

theorem Tr.depth_le (t : Tr) : t.depth ≤ t.size ∧ 1 ≤ t.depth := by
  induction t with
  | leaf k n => exact ⟨Nat.le_refl _, Nat.le_refl _⟩
  | un k n a ih => show a.depth + 1 ≤ 1 + a.size ∧ 1 ≤ a.depth + 1; omega
  | bin k n a b iha ihb => show max a.depth b.depth + 1 ≤ 1 + a.size + b.size ∧ 1 ≤ max a.depth b.depth + 1; omega

theorem size_ev : ∀ (t : Tr), t.size ≤ 4000 → Ev (fun k => impl_term_size.f k (toS t).f0 (toS t).f1 (toS t).f2) (t.size : Int) := by
  have start : ∀ (kd n : Int) (ps : List S68) {r}, Ev (fun k => impl_term_size.l0 k 1 ps ps.length 0) r → Ev (fun k => impl_term_size.f k kd n ps) r := fun kd n ps r h => Ev.step (fun k => rfl) h
  have fin : ∀ (s : Int) (ps : List S68), Ev (fun k => impl_term_size.l0 k s ps ps.length ps.length) s := by
    intro s ps
    refine Ev.step (f := fun _ => some s) (fun k => ?_) (Ev.now _)
    simp only [impl_term_size.l0]
    rw [if_neg (by omega)]
  have part : ∀ (s i s2 : Nat) (ps : List S68) (x : S68), i < ps.length → ps.length ≤ 2 → rd_T68 ps i = x → s + s2 ≤ 4000 → Ev (fun k => impl_term_size.f k x.f0 x.f1 x.f2) (s2 : Int) → ∀ {r}, Ev (fun k => impl_term_size.l0 k ((s + s2 : Nat) : Int) ps ps.length ((i + 1 : Nat) : Int)) r → Ev (fun k => impl_term_size.l0 k s ps ps.length i) r := by
    intro s i s2 ps x hi hl hx hs hE r h
    refine Ev.step (f := fun k => (impl_term_size.f k x.f0 x.f1 x.f2).bind fun t104 => impl_term_size.l0 k (wrap64 ((s : Int) + t104)) ps ps.length ((i + 1 : Nat) : Int)) (fun k => ?_) (Ev.bind hE ?_)
    · simp only [impl_term_size.l0]
      rw [if_pos (by omega), if_pos (by omega), if_pos (by omega), hx, next i hi (by omega)]
    · show Ev (fun k => impl_term_size.l0 k (wrap64 ((s : Int) + s2)) ps ps.length ((i + 1 : Nat) : Int)) r
      rw [w64 (by omega) (by omega), show (s : Int) + s2 = ((s + s2 : Nat) : Int) by omega]
      exact h
  intro t
  induction t with
  | leaf kd n => intro _; exact start kd n [] (fin 1 [])
  | un kd n a ih =>
    intro hs
    have hs' : 1 + a.size ≤ 4000 := hs
    exact start kd n [toS a] (part 1 0 a.size [toS a] (toS a) (by simp) (by simp) rfl hs' (ih (by omega)) (fin _ [toS a]))
  | bin kd n x y ihx ihy =>
    intro hs
    have hs' : 1 + x.size + y.size ≤ 4000 := hs
    exact start kd n [toS x, toS y] (part 1 0 x.size [toS x, toS y] (toS x) (by simp) (by simp) rfl (by omega) (ihx (by omega))
      (part (1 + x.size) 1 y.size [toS x, toS y] (toS y) (by simp) (by simp) rfl hs' (ihy (by omega)) (fin _ [toS x, toS y])))

theorem depth_ev : ∀ (t : Tr), t.size ≤ 4000 → Ev (fun k => impl_term_depth.f k (toS t).f0 (toS t).f1 (toS t).f2) (t.depth : Int) := by
  have start : ∀ (kd n : Int) (ps : List S68) {r}, Ev (fun k => impl_term_depth.l0 k 0 ps ps.length 0) r → Ev (fun k => impl_term_depth.f k kd n ps) r := fun kd n ps r h => Ev.step (fun k => rfl) h
  have fin : ∀ (s : Nat) (ps : List S68), s ≤ 4000 → Ev (fun k => impl_term_depth.l0 k s ps ps.length ps.length) ((s + 1 : Nat) : Int) := by
    intro s ps hs
    refine Ev.step (f := fun _ => some ((s + 1 : Nat) : Int)) (fun k => ?_) (Ev.now _)
    simp only [impl_term_depth.l0]
    rw [if_neg (by omega), w64 (by omega) (by omega)]
    rfl
  have part : ∀ (s i s2 : Nat) (ps : List S68) (x : S68), i < ps.length → ps.length ≤ 2 → rd_T68 ps i = x → Ev (fun k => impl_term_depth.f k x.f0 x.f1 x.f2) (s2 : Int) → ∀ {r}, Ev (fun k => impl_term_depth.l0 k ((max s s2 : Nat) : Int) ps ps.length ((i + 1 : Nat) : Int)) r → Ev (fun k => impl_term_depth.l0 k s ps ps.length i) r := by
    intro s i s2 ps x hi hl hx hE r h
    have hm : mx (s : Int) (s2 : Int) = ((max s s2 : Nat) : Int) := by unfold mx; split <;> omega
    refine Ev.step (f := fun k => (impl_term_depth.f k x.f0 x.f1 x.f2).bind fun t104 => impl_term_depth.l0 k (mx (s : Int) t104) ps ps.length ((i + 1 : Nat) : Int)) (fun k => ?_) (Ev.bind hE ?_)
    · simp only [impl_term_depth.l0]
      rw [if_pos (by omega), if_pos (by omega), if_pos (by omega), hx, next i hi (by omega)]
    · show Ev (fun k => impl_term_depth.l0 k (mx (s : Int) s2) ps ps.length ((i + 1 : Nat) : Int)) r
      rw [hm]
      exact h
  intro t
  induction t with
  | leaf kd n => intro _; exact start kd n [] (fin 0 [] (by omega))
  | un kd n a ih =>
    intro hs
    have hs' : 1 + a.size ≤ 4000 := hs
    have := Tr.depth_le a
    refine start kd n [toS a] (part 0 0 a.depth [toS a] (toS a) (by simp) (by simp) rfl (ih (by omega)) (Ev.of_eq (fin _ [toS a] (by omega)) ?_))
    rw [Nat.zero_max]; rfl
  | bin kd n x y ihx ihy =>
    intro hs
    have hs' : 1 + x.size + y.size ≤ 4000 := hs
    have := Tr.depth_le x
    have := Tr.depth_le y
    refine start kd n [toS x, toS y] (part 0 0 x.depth [toS x, toS y] (toS x) (by simp) (by simp) rfl (ihx (by omega)) (part _ 1 y.depth [toS x, toS y] (toS y) (by simp) (by simp) rfl (ihy (by omega)) (Ev.of_eq (fin _ [toS x, toS y] (by omega)) ?_)))
    rw [Nat.zero_max]; rfl

theorem node_iff (k n : Int) : Are68.nodeOk k n = true ↔ numOk k n := by
  unfold Are68.nodeOk numOk; simp; omega
theorem nums_iff : ∀ (t : Tr), (Are68.nodeOk (toS t).f0 (toS t).f1 && Are68.okL (toS t).f2) = true ↔ t.all numOk := by
  intro t
  induction t with
  | leaf k n =>
    show (Are68.nodeOk k n && Are68.okL []) = true ↔ numOk k n
    rw [Are68.okL_all]; simp [node_iff]
  | un k n a ih =>
    show (Are68.nodeOk k n && Are68.okL [toS a]) = true ↔ numOk k n ∧ a.all numOk
    rw [Are68.okL_all, ← ih, ← node_iff, ← Are68.okT_eq]; simp
  | bin k n a b iha ihb =>
    show (Are68.nodeOk k n && Are68.okL [toS a, toS b]) = true ↔ numOk k n ∧ a.all numOk ∧ b.all numOk
    rw [Are68.okL_all, ← iha, ← ihb, ← node_iff, ← Are68.okT_eq, ← Are68.okT_eq]; simp

theorem isGood_ev (t : Tr) (hs : t.size ≤ 4000) : ∃ b, Ev (fun k => impl_term_isGood.f k (toS t).f0 (toS t).f1 (toS t).f2) b ∧ (b = true ↔ t.size ≤ 150 ∧ t.depth ≤ 40 ∧ t.all numOk) := by
  have h1 := size_ev t hs
  have h2 := depth_ev t hs
  unfold impl_term_isGood.f
  by_cases c1 : t.size ≤ 150
  case neg => exact ⟨false, Ev.bind h1 (Ev.ite_neg (by omega) (Ev.now _)), fun h => absurd h (by simp), fun h => absurd h.1 c1⟩
  by_cases c2 : t.depth ≤ 40
  case neg => exact ⟨false, Ev.bind h1 (Ev.ite_pos (by omega) (Ev.bind h2 (Ev.ite_neg (by omega) (Ev.now _)))), fun h => absurd h (by simp), fun h => absurd h.2.1 c2⟩
  refine ⟨Are68.nodeOk (toS t).f0 (toS t).f1 && Are68.okL (toS t).f2, Ev.bind h1 (Ev.ite_pos (by omega) (Ev.bind h2 (Ev.ite_pos (by omega) (Ev.now _)))), ?_⟩
  rw [nums_iff]
  exact ⟨fun h => ⟨c1, c2, h⟩, fun h => h.2.2⟩
end Go.Proofs.Ytcjhhdecckcibaa.TermL

namespace Go.Proofs.Ytcjhhdecckcibaa.TermL
open Go.RowKit Go.Proofs.Ytcjhhdecckcibaa.G Go.Proofs.Ytcjhhdecckcibaa.EvL Go.Proofs.Ytcjhhdecckcibaa.TreeM Go.Proofs.YtcjhhdecckcibaaW.PrintWords Go.Proofs.YtcjhhdecckcibaaW.PrintLast
set_option linter.unusedVariables false

def Tells (l : List S62) (t : Tr) : Prop := 1 ≤ l.length ∧ l.length ≤ 150 ∧ Par ar (l.map nd) 0 (-1) t l.length ∧ t.all numOk ∧ t.depth ≤ 40

theorem nodes_iff (l : List S62) (h1 : 1 ≤ l.length) (h2 : l.length ≤ 150) : (∀ m, 0 ≤ m → m < l.length → NodeOk (l.map nd) m) ↔ ∃ t, Tells l t := by
  have hlen : (l.map nd).length = l.length := List.length_map ..
  have hli := loc_iff (A := ar) (l := l.map nd) ar2 (by omega)
  constructor
  · intro h
    have L : TreeM.Loc ar (l.map nd) := by
      refine ⟨fun _ => (h 0 (Nat.le_refl _) (by omega)).top.mp rfl, fun m h3 h4 => ?_, fun m h3 h4 => ?_, fun m h3 => (h m (by omega) (by omega)).kind, fun m h3 => (h m (by omega) (by omega)).wants⟩
      · have hm := h m (by omega) (by omega)
        have := hm.ahead
        have := hm.top
        omega
      · have hm := h m (by omega) (by omega)
        obtain ⟨x, hx, hxu⟩ := hm.around.resolve_left (by omega)
        rw [← hxu, Int.toNat_natCast]; exact hx
    obtain ⟨t, ht⟩ := hli.mp L
    rw [hlen] at ht
    refine ⟨t, h1, h2, ht, (ht.alls numOk).mpr (fun m h3 h4 => (h m h3 h4).num), ?_⟩
    obtain ⟨m, h3, h4, h5⟩ := ht.deep.2
    have hm := (h m h3 h4).deep
    have h0 : (chain (l.map nd) 0).length = 1 := by rw [chain_top (by rw [ht.span.2.2]; omega)]; rfl
    omega
  · rintro ⟨t, _, _, ht, hn, hd⟩ m _ hm
    have L : TreeM.Loc ar (l.map nd) := hli.mpr ⟨t, by rw [hlen]; exact ht⟩
    have h0 : (chain (l.map nd) 0).length = 1 := by rw [chain_top (by rw [ht.span.2.2]; omega)]; rfl
    have hr := L.root (by omega)
    refine ⟨?_, ?_, L.kinds m (by omega), (ht.alls numOk).mp hn m (by omega) hm, ?_, by have := ht.deep.1 m (by omega) hm; omega, L.wants m (by omega)⟩
    · by_cases h3 : m = 0
      · subst h3; exact ⟨fun _ => hr, fun _ => rfl⟩
      · have := L.ahead m (by omega) (by omega); omega
    · by_cases h3 : m = 0
      · subst h3; omega
      · have := L.ahead m (by omega) (by omega); omega
    · by_cases h3 : m = 0
      · exact .inl h3
      · have h4 := L.ahead m (by omega) (by omega)
        exact .inr ⟨_, L.around m (by omega) (by omega), by omega⟩

theorem specGood (l : List S62) (hl : l.length ≤ 9223372036854775807) : ∃ b, Ev (fun k => spec_GoodTerm.f k l) b ∧ (b = true ↔ ∃ t, Tells l t) := by
  unfold spec_GoodTerm.f
  rw [l1In_eq]
  simp only [Option.bind_some, decide_eq_true_eq]
  by_cases h : (1 : Int) ≤ (l.length : Int) ∧ (l.length : Int) ≤ 150
  · obtain ⟨b, hb, hbi⟩ := specLoop l (by omega) l.length 0 (by omega) (fun m hm => by omega)
    exact ⟨b, Ev.ite_pos h hb, hbi.trans (nodes_iff l (by omega) (by omega))⟩
  · exact ⟨false, Ev.ite_neg h (Ev.now _), fun h2 => absurd h2 (by simp), fun ⟨t, h2, h3, _⟩ => absurd ⟨by omega, by omega⟩ h⟩

theorem rootEv (l : List S62) (hl : l.length ≤ 9223372036854775807) : ∃ (x : S68) (b : Bool), Ev (fun k => impl_termOf.f k l) (x.f0, x.f1, x.f2, b) ∧ (b = true ↔ ∃ t, Tells l t) ∧ (b = true → ∃ t, Tells l t ∧ x = toS t) := by
  have bad : (¬ ∃ t, Tells l t) → ∀ (x : S68), Ev (fun k => impl_termOf.f k l) (x.f0, x.f1, x.f2, false) → ∃ (x : S68) (b : Bool), Ev (fun k => impl_termOf.f k l) (x.f0, x.f1, x.f2, b) ∧ (b = true ↔ ∃ t, Tells l t) ∧ (b = true → ∃ t, Tells l t ∧ x = toS t) :=
    fun h x hE => ⟨x, false, hE, ⟨fun h2 => absurd h2 (by simp), fun h2 => absurd h2 h⟩, fun h2 => absurd h2 (by simp)⟩
  have none : Ev (fun k => impl_termOf.j0 k l true) (0, 0, ([] : List S68), false) := Ev.step (f := fun _ => some (0, 0, ([] : List S68), false)) (fun k => by simp only [impl_termOf.j0]; rfl) (Ev.now _)
  by_cases h1 : (l.length : Int) < 1
  · refine bad (fun ⟨t, h2, _⟩ => by omega) ⟨0, 0, []⟩ ?_
    unfold impl_termOf.f
    exact Ev.ite_pos h1 none
  by_cases h2 : (l.length : Int) > 150
  · refine bad (fun ⟨t, _, h3, _⟩ => by omega) ⟨0, 0, []⟩ ?_
    unfold impl_termOf.f
    refine Ev.ite_neg h1 ?_
    rw [decide_eq_true h2]; exact none
  have go : ∀ {r}, Ev (fun k => (impl_termAt.f k l 0 (-1)).bind fun bt102 => (if bt102.2.2.2.2 = true then (if bt102.2.2.2.1 = (l.length : Int) then ((impl_term_isGood.f k bt102.1 bt102.2.1 bt102.2.2.1).bind fun t110 => (some (bt102.1, bt102.2.1, bt102.2.2.1, t110))) else (some (bt102.1, bt102.2.1, bt102.2.2.1, false))) else (some (bt102.1, bt102.2.1, bt102.2.2.1, false)))) r → Ev (fun k => impl_termOf.f k l) r := by
    intro r hE
    unfold impl_termOf.f
    refine Ev.ite_neg h1 ?_
    rw [decide_eq_false h2]
    exact Ev.step (fun k => by simp only [impl_termOf.j0]; rfl) hE
  rcases termAt_ev l (by omega) l.length 0 (-1) (by omega) with ⟨t, e, ht, hE⟩ | ⟨hn, hE⟩
  case inr =>
    exact bad (fun ⟨t, _, _, h3, _⟩ => hn _ _ h3) ⟨0, 0, []⟩ (go (Ev.bind hE (Ev.ite_neg (by simp) (Ev.now _))))
  by_cases he : e = l.length
  case neg =>
    refine bad (fun ⟨t', _, _, h3, _⟩ => he (ht.unique h3).2) (toS t) (go (Ev.bind hE (Ev.ite_pos rfl (Ev.ite_neg ?_ (Ev.now _)))))
    show ¬ (e : Int) = _
    omega
  subst he
  have hs := ht.span
  obtain ⟨b, hb, hbi⟩ := isGood_ev t (by omega)
  refine ⟨toS t, b, go (Ev.bind hE (Ev.ite_pos rfl (Ev.ite_pos rfl (Ev.bind hb (Ev.now _))))), ?_, ?_⟩
  · rw [hbi]
    constructor
    · intro h3; exact ⟨t, by omega, by omega, ht, h3.2.2, h3.2.1⟩
    · rintro ⟨t', _, _, h3, h4, h5⟩
      obtain ⟨rfl, _⟩ := ht.unique h3
      exact ⟨by omega, h5, h4⟩
  · intro h3
    rw [hbi] at h3
    exact ⟨t, ⟨by omega, by omega, ht, h3.2.2, h3.2.1⟩, rfl⟩

theorem sizes (l : List S65) (hl : l.length ≤ 9223372036854775807) : ∃ t, laws_szTermS.f l 1048576 = some t ∧ (¬ t < 0 → l.length ≤ 1048576) := by
  unfold laws_szTermS.f
  rw [w64 (x := 1048576 - (l.length : Int)) (by omega) (by omega)]
  by_cases h : 1048576 - (l.length : Int) < 0
  · rw [if_pos h]; exact ⟨-1, rfl, fun h => absurd (by decide) h⟩
  · rw [if_neg h]; exact ⟨_, rfl, fun _ => by omega⟩
end Go.Proofs.Ytcjhhdecckcibaa.TermL

namespace Go.Proofs.Ytcjhhdecckcibaa.TreeM
set_option linter.unusedVariables false

def Tr.wf (A : Arity) : Tr → Prop
  | .leaf k _ => (1 ≤ k ∧ k ≤ A.top) ∧ A.want k = 0
  | .un k _ a => ((1 ≤ k ∧ k ≤ A.top) ∧ A.want k = 1) ∧ a.wf A
  | .bin k _ a b => ((1 ≤ k ∧ k ≤ A.top) ∧ A.want k = 2) ∧ a.wf A ∧ b.wf A
theorem Par.wf {A : Arity} {l : List Nd} {i e : Nat} {u : Int} {t : Tr} (h : Par A l i u t e) : t.wf A := by
  induction h with
  | leaf h hk hw => exact ⟨hk, hw⟩
  | un h hk hw ha ih => exact ⟨⟨hk, hw⟩, ih⟩
  | bin h hk hw ha hb ih1 ih2 => exact ⟨⟨hk, hw⟩, ih1, ih2⟩

def pts (l : List Nd) (i : Nat) : Nat → Nat → List Nat
  | _, 0 => []
  | a, d + 1 => if up l a = (i : Int) then a :: pts l i (a + 1) d else pts l i (a + 1) d
theorem pts_add (l : List Nd) (i : Nat) : ∀ (d a d' : Nat), pts l i a (d + d') = pts l i a d ++ pts l i (a + d) d'
  | 0, a, d' => by simp [pts]
  | d + 1, a, d' => by
    have e : d + 1 + d' = (d + d') + 1 := by omega
    rw [e]
    show (if up l a = (i : Int) then a :: pts l i (a + 1) (d + d') else pts l i (a + 1) (d + d')) = (if up l a = (i : Int) then a :: pts l i (a + 1) d else pts l i (a + 1) d) ++ pts l i (a + (d + 1)) d'
    rw [pts_add l i d (a + 1) d', show a + 1 + d = a + (d + 1) by omega]
    split <;> rfl
theorem pts_none (l : List Nd) (i : Nat) : ∀ (d a : Nat), (∀ m, a ≤ m → m < a + d → up l m ≠ (i : Int)) → pts l i a d = []
  | 0, a, h => rfl
  | d + 1, a, h => by
    show (if up l a = (i : Int) then a :: pts l i (a + 1) d else pts l i (a + 1) d) = []
    rw [if_neg (h a (Nat.le_refl _) (by omega)), pts_none l i d (a + 1) (fun m h1 h2 => h m (by omega) (by omega))]

def Shut (l : List Nd) (i e : Nat) : Prop := ∀ m, e ≤ m → m < l.length → ¬ ((i : Int) ≤ up l m ∧ up l m < (e : Int))

inductive Parts (A : Arity) (l : List Nd) : Nat → Tr → Nat → Prop
  | leaf {i : Nat} {k n : Int} (h : l.getD i z = ⟨k, n, up l i⟩) (hi : i < l.length) (hw : A.want k = 0) (hp : pts l i (i + 1) (l.length - (i + 1)) = []) : Parts A l i (.leaf k n) (i + 1)
  | un {i e : Nat} {k n : Int} {a : Tr} (h : l.getD i z = ⟨k, n, up l i⟩) (hi : i < l.length) (hw : A.want k = 1) (hp : pts l i (i + 1) (l.length - (i + 1)) = [i + 1]) (ha : Parts A l (i + 1) a e) : Parts A l i (.un k n a) e
  | bin {i e e' : Nat} {k n : Int} {a b : Tr} (h : l.getD i z = ⟨k, n, up l i⟩) (hi : i < l.length) (hw : A.want k = 2) (hp : pts l i (i + 1) (l.length - (i + 1)) = [i + 1, e]) (ha : Parts A l (i + 1) a e) (hb : Parts A l e b e') : Parts A l i (.bin k n a b) e'

theorem Par.parts {A : Arity} {l : List Nd} {i e : Nat} {u : Int} {t : Tr} (h : Par A l i u t e) : Shut l i e → Parts A l i t e := by
  have at1 : ∀ (q : Nat) (k n v : Int), l[q]? = some ⟨k, n, v⟩ → l.getD q z = ⟨k, n, up l q⟩ := fun q k n v h => by rw [up_of h, List.getD_eq_getElem?_getD, h]; rfl
  induction h with
  | @leaf i u k n h hk hw =>
    intro hs
    refine .leaf (at1 _ _ _ _ h) (lt_of h) hw (pts_none _ _ _ _ fun m h1 h2 he => hs m h1 (by have := lt_of h; omega) ?_)
    omega
  | @un i e u k n a h hk hw ha ih =>
    intro hs
    have hlt := ha.lt
    have hsp := ha.span
    refine .un (at1 _ _ _ _ h) (lt_of h) hw ?_ (ih fun m h1 h2 h3 => hs m h1 h2 (by omega))
    obtain ⟨d, hd⟩ : ∃ d, e - (i + 1) = d + 1 := ⟨e - (i + 1) - 1, by omega⟩
    rw [show l.length - (i + 1) = (d + 1) + (l.length - e) by omega, pts_add l i (d + 1) (i + 1) (l.length - e), show i + 1 + (d + 1) = e by omega]
    have e1 : pts l i (i + 1) (d + 1) = [i + 1] := by
      show (if up l (i + 1) = (i : Int) then (i + 1) :: pts l i (i + 1 + 1) d else pts l i (i + 1 + 1) d) = _
      rw [if_pos hsp.2.2, pts_none]
      intro q h3 h4
      have := ha.inside q (by omega) (by omega); omega
    have e2 : pts l i e (l.length - e) = [] := pts_none _ _ _ _ fun m h1 h2 he => hs m h1 (by omega) (by omega)
    rw [e1, e2]; rfl
  | @bin i e e' u k n a b h hk hw ha hb ih1 ih2 =>
    intro hs
    have hlt := ha.lt
    have hsp := ha.span
    have hlt2 := hb.lt
    have hsp2 := hb.span
    refine .bin (at1 _ _ _ _ h) (lt_of h) hw ?_ (ih1 fun m h1 h2 h3 => ?_) (ih2 fun m h1 h2 h3 => hs m h1 h2 (by omega))
    · obtain ⟨d, hd⟩ : ∃ d, e - (i + 1) = d + 1 := ⟨e - (i + 1) - 1, by omega⟩
      obtain ⟨d2, hd2⟩ : ∃ d2, e' - e = d2 + 1 := ⟨e' - e - 1, by omega⟩
      rw [show l.length - (i + 1) = (d + 1) + ((d2 + 1) + (l.length - e')) by omega, pts_add l i (d + 1) (i + 1) ((d2 + 1) + (l.length - e')), show i + 1 + (d + 1) = e by omega, pts_add l i (d2 + 1) e (l.length - e'), show e + (d2 + 1) = e' by omega]
      have e1 : pts l i (i + 1) (d + 1) = [i + 1] := by
        show (if up l (i + 1) = (i : Int) then (i + 1) :: pts l i (i + 1 + 1) d else pts l i (i + 1 + 1) d) = _
        rw [if_pos hsp.2.2, pts_none]
        intro q h3 h4
        have := ha.inside q (by omega) (by omega); omega
      have e2 : pts l i e (d2 + 1) = [e] := by
        show (if up l e = (i : Int) then e :: pts l i (e + 1) d2 else pts l i (e + 1) d2) = _
        rw [if_pos hsp2.2.2, pts_none]
        intro q h3 h4
        have := hb.inside q (by omega) (by omega); omega
      have e3 : pts l i e' (l.length - e') = [] := pts_none _ _ _ _ fun m h1 h2 he => hs m h1 (by omega) (by omega)
      rw [e1, e2, e3]; rfl
    · by_cases hm : m < e'
      · by_cases hme : m = e
        · subst hme; omega
        · have := hb.inside m (by omega) hm; omega
      · exact hs m (by omega) h2 (by omega)

theorem Par.parts_all {A : Arity} {l : List Nd} {t : Tr} (h : Par A l 0 (-1) t l.length) : Parts A l 0 t l.length := h.parts fun m h1 h2 => by omega
end Go.Proofs.Ytcjhhdecckcibaa.TreeM
