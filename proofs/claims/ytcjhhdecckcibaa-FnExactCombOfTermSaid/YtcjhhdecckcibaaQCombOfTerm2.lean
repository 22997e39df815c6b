/- Part 2 of 5 of the proof that the law FnExactCombOfTermSaid holds: for every input that can be read the call returns true and leaves its arguments as they were; no condition but those each theorem names. -/
import Derived.Test.YtcjhhdecckcibaaQCombOfTermW1
import Derived.Test.YtcjhhdecckcibaaQCombOfTerm1
namespace Go.Proofs.Ytcjhhdecckcibaa.G
open Go.RowKit Go.Proofs.YtcjhhdecckcibaaW.PrintWords Go.Proofs.YtcjhhdecckcibaaW.PrintLast Go.Proofs.YtcjhhdecckcibaaW.PrintMore
attribute [local go_sem] max2_int min2_int max_two min_two max_three min_three max_four min_four   -- for this text's walks alone
set_option linter.unusedVariables false
set_option linter.unusedSimpArgs false

def spec_ldApp.f (a0_0 : Int) (a0_1 : Int) (l0_2 : List (S77)) (a1_0 : Int) (a1_1 : Int) (l1_2 : List (S77)) : Option (Int × Int × (List (S77))) := some (2, 0, (([(⟨a0_0, a0_1, l0_2⟩ : S77), (⟨a1_0, a1_1, l1_2⟩ : S77)] : List (S77))))
set_option maxHeartbeats 8000000 in
set_option maxRecDepth 100000 in
theorem spec_ldApp.calls (a0_0 : Int) (a0_1 : Int) (P0_2_ : Nat → Prop) (A0_2 : Option Addr) (c0_2 : Nat) (l0_2 : List (S77)) (a1_0 : Int) (a1_1 : Int) (P1_2_ : Nat → Prop) (A1_2 : Option Addr) (c1_2 : Nat) (l1_2 : List (S77)) (r1 : Int) (r2 : Int) (r3 : List (S77)) (w : World) (hs0_2 : Kd.V k77 77 w w.heap.size (fun k_ => P0_2_ k_) (.slice A0_2 l0_2.length c0_2) l0_2) (hs1_2 : Kd.V k77 77 w w.heap.size (fun k_ => P1_2_ k_) (.slice A1_2 l1_2.length c1_2) l1_2) (h : spec_ldApp.f a0_0 a0_1 l0_2 a1_0 a1_1 l1_2 = some (r1, r2, r3)) :
  Calls Try.prog 71 #[.agg #[.int .i64 a0_0, .int .i64 a0_1, .slice A0_2 l0_2.length c0_2], .agg #[.int .i64 a1_0, .int .i64 a1_1, .slice A1_2 l1_2.length c1_2]] w fun e w' => ∃ v2_ : Value, e = .returned (.agg #[.int .i64 r1, .int .i64 r2, v2_]) ∧ Kd.N k77 77 w' w.heap.size (fun k_ => ((P0_2_ k_ ∨ P1_2_ k_) ∨ w.heap.size ≤ k_)) v2_ r3 ∧ Below w.heap.size w w' := by
 have hu77 := Try.underlying77
 have HO0_2 := aK (show Kd.V k77 77 w w.heap.size (fun k_ => ((P0_2_ k_ ∨ P1_2_ k_) ∨ w.heap.size ≤ k_)) (.slice A0_2 l0_2.length c0_2) l0_2 from Kd.V_mono hs0_2 (fun k_ hk => .inl (.inl hk)))
 have HO1_2 := aK (show Kd.V k77 77 w w.heap.size (fun k_ => ((P0_2_ k_ ∨ P1_2_ k_) ∨ w.heap.size ≤ k_)) (.slice A1_2 l1_2.length c1_2) l1_2 from Kd.V_mono hs1_2 (fun k_ hk => .inl (.inr hk)))
 have HB := aK (Below.refl w.heap.size w)
 have H : (some (2, 0, (([(⟨a0_0, a0_1, l0_2⟩ : S77), (⟨a1_0, a1_1, l1_2⟩ : S77)] : List (S77))))) = some (r1, r2, r3) := h
 clear h
 obtain ⟨y104, hy104⟩ : ∃ y_ : List (S77), y_ = (([(⟨a0_0, a0_1, l0_2⟩ : S77), (⟨a1_0, a1_1, l1_2⟩ : S77)] : List (S77))) := ⟨_, rfl⟩
 replace H : (some (2, 0, y104)) = some (r1, r2, r3) := by first | (rw [hy104]; with_reducible exact H) | (have H2_ := (Option.bind_some _ _).symm.trans H; rw [hy104]; with_reducible exact H2_) | (have H2_ := (Option.bind_some _ _).symm.trans H; with_reducible exact H2_) | with_reducible exact H | (rw [hy104]; exact H) | exact H
 have Ny104 := aK hy104
 clear hy104
 simp only [Option.some.injEq, Prod.mk.injEq] at H
 obtain ⟨rfl, rfl, rfl⟩ := H
 go_enter Try.func71, Try.ntmps71
 go_wp2_with (first | ((with_reducible refine gate_dst (N := 2) rfl ?_); refine bE (N := 2) (cs := #[.int .i64 a0_0, .int .i64 a0_1, .slice A0_2 l0_2.length c0_2]) (t := 77) ?_; intro gb101 hg w3 hbox hb; have GW101 := qw HB hg; have GE101 := qw HB hg; replace HO0_2 := qv HO0_2 hg hb; replace HO1_2 := qv HO1_2 hg hb; have BK101 := aK hbox; replace HB := qs HB hb; clear hb hbox hg) | ((with_reducible refine gate_dst (N := 3) rfl ?_); refine bE (N := 3) (cs := #[.int .i64 a1_0, .int .i64 a1_1, .slice A1_2 l1_2.length c1_2]) (t := 77) ?_; intro gb102 hg w4 hbox hb; have GW102 := qw HB hg; have GE102 := qw HB hg; have NB101_102 := ql BK101 hg; have NB102_101 := qg BK101 hg; replace HO0_2 := qv HO0_2 hg hb; replace HO1_2 := qv HO1_2 hg hb; replace BK101 := qb BK101 hb; have BK102 := aK hbox; replace HB := qs HB hb; clear hb hbox hg) | ((with_reducible refine gate_dst (N := 4) rfl ?_); refine bE (N := 4) (cs := #[.int .i64 0, .int .i64 0, .slice none 0 0]) (t := 77) ?_; intro gb103 hg w5 hbox hb; have GW103 := qw HB hg; have GE103 := qw HB hg; have NB101_103 := ql BK101 hg; have NB103_101 := qg BK101 hg; have NB102_103 := ql BK102 hg; have NB103_102 := qg BK102 hg; replace HO0_2 := qv HO0_2 hg hb; replace HO1_2 := qv HO1_2 hg hb; replace BK101 := qb BK101 hb; replace BK102 := qb BK102 hb; have BK103 := aK hbox; replace HB := qs HB hb; clear hb hbox hg; have hnb6 := NB101_102.out; have hnc6 := NB102_101.out; have hnb7 := NB101_103.out; have hnc7 := NB103_101.out; have hcz8_0 := k30 BK101; have hcz8_1 := k31 BK101; have hcz8_2 := k32 BK101; have hfz8_0 := fz BK101 0; have hfz8_1 := fz BK101 1; have hfz8_2 := fz BK101 2; have hnb9 := NB102_103.out; have hnc9 := NB103_102.out; have hcz10_0 := k30 BK102; have hcz10_1 := k31 BK102; have hcz10_2 := k32 BK102; have hfz10_0 := fz BK102 0; have hfz10_1 := fz BK102 1; have hfz10_2 := fz BK102 2) | ((with_reducible refine gate_dst (N := 7) rfl ?_); refine Kd.N_lit k77 _ 77 ?hg (N' := 7) ?hd (xs := ([(⟨a0_0, a0_1, l0_2⟩ : S77), (⟨a1_0, a1_1, l1_2⟩ : S77)] : List (S77))) (inner := [.int .i64 a0_0, .int .i64 a0_1, .slice A0_2 l0_2.length c0_2, .int .i64 a1_0, .int .i64 a1_1, .slice A1_2 l1_2.length c1_2]) (ok := (fun k_ => ((P0_2_ k_ ∨ P1_2_ k_) ∨ w.heap.size ≤ k_) ∧ k_ ≠ gb101 ∧ k_ ≠ gb102 ∧ k_ ≠ gb103)) (okp := (fun k_ => ((P0_2_ k_ ∨ P1_2_ k_) ∨ w.heap.size ≤ k_) ∧ k_ ≠ gb101 ∧ k_ ≠ gb102 ∧ k_ ≠ gb103)) ?hr ?hp (fun _ hk => hk) ((show ∀ k_, w5.heap.size ≤ k_ → (fun k_ => ((P0_2_ k_ ∨ P1_2_ k_) ∨ w.heap.size ≤ k_) ∧ k_ ≠ gb101 ∧ k_ ≠ gb102 ∧ k_ ≠ gb103) k_ from fun k_ hk => ⟨(.inr (Nat.le_trans (below_size (pH HB)) hk)), Kd.freshB BK101.out k_ hk, Kd.freshB BK102.out k_ hk, Kd.freshB BK103.out k_ hk⟩) _ (Nat.le_refl _)) (Below.refl _ _) (Nat.le_refl _) (by simp) ?_; (case hd => rfl); (case hg => rfl); (case hr => go_simp); (case hp => exact (Reps.c3 (show Kd.FK k77 _ _ (⟨a0_0, a0_1, l0_2⟩ : S77) [.int .i64 a0_0, .int .i64 a0_1, .slice A0_2 l0_2.length c0_2] from (k77_mkF _ _ (⟨a0_0, a0_1, l0_2⟩ : S77) (Kd.V_reads' (Kd.V_mono (ok' := (fun k_ => ((P0_2_ k_ ∨ P1_2_ k_) ∨ w.heap.size ≤ k_) ∧ k_ ≠ gb101 ∧ k_ ≠ gb102 ∧ k_ ≠ gb103)) (HO0_2.out) (fun k_ hk => ⟨hk.1.1.1, ⟨hk.1.1.2, ⟨hk.1.2, hk.2⟩⟩⟩))).2.1 (Kd.V_F (Kd.V_mono (ok' := (fun k_ => ((P0_2_ k_ ∨ P1_2_ k_) ∨ w.heap.size ≤ k_) ∧ k_ ≠ gb101 ∧ k_ ≠ gb102 ∧ k_ ≠ gb103)) (HO0_2.out) (fun k_ hk => ⟨hk.1.1.1, ⟨hk.1.1.2, ⟨hk.1.2, hk.2⟩⟩⟩))))) (Reps.c3 (show Kd.FK k77 _ _ (⟨a1_0, a1_1, l1_2⟩ : S77) [.int .i64 a1_0, .int .i64 a1_1, .slice A1_2 l1_2.length c1_2] from (k77_mkF _ _ (⟨a1_0, a1_1, l1_2⟩ : S77) (Kd.V_reads' (Kd.V_mono (ok' := (fun k_ => ((P0_2_ k_ ∨ P1_2_ k_) ∨ w.heap.size ≤ k_) ∧ k_ ≠ gb101 ∧ k_ ≠ gb102 ∧ k_ ≠ gb103)) (HO1_2.out) (fun k_ hk => ⟨hk.1.1.1, ⟨hk.1.1.2, ⟨hk.1.2, hk.2⟩⟩⟩))).2.1 (Kd.V_F (Kd.V_mono (ok' := (fun k_ => ((P0_2_ k_ ∨ P1_2_ k_) ∨ w.heap.size ≤ k_) ∧ k_ ≠ gb101 ∧ k_ ≠ gb102 ∧ k_ ≠ gb103)) (HO1_2.out) (fun k_ hk => ⟨hk.1.1.1, ⟨hk.1.1.2, ⟨hk.1.2, hk.2⟩⟩⟩))))) (Reps.none _ _)))); intro v105 w11 ho12 hb hg_ hnew_; clear hg_ hnew_; (first | rw [← Ny104.out] at ho12 | (simp only [Int.reduceToNat] at ho12; rw [← Ny104.out] at ho12)); have HO106 := aK (Kd.N_lower ho12 (below_size HB.out)); replace HO0_2 := qe HO0_2 (Kd.N_base ho12) hb; replace HO1_2 := qe HO1_2 (Kd.N_base ho12) hb; replace BK101 := qb BK101 hb; replace BK102 := qb BK102 hb; replace BK103 := qb BK103 hb; replace HB := qs HB hb; clear hb ho12; obtain ⟨Ao13, co13, eo13⟩ := Kd.N_slice HO106.out; subst eo13; have hcz14_0 := k30 BK103; have hcz14_1 := k31 BK103; have hcz14_2 := k32 BK103; have hfz14_0 := fz BK103 0; have hfz14_1 := fz BK103 1; have hfz14_2 := fz BK103 2))
 refine bodyPost_ret (results_cell_row rfl _ _ gb103 77 #[.int .i64 2, .int .i64 0, .slice Ao13 y104.length co13] (0, 0) _ rfl (p3 BK103) Try.underlying77 rfl (by kernel_rfl)) rfl ?_
 exact ⟨_, eW, by (with_reducible repeat (first | apply Kd.N_alloc | apply Kd.N_drewN | apply Kd.N_drew)); exact Kd.N_mono (nF3 gb103 (Kd.N_mono HO106.out (fun k_ hk => (⟨hk, hk.2.2.2⟩ : _ ∧ k_ ≠ gb103))) (fun _ hk => hk.2)) (fun _ hk => hk.1.1), pH HB⟩

end Go.Proofs.Ytcjhhdecckcibaa.G

namespace Go.Proofs.Ytcjhhdecckcibaa.G
open Go.RowKit Go.Proofs.YtcjhhdecckcibaaW.PrintWords Go.Proofs.YtcjhhdecckcibaaW.PrintLast Go.Proofs.YtcjhhdecckcibaaW.PrintMore
attribute [local go_sem] max2_int min2_int max_two min_two max_three min_three max_four min_four   -- for this text's walks alone
set_option linter.unusedVariables false
set_option linter.unusedSimpArgs false

def spec_ldOne.f (a0 : Int) : Option (Int × Int × (List (S77))) := some (a0, 0, ([] : List (S77)))
set_option maxHeartbeats 8000000 in
set_option maxRecDepth 100000 in
theorem spec_ldOne.calls (a0 : Int) (r1 : Int) (r2 : Int) (r3 : List (S77)) (w : World) (h : spec_ldOne.f a0 = some (r1, r2, r3)) :
    Calls Try.prog 72 #[.int .i64 a0] w fun e w' => ∃ v2_ : Value, e = .returned (.agg #[.int .i64 r1, .int .i64 r2, v2_]) ∧ Kd.R k77 77 w' w.heap.size (fun _ => True) v2_ r3 ∧ Below w.heap.size w w' := by
  have hu77 := Try.underlying77
  have HB := Aside0.mk (Below.refl w.heap.size w)
  have H : (some (a0, 0, ([] : List (S77)))) = some (r1, r2, r3) := h
  clear h
  simp only [Option.some.injEq, Prod.mk.injEq] at H
  obtain ⟨rfl, rfl, rfl⟩ := H
  go_enter Try.func72, Try.ntmps72
  go_wp2_with (first | ((with_reducible refine gate_dst (N := 2) rfl ?_); refine box_event ?hg (N := 2) ?hd (cs := #[.int .i64 0, .int .i64 0, .slice none 0 0]) (t := 77) ?hr ?_; (case hd => rfl); (case hg => rfl); (case hr => first | (go_simp; done) | (go_simp; rfl)); intro gb101 hg w2 hbox hb; have n0_ := Aside0.mk (below_step (by repeat (first | (with_reducible first | exact HB.out | apply below_alloc | apply pw_below_drewN | apply below_drew1) | exact HB.out)) hb); have n1_ := Aside0.mk (hbox); have n2_ := Aside0.mk ((by rw [hg]; exact (below_size (by repeat (first | (with_reducible first | exact HB.out | apply below_alloc | apply pw_below_drewN | apply below_drew1) | exact HB.out))) : w.heap.size ≤ gb101)); have n3_ := Aside0.mk ((by rw [hg]; exact (below_size (by repeat (first | (with_reducible first | exact HB.out | apply below_alloc | apply pw_below_drewN | apply below_drew1) | exact HB.out))) : w.heap.size ≤ gb101)); clear HB; have HB := n0_; have BK101 := n1_; have GW101 := n2_; have GE101 := n3_; clear n0_ n1_ n2_ n3_; clear hb hbox hg; have hcz3_0 : w2.cell? ⟨gb101, 0, none⟩ = some (.int .i64 0) := (blk_cell BK101.out 0).trans rfl; have hcz3_1 : w2.cell? ⟨gb101, 1, none⟩ = some (.int .i64 0) := (blk_cell BK101.out 1).trans rfl; have hcz3_2 : w2.cell? ⟨gb101, 2, none⟩ = some (.slice none 0 0) := (blk_cell BK101.out 2).trans rfl; have hfz3_0 := blk_frozen BK101.out 0; have hfz3_1 := blk_frozen BK101.out 1; have hfz3_2 := blk_frozen BK101.out 2))
  refine bodyPost_ret (results_cell_row rfl _ _ gb101 77 #[.int .i64 a0, .int .i64 0, .slice none 0 0] (0, 0) _ rfl (by (with_reducible repeat (first | refine blk_drewN ?_ _ | refine blk_drew ?_ | refine blk_alloc ?_ _)); refine blk_put (cs := #[.int .i64 a0, .int .i64 0, .slice none 0 0]) ?_ 2 _ rfl; (with_reducible repeat (first | refine blk_drewN ?_ _ | refine blk_drew ?_ | refine blk_alloc ?_ _)); refine blk_put (cs := #[.int .i64 a0, .int .i64 0, .slice none 0 0]) ?_ 1 _ rfl; (with_reducible repeat (first | refine blk_drewN ?_ _ | refine blk_drew ?_ | refine blk_alloc ?_ _)); refine blk_put (cs := #[.int .i64 0, .int .i64 0, .slice none 0 0]) ?_ 0 _ rfl; (with_reducible repeat (first | refine blk_drewN ?_ _ | refine blk_drew ?_ | refine blk_alloc ?_ _)); exact BK101.out) Try.underlying77 rfl (by kernel_rfl)) rfl ?_
  exact ⟨_, by first | rfl | (simp [errW_none, errW_some] <;> rfl) | (simp [*, errW_none, errW_some] <;> rfl), by first | exact Kd.R_nil _ _ _ _ _ | exact Kd.N_nil _ _ _ _ _ | exact Kd.V_nil _ _ _ _ _ | exact Kd.Q_nil _ _ _ _ _ | exact Kd.S_nil _ _ _ _ _, by repeat (first | (with_reducible first | exact HB.out | apply below_alloc | apply pw_below_drewN | apply below_drew1 | refine below_set ?_ GE101.out) | exact HB.out)⟩

end Go.Proofs.Ytcjhhdecckcibaa.G

namespace Go.Proofs.Ytcjhhdecckcibaa.G
open Go.RowKit Go.Proofs.YtcjhhdecckcibaaW.PrintWords Go.Proofs.YtcjhhdecckcibaaW.PrintLast Go.Proofs.YtcjhhdecckcibaaW.PrintMore
attribute [local go_sem] max2_int min2_int max_two min_two max_three min_three max_four min_four   -- for this text's walks alone
set_option linter.unusedVariables false
set_option linter.unusedSimpArgs false

def spec_ldIs.f (a0_0 : Int) (a0_1 : Int) (l0_2 : List (S77)) (a1 : Int) : Option (Bool) := if a0_0 = 1 then (some (a0_1 == a1)) else (some false)
set_option maxHeartbeats 8000000 in
set_option maxRecDepth 100000 in
theorem spec_ldIs.calls (a0_0 : Int) (a0_1 : Int) (A0_2 : Option Addr) (c0_2 : Nat) (l0_2 : List (S77)) (a1 : Int) (r : Bool) (w : World) (hr0_2 : Kd.C k77 w A0_2 l0_2.length l0_2) (hc0_2 : l0_2.length ≤ c0_2) (h : spec_ldIs.f a0_0 a0_1 l0_2 a1 = some r) :
    Calls Try.prog 73 #[.agg #[.int .i64 a0_0, .int .i64 a0_1, .slice A0_2 l0_2.length c0_2], .int .i64 a1] w fun e w' => e = .returned (.bool r) ∧ Below w.heap.size w w' := by
  have hu77 := Try.underlying77
  have HR0_2 := Aside0.mk hr0_2
  have HC0_2 := Aside0.mk hc0_2
  clear hr0_2 hc0_2
  have HB := Aside0.mk (Below.refl w.heap.size w)
  have H : (if a0_0 = 1 then (some (a0_1 == a1)) else (some false)) = some r := h
  clear h
  by_cases c3 : a0_0 = 1
  · rw [if_pos c3] at H
    have c3b0 : (a0_0 == 1) = true := beq_iff_eq.mpr c3
    have c3b1 : (a0_0 != 1) = false := bne_eq_false_iff_eq.mpr c3
    clear c3
    obtain rfl := Option.some.inj H
    go_enter Try.func73, Try.ntmps73
    go_wp2_with (first | ((with_reducible refine gate_dst (N := 2) rfl ?_); refine box_event ?hg (N := 2) ?hd (cs := #[.int .i64 a0_0, .int .i64 a0_1, .slice A0_2 l0_2.length c0_2]) (t := 77) ?hr ?_; (case hd => rfl); (case hg => rfl); (case hr => first | (go_simp; done) | (go_simp; rfl)); intro gb101 hg w4 hbox hb; have n0_ := Aside0.mk (below_step (by repeat (first | (with_reducible first | exact HB.out | apply below_alloc | apply pw_below_drewN | apply below_drew1) | exact HB.out)) hb); have n1_ := Aside0.mk (hbox); have n2_ := Aside0.mk ((by rw [hg]; exact (below_size (by repeat (first | (with_reducible first | exact HB.out | apply below_alloc | apply pw_below_drewN | apply below_drew1) | exact HB.out))) : w.heap.size ≤ gb101)); have n3_ := Aside0.mk ((by rw [hg]; exact (below_size (by repeat (first | (with_reducible first | exact HB.out | apply below_alloc | apply pw_below_drewN | apply below_drew1) | exact HB.out))) : w.heap.size ≤ gb101)); clear HB; have HB := n0_; have BK101 := n1_; have GW101 := n2_; have GE101 := n3_; clear n0_ n1_ n2_ n3_; clear hb hbox hg; have hcz5_0 : w4.cell? ⟨gb101, 0, none⟩ = some (.int .i64 a0_0) := (blk_cell BK101.out 0).trans rfl; have hcz5_1 : w4.cell? ⟨gb101, 1, none⟩ = some (.int .i64 a0_1) := (blk_cell BK101.out 1).trans rfl; have hcz5_2 : w4.cell? ⟨gb101, 2, none⟩ = some (.slice A0_2 l0_2.length c0_2) := (blk_cell BK101.out 2).trans rfl; have hfz5_0 := blk_frozen BK101.out 0; have hfz5_1 := blk_frozen BK101.out 1; have hfz5_2 := blk_frozen BK101.out 2))
    go_ret
    exact ⟨by first | rfl | (simp [errW_none, errW_some] <;> rfl) | (simp [*, errW_none, errW_some] <;> rfl), by repeat (first | (with_reducible first | exact HB.out | apply below_alloc | apply pw_below_drewN | apply below_drew1 | refine below_set ?_ GE101.out) | exact HB.out)⟩
  · rw [if_neg c3] at H
    have c3b0 : (a0_0 == 1) = false := beq_eq_false_iff_ne.mpr c3
    have c3b1 : (a0_0 != 1) = true := bne_iff_ne.mpr c3
    obtain rfl := Option.some.inj H
    go_enter Try.func73, Try.ntmps73
    go_wp2_with (first | ((with_reducible refine gate_dst (N := 2) rfl ?_); refine box_event ?hg (N := 2) ?hd (cs := #[.int .i64 a0_0, .int .i64 a0_1, .slice A0_2 l0_2.length c0_2]) (t := 77) ?hr ?_; (case hd => rfl); (case hg => rfl); (case hr => first | (go_simp; done) | (go_simp; rfl)); intro gb101 hg w6 hbox hb; have n0_ := Aside0.mk (below_step (by repeat (first | (with_reducible first | exact HB.out | apply below_alloc | apply pw_below_drewN | apply below_drew1) | exact HB.out)) hb); have n1_ := Aside0.mk (hbox); have n2_ := Aside0.mk ((by rw [hg]; exact (below_size (by repeat (first | (with_reducible first | exact HB.out | apply below_alloc | apply pw_below_drewN | apply below_drew1) | exact HB.out))) : w.heap.size ≤ gb101)); have n3_ := Aside0.mk ((by rw [hg]; exact (below_size (by repeat (first | (with_reducible first | exact HB.out | apply below_alloc | apply pw_below_drewN | apply below_drew1) | exact HB.out))) : w.heap.size ≤ gb101)); clear HB; have HB := n0_; have BK101 := n1_; have GW101 := n2_; have GE101 := n3_; clear n0_ n1_ n2_ n3_; clear hb hbox hg; have hcz7_0 : w6.cell? ⟨gb101, 0, none⟩ = some (.int .i64 a0_0) := (blk_cell BK101.out 0).trans rfl; have hcz7_1 : w6.cell? ⟨gb101, 1, none⟩ = some (.int .i64 a0_1) := (blk_cell BK101.out 1).trans rfl; have hcz7_2 : w6.cell? ⟨gb101, 2, none⟩ = some (.slice A0_2 l0_2.length c0_2) := (blk_cell BK101.out 2).trans rfl; have hfz7_0 := blk_frozen BK101.out 0; have hfz7_1 := blk_frozen BK101.out 1; have hfz7_2 := blk_frozen BK101.out 2))
    go_ret
    exact ⟨by first | rfl | (simp [errW_none, errW_some] <;> rfl) | (simp [*, errW_none, errW_some] <;> rfl), by repeat (first | (with_reducible first | exact HB.out | apply below_alloc | apply pw_below_drewN | apply below_drew1 | refine below_set ?_ GE101.out) | exact HB.out)⟩

end Go.Proofs.Ytcjhhdecckcibaa.G

namespace Go.Proofs.Ytcjhhdecckcibaa.G
open Go.RowKit Go.Proofs.YtcjhhdecckcibaaW.PrintWords Go.Proofs.YtcjhhdecckcibaaW.PrintLast Go.Proofs.YtcjhhdecckcibaaW.PrintMore
attribute [local go_sem] max2_int min2_int max_two min_two max_three min_three max_four min_four   -- for this text's walks alone
set_option linter.unusedVariables false
set_option linter.unusedSimpArgs false

mutual
def spec_ldAbstract.j0 : Nat → Int → Bool → Int → Int → List (S77) → Int → Int → List (S77) → Option (Int × Int × (List (S77)))
 | 0, _, _, _, _, _, _, _, _ => none
 | k + 1, x1, x34, x121000, x121001, x121002, x123000, x123001, x123002 => if x34 = true then (some (x121000, x121001, x121002)) else ((spec_ldOne.f 3).bind fun bt125 => ((spec_ldAbstract.f k x121000 x121001 x121002 x1).bind fun bt130 => ((spec_ldApp.f bt125.1 bt125.2.1 bt125.2.2 bt130.1 bt130.2.1 bt130.2.2).bind fun bt135 => ((spec_ldAbstract.f k x123000 x123001 x123002 x1).bind fun bt140 => ((spec_ldApp.f bt135.1 bt135.2.1 bt135.2.2 bt140.1 bt140.2.1 bt140.2.2).bind fun bt145 => (some (bt145.1, bt145.2.1, bt145.2.2)))))))
def spec_ldAbstract.f : Nat → Int → Int → List (S77) → Int → Option (Int × Int × (List (S77)))
 | 0, _, _, _, _ => none
 | k + 1, a0_0, a0_1, l0_2, a1 => (spec_ldHas.f k a0_0 a0_1 l0_2 a1).bind fun t103 => (if t103 = true then (if a0_0 = 1 then ((spec_ldOne.f 5).bind fun bt114 => (some (bt114.1, bt114.2.1, bt114.2.2))) else (if 0 < (l0_2.length : Int) then (if 1 < (l0_2.length : Int) then ((spec_ldIs.f ((rd_T77 l0_2 1).f0) ((rd_T77 l0_2 1).f1) ((rd_T77 l0_2 1).f2) a1).bind fun t123 => (if t123 = true then ((spec_ldHas.f k ((rd_T77 l0_2 0).f0) ((rd_T77 l0_2 0).f1) ((rd_T77 l0_2 0).f2) a1).bind fun t124 => (spec_ldAbstract.j0 k a1 (!t124) ((rd_T77 l0_2 0).f0) ((rd_T77 l0_2 0).f1) ((rd_T77 l0_2 0).f2) ((rd_T77 l0_2 1).f0) ((rd_T77 l0_2 1).f1) ((rd_T77 l0_2 1).f2))) else (spec_ldAbstract.j0 k a1 false ((rd_T77 l0_2 0).f0) ((rd_T77 l0_2 0).f1) ((rd_T77 l0_2 0).f2) ((rd_T77 l0_2 1).f0) ((rd_T77 l0_2 1).f1) ((rd_T77 l0_2 1).f2)))) else (none)) else (none))) else ((spec_ldOne.f 4).bind fun bt104 => ((spec_ldApp.f bt104.1 bt104.2.1 bt104.2.2 a0_0 a0_1 l0_2).bind fun bt109 => (some (bt109.1, bt109.2.1, bt109.2.2)))))
end
def spec_ldAbstract.T9 : Bool × List (List Nat × List Nat) := (true, [([], []), ([], []), ([], []), ([1, 2, 0], [1, 2]), ([0, 3, 3], [0, 3]), ([], []), ([], []), ([5, 6, 4], [5, 6]), ([4, 7, 7], [4, 7]), ([8, 8, 0, 1, 2, 3, 4, 5, 6, 7, 8], [8])])
def spec_ldAbstract.B9 : List Nat := [0, 0, 0, 7, 15, 0, 0, 127, 255, 511]
theorem spec_ldAbstract.tab9 : rtab .any (opsOf Try.f51 9) = spec_ldAbstract.T9 := by kernel_rfl
theorem spec_ldAbstract.bits9 : waitsOk spec_ldAbstract.T9.2 spec_ldAbstract.B9 = true := by kernel_rfl
set_option maxHeartbeats 8000000 in
set_option maxRecDepth 100000 in
theorem spec_ldAbstract.calls (k : Nat) : ∀ (a0_0 : Int) (a0_1 : Int) (P0_2_ : Nat → Prop) (A0_2 : Option Addr) (c0_2 : Nat) (l0_2 : List (S77)) (a1 : Int) (r1 : Int) (r2 : Int) (r3 : List (S77)) (w : World) (hs0_2 : Kd.V k77 77 w w.heap.size (fun k_ => P0_2_ k_) (.slice A0_2 l0_2.length c0_2) l0_2) (h : spec_ldAbstract.f k a0_0 a0_1 l0_2 a1 = some (r1, r2, r3)),
  Calls Try.prog 51 #[.agg #[.int .i64 a0_0, .int .i64 a0_1, .slice A0_2 l0_2.length c0_2], .int .i64 a1] w fun e w' => ∃ v2_ : Value, e = .returned (.agg #[.int .i64 r1, .int .i64 r2, v2_]) ∧ Kd.V k77 77 w' w.heap.size (fun k_ => (P0_2_ k_ ∨ w.heap.size ≤ k_)) v2_ r3 ∧ Below w.heap.size w w' := by
 induction k using Nat.strongRecOn with
 | _ k ih =>
 intro a0_0 a0_1 P0_2_ A0_2 c0_2 l0_2 a1 r1 r2 r3 w hs0_2 h
 cases k with
 | zero => exact absurd h (by simp [spec_ldAbstract.f])
 | succ k =>
 simp only [spec_ldAbstract.f] at h
 have hu77 := Try.underlying77
 have HO0_2 := aK (show Kd.V k77 77 w w.heap.size (fun k_ => (P0_2_ k_ ∨ w.heap.size ≤ k_)) (.slice A0_2 l0_2.length c0_2) l0_2 from Kd.V_mono hs0_2 (fun k_ hk => .inl hk))
 have HB := aK (Below.refl w.heap.size w)
 have H : ((spec_ldHas.f k a0_0 a0_1 l0_2 a1).bind fun t103 => (if t103 = true then (if a0_0 = 1 then ((spec_ldOne.f 5).bind fun bt114 => (some (bt114.1, bt114.2.1, bt114.2.2))) else (if 0 < (l0_2.length : Int) then (if 1 < (l0_2.length : Int) then ((spec_ldIs.f ((rd_T77 l0_2 1).f0) ((rd_T77 l0_2 1).f1) ((rd_T77 l0_2 1).f2) a1).bind fun t123 => (if t123 = true then ((spec_ldHas.f k ((rd_T77 l0_2 0).f0) ((rd_T77 l0_2 0).f1) ((rd_T77 l0_2 0).f2) a1).bind fun t124 => (spec_ldAbstract.j0 k a1 (!t124) ((rd_T77 l0_2 0).f0) ((rd_T77 l0_2 0).f1) ((rd_T77 l0_2 0).f2) ((rd_T77 l0_2 1).f0) ((rd_T77 l0_2 1).f1) ((rd_T77 l0_2 1).f2))) else (spec_ldAbstract.j0 k a1 false ((rd_T77 l0_2 0).f0) ((rd_T77 l0_2 0).f1) ((rd_T77 l0_2 0).f2) ((rd_T77 l0_2 1).f0) ((rd_T77 l0_2 1).f1) ((rd_T77 l0_2 1).f2)))) else (none)) else (none))) else ((spec_ldOne.f 4).bind fun bt104 => ((spec_ldApp.f bt104.1 bt104.2.1 bt104.2.2 a0_0 a0_1 l0_2).bind fun bt109 => (some (bt109.1, bt109.2.1, bt109.2.2)))))) = some (r1, r2, r3) := h
 clear h
 replace H := Option.bind_eq_some_iff.mp H
 obtain ⟨t103, A30, H⟩ := H
 try dsimp only at H
 have A3 := aK A30
 clear A30
 by_cases c4 : t103 = true
 ·subst c4
  rw [if_pos rfl] at H
  by_cases c5 : a0_0 = 1
  ·rw [if_pos c5] at H
   have c5b0 : (a0_0 == 1) = true := beq_iff_eq.mpr c5
   have c5b1 : (a0_0 != 1) = false := bne_eq_false_iff_eq.mpr c5
   clear c5
   replace H := Option.bind_eq_some_iff.mp H
   obtain ⟨⟨t114, t115, t116⟩, A60, H⟩ := H
   try dsimp only at H
   have A6 := aK A60
   clear A60
   simp only [Option.some.injEq, Prod.mk.injEq] at H
   obtain ⟨rfl, rfl, rfl⟩ := H
   go_enter Try.func51, Try.ntmps51
   go_wp2_with (first | ((with_reducible refine gate_dst (N := 2) rfl ?_); refine bE (N := 2) (cs := #[.int .i64 a0_0, .int .i64 a0_1, .slice A0_2 l0_2.length c0_2]) (t := 77) ?_; intro gb101 hg w7 hbox hb; have GW101 := qw HB hg; have GE101 := qw HB hg; replace HO0_2 := qv HO0_2 hg hb; have BK101 := aK hbox; replace HB := qs HB hb; clear hb hbox hg) | ((with_reducible refine gate_dst (N := 4) rfl ?_); refine bE (N := 4) (cs := #[.int .i64 0, .int .i64 0, .slice none 0 0]) (t := 77) ?_; intro gb102 hg w8 hbox hb; have GW102 := qw HB hg; have GE102 := qw HB hg; have NB101_102 := ql BK101 hg; have NB102_101 := qg BK101 hg; replace HO0_2 := qv HO0_2 hg hb; replace BK101 := qb BK101 hb; have BK102 := aK hbox; replace HB := qs HB hb; clear hb hbox hg; have hnb9 := NB101_102.out; have hnc9 := NB102_101.out; have hcz10_0 := k30 BK101; have hcz10_1 := k31 BK101; have hcz10_2 := k32 BK101; have hfz10_0 := fz BK101 0; have hfz10_1 := fz BK101 1; have hfz10_2 := fz BK101 2) | ((with_reducible refine gate_callee (f := 70) rfl ?_); refine goesL_ (some 9) rfl rfl Try.func70 (by kernel_rfl) rfl #[.agg #[.int .i64 a0_0, .int .i64 a0_1, .slice A0_2 l0_2.length c0_2], .int .i64 a1] rfl tA ?_; (with_reducible refine (spec_ldHas.calls k a0_0 a0_1 _ _ l0_2 a1 true _ ?side1 ?side2 A3.out).mono ?_); (case side1 => exact sC ((Kd.V_reads' HO0_2.out).2.2)); (case side2 => exact (Kd.V_reads' HO0_2.out).2.1); rintro e w11 ⟨rfl, hb⟩; refine ⟨_, rfl, ?_⟩; have n0_ := aK (Kd.V_below HO0_2.out hb); replace BK101 := qb BK101 hb; replace BK102 := qb BK102 hb; clear HO0_2; have HO0_2 := n0_; clear n0_; replace HB := qs HB hb; (try clear hb); have hcz12_0 := k30 BK101; have hcz12_1 := k31 BK101; have hcz12_2 := k32 BK101; have hfz12_0 := fz BK101 0; have hfz12_1 := fz BK101 1; have hfz12_2 := fz BK101 2) | ((with_reducible refine gate_callee (f := 72) rfl ?_); refine goesL_ (some 17) rfl rfl Try.func72 (by kernel_rfl) rfl #[.int .i64 5] rfl tA ?_; (with_reducible refine (spec_ldOne.calls 5 t114 t115 t116 _ A6.out).mono ?_); rintro e w13 ⟨v117, rfl, ho0, hb⟩; refine ⟨_, rfl, ?_⟩; have HO118 := aK (Kd.N_lower (Kd.N_mono (ok' := fun k_ => (P0_2_ k_ ∨ w.heap.size ≤ k_) ∧ k_ ≠ gb101 ∧ k_ ≠ gb102) (Kd.R_N (Kd.R_bound ho0)) (fun k_ hk_ => ⟨(.inr (Nat.le_trans (below_size HB.out) hk_.2.1)), (Kd.freshB BK101.out k_ hk_.2.1), (Kd.freshB BK102.out k_ hk_.2.1)⟩)) (below_size HB.out)); replace HO0_2 := qe HO0_2 (by first | exact Kd.N_base ho0 | exact Kd.R_base ho0) hb; replace BK101 := qb BK101 hb; replace BK102 := qb BK102 hb; replace HB := qs HB hb; (try clear hb); (try clear ho0); have hcz14_0 := k30 BK102; have hcz14_1 := k31 BK102; have hcz14_2 := k32 BK102; have hfz14_0 := fz BK102 0; have hfz14_1 := fz BK102 1; have hfz14_2 := fz BK102 2; obtain ⟨Ao15, co15, eo15⟩ := Kd.N_slice HO118.out; subst eo15))
   refine bodyPost_ret (results_cell_row rfl _ _ gb102 77 #[.int .i64 t114, .int .i64 t115, .slice Ao15 t116.length co15] (0, 0) _ rfl (p3 BK102) Try.underlying77 rfl (by kernel_rfl)) rfl ?_
   exact ⟨_, eW, Kd.N_V (by (with_reducible repeat (first | apply Kd.N_alloc | apply Kd.N_drewN | apply Kd.N_drew)); exact Kd.N_mono (nF3 gb102 (Kd.N_mono HO118.out (fun k_ hk => (⟨hk, hk.2.2⟩ : _ ∧ k_ ≠ gb102))) (fun _ hk => hk.2)) (fun _ hk => hk.1.1)), pH HB⟩
  ·rw [if_neg c5] at H
   have c5b0 : (a0_0 == 1) = false := beq_eq_false_iff_ne.mpr c5
   have c5b1 : (a0_0 != 1) = true := bne_iff_ne.mpr c5
   by_cases c16 : 0 < (l0_2.length : Int)
   ·rw [if_pos c16] at H
    have c16b0 : decide (0 < (l0_2.length : Int)) = true := decide_eq_true c16
    have c16b1 : decide (0 < l0_2.length) = true := decide_eq_true (by omega)
    clear c16
    by_cases c17 : 1 < (l0_2.length : Int)
    ·rw [if_pos c17] at H
     have c17b0 : decide (1 < (l0_2.length : Int)) = true := decide_eq_true c17
     have c17b1 : decide (1 < l0_2.length) = true := decide_eq_true (by omega)
     clear c17
     have HC18 := aK H
     clear H
     go_enter Try.func51, Try.ntmps51
     go_upto_region 7 with (first | ((with_reducible refine gate_dst (N := 2) rfl ?_); refine bE (N := 2) (cs := #[.int .i64 a0_0, .int .i64 a0_1, .slice A0_2 l0_2.length c0_2]) (t := 77) ?_; intro gb101 hg w19 hbox hb; have GW101 := qw HB hg; have GE101 := qw HB hg; replace HO0_2 := qv HO0_2 hg hb; have BK101 := aK hbox; replace HB := qs HB hb; clear hb hbox hg) | ((with_reducible refine gate_dst (N := 4) rfl ?_); refine bE (N := 4) (cs := #[.int .i64 0, .int .i64 0, .slice none 0 0]) (t := 77) ?_; intro gb102 hg w20 hbox hb; have GW102 := qw HB hg; have GE102 := qw HB hg; have NB101_102 := ql BK101 hg; have NB102_101 := qg BK101 hg; replace HO0_2 := qv HO0_2 hg hb; replace BK101 := qb BK101 hb; have BK102 := aK hbox; replace HB := qs HB hb; clear hb hbox hg; have hnb21 := NB101_102.out; have hnc21 := NB102_101.out; have hcz22_0 := k30 BK101; have hcz22_1 := k31 BK101; have hcz22_2 := k32 BK101; have hfz22_0 := fz BK101 0; have hfz22_1 := fz BK101 1; have hfz22_2 := fz BK101 2) | ((with_reducible refine gate_callee (f := 70) rfl ?_); refine goesL_ (some 9) rfl rfl Try.func70 (by kernel_rfl) rfl #[.agg #[.int .i64 a0_0, .int .i64 a0_1, .slice A0_2 l0_2.length c0_2], .int .i64 a1] rfl tA ?_; (with_reducible refine (spec_ldHas.calls k a0_0 a0_1 _ _ l0_2 a1 true _ ?side1 ?side2 A3.out).mono ?_); (case side1 => exact sC ((Kd.V_reads' HO0_2.out).2.2)); (case side2 => exact (Kd.V_reads' HO0_2.out).2.1); rintro e w23 ⟨rfl, hb⟩; refine ⟨_, rfl, ?_⟩; have n0_ := aK (Kd.V_below HO0_2.out hb); replace BK101 := qb BK101 hb; replace BK102 := qb BK102 hb; clear HO0_2; have HO0_2 := n0_; clear n0_; replace HB := qs HB hb; (try clear hb); have hcz24_0 := k30 BK101; have hcz24_1 := k31 BK101; have hcz24_2 := k32 BK101; have hfz24_0 := fz BK101 0; have hfz24_1 := fz BK101 1; have hfz24_2 := fz BK101 2; have p119 : 0 ≤ (0 : Int) := (by omega); have q119 : 0 < (l0_2.length : Int) := dA; obtain ⟨ad119, A119_2, c119_2, e119, hx119_0, hx119_1, hx119_2, hl119_2, hi119_2⟩ := at_T77 (Kd.V_reads' HO0_2.out).2.2 0 p119 q119; cases e119; obtain ⟨ce119, hce119, hMe119, hcc119⟩ := Kd.V_get HO0_2.out z77 0 p119 (by first | exact q119 | exact dA | (have e_ := (Kd.V_reads' HO0_2.out).1; omega)); obtain ⟨ua119_2, uc119_2, rfl, ul119_2, ge119_2⟩ := k77_openF hMe119; have hv119_2 := hcc119 2 _ rfl; rw [add_field _ _ 2 (by omega)] at hv119_2; replace hv119_2 := Option.some.inj (hv119_2.symm.trans hx119_2); injection hv119_2 with hva_ hvn_ hvc_; rw [hva_] at ge119_2; rw [hvc_] at ul119_2; have HL119_2 := aK (show Kd.V k77 77 _ w.heap.size _ _ ((rd_T77 l0_2 0).f2) from Kd.V_mk ul119_2 ge119_2); clear hva_ hvn_ hvc_ ge119_2 ul119_2; clear hcc119 hce119; have qi119 : (0 < l0_2.length) = True := eq_true (by omega); (try rw [show ((0 : Int)).toNat = 0 from rfl] at hx119_0); (try rw [show 0 * 3 = 0 from rfl] at hx119_0); (try rw [Addr.add_zero'] at hx119_0); (try rw [show ((0 : Int)).toNat = 0 from rfl] at hx119_1); (try rw [show 0 * 3 = 0 from rfl] at hx119_1); (try rw [Addr.add_zero'] at hx119_1); (try rw [show ((0 : Int)).toNat = 0 from rfl] at hx119_2); (try rw [show 0 * 3 = 0 from rfl] at hx119_2); (try rw [Addr.add_zero'] at hx119_2); have HR119_2 := aK hi119_2; have HC119_2 := aK hl119_2; clear hi119_2 hl119_2; replace p119 := eq_true p119; replace q119 := eq_true q119) | ((with_reducible refine gate_dst (N := 5) rfl ?_); refine bE (N := 5) (cs := #[.int .i64 0, .int .i64 0, .slice none 0 0]) (t := 77) ?_; intro gb120 hg w25 hbox hb; have GW120 := qw HB hg; have GE120 := qw HB hg; have NB101_120 := ql BK101 hg; have NB120_101 := qg BK101 hg; have NB102_120 := ql BK102 hg; have NB120_102 := qg BK102 hg; replace HR119_2 := qr HL119_2 hb; replace HO0_2 := qv HO0_2 hg hb; replace HL119_2 := qv HL119_2 hg hb; replace BK101 := qb BK101 hb; replace BK102 := qb BK102 hb; have BK120 := aK hbox; replace HB := qs HB hb; clear hb hbox hg; have hnb26 := NB120_101.out; have hnc26 := NB101_120.out; have hnb27 := NB120_102.out; have hnc27 := NB102_120.out; have hcz28_0 := k30 BK120; have hcz28_1 := k31 BK120; have hcz28_2 := k32 BK120; have hfz28_0 := fz BK120 0; have hfz28_1 := fz BK120 1; have hfz28_2 := fz BK120 2) | ((with_reducible refine gate_store (t := 77) (p := 5) rfl ?_); refine store_event (t := 77) (p := 5) (v := ?vo_w29) (w1 := (((w25.setCell ⟨gb120, 0, none⟩ (.int .i64 ((rd_T77 l0_2 0).f0))).setCell ⟨gb120, 1, none⟩ (.int .i64 ((rd_T77 l0_2 0).f1))).setCell ⟨gb120, 2, none⟩ (.slice A119_2 ((rd_T77 l0_2 0).f2).length c119_2))) ?hg ?ho ?hn ?hr ?_; (case ho => rfl); (case hg => rfl); (case hn => rfl); (case hr => first | (go_simp; done) | (go_simp; rfl)); intro w29 hw; have n0_ : Aside0 (Kd.V k77 77 w29 w.heap.size (fun k_ => (P0_2_ k_ ∨ w.heap.size ≤ k_) ∧ k_ ≠ gb101 ∧ k_ ≠ gb102 ∧ k_ ≠ gb120) (.slice (some ad119) l0_2.length c0_2) l0_2) := ⟨(by rw [hw]; exact (by (with_reducible repeat (first | apply Kd.V_alloc | apply Kd.V_drewN | apply Kd.V_drew)); exact Kd.V_mono (vF3 gb120 (Kd.V_mono HO0_2.out (fun k_ hk => (⟨hk, hk.2⟩ : _ ∧ k_ ≠ gb120))) (fun _ hk => hk.2)) (fun _ hk => ⟨hk.1.1.1.1, ⟨hk.1.1.1.2, ⟨hk.1.1.2, hk.1.2⟩⟩⟩)))⟩; have n1_ : Aside0 (Kd.V k77 77 w29 w.heap.size (fun k_ => (P0_2_ k_ ∨ w.heap.size ≤ k_) ∧ k_ ≠ gb101 ∧ k_ ≠ gb102 ∧ k_ ≠ gb120) (.slice A119_2 ((rd_T77 l0_2 0).f2).length c119_2) ((rd_T77 l0_2 0).f2)) := ⟨(by rw [hw]; exact (by (with_reducible repeat (first | apply Kd.V_alloc | apply Kd.V_drewN | apply Kd.V_drew)); exact Kd.V_mono (vF3 gb120 (Kd.V_mono HL119_2.out (fun k_ hk => (⟨hk, hk.2⟩ : _ ∧ k_ ≠ gb120))) (fun _ hk => hk.2)) (fun _ hk => ⟨hk.1.1.1.1, ⟨hk.1.1.1.2, ⟨hk.1.1.2, hk.1.2⟩⟩⟩)))⟩; have n2_ : Aside0 (w29.heap[gb101]? = some (.cells #[.int .i64 a0_0, .int .i64 a0_1, .slice (some ad119) l0_2.length c0_2] 77 (0, 0))) := ⟨(by rw [hw]; exact (by (repeat first | with_reducible apply zN | with_reducible apply zD | with_reducible apply zA | refine blk_far ?_ NB101_120.out _); exact BK101.out))⟩; have n3_ : Aside0 (w29.heap[gb102]? = some (.cells #[.int .i64 0, .int .i64 0, .slice none 0 0] 77 (0, 0))) := ⟨(by rw [hw]; exact (by (repeat first | with_reducible apply zN | with_reducible apply zD | with_reducible apply zA | refine blk_far ?_ NB102_120.out _); exact BK102.out))⟩; have n4_ : Aside0 (w29.heap[gb120]? = some (.cells #[.int .i64 ((rd_T77 l0_2 0).f0), .int .i64 ((rd_T77 l0_2 0).f1), .slice A119_2 ((rd_T77 l0_2 0).f2).length c119_2] 77 (0, 0))) := ⟨(by rw [hw]; exact (p3 BK120))⟩; have n5_ : Aside0 (Below w.heap.size w w29) := ⟨(by rw [hw]; exact (pH HB))⟩; clear hw; clear HO0_2; clear HL119_2; clear BK101; clear BK102; clear BK120; clear HB; have HO0_2 := n0_; have HL119_2 := n1_; have BK101 := n2_; have BK102 := n3_; have BK120 := n4_; have HB := n5_; clear n0_ n1_ n2_ n3_ n4_ n5_; have hcz30_0 := k30 BK101; have hcz30_1 := k31 BK101; have hcz30_2 := k32 BK101; have hfz30_0 := fz BK101 0; have hfz30_1 := fz BK101 1; have hfz30_2 := fz BK101 2; have p121 : 0 ≤ (1 : Int) := (by omega); have q121 : 1 < (l0_2.length : Int) := dA; obtain ⟨ad121, A121_2, c121_2, e121, hx121_0, hx121_1, hx121_2, hl121_2, hi121_2⟩ := at_T77 (Kd.V_reads' HO0_2.out).2.2 1 p121 q121; obtain rfl : ad119 = ad121 := (by injection e121); obtain ⟨ce121, hce121, hMe121, hcc121⟩ := Kd.V_get HO0_2.out z77 1 p121 (by first | exact q121 | exact dA | (have e_ := (Kd.V_reads' HO0_2.out).1; omega)); obtain ⟨ua121_2, uc121_2, rfl, ul121_2, ge121_2⟩ := k77_openF hMe121; have hv121_2 := hcc121 2 _ rfl; rw [add_field _ _ 2 (by omega)] at hv121_2; replace hv121_2 := Option.some.inj (hv121_2.symm.trans hx121_2); injection hv121_2 with hva_ hvn_ hvc_; rw [hva_] at ge121_2; rw [hvc_] at ul121_2; have HL121_2 := aK (show Kd.V k77 77 _ w.heap.size _ _ ((rd_T77 l0_2 1).f2) from Kd.V_mk ul121_2 ge121_2); clear hva_ hvn_ hvc_ ge121_2 ul121_2; clear hcc121 hce121; (try simp only [show (1 : Int).toNat = 1 from rfl, Nat.reduceMul, Nat.reduceEqDiff, Go.Addr.add, ↓reduceIte] at hx121_0); (try simp only [show (1 : Int).toNat = 1 from rfl, Nat.reduceMul, Nat.reduceEqDiff, Go.Addr.add, ↓reduceIte] at hx121_1); (try simp only [show (1 : Int).toNat = 1 from rfl, Nat.reduceMul, Nat.reduceEqDiff, Go.Addr.add, ↓reduceIte] at hx121_2); have qi121 : (1 < l0_2.length) = True := eq_true (by omega); (try rw [show ((1 : Int)).toNat = 1 from rfl] at hx121_0); (try rw [show 1 * 3 = 3 from rfl] at hx121_0); (try rw [show ((1 : Int)).toNat = 1 from rfl] at hx121_1); (try rw [show 1 * 3 = 3 from rfl] at hx121_1); (try rw [show ((1 : Int)).toNat = 1 from rfl] at hx121_2); (try rw [show 1 * 3 = 3 from rfl] at hx121_2); have HR121_2 := aK hi121_2; have HC121_2 := aK hl121_2; clear hi121_2 hl121_2; replace p121 := eq_true p121; replace q121 := eq_true q121) | ((with_reducible refine gate_dst (N := 6) rfl ?_); refine bE (N := 6) (cs := #[.int .i64 0, .int .i64 0, .slice none 0 0]) (t := 77) ?_; intro gb122 hg w31 hbox hb; have GW122 := qw HB hg; have GE122 := qw HB hg; have NB101_122 := ql BK101 hg; have NB122_101 := qg BK101 hg; have NB102_122 := ql BK102 hg; have NB122_102 := qg BK102 hg; have NB120_122 := ql BK120 hg; have NB122_120 := qg BK120 hg; replace HR119_2 := qr HL119_2 hb; replace HR121_2 := qr HL121_2 hb; replace HO0_2 := qv HO0_2 hg hb; replace HL119_2 := qv HL119_2 hg hb; replace HL121_2 := qv HL121_2 hg hb; replace BK101 := qb BK101 hb; replace BK102 := qb BK102 hb; replace BK120 := qb BK120 hb; have BK122 := aK hbox; replace HB := qs HB hb; clear hb hbox hg; have hnb32 := NB122_101.out; have hnc32 := NB101_122.out; have hnb33 := NB122_102.out; have hnc33 := NB102_122.out; have hnb34 := NB122_120.out; have hnc34 := NB120_122.out; have hcz35_0 := k30 BK122; have hcz35_1 := k31 BK122; have hcz35_2 := k32 BK122; have hfz35_0 := fz BK122 0; have hfz35_1 := fz BK122 1; have hfz35_2 := fz BK122 2))
     (try simp only [Act.put, List.setIfInBounds_toArray, List.set_cons_zero, List.set_cons_succ])
     go_cut [34] (fun v34 wc => ∃ (kq : Nat) (x34_17 : Bool), v34 = .bool x34_17 ∧ Aside0 (spec_ldAbstract.j0 kq a1 x34_17 ((rd_T77 l0_2 0).f0) ((rd_T77 l0_2 0).f1) ((rd_T77 l0_2 0).f2) ((rd_T77 l0_2 1).f0) ((rd_T77 l0_2 1).f1) ((rd_T77 l0_2 1).f2) = some (r1, r2, r3)) ∧ Aside0 (kq ≤ k) ∧ Aside0 (Kd.V k77 77 wc w.heap.size (fun k_ => (P0_2_ k_ ∨ w.heap.size ≤ k_) ∧ k_ ≠ gb101 ∧ k_ ≠ gb102 ∧ k_ ≠ gb120 ∧ k_ ≠ gb122) (.slice (some ad119) l0_2.length c0_2) l0_2) ∧ Aside0 (Kd.V k77 77 wc w.heap.size (fun k_ => (P0_2_ k_ ∨ w.heap.size ≤ k_) ∧ k_ ≠ gb101 ∧ k_ ≠ gb102 ∧ k_ ≠ gb120 ∧ k_ ≠ gb122) (.slice A119_2 ((rd_T77 l0_2 0).f2).length c119_2) ((rd_T77 l0_2 0).f2)) ∧ Aside0 (Kd.V k77 77 wc w.heap.size (fun k_ => (P0_2_ k_ ∨ w.heap.size ≤ k_) ∧ k_ ≠ gb101 ∧ k_ ≠ gb102 ∧ k_ ≠ gb120 ∧ k_ ≠ gb122) (.slice A121_2 ((rd_T77 l0_2 1).f2).length c121_2) ((rd_T77 l0_2 1).f2)) ∧ Aside0 (wc.heap[gb101]? = some (.cells #[.int .i64 a0_0, .int .i64 a0_1, (.slice (some ad119) l0_2.length c0_2)] 77 (0, 0))) ∧ Aside0 (wc.heap[gb102]? = some (.cells #[.int .i64 0, .int .i64 0, (.slice none 0 0)] 77 (0, 0))) ∧ Aside0 (wc.heap[gb120]? = some (.cells #[.int .i64 ((rd_T77 l0_2 0).f0), .int .i64 ((rd_T77 l0_2 0).f1), (.slice A119_2 ((rd_T77 l0_2 0).f2).length c119_2)] 77 (0, 0))) ∧ Aside0 (wc.heap[gb122]? = some (.cells #[.int .i64 ((rd_T77 l0_2 1).f0), .int .i64 ((rd_T77 l0_2 1).f1), (.slice A121_2 ((rd_T77 l0_2 1).f2).length c121_2)] 77 (0, 0))) ∧ Aside0 (Kd.C k77 wc A119_2 ((rd_T77 l0_2 0).f2).length ((rd_T77 l0_2 0).f2)) ∧ Aside0 (Kd.C k77 wc A121_2 ((rd_T77 l0_2 1).f2).length ((rd_T77 l0_2 1).f2)) ∧ Aside0 (Below w.heap.size w wc))
     case first =>
      have H := HC18.out
      clear HC18
      replace H := Option.bind_eq_some_iff.mp H
      obtain ⟨t123, A360, H⟩ := H
      try dsimp only at H
      have A36 := aK A360
      clear A360
      by_cases c37 : t123 = true
      ·subst c37
       rw [if_pos rfl] at H
       replace H := Option.bind_eq_some_iff.mp H
       obtain ⟨t124, A380, H⟩ := H
       try dsimp only at H
       have A38 := aK A380
       clear A380
       have H' := aK H
       clear H
       have hnb39 := NB122_101.out
       have hnc39 := NB101_122.out
       have hnb40 := NB122_102.out
       have hnc40 := NB102_122.out
       have hnb41 := NB122_120.out
       have hnc41 := NB120_122.out
       have hcz42_0 := k30 BK122
       have hcz42_1 := k31 BK122
       have hcz42_2 := k32 BK122
       have hfz42_0 := fz BK122 0
       have hfz42_1 := fz BK122 1
       have hfz42_2 := fz BK122 2
       go_wp2_with (first | ((with_reducible refine gate_callee (f := 73) rfl ?_); refine goesL_ (some 28) rfl rfl Try.func73 (by kernel_rfl) rfl #[.agg #[.int .i64 ((rd_T77 l0_2 1).f0), .int .i64 ((rd_T77 l0_2 1).f1), .slice A121_2 ((rd_T77 l0_2 1).f2).length c121_2], .int .i64 a1] rfl tA ?_; (with_reducible refine (spec_ldIs.calls ((rd_T77 l0_2 1).f0) ((rd_T77 l0_2 1).f1) _ _ ((rd_T77 l0_2 1).f2) a1 true _ ?side1 ?side2 A36.out).mono ?_); (case side1 => repeat (first | exact ((Kd.V_reads' (by (with_reducible repeat (first | apply Kd.V_alloc | apply Kd.V_drewN | apply Kd.V_drew)); exact (Kd.V_mono (vF3 gb122 (Kd.V_mono HL121_2.out (fun k_ hk => (⟨hk, hk.2⟩ : _ ∧ k_ ≠ gb122))) (fun _ hk => hk.2)) (fun _ h_ => h_.1)))).2.2) | (with_reducible refine Kd.C_alloc ?_ _) | (with_reducible refine Kd.C_drewN ?_ _) | (with_reducible refine Kd.C_drew ?_))); (case side2 => exact HC121_2.out); rintro e w43 ⟨rfl, hb⟩; refine ⟨_, rfl, ?_⟩; have n0_ := aK (Kd.V_below (by (with_reducible repeat (first | apply Kd.V_alloc | apply Kd.V_drewN | apply Kd.V_drew)); exact (Kd.V_mono (vF3 gb122 (Kd.V_mono HO0_2.out (fun k_ hk => (⟨hk, hk.2⟩ : _ ∧ k_ ≠ gb122))) (fun _ hk => hk.2)) (fun _ h_ => h_.1))) hb); have n1_ := aK (Kd.V_below (by (with_reducible repeat (first | apply Kd.V_alloc | apply Kd.V_drewN | apply Kd.V_drew)); exact (Kd.V_mono (vF3 gb122 (Kd.V_mono HL119_2.out (fun k_ hk => (⟨hk, hk.2⟩ : _ ∧ k_ ≠ gb122))) (fun _ hk => hk.2)) (fun _ h_ => h_.1))) hb); have n2_ := aK (Kd.V_below (by (with_reducible repeat (first | apply Kd.V_alloc | apply Kd.V_drewN | apply Kd.V_drew)); exact (Kd.V_mono (vF3 gb122 (Kd.V_mono HL121_2.out (fun k_ hk => (⟨hk, hk.2⟩ : _ ∧ k_ ≠ gb122))) (fun _ hk => hk.2)) (fun _ h_ => h_.1))) hb); have n3_ := aK (blk_below (g := gb101) (o := .cells #[.int .i64 a0_0, .int .i64 a0_1, .slice (some ad119) l0_2.length c0_2] 77 (0, 0)) (by (repeat first | with_reducible apply zN | with_reducible apply zD | with_reducible apply zA | refine blk_far ?_ NB101_122.out _); exact BK101.out) hb); have n4_ := aK (blk_below (g := gb102) (o := .cells #[.int .i64 0, .int .i64 0, .slice none 0 0] 77 (0, 0)) (by (repeat first | with_reducible apply zN | with_reducible apply zD | with_reducible apply zA | refine blk_far ?_ NB102_122.out _); exact BK102.out) hb); have n5_ := aK (Kd.C_below ((Kd.V_reads' (by (with_reducible repeat (first | apply Kd.V_alloc | apply Kd.V_drewN | apply Kd.V_drew)); exact (Kd.V_mono (vF3 gb122 (Kd.V_mono HL119_2.out (fun k_ hk => (⟨hk, hk.2⟩ : _ ∧ k_ ≠ gb122))) (fun _ hk => hk.2)) (fun _ h_ => h_.1)))).2.2) hb); have n6_ := aK (blk_below (g := gb120) (o := .cells #[.int .i64 ((rd_T77 l0_2 0).f0), .int .i64 ((rd_T77 l0_2 0).f1), .slice A119_2 ((rd_T77 l0_2 0).f2).length c119_2] 77 (0, 0)) (by (repeat first | with_reducible apply zN | with_reducible apply zD | with_reducible apply zA | refine blk_far ?_ NB120_122.out _); exact BK120.out) hb); have n7_ := aK (Kd.C_below ((Kd.V_reads' (by (with_reducible repeat (first | apply Kd.V_alloc | apply Kd.V_drewN | apply Kd.V_drew)); exact (Kd.V_mono (vF3 gb122 (Kd.V_mono HL121_2.out (fun k_ hk => (⟨hk, hk.2⟩ : _ ∧ k_ ≠ gb122))) (fun _ hk => hk.2)) (fun _ h_ => h_.1)))).2.2) hb); have n8_ := aK (blk_below (g := gb122) (o := .cells #[.int .i64 ((rd_T77 l0_2 1).f0), .int .i64 ((rd_T77 l0_2 1).f1), .slice A121_2 ((rd_T77 l0_2 1).f2).length c121_2] 77 (0, 0)) (p3 BK122) hb); have n9_ := aK (below_step (pH HB) hb); clear HO0_2; clear HL119_2; clear HL121_2; clear BK101; clear BK102; clear HR119_2; clear BK120; clear HR121_2; clear BK122; clear HB; have HO0_2 := n0_; have HL119_2 := n1_; have HL121_2 := n2_; have BK101 := n3_; have BK102 := n4_; have HR119_2 := n5_; have BK120 := n6_; have HR121_2 := n7_; have BK122 := n8_; have HB := n9_; clear n0_ n1_ n2_ n3_ n4_ n5_ n6_ n7_ n8_ n9_; (try clear hb); have hnb44 := NB120_101.out; have hnc44 := NB101_120.out; have hnb45 := NB120_102.out; have hnc45 := NB102_120.out; have hcz46_0 := k30 BK120; have hcz46_1 := k31 BK120; have hcz46_2 := k32 BK120; have hfz46_0 := fz BK120 0; have hfz46_1 := fz BK120 1; have hfz46_2 := fz BK120 2) | (go_at_call 70; (with_reducible refine (spec_ldHas.calls k ((rd_T77 l0_2 0).f0) ((rd_T77 l0_2 0).f1) _ _ ((rd_T77 l0_2 0).f2) a1 t124 _ ?side1 ?side2 A38.out).mono ?_); (case side1 => repeat (first | exact (by repeat (first | (with_reducible exact HR119_2.out) | (with_reducible refine Kd.C_alloc ?_ _) | (with_reducible refine Kd.C_drewN ?_ _) | (with_reducible refine Kd.C_drew ?_) | exact HR119_2.out)) | (with_reducible refine Kd.C_alloc ?_ _) | (with_reducible refine Kd.C_drewN ?_ _) | (with_reducible refine Kd.C_drew ?_))); (case side2 => exact HC119_2.out); rintro e w47 ⟨rfl, hb⟩; have n0_ := aK (Kd.V_below HO0_2.out hb); have n1_ := aK (Kd.V_below HL119_2.out hb); have n2_ := aK (Kd.V_below HL121_2.out hb); replace HR119_2 := qr HL119_2 hb; replace HR121_2 := qr HL121_2 hb; replace BK101 := qb BK101 hb; replace BK102 := qb BK102 hb; replace BK120 := qb BK120 hb; replace BK122 := qb BK122 hb; clear HO0_2; have HO0_2 := n0_; clear n0_; clear HL119_2; have HL119_2 := n1_; clear n1_; clear HL121_2; have HL121_2 := n2_; clear n2_; replace HB := qs HB hb; (try clear hb)))
       go_meet
       case rel => exact ⟨_, (!t124), rS, H', ⟨by first | omega | exact Nat.le_refl _⟩, ⟨by (with_reducible repeat (first | apply Kd.V_alloc | apply Kd.V_drewN | apply Kd.V_drew)); exact Kd.V_mono HO0_2.out (fun _ hk => ⟨hk.1.1, ⟨hk.1.2.1, ⟨hk.1.2.2.1, ⟨hk.1.2.2.2, hk.2⟩⟩⟩⟩)⟩, ⟨by (with_reducible repeat (first | apply Kd.V_alloc | apply Kd.V_drewN | apply Kd.V_drew)); exact Kd.V_mono HL119_2.out (fun _ hk => ⟨hk.1.1, ⟨hk.1.2.1, ⟨hk.1.2.2.1, ⟨hk.1.2.2.2, hk.2⟩⟩⟩⟩)⟩, ⟨by (with_reducible repeat (first | apply Kd.V_alloc | apply Kd.V_drewN | apply Kd.V_drew)); exact Kd.V_mono HL121_2.out (fun _ hk => ⟨hk.1.1, ⟨hk.1.2.1, ⟨hk.1.2.2.1, ⟨hk.1.2.2.2, hk.2⟩⟩⟩⟩)⟩, ⟨pB BK101⟩, ⟨pB BK102⟩, ⟨pB BK120⟩, ⟨pB BK122⟩, ⟨by repeat (first | (with_reducible exact HR119_2.out) | (with_reducible refine Kd.C_alloc ?_ _) | (with_reducible refine Kd.C_drewN ?_ _) | (with_reducible refine Kd.C_drew ?_) | exact HR119_2.out)⟩, ⟨by repeat (first | (with_reducible exact HR121_2.out) | (with_reducible refine Kd.C_alloc ?_ _) | (with_reducible refine Kd.C_drewN ?_ _) | (with_reducible refine Kd.C_drew ?_) | exact HR121_2.out)⟩, ⟨pH HB⟩⟩
      ·replace c37 := Bool.eq_false_iff.mpr c37
       subst c37
       rw [if_neg (show ¬ (false = true) by decide)] at H
       have H' := aK H
       clear H
       have hnb48 := NB122_101.out
       have hnc48 := NB101_122.out
       have hnb49 := NB122_102.out
       have hnc49 := NB102_122.out
       have hnb50 := NB122_120.out
       have hnc50 := NB120_122.out
       have hcz51_0 := k30 BK122
       have hcz51_1 := k31 BK122
       have hcz51_2 := k32 BK122
       have hfz51_0 := fz BK122 0
       have hfz51_1 := fz BK122 1
       have hfz51_2 := fz BK122 2
       go_wp2_with (first | ((with_reducible refine gate_callee (f := 73) rfl ?_); refine goesL_ (some 28) rfl rfl Try.func73 (by kernel_rfl) rfl #[.agg #[.int .i64 ((rd_T77 l0_2 1).f0), .int .i64 ((rd_T77 l0_2 1).f1), .slice A121_2 ((rd_T77 l0_2 1).f2).length c121_2], .int .i64 a1] rfl tA ?_; (with_reducible refine (spec_ldIs.calls ((rd_T77 l0_2 1).f0) ((rd_T77 l0_2 1).f1) _ _ ((rd_T77 l0_2 1).f2) a1 false _ ?side1 ?side2 A36.out).mono ?_); (case side1 => repeat (first | exact ((Kd.V_reads' (by (with_reducible repeat (first | apply Kd.V_alloc | apply Kd.V_drewN | apply Kd.V_drew)); exact (Kd.V_mono (vF3 gb122 (Kd.V_mono HL121_2.out (fun k_ hk => (⟨hk, hk.2⟩ : _ ∧ k_ ≠ gb122))) (fun _ hk => hk.2)) (fun _ h_ => h_.1)))).2.2) | (with_reducible refine Kd.C_alloc ?_ _) | (with_reducible refine Kd.C_drewN ?_ _) | (with_reducible refine Kd.C_drew ?_))); (case side2 => exact HC121_2.out); rintro e w52 ⟨rfl, hb⟩; refine ⟨_, rfl, ?_⟩; have n0_ := aK (Kd.V_below (by (with_reducible repeat (first | apply Kd.V_alloc | apply Kd.V_drewN | apply Kd.V_drew)); exact (Kd.V_mono (vF3 gb122 (Kd.V_mono HO0_2.out (fun k_ hk => (⟨hk, hk.2⟩ : _ ∧ k_ ≠ gb122))) (fun _ hk => hk.2)) (fun _ h_ => h_.1))) hb); have n1_ := aK (Kd.V_below (by (with_reducible repeat (first | apply Kd.V_alloc | apply Kd.V_drewN | apply Kd.V_drew)); exact (Kd.V_mono (vF3 gb122 (Kd.V_mono HL119_2.out (fun k_ hk => (⟨hk, hk.2⟩ : _ ∧ k_ ≠ gb122))) (fun _ hk => hk.2)) (fun _ h_ => h_.1))) hb); have n2_ := aK (Kd.V_below (by (with_reducible repeat (first | apply Kd.V_alloc | apply Kd.V_drewN | apply Kd.V_drew)); exact (Kd.V_mono (vF3 gb122 (Kd.V_mono HL121_2.out (fun k_ hk => (⟨hk, hk.2⟩ : _ ∧ k_ ≠ gb122))) (fun _ hk => hk.2)) (fun _ h_ => h_.1))) hb); have n3_ := aK (blk_below (g := gb101) (o := .cells #[.int .i64 a0_0, .int .i64 a0_1, .slice (some ad119) l0_2.length c0_2] 77 (0, 0)) (by (repeat first | with_reducible apply zN | with_reducible apply zD | with_reducible apply zA | refine blk_far ?_ NB101_122.out _); exact BK101.out) hb); have n4_ := aK (blk_below (g := gb102) (o := .cells #[.int .i64 0, .int .i64 0, .slice none 0 0] 77 (0, 0)) (by (repeat first | with_reducible apply zN | with_reducible apply zD | with_reducible apply zA | refine blk_far ?_ NB102_122.out _); exact BK102.out) hb); have n5_ := aK (Kd.C_below ((Kd.V_reads' (by (with_reducible repeat (first | apply Kd.V_alloc | apply Kd.V_drewN | apply Kd.V_drew)); exact (Kd.V_mono (vF3 gb122 (Kd.V_mono HL119_2.out (fun k_ hk => (⟨hk, hk.2⟩ : _ ∧ k_ ≠ gb122))) (fun _ hk => hk.2)) (fun _ h_ => h_.1)))).2.2) hb); have n6_ := aK (blk_below (g := gb120) (o := .cells #[.int .i64 ((rd_T77 l0_2 0).f0), .int .i64 ((rd_T77 l0_2 0).f1), .slice A119_2 ((rd_T77 l0_2 0).f2).length c119_2] 77 (0, 0)) (by (repeat first | with_reducible apply zN | with_reducible apply zD | with_reducible apply zA | refine blk_far ?_ NB120_122.out _); exact BK120.out) hb); have n7_ := aK (Kd.C_below ((Kd.V_reads' (by (with_reducible repeat (first | apply Kd.V_alloc | apply Kd.V_drewN | apply Kd.V_drew)); exact (Kd.V_mono (vF3 gb122 (Kd.V_mono HL121_2.out (fun k_ hk => (⟨hk, hk.2⟩ : _ ∧ k_ ≠ gb122))) (fun _ hk => hk.2)) (fun _ h_ => h_.1)))).2.2) hb); have n8_ := aK (blk_below (g := gb122) (o := .cells #[.int .i64 ((rd_T77 l0_2 1).f0), .int .i64 ((rd_T77 l0_2 1).f1), .slice A121_2 ((rd_T77 l0_2 1).f2).length c121_2] 77 (0, 0)) (p3 BK122) hb); have n9_ := aK (below_step (pH HB) hb); clear HO0_2; clear HL119_2; clear HL121_2; clear BK101; clear BK102; clear HR119_2; clear BK120; clear HR121_2; clear BK122; clear HB; have HO0_2 := n0_; have HL119_2 := n1_; have HL121_2 := n2_; have BK101 := n3_; have BK102 := n4_; have HR119_2 := n5_; have BK120 := n6_; have HR121_2 := n7_; have BK122 := n8_; have HB := n9_; clear n0_ n1_ n2_ n3_ n4_ n5_ n6_ n7_ n8_ n9_; (try clear hb)))
       go_meet
       case rel => exact ⟨_, (false), rS, H', ⟨by first | omega | exact Nat.le_refl _⟩, ⟨by (with_reducible repeat (first | apply Kd.V_alloc | apply Kd.V_drewN | apply Kd.V_drew)); exact Kd.V_mono HO0_2.out (fun _ hk => ⟨hk.1.1, ⟨hk.1.2.1, ⟨hk.1.2.2.1, ⟨hk.1.2.2.2, hk.2⟩⟩⟩⟩)⟩, ⟨by (with_reducible repeat (first | apply Kd.V_alloc | apply Kd.V_drewN | apply Kd.V_drew)); exact Kd.V_mono HL119_2.out (fun _ hk => ⟨hk.1.1, ⟨hk.1.2.1, ⟨hk.1.2.2.1, ⟨hk.1.2.2.2, hk.2⟩⟩⟩⟩)⟩, ⟨by (with_reducible repeat (first | apply Kd.V_alloc | apply Kd.V_drewN | apply Kd.V_drew)); exact Kd.V_mono HL121_2.out (fun _ hk => ⟨hk.1.1, ⟨hk.1.2.1, ⟨hk.1.2.2.1, ⟨hk.1.2.2.2, hk.2⟩⟩⟩⟩)⟩, ⟨pB BK101⟩, ⟨pB BK102⟩, ⟨pB BK120⟩, ⟨pB BK122⟩, ⟨by repeat (first | (with_reducible exact HR119_2.out) | (with_reducible refine Kd.C_alloc ?_ _) | (with_reducible refine Kd.C_drewN ?_ _) | (with_reducible refine Kd.C_drew ?_) | exact HR119_2.out)⟩, ⟨by repeat (first | (with_reducible exact HR121_2.out) | (with_reducible refine Kd.C_alloc ?_ _) | (with_reducible refine Kd.C_drewN ?_ _) | (with_reducible refine Kd.C_drew ?_) | exact HR121_2.out)⟩, ⟨pH HB⟩⟩
     case rest =>
      clear HC18
      try clear c1
      try clear p1
      try clear q1
      try clear hx1
      try clear qi1
      try clear c2
      try clear p2
      try clear c3
      try clear c4
      try clear c5
      try clear c5b0
      try clear c5b1
      try clear c7
      try clear c9
      try clear c11
      try clear p11
      try clear q11
      try clear hx11
      try clear qi11
      try clear c12
      try clear p12
      try clear q12
      try clear hx12
      try clear qi12
      try clear c16
      try clear c16b0
      try clear c16b1
      try clear c17
      try clear c17b0
      try clear c17b1
      try clear c21
      try clear c26
      try clear c27
      try clear c32
      try clear c33
      try clear c34
      try clear c37
      try clear c39
      try clear c40
      try clear c41
      try clear c44
      try clear c45
      try clear c48
      try clear c49
      try clear c50
      try clear c51
      try clear hcz10_0
      try clear hcz10_1
      try clear hcz10_2
      try clear hcz12_0
      try clear hcz12_1
      try clear hcz12_2
      try clear hcz14_0
      try clear hcz14_1
      try clear hcz14_2
      try clear hcz22_0
      try clear hcz22_1
      try clear hcz22_2
      try clear hcz24_0
      try clear hcz24_1
      try clear hcz24_2
      try clear hcz28_0
      try clear hcz28_1
      try clear hcz28_2
      try clear hcz30_0
      try clear hcz30_1
      try clear hcz30_2
      try clear hcz35_0
      try clear hcz35_1
      try clear hcz35_2
      try clear hcz42_0
      try clear hcz42_1
      try clear hcz42_2
      try clear hcz46_0
      try clear hcz46_1
      try clear hcz46_2
      try clear hcz51_0
      try clear hcz51_1
      try clear hcz51_2
      try clear hfz10_0
      try clear hfz10_1
      try clear hfz10_2
      try clear hfz12_0
      try clear hfz12_1
      try clear hfz12_2
      try clear hfz14_0
      try clear hfz14_1
      try clear hfz14_2
      try clear hfz22_0
      try clear hfz22_1
      try clear hfz22_2
      try clear hfz24_0
      try clear hfz24_1
      try clear hfz24_2
      try clear hfz28_0
      try clear hfz28_1
      try clear hfz28_2
      try clear hfz30_0
      try clear hfz30_1
      try clear hfz30_2
      try clear hfz35_0
      try clear hfz35_1
      try clear hfz35_2
      try clear hfz42_0
      try clear hfz42_1
      try clear hfz42_2
      try clear hfz46_0
      try clear hfz46_1
      try clear hfz46_2
      try clear hfz51_0
      try clear hfz51_1
      try clear hfz51_2
      try clear hx119_0
      try clear hx119_1
      try clear hx119_2
      try clear hx121_0
      try clear hx121_1
      try clear hx121_2
      try clear p119
      try clear p121
      try clear q119
      try clear q121
      obtain ⟨kq, x34_17, rfl, HA, HJ17, HO_102002, HO_121002, HO_123002, BK101, BK102, BK120, BK122, HR119_2, HR121_2, HB⟩ := hcut
      cases kq with
      | zero => exact absurd HA.out (by simp [spec_ldAbstract.j0])
      | succ kj17 =>
       have H := HA.out
       clear HA
       simp only [spec_ldAbstract.j0] at H
       by_cases c53 : x34_17 = true
       ·subst c53
        rw [if_pos rfl] at H
        simp only [Option.some.injEq, Prod.mk.injEq] at H
        obtain ⟨rfl, rfl, rfl⟩ := H
        have hnb54 := NB120_101.out
        have hnc54 := NB101_120.out
        have hnb55 := NB120_102.out
        have hnc55 := NB102_120.out
        have hnb56 := NB120_122.out
        have hnc56 := NB122_120.out
        have hcz57_0 := k30 BK120
        have hcz57_1 := k31 BK120
        have hcz57_2 := k32 BK120
        have hfz57_0 := fz BK120 0
        have hfz57_1 := fz BK120 1
        have hfz57_2 := fz BK120 2
        have hnb58 := NB102_101.out
        have hnc58 := NB101_102.out
        have hnb59 := NB102_122.out
        have hnc59 := NB122_102.out
        have hcz60_0 := k30 BK102
        have hcz60_1 := k31 BK102
        have hcz60_2 := k32 BK102
        have hfz60_0 := fz BK102 0
        have hfz60_1 := fz BK102 1
        have hfz60_2 := fz BK102 2
        go_wp2
        refine bodyPost_ret (results_cell_row rfl _ _ gb102 77 #[.int .i64 ((rd_T77 l0_2 0).f0), .int .i64 ((rd_T77 l0_2 0).f1), .slice A119_2 ((rd_T77 l0_2 0).f2).length c119_2] (0, 0) _ rfl (p3 BK102) Try.underlying77 rfl (by kernel_rfl)) rfl ?_
        exact ⟨_, eW, by (with_reducible repeat (first | apply Kd.V_alloc | apply Kd.V_drewN | apply Kd.V_drew)); exact Kd.V_mono (vF3 gb102 (Kd.V_mono HO_121002.out (fun k_ hk => (⟨hk, hk.2.2.1⟩ : _ ∧ k_ ≠ gb102))) (fun _ hk => hk.2)) (fun _ hk => hk.1.1), pH HB⟩
       ·replace c53 := Bool.eq_false_iff.mpr c53
        subst c53
        rw [if_neg (show ¬ (false = true) by decide)] at H
        replace H := Option.bind_eq_some_iff.mp H
        obtain ⟨⟨t125, t126, t127⟩, A610, H⟩ := H
        try dsimp only at H
        have A61 := aK A610
        clear A610
        replace H := Option.bind_eq_some_iff.mp H
        obtain ⟨⟨t130, t131, t132⟩, A620, H⟩ := H
        try dsimp only at H
        have A62 := aK A620
        clear A620
        replace H := Option.bind_eq_some_iff.mp H
        obtain ⟨⟨t135, t136, t137⟩, A630, H⟩ := H
        try dsimp only at H
        have A63 := aK A630
        clear A630
        replace H := Option.bind_eq_some_iff.mp H
        obtain ⟨⟨t140, t141, t142⟩, A640, H⟩ := H
        try dsimp only at H
        have A64 := aK A640
        clear A640
        replace H := Option.bind_eq_some_iff.mp H
        obtain ⟨⟨t145, t146, t147⟩, A650, H⟩ := H
        try dsimp only at H
        have A65 := aK A650
        clear A650
        simp only [Option.some.injEq, Prod.mk.injEq] at H
        obtain ⟨rfl, rfl, rfl⟩ := H
        try go_wp2
        have n0_ := aK (Kd.V_drew HO_102002.out)
        have n1_ := aK (Kd.V_drew HO_121002.out)
        have n2_ := aK (Kd.V_drew HO_123002.out)
        have n3_ := aK (blk_drew BK101.out)
        have n4_ := aK (blk_drew BK102.out)
        have n5_ := aK (blk_drew BK120.out)
        have n6_ := aK (blk_drew BK122.out)
        have n7_ := aK (Kd.C_drew HR119_2.out)
        have n8_ := aK (Kd.C_drew HR121_2.out)
        have n9_ := aK (below_drew1 HB.out)
        clear HO_102002
        clear HO_121002
        clear HO_123002
        clear BK101
        clear BK102
        clear BK120
        clear BK122
        clear HR119_2
        clear HR121_2
        clear HB
        have HO_102002 := n0_
        have HO_121002 := n1_
        have HO_123002 := n2_
        have BK101 := n3_
        have BK102 := n4_
        have BK120 := n5_
        have BK122 := n6_
        have HR119_2 := n7_
        have HR121_2 := n8_
        have HB := n9_
        clear n0_ n1_ n2_ n3_ n4_ n5_ n6_ n7_ n8_ n9_
        refine start_ (n := 10) (S := fun w' => w'.cell? ⟨gb120, 0, none⟩ = some (.int .i64 ((rd_T77 l0_2 0).f0)) ∧ w'.cell? ⟨gb120, 1, none⟩ = some (.int .i64 ((rd_T77 l0_2 0).f1)) ∧ w'.cell? ⟨gb120, 2, none⟩ = some (.slice A119_2 ((rd_T77 l0_2 0).f2).length c119_2) ∧ w'.cell? ⟨gb122, 0, none⟩ = some (.int .i64 ((rd_T77 l0_2 1).f0)) ∧ w'.cell? ⟨gb122, 1, none⟩ = some (.int .i64 ((rd_T77 l0_2 1).f1)) ∧ w'.cell? ⟨gb122, 2, none⟩ = some (.slice A121_2 ((rd_T77 l0_2 1).f2).length c121_2)) (ds := []) (bs 0 10) (by kernel_rfl) rfl rfl ⟨(blk_cell BK120.out 0).trans rfl, (blk_cell BK120.out 1).trans rfl, (blk_cell BK120.out 2).trans rfl, (blk_cell BK122.out 0).trans rfl, (blk_cell BK122.out 1).trans rfl, (blk_cell BK122.out 2).trans rfl⟩ (fun hHeld => ?_); refine with_tabW spec_ldAbstract.tab9 spec_ldAbstract.bits9 (fun HT_ HW_ => ?_)
        generalize wc.drew = w66 at HO_102002 HO_121002 HO_123002 BK101 BK102 BK120 BK122 HR119_2 HR121_2 HB hHeld ⊢
        refine pure_ (i := 2) (N := some 38) (v := ?_) (a' := ?_) #[false, false, true, false, false, false, false, false, false, false] rfl rfl (any_of HT_.out (by kernel_rfl)) (fun _ _ _ h => h) (Or.inl ⟨by rfl, ?_⟩) ?_ ?_
        rotate_left
        ·intro w'
         go_simp
         with_reducible rfl
        rotate_left
        ·simp only [sP, i64_w, i32_w]
         rfl
        refine pure_ (i := 6) (N := some 42) (v := ?_) (a' := ?_) #[false, false, true, false, false, false, true, false, false, false] rfl rfl (any_of HT_.out (by kernel_rfl)) (fun _ _ _ h => h) (Or.inl ⟨by rfl, ?_⟩) ?_ ?_
        rotate_left
        ·intro w'
         go_simp
         with_reducible rfl
        rotate_left
        ·simp only [sP, i64_w, i32_w]
         rfl
        refine take_ (i := 1) (N := some 37) (v := ?_) (a' := ?_) #[false, true, true, false, false, false, true, false, false, false] rfl rfl (take_ofW HT_.out HW_.out (by kernel_rfl)) (fun _ _ _ h => h) (Or.inl ⟨by rfl, ?_⟩) hHeld ?_ ?_
        rotate_left
        ·rintro w' ⟨s0, s1, s2, s3, s4, s5⟩
         go_simp
         with_reducible rfl
        rotate_left
        ·simp only [sP, i64_w, i32_w]
         rfl
        refine take_ (i := 5) (N := some 41) (v := ?_) (a' := ?_) #[false, true, true, false, false, true, true, false, false, false] rfl rfl (take_ofW HT_.out HW_.out (by kernel_rfl)) (fun _ _ _ h => h) (Or.inl ⟨by rfl, ?_⟩) hHeld ?_ ?_
        rotate_left
        ·rintro w' ⟨s0, s1, s2, s3, s4, s5⟩
         go_simp
         with_reducible rfl
        rotate_left
        ·simp only [sP, i64_w, i32_w]
         rfl
        refine one_ (i := 0) (N := some 36) #[true, true, true, false, false, true, true, false, false, false] rfl rfl (one_of HT_.out (by kernel_rfl)) (by decide) (fun K hK => ?_)
        refine goes_ Try.func72 (by kernel_rfl) rfl #[.int .i64 3] (by rfl) rfl rfl tA ?_
        with_reducible refine (spec_ldOne.calls 3 t125 t126 t127 _ A61.out).mono ?_
        rintro e w67 ⟨v128, rfl, ho0, hb⟩
        refine ⟨_, rfl, ?_⟩
        have n0_ := aK (Kd.V_elder' HO_102002.out (by first | exact Kd.N_base ho0 | exact Kd.R_base ho0) hb)
        have n1_ := aK (Kd.V_elder' HO_121002.out (by first | exact Kd.N_base ho0 | exact Kd.R_base ho0) hb)
        have n2_ := aK (Kd.V_elder' HO_123002.out (by first | exact Kd.N_base ho0 | exact Kd.R_base ho0) hb)
        have n3_ := aK (Kd.N_lower (Kd.N_mono (ok' := fun k_ => (P0_2_ k_ ∨ w.heap.size ≤ k_) ∧ k_ ≠ gb101 ∧ k_ ≠ gb102 ∧ k_ ≠ gb120 ∧ k_ ≠ gb122) (Kd.R_N (Kd.R_bound ho0)) (fun k_ hk_ => ⟨(.inr (Nat.le_trans (below_size (pH HB)) hk_.2.1)), (Kd.freshB BK101.out k_ hk_.2.1), (Kd.freshB BK102.out k_ hk_.2.1), (Kd.freshB BK120.out k_ hk_.2.1), (Kd.freshB BK122.out k_ hk_.2.1)⟩)) (below_size (pH HB)))
        have n4_ := aK (blk_below BK101.out hb)
        have n5_ := aK (blk_below BK102.out hb)
        have n6_ := aK (blk_below BK120.out hb)
        have n7_ := aK (blk_below BK122.out hb)
        have n8_ := aK (Kd.C_below HR119_2.out hb)
        have n9_ := aK (Kd.C_below HR121_2.out hb)
        have n10_ := aK (below_step (pH HB) hb)
        clear HO_102002
        clear HO_121002
        clear HO_123002
        clear BK101
        clear BK102
        clear BK120
        clear BK122
        clear HR119_2
        clear HR121_2
        clear HB
        have HO_102002 := n0_
        have HO_121002 := n1_
        have HO_123002 := n2_
        have HO129 := n3_
        have BK101 := n4_
        have BK102 := n5_
        have BK120 := n6_
        have BK122 := n7_
        have HR119_2 := n8_
        have HR121_2 := n9_
        have HB := n10_
        clear n0_ n1_ n2_ n3_ n4_ n5_ n6_ n7_ n8_ n9_ n10_
        (try clear hb)
        (try clear hb2)
        (try clear hk)
        (try clear hi)
        (try clear ho0)
        refine hK.out _ _ ⟨(blk_cell BK120.out 0).trans rfl, (blk_cell BK120.out 1).trans rfl, (blk_cell BK120.out 2).trans rfl, (blk_cell BK122.out 0).trans rfl, (blk_cell BK122.out 1).trans rfl, (blk_cell BK122.out 2).trans rfl⟩ (fun hHeld => ?_)
        clear hK K
        refine norm_ (a' := ?_) ?_ ?_
        rotate_left
        ·show Act.put _ (some 36) _ = _
         simp only [sP, i64_w, i32_w]
         rfl
        refine one_ (i := 3) (N := some 39) #[true, true, true, true, false, true, true, false, false, false] rfl rfl (one_of HT_.out (by kernel_rfl)) (by decide) (fun K hK => ?_)
        refine goes_ Try.func51 (by kernel_rfl) rfl #[.agg #[.int .i64 ((rd_T77 l0_2 0).f0), .int .i64 ((rd_T77 l0_2 0).f1), .slice A119_2 ((rd_T77 l0_2 0).f2).length c119_2], .int .i64 a1] (by rfl) rfl rfl tA ?_
        with_reducible refine (ih kj17 (by have := HJ17.out; omega) ((rd_T77 l0_2 0).f0) ((rd_T77 l0_2 0).f1) (fun k_ => (((P0_2_ k_ ∨ w.heap.size ≤ k_) ∧ (k_ ≠ gb101 ∧ (k_ ≠ gb102 ∧ (k_ ≠ gb120 ∧ k_ ≠ gb122)))) ∧ some k_ ≠ (v128 : Value).ownBlock)) _ _ ((rd_T77 l0_2 0).f2) a1 t130 t131 t132 _ ?side1 A62.out).mono ?_
        (case side1 => exact HO_121002.out)
        rintro e w68 ⟨v133, rfl, ho0, hb⟩
        refine ⟨_, rfl, ?_⟩
        have n0_ := aK (Kd.V_below HO_102002.out hb)
        have n1_ := aK (Kd.V_below HO_121002.out hb)
        have n2_ := aK (Kd.V_below HO_123002.out hb)
        have n3_ := aK (Kd.N_below HO129.out hb)
        have n4_ := aK (Kd.V_lower (Kd.V_mono (ok' := fun k_ => (P0_2_ k_ ∨ w.heap.size ≤ k_) ∧ some k_ ≠ (v128 : Value).ownBlock ∧ k_ ≠ gb101 ∧ k_ ≠ gb102 ∧ k_ ≠ gb120 ∧ k_ ≠ gb122) ho0 (fun k_ hk_ => ⟨Or.elim hk_ (fun hs_ => hs_.1.1) (fun hn_ => (.inr (Nat.le_trans (below_size (pH HB)) hn_))), Or.elim hk_ (fun hs_ => hs_.2) (fun hn_ => (Kd.fresh' (Kd.N_lt HO129.out) k_ hn_)), Or.elim hk_ (fun hs_ => hs_.1.2.1) (fun hn_ => (Kd.freshB BK101.out k_ hn_)), Or.elim hk_ (fun hs_ => hs_.1.2.2.1) (fun hn_ => (Kd.freshB BK102.out k_ hn_)), Or.elim hk_ (fun hs_ => hs_.1.2.2.2.1) (fun hn_ => (Kd.freshB BK120.out k_ hn_)), Or.elim hk_ (fun hs_ => hs_.1.2.2.2.2) (fun hn_ => (Kd.freshB BK122.out k_ hn_))⟩)) (below_size (pH HB)))
        have n5_ := aK (blk_below BK101.out hb)
        have n6_ := aK (blk_below BK102.out hb)
        have n7_ := aK (blk_below BK120.out hb)
        have n8_ := aK (blk_below BK122.out hb)
        have n9_ := aK (Kd.C_below HR119_2.out hb)
        have n10_ := aK (Kd.C_below HR121_2.out hb)
        have n11_ := aK (below_step (pH HB) hb)
        clear HO_102002
        clear HO_121002
        clear HO_123002
        clear HO129
        clear BK101
        clear BK102
        clear BK120
        clear BK122
        clear HR119_2
        clear HR121_2
        clear HB
        have HO_102002 := n0_
        have HO_121002 := n1_
        have HO_123002 := n2_
        have HO129 := n3_
        have HO134 := n4_
        have BK101 := n5_
        have BK102 := n6_
        have BK120 := n7_
        have BK122 := n8_
        have HR119_2 := n9_
        have HR121_2 := n10_
        have HB := n11_
        clear n0_ n1_ n2_ n3_ n4_ n5_ n6_ n7_ n8_ n9_ n10_ n11_
        (try clear hb)
        (try clear hb2)
        (try clear hk)
        (try clear hi)
        (try clear ho0)
        obtain ⟨Ao69, co69, eo69⟩ := Kd.N_slice HO129.out
        (first | subst eo69 | (injection eo69 with f1_ f2_ f3_; have f4_ := f1_.symm; have f5_ := f3_.symm; clear f1_ f2_ f3_; subst f4_; subst f5_))
        obtain ⟨Ao70, co70, eo70⟩ := Kd.V_slice HO134.out
        (first | subst eo70 | (injection eo70 with f1_ f2_ f3_; have f4_ := f1_.symm; have f5_ := f3_.symm; clear f1_ f2_ f3_; subst f4_; subst f5_))
        refine hK.out _ _ ⟨(blk_cell BK120.out 0).trans rfl, (blk_cell BK120.out 1).trans rfl, (blk_cell BK120.out 2).trans rfl, (blk_cell BK122.out 0).trans rfl, (blk_cell BK122.out 1).trans rfl, (blk_cell BK122.out 2).trans rfl⟩ (fun hHeld => ?_)
        clear hK K
        refine norm_ (a' := ?_) ?_ ?_
        rotate_left
        ·show Act.put _ (some 39) _ = _
         simp only [sP, i64_w, i32_w]
         rfl
        refine one_ (i := 4) (N := some 40) (bs 7 3) rfl rfl (one_of HT_.out (by kernel_rfl)) (by decide) (fun K hK => ?_)
        refine goes_ Try.func71 (by kernel_rfl) rfl #[.agg #[.int .i64 t125, .int .i64 t126, .slice Ao69 t127.length co69], .agg #[.int .i64 t130, .int .i64 t131, .slice Ao70 t132.length co70]] (by rfl) rfl rfl tA ?_
        with_reducible refine (spec_ldApp.calls t125 t126 (fun k_ => ((P0_2_ k_ ∨ w.heap.size ≤ k_) ∧ (k_ ≠ gb101 ∧ (k_ ≠ gb102 ∧ (k_ ≠ gb120 ∧ k_ ≠ gb122))))) _ _ t127 t130 t131 (fun k_ => ((P0_2_ k_ ∨ w.heap.size ≤ k_) ∧ (some k_ ≠ (.slice Ao69 t127.length co69 : Value).ownBlock ∧ (k_ ≠ gb101 ∧ (k_ ≠ gb102 ∧ (k_ ≠ gb120 ∧ k_ ≠ gb122)))))) _ _ t132 t135 t136 t137 _ ?side1 ?side2 A63.out).mono ?_
        (case side1 => exact Kd.N_V (HO129.out))
        (case side2 => exact HO134.out)
        rintro e w71 ⟨v138, rfl, ho0, hb⟩
        refine ⟨_, rfl, ?_⟩
        have n0_ := aK (Kd.V_elder' HO_102002.out (by first | exact Kd.N_base ho0 | exact Kd.R_base ho0) hb)
        have n1_ := aK (Kd.V_elder' HO_121002.out (by first | exact Kd.N_base ho0 | exact Kd.R_base ho0) hb)
        have n2_ := aK (Kd.V_elder' HO_123002.out (by first | exact Kd.N_base ho0 | exact Kd.R_base ho0) hb)
        have n3_ := aK (Kd.N_elder' HO129.out (by first | exact Kd.N_base ho0 | exact Kd.R_base ho0) hb)
        have n4_ := aK (Kd.V_elder' HO134.out (by first | exact Kd.N_base ho0 | exact Kd.R_base ho0) hb)
        have n5_ := aK (Kd.N_lower (Kd.N_mono (ok' := fun k_ => (P0_2_ k_ ∨ w.heap.size ≤ k_) ∧ k_ ≠ gb101 ∧ k_ ≠ gb102 ∧ k_ ≠ gb120 ∧ k_ ≠ gb122) ho0 (fun k_ hk_ => ⟨Or.elim hk_ (fun hs_ => Or.elim hs_ (fun hs_ => hs_.1) (fun hs_ => hs_.1)) (fun hn_ => (.inr (Nat.le_trans (below_size (pH HB)) hn_))), Or.elim hk_ (fun hs_ => Or.elim hs_ (fun hs_ => hs_.2.1) (fun hs_ => hs_.2.2.1)) (fun hn_ => (Kd.freshB BK101.out k_ hn_)), Or.elim hk_ (fun hs_ => Or.elim hs_ (fun hs_ => hs_.2.2.1) (fun hs_ => hs_.2.2.2.1)) (fun hn_ => (Kd.freshB BK102.out k_ hn_)), Or.elim hk_ (fun hs_ => Or.elim hs_ (fun hs_ => hs_.2.2.2.1) (fun hs_ => hs_.2.2.2.2.1)) (fun hn_ => (Kd.freshB BK120.out k_ hn_)), Or.elim hk_ (fun hs_ => Or.elim hs_ (fun hs_ => hs_.2.2.2.2) (fun hs_ => hs_.2.2.2.2.2)) (fun hn_ => (Kd.freshB BK122.out k_ hn_))⟩)) (below_size (pH HB)))
        have n6_ := aK (blk_below BK101.out hb)
        have n7_ := aK (blk_below BK102.out hb)
        have n8_ := aK (blk_below BK120.out hb)
        have n9_ := aK (blk_below BK122.out hb)
        have n10_ := aK (Kd.C_below HR119_2.out hb)
        have n11_ := aK (Kd.C_below HR121_2.out hb)
        have n12_ := aK (below_step (pH HB) hb)
        clear HO_102002
        clear HO_121002
        clear HO_123002
        clear HO129
        clear HO134
        clear BK101
        clear BK102
        clear BK120
        clear BK122
        clear HR119_2
        clear HR121_2
        clear HB
        have HO_102002 := n0_
        have HO_121002 := n1_
        have HO_123002 := n2_
        have HO129 := n3_
        have HO134 := n4_
        have HO139 := n5_
        have BK101 := n6_
        have BK102 := n7_
        have BK120 := n8_
        have BK122 := n9_
        have HR119_2 := n10_
        have HR121_2 := n11_
        have HB := n12_
        clear n0_ n1_ n2_ n3_ n4_ n5_ n6_ n7_ n8_ n9_ n10_ n11_ n12_
        (try clear hb)
        (try clear hb2)
        (try clear hk)
        (try clear hi)
        (try clear ho0)
        refine hK.out _ _ ⟨(blk_cell BK120.out 0).trans rfl, (blk_cell BK120.out 1).trans rfl, (blk_cell BK120.out 2).trans rfl, (blk_cell BK122.out 0).trans rfl, (blk_cell BK122.out 1).trans rfl, (blk_cell BK122.out 2).trans rfl⟩ (fun hHeld => ?_)
        clear hK K
        refine norm_ (a' := ?_) ?_ ?_
        rotate_left
        ·show Act.put _ (some 40) _ = _
         simp only [sP, i64_w, i32_w]
         rfl
        refine one_ (i := 7) (N := some 43) (bs 8 2) rfl rfl (one_of HT_.out (by kernel_rfl)) (by decide) (fun K hK => ?_)
        refine goes_ Try.func51 (by kernel_rfl) rfl #[.agg #[.int .i64 ((rd_T77 l0_2 1).f0), .int .i64 ((rd_T77 l0_2 1).f1), .slice A121_2 ((rd_T77 l0_2 1).f2).length c121_2], .int .i64 a1] (by rfl) rfl rfl tA ?_
        with_reducible refine (ih kj17 (by have := HJ17.out; omega) ((rd_T77 l0_2 1).f0) ((rd_T77 l0_2 1).f1) (fun k_ => ((((P0_2_ k_ ∨ w.heap.size ≤ k_) ∧ (k_ ≠ gb101 ∧ (k_ ≠ gb102 ∧ (k_ ≠ gb120 ∧ k_ ≠ gb122)))) ∧ some k_ ≠ (.slice Ao69 t127.length co69 : Value).ownBlock) ∧ some k_ ≠ (v138 : Value).ownBlock)) _ _ ((rd_T77 l0_2 1).f2) a1 t140 t141 t142 _ ?side1 A64.out).mono ?_
        (case side1 => exact HO_123002.out)
        rintro e w72 ⟨v143, rfl, ho0, hb⟩
        refine ⟨_, rfl, ?_⟩
        have n0_ := aK (Kd.V_below HO_102002.out hb)
        have n1_ := aK (Kd.V_below HO_121002.out hb)
        have n2_ := aK (Kd.V_below HO_123002.out hb)
        have n3_ := aK (Kd.N_below HO129.out hb)
        have n4_ := aK (Kd.V_below HO134.out hb)
        have n5_ := aK (Kd.N_below HO139.out hb)
        have n6_ := aK (Kd.V_lower (Kd.V_mono (ok' := fun k_ => (P0_2_ k_ ∨ w.heap.size ≤ k_) ∧ some k_ ≠ (.slice Ao69 t127.length co69 : Value).ownBlock ∧ some k_ ≠ (v138 : Value).ownBlock ∧ k_ ≠ gb101 ∧ k_ ≠ gb102 ∧ k_ ≠ gb120 ∧ k_ ≠ gb122) ho0 (fun k_ hk_ => ⟨Or.elim hk_ (fun hs_ => hs_.1.1.1) (fun hn_ => (.inr (Nat.le_trans (below_size (pH HB)) hn_))), Or.elim hk_ (fun hs_ => hs_.1.2) (fun hn_ => (Kd.fresh' (Kd.N_lt HO129.out) k_ hn_)), Or.elim hk_ (fun hs_ => hs_.2) (fun hn_ => (Kd.fresh' (Kd.N_lt HO139.out) k_ hn_)), Or.elim hk_ (fun hs_ => hs_.1.1.2.1) (fun hn_ => (Kd.freshB BK101.out k_ hn_)), Or.elim hk_ (fun hs_ => hs_.1.1.2.2.1) (fun hn_ => (Kd.freshB BK102.out k_ hn_)), Or.elim hk_ (fun hs_ => hs_.1.1.2.2.2.1) (fun hn_ => (Kd.freshB BK120.out k_ hn_)), Or.elim hk_ (fun hs_ => hs_.1.1.2.2.2.2) (fun hn_ => (Kd.freshB BK122.out k_ hn_))⟩)) (below_size (pH HB)))
        have n7_ := aK (blk_below BK101.out hb)
        have n8_ := aK (blk_below BK102.out hb)
        have n9_ := aK (blk_below BK120.out hb)
        have n10_ := aK (blk_below BK122.out hb)
        have n11_ := aK (Kd.C_below HR119_2.out hb)
        have n12_ := aK (Kd.C_below HR121_2.out hb)
        have n13_ := aK (below_step (pH HB) hb)
        clear HO_102002
        clear HO_121002
        clear HO_123002
        clear HO129
        clear HO134
        clear HO139
        clear BK101
        clear BK102
        clear BK120
        clear BK122
        clear HR119_2
        clear HR121_2
        clear HB
        have HO_102002 := n0_
        have HO_121002 := n1_
        have HO_123002 := n2_
        have HO129 := n3_
        have HO134 := n4_
        have HO139 := n5_
        have HO144 := n6_
        have BK101 := n7_
        have BK102 := n8_
        have BK120 := n9_
        have BK122 := n10_
        have HR119_2 := n11_
        have HR121_2 := n12_
        have HB := n13_
        clear n0_ n1_ n2_ n3_ n4_ n5_ n6_ n7_ n8_ n9_ n10_ n11_ n12_ n13_
        (try clear hb)
        (try clear hb2)
        (try clear hk)
        (try clear hi)
        (try clear ho0)
        obtain ⟨Ao73, co73, eo73⟩ := Kd.N_slice HO139.out
        (first | subst eo73 | (injection eo73 with f1_ f2_ f3_; have f4_ := f1_.symm; have f5_ := f3_.symm; clear f1_ f2_ f3_; subst f4_; subst f5_))
        obtain ⟨Ao74, co74, eo74⟩ := Kd.V_slice HO144.out
        (first | subst eo74 | (injection eo74 with f1_ f2_ f3_; have f4_ := f1_.symm; have f5_ := f3_.symm; clear f1_ f2_ f3_; subst f4_; subst f5_))
        refine hK.out _ _ ⟨(blk_cell BK120.out 0).trans rfl, (blk_cell BK120.out 1).trans rfl, (blk_cell BK120.out 2).trans rfl, (blk_cell BK122.out 0).trans rfl, (blk_cell BK122.out 1).trans rfl, (blk_cell BK122.out 2).trans rfl⟩ (fun hHeld => ?_)
        clear hK K
        refine norm_ (a' := ?_) ?_ ?_
        rotate_left
        ·show Act.put _ (some 43) _ = _
         simp only [sP, i64_w, i32_w]
         rfl
        refine one_ (i := 8) (N := some 44) (bs 9 1) rfl rfl (one_of HT_.out (by kernel_rfl)) (by decide) (fun K hK => ?_)
        refine goes_ Try.func71 (by kernel_rfl) rfl #[.agg #[.int .i64 t135, .int .i64 t136, .slice Ao73 t137.length co73], .agg #[.int .i64 t140, .int .i64 t141, .slice Ao74 t142.length co74]] (by rfl) rfl rfl tA ?_
        with_reducible refine (spec_ldApp.calls t135 t136 (fun k_ => ((P0_2_ k_ ∨ w.heap.size ≤ k_) ∧ (k_ ≠ gb101 ∧ (k_ ≠ gb102 ∧ (k_ ≠ gb120 ∧ k_ ≠ gb122))))) _ _ t137 t140 t141 (fun k_ => ((P0_2_ k_ ∨ w.heap.size ≤ k_) ∧ (some k_ ≠ (.slice Ao69 t127.length co69 : Value).ownBlock ∧ (some k_ ≠ (.slice Ao73 t137.length co73 : Value).ownBlock ∧ (k_ ≠ gb101 ∧ (k_ ≠ gb102 ∧ (k_ ≠ gb120 ∧ k_ ≠ gb122))))))) _ _ t142 t145 t146 t147 _ ?side1 ?side2 A65.out).mono ?_
        (case side1 => exact Kd.N_V (HO139.out))
        (case side2 => exact HO144.out)
        rintro e w75 ⟨v148, rfl, ho0, hb⟩
        refine ⟨_, rfl, ?_⟩
        have n0_ := aK (Kd.V_elder' HO_102002.out (by first | exact Kd.N_base ho0 | exact Kd.R_base ho0) hb)
        have n1_ := aK (Kd.V_elder' HO_121002.out (by first | exact Kd.N_base ho0 | exact Kd.R_base ho0) hb)
        have n2_ := aK (Kd.V_elder' HO_123002.out (by first | exact Kd.N_base ho0 | exact Kd.R_base ho0) hb)
        have n3_ := aK (Kd.N_elder' HO129.out (by first | exact Kd.N_base ho0 | exact Kd.R_base ho0) hb)
        have n4_ := aK (Kd.V_elder' HO134.out (by first | exact Kd.N_base ho0 | exact Kd.R_base ho0) hb)
        have n5_ := aK (Kd.N_elder' HO139.out (by first | exact Kd.N_base ho0 | exact Kd.R_base ho0) hb)
        have n6_ := aK (Kd.V_elder' HO144.out (by first | exact Kd.N_base ho0 | exact Kd.R_base ho0) hb)
        have n7_ := aK (Kd.N_lower (Kd.N_mono (ok' := fun k_ => (P0_2_ k_ ∨ w.heap.size ≤ k_) ∧ k_ ≠ gb101 ∧ k_ ≠ gb102 ∧ k_ ≠ gb120 ∧ k_ ≠ gb122) ho0 (fun k_ hk_ => ⟨Or.elim hk_ (fun hs_ => Or.elim hs_ (fun hs_ => hs_.1) (fun hs_ => hs_.1)) (fun hn_ => (.inr (Nat.le_trans (below_size (pH HB)) hn_))), Or.elim hk_ (fun hs_ => Or.elim hs_ (fun hs_ => hs_.2.1) (fun hs_ => hs_.2.2.2.1)) (fun hn_ => (Kd.freshB BK101.out k_ hn_)), Or.elim hk_ (fun hs_ => Or.elim hs_ (fun hs_ => hs_.2.2.1) (fun hs_ => hs_.2.2.2.2.1)) (fun hn_ => (Kd.freshB BK102.out k_ hn_)), Or.elim hk_ (fun hs_ => Or.elim hs_ (fun hs_ => hs_.2.2.2.1) (fun hs_ => hs_.2.2.2.2.2.1)) (fun hn_ => (Kd.freshB BK120.out k_ hn_)), Or.elim hk_ (fun hs_ => Or.elim hs_ (fun hs_ => hs_.2.2.2.2) (fun hs_ => hs_.2.2.2.2.2.2)) (fun hn_ => (Kd.freshB BK122.out k_ hn_))⟩)) (below_size (pH HB)))
        have n8_ := aK (blk_below BK101.out hb)
        have n9_ := aK (blk_below BK102.out hb)
        have n10_ := aK (blk_below BK120.out hb)
        have n11_ := aK (blk_below BK122.out hb)
        have n12_ := aK (Kd.C_below HR119_2.out hb)
        have n13_ := aK (Kd.C_below HR121_2.out hb)
        have n14_ := aK (below_step (pH HB) hb)
        clear HO_102002
        clear HO_121002
        clear HO_123002
        clear HO129
        clear HO134
        clear HO139
        clear HO144
        clear BK101
        clear BK102
        clear BK120
        clear BK122
        clear HR119_2
        clear HR121_2
        clear HB
        have HO_102002 := n0_
        have HO_121002 := n1_
        have HO_123002 := n2_
        have HO129 := n3_
        have HO134 := n4_
        have HO139 := n5_
        have HO144 := n6_
        have HO149 := n7_
        have BK101 := n8_
        have BK102 := n9_
        have BK120 := n10_
        have BK122 := n11_
        have HR119_2 := n12_
        have HR121_2 := n13_
        have HB := n14_
        clear n0_ n1_ n2_ n3_ n4_ n5_ n6_ n7_ n8_ n9_ n10_ n11_ n12_ n13_ n14_
        (try clear hb)
        (try clear hb2)
        (try clear hk)
        (try clear hi)
        (try clear ho0)
        obtain ⟨Ao78, co78, eo78⟩ := Kd.N_slice HO149.out
        (first | subst eo78 | (injection eo78 with f1_ f2_ f3_; have f4_ := f1_.symm; have f5_ := f3_.symm; clear f1_ f2_ f3_; subst f4_; subst f5_))
        refine hK.out _ _ ⟨(blk_cell BK120.out 0).trans rfl, (blk_cell BK120.out 1).trans rfl, (blk_cell BK120.out 2).trans rfl, (blk_cell BK122.out 0).trans rfl, (blk_cell BK122.out 1).trans rfl, (blk_cell BK122.out 2).trans rfl⟩ (fun hHeld => ?_)
        clear hK K
        refine norm_ (a' := ?_) ?_ ?_
        rotate_left
        ·show Act.put _ (some 44) _ = _
         simp only [sP, i64_w, i32_w]
         rfl
        refine one_ (i := 9) (N := none) (bs 10 0) rfl rfl (one_of HT_.out (by kernel_rfl)) (by decide) (fun K hK => ?_)
        have hs76 : w75.cell? ⟨gb102, 0, none⟩ = some (.int .i64 0) := (blk_cell BK102.out 0).trans rfl
        have hfs76 := blk_frozen BK102.out 0
        have hns76_0 := NB101_102.out
        have hns76_2 := NB120_102.out
        have hns76_3 := NB122_102.out
        have hms76_0 := NB102_101.out
        have hms76_2 := NB102_120.out
        have hms76_3 := NB102_122.out
        have hs77 : w75.cell? ⟨gb102, 1, none⟩ = some (.int .i64 0) := (blk_cell BK102.out 1).trans rfl
        have hfs77 := blk_frozen BK102.out 1
        have hns77_0 := NB101_102.out
        have hns77_2 := NB120_102.out
        have hns77_3 := NB122_102.out
        have hms77_0 := NB102_101.out
        have hms77_2 := NB102_120.out
        have hms77_3 := NB102_122.out
        have hs79 : w75.cell? ⟨gb102, 2, none⟩ = some (.slice none 0 0) := (blk_cell BK102.out 2).trans rfl
        have hfs79 := blk_frozen BK102.out 2
        have hns79_0 := NB101_102.out
        have hns79_2 := NB120_102.out
        have hns79_3 := NB122_102.out
        have hms79_0 := NB102_101.out
        have hms79_2 := NB102_120.out
        have hms79_3 := NB102_122.out
        refine skip_ (w1 := ?_) (by rfl) rfl ?_ ?_
        rotate_left
        ·go_simp
         rfl
        refine hK.out _ _ ⟨((cell_far (p := ⟨gb102, _, none⟩) NB120_102.out _).trans (((cell_far (p := ⟨gb102, _, none⟩) NB120_102.out _).trans (((cell_far (p := ⟨gb102, _, none⟩) NB120_102.out _).trans (hHeld.1)))))), ((cell_far (p := ⟨gb102, _, none⟩) NB120_102.out _).trans (((cell_far (p := ⟨gb102, _, none⟩) NB120_102.out _).trans (((cell_far (p := ⟨gb102, _, none⟩) NB120_102.out _).trans (hHeld.2.1)))))), ((cell_far (p := ⟨gb102, _, none⟩) NB120_102.out _).trans (((cell_far (p := ⟨gb102, _, none⟩) NB120_102.out _).trans (((cell_far (p := ⟨gb102, _, none⟩) NB120_102.out _).trans (hHeld.2.2.1)))))), ((cell_far (p := ⟨gb102, _, none⟩) NB122_102.out _).trans (((cell_far (p := ⟨gb102, _, none⟩) NB122_102.out _).trans (((cell_far (p := ⟨gb102, _, none⟩) NB122_102.out _).trans (hHeld.2.2.2.1)))))), ((cell_far (p := ⟨gb102, _, none⟩) NB122_102.out _).trans (((cell_far (p := ⟨gb102, _, none⟩) NB122_102.out _).trans (((cell_far (p := ⟨gb102, _, none⟩) NB122_102.out _).trans (hHeld.2.2.2.2.1)))))), ((cell_far (p := ⟨gb102, _, none⟩) NB122_102.out _).trans (((cell_far (p := ⟨gb102, _, none⟩) NB122_102.out _).trans (((cell_far (p := ⟨gb102, _, none⟩) NB122_102.out _).trans (hHeld.2.2.2.2.2))))))⟩ (fun hHeld => ?_)
        clear hK K
        refine done_ (done_of HT_.out (by kernel_rfl)) ?_
        try go_wp2
        refine bodyPost_ret (results_cell_row rfl _ _ gb102 77 #[.int .i64 t145, .int .i64 t146, .slice Ao78 t147.length co78] (0, 0) _ rfl (p3 BK102) Try.underlying77 rfl (by kernel_rfl)) rfl ?_
        exact ⟨_, eW, Kd.N_V (by (with_reducible repeat (first | apply Kd.N_alloc | apply Kd.N_drewN | apply Kd.N_drew)); exact Kd.N_mono (nF3 gb102 (Kd.N_mono HO149.out (fun k_ hk => (⟨hk, hk.2.2.1⟩ : _ ∧ k_ ≠ gb102))) (fun _ hk => hk.2)) (fun _ hk => hk.1.1)), pH HB⟩
    ·rw [if_neg c17] at H
     exact absurd H (by simp)
   ·rw [if_neg c16] at H
    exact absurd H (by simp)
 ·replace c4 := Bool.eq_false_iff.mpr c4
  subst c4
  rw [if_neg (show ¬ (false = true) by decide)] at H
  replace H := Option.bind_eq_some_iff.mp H
  obtain ⟨⟨t104, t105, t106⟩, A800, H⟩ := H
  try dsimp only at H
  have A80 := aK A800
  clear A800
  replace H := Option.bind_eq_some_iff.mp H
  obtain ⟨⟨t109, t110, t111⟩, A810, H⟩ := H
  try dsimp only at H
  have A81 := aK A810
  clear A810
  simp only [Option.some.injEq, Prod.mk.injEq] at H
  obtain ⟨rfl, rfl, rfl⟩ := H
  go_enter Try.func51, Try.ntmps51
  try go_wp2_with (first | ((with_reducible refine gate_dst (N := 2) rfl ?_); refine bE (N := 2) (cs := #[.int .i64 a0_0, .int .i64 a0_1, .slice A0_2 l0_2.length c0_2]) (t := 77) ?_; intro gb101 hg w82 hbox hb; have GW101 := qw HB hg; have GE101 := qw HB hg; replace HO0_2 := qv HO0_2 hg hb; have BK101 := aK hbox; replace HB := qs HB hb; clear hb hbox hg) | ((with_reducible refine gate_dst (N := 4) rfl ?_); refine bE (N := 4) (cs := #[.int .i64 0, .int .i64 0, .slice none 0 0]) (t := 77) ?_; intro gb102 hg w83 hbox hb; have GW102 := qw HB hg; have GE102 := qw HB hg; have NB101_102 := ql BK101 hg; have NB102_101 := qg BK101 hg; replace HO0_2 := qv HO0_2 hg hb; replace BK101 := qb BK101 hb; have BK102 := aK hbox; replace HB := qs HB hb; clear hb hbox hg; have hnb84 := NB101_102.out; have hnc84 := NB102_101.out; have hcz85_0 := k30 BK101; have hcz85_1 := k31 BK101; have hcz85_2 := k32 BK101; have hfz85_0 := fz BK101 0; have hfz85_1 := fz BK101 1; have hfz85_2 := fz BK101 2) | ((with_reducible refine gate_callee (f := 70) rfl ?_); refine goesL_ (some 9) rfl rfl Try.func70 (by kernel_rfl) rfl #[.agg #[.int .i64 a0_0, .int .i64 a0_1, .slice A0_2 l0_2.length c0_2], .int .i64 a1] rfl tA ?_; (with_reducible refine (spec_ldHas.calls k a0_0 a0_1 _ _ l0_2 a1 false _ ?side1 ?side2 A3.out).mono ?_); (case side1 => exact sC ((Kd.V_reads' HO0_2.out).2.2)); (case side2 => exact (Kd.V_reads' HO0_2.out).2.1); rintro e w86 ⟨rfl, hb⟩; refine ⟨_, rfl, ?_⟩; have n0_ := aK (Kd.V_below HO0_2.out hb); replace BK101 := qb BK101 hb; replace BK102 := qb BK102 hb; clear HO0_2; have HO0_2 := n0_; clear n0_; replace HB := qs HB hb; (try clear hb)))
  have n0_ := aK (Kd.V_drew HO0_2.out)
  have n1_ := aK (blk_drew BK101.out)
  have n2_ := aK (blk_drew BK102.out)
  have n3_ := aK (below_drew1 HB.out)
  clear HO0_2
  clear BK101
  clear BK102
  clear HB
  have HO0_2 := n0_
  have BK101 := n1_
  have BK102 := n2_
  have HB := n3_
  clear n0_ n1_ n2_ n3_
  refine start_ (n := 4) (S := fun w' => w'.cell? ⟨gb101, 0, none⟩ = some (.int .i64 a0_0) ∧ w'.cell? ⟨gb101, 1, none⟩ = some (.int .i64 a0_1) ∧ w'.cell? ⟨gb101, 2, none⟩ = some (.slice A0_2 l0_2.length c0_2)) (ds := []) (bs 0 4) (by kernel_rfl) rfl rfl ⟨(blk_cell BK101.out 0).trans rfl, (blk_cell BK101.out 1).trans rfl, (blk_cell BK101.out 2).trans rfl⟩ (fun hHeld => ?_)
  generalize w86.drew = w87 at HO0_2 BK101 BK102 HB hHeld ⊢
  refine take_ (i := 1) (N := some 12) (v := ?_) (a' := ?_) #[false, true, false, false] rfl rfl (by kernel_rfl) (fun _ _ _ h => h) (Or.inl ⟨by rfl, ?_⟩) hHeld ?_ ?_
  rotate_left
  ·rintro w' ⟨s0, s1, s2⟩
   go_simp
   with_reducible rfl
  rotate_left
  ·simp only [sP, i64_w, i32_w]
   rfl
  refine one_ (i := 0) (N := some 11) (bs 2 2) rfl rfl (by kernel_rfl) (by decide) (fun K hK => ?_)
  refine goes_ Try.func72 (by kernel_rfl) rfl #[.int .i64 4] (by rfl) rfl rfl tA ?_
  with_reducible refine (spec_ldOne.calls 4 t104 t105 t106 _ A80.out).mono ?_
  rintro e w88 ⟨v107, rfl, ho0, hb⟩
  refine ⟨_, rfl, ?_⟩
  have n0_ := aK (Kd.V_elder' HO0_2.out (by first | exact Kd.N_base ho0 | exact Kd.R_base ho0) hb)
  have n1_ := aK (Kd.N_lower (Kd.N_mono (ok' := fun k_ => (P0_2_ k_ ∨ w.heap.size ≤ k_) ∧ k_ ≠ gb101 ∧ k_ ≠ gb102) (Kd.R_N (Kd.R_bound ho0)) (fun k_ hk_ => ⟨(.inr (Nat.le_trans (below_size (pH HB)) hk_.2.1)), (Kd.freshB BK101.out k_ hk_.2.1), (Kd.freshB BK102.out k_ hk_.2.1)⟩)) (below_size (pH HB)))
  have n2_ := aK (blk_below BK101.out hb)
  have n3_ := aK (blk_below BK102.out hb)
  have n4_ := aK (below_step (pH HB) hb)
  clear HO0_2
  clear BK101
  clear BK102
  clear HB
  have HO0_2 := n0_
  have HO108 := n1_
  have BK101 := n2_
  have BK102 := n3_
  have HB := n4_
  clear n0_ n1_ n2_ n3_ n4_
  (try clear hb)
  (try clear hb2)
  (try clear hk)
  (try clear hi)
  (try clear ho0)
  obtain ⟨Ao89, co89, eo89⟩ := Kd.N_slice HO108.out
  (first | subst eo89 | (injection eo89 with f1_ f2_ f3_; have f4_ := f1_.symm; have f5_ := f3_.symm; clear f1_ f2_ f3_; subst f4_; subst f5_))
  refine hK.out _ _ ⟨(blk_cell BK101.out 0).trans rfl, (blk_cell BK101.out 1).trans rfl, (blk_cell BK101.out 2).trans rfl⟩ (fun hHeld => ?_)
  clear hK K
  refine norm_ (a' := ?_) ?_ ?_
  rotate_left
  ·show Act.put _ (some 11) _ = _
   simp only [sP, i64_w, i32_w]
   rfl
  refine one_ (i := 2) (N := some 13) (bs 3 1) rfl rfl (by kernel_rfl) (by decide) (fun K hK => ?_)
  refine goes_ Try.func71 (by kernel_rfl) rfl #[.agg #[.int .i64 t104, .int .i64 t105, .slice Ao89 t106.length co89], .agg #[.int .i64 a0_0, .int .i64 a0_1, .slice A0_2 l0_2.length c0_2]] (by rfl) rfl rfl tA ?_
  with_reducible refine (spec_ldApp.calls t104 t105 (fun k_ => ((P0_2_ k_ ∨ w.heap.size ≤ k_) ∧ (k_ ≠ gb101 ∧ k_ ≠ gb102))) _ _ t106 a0_0 a0_1 (fun k_ => ((((P0_2_ k_ ∨ w.heap.size ≤ k_) ∧ k_ ≠ gb101) ∧ k_ ≠ gb102) ∧ some k_ ≠ (.slice Ao89 t106.length co89 : Value).ownBlock)) _ _ l0_2 t109 t110 t111 _ ?side1 ?side2 A81.out).mono ?_
  (case side1 => exact Kd.N_V (HO108.out))
  (case side2 => exact HO0_2.out)
  rintro e w90 ⟨v112, rfl, ho0, hb⟩
  refine ⟨_, rfl, ?_⟩
  have n0_ := aK (Kd.V_elder' HO0_2.out (by first | exact Kd.N_base ho0 | exact Kd.R_base ho0) hb)
  have n1_ := aK (Kd.N_elder' HO108.out (by first | exact Kd.N_base ho0 | exact Kd.R_base ho0) hb)
  have n2_ := aK (Kd.N_lower (Kd.N_mono (ok' := fun k_ => (P0_2_ k_ ∨ w.heap.size ≤ k_) ∧ k_ ≠ gb101 ∧ k_ ≠ gb102) ho0 (fun k_ hk_ => ⟨Or.elim hk_ (fun hs_ => Or.elim hs_ (fun hs_ => hs_.1) (fun hs_ => hs_.1.1.1)) (fun hn_ => (.inr (Nat.le_trans (below_size (pH HB)) hn_))), Or.elim hk_ (fun hs_ => Or.elim hs_ (fun hs_ => hs_.2.1) (fun hs_ => hs_.1.1.2)) (fun hn_ => (Kd.freshB BK101.out k_ hn_)), Or.elim hk_ (fun hs_ => Or.elim hs_ (fun hs_ => hs_.2.2) (fun hs_ => hs_.1.2)) (fun hn_ => (Kd.freshB BK102.out k_ hn_))⟩)) (below_size (pH HB)))
  have n3_ := aK (blk_below BK101.out hb)
  have n4_ := aK (blk_below BK102.out hb)
  have n5_ := aK (below_step (pH HB) hb)
  clear HO0_2
  clear HO108
  clear BK101
  clear BK102
  clear HB
  have HO0_2 := n0_
  have HO108 := n1_
  have HO113 := n2_
  have BK101 := n3_
  have BK102 := n4_
  have HB := n5_
  clear n0_ n1_ n2_ n3_ n4_ n5_
  (try clear hb)
  (try clear hb2)
  (try clear hk)
  (try clear hi)
  (try clear ho0)
  obtain ⟨Ao93, co93, eo93⟩ := Kd.N_slice HO113.out
  (first | subst eo93 | (injection eo93 with f1_ f2_ f3_; have f4_ := f1_.symm; have f5_ := f3_.symm; clear f1_ f2_ f3_; subst f4_; subst f5_))
  refine hK.out _ _ ⟨(blk_cell BK101.out 0).trans rfl, (blk_cell BK101.out 1).trans rfl, (blk_cell BK101.out 2).trans rfl⟩ (fun hHeld => ?_)
  clear hK K
  refine norm_ (a' := ?_) ?_ ?_
  rotate_left
  ·show Act.put _ (some 13) _ = _
   simp only [sP, i64_w, i32_w]
   rfl
  refine one_ (i := 3) (N := none) (bs 4 0) rfl rfl (by kernel_rfl) (by decide) (fun K hK => ?_)
  have hs91 : w90.cell? ⟨gb102, 0, none⟩ = some (.int .i64 0) := (blk_cell BK102.out 0).trans rfl
  have hfs91 := blk_frozen BK102.out 0
  have hns91_0 := NB101_102.out
  have hms91_0 := NB102_101.out
  have hs92 : w90.cell? ⟨gb102, 1, none⟩ = some (.int .i64 0) := (blk_cell BK102.out 1).trans rfl
  have hfs92 := blk_frozen BK102.out 1
  have hns92_0 := NB101_102.out
  have hms92_0 := NB102_101.out
  have hs94 : w90.cell? ⟨gb102, 2, none⟩ = some (.slice none 0 0) := (blk_cell BK102.out 2).trans rfl
  have hfs94 := blk_frozen BK102.out 2
  have hns94_0 := NB101_102.out
  have hms94_0 := NB102_101.out
  refine skip_ (w1 := ?_) (by rfl) rfl ?_ ?_
  rotate_left
  ·go_simp
   rfl
  refine hK.out _ _ ⟨((cell_far (p := ⟨gb102, _, none⟩) NB101_102.out _).trans (((cell_far (p := ⟨gb102, _, none⟩) NB101_102.out _).trans (((cell_far (p := ⟨gb102, _, none⟩) NB101_102.out _).trans (hHeld.1)))))), ((cell_far (p := ⟨gb102, _, none⟩) NB101_102.out _).trans (((cell_far (p := ⟨gb102, _, none⟩) NB101_102.out _).trans (((cell_far (p := ⟨gb102, _, none⟩) NB101_102.out _).trans (hHeld.2.1)))))), ((cell_far (p := ⟨gb102, _, none⟩) NB101_102.out _).trans (((cell_far (p := ⟨gb102, _, none⟩) NB101_102.out _).trans (((cell_far (p := ⟨gb102, _, none⟩) NB101_102.out _).trans (hHeld.2.2))))))⟩ (fun hHeld => ?_)
  clear hK K
  refine done_ (by kernel_rfl) ?_
  try go_wp2
  refine bodyPost_ret (results_cell_row rfl _ _ gb102 77 #[.int .i64 t109, .int .i64 t110, .slice Ao93 t111.length co93] (0, 0) _ rfl (p3 BK102) Try.underlying77 rfl (by kernel_rfl)) rfl ?_
  exact ⟨_, eW, Kd.N_V (by (with_reducible repeat (first | apply Kd.N_alloc | apply Kd.N_drewN | apply Kd.N_drew)); exact Kd.N_mono (nF3 gb102 (Kd.N_mono HO113.out (fun k_ hk => (⟨hk, hk.2.2⟩ : _ ∧ k_ ≠ gb102))) (fun _ hk => hk.2)) (fun _ hk => hk.1.1)), pH HB⟩

end Go.Proofs.Ytcjhhdecckcibaa.G

namespace Go.Proofs.Ytcjhhdecckcibaa.G
open Go.RowKit Go.Proofs.YtcjhhdecckcibaaW.PrintWords Go.Proofs.YtcjhhdecckcibaaW.PrintLast Go.Proofs.YtcjhhdecckcibaaW.PrintMore
attribute [local go_sem] max2_int min2_int max_two min_two max_three min_three max_four min_four   -- for this text's walks alone
set_option linter.unusedVariables false
set_option linter.unusedSimpArgs false

def spec_ldOf.f : Nat → Int → Int → List (S90) → Int → Option (Int × Int × (List (S77)) × Bool)
 | 0, _, _, _, _ => none
 | k + 1, a0_0, a0_1, l0_2, a1 => if a0_0 = 1 then (if a0_1 ≥ a1 then (some (1, wrap64 (a0_1 - a1), ([] : List (S77)), decide ((wrap64 (a0_1 - a1)) < 100))) else (some (1, wrap64 ((wrap64 ((wrap64 (100 + a1)) - 1)) - a0_1), ([] : List (S77)), true))) else (if a0_0 = 2 then (if 0 < (l0_2.length : Int) then ((spec_ldOf.f k ((rd_T90 l0_2 0).f0) ((rd_T90 l0_2 0).f1) ((rd_T90 l0_2 0).f2) (wrap64 (a1 + 1))).bind fun bt104 => (if bt104.2.2.2 = true then ((spec_ldAbstract.f k bt104.1 bt104.2.1 bt104.2.2.1 (wrap64 (100 + a1))).bind fun bt111 => ((spec_ldTold.f k bt111.1 bt111.2.1 bt111.2.2).bind fun bt117 => (some (bt111.1, bt111.2.1, bt111.2.2, bt117.2)))) else (some (bt104.1, bt104.2.1, bt104.2.2.1, false)))) else (none)) else (if 0 < (l0_2.length : Int) then ((spec_ldOf.f k ((rd_T90 l0_2 0).f0) ((rd_T90 l0_2 0).f1) ((rd_T90 l0_2 0).f2) a1).bind fun bt122 => (if bt122.2.2.2 = true then (if 1 < (l0_2.length : Int) then ((spec_ldOf.f k ((rd_T90 l0_2 1).f0) ((rd_T90 l0_2 1).f1) ((rd_T90 l0_2 1).f2) a1).bind fun bt130 => (if bt130.2.2.2 = true then ((spec_ldApp.f bt122.1 bt122.2.1 bt122.2.2.1 bt130.1 bt130.2.1 bt130.2.2.1).bind fun bt137 => ((spec_ldTold.f k bt137.1 bt137.2.1 bt137.2.2).bind fun bt143 => (some (bt137.1, bt137.2.1, bt137.2.2, bt143.2)))) else (some (bt130.1, bt130.2.1, bt130.2.2.1, false)))) else (none)) else (some (bt122.1, bt122.2.1, bt122.2.2.1, false)))) else (none)))
def spec_ldOf.T4 : Bool × List (List Nat × List Nat) := (true, [([], []), ([0], [0]), ([], []), ([1, 2], [1, 2]), ([3], [3]), ([], []), ([5], [5]), ([], []), ([6, 7], [6, 7]), ([8], [8]), ([4, 0, 1, 2, 3, 4], [4]), ([9, 10, 0, 1, 2, 3, 4, 5, 6, 7, 8, 9, 10], [9])])
def spec_ldOf.B4 : List Nat := [0, 1, 0, 7, 15, 0, 32, 0, 224, 480, 31, 2047]
theorem spec_ldOf.tab4 : rtab .any (opsOf Try.f59 4) = spec_ldOf.T4 := by kernel_rfl
theorem spec_ldOf.bits4 : waitsOk spec_ldOf.T4.2 spec_ldOf.B4 = true := by kernel_rfl
set_option maxHeartbeats 8000000 in
set_option maxRecDepth 100000 in
theorem spec_ldOf.calls (k : Nat) : ∀ (a0_0 : Int) (a0_1 : Int) (A0_2 : Option Addr) (c0_2 : Nat) (l0_2 : List (S90)) (a1 : Int) (r1 : Int) (r2 : Int) (r3 : List (S77)) (r4 : Bool) (w : World) (hr0_2 : Kd.C k90 w A0_2 l0_2.length l0_2) (hc0_2 : l0_2.length ≤ c0_2) (h : spec_ldOf.f k a0_0 a0_1 l0_2 a1 = some (r1, r2, r3, r4)),
  Calls Try.prog 59 #[.agg #[.int .i64 a0_0, .int .i64 a0_1, .slice A0_2 l0_2.length c0_2], .int .i64 a1] w fun e w' => ∃ v2_ : Value, e = .returned (.tuple #[.agg #[.int .i64 r1, .int .i64 r2, v2_], .bool r4]) ∧ Kd.V k77 77 w' w.heap.size (fun k_ => (w.heap.size ≤ k_)) v2_ r3 ∧ Below w.heap.size w w' := by
 induction k using Nat.strongRecOn with
 | _ k ih =>
 intro a0_0 a0_1 A0_2 c0_2 l0_2 a1 r1 r2 r3 r4 w hr0_2 hc0_2 h
 cases k with
 | zero => exact absurd h (by simp [spec_ldOf.f])
 | succ k =>
 simp only [spec_ldOf.f] at h
 have hu90 := Try.underlying90
 have hu77 := Try.underlying77
 have HR0_2 := aK hr0_2
 have HC0_2 := aK hc0_2
 clear hr0_2 hc0_2
 have HB := aK (Below.refl w.heap.size w)
 have H : (if a0_0 = 1 then (if a0_1 ≥ a1 then (some (1, wrap64 (a0_1 - a1), ([] : List (S77)), decide ((wrap64 (a0_1 - a1)) < 100))) else (some (1, wrap64 ((wrap64 ((wrap64 (100 + a1)) - 1)) - a0_1), ([] : List (S77)), true))) else (if a0_0 = 2 then (if 0 < (l0_2.length : Int) then ((spec_ldOf.f k ((rd_T90 l0_2 0).f0) ((rd_T90 l0_2 0).f1) ((rd_T90 l0_2 0).f2) (wrap64 (a1 + 1))).bind fun bt104 => (if bt104.2.2.2 = true then ((spec_ldAbstract.f k bt104.1 bt104.2.1 bt104.2.2.1 (wrap64 (100 + a1))).bind fun bt111 => ((spec_ldTold.f k bt111.1 bt111.2.1 bt111.2.2).bind fun bt117 => (some (bt111.1, bt111.2.1, bt111.2.2, bt117.2)))) else (some (bt104.1, bt104.2.1, bt104.2.2.1, false)))) else (none)) else (if 0 < (l0_2.length : Int) then ((spec_ldOf.f k ((rd_T90 l0_2 0).f0) ((rd_T90 l0_2 0).f1) ((rd_T90 l0_2 0).f2) a1).bind fun bt122 => (if bt122.2.2.2 = true then (if 1 < (l0_2.length : Int) then ((spec_ldOf.f k ((rd_T90 l0_2 1).f0) ((rd_T90 l0_2 1).f1) ((rd_T90 l0_2 1).f2) a1).bind fun bt130 => (if bt130.2.2.2 = true then ((spec_ldApp.f bt122.1 bt122.2.1 bt122.2.2.1 bt130.1 bt130.2.1 bt130.2.2.1).bind fun bt137 => ((spec_ldTold.f k bt137.1 bt137.2.1 bt137.2.2).bind fun bt143 => (some (bt137.1, bt137.2.1, bt137.2.2, bt143.2)))) else (some (bt130.1, bt130.2.1, bt130.2.2.1, false)))) else (none)) else (some (bt122.1, bt122.2.1, bt122.2.2.1, false)))) else (none)))) = some (r1, r2, r3, r4) := h
 clear h
 by_cases c3 : a0_0 = 1
 ·rw [if_pos c3] at H
  have c3b0 : (a0_0 == 1) = true := beq_iff_eq.mpr c3
  have c3b1 : (a0_0 != 1) = false := bne_eq_false_iff_eq.mpr c3
  clear c3
  by_cases c4 : a0_1 ≥ a1
  ·rw [if_pos c4] at H
   have c4b0 : decide (a1 ≤ a0_1) = true := decide_eq_true c4
   clear c4
   simp only [Option.some.injEq, Prod.mk.injEq] at H
   obtain ⟨rfl, rfl, rfl, rfl⟩ := H
   go_enter Try.func59, Try.ntmps59
   try go_wp2_with (first | ((with_reducible refine gate_dst (N := 2) rfl ?_); refine bE (N := 2) (cs := #[.int .i64 a0_0, .int .i64 a0_1, .slice A0_2 l0_2.length c0_2]) (t := 90) ?_; intro gb101 hg w5 hbox hb; have GW101 := qw HB hg; have GE101 := qw HB hg; have BK101 := aK hbox; replace HB := qs HB hb; clear hb hbox hg) | ((with_reducible refine gate_dst (N := 4) rfl ?_); refine bE (N := 4) (cs := #[.int .i64 0, .int .i64 0, .slice none 0 0]) (t := 77) ?_; intro gb102 hg w6 hbox hb; have GW102 := qw HB hg; have GE102 := qw HB hg; have NB101_102 := ql BK101 hg; have NB102_101 := qg BK101 hg; replace BK101 := qb BK101 hb; have BK102 := aK hbox; replace HB := qs HB hb; clear hb hbox hg; have hnb7 := NB101_102.out; have hnc7 := NB102_101.out; have hcz8_0 := k30 BK101; have hcz8_1 := k31 BK101; have hcz8_2 := k32 BK101; have hfz8_0 := fz BK101 0; have hfz8_1 := fz BK101 1; have hfz8_2 := fz BK101 2))
   have n0_ := aK (blk_drew BK101.out)
   have n1_ := aK (blk_drew BK102.out)
   have n2_ := aK (below_drew1 HB.out)
   clear BK101
   clear BK102
   clear HB
   have BK101 := n0_
   have BK102 := n1_
   have HB := n2_
   clear n0_ n1_ n2_
   refine start_ (n := 12) (S := fun w' => w'.cell? ⟨gb101, 0, none⟩ = some (.int .i64 a0_0) ∧ w'.cell? ⟨gb101, 1, none⟩ = some (.int .i64 a0_1) ∧ w'.cell? ⟨gb101, 2, none⟩ = some (.slice A0_2 l0_2.length c0_2)) (ds := []) (bs 0 12) (by kernel_rfl) rfl rfl ⟨(blk_cell BK101.out 0).trans rfl, (blk_cell BK101.out 1).trans rfl, (blk_cell BK101.out 2).trans rfl⟩ (fun hHeld => ?_); refine with_tabW spec_ldOf.tab4 spec_ldOf.bits4 (fun HT_ HW_ => ?_)
   generalize w6.drew = w9 at BK101 BK102 HB hHeld ⊢
   refine pure_ (i := 0) (N := some 26) (v := ?_) (a' := ?_) (bs 1 11) rfl rfl (any_of HT_.out (by kernel_rfl)) (fun _ _ _ h => h) (Or.inl ⟨by rfl, ?_⟩) ?_ ?_
   rotate_left
   ·intro w'
    go_simp
    with_reducible rfl
   rotate_left
   ·simp only [sP, i64_w, i32_w]
    rfl
   refine pure_ (i := 2) (N := some 28) (v := ?_) (a' := ?_) #[true, false, true, false, false, false, false, false, false, false, false, false] rfl rfl (any_of HT_.out (by kernel_rfl)) (fun _ _ _ h => h) (Or.inl ⟨by rfl, ?_⟩) ?_ ?_
   rotate_left
   ·intro w'
    go_simp
    with_reducible rfl
   rotate_left
   ·simp only [sP, i64_w, i32_w]
    rfl
   refine pure_ (i := 5) (N := some 31) (v := ?_) (a' := ?_) #[true, false, true, false, false, true, false, false, false, false, false, false] rfl rfl (any_of HT_.out (by kernel_rfl)) (fun _ _ _ h => h) (Or.inl ⟨by rfl, ?_⟩) ?_ ?_
   rotate_left
   ·intro w'
    go_simp
    with_reducible rfl
   rotate_left
   ·simp only [sP, i64_w, i32_w]
    rfl
   refine pure_ (i := 7) (N := some 33) (v := ?_) (a' := ?_) #[true, false, true, false, false, true, false, true, false, false, false, false] rfl rfl (any_of HT_.out (by kernel_rfl)) (fun _ _ _ h => h) (Or.inl ⟨by rfl, ?_⟩) ?_ ?_
   rotate_left
   ·intro w'
    go_simp
    with_reducible rfl
   rotate_left
   ·simp only [sP, i64_w, i32_w]
    rfl
   refine take_ (i := 1) (N := some 27) (v := ?_) (a' := ?_) #[true, true, true, false, false, true, false, true, false, false, false, false] rfl rfl (take_ofW HT_.out HW_.out (by kernel_rfl)) (fun _ _ _ h => h) (Or.inl ⟨by rfl, ?_⟩) hHeld ?_ ?_
   rotate_left
   ·rintro w' ⟨s0, s1, s2⟩
    go_simp
    with_reducible rfl
   rotate_left
   ·simp only [sP, i64_w, i32_w]
    rfl
   refine pure_ (i := 3) (N := some 29) (v := ?_) (a' := ?_) #[true, true, true, true, false, true, false, true, false, false, false, false] rfl rfl (any_of HT_.out (by kernel_rfl)) (fun _ _ _ h => h) (Or.inl ⟨by rfl, ?_⟩) ?_ ?_
   rotate_left
   ·intro w'
    go_simp
    with_reducible rfl
   rotate_left
   ·simp only [sP, i64_w, i32_w]
    rfl
   refine pure_ (i := 4) (N := some 30) (v := ?_) (a' := ?_) #[true, true, true, true, true, true, false, true, false, false, false, false] rfl rfl (any_of HT_.out (by kernel_rfl)) (fun _ _ _ h => h) (Or.inl ⟨by rfl, ?_⟩) ?_ ?_
   rotate_left
   ·intro w'
    go_simp
    with_reducible rfl
   rotate_left
   ·simp only [sP, i64_w, i32_w]
    rfl
   refine take_ (i := 6) (N := some 32) (v := ?_) (a' := ?_) (bs 8 4) rfl rfl (take_ofW HT_.out HW_.out (by kernel_rfl)) (fun _ _ _ h => h) (Or.inl ⟨by rfl, ?_⟩) hHeld ?_ ?_
   rotate_left
   ·rintro w' ⟨s0, s1, s2⟩
    go_simp
    with_reducible rfl
   rotate_left
   ·simp only [sP, i64_w, i32_w]
    rfl
   refine pure_ (i := 8) (N := some 34) (v := ?_) (a' := ?_) (bs 9 3) rfl rfl (any_of HT_.out (by kernel_rfl)) (fun _ _ _ h => h) (Or.inl ⟨by rfl, ?_⟩) ?_ ?_
   rotate_left
   ·intro w'
    go_simp
    with_reducible rfl
   rotate_left
   ·simp only [sP, i64_w, i32_w]
    rfl
   refine pure_ (i := 9) (N := some 35) (v := ?_) (a' := ?_) (bs 10 2) rfl rfl (any_of HT_.out (by kernel_rfl)) (fun _ _ _ h => h) (Or.inl ⟨by rfl, ?_⟩) ?_ ?_
   rotate_left
   ·intro w'
    go_simp
    with_reducible rfl
   rotate_left
   ·simp only [sP, i64_w, i32_w]
    rfl
   refine one_ (i := 10) (N := none) (bs 11 1) rfl rfl (one_of HT_.out (by kernel_rfl)) (by decide) (fun K hK => ?_)
   have hs10 : w9.cell? ⟨gb102, 0, none⟩ = some (.int .i64 0) := (blk_cell BK102.out 0).trans rfl
   have hfs10 := blk_frozen BK102.out 0
   have hns10_0 := NB101_102.out
   have hms10_0 := NB102_101.out
   have hs11 : w9.cell? ⟨gb102, 1, none⟩ = some (.int .i64 0) := (blk_cell BK102.out 1).trans rfl
   have hfs11 := blk_frozen BK102.out 1
   have hns11_0 := NB101_102.out
   have hms11_0 := NB102_101.out
   have hs12 : w9.cell? ⟨gb102, 2, none⟩ = some (.slice none 0 0) := (blk_cell BK102.out 2).trans rfl
   have hfs12 := blk_frozen BK102.out 2
   have hns12_0 := NB101_102.out
   have hms12_0 := NB102_101.out
   refine skip_ (w1 := ?_) (by rfl) rfl ?_ ?_
   rotate_left
   ·go_simp
    rfl
   refine hK.out _ _ ⟨((cell_far (p := ⟨gb102, _, none⟩) NB101_102.out _).trans (((cell_far (p := ⟨gb102, _, none⟩) NB101_102.out _).trans (((cell_far (p := ⟨gb102, _, none⟩) NB101_102.out _).trans (hHeld.1)))))), ((cell_far (p := ⟨gb102, _, none⟩) NB101_102.out _).trans (((cell_far (p := ⟨gb102, _, none⟩) NB101_102.out _).trans (((cell_far (p := ⟨gb102, _, none⟩) NB101_102.out _).trans (hHeld.2.1)))))), ((cell_far (p := ⟨gb102, _, none⟩) NB101_102.out _).trans (((cell_far (p := ⟨gb102, _, none⟩) NB101_102.out _).trans (((cell_far (p := ⟨gb102, _, none⟩) NB101_102.out _).trans (hHeld.2.2))))))⟩ (fun hHeld => ?_)
   clear hK K
   refine pure_ (i := 11) (N := some 5) (v := ?_) (a' := ?_) (bs 12 0) rfl rfl (any_of HT_.out (by kernel_rfl)) (fun _ _ _ h => h) (Or.inl ⟨by rfl, ?_⟩) ?_ ?_
   rotate_left
   ·intro w'
    go_simp
    with_reducible rfl
   rotate_left
   ·simp only [sP, i64_w, i32_w]
    rfl
   refine done_ (done_of HT_.out (by kernel_rfl)) ?_
   try go_wp2
   refine bodyPost_ret (results_ct rfl _ _ gb102 77 #[.int .i64 1, .int .i64 (wrap64 (a0_1 - a1)), .slice none 0 0] (0, 0) _ rfl (p3 BK102) Try.underlying77 rfl (by kernel_rfl)) rfl ?_
   exact ⟨_, eW, (by exact Kd.V_nil _ _ _ _ _), pH HB⟩
  ·rw [if_neg c4] at H
   have c4b0 : decide (a1 ≤ a0_1) = false := decide_eq_false c4
   clear c4
   simp only [Option.some.injEq, Prod.mk.injEq] at H
   obtain ⟨rfl, rfl, rfl, rfl⟩ := H
   go_enter Try.func59, Try.ntmps59
   go_wp2_with (first | ((with_reducible refine gate_dst (N := 2) rfl ?_); refine bE (N := 2) (cs := #[.int .i64 a0_0, .int .i64 a0_1, .slice A0_2 l0_2.length c0_2]) (t := 90) ?_; intro gb101 hg w13 hbox hb; have GW101 := qw HB hg; have GE101 := qw HB hg; have BK101 := aK hbox; replace HB := qs HB hb; clear hb hbox hg) | ((with_reducible refine gate_dst (N := 4) rfl ?_); refine bE (N := 4) (cs := #[.int .i64 0, .int .i64 0, .slice none 0 0]) (t := 77) ?_; intro gb102 hg w14 hbox hb; have GW102 := qw HB hg; have GE102 := qw HB hg; have NB101_102 := ql BK101 hg; have NB102_101 := qg BK101 hg; replace BK101 := qb BK101 hb; have BK102 := aK hbox; replace HB := qs HB hb; clear hb hbox hg; have hnb15 := NB101_102.out; have hnc15 := NB102_101.out; have hcz16_0 := k30 BK101; have hcz16_1 := k31 BK101; have hcz16_2 := k32 BK101; have hfz16_0 := fz BK101 0; have hfz16_1 := fz BK101 1; have hfz16_2 := fz BK101 2; have hcz17_0 := k30 BK102; have hcz17_1 := k31 BK102; have hcz17_2 := k32 BK102; have hfz17_0 := fz BK102 0; have hfz17_1 := fz BK102 1; have hfz17_2 := fz BK102 2))
   refine bodyPost_ret (results_ct rfl _ _ gb102 77 #[.int .i64 1, .int .i64 (wrap64 ((wrap64 ((wrap64 (100 + a1)) - 1)) - a0_1)), .slice none 0 0] (0, 0) _ rfl (p3 BK102) Try.underlying77 rfl (by kernel_rfl)) rfl ?_
   exact ⟨_, eW, (by exact Kd.V_nil _ _ _ _ _), pH HB⟩
 ·rw [if_neg c3] at H
  have c3b0 : (a0_0 == 1) = false := beq_eq_false_iff_ne.mpr c3
  have c3b1 : (a0_0 != 1) = true := bne_iff_ne.mpr c3
  by_cases c18 : a0_0 = 2
  ·rw [if_pos c18] at H
   have c18b0 : (a0_0 == 2) = true := beq_iff_eq.mpr c18
   have c18b1 : (a0_0 != 2) = false := bne_eq_false_iff_eq.mpr c18
   clear c18
   by_cases c19 : 0 < (l0_2.length : Int)
   ·rw [if_pos c19] at H
    have c19b0 : decide (0 < (l0_2.length : Int)) = true := decide_eq_true c19
    have c19b1 : decide (0 < l0_2.length) = true := decide_eq_true (by omega)
    clear c19
    replace H := Option.bind_eq_some_iff.mp H
    obtain ⟨⟨t104, t105, t106, t109⟩, A200, H⟩ := H
    try dsimp only at H
    have A20 := aK A200
    clear A200
    by_cases c21 : t109 = true
    ·subst c21
     rw [if_pos rfl] at H
     replace H := Option.bind_eq_some_iff.mp H
     obtain ⟨⟨t111, t112, t113⟩, A220, H⟩ := H
     try dsimp only at H
     have A22 := aK A220
     clear A220
     replace H := Option.bind_eq_some_iff.mp H
     obtain ⟨⟨t117, t120⟩, A230, H⟩ := H
     try dsimp only at H
     have A23 := aK A230
     clear A230
     simp only [Option.some.injEq, Prod.mk.injEq] at H
     obtain ⟨rfl, rfl, rfl, rfl⟩ := H
     go_enter Try.func59, Try.ntmps59
     go_wp2_with (first | ((with_reducible refine gate_dst (N := 2) rfl ?_); refine bE (N := 2) (cs := #[.int .i64 a0_0, .int .i64 a0_1, .slice A0_2 l0_2.length c0_2]) (t := 90) ?_; intro gb101 hg w24 hbox hb; have GW101 := qw HB hg; have GE101 := qw HB hg; have BK101 := aK hbox; replace HB := qs HB hb; clear hb hbox hg) | ((with_reducible refine gate_dst (N := 4) rfl ?_); refine bE (N := 4) (cs := #[.int .i64 0, .int .i64 0, .slice none 0 0]) (t := 77) ?_; intro gb102 hg w25 hbox hb; have GW102 := qw HB hg; have GE102 := qw HB hg; have NB101_102 := ql BK101 hg; have NB102_101 := qg BK101 hg; replace BK101 := qb BK101 hb; have BK102 := aK hbox; replace HB := qs HB hb; clear hb hbox hg; have hnb26 := NB101_102.out; have hnc26 := NB102_101.out; have hcz27_0 := k30 BK101; have hcz27_1 := k31 BK101; have hcz27_2 := k32 BK101; have hfz27_0 := fz BK101 0; have hfz27_1 := fz BK101 1; have hfz27_2 := fz BK101 2; have p103 : 0 ≤ (0 : Int) := (by omega); have q103 : 0 < (l0_2.length : Int) := dA; obtain ⟨ad103, A103_2, c103_2, e103, hx103_0, hx103_1, hx103_2, hl103_2, hi103_2⟩ := at_T90 HR0_2.out 0 p103 q103; cases e103; have qi103 : (0 < l0_2.length) = True := eq_true (by omega); (try rw [show ((0 : Int)).toNat = 0 from rfl] at hx103_0); (try rw [show 0 * 3 = 0 from rfl] at hx103_0); (try rw [Addr.add_zero'] at hx103_0); (try rw [show ((0 : Int)).toNat = 0 from rfl] at hx103_1); (try rw [show 0 * 3 = 0 from rfl] at hx103_1); (try rw [Addr.add_zero'] at hx103_1); (try rw [show ((0 : Int)).toNat = 0 from rfl] at hx103_2); (try rw [show 0 * 3 = 0 from rfl] at hx103_2); (try rw [Addr.add_zero'] at hx103_2); replace hx103_0 := uC HB hx103_0; replace hx103_1 := uC HB hx103_1; replace hx103_2 := uC HB hx103_2; have HR103_2 := aK hi103_2; have HC103_2 := aK hl103_2; clear hi103_2 hl103_2; replace p103 := eq_true p103; replace q103 := eq_true q103) | ((with_reducible refine gate_callee (f := 59) rfl ?_); refine goesL_ (some 52) rfl rfl Try.func59 (by kernel_rfl) rfl #[.agg #[.int .i64 ((rd_T90 l0_2 0).f0), .int .i64 ((rd_T90 l0_2 0).f1), .slice A103_2 ((rd_T90 l0_2 0).f2).length c103_2], .int .i64 (wrap64 (a1 + 1))] rfl tA ?_; (with_reducible refine (ih k (by omega) ((rd_T90 l0_2 0).f0) ((rd_T90 l0_2 0).f1) _ _ ((rd_T90 l0_2 0).f2) (wrap64 (a1 + 1)) t104 t105 t106 true _ ?side1 ?side2 A20.out).mono ?_); (case side1 => exact sC (Kd.C_below HR103_2.out HB.out)); (case side2 => exact HC103_2.out); rintro e w28 ⟨v107, rfl, ho0, hb⟩; refine ⟨_, rfl, ?_⟩; have HO108 := aK (Kd.V_lower (Kd.V_mono (ok' := fun k_ => (w.heap.size ≤ k_) ∧ k_ ≠ gb101 ∧ k_ ≠ gb102) ho0 (fun k_ hk_ => ⟨(Nat.le_trans (below_size HB.out) hk_), (Kd.freshB BK101.out k_ hk_), (Kd.freshB BK102.out k_ hk_)⟩)) (below_size HB.out)); replace BK101 := qb BK101 hb; replace BK102 := qb BK102 hb; replace HB := qs HB hb; (try clear hb); (try clear ho0)) | ((with_reducible refine gate_dst (N := 6) rfl ?_); refine bE (N := 6) (cs := #[.int .i64 0, .int .i64 0, .slice none 0 0]) (t := 77) ?_; intro gb110 hg w29 hbox hb; have GW110 := qw HB hg; have GE110 := qw HB hg; have NB101_110 := ql BK101 hg; have NB110_101 := qg BK101 hg; have NB102_110 := ql BK102 hg; have NB110_102 := qg BK102 hg; replace HO108 := qv HO108 hg hb; replace BK101 := qb BK101 hb; replace BK102 := qb BK102 hb; have BK110 := aK hbox; replace HB := qs HB hb; clear hb hbox hg; have hnb30 := NB110_101.out; have hnc30 := NB101_110.out; have hnb31 := NB110_102.out; have hnc31 := NB102_110.out; have hcz32_0 := k30 BK110; have hcz32_1 := k31 BK110; have hcz32_2 := k32 BK110; have hfz32_0 := fz BK110 0; have hfz32_1 := fz BK110 1; have hfz32_2 := fz BK110 2; obtain ⟨Ao33, co33, eo33⟩ := Kd.V_slice HO108.out; subst eo33) | ((with_reducible refine gate_store (t := 77) (p := 6) rfl ?_); refine store_event (t := 77) (p := 6) (v := ?vo_w34) (w1 := (((w29.setCell ⟨gb110, 0, none⟩ (.int .i64 t104)).setCell ⟨gb110, 1, none⟩ (.int .i64 t105)).setCell ⟨gb110, 2, none⟩ (.slice Ao33 t106.length co33))) ?hg ?ho ?hn ?hr ?_; (case ho => rfl); (case hg => rfl); (case hn => rfl); (case hr => first | (go_simp; done) | (go_simp; rfl)); intro w34 hw; have n0_ : Aside0 (Kd.V k77 77 w34 w.heap.size (fun k_ => (w.heap.size ≤ k_) ∧ k_ ≠ gb101 ∧ k_ ≠ gb102 ∧ k_ ≠ gb110) (.slice Ao33 t106.length co33) t106) := ⟨(by rw [hw]; exact (by (with_reducible repeat (first | apply Kd.V_alloc | apply Kd.V_drewN | apply Kd.V_drew)); exact Kd.V_mono (vF3 gb110 (Kd.V_mono HO108.out (fun k_ hk => (⟨hk, hk.2⟩ : _ ∧ k_ ≠ gb110))) (fun _ hk => hk.2)) (fun _ hk => ⟨hk.1.1.1, ⟨hk.1.1.2.1, ⟨hk.1.1.2.2, hk.1.2⟩⟩⟩)))⟩; have n1_ : Aside0 (w34.heap[gb101]? = some (.cells #[.int .i64 a0_0, .int .i64 a0_1, .slice (some ad103) l0_2.length c0_2] 90 (0, 0))) := ⟨(by rw [hw]; exact (by (repeat first | with_reducible apply zN | with_reducible apply zD | with_reducible apply zA | refine blk_far ?_ NB101_110.out _); exact BK101.out))⟩; have n2_ : Aside0 (w34.heap[gb102]? = some (.cells #[.int .i64 0, .int .i64 0, .slice none 0 0] 77 (0, 0))) := ⟨(by rw [hw]; exact (by (repeat first | with_reducible apply zN | with_reducible apply zD | with_reducible apply zA | refine blk_far ?_ NB102_110.out _); exact BK102.out))⟩; have n3_ : Aside0 (w34.heap[gb110]? = some (.cells #[.int .i64 t104, .int .i64 t105, .slice Ao33 t106.length co33] 77 (0, 0))) := ⟨(by rw [hw]; exact (p3 BK110))⟩; have n4_ : Aside0 (Below w.heap.size w w34) := ⟨(by rw [hw]; exact (pH HB))⟩; clear hw; clear HO108; clear BK101; clear BK102; clear BK110; clear HB; have HO108 := n0_; have BK101 := n1_; have BK102 := n2_; have BK110 := n3_; have HB := n4_; clear n0_ n1_ n2_ n3_ n4_; have hcz35_0 := k30 BK110; have hcz35_1 := k31 BK110; have hcz35_2 := k32 BK110; have hfz35_0 := fz BK110 0; have hfz35_1 := fz BK110 1; have hfz35_2 := fz BK110 2) | ((with_reducible refine gate_callee (f := 51) rfl ?_); refine goesL_ (some 61) rfl rfl Try.func51 (by kernel_rfl) rfl #[.agg #[.int .i64 t104, .int .i64 t105, .slice Ao33 t106.length co33], .int .i64 (wrap64 (100 + a1))] rfl tA ?_; (with_reducible refine (spec_ldAbstract.calls k t104 t105 (fun k_ => ((w.heap.size ≤ k_) ∧ (k_ ≠ gb101 ∧ (k_ ≠ gb102 ∧ k_ ≠ gb110)))) _ _ t106 (wrap64 (100 + a1)) t111 t112 t113 _ ?side1 A22.out).mono ?_); (case side1 => exact HO108.out); rintro e w36 ⟨v114, rfl, ho0, hb⟩; refine ⟨_, rfl, ?_⟩; have n0_ := aK (Kd.V_below HO108.out hb); have HO115 := aK (Kd.V_lower (Kd.V_mono (ok' := fun k_ => (w.heap.size ≤ k_) ∧ k_ ≠ gb101 ∧ k_ ≠ gb102 ∧ k_ ≠ gb110) ho0 (fun k_ hk_ => ⟨Or.elim hk_ (fun hs_ => hs_.1) (fun hn_ => (Nat.le_trans (below_size HB.out) hn_)), Or.elim hk_ (fun hs_ => hs_.2.1) (fun hn_ => (Kd.freshB BK101.out k_ hn_)), Or.elim hk_ (fun hs_ => hs_.2.2.1) (fun hn_ => (Kd.freshB BK102.out k_ hn_)), Or.elim hk_ (fun hs_ => hs_.2.2.2) (fun hn_ => (Kd.freshB BK110.out k_ hn_))⟩)) (below_size HB.out)); replace BK101 := qb BK101 hb; replace BK102 := qb BK102 hb; replace BK110 := qb BK110 hb; clear HO108; have HO108 := n0_; clear n0_; replace HB := qs HB hb; (try clear hb); (try clear ho0)) | ((with_reducible refine gate_dst (N := 8) rfl ?_); refine bE (N := 8) (cs := #[.int .i64 0, .int .i64 0, .slice none 0 0]) (t := 77) ?_; intro gb116 hg w37 hbox hb; have GW116 := qw HB hg; have GE116 := qw HB hg; have NB101_116 := ql BK101 hg; have NB116_101 := qg BK101 hg; have NB102_116 := ql BK102 hg; have NB116_102 := qg BK102 hg; have NB110_116 := ql BK110 hg; have NB116_110 := qg BK110 hg; replace HO108 := qv HO108 hg hb; replace HO115 := qv HO115 hg hb; replace BK101 := qb BK101 hb; replace BK102 := qb BK102 hb; replace BK110 := qb BK110 hb; have BK116 := aK hbox; replace HB := qs HB hb; clear hb hbox hg; have hnb38 := NB116_101.out; have hnc38 := NB101_116.out; have hnb39 := NB116_102.out; have hnc39 := NB102_116.out; have hnb40 := NB116_110.out; have hnc40 := NB110_116.out; have hcz41_0 := k30 BK116; have hcz41_1 := k31 BK116; have hcz41_2 := k32 BK116; have hfz41_0 := fz BK116 0; have hfz41_1 := fz BK116 1; have hfz41_2 := fz BK116 2; obtain ⟨Ao42, co42, eo42⟩ := Kd.V_slice HO115.out; subst eo42) | ((with_reducible refine gate_callee (f := 50) rfl ?_); refine goesL_ (some 64) rfl rfl Try.func50 (by kernel_rfl) rfl #[.agg #[.int .i64 t111, .int .i64 t112, .slice Ao42 t113.length co42]] rfl tA ?_; (with_reducible refine (spec_ldTold.calls k t111 t112 _ _ t113 t117 t120 _ ?side1 ?side2 A23.out).mono ?_); (case side1 => refine (Kd.V_reads' (e := 77) (base := w.heap.size) (ok := fun k_ => (((w.heap.size ≤ k_) ∧ (k_ ≠ gb101 ∧ (k_ ≠ gb102 ∧ k_ ≠ gb110))) ∧ k_ ≠ gb116)) (n := t113.length) (c := co42) ?_).2.2; exact (by (with_reducible repeat (first | apply Kd.V_alloc | apply Kd.V_drewN | apply Kd.V_drew)); exact (Kd.V_mono (vF3 gb116 (Kd.V_mono HO115.out (fun k_ hk => (⟨hk, hk.2⟩ : _ ∧ k_ ≠ gb116))) (fun _ hk => hk.2)) (fun _ h_ => h_.1)))); (case side2 => exact (Kd.V_reads' HO115.out).2.1); rintro e w43 ⟨v118, rfl, ho0, hb⟩; refine ⟨_, rfl, ?_⟩; have n0_ := aK (Kd.V_elder' (by (with_reducible repeat (first | apply Kd.V_alloc | apply Kd.V_drewN | apply Kd.V_drew)); exact (Kd.V_mono (vF3 gb116 (Kd.V_mono HO108.out (fun k_ hk => (⟨hk, hk.2⟩ : _ ∧ k_ ≠ gb116))) (fun _ hk => hk.2)) (fun _ h_ => h_.1))) (Kd.R_base ho0) hb); have n1_ := aK (Kd.V_elder' (by (with_reducible repeat (first | apply Kd.V_alloc | apply Kd.V_drewN | apply Kd.V_drew)); exact (Kd.V_mono (vF3 gb116 (Kd.V_mono HO115.out (fun k_ hk => (⟨hk, hk.2⟩ : _ ∧ k_ ≠ gb116))) (fun _ hk => hk.2)) (fun _ h_ => h_.1))) (Kd.R_base ho0) hb); have n2_ := aK (Kd.R_lower (Kd.R_newM (M := fun k_ => (w.heap.size ≤ k_)) ho0 (below_size (pH HB)) (fun k_ h_ => h_)) (below_size (pH HB))); have n3_ := aK (blk_below (g := gb101) (o := .cells #[.int .i64 a0_0, .int .i64 a0_1, .slice (some ad103) l0_2.length c0_2] 90 (0, 0)) (by (repeat first | with_reducible apply zN | with_reducible apply zD | with_reducible apply zA | refine blk_far ?_ NB101_116.out _); exact BK101.out) hb); have n4_ := aK (blk_below (g := gb102) (o := .cells #[.int .i64 0, .int .i64 0, .slice none 0 0] 77 (0, 0)) (by (repeat first | with_reducible apply zN | with_reducible apply zD | with_reducible apply zA | refine blk_far ?_ NB102_116.out _); exact BK102.out) hb); have n5_ := aK (blk_below (g := gb110) (o := .cells #[.int .i64 t104, .int .i64 t105, .slice Ao33 t106.length co33] 77 (0, 0)) (by (repeat first | with_reducible apply zN | with_reducible apply zD | with_reducible apply zA | refine blk_far ?_ NB110_116.out _); exact BK110.out) hb); have n6_ := aK (blk_below (g := gb116) (o := .cells #[.int .i64 t111, .int .i64 t112, .slice Ao42 t113.length co42] 77 (0, 0)) (p3 BK116) hb); have n7_ := aK (below_step (pH HB) hb); clear HO108; clear HO115; clear BK101; clear BK102; clear BK110; clear BK116; clear HB; have HO108 := n0_; have HO115 := n1_; have HO119 := n2_; have BK101 := n3_; have BK102 := n4_; have BK110 := n5_; have BK116 := n6_; have HB := n7_; clear n0_ n1_ n2_ n3_ n4_ n5_ n6_ n7_; (try clear hb); (try clear ho0); have hcz44_0 := k30 BK116; have hcz44_1 := k31 BK116; have hcz44_2 := k32 BK116; have hfz44_0 := fz BK116 0; have hfz44_1 := fz BK116 1; have hfz44_2 := fz BK116 2; have hcz45_0 := k30 BK102; have hcz45_1 := k31 BK102; have hcz45_2 := k32 BK102; have hfz45_0 := fz BK102 0; have hfz45_1 := fz BK102 1; have hfz45_2 := fz BK102 2))
     refine bodyPost_ret (results_ct rfl _ _ gb102 77 #[.int .i64 t111, .int .i64 t112, .slice Ao42 t113.length co42] (0, 0) _ rfl (p3 BK102) Try.underlying77 rfl (by kernel_rfl)) rfl ?_
     exact ⟨_, eW, by (with_reducible repeat (first | apply Kd.V_alloc | apply Kd.V_drewN | apply Kd.V_drew)); exact Kd.V_mono (vF3 gb102 (Kd.V_mono HO115.out (fun k_ hk => (⟨hk, hk.1.1.2.2.1⟩ : _ ∧ k_ ≠ gb102))) (fun _ hk => hk.2)) (fun _ hk => hk.1.1.1.1), pH HB⟩
    ·replace c21 := Bool.eq_false_iff.mpr c21
     subst c21
     rw [if_neg (show ¬ (false = true) by decide)] at H
     simp only [Option.some.injEq, Prod.mk.injEq] at H
     obtain ⟨rfl, rfl, rfl, rfl⟩ := H
     go_enter Try.func59, Try.ntmps59
     go_wp2_with (first | ((with_reducible refine gate_dst (N := 2) rfl ?_); refine bE (N := 2) (cs := #[.int .i64 a0_0, .int .i64 a0_1, .slice A0_2 l0_2.length c0_2]) (t := 90) ?_; intro gb101 hg w46 hbox hb; have GW101 := qw HB hg; have GE101 := qw HB hg; have BK101 := aK hbox; replace HB := qs HB hb; clear hb hbox hg) | ((with_reducible refine gate_dst (N := 4) rfl ?_); refine bE (N := 4) (cs := #[.int .i64 0, .int .i64 0, .slice none 0 0]) (t := 77) ?_; intro gb102 hg w47 hbox hb; have GW102 := qw HB hg; have GE102 := qw HB hg; have NB101_102 := ql BK101 hg; have NB102_101 := qg BK101 hg; replace BK101 := qb BK101 hb; have BK102 := aK hbox; replace HB := qs HB hb; clear hb hbox hg; have hnb48 := NB101_102.out; have hnc48 := NB102_101.out; have hcz49_0 := k30 BK101; have hcz49_1 := k31 BK101; have hcz49_2 := k32 BK101; have hfz49_0 := fz BK101 0; have hfz49_1 := fz BK101 1; have hfz49_2 := fz BK101 2; have p103 : 0 ≤ (0 : Int) := (by omega); have q103 : 0 < (l0_2.length : Int) := dA; obtain ⟨ad103, A103_2, c103_2, e103, hx103_0, hx103_1, hx103_2, hl103_2, hi103_2⟩ := at_T90 HR0_2.out 0 p103 q103; cases e103; have qi103 : (0 < l0_2.length) = True := eq_true (by omega); (try rw [show ((0 : Int)).toNat = 0 from rfl] at hx103_0); (try rw [show 0 * 3 = 0 from rfl] at hx103_0); (try rw [Addr.add_zero'] at hx103_0); (try rw [show ((0 : Int)).toNat = 0 from rfl] at hx103_1); (try rw [show 0 * 3 = 0 from rfl] at hx103_1); (try rw [Addr.add_zero'] at hx103_1); (try rw [show ((0 : Int)).toNat = 0 from rfl] at hx103_2); (try rw [show 0 * 3 = 0 from rfl] at hx103_2); (try rw [Addr.add_zero'] at hx103_2); replace hx103_0 := uC HB hx103_0; replace hx103_1 := uC HB hx103_1; replace hx103_2 := uC HB hx103_2; have HR103_2 := aK hi103_2; have HC103_2 := aK hl103_2; clear hi103_2 hl103_2; replace p103 := eq_true p103; replace q103 := eq_true q103) | ((with_reducible refine gate_callee (f := 59) rfl ?_); refine goesL_ (some 52) rfl rfl Try.func59 (by kernel_rfl) rfl #[.agg #[.int .i64 ((rd_T90 l0_2 0).f0), .int .i64 ((rd_T90 l0_2 0).f1), .slice A103_2 ((rd_T90 l0_2 0).f2).length c103_2], .int .i64 (wrap64 (a1 + 1))] rfl tA ?_; (with_reducible refine (ih k (by omega) ((rd_T90 l0_2 0).f0) ((rd_T90 l0_2 0).f1) _ _ ((rd_T90 l0_2 0).f2) (wrap64 (a1 + 1)) t104 t105 t106 false _ ?side1 ?side2 A20.out).mono ?_); (case side1 => exact sC (Kd.C_below HR103_2.out HB.out)); (case side2 => exact HC103_2.out); rintro e w50 ⟨v107, rfl, ho0, hb⟩; refine ⟨_, rfl, ?_⟩; have HO108 := aK (Kd.V_lower (Kd.V_mono (ok' := fun k_ => (w.heap.size ≤ k_) ∧ k_ ≠ gb101 ∧ k_ ≠ gb102) ho0 (fun k_ hk_ => ⟨(Nat.le_trans (below_size HB.out) hk_), (Kd.freshB BK101.out k_ hk_), (Kd.freshB BK102.out k_ hk_)⟩)) (below_size HB.out)); replace BK101 := qb BK101 hb; replace BK102 := qb BK102 hb; replace HB := qs HB hb; (try clear hb); (try clear ho0)) | ((with_reducible refine gate_dst (N := 6) rfl ?_); refine bE (N := 6) (cs := #[.int .i64 0, .int .i64 0, .slice none 0 0]) (t := 77) ?_; intro gb110 hg w51 hbox hb; have GW110 := qw HB hg; have GE110 := qw HB hg; have NB101_110 := ql BK101 hg; have NB110_101 := qg BK101 hg; have NB102_110 := ql BK102 hg; have NB110_102 := qg BK102 hg; replace HO108 := qv HO108 hg hb; replace BK101 := qb BK101 hb; replace BK102 := qb BK102 hb; have BK110 := aK hbox; replace HB := qs HB hb; clear hb hbox hg; have hnb52 := NB110_101.out; have hnc52 := NB101_110.out; have hnb53 := NB110_102.out; have hnc53 := NB102_110.out; have hcz54_0 := k30 BK110; have hcz54_1 := k31 BK110; have hcz54_2 := k32 BK110; have hfz54_0 := fz BK110 0; have hfz54_1 := fz BK110 1; have hfz54_2 := fz BK110 2; obtain ⟨Ao55, co55, eo55⟩ := Kd.V_slice HO108.out; subst eo55; have hcz56_0 := k30 BK102; have hcz56_1 := k31 BK102; have hcz56_2 := k32 BK102; have hfz56_0 := fz BK102 0; have hfz56_1 := fz BK102 1; have hfz56_2 := fz BK102 2))
     refine bodyPost_ret (results_ct rfl _ _ gb102 77 #[.int .i64 t104, .int .i64 t105, .slice Ao55 t106.length co55] (0, 0) _ rfl (by (with_reducible repeat first | apply zN | apply zD | apply zA); refine blk_put (cs := #[.int .i64 t104, .int .i64 t105, .slice none 0 0]) ?_ 2 _ rfl; (with_reducible repeat first | apply zN | apply zD | apply zA); refine blk_put (cs := #[.int .i64 t104, .int .i64 0, .slice none 0 0]) ?_ 1 _ rfl; (with_reducible repeat first | apply zN | apply zD | apply zA); refine blk_put (cs := #[.int .i64 0, .int .i64 0, .slice none 0 0]) ?_ 0 _ rfl; (repeat first | with_reducible apply zN | with_reducible apply zD | with_reducible apply zA | refine blk_far ?_ NB102_110.out _); exact BK102.out) Try.underlying77 rfl (by kernel_rfl)) rfl ?_
     exact ⟨_, eW, by (with_reducible repeat (first | apply Kd.V_alloc | apply Kd.V_drewN | apply Kd.V_drew)); exact Kd.V_mono (vF3 gb102 (vF3 gb110 (Kd.V_mono (Kd.V_mono HO108.out (fun k_ hk => (⟨hk, hk.2⟩ : _ ∧ k_ ≠ gb110))) (fun k_ hk => (⟨hk, hk.1.1.2.2⟩ : _ ∧ k_ ≠ gb102))) (fun _ hk => hk.1.2)) (fun _ hk => hk.2)) (fun _ hk => hk.1.1.1.1), pH HB⟩
   ·rw [if_neg c19] at H
    exact absurd H (by simp)
  ·rw [if_neg c18] at H
   have c18b0 : (a0_0 == 2) = false := beq_eq_false_iff_ne.mpr c18
   have c18b1 : (a0_0 != 2) = true := bne_iff_ne.mpr c18
   by_cases c57 : 0 < (l0_2.length : Int)
   ·rw [if_pos c57] at H
    have c57b0 : decide (0 < (l0_2.length : Int)) = true := decide_eq_true c57
    have c57b1 : decide (0 < l0_2.length) = true := decide_eq_true (by omega)
    clear c57
    replace H := Option.bind_eq_some_iff.mp H
    obtain ⟨⟨t122, t123, t124, t127⟩, A580, H⟩ := H
    try dsimp only at H
    have A58 := aK A580
    clear A580
    by_cases c59 : t127 = true
    ·subst c59
     rw [if_pos rfl] at H
     by_cases c60 : 1 < (l0_2.length : Int)
     ·rw [if_pos c60] at H
      have c60b0 : decide (1 < (l0_2.length : Int)) = true := decide_eq_true c60
      have c60b1 : decide (1 < l0_2.length) = true := decide_eq_true (by omega)
      clear c60
      replace H := Option.bind_eq_some_iff.mp H
      obtain ⟨⟨t130, t131, t132, t135⟩, A610, H⟩ := H
      try dsimp only at H
      have A61 := aK A610
      clear A610
      by_cases c62 : t135 = true
      ·subst c62
       rw [if_pos rfl] at H
       replace H := Option.bind_eq_some_iff.mp H
       obtain ⟨⟨t137, t138, t139⟩, A630, H⟩ := H
       try dsimp only at H
       have A63 := aK A630
       clear A630
       replace H := Option.bind_eq_some_iff.mp H
       obtain ⟨⟨t143, t146⟩, A640, H⟩ := H
       try dsimp only at H
       have A64 := aK A640
       clear A640
       simp only [Option.some.injEq, Prod.mk.injEq] at H
       obtain ⟨rfl, rfl, rfl, rfl⟩ := H
       go_enter Try.func59, Try.ntmps59
       go_wp2_with (first | ((with_reducible refine gate_dst (N := 2) rfl ?_); refine bE (N := 2) (cs := #[.int .i64 a0_0, .int .i64 a0_1, .slice A0_2 l0_2.length c0_2]) (t := 90) ?_; intro gb101 hg w65 hbox hb; have GW101 := qw HB hg; have GE101 := qw HB hg; have BK101 := aK hbox; replace HB := qs HB hb; clear hb hbox hg) | ((with_reducible refine gate_dst (N := 4) rfl ?_); refine bE (N := 4) (cs := #[.int .i64 0, .int .i64 0, .slice none 0 0]) (t := 77) ?_; intro gb102 hg w66 hbox hb; have GW102 := qw HB hg; have GE102 := qw HB hg; have NB101_102 := ql BK101 hg; have NB102_101 := qg BK101 hg; replace BK101 := qb BK101 hb; have BK102 := aK hbox; replace HB := qs HB hb; clear hb hbox hg; have hnb67 := NB101_102.out; have hnc67 := NB102_101.out; have hcz68_0 := k30 BK101; have hcz68_1 := k31 BK101; have hcz68_2 := k32 BK101; have hfz68_0 := fz BK101 0; have hfz68_1 := fz BK101 1; have hfz68_2 := fz BK101 2; have p121 : 0 ≤ (0 : Int) := (by omega); have q121 : 0 < (l0_2.length : Int) := dA; obtain ⟨ad121, A121_2, c121_2, e121, hx121_0, hx121_1, hx121_2, hl121_2, hi121_2⟩ := at_T90 HR0_2.out 0 p121 q121; cases e121; have qi121 : (0 < l0_2.length) = True := eq_true (by omega); (try rw [show ((0 : Int)).toNat = 0 from rfl] at hx121_0); (try rw [show 0 * 3 = 0 from rfl] at hx121_0); (try rw [Addr.add_zero'] at hx121_0); (try rw [show ((0 : Int)).toNat = 0 from rfl] at hx121_1); (try rw [show 0 * 3 = 0 from rfl] at hx121_1); (try rw [Addr.add_zero'] at hx121_1); (try rw [show ((0 : Int)).toNat = 0 from rfl] at hx121_2); (try rw [show 0 * 3 = 0 from rfl] at hx121_2); (try rw [Addr.add_zero'] at hx121_2); replace hx121_0 := uC HB hx121_0; replace hx121_1 := uC HB hx121_1; replace hx121_2 := uC HB hx121_2; have HR121_2 := aK hi121_2; have HC121_2 := aK hl121_2; clear hi121_2 hl121_2; replace p121 := eq_true p121; replace q121 := eq_true q121) | ((with_reducible refine gate_callee (f := 59) rfl ?_); refine goesL_ (some 75) rfl rfl Try.func59 (by kernel_rfl) rfl #[.agg #[.int .i64 ((rd_T90 l0_2 0).f0), .int .i64 ((rd_T90 l0_2 0).f1), .slice A121_2 ((rd_T90 l0_2 0).f2).length c121_2], .int .i64 a1] rfl tA ?_; (with_reducible refine (ih k (by omega) ((rd_T90 l0_2 0).f0) ((rd_T90 l0_2 0).f1) _ _ ((rd_T90 l0_2 0).f2) a1 t122 t123 t124 true _ ?side1 ?side2 A58.out).mono ?_); (case side1 => exact sC (Kd.C_below HR121_2.out HB.out)); (case side2 => exact HC121_2.out); rintro e w69 ⟨v125, rfl, ho0, hb⟩; refine ⟨_, rfl, ?_⟩; have HO126 := aK (Kd.V_lower (Kd.V_mono (ok' := fun k_ => (w.heap.size ≤ k_) ∧ k_ ≠ gb101 ∧ k_ ≠ gb102) ho0 (fun k_ hk_ => ⟨(Nat.le_trans (below_size HB.out) hk_), (Kd.freshB BK101.out k_ hk_), (Kd.freshB BK102.out k_ hk_)⟩)) (below_size HB.out)); replace BK101 := qb BK101 hb; replace BK102 := qb BK102 hb; replace HB := qs HB hb; (try clear hb); (try clear ho0)) | ((with_reducible refine gate_dst (N := 11) rfl ?_); refine bE (N := 11) (cs := #[.int .i64 0, .int .i64 0, .slice none 0 0]) (t := 77) ?_; intro gb128 hg w70 hbox hb; have GW128 := qw HB hg; have GE128 := qw HB hg; have NB101_128 := ql BK101 hg; have NB128_101 := qg BK101 hg; have NB102_128 := ql BK102 hg; have NB128_102 := qg BK102 hg; replace HO126 := qv HO126 hg hb; replace BK101 := qb BK101 hb; replace BK102 := qb BK102 hb; have BK128 := aK hbox; replace HB := qs HB hb; clear hb hbox hg; have hnb71 := NB128_101.out; have hnc71 := NB101_128.out; have hnb72 := NB128_102.out; have hnc72 := NB102_128.out; have hcz73_0 := k30 BK128; have hcz73_1 := k31 BK128; have hcz73_2 := k32 BK128; have hfz73_0 := fz BK128 0; have hfz73_1 := fz BK128 1; have hfz73_2 := fz BK128 2; obtain ⟨Ao74, co74, eo74⟩ := Kd.V_slice HO126.out; subst eo74; have hcz75_0 := k30 BK101; have hcz75_1 := k31 BK101; have hcz75_2 := k32 BK101; have hfz75_0 := fz BK101 0; have hfz75_1 := fz BK101 1; have hfz75_2 := fz BK101 2; have p129 : 0 ≤ (1 : Int) := (by omega); have q129 : 1 < (l0_2.length : Int) := dA; obtain ⟨ad129, A129_2, c129_2, e129, hx129_0, hx129_1, hx129_2, hl129_2, hi129_2⟩ := at_T90 HR0_2.out 1 p129 q129; obtain rfl : ad121 = ad129 := (by injection e129); (try simp only [show (1 : Int).toNat = 1 from rfl, Nat.reduceMul, Nat.reduceEqDiff, Go.Addr.add, ↓reduceIte] at hx129_0); (try simp only [show (1 : Int).toNat = 1 from rfl, Nat.reduceMul, Nat.reduceEqDiff, Go.Addr.add, ↓reduceIte] at hx129_1); (try simp only [show (1 : Int).toNat = 1 from rfl, Nat.reduceMul, Nat.reduceEqDiff, Go.Addr.add, ↓reduceIte] at hx129_2); have qi129 : (1 < l0_2.length) = True := eq_true (by omega); (try rw [show ((1 : Int)).toNat = 1 from rfl] at hx129_0); (try rw [show 1 * 3 = 3 from rfl] at hx129_0); (try rw [show ((1 : Int)).toNat = 1 from rfl] at hx129_1); (try rw [show 1 * 3 = 3 from rfl] at hx129_1); (try rw [show ((1 : Int)).toNat = 1 from rfl] at hx129_2); (try rw [show 1 * 3 = 3 from rfl] at hx129_2); have hn129_0 : ad121.block ≠ gb128 := nF hx129_0 GW128; have hn129_1 : ad121.block ≠ gb128 := nF hx129_0 GW128; have hn129_2 : ad121.block ≠ gb128 := nF hx129_0 GW128; replace hx129_0 := uC HB hx129_0; replace hx129_1 := uC HB hx129_1; replace hx129_2 := uC HB hx129_2; have HR129_2 := aK hi129_2; have HC129_2 := aK hl129_2; clear hi129_2 hl129_2; replace hx129_0 := (cell_far (p := ⟨gb128, 0, none⟩) (cB hn129_0) (.int .i64 t122)).trans hx129_0; replace hx129_1 := (cell_far (p := ⟨gb128, 0, none⟩) (cB hn129_0) (.int .i64 t122)).trans hx129_1; replace hx129_2 := (cell_far (p := ⟨gb128, 0, none⟩) (cB hn129_0) (.int .i64 t122)).trans hx129_2; replace hx129_0 := (cell_far (p := ⟨gb128, 1, none⟩) (cB hn129_1) (.int .i64 t123)).trans hx129_0; replace hx129_1 := (cell_far (p := ⟨gb128, 1, none⟩) (cB hn129_1) (.int .i64 t123)).trans hx129_1; replace hx129_2 := (cell_far (p := ⟨gb128, 1, none⟩) (cB hn129_1) (.int .i64 t123)).trans hx129_2; replace hx129_0 := (cell_far (p := ⟨gb128, 2, none⟩) (cB hn129_2) (.slice Ao74 t124.length co74)).trans hx129_0; replace hx129_1 := (cell_far (p := ⟨gb128, 2, none⟩) (cB hn129_2) (.slice Ao74 t124.length co74)).trans hx129_1; replace hx129_2 := (cell_far (p := ⟨gb128, 2, none⟩) (cB hn129_2) (.slice Ao74 t124.length co74)).trans hx129_2; clear hn129_0; clear hn129_1; clear hn129_2; replace p129 := eq_true p129; replace q129 := eq_true q129) | ((with_reducible refine gate_callee (f := 59) rfl ?_); refine goesL_ (some 87) rfl rfl Try.func59 (by kernel_rfl) rfl #[.agg #[.int .i64 ((rd_T90 l0_2 1).f0), .int .i64 ((rd_T90 l0_2 1).f1), .slice A129_2 ((rd_T90 l0_2 1).f2).length c129_2], .int .i64 a1] rfl tA ?_; (with_reducible refine (ih k (by omega) ((rd_T90 l0_2 1).f0) ((rd_T90 l0_2 1).f1) _ _ ((rd_T90 l0_2 1).f2) a1 t130 t131 t132 true _ ?side1 ?side2 A61.out).mono ?_); (case side1 => exact Kd.C_below HR129_2.out (pH HB)); (case side2 => exact HC129_2.out); rintro e w76 ⟨v133, rfl, ho0, hb⟩; refine ⟨_, rfl, ?_⟩; have n0_ := aK (Kd.V_below (by (with_reducible repeat (first | apply Kd.V_alloc | apply Kd.V_drewN | apply Kd.V_drew)); exact (Kd.V_mono (vF3 gb128 (Kd.V_mono HO126.out (fun k_ hk => (⟨hk, hk.2⟩ : _ ∧ k_ ≠ gb128))) (fun _ hk => hk.2)) (fun _ h_ => h_.1))) hb); have n1_ := aK (Kd.V_lower (Kd.V_mono (ok' := fun k_ => (w.heap.size ≤ k_) ∧ k_ ≠ gb101 ∧ k_ ≠ gb102 ∧ k_ ≠ gb128) ho0 (fun k_ hk_ => ⟨(Nat.le_trans (below_size (pH HB)) hk_), (Kd.freshB (g := gb101) (o := .cells #[.int .i64 a0_0, .int .i64 a0_1, .slice (some ad121) l0_2.length c0_2] 90 (0, 0)) (by (repeat first | with_reducible apply zN | with_reducible apply zD | with_reducible apply zA | refine blk_far ?_ NB101_128.out _); exact BK101.out) k_ hk_), (Kd.freshB (g := gb102) (o := .cells #[.int .i64 0, .int .i64 0, .slice none 0 0] 77 (0, 0)) (by (repeat first | with_reducible apply zN | with_reducible apply zD | with_reducible apply zA | refine blk_far ?_ NB102_128.out _); exact BK102.out) k_ hk_), (Kd.freshB (g := gb128) (o := .cells #[.int .i64 t122, .int .i64 t123, .slice Ao74 t124.length co74] 77 (0, 0)) (p3 BK128) k_ hk_)⟩)) (below_size (pH HB))); have n2_ := aK (blk_below (g := gb101) (o := .cells #[.int .i64 a0_0, .int .i64 a0_1, .slice (some ad121) l0_2.length c0_2] 90 (0, 0)) (by (repeat first | with_reducible apply zN | with_reducible apply zD | with_reducible apply zA | refine blk_far ?_ NB101_128.out _); exact BK101.out) hb); have n3_ := aK (blk_below (g := gb102) (o := .cells #[.int .i64 0, .int .i64 0, .slice none 0 0] 77 (0, 0)) (by (repeat first | with_reducible apply zN | with_reducible apply zD | with_reducible apply zA | refine blk_far ?_ NB102_128.out _); exact BK102.out) hb); have n4_ := aK (blk_below (g := gb128) (o := .cells #[.int .i64 t122, .int .i64 t123, .slice Ao74 t124.length co74] 77 (0, 0)) (p3 BK128) hb); have n5_ := aK (below_step (pH HB) hb); clear HO126; clear BK101; clear BK102; clear BK128; clear HB; have HO126 := n0_; have HO134 := n1_; have BK101 := n2_; have BK102 := n3_; have BK128 := n4_; have HB := n5_; clear n0_ n1_ n2_ n3_ n4_ n5_; (try clear hb); (try clear ho0)) | ((with_reducible refine gate_dst (N := 13) rfl ?_); refine bE (N := 13) (cs := #[.int .i64 0, .int .i64 0, .slice none 0 0]) (t := 77) ?_; intro gb136 hg w77 hbox hb; have GW136 := qw HB hg; have GE136 := qw HB hg; have NB101_136 := ql BK101 hg; have NB136_101 := qg BK101 hg; have NB102_136 := ql BK102 hg; have NB136_102 := qg BK102 hg; have NB128_136 := ql BK128 hg; have NB136_128 := qg BK128 hg; replace HO126 := qv HO126 hg hb; replace HO134 := qv HO134 hg hb; replace BK101 := qb BK101 hb; replace BK102 := qb BK102 hb; replace BK128 := qb BK128 hb; have BK136 := aK hbox; replace HB := qs HB hb; clear hb hbox hg; have hnb78 := NB136_101.out; have hnc78 := NB101_136.out; have hnb79 := NB136_102.out; have hnc79 := NB102_136.out; have hnb80 := NB136_128.out; have hnc80 := NB128_136.out; have hcz81_0 := k30 BK136; have hcz81_1 := k31 BK136; have hcz81_2 := k32 BK136; have hfz81_0 := fz BK136 0; have hfz81_1 := fz BK136 1; have hfz81_2 := fz BK136 2; obtain ⟨Ao82, co82, eo82⟩ := Kd.V_slice HO134.out; subst eo82) | ((with_reducible refine gate_store (t := 77) (p := 13) rfl ?_); refine store_event (t := 77) (p := 13) (v := ?vo_w83) (w1 := (((w77.setCell ⟨gb136, 0, none⟩ (.int .i64 t130)).setCell ⟨gb136, 1, none⟩ (.int .i64 t131)).setCell ⟨gb136, 2, none⟩ (.slice Ao82 t132.length co82))) ?hg ?ho ?hn ?hr ?_; (case ho => rfl); (case hg => rfl); (case hn => rfl); (case hr => first | (go_simp; done) | (go_simp; rfl)); intro w83 hw; have n0_ : Aside0 (Kd.V k77 77 w83 w.heap.size (fun k_ => (w.heap.size ≤ k_) ∧ k_ ≠ gb101 ∧ k_ ≠ gb102 ∧ k_ ≠ gb128 ∧ k_ ≠ gb136) (.slice Ao74 t124.length co74) t124) := ⟨(by rw [hw]; exact (by (with_reducible repeat (first | apply Kd.V_alloc | apply Kd.V_drewN | apply Kd.V_drew)); exact Kd.V_mono (vF3 gb136 (Kd.V_mono HO126.out (fun k_ hk => (⟨hk, hk.2⟩ : _ ∧ k_ ≠ gb136))) (fun _ hk => hk.2)) (fun _ hk => ⟨hk.1.1.1.1, ⟨hk.1.1.1.2.1, ⟨hk.1.1.1.2.2, ⟨hk.1.1.2, hk.1.2⟩⟩⟩⟩)))⟩; have n1_ : Aside0 (Kd.V k77 77 w83 w.heap.size (fun k_ => (w.heap.size ≤ k_) ∧ k_ ≠ gb101 ∧ k_ ≠ gb102 ∧ k_ ≠ gb128 ∧ k_ ≠ gb136) (.slice Ao82 t132.length co82) t132) := ⟨(by rw [hw]; exact (by (with_reducible repeat (first | apply Kd.V_alloc | apply Kd.V_drewN | apply Kd.V_drew)); exact Kd.V_mono (vF3 gb136 (Kd.V_mono HO134.out (fun k_ hk => (⟨hk, hk.2⟩ : _ ∧ k_ ≠ gb136))) (fun _ hk => hk.2)) (fun _ hk => ⟨hk.1.1.1, ⟨hk.1.1.2.1, ⟨hk.1.1.2.2.1, ⟨hk.1.1.2.2.2, hk.1.2⟩⟩⟩⟩)))⟩; have n2_ : Aside0 (w83.heap[gb101]? = some (.cells #[.int .i64 a0_0, .int .i64 a0_1, .slice (some ad121) l0_2.length c0_2] 90 (0, 0))) := ⟨(by rw [hw]; exact (by (repeat first | with_reducible apply zN | with_reducible apply zD | with_reducible apply zA | refine blk_far ?_ NB101_136.out _); exact BK101.out))⟩; have n3_ : Aside0 (w83.heap[gb102]? = some (.cells #[.int .i64 0, .int .i64 0, .slice none 0 0] 77 (0, 0))) := ⟨(by rw [hw]; exact (by (repeat first | with_reducible apply zN | with_reducible apply zD | with_reducible apply zA | refine blk_far ?_ NB102_136.out _); exact BK102.out))⟩; have n4_ : Aside0 (w83.heap[gb128]? = some (.cells #[.int .i64 t122, .int .i64 t123, .slice Ao74 t124.length co74] 77 (0, 0))) := ⟨(by rw [hw]; exact (by (repeat first | with_reducible apply zN | with_reducible apply zD | with_reducible apply zA | refine blk_far ?_ NB128_136.out _); exact BK128.out))⟩; have n5_ : Aside0 (w83.heap[gb136]? = some (.cells #[.int .i64 t130, .int .i64 t131, .slice Ao82 t132.length co82] 77 (0, 0))) := ⟨(by rw [hw]; exact (p3 BK136))⟩; have n6_ : Aside0 (Below w.heap.size w w83) := ⟨(by rw [hw]; exact (pH HB))⟩; clear hw; clear HO126; clear HO134; clear BK101; clear BK102; clear BK128; clear BK136; clear HB; have HO126 := n0_; have HO134 := n1_; have BK101 := n2_; have BK102 := n3_; have BK128 := n4_; have BK136 := n5_; have HB := n6_; clear n0_ n1_ n2_ n3_ n4_ n5_ n6_; have hcz84_0 := k30 BK128; have hcz84_1 := k31 BK128; have hcz84_2 := k32 BK128; have hfz84_0 := fz BK128 0; have hfz84_1 := fz BK128 1; have hfz84_2 := fz BK128 2; have hcz85_0 := k30 BK136; have hcz85_1 := k31 BK136; have hcz85_2 := k32 BK136; have hfz85_0 := fz BK136 0; have hfz85_1 := fz BK136 1; have hfz85_2 := fz BK136 2) | ((with_reducible refine gate_callee (f := 71) rfl ?_); refine goesL_ (some 95) rfl rfl Try.func71 (by kernel_rfl) rfl #[.agg #[.int .i64 t122, .int .i64 t123, .slice Ao74 t124.length co74], .agg #[.int .i64 t130, .int .i64 t131, .slice Ao82 t132.length co82]] rfl tA ?_; (with_reducible refine (spec_ldApp.calls t122 t123 (fun k_ => ((w.heap.size ≤ k_) ∧ (k_ ≠ gb101 ∧ (k_ ≠ gb102 ∧ (k_ ≠ gb128 ∧ k_ ≠ gb136))))) _ _ t124 t130 t131 (fun k_ => ((w.heap.size ≤ k_) ∧ (k_ ≠ gb101 ∧ (k_ ≠ gb102 ∧ (k_ ≠ gb128 ∧ k_ ≠ gb136))))) _ _ t132 t137 t138 t139 _ ?side1 ?side2 A63.out).mono ?_); (case side1 => exact HO126.out); (case side2 => exact HO134.out); rintro e w86 ⟨v140, rfl, ho0, hb⟩; refine ⟨_, rfl, ?_⟩; have HO141 := aK (Kd.N_lower (Kd.N_mono (ok' := fun k_ => (w.heap.size ≤ k_) ∧ k_ ≠ gb101 ∧ k_ ≠ gb102 ∧ k_ ≠ gb128 ∧ k_ ≠ gb136) ho0 (fun k_ hk_ => ⟨Or.elim hk_ (fun hs_ => Or.elim hs_ (fun hs_ => hs_.1) (fun hs_ => hs_.1)) (fun hn_ => (Nat.le_trans (below_size HB.out) hn_)), Or.elim hk_ (fun hs_ => Or.elim hs_ (fun hs_ => hs_.2.1) (fun hs_ => hs_.2.1)) (fun hn_ => (Kd.freshB BK101.out k_ hn_)), Or.elim hk_ (fun hs_ => Or.elim hs_ (fun hs_ => hs_.2.2.1) (fun hs_ => hs_.2.2.1)) (fun hn_ => (Kd.freshB BK102.out k_ hn_)), Or.elim hk_ (fun hs_ => Or.elim hs_ (fun hs_ => hs_.2.2.2.1) (fun hs_ => hs_.2.2.2.1)) (fun hn_ => (Kd.freshB BK128.out k_ hn_)), Or.elim hk_ (fun hs_ => Or.elim hs_ (fun hs_ => hs_.2.2.2.2) (fun hs_ => hs_.2.2.2.2)) (fun hn_ => (Kd.freshB BK136.out k_ hn_))⟩)) (below_size HB.out)); replace HO126 := qe HO126 (by first | exact Kd.N_base ho0 | exact Kd.R_base ho0) hb; replace HO134 := qe HO134 (by first | exact Kd.N_base ho0 | exact Kd.R_base ho0) hb; replace BK101 := qb BK101 hb; replace BK102 := qb BK102 hb; replace BK128 := qb BK128 hb; replace BK136 := qb BK136 hb; replace HB := qs HB hb; (try clear hb); (try clear ho0)) | ((with_reducible refine gate_dst (N := 15) rfl ?_); refine bE (N := 15) (cs := #[.int .i64 0, .int .i64 0, .slice none 0 0]) (t := 77) ?_; intro gb142 hg w87 hbox hb; have GW142 := qw HB hg; have GE142 := qw HB hg; have NB101_142 := ql BK101 hg; have NB142_101 := qg BK101 hg; have NB102_142 := ql BK102 hg; have NB142_102 := qg BK102 hg; have NB128_142 := ql BK128 hg; have NB142_128 := qg BK128 hg; have NB136_142 := ql BK136 hg; have NB142_136 := qg BK136 hg; replace HO126 := qv HO126 hg hb; replace HO134 := qv HO134 hg hb; replace HO141 := qn HO141 hg hb; replace BK101 := qb BK101 hb; replace BK102 := qb BK102 hb; replace BK128 := qb BK128 hb; replace BK136 := qb BK136 hb; have BK142 := aK hbox; replace HB := qs HB hb; clear hb hbox hg; have hnb88 := NB142_101.out; have hnc88 := NB101_142.out; have hnb89 := NB142_102.out; have hnc89 := NB102_142.out; have hnb90 := NB142_128.out; have hnc90 := NB128_142.out; have hnb91 := NB142_136.out; have hnc91 := NB136_142.out; have hcz92_0 := k30 BK142; have hcz92_1 := k31 BK142; have hcz92_2 := k32 BK142; have hfz92_0 := fz BK142 0; have hfz92_1 := fz BK142 1; have hfz92_2 := fz BK142 2; obtain ⟨Ao93, co93, eo93⟩ := Kd.N_slice HO141.out; subst eo93) | ((with_reducible refine gate_callee (f := 50) rfl ?_); refine goesL_ (some 98) rfl rfl Try.func50 (by kernel_rfl) rfl #[.agg #[.int .i64 t137, .int .i64 t138, .slice Ao93 t139.length co93]] rfl tA ?_; (with_reducible refine (spec_ldTold.calls k t137 t138 _ _ t139 t143 t146 _ ?side1 ?side2 A64.out).mono ?_); (case side1 => refine (Kd.N_reads' (e := 77) (base := w.heap.size) (ok := fun k_ => (((w.heap.size ≤ k_) ∧ (k_ ≠ gb101 ∧ (k_ ≠ gb102 ∧ (k_ ≠ gb128 ∧ k_ ≠ gb136)))) ∧ k_ ≠ gb142)) (n := t139.length) (c := co93) ?_).2.2; exact (by (with_reducible repeat (first | apply Kd.N_alloc | apply Kd.N_drewN | apply Kd.N_drew)); exact (Kd.N_mono (nF3 gb142 (Kd.N_mono HO141.out (fun k_ hk => (⟨hk, hk.2⟩ : _ ∧ k_ ≠ gb142))) (fun _ hk => hk.2)) (fun _ h_ => h_.1)))); (case side2 => exact (Kd.N_reads' HO141.out).2.1); rintro e w94 ⟨v144, rfl, ho0, hb⟩; refine ⟨_, rfl, ?_⟩; have n0_ := aK (Kd.V_elder' (by (with_reducible repeat (first | apply Kd.V_alloc | apply Kd.V_drewN | apply Kd.V_drew)); exact (Kd.V_mono (vF3 gb142 (Kd.V_mono HO126.out (fun k_ hk => (⟨hk, hk.2⟩ : _ ∧ k_ ≠ gb142))) (fun _ hk => hk.2)) (fun _ h_ => h_.1))) (Kd.R_base ho0) hb); have n1_ := aK (Kd.V_elder' (by (with_reducible repeat (first | apply Kd.V_alloc | apply Kd.V_drewN | apply Kd.V_drew)); exact (Kd.V_mono (vF3 gb142 (Kd.V_mono HO134.out (fun k_ hk => (⟨hk, hk.2⟩ : _ ∧ k_ ≠ gb142))) (fun _ hk => hk.2)) (fun _ h_ => h_.1))) (Kd.R_base ho0) hb); have n2_ := aK (Kd.N_elder' (by (with_reducible repeat (first | apply Kd.N_alloc | apply Kd.N_drewN | apply Kd.N_drew)); exact (Kd.N_mono (nF3 gb142 (Kd.N_mono HO141.out (fun k_ hk => (⟨hk, hk.2⟩ : _ ∧ k_ ≠ gb142))) (fun _ hk => hk.2)) (fun _ h_ => h_.1))) (Kd.R_base ho0) hb); have n3_ := aK (Kd.R_lower (Kd.R_newM (M := fun k_ => (w.heap.size ≤ k_)) ho0 (below_size (pH HB)) (fun k_ h_ => h_)) (below_size (pH HB))); have n4_ := aK (blk_below (g := gb101) (o := .cells #[.int .i64 a0_0, .int .i64 a0_1, .slice (some ad121) l0_2.length c0_2] 90 (0, 0)) (by (repeat first | with_reducible apply zN | with_reducible apply zD | with_reducible apply zA | refine blk_far ?_ NB101_142.out _); exact BK101.out) hb); have n5_ := aK (blk_below (g := gb102) (o := .cells #[.int .i64 0, .int .i64 0, .slice none 0 0] 77 (0, 0)) (by (repeat first | with_reducible apply zN | with_reducible apply zD | with_reducible apply zA | refine blk_far ?_ NB102_142.out _); exact BK102.out) hb); have n6_ := aK (blk_below (g := gb128) (o := .cells #[.int .i64 t122, .int .i64 t123, .slice Ao74 t124.length co74] 77 (0, 0)) (by (repeat first | with_reducible apply zN | with_reducible apply zD | with_reducible apply zA | refine blk_far ?_ NB128_142.out _); exact BK128.out) hb); have n7_ := aK (blk_below (g := gb136) (o := .cells #[.int .i64 t130, .int .i64 t131, .slice Ao82 t132.length co82] 77 (0, 0)) (by (repeat first | with_reducible apply zN | with_reducible apply zD | with_reducible apply zA | refine blk_far ?_ NB136_142.out _); exact BK136.out) hb); have n8_ := aK (blk_below (g := gb142) (o := .cells #[.int .i64 t137, .int .i64 t138, .slice Ao93 t139.length co93] 77 (0, 0)) (p3 BK142) hb); have n9_ := aK (below_step (pH HB) hb); clear HO126; clear HO134; clear HO141; clear BK101; clear BK102; clear BK128; clear BK136; clear BK142; clear HB; have HO126 := n0_; have HO134 := n1_; have HO141 := n2_; have HO145 := n3_; have BK101 := n4_; have BK102 := n5_; have BK128 := n6_; have BK136 := n7_; have BK142 := n8_; have HB := n9_; clear n0_ n1_ n2_ n3_ n4_ n5_ n6_ n7_ n8_ n9_; (try clear hb); (try clear ho0); have hcz95_0 := k30 BK142; have hcz95_1 := k31 BK142; have hcz95_2 := k32 BK142; have hfz95_0 := fz BK142 0; have hfz95_1 := fz BK142 1; have hfz95_2 := fz BK142 2; have hcz96_0 := k30 BK102; have hcz96_1 := k31 BK102; have hcz96_2 := k32 BK102; have hfz96_0 := fz BK102 0; have hfz96_1 := fz BK102 1; have hfz96_2 := fz BK102 2))
       refine bodyPost_ret (results_ct rfl _ _ gb102 77 #[.int .i64 t137, .int .i64 t138, .slice Ao93 t139.length co93] (0, 0) _ rfl (p3 BK102) Try.underlying77 rfl (by kernel_rfl)) rfl ?_
       exact ⟨_, eW, Kd.N_V (by (with_reducible repeat (first | apply Kd.N_alloc | apply Kd.N_drewN | apply Kd.N_drew)); exact Kd.N_mono (nF3 gb102 (Kd.N_mono HO141.out (fun k_ hk => (⟨hk, hk.1.1.2.2.1⟩ : _ ∧ k_ ≠ gb102))) (fun _ hk => hk.2)) (fun _ hk => hk.1.1.1.1)), pH HB⟩
      ·replace c62 := Bool.eq_false_iff.mpr c62
       subst c62
       rw [if_neg (show ¬ (false = true) by decide)] at H
       simp only [Option.some.injEq, Prod.mk.injEq] at H
       obtain ⟨rfl, rfl, rfl, rfl⟩ := H
       go_enter Try.func59, Try.ntmps59
       go_wp2_with (first | ((with_reducible refine gate_dst (N := 2) rfl ?_); refine bE (N := 2) (cs := #[.int .i64 a0_0, .int .i64 a0_1, .slice A0_2 l0_2.length c0_2]) (t := 90) ?_; intro gb101 hg w97 hbox hb; have GW101 := qw HB hg; have GE101 := qw HB hg; have BK101 := aK hbox; replace HB := qs HB hb; clear hb hbox hg) | ((with_reducible refine gate_dst (N := 4) rfl ?_); refine bE (N := 4) (cs := #[.int .i64 0, .int .i64 0, .slice none 0 0]) (t := 77) ?_; intro gb102 hg w98 hbox hb; have GW102 := qw HB hg; have GE102 := qw HB hg; have NB101_102 := ql BK101 hg; have NB102_101 := qg BK101 hg; replace BK101 := qb BK101 hb; have BK102 := aK hbox; replace HB := qs HB hb; clear hb hbox hg; have hnb99 := NB101_102.out; have hnc99 := NB102_101.out; have hcz100_0 := k30 BK101; have hcz100_1 := k31 BK101; have hcz100_2 := k32 BK101; have hfz100_0 := fz BK101 0; have hfz100_1 := fz BK101 1; have hfz100_2 := fz BK101 2; have p121 : 0 ≤ (0 : Int) := (by omega); have q121 : 0 < (l0_2.length : Int) := dA; obtain ⟨ad121, A121_2, c121_2, e121, hx121_0, hx121_1, hx121_2, hl121_2, hi121_2⟩ := at_T90 HR0_2.out 0 p121 q121; cases e121; have qi121 : (0 < l0_2.length) = True := eq_true (by omega); (try rw [show ((0 : Int)).toNat = 0 from rfl] at hx121_0); (try rw [show 0 * 3 = 0 from rfl] at hx121_0); (try rw [Addr.add_zero'] at hx121_0); (try rw [show ((0 : Int)).toNat = 0 from rfl] at hx121_1); (try rw [show 0 * 3 = 0 from rfl] at hx121_1); (try rw [Addr.add_zero'] at hx121_1); (try rw [show ((0 : Int)).toNat = 0 from rfl] at hx121_2); (try rw [show 0 * 3 = 0 from rfl] at hx121_2); (try rw [Addr.add_zero'] at hx121_2); replace hx121_0 := uC HB hx121_0; replace hx121_1 := uC HB hx121_1; replace hx121_2 := uC HB hx121_2; have HR121_2 := aK hi121_2; have HC121_2 := aK hl121_2; clear hi121_2 hl121_2; replace p121 := eq_true p121; replace q121 := eq_true q121) | ((with_reducible refine gate_callee (f := 59) rfl ?_); refine goesL_ (some 75) rfl rfl Try.func59 (by kernel_rfl) rfl #[.agg #[.int .i64 ((rd_T90 l0_2 0).f0), .int .i64 ((rd_T90 l0_2 0).f1), .slice A121_2 ((rd_T90 l0_2 0).f2).length c121_2], .int .i64 a1] rfl tA ?_; (with_reducible refine (ih k (by omega) ((rd_T90 l0_2 0).f0) ((rd_T90 l0_2 0).f1) _ _ ((rd_T90 l0_2 0).f2) a1 t122 t123 t124 true _ ?side1 ?side2 A58.out).mono ?_); (case side1 => exact sC (Kd.C_below HR121_2.out HB.out)); (case side2 => exact HC121_2.out); rintro e w101 ⟨v125, rfl, ho0, hb⟩; refine ⟨_, rfl, ?_⟩; have HO126 := aK (Kd.V_lower (Kd.V_mono (ok' := fun k_ => (w.heap.size ≤ k_) ∧ k_ ≠ gb101 ∧ k_ ≠ gb102) ho0 (fun k_ hk_ => ⟨(Nat.le_trans (below_size HB.out) hk_), (Kd.freshB BK101.out k_ hk_), (Kd.freshB BK102.out k_ hk_)⟩)) (below_size HB.out)); replace BK101 := qb BK101 hb; replace BK102 := qb BK102 hb; replace HB := qs HB hb; (try clear hb); (try clear ho0)) | ((with_reducible refine gate_dst (N := 11) rfl ?_); refine bE (N := 11) (cs := #[.int .i64 0, .int .i64 0, .slice none 0 0]) (t := 77) ?_; intro gb128 hg w102 hbox hb; have GW128 := qw HB hg; have GE128 := qw HB hg; have NB101_128 := ql BK101 hg; have NB128_101 := qg BK101 hg; have NB102_128 := ql BK102 hg; have NB128_102 := qg BK102 hg; replace HO126 := qv HO126 hg hb; replace BK101 := qb BK101 hb; replace BK102 := qb BK102 hb; have BK128 := aK hbox; replace HB := qs HB hb; clear hb hbox hg; have hnb103 := NB128_101.out; have hnc103 := NB101_128.out; have hnb104 := NB128_102.out; have hnc104 := NB102_128.out; have hcz105_0 := k30 BK128; have hcz105_1 := k31 BK128; have hcz105_2 := k32 BK128; have hfz105_0 := fz BK128 0; have hfz105_1 := fz BK128 1; have hfz105_2 := fz BK128 2; obtain ⟨Ao106, co106, eo106⟩ := Kd.V_slice HO126.out; subst eo106; have hcz107_0 := k30 BK101; have hcz107_1 := k31 BK101; have hcz107_2 := k32 BK101; have hfz107_0 := fz BK101 0; have hfz107_1 := fz BK101 1; have hfz107_2 := fz BK101 2; have p129 : 0 ≤ (1 : Int) := (by omega); have q129 : 1 < (l0_2.length : Int) := dA; obtain ⟨ad129, A129_2, c129_2, e129, hx129_0, hx129_1, hx129_2, hl129_2, hi129_2⟩ := at_T90 HR0_2.out 1 p129 q129; obtain rfl : ad121 = ad129 := (by injection e129); (try simp only [show (1 : Int).toNat = 1 from rfl, Nat.reduceMul, Nat.reduceEqDiff, Go.Addr.add, ↓reduceIte] at hx129_0); (try simp only [show (1 : Int).toNat = 1 from rfl, Nat.reduceMul, Nat.reduceEqDiff, Go.Addr.add, ↓reduceIte] at hx129_1); (try simp only [show (1 : Int).toNat = 1 from rfl, Nat.reduceMul, Nat.reduceEqDiff, Go.Addr.add, ↓reduceIte] at hx129_2); have qi129 : (1 < l0_2.length) = True := eq_true (by omega); (try rw [show ((1 : Int)).toNat = 1 from rfl] at hx129_0); (try rw [show 1 * 3 = 3 from rfl] at hx129_0); (try rw [show ((1 : Int)).toNat = 1 from rfl] at hx129_1); (try rw [show 1 * 3 = 3 from rfl] at hx129_1); (try rw [show ((1 : Int)).toNat = 1 from rfl] at hx129_2); (try rw [show 1 * 3 = 3 from rfl] at hx129_2); have hn129_0 : ad121.block ≠ gb128 := nF hx129_0 GW128; have hn129_1 : ad121.block ≠ gb128 := nF hx129_0 GW128; have hn129_2 : ad121.block ≠ gb128 := nF hx129_0 GW128; replace hx129_0 := uC HB hx129_0; replace hx129_1 := uC HB hx129_1; replace hx129_2 := uC HB hx129_2; have HR129_2 := aK hi129_2; have HC129_2 := aK hl129_2; clear hi129_2 hl129_2; replace hx129_0 := (cell_far (p := ⟨gb128, 0, none⟩) (cB hn129_0) (.int .i64 t122)).trans hx129_0; replace hx129_1 := (cell_far (p := ⟨gb128, 0, none⟩) (cB hn129_0) (.int .i64 t122)).trans hx129_1; replace hx129_2 := (cell_far (p := ⟨gb128, 0, none⟩) (cB hn129_0) (.int .i64 t122)).trans hx129_2; replace hx129_0 := (cell_far (p := ⟨gb128, 1, none⟩) (cB hn129_1) (.int .i64 t123)).trans hx129_0; replace hx129_1 := (cell_far (p := ⟨gb128, 1, none⟩) (cB hn129_1) (.int .i64 t123)).trans hx129_1; replace hx129_2 := (cell_far (p := ⟨gb128, 1, none⟩) (cB hn129_1) (.int .i64 t123)).trans hx129_2; replace hx129_0 := (cell_far (p := ⟨gb128, 2, none⟩) (cB hn129_2) (.slice Ao106 t124.length co106)).trans hx129_0; replace hx129_1 := (cell_far (p := ⟨gb128, 2, none⟩) (cB hn129_2) (.slice Ao106 t124.length co106)).trans hx129_1; replace hx129_2 := (cell_far (p := ⟨gb128, 2, none⟩) (cB hn129_2) (.slice Ao106 t124.length co106)).trans hx129_2; clear hn129_0; clear hn129_1; clear hn129_2; replace p129 := eq_true p129; replace q129 := eq_true q129) | ((with_reducible refine gate_callee (f := 59) rfl ?_); refine goesL_ (some 87) rfl rfl Try.func59 (by kernel_rfl) rfl #[.agg #[.int .i64 ((rd_T90 l0_2 1).f0), .int .i64 ((rd_T90 l0_2 1).f1), .slice A129_2 ((rd_T90 l0_2 1).f2).length c129_2], .int .i64 a1] rfl tA ?_; (with_reducible refine (ih k (by omega) ((rd_T90 l0_2 1).f0) ((rd_T90 l0_2 1).f1) _ _ ((rd_T90 l0_2 1).f2) a1 t130 t131 t132 false _ ?side1 ?side2 A61.out).mono ?_); (case side1 => exact Kd.C_below HR129_2.out (pH HB)); (case side2 => exact HC129_2.out); rintro e w108 ⟨v133, rfl, ho0, hb⟩; refine ⟨_, rfl, ?_⟩; have n0_ := aK (Kd.V_below (by (with_reducible repeat (first | apply Kd.V_alloc | apply Kd.V_drewN | apply Kd.V_drew)); exact (Kd.V_mono (vF3 gb128 (Kd.V_mono HO126.out (fun k_ hk => (⟨hk, hk.2⟩ : _ ∧ k_ ≠ gb128))) (fun _ hk => hk.2)) (fun _ h_ => h_.1))) hb); have n1_ := aK (Kd.V_lower (Kd.V_mono (ok' := fun k_ => (w.heap.size ≤ k_) ∧ k_ ≠ gb101 ∧ k_ ≠ gb102 ∧ k_ ≠ gb128) ho0 (fun k_ hk_ => ⟨(Nat.le_trans (below_size (pH HB)) hk_), (Kd.freshB (g := gb101) (o := .cells #[.int .i64 a0_0, .int .i64 a0_1, .slice (some ad121) l0_2.length c0_2] 90 (0, 0)) (by (repeat first | with_reducible apply zN | with_reducible apply zD | with_reducible apply zA | refine blk_far ?_ NB101_128.out _); exact BK101.out) k_ hk_), (Kd.freshB (g := gb102) (o := .cells #[.int .i64 0, .int .i64 0, .slice none 0 0] 77 (0, 0)) (by (repeat first | with_reducible apply zN | with_reducible apply zD | with_reducible apply zA | refine blk_far ?_ NB102_128.out _); exact BK102.out) k_ hk_), (Kd.freshB (g := gb128) (o := .cells #[.int .i64 t122, .int .i64 t123, .slice Ao106 t124.length co106] 77 (0, 0)) (p3 BK128) k_ hk_)⟩)) (below_size (pH HB))); have n2_ := aK (blk_below (g := gb101) (o := .cells #[.int .i64 a0_0, .int .i64 a0_1, .slice (some ad121) l0_2.length c0_2] 90 (0, 0)) (by (repeat first | with_reducible apply zN | with_reducible apply zD | with_reducible apply zA | refine blk_far ?_ NB101_128.out _); exact BK101.out) hb); have n3_ := aK (blk_below (g := gb102) (o := .cells #[.int .i64 0, .int .i64 0, .slice none 0 0] 77 (0, 0)) (by (repeat first | with_reducible apply zN | with_reducible apply zD | with_reducible apply zA | refine blk_far ?_ NB102_128.out _); exact BK102.out) hb); have n4_ := aK (blk_below (g := gb128) (o := .cells #[.int .i64 t122, .int .i64 t123, .slice Ao106 t124.length co106] 77 (0, 0)) (p3 BK128) hb); have n5_ := aK (below_step (pH HB) hb); clear HO126; clear BK101; clear BK102; clear BK128; clear HB; have HO126 := n0_; have HO134 := n1_; have BK101 := n2_; have BK102 := n3_; have BK128 := n4_; have HB := n5_; clear n0_ n1_ n2_ n3_ n4_ n5_; (try clear hb); (try clear ho0)) | ((with_reducible refine gate_dst (N := 13) rfl ?_); refine bE (N := 13) (cs := #[.int .i64 0, .int .i64 0, .slice none 0 0]) (t := 77) ?_; intro gb136 hg w109 hbox hb; have GW136 := qw HB hg; have GE136 := qw HB hg; have NB101_136 := ql BK101 hg; have NB136_101 := qg BK101 hg; have NB102_136 := ql BK102 hg; have NB136_102 := qg BK102 hg; have NB128_136 := ql BK128 hg; have NB136_128 := qg BK128 hg; replace HO126 := qv HO126 hg hb; replace HO134 := qv HO134 hg hb; replace BK101 := qb BK101 hb; replace BK102 := qb BK102 hb; replace BK128 := qb BK128 hb; have BK136 := aK hbox; replace HB := qs HB hb; clear hb hbox hg; have hnb110 := NB136_101.out; have hnc110 := NB101_136.out; have hnb111 := NB136_102.out; have hnc111 := NB102_136.out; have hnb112 := NB136_128.out; have hnc112 := NB128_136.out; have hcz113_0 := k30 BK136; have hcz113_1 := k31 BK136; have hcz113_2 := k32 BK136; have hfz113_0 := fz BK136 0; have hfz113_1 := fz BK136 1; have hfz113_2 := fz BK136 2; obtain ⟨Ao114, co114, eo114⟩ := Kd.V_slice HO134.out; subst eo114; have hcz115_0 := k30 BK102; have hcz115_1 := k31 BK102; have hcz115_2 := k32 BK102; have hfz115_0 := fz BK102 0; have hfz115_1 := fz BK102 1; have hfz115_2 := fz BK102 2))
       refine bodyPost_ret (results_ct rfl _ _ gb102 77 #[.int .i64 t130, .int .i64 t131, .slice Ao114 t132.length co114] (0, 0) _ rfl (by (with_reducible repeat first | apply zN | apply zD | apply zA); refine blk_put (cs := #[.int .i64 t130, .int .i64 t131, .slice none 0 0]) ?_ 2 _ rfl; (with_reducible repeat first | apply zN | apply zD | apply zA); refine blk_put (cs := #[.int .i64 t130, .int .i64 0, .slice none 0 0]) ?_ 1 _ rfl; (with_reducible repeat first | apply zN | apply zD | apply zA); refine blk_put (cs := #[.int .i64 0, .int .i64 0, .slice none 0 0]) ?_ 0 _ rfl; (repeat first | with_reducible apply zN | with_reducible apply zD | with_reducible apply zA | refine blk_far ?_ NB102_136.out _); exact BK102.out) Try.underlying77 rfl (by kernel_rfl)) rfl ?_
       exact ⟨_, eW, by (with_reducible repeat (first | apply Kd.V_alloc | apply Kd.V_drewN | apply Kd.V_drew)); exact Kd.V_mono (vF3 gb102 (vF3 gb136 (Kd.V_mono (Kd.V_mono HO134.out (fun k_ hk => (⟨hk, hk.2⟩ : _ ∧ k_ ≠ gb136))) (fun k_ hk => (⟨hk, hk.1.1.2.2.1⟩ : _ ∧ k_ ≠ gb102))) (fun _ hk => hk.1.2)) (fun _ hk => hk.2)) (fun _ hk => hk.1.1.1.1), pH HB⟩
     ·rw [if_neg c60] at H
      exact absurd H (by simp)
    ·replace c59 := Bool.eq_false_iff.mpr c59
     subst c59
     rw [if_neg (show ¬ (false = true) by decide)] at H
     simp only [Option.some.injEq, Prod.mk.injEq] at H
     obtain ⟨rfl, rfl, rfl, rfl⟩ := H
     go_enter Try.func59, Try.ntmps59
     go_wp2_with (first | ((with_reducible refine gate_dst (N := 2) rfl ?_); refine bE (N := 2) (cs := #[.int .i64 a0_0, .int .i64 a0_1, .slice A0_2 l0_2.length c0_2]) (t := 90) ?_; intro gb101 hg w116 hbox hb; have GW101 := qw HB hg; have GE101 := qw HB hg; have BK101 := aK hbox; replace HB := qs HB hb; clear hb hbox hg) | ((with_reducible refine gate_dst (N := 4) rfl ?_); refine bE (N := 4) (cs := #[.int .i64 0, .int .i64 0, .slice none 0 0]) (t := 77) ?_; intro gb102 hg w117 hbox hb; have GW102 := qw HB hg; have GE102 := qw HB hg; have NB101_102 := ql BK101 hg; have NB102_101 := qg BK101 hg; replace BK101 := qb BK101 hb; have BK102 := aK hbox; replace HB := qs HB hb; clear hb hbox hg; have hnb118 := NB101_102.out; have hnc118 := NB102_101.out; have hcz119_0 := k30 BK101; have hcz119_1 := k31 BK101; have hcz119_2 := k32 BK101; have hfz119_0 := fz BK101 0; have hfz119_1 := fz BK101 1; have hfz119_2 := fz BK101 2; have p121 : 0 ≤ (0 : Int) := (by omega); have q121 : 0 < (l0_2.length : Int) := dA; obtain ⟨ad121, A121_2, c121_2, e121, hx121_0, hx121_1, hx121_2, hl121_2, hi121_2⟩ := at_T90 HR0_2.out 0 p121 q121; cases e121; have qi121 : (0 < l0_2.length) = True := eq_true (by omega); (try rw [show ((0 : Int)).toNat = 0 from rfl] at hx121_0); (try rw [show 0 * 3 = 0 from rfl] at hx121_0); (try rw [Addr.add_zero'] at hx121_0); (try rw [show ((0 : Int)).toNat = 0 from rfl] at hx121_1); (try rw [show 0 * 3 = 0 from rfl] at hx121_1); (try rw [Addr.add_zero'] at hx121_1); (try rw [show ((0 : Int)).toNat = 0 from rfl] at hx121_2); (try rw [show 0 * 3 = 0 from rfl] at hx121_2); (try rw [Addr.add_zero'] at hx121_2); replace hx121_0 := uC HB hx121_0; replace hx121_1 := uC HB hx121_1; replace hx121_2 := uC HB hx121_2; have HR121_2 := aK hi121_2; have HC121_2 := aK hl121_2; clear hi121_2 hl121_2; replace p121 := eq_true p121; replace q121 := eq_true q121) | ((with_reducible refine gate_callee (f := 59) rfl ?_); refine goesL_ (some 75) rfl rfl Try.func59 (by kernel_rfl) rfl #[.agg #[.int .i64 ((rd_T90 l0_2 0).f0), .int .i64 ((rd_T90 l0_2 0).f1), .slice A121_2 ((rd_T90 l0_2 0).f2).length c121_2], .int .i64 a1] rfl tA ?_; (with_reducible refine (ih k (by omega) ((rd_T90 l0_2 0).f0) ((rd_T90 l0_2 0).f1) _ _ ((rd_T90 l0_2 0).f2) a1 t122 t123 t124 false _ ?side1 ?side2 A58.out).mono ?_); (case side1 => exact sC (Kd.C_below HR121_2.out HB.out)); (case side2 => exact HC121_2.out); rintro e w120 ⟨v125, rfl, ho0, hb⟩; refine ⟨_, rfl, ?_⟩; have HO126 := aK (Kd.V_lower (Kd.V_mono (ok' := fun k_ => (w.heap.size ≤ k_) ∧ k_ ≠ gb101 ∧ k_ ≠ gb102) ho0 (fun k_ hk_ => ⟨(Nat.le_trans (below_size HB.out) hk_), (Kd.freshB BK101.out k_ hk_), (Kd.freshB BK102.out k_ hk_)⟩)) (below_size HB.out)); replace BK101 := qb BK101 hb; replace BK102 := qb BK102 hb; replace HB := qs HB hb; (try clear hb); (try clear ho0)) | ((with_reducible refine gate_dst (N := 11) rfl ?_); refine bE (N := 11) (cs := #[.int .i64 0, .int .i64 0, .slice none 0 0]) (t := 77) ?_; intro gb128 hg w121 hbox hb; have GW128 := qw HB hg; have GE128 := qw HB hg; have NB101_128 := ql BK101 hg; have NB128_101 := qg BK101 hg; have NB102_128 := ql BK102 hg; have NB128_102 := qg BK102 hg; replace HO126 := qv HO126 hg hb; replace BK101 := qb BK101 hb; replace BK102 := qb BK102 hb; have BK128 := aK hbox; replace HB := qs HB hb; clear hb hbox hg; have hnb122 := NB128_101.out; have hnc122 := NB101_128.out; have hnb123 := NB128_102.out; have hnc123 := NB102_128.out; have hcz124_0 := k30 BK128; have hcz124_1 := k31 BK128; have hcz124_2 := k32 BK128; have hfz124_0 := fz BK128 0; have hfz124_1 := fz BK128 1; have hfz124_2 := fz BK128 2; obtain ⟨Ao125, co125, eo125⟩ := Kd.V_slice HO126.out; subst eo125; have hcz126_0 := k30 BK102; have hcz126_1 := k31 BK102; have hcz126_2 := k32 BK102; have hfz126_0 := fz BK102 0; have hfz126_1 := fz BK102 1; have hfz126_2 := fz BK102 2))
     refine bodyPost_ret (results_ct rfl _ _ gb102 77 #[.int .i64 t122, .int .i64 t123, .slice Ao125 t124.length co125] (0, 0) _ rfl (by (with_reducible repeat first | apply zN | apply zD | apply zA); refine blk_put (cs := #[.int .i64 t122, .int .i64 t123, .slice none 0 0]) ?_ 2 _ rfl; (with_reducible repeat first | apply zN | apply zD | apply zA); refine blk_put (cs := #[.int .i64 t122, .int .i64 0, .slice none 0 0]) ?_ 1 _ rfl; (with_reducible repeat first | apply zN | apply zD | apply zA); refine blk_put (cs := #[.int .i64 0, .int .i64 0, .slice none 0 0]) ?_ 0 _ rfl; (repeat first | with_reducible apply zN | with_reducible apply zD | with_reducible apply zA | refine blk_far ?_ NB102_128.out _); exact BK102.out) Try.underlying77 rfl (by kernel_rfl)) rfl ?_
     exact ⟨_, eW, by (with_reducible repeat (first | apply Kd.V_alloc | apply Kd.V_drewN | apply Kd.V_drew)); exact Kd.V_mono (vF3 gb102 (vF3 gb128 (Kd.V_mono (Kd.V_mono HO126.out (fun k_ hk => (⟨hk, hk.2⟩ : _ ∧ k_ ≠ gb128))) (fun k_ hk => (⟨hk, hk.1.1.2.2⟩ : _ ∧ k_ ≠ gb102))) (fun _ hk => hk.1.2)) (fun _ hk => hk.2)) (fun _ hk => hk.1.1.1.1), pH HB⟩
   ·rw [if_neg c57] at H
    exact absurd H (by simp)

end Go.Proofs.Ytcjhhdecckcibaa.G

namespace Go.Proofs.Ytcjhhdecckcibaa.G
open Go.RowKit Go.Proofs.YtcjhhdecckcibaaW.PrintWords Go.Proofs.YtcjhhdecckcibaaW.PrintLast Go.Proofs.YtcjhhdecckcibaaW.PrintMore
attribute [local go_sem] max2_int min2_int max_two min_two max_three min_three max_four min_four   -- for this text's walks alone
set_option linter.unusedVariables false
set_option linter.unusedSimpArgs false

mutual
def spec_lcTree.l0 : Nat → List (S62) → List Int → Int → Int → Int → Int → List (S90) → Option (Int × Int × (List (S90)))
 | 0, _, _, _, _, _, _, _ => none
 | k + 1, x0, x21, x22, x23, x105000, x105001, x105002 => if x23 < x22 then (if 0 ≤ x23 then (if x23 < (x21.length : Int) then ((spec_lcTree.f k x0 (rd x21 x23)).bind fun bt109 => (if x105002.length < 3518437208883 then (spec_lcTree.l0 k x0 x21 x22 (wrap64 (x23 + 1)) x105000 x105001 (x105002 ++ [(⟨bt109.1, bt109.2.1, bt109.2.2⟩ : S90)])) else (none))) else (none)) else (none)) else (some (x105000, x105001, x105002))
def spec_lcTree.f : Nat → List (S62) → Int → Option (Int × Int × (List (S90)))
 | 0, _, _ => none
 | k + 1, l0, a1 => if 0 ≤ a1 then (if a1 < (l0.length : Int) then ((spec_lcParts.f k l0 a1).bind fun t105 => (spec_lcTree.l0 k l0 t105 (t105.length : Int) 0 ((rd_T62 l0 a1).f0) ((rd_T62 l0 a1).f1) ([] : List (S90)))) else (none)) else (none)
end
def spec_lcTree.T1 : Bool × List (List Nat × List Nat) := (true, [([], []), ([], []), ([0, 1], [0, 1]), ([2], [2]), ([3], [3]), ([], []), ([], []), ([5, 6], [5, 6]), ([7], [7]), ([8], [8]), ([4, 9], [4, 9]), ([], []), ([11, 10, 0, 1, 2, 3, 4, 5, 6, 7, 8, 9, 10, 11], [10, 11])])
def spec_lcTree.B1 : List Nat := [0, 0, 3, 7, 15, 0, 0, 96, 224, 480, 1023, 0, 4095]
theorem spec_lcTree.tab1 : rtab .any (opsOf Try.f60 1) = spec_lcTree.T1 := by kernel_rfl
theorem spec_lcTree.bits1 : waitsOk spec_lcTree.T1.2 spec_lcTree.B1 = true := by kernel_rfl
def spec_lcTree.T5 : Bool × List (List Nat × List Nat) := (true, [([], []), ([0], [0]), ([], []), ([], []), ([2, 3], [2, 3]), ([4], [4]), ([1, 5, 4], [1, 5]), ([0, 1, 2, 3, 4, 5, 6], []), ([7, 6, 6, 0, 1, 2, 3, 4, 5, 6], [6, 7])])
def spec_lcTree.B5 : List Nat := [0, 1, 0, 0, 12, 28, 63, 127, 255]
theorem spec_lcTree.tab5 : rtab .any (opsOf Try.f60 5) = spec_lcTree.T5 := by kernel_rfl
theorem spec_lcTree.bits5 : waitsOk spec_lcTree.T5.2 spec_lcTree.B5 = true := by kernel_rfl
set_option maxHeartbeats 8000000 in
set_option maxRecDepth 100000 in
theorem spec_lcTree.calls (k : Nat) : ∀ (A0 : Option Addr) (c0 : Nat) (l0 : List (S62)) (a1 : Int) (r1 : Int) (r2 : Int) (r3 : List (S90)) (w : World) (hr0 : Kd.C k62 w A0 l0.length l0) (hc0 : l0.length ≤ c0) (h : spec_lcTree.f k l0 a1 = some (r1, r2, r3)),
  Calls Try.prog 60 #[.slice A0 l0.length c0, .int .i64 a1] w fun e w' => ∃ v2_ : Value, e = .returned (.agg #[.int .i64 r1, .int .i64 r2, v2_]) ∧ Kd.R k90 90 w' w.heap.size (fun _ => True) v2_ r3 ∧ Below w.heap.size w w' := by
 induction k using Nat.strongRecOn with
 | _ k ih =>
 intro A0 c0 l0 a1 r1 r2 r3 w hr0 hc0 h
 cases k with
 | zero => exact absurd h (by simp [spec_lcTree.f])
 | succ k =>
 simp only [spec_lcTree.f] at h
 have hu90 := Try.underlying90
 have HR0 := aK hr0
 have HC0 := aK hc0
 clear hr0 hc0
 have HB := aK (Below.refl w.heap.size w)
 have H : (if 0 ≤ a1 then (if a1 < (l0.length : Int) then ((spec_lcParts.f k l0 a1).bind fun t105 => (spec_lcTree.l0 k l0 t105 (t105.length : Int) 0 ((rd_T62 l0 a1).f0) ((rd_T62 l0 a1).f1) ([] : List (S90)))) else (none)) else (none)) = some (r1, r2, r3) := h
 clear h
 by_cases c3 : 0 ≤ a1
 ·rw [if_pos c3] at H
  have c3b0 : decide (0 ≤ a1) = true := decide_eq_true c3
  clear c3
  by_cases c4 : a1 < (l0.length : Int)
  ·rw [if_pos c4] at H
   have c4b0 : decide (a1 < (l0.length : Int)) = true := decide_eq_true c4
   clear c4
   replace H := Option.bind_eq_some_iff.mp H
   obtain ⟨t105, A50, H⟩ := H
   try dsimp only at H
   have A5 := aK A50
   clear A50
   have H' := aK H
   clear H
   go_enter Try.func60, Try.ntmps60
   try go_wp2_with (first | ((with_reducible refine gate_dst (N := 4) rfl ?_); refine bE (N := 4) (cs := #[.int .i64 0, .int .i64 0, .slice none 0 0]) (t := 90) ?_; intro gb101 hg w6 hbox hb; have GW101 := qw HB hg; have GE101 := qw HB hg; have BK101 := aK hbox; replace HB := qs HB hb; clear hb hbox hg))
   have n0_ := aK (blk_drew BK101.out)
   have n1_ := aK (below_drew1 HB.out)
   clear BK101
   clear HB
   have BK101 := n0_
   have HB := n1_
   clear n0_ n1_
   have p102 : 0 ≤ (a1 : Int) := dA
   have q102 : a1 < (l0.length : Int) := dA
   obtain ⟨ad102, e102, hx102_0, hx102_1, hx102_2⟩ := at_T62 HR0.out a1 p102 q102
   have hw102_2 := hx102_2
   have hw102_1 := hx102_1
   have hw102_0 := hx102_0
   cases e102
   replace hx102_0 := uC HB hx102_0
   replace hx102_1 := uC HB hx102_1
   replace hx102_2 := uC HB hx102_2
   replace p102 := eq_true p102
   replace q102 := eq_true q102
   have p103 : 0 ≤ (a1 : Int) := dA
   have q103 : a1 < (l0.length : Int) := dA
   obtain ⟨ad103, e103, hx103_0, hx103_1, hx103_2⟩ := at_T62 HR0.out a1 p103 q103
   have hw103_2 := hx103_2
   have hw103_1 := hx103_1
   have hw103_0 := hx103_0
   obtain rfl : ad102 = ad103 := (by injection e103)
   replace hx103_0 := uC HB hx103_0
   replace hx103_1 := uC HB hx103_1
   replace hx103_2 := uC HB hx103_2
   replace p103 := eq_true p103
   replace q103 := eq_true q103
   refine start_ (n := 13) (S := fun w' => w'.cell? (ad102.add ((a1).toNat * 3)) = some (.int .i64 ((rd_T62 l0 a1).f0)) ∧ w'.cell? ⟨(ad102.add ((a1).toNat * 3)).block, (ad102.add ((a1).toNat * 3)).off + 1, none⟩ = some (.int .i64 ((rd_T62 l0 a1).f1)) ∧ w'.cell? ⟨(ad102.add ((a1).toNat * 3)).block, (ad102.add ((a1).toNat * 3)).off + 2, none⟩ = some (.int .i64 ((rd_T62 l0 a1).f2)) ∧ w'.cell? (ad102.add ((a1).toNat * 3)) = some (.int .i64 ((rd_T62 l0 a1).f0)) ∧ w'.cell? ⟨(ad102.add ((a1).toNat * 3)).block, (ad102.add ((a1).toNat * 3)).off + 1, none⟩ = some (.int .i64 ((rd_T62 l0 a1).f1)) ∧ w'.cell? ⟨(ad102.add ((a1).toNat * 3)).block, (ad102.add ((a1).toNat * 3)).off + 2, none⟩ = some (.int .i64 ((rd_T62 l0 a1).f2))) (ds := []) (bs 0 13) (by kernel_rfl) rfl rfl ⟨(uC HB hw102_0), (uC HB hw102_1), (uC HB hw102_2), (uC HB hw103_0), (uC HB hw103_1), (uC HB hw103_2)⟩ (fun hHeld => ?_); refine with_tabW spec_lcTree.tab1 spec_lcTree.bits1 (fun HT_ HW_ => ?_)
   generalize w6.drew = w7 at BK101 HB hx102_0 hx102_1 hx102_2 hx103_0 hx103_1 hx103_2 hHeld ⊢
   refine pure_ (i := 0) (N := some 8) (v := ?_) (a' := ?_) (bs 1 12) rfl rfl (any_of HT_.out (by kernel_rfl)) (fun _ _ _ h => h) (Or.inl ⟨by rfl, ?_⟩) ?_ ?_
   rotate_left
   ·intro w'
    go_simp
    with_reducible rfl
   rotate_left
   ·simp only [sP, i64_w, i32_w]
    rfl
   refine pure_ (i := 1) (N := some 9) (v := ?_) (a' := ?_) (bs 2 11) rfl rfl (any_of HT_.out (by kernel_rfl)) (fun _ _ _ h => h) (Or.inl ⟨by rfl, ?_⟩) ?_ ?_
   rotate_left
   ·intro w'
    go_simp
    with_reducible rfl
   rotate_left
   ·simp only [sP, i64_w, i32_w]
    rfl
   refine pure_ (i := 2) (N := some 10) (v := ?_) (a' := ?_) (bs 3 10) rfl rfl (any_of HT_.out (by kernel_rfl)) (fun _ _ _ h => h) (Or.inl ⟨by rfl, ?_⟩) ?_ ?_
   rotate_left
   ·intro w'
    go_simp
    with_reducible rfl
   rotate_left
   ·simp only [sP, i64_w, i32_w]
    rfl
   refine pure_ (i := 3) (N := some 11) (v := ?_) (a' := ?_) (bs 4 9) rfl rfl (any_of HT_.out (by kernel_rfl)) (fun _ _ _ h => h) (Or.inl ⟨by rfl, ?_⟩) ?_ ?_
   rotate_left
   ·intro w'
    go_simp
    with_reducible rfl
   rotate_left
   ·simp only [sP, i64_w, i32_w]
    rfl
   refine pure_ (i := 5) (N := some 13) (v := ?_) (a' := ?_) #[true, true, true, true, false, true, false, false, false, false, false, false, false] rfl rfl (any_of HT_.out (by kernel_rfl)) (fun _ _ _ h => h) (Or.inl ⟨by rfl, ?_⟩) ?_ ?_
   rotate_left
   ·intro w'
    go_simp
    with_reducible rfl
   rotate_left
   ·simp only [sP, i64_w, i32_w]
    rfl
   refine pure_ (i := 6) (N := some 14) (v := ?_) (a' := ?_) #[true, true, true, true, false, true, true, false, false, false, false, false, false] rfl rfl (any_of HT_.out (by kernel_rfl)) (fun _ _ _ h => h) (Or.inl ⟨by rfl, ?_⟩) ?_ ?_
   rotate_left
   ·intro w'
    go_simp
    with_reducible rfl
   rotate_left
   ·simp only [sP, i64_w, i32_w]
    rfl
   refine pure_ (i := 7) (N := some 15) (v := ?_) (a' := ?_) #[true, true, true, true, false, true, true, true, false, false, false, false, false] rfl rfl (any_of HT_.out (by kernel_rfl)) (fun _ _ _ h => h) (Or.inl ⟨by rfl, ?_⟩) ?_ ?_
   rotate_left
   ·intro w'
    go_simp
    with_reducible rfl
   rotate_left
   ·simp only [sP, i64_w, i32_w]
    rfl
   refine pure_ (i := 8) (N := some 16) (v := ?_) (a' := ?_) #[true, true, true, true, false, true, true, true, true, false, false, false, false] rfl rfl (any_of HT_.out (by kernel_rfl)) (fun _ _ _ h => h) (Or.inl ⟨by rfl, ?_⟩) ?_ ?_
   rotate_left
   ·intro w'
    go_simp
    with_reducible rfl
   rotate_left
   ·simp only [sP, i64_w, i32_w]
    rfl
   refine take_ (i := 4) (N := some 12) (v := ?_) (a' := ?_) (bs 9 4) rfl rfl (take_ofW HT_.out HW_.out (by kernel_rfl)) (fun _ _ _ h => h) (Or.inl ⟨by rfl, ?_⟩) hHeld ?_ ?_
   rotate_left
   ·rintro w' ⟨s0, s1, s2, s3, s4, s5⟩
    go_simp
    with_reducible rfl
   rotate_left
   ·simp only [sP, i64_w, i32_w]
    rfl
   refine take_ (i := 9) (N := some 17) (v := ?_) (a' := ?_) (bs 10 3) rfl rfl (take_ofW HT_.out HW_.out (by kernel_rfl)) (fun _ _ _ h => h) (Or.inl ⟨by rfl, ?_⟩) hHeld ?_ ?_
   rotate_left
   ·rintro w' ⟨s0, s1, s2, s3, s4, s5⟩
    go_simp
    with_reducible rfl
   rotate_left
   ·simp only [sP, i64_w, i32_w]
    rfl
   refine pure_ (i := 10) (N := some 18) (v := ?_) (a' := ?_) (bs 11 2) rfl rfl (any_of HT_.out (by kernel_rfl)) (fun _ _ _ h => h) (Or.inl ⟨by rfl, ?_⟩) ?_ ?_
   rotate_left
   ·intro w'
    go_simp
    with_reducible rfl
   rotate_left
   ·simp only [sP, i64_w, i32_w]
    rfl
   refine one_ (i := 11) (N := some 5) (bs 12 1) rfl rfl (one_of HT_.out (by kernel_rfl)) (by decide) (fun K hK => ?_)
   refine box_step ?hg (N := 5) ?hd (cs := #[.int .i64 0, .int .i64 0, .slice none 0 0]) (t := 90) ?hr ?_; (case hd => rfl); (case hg => rfl); (case hr => go_simp)
   intro gb104 hg w8 hbox hb
   have n0_ := aK (blk_below BK101.out hb)
   have n1_ := aK (below_step (pH HB) hb)
   have n2_ := aK (hbox)
   have n3_ := aK ((by rw [hg]; exact (below_size (pH HB)) : w.heap.size ≤ gb104))
   have n4_ := aK ((by rw [hg]; exact (below_size (pH HB)) : w.heap.size ≤ gb104))
   have n5_ := aK ((by rw [hg]; exact Nat.ne_of_lt (blk_lt BK101.out) : gb101 ≠ gb104))
   have n6_ := aK ((by rw [hg]; exact Nat.ne_of_gt (blk_lt BK101.out) : gb104 ≠ gb101))
   clear BK101
   clear HB
   have BK101 := n0_
   have HB := n1_
   have BK104 := n2_
   have GW104 := n3_
   have GE104 := n4_
   have NB101_104 := n5_
   have NB104_101 := n6_
   clear n0_ n1_ n2_ n3_ n4_ n5_ n6_
   clear hb hbox hg
   refine hK.out _ _ ⟨(uC HB hw102_0), (uC HB hw102_1), (uC HB hw102_2), (uC HB hw103_0), (uC HB hw103_1), (uC HB hw103_2)⟩ (fun hHeld => ?_)
   clear hK K
   refine norm_ (a' := ?_) ?_ ?_
   rotate_left
   ·show Act.put _ (some 5) _ = _
    simp only [sP, i64_w, i32_w]
    rfl
   refine one_ (i := 12) (N := none) (bs 13 0) rfl rfl (one_of HT_.out (by kernel_rfl)) (by decide) (fun K hK => ?_)
   have hs9 : w8.cell? ⟨gb104, 0, none⟩ = some (.int .i64 0) := (blk_cell BK104.out 0).trans rfl
   have hfs9 := blk_frozen BK104.out 0
   have hns9_0 := NB101_104.out
   have hms9_0 := NB104_101.out
   have hs10 : w8.cell? ⟨gb104, 1, none⟩ = some (.int .i64 0) := (blk_cell BK104.out 1).trans rfl
   have hfs10 := blk_frozen BK104.out 1
   have hns10_0 := NB101_104.out
   have hms10_0 := NB104_101.out
   have hs11 : w8.cell? ⟨gb104, 2, none⟩ = some (.slice none 0 0) := (blk_cell BK104.out 2).trans rfl
   have hfs11 := blk_frozen BK104.out 2
   have hns11_0 := NB101_104.out
   have hms11_0 := NB104_101.out
   refine skip_ (w1 := ?_) (by rfl) rfl ?_ ?_
   rotate_left
   ·go_simp
    rfl
   refine hK.out _ _ ⟨((cell_far (p := ⟨gb104, _, none⟩) (nG hw102_0 GW104) _).trans (((cell_far (p := ⟨gb104, _, none⟩) (nG hw102_0 GW104) _).trans (((cell_far (p := ⟨gb104, _, none⟩) (nG hw102_0 GW104) _).trans (hHeld.1)))))), ((cell_far (p := ⟨gb104, _, none⟩) (nG hw102_1 GW104) _).trans (((cell_far (p := ⟨gb104, _, none⟩) (nG hw102_1 GW104) _).trans (((cell_far (p := ⟨gb104, _, none⟩) (nG hw102_1 GW104) _).trans (hHeld.2.1)))))), ((cell_far (p := ⟨gb104, _, none⟩) (nG hw102_2 GW104) _).trans (((cell_far (p := ⟨gb104, _, none⟩) (nG hw102_2 GW104) _).trans (((cell_far (p := ⟨gb104, _, none⟩) (nG hw102_2 GW104) _).trans (hHeld.2.2.1)))))), ((cell_far (p := ⟨gb104, _, none⟩) (nG hw103_0 GW104) _).trans (((cell_far (p := ⟨gb104, _, none⟩) (nG hw103_0 GW104) _).trans (((cell_far (p := ⟨gb104, _, none⟩) (nG hw103_0 GW104) _).trans (hHeld.2.2.2.1)))))), ((cell_far (p := ⟨gb104, _, none⟩) (nG hw103_1 GW104) _).trans (((cell_far (p := ⟨gb104, _, none⟩) (nG hw103_1 GW104) _).trans (((cell_far (p := ⟨gb104, _, none⟩) (nG hw103_1 GW104) _).trans (hHeld.2.2.2.2.1)))))), ((cell_far (p := ⟨gb104, _, none⟩) (nG hw103_2 GW104) _).trans (((cell_far (p := ⟨gb104, _, none⟩) (nG hw103_2 GW104) _).trans (((cell_far (p := ⟨gb104, _, none⟩) (nG hw103_2 GW104) _).trans (hHeld.2.2.2.2.2))))))⟩ (fun hHeld => ?_)
   clear hK K
   refine done_ (done_of HT_.out (by kernel_rfl)) ?_
   try go_wp2_with (first | ((with_reducible refine gate_callee (f := 44) rfl ?_); refine goesL_ (some 21) rfl rfl Try.func44 (by kernel_rfl) rfl #[.slice (some ad102) l0.length c0, .int .i64 a1] rfl tA ?_; (with_reducible refine (spec_lcParts.calls k _ _ l0 a1 t105 _ ?side1 ?side2 A5.out).mono ?_); (case side1 => exact Kd.C_below HR0.out (pH HB)); (case side2 => exact HC0.out); rintro e w12 ⟨v106, rfl, ho0, hb⟩; refine ⟨_, rfl, ?_⟩; have n0_ := aK (Kd.R_lower ho0 (below_size (pH HB))); have n1_ := aK (blk_below (g := gb101) (o := .cells #[.int .i64 0, .int .i64 0, .slice none 0 0] 90 (0, 0)) (by (repeat first | with_reducible apply zN | with_reducible apply zD | with_reducible apply zA | refine blk_far ?_ NB101_104.out _); exact BK101.out) hb); have n2_ := aK (blk_below (g := gb104) (o := .cells #[.int .i64 ((rd_T62 l0 a1).f0), .int .i64 ((rd_T62 l0 a1).f1), .slice none 0 0] 90 (0, 0)) (p3 BK104) hb); have n3_ := aK (below_step (pH HB) hb); clear BK101; clear BK104; clear HB; have HO107 := n0_; have BK101 := n1_; have BK104 := n2_; have HB := n3_; clear n0_ n1_ n2_ n3_; (try clear hb); (try clear ho0); obtain ⟨Ao13, co13, eo13⟩ := Kd.R_slice HO107.out; subst eo13))
   go_loopg [23] k (fun kq v23 w' => ∃ (x23_1 : Int) (x105002_1 : List (S90)) (u105002 : Value), v23 = .int .i64 x23_1 ∧ Aside0 (spec_lcTree.l0 kq l0 t105 (t105.length : Int) x23_1 ((rd_T62 l0 a1).f0) ((rd_T62 l0 a1).f1) x105002_1 = some (r1, r2, r3)) ∧ Aside0 (kq ≤ k) ∧ Aside0 (Kd.R (Kd.int .i64) 3 w' w.heap.size (fun _ => True) (.slice Ao13 t105.length co13) t105) ∧ Aside0 (Kd.R k90 90 w' w.heap.size (fun k_ => k_ ≠ gb101 ∧ k_ ≠ gb104) u105002 x105002_1) ∧ Aside0 (w'.heap[gb101]? = some (.cells #[.int .i64 0, .int .i64 0, (.slice none 0 0)] 90 (0, 0))) ∧ Aside0 (w'.heap[gb104]? = some (.cells #[.int .i64 ((rd_T62 l0 a1).f0), .int .i64 ((rd_T62 l0 a1).f1), u105002] 90 (0, 0))) ∧ Aside0 (Below w.heap.size w w'))
   case atStart => exact ⟨(0), (([] : List (S90))), (.slice none 0 0), rS, H', ⟨Nat.le_refl _⟩, ⟨by (with_reducible repeat (first | apply Kd.R_alloc | apply Kd.R_drewN | apply Kd.R_drew)); exact HO107.out⟩, ⟨by first | exact Kd.R_nil _ _ _ _ _ | exact Kd.N_nil _ _ _ _ _ | exact Kd.V_nil _ _ _ _ _ | exact Kd.Q_nil _ _ _ _ _ | exact Kd.S_nil _ _ _ _ _⟩, ⟨pB BK101⟩, ⟨pB BK104⟩, ⟨pH HB⟩⟩
   case round =>
    clear H'
    try clear p1
    try clear q1
    try clear hx1
    try clear p2
    try clear c3
    try clear c3b0
    try clear c4
    try clear c4b0
    try clear c6
    try clear p10
    try clear q10
    try clear hx10
    try clear hx102_0
    try clear hx102_1
    try clear hx102_2
    try clear hx103_0
    try clear hx103_1
    try clear hx103_2
    try clear p102
    try clear p103
    try clear q102
    try clear q103
    obtain ⟨x23_1, x105002_1, u105002, rfl, HA, HK1, HO_21, HO_105002, BK101, BK104, HB⟩ := hrel
    cases gk with
    | zero => exact absurd HA.out (by simp [spec_lcTree.l0])
    | succ k1 =>
     have H := HA.out
     clear HA
     simp only [spec_lcTree.l0] at H
     by_cases c14 : x23_1 < (t105.length : Int)
     ·rw [if_pos c14] at H
      have c14b0 : decide (x23_1 < (t105.length : Int)) = true := decide_eq_true c14
      clear c14
      by_cases c15 : 0 ≤ x23_1
      ·rw [if_pos c15] at H
       have c15b0 : decide (0 ≤ x23_1) = true := decide_eq_true c15
       clear c15
       by_cases c16 : x23_1 < (t105.length : Int)
       ·rw [if_pos c16] at H
        have c16b0 : decide (x23_1 < (t105.length : Int)) = true := decide_eq_true c16
        clear c16
        replace H := Option.bind_eq_some_iff.mp H
        obtain ⟨⟨t109, t110, t111⟩, A170, H⟩ := H
        try dsimp only at H
        have A17 := aK A170
        clear A170
        by_cases c18 : x105002_1.length < 3518437208883
        ·rw [if_pos c18] at H
         have LMc18 := aK c18
         clear c18
         obtain ⟨y114, hy114⟩ : ∃ y_ : List (S90), y_ = (x105002_1 ++ [(⟨t109, t110, t111⟩ : S90)]) := ⟨_, rfl⟩
         replace H : (spec_lcTree.l0 k1 l0 t105 (t105.length : Int) (wrap64 (x23_1 + 1)) ((rd_T62 l0 a1).f0) ((rd_T62 l0 a1).f1) y114) = some (r1, r2, r3) := by first | (rw [hy114]; with_reducible exact H) | (have H2_ := (Option.bind_some _ _).symm.trans H; rw [hy114]; with_reducible exact H2_) | (have H2_ := (Option.bind_some _ _).symm.trans H; with_reducible exact H2_) | with_reducible exact H | (rw [hy114]; exact H) | exact H
         have Ny114 := aK hy114
         clear hy114
         have H' := aK H
         clear H
         have p108 : 0 ≤ (x23_1 : Int) := dA
         have q108 : x23_1 < (t105.length : Int) := dA
         obtain ⟨ad108, e108, hx108_0⟩ := Kd.at_int (Kd.R_reads' HO_21.out).2.2 x23_1 p108 q108
         cases e108
         replace p108 := eq_true p108
         replace q108 := eq_true q108
         try go_wp2
         have n0_ := aK (Kd.R_drew HO_21.out)
         have n1_ := aK (Kd.R_drew HO_105002.out)
         have n2_ := aK (blk_drew BK101.out)
         have n3_ := aK (blk_drew BK104.out)
         have n4_ := aK (below_drew1 HB.out)
         clear HO_21
         clear HO_105002
         clear BK101
         clear BK104
         clear HB
         have HO_21 := n0_
         have HO_105002 := n1_
         have BK101 := n2_
         have BK104 := n3_
         have HB := n4_
         clear n0_ n1_ n2_ n3_ n4_
         refine start_ (n := 9) (S := fun w' => w'.cell? ⟨gb104, 0, none⟩ = some (.int .i64 ((rd_T62 l0 a1).f0)) ∧ w'.cell? ⟨gb104, 1, none⟩ = some (.int .i64 ((rd_T62 l0 a1).f1)) ∧ w'.cell? ⟨gb104, 2, none⟩ = some (u105002)) (ds := [8]) (bs 0 9) (by kernel_rfl) rfl rfl ⟨(blk_cell BK104.out 0).trans rfl, (blk_cell BK104.out 1).trans rfl, (blk_cell BK104.out 2).trans rfl⟩ (fun hHeld => ?_); refine with_tabW spec_lcTree.tab5 spec_lcTree.bits5 (fun HT_ HW_ => ?_)
         generalize wr.drew = w19 at HO_21 HO_105002 BK101 BK104 HB hHeld ⊢
         refine pure_ (i := 0) (N := some 27) (v := ?_) (a' := ?_) (bs 1 8) rfl rfl (any_of HT_.out (by kernel_rfl)) (fun _ _ _ h => h) (Or.inl ⟨by rfl, ?_⟩) ?_ ?_
         rotate_left
         ·intro w'
          go_simp
          with_reducible rfl
         rotate_left
         ·simp only [sP, i64_w, i32_w]
          rfl
         refine pure_ (i := 2) (N := some 29) (v := ?_) (a' := ?_) #[true, false, true, false, false, false, false, false, false] rfl rfl (any_of HT_.out (by kernel_rfl)) (fun _ _ _ h => h) (Or.inl ⟨by rfl, ?_⟩) ?_ ?_
         rotate_left
         ·intro w'
          go_simp
          with_reducible rfl
         rotate_left
         ·simp only [sP, i64_w, i32_w]
          rfl
         refine pure_ (i := 3) (N := some 30) (v := ?_) (a' := ?_) #[true, false, true, true, false, false, false, false, false] rfl rfl (any_of HT_.out (by kernel_rfl)) (fun _ _ _ h => h) (Or.inl ⟨by rfl, ?_⟩) ?_ ?_
         rotate_left
         ·intro w'
          go_simp
          with_reducible rfl
         rotate_left
         ·simp only [sP, i64_w, i32_w]
          rfl
         refine take_ (i := 1) (N := some 28) (v := ?_) (a' := ?_) (bs 4 5) rfl rfl (take_ofW HT_.out HW_.out (by kernel_rfl)) (fun _ _ _ h => h) (Or.inl ⟨by rfl, ?_⟩) hHeld ?_ ?_
         rotate_left
         ·rintro w' ⟨s0, s1, s2⟩
          go_simp
          with_reducible rfl
         rotate_left
         ·simp only [sP, i64_w, i32_w]
          rfl
         refine one_ (i := 4) (N := some 31) (bs 5 4) rfl rfl (one_of HT_.out (by kernel_rfl)) (by decide) (fun K hK => ?_)
         refine goes_ Try.func60 (by kernel_rfl) rfl #[.slice (some ad102) l0.length c0, .int .i64 (rd t105 x23_1)] (by rfl) rfl rfl tA ?_
         with_reducible refine (ih k1 (by have := HK1.out; omega) _ _ l0 (rd t105 x23_1) t109 t110 t111 _ ?side1 ?side2 A17.out).mono ?_
         (case side1 => exact sC (Kd.C_below HR0.out HB.out))
         (case side2 => exact HC0.out)
         rintro e w20 ⟨v112, rfl, ho0, hb⟩
         refine ⟨_, rfl, ?_⟩
         have n0_ := aK (Kd.R_below HO_21.out hb)
         have n1_ := aK (Kd.R_elder' HO_105002.out (Kd.R_base ho0) hb)
         have n2_ := aK (Kd.R_lower (Kd.R_newB (Kd.R_newB (Kd.R_new' ho0 (Kd.R_lt HO_105002.out)) BK101.out) BK104.out) (below_size (pH HB)))
         have n3_ := aK (blk_below BK101.out hb)
         have n4_ := aK (blk_below BK104.out hb)
         have n5_ := aK (below_step (pH HB) hb)
         clear HO_21
         clear HO_105002
         clear BK101
         clear BK104
         clear HB
         have HO_21 := n0_
         have HO_105002 := n1_
         have HO113 := n2_
         have BK101 := n3_
         have BK104 := n4_
         have HB := n5_
         clear n0_ n1_ n2_ n3_ n4_ n5_
         (try clear hb)
         (try clear hb2)
         (try clear hk)
         (try clear hi)
         (try clear ho0)
         obtain ⟨Ao22, co22, eo22⟩ := Kd.R_slice HO113.out
         (first | subst eo22 | (injection eo22 with f1_ f2_ f3_; have f4_ := f1_.symm; have f5_ := f3_.symm; clear f1_ f2_ f3_; subst f4_; subst f5_))
         refine hK.out _ _ ⟨(blk_cell BK104.out 0).trans rfl, (blk_cell BK104.out 1).trans rfl, (blk_cell BK104.out 2).trans rfl⟩ (fun hHeld => ?_)
         clear hK K
         refine norm_ (a' := ?_) ?_ ?_
         rotate_left
         ·show Act.put _ (some 31) _ = _
          simp only [sP, i64_w, i32_w]
          rfl
         refine one_ (i := 5) (N := some 32) (bs 6 3) rfl rfl (one_of HT_.out (by kernel_rfl)) (by decide) (fun K hK => ?_)
         refine value_ (w1 := ?_) (v := ?_) (by rfl) rfl ?_ ?_
         rotate_left 2
         ·go_simp
          constructor
          ·rfl
          ·rfl
         refine hK.out _ _ ⟨(blk_cell (blk_alloc BK104.out _) 0).trans rfl, (blk_cell (blk_alloc BK104.out _) 1).trans rfl, (blk_cell (blk_alloc BK104.out _) 2).trans rfl⟩ (fun hHeld => ?_)
         clear hK K
         refine norm_ (a' := ?_) ?_ ?_
         rotate_left
         ·show Act.put _ (some 32) _ = _
          simp only [sP, i64_w, i32_w]
          rfl
         refine one_ (i := 6) (N := some 33) (bs 7 2) rfl rfl (one_of HT_.out (by kernel_rfl)) (by decide) (fun K hK => ?_)
         refine Kd.R_append_step k90 (w0 := w) w.heap.size (by rfl) (.tmp 28) (.tmp 32) 88 90 (.agg #[(.int .i64 0), (.int .i64 0), (.slice none 0 0)]) 40 rfl Try.underlying88 info90 rfl (by decide) (by omega) u105002 x105002_1 (⟨t109, t110, t111⟩ : S90) [.int .i64 t109, .int .i64 t110, .slice Ao22 t111.length co22] (fun k_ => k_ ≠ gb101 ∧ k_ ≠ gb104) (fun k_ => ((fun k_ => k_ ≠ gb101 ∧ k_ ≠ gb104)) k_ ∧ some k_ ≠ (u105002 : Value).ownBlock) rfl rfl ?aP (fun _ hk => hk) ?aF ?aO ?aB ?aS ?aL ?_
         (case aP => exact k90_mkM _ _ _ (⟨t109, t110, t111⟩ : S90) (Kd.R_mono (HO113.out) (fun k_ hk => ⟨⟨hk.1.2, hk.2⟩, hk.1.1.2⟩)))
         (case aB => exact (pH HB))
         (case aF => exact (fun k_ hk => ⟨Kd.freshB BK101.out k_ hk, Kd.freshB BK104.out k_ hk⟩))
         (case aO => exact (by (with_reducible repeat (first | apply Kd.R_alloc | apply Kd.R_drewN | apply Kd.R_drew)); exact Kd.R_mono HO_105002.out (fun _ hk => ⟨hk.1.1, hk.1.2⟩)))
         (case aS => exact (below_size (pH HB)))
         (case aL => have := LMc18.out; omega)
         intro v115 w21 ho hb hg hat
         rw [← Ny114.out] at ho
         have n0_ := aK (Kd.R_over' HO_21.out (Kd.R_typed HO_105002.out) (by decide) hg)
         have n1_ := aK (blk_grown BK101.out hg (Kd.R_away HO_105002.out (fun _ hk => hk.1.1)))
         have n2_ := aK (blk_grown BK104.out hg (Kd.R_away HO_105002.out (fun _ hk => hk.1.2)))
         have n3_ := aK (hb)
         have n4_ := aK (ho)
         clear HO_21
         clear BK101
         clear BK104
         clear HB
         clear HO_105002
         clear HO113
         have HO_21 := n0_
         have BK101 := n1_
         have BK104 := n2_
         have HB := n3_
         have HO116 := n4_
         clear n0_ n1_ n2_ n3_ n4_
         clear ho hb hg hat
         obtain ⟨Ao23, co23, eo23⟩ := Kd.R_slice HO116.out
         (first | subst eo23 | (injection eo23 with f1_ f2_ f3_; have f4_ := f1_.symm; have f5_ := f3_.symm; clear f1_ f2_ f3_; subst f4_; subst f5_))
         refine hK.out _ _ ⟨(blk_cell BK104.out 0).trans rfl, (blk_cell BK104.out 1).trans rfl, (blk_cell BK104.out 2).trans rfl⟩ (fun hHeld => ?_)
         clear hK K
         refine norm_ (a' := ?_) ?_ ?_
         rotate_left
         ·show Act.put _ (some 33) _ = _
          simp only [sP, i64_w, i32_w]
          rfl
         refine pure_ (i := 7) (N := some 34) (v := ?_) (a' := ?_) (bs 8 1) rfl rfl (any_of HT_.out (by kernel_rfl)) (fun _ _ _ h => h) (Or.inl ⟨by rfl, ?_⟩) ?_ ?_
         rotate_left
         ·intro w'
          go_simp
          with_reducible rfl
         rotate_left
         ·simp only [sP, i64_w, i32_w]
          rfl
         refine last_ (i := 8) (N := none) (bs 9 0) rfl rfl (one_of HT_.out (by kernel_rfl)) (by decide) (fun K hK => ?_)
         have hs24 : w21.cell? ⟨gb104, 2, none⟩ = some (u105002) := (blk_cell BK104.out 2).trans rfl
         have hfs24 := blk_frozen BK104.out 2
         have hns24_0 := NB101_104.out
         have hms24_0 := NB104_101.out
         refine skip_ (w1 := ?_) (by rfl) rfl ?_ ?_
         rotate_left
         ·go_simp
          rfl
         refine hK.out _ _ ?_
         clear hK K
         refine done_ (done_of HT_.out (by kernel_rfl)) ?_
         try go_wp2
         go_roundg k1
         case measure => have := HK1.out; omega
         case rel => exact ⟨(wrap64 (x23_1 + 1)), (y114), (.slice Ao23 y114.length co23), rS, H', ⟨by have := HK1.out; omega⟩, ⟨by (with_reducible repeat (first | apply Kd.R_alloc | apply Kd.R_drewN | apply Kd.R_drew)); exact Kd.R_mono (Kd.R_far (p := ⟨gb104, 2, none⟩) (Kd.R_types HO_21.out BK104.out (by decide)) (fun _ hk => hk.2) (.slice Ao23 y114.length co23)) (fun _ hk => trivial)⟩, ⟨by (with_reducible repeat (first | apply Kd.R_alloc | apply Kd.R_drewN | apply Kd.R_drew)); exact Kd.R_mono (Kd.R_far (p := ⟨gb104, 2, none⟩) (Kd.R_mono HO116.out (fun k_ hk => (⟨hk, hk.2⟩ : _ ∧ k_ ≠ gb104))) (fun _ hk => hk.2) (.slice Ao23 y114.length co23)) (fun _ hk => ⟨hk.1.1, hk.1.2⟩)⟩, ⟨by (repeat first | with_reducible apply zN | with_reducible apply zD | with_reducible apply zA | refine blk_far ?_ NB101_104.out _); exact BK101.out⟩, ⟨by (with_reducible repeat first | apply zN | apply zD | apply zA); refine blk_put (cs := #[.int .i64 ((rd_T62 l0 a1).f0), .int .i64 ((rd_T62 l0 a1).f1), u105002]) ?_ 2 _ rfl; (with_reducible repeat first | apply zN | apply zD | apply zA); exact BK104.out⟩, ⟨pH HB⟩⟩
        ·rw [if_neg c18] at H
         exact absurd H (by simp)
       ·rw [if_neg c16] at H
        exact absurd H (by simp)
      ·rw [if_neg c15] at H
       exact absurd H (by simp)
     ·rw [if_neg c14] at H
      have c14b0 : decide (x23_1 < (t105.length : Int)) = false := decide_eq_false c14
      clear c14
      simp only [Option.some.injEq, Prod.mk.injEq] at H
      obtain ⟨rfl, rfl, rfl⟩ := H
      have hnb25 := NB104_101.out
      have hnc25 := NB101_104.out
      have hcz26_0 := k30 BK104
      have hcz26_1 := k31 BK104
      have hcz26_2 := k32 BK104
      have hfz26_0 := fz BK104 0
      have hfz26_1 := fz BK104 1
      have hfz26_2 := fz BK104 2
      have hcz27_0 := k30 BK101
      have hcz27_1 := k31 BK101
      have hcz27_2 := k32 BK101
      have hfz27_0 := fz BK101 0
      have hfz27_1 := fz BK101 1
      have hfz27_2 := fz BK101 2
      obtain ⟨Ao28, co28, eo28⟩ := Kd.R_slice HO_105002.out
      subst eo28
      go_wp2
      refine bodyPost_ret (results_cell_row rfl _ _ gb101 90 #[.int .i64 ((rd_T62 l0 a1).f0), .int .i64 ((rd_T62 l0 a1).f1), .slice Ao28 x105002_1.length co28] (0, 0) _ rfl (p3 BK101) Try.underlying90 rfl (by kernel_rfl)) rfl ?_
      exact ⟨_, eW, by (with_reducible repeat (first | apply Kd.R_alloc | apply Kd.R_drewN | apply Kd.R_drew)); exact Kd.R_mono (Kd.R_far (p := ⟨gb101, 2, none⟩) (Kd.R_far (p := ⟨gb101, 1, none⟩) (Kd.R_far (p := ⟨gb101, 0, none⟩) (Kd.R_mono HO_105002.out (fun k_ hk => (⟨hk, hk.1⟩ : _ ∧ k_ ≠ gb101))) (fun _ hk => hk.2) (.int .i64 ((rd_T62 l0 a1).f0))) (fun _ hk => hk.2) (.int .i64 ((rd_T62 l0 a1).f1))) (fun _ hk => hk.2) (.slice Ao28 x105002_1.length co28)) (fun _ hk => trivial), pH HB⟩
  ·rw [if_neg c4] at H
   exact absurd H (by simp)
 ·rw [if_neg c3] at H
  exact absurd H (by simp)

end Go.Proofs.Ytcjhhdecckcibaa.G

namespace Go.Proofs.Ytcjhhdecckcibaa.G
open Go.RowKit Go.Proofs.YtcjhhdecckcibaaW.PrintWords Go.Proofs.YtcjhhdecckcibaaW.PrintLast Go.Proofs.YtcjhhdecckcibaaW.PrintMore
attribute [local go_sem] max2_int min2_int max_two min_two max_three min_three max_four min_four   -- for this text's walks alone
set_option linter.unusedVariables false
set_option linter.unusedSimpArgs false

def spec_CombOfTerm.f (k : Nat) (l0 : List (S62)) : Option ((List (S52)) × Bool) := (spec_GoodTerm.f k l0).bind fun t101 => (if t101 = true then ((spec_lcTree.f k l0 0).bind fun bt102 => ((spec_ldOf.f k bt102.1 bt102.2.1 bt102.2.2 0).bind fun bt107 => (if bt107.2.2.2 = true then ((spec_ldTold.f k bt107.1 bt107.2.1 bt107.2.2.1).bind fun bt114 => (some (bt114.1, bt114.2))) else (some (([] : List (S52)), false))))) else (some (([] : List (S52)), false)))
set_option maxHeartbeats 8000000 in
set_option maxRecDepth 100000 in
theorem spec_CombOfTerm.calls (k : Nat) (A0 : Option Addr) (c0 : Nat) (l0 : List (S62)) (r1 : List (S52)) (r2 : Bool) (w : World) (hr0 : Kd.C k62 w A0 l0.length l0) (hc0 : l0.length ≤ c0) (h : spec_CombOfTerm.f k l0 = some (r1, r2)) :
  Calls Try.prog 35 #[.slice A0 l0.length c0] w fun e w' => ∃ v0_ : Value, e = .returned (.tuple #[v0_, .bool r2]) ∧ Kd.R k52 52 w' w.heap.size (fun _ => True) v0_ r1 ∧ Below w.heap.size w w' := by
 have hu77 := Try.underlying77
 have HR0 := aK hr0
 have HC0 := aK hc0
 clear hr0 hc0
 have HB := aK (Below.refl w.heap.size w)
 have H : ((spec_GoodTerm.f k l0).bind fun t101 => (if t101 = true then ((spec_lcTree.f k l0 0).bind fun bt102 => ((spec_ldOf.f k bt102.1 bt102.2.1 bt102.2.2 0).bind fun bt107 => (if bt107.2.2.2 = true then ((spec_ldTold.f k bt107.1 bt107.2.1 bt107.2.2.1).bind fun bt114 => (some (bt114.1, bt114.2))) else (some (([] : List (S52)), false))))) else (some (([] : List (S52)), false)))) = some (r1, r2) := h
 clear h
 replace H := Option.bind_eq_some_iff.mp H
 obtain ⟨t101, A20, H⟩ := H
 try dsimp only at H
 have A2 := aK A20
 clear A20
 by_cases c3 : t101 = true
 ·subst c3
  rw [if_pos rfl] at H
  replace H := Option.bind_eq_some_iff.mp H
  obtain ⟨⟨t102, t103, t104⟩, A40, H⟩ := H
  try dsimp only at H
  have A4 := aK A40
  clear A40
  replace H := Option.bind_eq_some_iff.mp H
  obtain ⟨⟨t107, t108, t109, t112⟩, A50, H⟩ := H
  try dsimp only at H
  have A5 := aK A50
  clear A50
  by_cases c6 : t112 = true
  ·subst c6
   rw [if_pos rfl] at H
   replace H := Option.bind_eq_some_iff.mp H
   obtain ⟨⟨t114, t117⟩, A70, H⟩ := H
   try dsimp only at H
   have A7 := aK A70
   clear A70
   simp only [Option.some.injEq, Prod.mk.injEq] at H
   obtain ⟨rfl, rfl⟩ := H
   go_enter Try.func35, Try.ntmps35
   go_wp2_with (first | ((with_reducible refine gate_callee (f := 17) rfl ?_); refine goesL_ (some 7) rfl rfl Try.func17 (by kernel_rfl) rfl #[.slice A0 l0.length c0] rfl tA ?_; (with_reducible refine (spec_GoodTerm.calls k _ _ l0 true _ ?side1 ?side2 A2.out).mono ?_); (case side1 => exact sC HR0.out); (case side2 => exact HC0.out); rintro e w8 ⟨rfl, hb⟩; refine ⟨_, rfl, ?_⟩; replace HB := qs HB hb; (try clear hb)) | ((with_reducible refine gate_callee (f := 60) rfl ?_); refine goesL_ (some 11) rfl rfl Try.func60 (by kernel_rfl) rfl #[.slice A0 l0.length c0, .int .i64 0] rfl tA ?_; (with_reducible refine (spec_lcTree.calls k _ _ l0 0 t102 t103 t104 _ ?side1 ?side2 A4.out).mono ?_); (case side1 => exact sC (Kd.C_below HR0.out HB.out)); (case side2 => exact HC0.out); rintro e w9 ⟨v105, rfl, ho0, hb⟩; refine ⟨_, rfl, ?_⟩; have HO106 := aK (Kd.R_lower ho0 (below_size HB.out)); replace HB := qs HB hb; (try clear hb); (try clear ho0); obtain ⟨Ao10, co10, eo10⟩ := Kd.R_slice HO106.out; subst eo10) | ((with_reducible refine gate_callee (f := 59) rfl ?_); refine goesL_ (some 12) rfl rfl Try.func59 (by kernel_rfl) rfl #[.agg #[.int .i64 t102, .int .i64 t103, .slice Ao10 t104.length co10], .int .i64 0] rfl tA ?_; (with_reducible refine (spec_ldOf.calls k t102 t103 _ _ t104 0 t107 t108 t109 true _ ?side1 ?side2 A5.out).mono ?_); (case side1 => exact sC ((Kd.R_reads' HO106.out).2.2)); (case side2 => exact (Kd.R_reads' HO106.out).2.1); rintro e w11 ⟨v110, rfl, ho0, hb⟩; refine ⟨_, rfl, ?_⟩; have n0_ := aK (Kd.R_below HO106.out hb); have HO111 := aK (Kd.V_lower (Kd.V_mono (ok' := fun k_ => some k_ ≠ (.slice Ao10 t104.length co10 : Value).ownBlock) ho0 (fun k_ hk_ => (Kd.fresh' (Kd.R_lt HO106.out) k_ hk_))) (below_size HB.out)); clear HO106; have HO106 := n0_; clear n0_; replace HB := qs HB hb; (try clear hb); (try clear ho0)) | ((with_reducible refine gate_dst (N := 4) rfl ?_); refine bE (N := 4) (cs := #[.int .i64 0, .int .i64 0, .slice none 0 0]) (t := 77) ?_; intro gb113 hg w12 hbox hb; have n0_ := aK (Kd.R_below HO106.out hb); have GW113 := qw HB hg; have GE113 := qw HB hg; replace HO111 := qv HO111 hg hb; have BK113 := aK hbox; clear HO106; have HO106 := n0_; clear n0_; replace HB := qs HB hb; clear hb hbox hg; have hcz13_0 := k30 BK113; have hcz13_1 := k31 BK113; have hcz13_2 := k32 BK113; have hfz13_0 := fz BK113 0; have hfz13_1 := fz BK113 1; have hfz13_2 := fz BK113 2; obtain ⟨Ao14, co14, eo14⟩ := Kd.V_slice HO111.out; subst eo14) | ((with_reducible refine gate_callee (f := 50) rfl ?_); refine goesL_ (some 18) rfl rfl Try.func50 (by kernel_rfl) rfl #[.agg #[.int .i64 t107, .int .i64 t108, .slice Ao14 t109.length co14]] rfl tA ?_; (with_reducible refine (spec_ldTold.calls k t107 t108 _ _ t109 t114 t117 _ ?side1 ?side2 A7.out).mono ?_); (case side1 => refine (Kd.V_reads' (e := 77) (base := w.heap.size) (ok := fun k_ => (some k_ ≠ (.slice Ao10 t104.length co10 : Value).ownBlock ∧ k_ ≠ gb113)) (n := t109.length) (c := co14) ?_).2.2; exact (by (with_reducible repeat (first | apply Kd.V_alloc | apply Kd.V_drewN | apply Kd.V_drew)); exact (Kd.V_mono (vF3 gb113 (Kd.V_mono HO111.out (fun k_ hk => (⟨hk, hk.2⟩ : _ ∧ k_ ≠ gb113))) (fun _ hk => hk.2)) (fun _ h_ => h_.1)))); (case side2 => exact (Kd.V_reads' HO111.out).2.1); rintro e w15 ⟨v115, rfl, ho0, hb⟩; refine ⟨_, rfl, ?_⟩; have n0_ := aK (Kd.R_below (by (with_reducible repeat (first | apply Kd.R_alloc | apply Kd.R_drewN | apply Kd.R_drew)); exact (Kd.R_mono (Kd.R_far (p := ⟨gb113, 2, none⟩) (Kd.R_far (p := ⟨gb113, 1, none⟩) (Kd.R_far (p := ⟨gb113, 0, none⟩) (Kd.R_types HO106.out BK113.out (by decide)) (fun _ hk => hk.2) (.int .i64 t107)) (fun _ hk => hk.2) (.int .i64 t108)) (fun _ hk => hk.2) (.slice Ao14 t109.length co14)) (fun _ h_ => h_.1))) hb); have n1_ := aK (Kd.V_elder' (by (with_reducible repeat (first | apply Kd.V_alloc | apply Kd.V_drewN | apply Kd.V_drew)); exact (Kd.V_mono (vF3 gb113 (Kd.V_mono HO111.out (fun k_ hk => (⟨hk, hk.2⟩ : _ ∧ k_ ≠ gb113))) (fun _ hk => hk.2)) (fun _ h_ => h_.1))) (Kd.R_base ho0) hb); have n2_ := aK (Kd.R_lower ho0 (below_size (pH HB))); have n3_ := aK (blk_below (g := gb113) (o := .cells #[.int .i64 t107, .int .i64 t108, .slice Ao14 t109.length co14] 77 (0, 0)) (p3 BK113) hb); have n4_ := aK (below_step (pH HB) hb); clear HO106; clear HO111; clear BK113; clear HB; have HO106 := n0_; have HO111 := n1_; have HO116 := n2_; have BK113 := n3_; have HB := n4_; clear n0_ n1_ n2_ n3_ n4_; (try clear hb); (try clear ho0)))
   go_ret2
   exact ⟨_, eW, by (with_reducible repeat (first | apply Kd.R_alloc | apply Kd.R_drewN | apply Kd.R_drew)); exact HO116.out, pH HB⟩
  ·replace c6 := Bool.eq_false_iff.mpr c6
   subst c6
   rw [if_neg (show ¬ (false = true) by decide)] at H
   simp only [Option.some.injEq, Prod.mk.injEq] at H
   obtain ⟨rfl, rfl⟩ := H
   go_enter Try.func35, Try.ntmps35
   go_wp2_with (first | ((with_reducible refine gate_callee (f := 17) rfl ?_); refine goesL_ (some 7) rfl rfl Try.func17 (by kernel_rfl) rfl #[.slice A0 l0.length c0] rfl tA ?_; (with_reducible refine (spec_GoodTerm.calls k _ _ l0 true _ ?side1 ?side2 A2.out).mono ?_); (case side1 => exact sC HR0.out); (case side2 => exact HC0.out); rintro e w16 ⟨rfl, hb⟩; refine ⟨_, rfl, ?_⟩; replace HB := qs HB hb; (try clear hb)) | ((with_reducible refine gate_callee (f := 60) rfl ?_); refine goesL_ (some 11) rfl rfl Try.func60 (by kernel_rfl) rfl #[.slice A0 l0.length c0, .int .i64 0] rfl tA ?_; (with_reducible refine (spec_lcTree.calls k _ _ l0 0 t102 t103 t104 _ ?side1 ?side2 A4.out).mono ?_); (case side1 => exact sC (Kd.C_below HR0.out HB.out)); (case side2 => exact HC0.out); rintro e w17 ⟨v105, rfl, ho0, hb⟩; refine ⟨_, rfl, ?_⟩; have HO106 := aK (Kd.R_lower ho0 (below_size HB.out)); replace HB := qs HB hb; (try clear hb); (try clear ho0); obtain ⟨Ao18, co18, eo18⟩ := Kd.R_slice HO106.out; subst eo18) | ((with_reducible refine gate_callee (f := 59) rfl ?_); refine goesL_ (some 12) rfl rfl Try.func59 (by kernel_rfl) rfl #[.agg #[.int .i64 t102, .int .i64 t103, .slice Ao18 t104.length co18], .int .i64 0] rfl tA ?_; (with_reducible refine (spec_ldOf.calls k t102 t103 _ _ t104 0 t107 t108 t109 false _ ?side1 ?side2 A5.out).mono ?_); (case side1 => exact sC ((Kd.R_reads' HO106.out).2.2)); (case side2 => exact (Kd.R_reads' HO106.out).2.1); rintro e w19 ⟨v110, rfl, ho0, hb⟩; refine ⟨_, rfl, ?_⟩; have n0_ := aK (Kd.R_below HO106.out hb); have HO111 := aK (Kd.V_lower (Kd.V_mono (ok' := fun k_ => some k_ ≠ (.slice Ao18 t104.length co18 : Value).ownBlock) ho0 (fun k_ hk_ => (Kd.fresh' (Kd.R_lt HO106.out) k_ hk_))) (below_size HB.out)); clear HO106; have HO106 := n0_; clear n0_; replace HB := qs HB hb; (try clear hb); (try clear ho0)) | ((with_reducible refine gate_dst (N := 4) rfl ?_); refine bE (N := 4) (cs := #[.int .i64 0, .int .i64 0, .slice none 0 0]) (t := 77) ?_; intro gb113 hg w20 hbox hb; have n0_ := aK (Kd.R_below HO106.out hb); have GW113 := qw HB hg; have GE113 := qw HB hg; replace HO111 := qv HO111 hg hb; have BK113 := aK hbox; clear HO106; have HO106 := n0_; clear n0_; replace HB := qs HB hb; clear hb hbox hg; have hcz21_0 := k30 BK113; have hcz21_1 := k31 BK113; have hcz21_2 := k32 BK113; have hfz21_0 := fz BK113 0; have hfz21_1 := fz BK113 1; have hfz21_2 := fz BK113 2; obtain ⟨Ao22, co22, eo22⟩ := Kd.V_slice HO111.out; subst eo22))
   go_ret2
   exact ⟨_, eW, by first | exact Kd.R_nil _ _ _ _ _ | exact Kd.N_nil _ _ _ _ _ | exact Kd.V_nil _ _ _ _ _ | exact Kd.Q_nil _ _ _ _ _ | exact Kd.S_nil _ _ _ _ _, pH HB⟩
 ·replace c3 := Bool.eq_false_iff.mpr c3
  subst c3
  rw [if_neg (show ¬ (false = true) by decide)] at H
  simp only [Option.some.injEq, Prod.mk.injEq] at H
  obtain ⟨rfl, rfl⟩ := H
  go_enter Try.func35, Try.ntmps35
  go_wp2_with (first | ((with_reducible refine gate_callee (f := 17) rfl ?_); refine goesL_ (some 7) rfl rfl Try.func17 (by kernel_rfl) rfl #[.slice A0 l0.length c0] rfl tA ?_; (with_reducible refine (spec_GoodTerm.calls k _ _ l0 false _ ?side1 ?side2 A2.out).mono ?_); (case side1 => exact sC HR0.out); (case side2 => exact HC0.out); rintro e w23 ⟨rfl, hb⟩; refine ⟨_, rfl, ?_⟩; replace HB := qs HB hb; (try clear hb)))
  go_ret2
  exact ⟨_, eW, by first | exact Kd.R_nil _ _ _ _ _ | exact Kd.N_nil _ _ _ _ _ | exact Kd.V_nil _ _ _ _ _ | exact Kd.Q_nil _ _ _ _ _ | exact Kd.S_nil _ _ _ _ _, pH HB⟩

end Go.Proofs.Ytcjhhdecckcibaa.G

namespace Go.Proofs.Ytcjhhdecckcibaa.G
open Go.RowKit Go.Proofs.YtcjhhdecckcibaaW.PrintWords Go.Proofs.YtcjhhdecckcibaaW.PrintLast Go.Proofs.YtcjhhdecckcibaaW.PrintMore
attribute [local go_sem] max2_int min2_int max_two min_two max_three min_three max_four min_four   -- for this text's walks alone
set_option linter.unusedVariables false
set_option linter.unusedSimpArgs false

mutual
def impl_termAt.j0 : Nat → List (S62) → Int → Bool → Option (Int × Int × (List (S68)) × Int × Bool)
 | 0, _, _, _ => none
 | k + 1, x0, x1, x42 => if x42 = true then (some (0, 0, ([] : List (S68)), 0, false)) else (if 0 ≤ x1 then (if x1 < (x0.length : Int) then (impl_termAt.l0 k x0 x1 (wrap64 (x1 + 1)) (wrap64 (((rd_T62 x0 x1).f0) - 1)) 0 ((rd_T62 x0 x1).f0) ((rd_T62 x0 x1).f1) ([] : List (S68))) else (none)) else (none))
def impl_termAt.l0 : Nat → List (S62) → Int → Int → Int → Int → Int → Int → List (S68) → Option (Int × Int × (List (S68)) × Int × Bool)
 | 0, _, _, _, _, _, _, _, _ => none
 | k + 1, x0, x1, x10, x59, x60, x108000, x108001, x108002 => if x60 < x59 then ((impl_termAt.f k x0 x10 x1).bind fun bt108 => (if bt108.2.2.2.2 = true then (if x108002.length < 3518437208883 then (impl_termAt.l0 k x0 x1 bt108.2.2.2.1 x59 (wrap64 (x60 + 1)) x108000 x108001 (x108002 ++ [(⟨bt108.1, bt108.2.1, bt108.2.2.1⟩ : S68)])) else (none)) else (some (0, 0, ([] : List (S68)), 0, false)))) else (some (x108000, x108001, x108002, x10, true))
def impl_termAt.f : Nat → List (S62) → Int → Int → Option (Int × Int × (List (S68)) × Int × Bool)
 | 0, _, _, _ => none
 | k + 1, l0, a1, a2 => if a1 = (l0.length : Int) then (impl_termAt.j0 k l0 a1 true) else (if 0 ≤ a1 then (if a1 < (l0.length : Int) then (if ((rd_T62 l0 a1).f2) = a2 then (if ((rd_T62 l0 a1).f0) < 1 then (impl_termAt.j0 k l0 a1 true) else (impl_termAt.j0 k l0 a1 (decide (((rd_T62 l0 a1).f0) > 3)))) else (impl_termAt.j0 k l0 a1 true)) else (none)) else (none))
end
def impl_termAt.T3 : Bool × List (List Nat × List Nat) := (true, [([], []), ([], []), ([0, 1], [0, 1]), ([2], [2]), ([3], [3]), ([], []), ([], []), ([5, 6], [5, 6]), ([7], [7]), ([8], [8]), ([4, 9], [4, 9]), ([], []), ([11], [11]), ([], []), ([13, 10, 0, 1, 2, 3, 4, 5, 6, 7, 8, 9, 10, 13], [10, 13]), ([12, 14, 0, 1, 2, 3, 4, 5, 6, 7, 8, 9, 10, 11, 12, 13, 14], [12])])
def impl_termAt.B3 : List Nat := [0, 0, 3, 7, 15, 0, 0, 96, 224, 480, 1023, 0, 2048, 0, 10239, 32767]
theorem impl_termAt.tab3 : rtab .any (opsOf Try.f65 3) = impl_termAt.T3 := by kernel_rfl
theorem impl_termAt.bits3 : waitsOk impl_termAt.T3.2 impl_termAt.B3 = true := by kernel_rfl
set_option maxHeartbeats 8000000 in
set_option maxRecDepth 100000 in
theorem impl_termAt.calls (k : Nat) : ∀ (A0 : Option Addr) (c0 : Nat) (l0 : List (S62)) (a1 : Int) (a2 : Int) (r1 : Int) (r2 : Int) (r3 : List (S68)) (r4 : Int) (r5 : Bool) (w : World) (hr0 : Kd.C k62 w A0 l0.length l0) (hc0 : l0.length ≤ c0) (h : impl_termAt.f k l0 a1 a2 = some (r1, r2, r3, r4, r5)),
  Calls Try.prog 65 #[.slice A0 l0.length c0, .int .i64 a1, .int .i64 a2] w fun e w' => ∃ v2_ : Value, e = .returned (.tuple #[.agg #[.int .i64 r1, .int .i64 r2, v2_], .int .i64 r4, .bool r5]) ∧ Kd.R k68 68 w' w.heap.size (fun _ => True) v2_ r3 ∧ Below w.heap.size w w' := by
 induction k using Nat.strongRecOn with
 | _ k ih =>
 intro A0 c0 l0 a1 a2 r1 r2 r3 r4 r5 w hr0 hc0 h
 cases k with
 | zero => exact absurd h (by simp [impl_termAt.f])
 | succ k =>
 simp only [impl_termAt.f] at h
 have hu68 := Try.underlying68
 have HR0 := aK hr0
 have HC0 := aK hc0
 clear hr0 hc0
 have HB := aK (Below.refl w.heap.size w)
 have H : (if a1 = (l0.length : Int) then (impl_termAt.j0 k l0 a1 true) else (if 0 ≤ a1 then (if a1 < (l0.length : Int) then (if ((rd_T62 l0 a1).f2) = a2 then (if ((rd_T62 l0 a1).f0) < 1 then (impl_termAt.j0 k l0 a1 true) else (impl_termAt.j0 k l0 a1 (decide (((rd_T62 l0 a1).f0) > 3)))) else (impl_termAt.j0 k l0 a1 true)) else (none)) else (none))) = some (r1, r2, r3, r4, r5) := h
 clear h
 have HC4 := aK H
 clear H
 go_enter Try.func65, Try.ntmps65
 go_upto_region 1 with (first | ((with_reducible refine gate_dst (N := 6) rfl ?_); refine bE (N := 6) (cs := #[.int .i64 0, .int .i64 0, .slice none 0 0]) (t := 68) ?_; intro gb101 hg w5 hbox hb; have GW101 := qw HB hg; have GE101 := qw HB hg; have BK101 := aK hbox; replace HB := qs HB hb; clear hb hbox hg))
 (try simp only [Act.put, List.setIfInBounds_toArray, List.set_cons_zero, List.set_cons_succ])
 go_cut [42] (fun v42 wc => ∃ (kq : Nat) (x42_3 : Bool), v42 = .bool x42_3 ∧ Aside0 (impl_termAt.j0 kq l0 a1 x42_3 = some (r1, r2, r3, r4, r5)) ∧ Aside0 (kq ≤ k) ∧ Aside0 (wc.heap[gb101]? = some (.cells #[.int .i64 0, .int .i64 0, (.slice none 0 0)] 68 (0, 0))) ∧ Aside0 (Below w.heap.size w wc))
 case first =>
  have H := HC4.out
  clear HC4
  by_cases c6 : a1 = (l0.length : Int)
  ·rw [if_pos c6] at H
   have c6b0 : (a1 == (l0.length : Int)) = true := beq_iff_eq.mpr c6
   have c6b1 : (a1 != (l0.length : Int)) = false := bne_eq_false_iff_eq.mpr c6
   clear c6
   (first | rw [c6b0] | (simp only [i64_w, i32_w]; rw [c6b0]) | skip)
   have H' := aK H
   clear H
   go_wp2
   go_meet
   case rel => exact ⟨_, (true), rS, H', ⟨by first | omega | exact Nat.le_refl _⟩, ⟨pB BK101⟩, ⟨pH HB⟩⟩
  ·rw [if_neg c6] at H
   have c6b0 : (a1 == (l0.length : Int)) = false := beq_eq_false_iff_ne.mpr c6
   have c6b1 : (a1 != (l0.length : Int)) = true := bne_iff_ne.mpr c6
   (first | rw [c6b0] | (simp only [i64_w, i32_w]; rw [c6b0]) | skip)
   by_cases c7 : 0 ≤ a1
   ·rw [if_pos c7] at H
    have c7b0 : decide (0 ≤ a1) = true := decide_eq_true c7
    clear c7
    by_cases c8 : a1 < (l0.length : Int)
    ·rw [if_pos c8] at H
     have c8b0 : decide (a1 < (l0.length : Int)) = true := decide_eq_true c8
     clear c8
     by_cases c9 : ((rd_T62 l0 a1).f2) = a2
     ·rw [if_pos c9] at H
      have c9b0 : (((rd_T62 l0 a1).f2) == a2) = true := beq_iff_eq.mpr c9
      have c9b1 : (((rd_T62 l0 a1).f2) != a2) = false := bne_eq_false_iff_eq.mpr c9
      clear c9
      by_cases c10 : ((rd_T62 l0 a1).f0) < 1
      ·rw [if_pos c10] at H
       have c10b0 : decide (((rd_T62 l0 a1).f0) < 1) = true := decide_eq_true c10
       clear c10
       have H' := aK H
       clear H
       have p102 : 0 ≤ (a1 : Int) := dA
       have q102 : a1 < (l0.length : Int) := dA
       obtain ⟨ad102, e102, hx102_0, hx102_1, hx102_2⟩ := at_T62 HR0.out a1 p102 q102
       cases e102
       replace hx102_0 := uC HB hx102_0
       replace hx102_1 := uC HB hx102_1
       replace hx102_2 := uC HB hx102_2
       replace p102 := eq_true p102
       replace q102 := eq_true q102
       have p103 : 0 ≤ (a1 : Int) := dA
       have q103 : a1 < (l0.length : Int) := dA
       obtain ⟨ad103, e103, hx103_0, hx103_1, hx103_2⟩ := at_T62 HR0.out a1 p103 q103
       obtain rfl : ad102 = ad103 := (by injection e103)
       replace hx103_0 := uC HB hx103_0
       replace hx103_1 := uC HB hx103_1
       replace hx103_2 := uC HB hx103_2
       replace p103 := eq_true p103
       replace q103 := eq_true q103
       go_wp2
       go_meet
       case rel => exact ⟨_, (true), rS, H', ⟨by first | omega | exact Nat.le_refl _⟩, ⟨pB BK101⟩, ⟨pH HB⟩⟩
      ·rw [if_neg c10] at H
       have c10b0 : decide (((rd_T62 l0 a1).f0) < 1) = false := decide_eq_false c10
       clear c10
       have H' := aK H
       clear H
       have p102 : 0 ≤ (a1 : Int) := dA
       have q102 : a1 < (l0.length : Int) := dA
       obtain ⟨ad102, e102, hx102_0, hx102_1, hx102_2⟩ := at_T62 HR0.out a1 p102 q102
       cases e102
       replace hx102_0 := uC HB hx102_0
       replace hx102_1 := uC HB hx102_1
       replace hx102_2 := uC HB hx102_2
       replace p102 := eq_true p102
       replace q102 := eq_true q102
       have p103 : 0 ≤ (a1 : Int) := dA
       have q103 : a1 < (l0.length : Int) := dA
       obtain ⟨ad103, e103, hx103_0, hx103_1, hx103_2⟩ := at_T62 HR0.out a1 p103 q103
       obtain rfl : ad102 = ad103 := (by injection e103)
       replace hx103_0 := uC HB hx103_0
       replace hx103_1 := uC HB hx103_1
       replace hx103_2 := uC HB hx103_2
       replace p103 := eq_true p103
       replace q103 := eq_true q103
       have p104 : 0 ≤ (a1 : Int) := dA
       have q104 : a1 < (l0.length : Int) := dA
       obtain ⟨ad104, e104, hx104_0, hx104_1, hx104_2⟩ := at_T62 HR0.out a1 p104 q104
       obtain rfl : ad102 = ad104 := (by injection e104)
       replace hx104_0 := uC HB hx104_0
       replace hx104_1 := uC HB hx104_1
       replace hx104_2 := uC HB hx104_2
       replace p104 := eq_true p104
       replace q104 := eq_true q104
       go_wp2
       go_meet
       case rel => exact ⟨_, (decide (((rd_T62 l0 a1).f0) > 3)), rS, H', ⟨by first | omega | exact Nat.le_refl _⟩, ⟨pB BK101⟩, ⟨pH HB⟩⟩
     ·rw [if_neg c9] at H
      have c9b0 : (((rd_T62 l0 a1).f2) == a2) = false := beq_eq_false_iff_ne.mpr c9
      have c9b1 : (((rd_T62 l0 a1).f2) != a2) = true := bne_iff_ne.mpr c9
      have H' := aK H
      clear H
      have p102 : 0 ≤ (a1 : Int) := dA
      have q102 : a1 < (l0.length : Int) := dA
      obtain ⟨ad102, e102, hx102_0, hx102_1, hx102_2⟩ := at_T62 HR0.out a1 p102 q102
      cases e102
      replace hx102_0 := uC HB hx102_0
      replace hx102_1 := uC HB hx102_1
      replace hx102_2 := uC HB hx102_2
      replace p102 := eq_true p102
      replace q102 := eq_true q102
      go_wp2
      go_meet
      case rel => exact ⟨_, (true), rS, H', ⟨by first | omega | exact Nat.le_refl _⟩, ⟨pB BK101⟩, ⟨pH HB⟩⟩
    ·rw [if_neg c8] at H
     exact absurd H (by simp)
   ·rw [if_neg c7] at H
    exact absurd H (by simp)
 case rest =>
  clear HC4
  try clear c1
  try clear p1
  try clear q1
  try clear hx1
  try clear p2
  try clear c6
  try clear c6b0
  try clear c6b1
  try clear c7
  try clear c7b0
  try clear c8
  try clear c8b0
  try clear c9
  try clear c9b0
  try clear c9b1
  try clear c10
  try clear c10b0
  try clear p10
  try clear q10
  try clear hx10
  try clear hx102_0
  try clear hx102_1
  try clear hx102_2
  try clear hx103_0
  try clear hx103_1
  try clear hx103_2
  try clear hx104_0
  try clear hx104_1
  try clear hx104_2
  try clear p102
  try clear p103
  try clear p104
  try clear q102
  try clear q103
  try clear q104
  obtain ⟨kq, x42_3, rfl, HA, HJ3, BK101, HB⟩ := hcut
  cases kq with
  | zero => exact absurd HA.out (by simp [impl_termAt.j0])
  | succ kj3 =>
   have H := HA.out
   clear HA
   simp only [impl_termAt.j0] at H
   by_cases c11 : x42_3 = true
   ·subst c11
    rw [if_pos rfl] at H
    simp only [Option.some.injEq, Prod.mk.injEq] at H
    obtain ⟨rfl, rfl, rfl, rfl, rfl⟩ := H
    have hcz12_0 := k30 BK101
    have hcz12_1 := k31 BK101
    have hcz12_2 := k32 BK101
    have hfz12_0 := fz BK101 0
    have hfz12_1 := fz BK101 1
    have hfz12_2 := fz BK101 2
    go_wp2
    refine bodyPost_ret (results_ctt rfl _ _ gb101 68 #[.int .i64 0, .int .i64 0, .slice none 0 0] (0, 0) _ rfl (p3 BK101) Try.underlying68 rfl (by kernel_rfl)) rfl ?_
    exact ⟨_, eW, by first | exact Kd.R_nil _ _ _ _ _ | exact Kd.N_nil _ _ _ _ _ | exact Kd.V_nil _ _ _ _ _ | exact Kd.Q_nil _ _ _ _ _ | exact Kd.S_nil _ _ _ _ _, pH HB⟩
   ·replace c11 := Bool.eq_false_iff.mpr c11
    subst c11
    rw [if_neg (show ¬ (false = true) by decide)] at H
    by_cases c13 : 0 ≤ a1
    ·rw [if_pos c13] at H
     have c13b0 : decide (0 ≤ a1) = true := decide_eq_true c13
     clear c13
     by_cases c14 : a1 < (l0.length : Int)
     ·rw [if_pos c14] at H
      have c14b0 : decide (a1 < (l0.length : Int)) = true := decide_eq_true c14
      clear c14
      have H' := aK H
      clear H
      try go_wp2
      have n0_ := aK (blk_drew BK101.out)
      have n1_ := aK (below_drew1 HB.out)
      clear BK101
      clear HB
      have BK101 := n0_
      have HB := n1_
      clear n0_ n1_
      have p105 : 0 ≤ (a1 : Int) := dA
      have q105 : a1 < (l0.length : Int) := dA
      obtain ⟨ad105, e105, hx105_0, hx105_1, hx105_2⟩ := at_T62 HR0.out a1 p105 q105
      have hw105_2 := hx105_2
      have hw105_1 := hx105_1
      have hw105_0 := hx105_0
      cases e105
      replace hx105_0 := uC HB hx105_0
      replace hx105_1 := uC HB hx105_1
      replace hx105_2 := uC HB hx105_2
      replace p105 := eq_true p105
      replace q105 := eq_true q105
      have p106 : 0 ≤ (a1 : Int) := dA
      have q106 : a1 < (l0.length : Int) := dA
      obtain ⟨ad106, e106, hx106_0, hx106_1, hx106_2⟩ := at_T62 HR0.out a1 p106 q106
      have hw106_2 := hx106_2
      have hw106_1 := hx106_1
      have hw106_0 := hx106_0
      obtain rfl : ad105 = ad106 := (by injection e106)
      replace hx106_0 := uC HB hx106_0
      replace hx106_1 := uC HB hx106_1
      replace hx106_2 := uC HB hx106_2
      replace p106 := eq_true p106
      replace q106 := eq_true q106
      refine start_ (n := 16) (S := fun w' => w'.cell? (ad105.add ((a1).toNat * 3)) = some (.int .i64 ((rd_T62 l0 a1).f0)) ∧ w'.cell? ⟨(ad105.add ((a1).toNat * 3)).block, (ad105.add ((a1).toNat * 3)).off + 1, none⟩ = some (.int .i64 ((rd_T62 l0 a1).f1)) ∧ w'.cell? ⟨(ad105.add ((a1).toNat * 3)).block, (ad105.add ((a1).toNat * 3)).off + 2, none⟩ = some (.int .i64 ((rd_T62 l0 a1).f2)) ∧ w'.cell? (ad105.add ((a1).toNat * 3)) = some (.int .i64 ((rd_T62 l0 a1).f0)) ∧ w'.cell? ⟨(ad105.add ((a1).toNat * 3)).block, (ad105.add ((a1).toNat * 3)).off + 1, none⟩ = some (.int .i64 ((rd_T62 l0 a1).f1)) ∧ w'.cell? ⟨(ad105.add ((a1).toNat * 3)).block, (ad105.add ((a1).toNat * 3)).off + 2, none⟩ = some (.int .i64 ((rd_T62 l0 a1).f2))) (ds := []) (bs 0 16) (by kernel_rfl) rfl rfl ⟨(uC HB hw105_0), (uC HB hw105_1), (uC HB hw105_2), (uC HB hw106_0), (uC HB hw106_1), (uC HB hw106_2)⟩ (fun hHeld => ?_); refine with_tabW impl_termAt.tab3 impl_termAt.bits3 (fun HT_ HW_ => ?_)
      generalize wc.drew = w15 at BK101 HB hx105_0 hx105_1 hx105_2 hx106_0 hx106_1 hx106_2 hHeld ⊢
      refine pure_ (i := 0) (N := some 44) (v := ?_) (a' := ?_) (bs 1 15) rfl rfl (any_of HT_.out (by kernel_rfl)) (fun _ _ _ h => h) (Or.inl ⟨by rfl, ?_⟩) ?_ ?_
      rotate_left
      ·intro w'
       go_simp
       with_reducible rfl
      rotate_left
      ·simp only [sP, i64_w, i32_w]
       rfl
      refine pure_ (i := 1) (N := some 45) (v := ?_) (a' := ?_) (bs 2 14) rfl rfl (any_of HT_.out (by kernel_rfl)) (fun _ _ _ h => h) (Or.inl ⟨by rfl, ?_⟩) ?_ ?_
      rotate_left
      ·intro w'
       go_simp
       with_reducible rfl
      rotate_left
      ·simp only [sP, i64_w, i32_w]
       rfl
      refine pure_ (i := 2) (N := some 46) (v := ?_) (a' := ?_) (bs 3 13) rfl rfl (any_of HT_.out (by kernel_rfl)) (fun _ _ _ h => h) (Or.inl ⟨by rfl, ?_⟩) ?_ ?_
      rotate_left
      ·intro w'
       go_simp
       with_reducible rfl
      rotate_left
      ·simp only [sP, i64_w, i32_w]
       rfl
      refine pure_ (i := 3) (N := some 47) (v := ?_) (a' := ?_) (bs 4 12) rfl rfl (any_of HT_.out (by kernel_rfl)) (fun _ _ _ h => h) (Or.inl ⟨by rfl, ?_⟩) ?_ ?_
      rotate_left
      ·intro w'
       go_simp
       with_reducible rfl
      rotate_left
      ·simp only [sP, i64_w, i32_w]
       rfl
      refine pure_ (i := 5) (N := some 49) (v := ?_) (a' := ?_) #[true, true, true, true, false, true, false, false, false, false, false, false, false, false, false, false] rfl rfl (any_of HT_.out (by kernel_rfl)) (fun _ _ _ h => h) (Or.inl ⟨by rfl, ?_⟩) ?_ ?_
      rotate_left
      ·intro w'
       go_simp
       with_reducible rfl
      rotate_left
      ·simp only [sP, i64_w, i32_w]
       rfl
      refine pure_ (i := 6) (N := some 50) (v := ?_) (a' := ?_) #[true, true, true, true, false, true, true, false, false, false, false, false, false, false, false, false] rfl rfl (any_of HT_.out (by kernel_rfl)) (fun _ _ _ h => h) (Or.inl ⟨by rfl, ?_⟩) ?_ ?_
      rotate_left
      ·intro w'
       go_simp
       with_reducible rfl
      rotate_left
      ·simp only [sP, i64_w, i32_w]
       rfl
      refine pure_ (i := 7) (N := some 51) (v := ?_) (a' := ?_) #[true, true, true, true, false, true, true, true, false, false, false, false, false, false, false, false] rfl rfl (any_of HT_.out (by kernel_rfl)) (fun _ _ _ h => h) (Or.inl ⟨by rfl, ?_⟩) ?_ ?_
      rotate_left
      ·intro w'
       go_simp
       with_reducible rfl
      rotate_left
      ·simp only [sP, i64_w, i32_w]
       rfl
      refine pure_ (i := 8) (N := some 52) (v := ?_) (a' := ?_) #[true, true, true, true, false, true, true, true, true, false, false, false, false, false, false, false] rfl rfl (any_of HT_.out (by kernel_rfl)) (fun _ _ _ h => h) (Or.inl ⟨by rfl, ?_⟩) ?_ ?_
      rotate_left
      ·intro w'
       go_simp
       with_reducible rfl
      rotate_left
      ·simp only [sP, i64_w, i32_w]
       rfl
      refine pure_ (i := 11) (N := some 55) (v := ?_) (a' := ?_) #[true, true, true, true, false, true, true, true, true, false, false, true, false, false, false, false] rfl rfl (any_of HT_.out (by kernel_rfl)) (fun _ _ _ h => h) (Or.inl ⟨by rfl, ?_⟩) ?_ ?_
      rotate_left
      ·intro w'
       go_simp
       with_reducible rfl
      rotate_left
      ·simp only [sP, i64_w, i32_w]
       rfl
      refine pure_ (i := 12) (N := some 56) (v := ?_) (a' := ?_) #[true, true, true, true, false, true, true, true, true, false, false, true, true, false, false, false] rfl rfl (any_of HT_.out (by kernel_rfl)) (fun _ _ _ h => h) (Or.inl ⟨by rfl, ?_⟩) ?_ ?_
      rotate_left
      ·intro w'
       go_simp
       with_reducible rfl
      rotate_left
      ·simp only [sP, i64_w, i32_w]
       rfl
      refine take_ (i := 4) (N := some 48) (v := ?_) (a' := ?_) #[true, true, true, true, true, true, true, true, true, false, false, true, true, false, false, false] rfl rfl (take_ofW HT_.out HW_.out (by kernel_rfl)) (fun _ _ _ h => h) (Or.inl ⟨by rfl, ?_⟩) hHeld ?_ ?_
      rotate_left
      ·rintro w' ⟨s0, s1, s2, s3, s4, s5⟩
       go_simp
       with_reducible rfl
      rotate_left
      ·simp only [sP, i64_w, i32_w]
       rfl
      refine take_ (i := 9) (N := some 53) (v := ?_) (a' := ?_) #[true, true, true, true, true, true, true, true, true, true, false, true, true, false, false, false] rfl rfl (take_ofW HT_.out HW_.out (by kernel_rfl)) (fun _ _ _ h => h) (Or.inl ⟨by rfl, ?_⟩) hHeld ?_ ?_
      rotate_left
      ·rintro w' ⟨s0, s1, s2, s3, s4, s5⟩
       go_simp
       with_reducible rfl
      rotate_left
      ·simp only [sP, i64_w, i32_w]
       rfl
      refine pure_ (i := 10) (N := some 54) (v := ?_) (a' := ?_) (bs 13 3) rfl rfl (any_of HT_.out (by kernel_rfl)) (fun _ _ _ h => h) (Or.inl ⟨by rfl, ?_⟩) ?_ ?_
      rotate_left
      ·intro w'
       go_simp
       with_reducible rfl
      rotate_left
      ·simp only [sP, i64_w, i32_w]
       rfl
      refine one_ (i := 13) (N := some 9) (bs 14 2) rfl rfl (one_of HT_.out (by kernel_rfl)) (by decide) (fun K hK => ?_)
      refine box_step ?hg (N := 9) ?hd (cs := #[.int .i64 0, .int .i64 0, .slice none 0 0]) (t := 68) ?hr ?_; (case hd => rfl); (case hg => rfl); (case hr => go_simp)
      intro gb107 hg w16 hbox hb
      have n0_ := aK (blk_below BK101.out hb)
      have n1_ := aK (below_step (pH HB) hb)
      have n2_ := aK (hbox)
      have n3_ := aK ((by rw [hg]; exact (below_size (pH HB)) : w.heap.size ≤ gb107))
      have n4_ := aK ((by rw [hg]; exact (below_size (pH HB)) : w.heap.size ≤ gb107))
      have n5_ := aK ((by rw [hg]; exact Nat.ne_of_lt (blk_lt BK101.out) : gb101 ≠ gb107))
      have n6_ := aK ((by rw [hg]; exact Nat.ne_of_gt (blk_lt BK101.out) : gb107 ≠ gb101))
      clear BK101
      clear HB
      have BK101 := n0_
      have HB := n1_
      have BK107 := n2_
      have GW107 := n3_
      have GE107 := n4_
      have NB101_107 := n5_
      have NB107_101 := n6_
      clear n0_ n1_ n2_ n3_ n4_ n5_ n6_
      clear hb hbox hg
      refine hK.out _ _ ⟨(uC HB hw105_0), (uC HB hw105_1), (uC HB hw105_2), (uC HB hw106_0), (uC HB hw106_1), (uC HB hw106_2)⟩ (fun hHeld => ?_)
      clear hK K
      refine norm_ (a' := ?_) ?_ ?_
      rotate_left
      ·show Act.put _ (some 9) _ = _
       simp only [sP, i64_w, i32_w]
       rfl
      refine one_ (i := 14) (N := none) (bs 15 1) rfl rfl (one_of HT_.out (by kernel_rfl)) (by decide) (fun K hK => ?_)
      have hs17 : w16.cell? ⟨gb107, 0, none⟩ = some (.int .i64 0) := (blk_cell BK107.out 0).trans rfl
      have hfs17 := blk_frozen BK107.out 0
      have hns17_0 := NB101_107.out
      have hms17_0 := NB107_101.out
      have hs18 : w16.cell? ⟨gb107, 1, none⟩ = some (.int .i64 0) := (blk_cell BK107.out 1).trans rfl
      have hfs18 := blk_frozen BK107.out 1
      have hns18_0 := NB101_107.out
      have hms18_0 := NB107_101.out
      have hs19 : w16.cell? ⟨gb107, 2, none⟩ = some (.slice none 0 0) := (blk_cell BK107.out 2).trans rfl
      have hfs19 := blk_frozen BK107.out 2
      have hns19_0 := NB101_107.out
      have hms19_0 := NB107_101.out
      refine skip_ (w1 := ?_) (by rfl) rfl ?_ ?_
      rotate_left
      ·go_simp
       rfl
      refine hK.out _ _ ⟨((cell_far (p := ⟨gb107, _, none⟩) (nG hw105_0 GW107) _).trans (((cell_far (p := ⟨gb107, _, none⟩) (nG hw105_0 GW107) _).trans (((cell_far (p := ⟨gb107, _, none⟩) (nG hw105_0 GW107) _).trans (hHeld.1)))))), ((cell_far (p := ⟨gb107, _, none⟩) (nG hw105_1 GW107) _).trans (((cell_far (p := ⟨gb107, _, none⟩) (nG hw105_1 GW107) _).trans (((cell_far (p := ⟨gb107, _, none⟩) (nG hw105_1 GW107) _).trans (hHeld.2.1)))))), ((cell_far (p := ⟨gb107, _, none⟩) (nG hw105_2 GW107) _).trans (((cell_far (p := ⟨gb107, _, none⟩) (nG hw105_2 GW107) _).trans (((cell_far (p := ⟨gb107, _, none⟩) (nG hw105_2 GW107) _).trans (hHeld.2.2.1)))))), ((cell_far (p := ⟨gb107, _, none⟩) (nG hw106_0 GW107) _).trans (((cell_far (p := ⟨gb107, _, none⟩) (nG hw106_0 GW107) _).trans (((cell_far (p := ⟨gb107, _, none⟩) (nG hw106_0 GW107) _).trans (hHeld.2.2.2.1)))))), ((cell_far (p := ⟨gb107, _, none⟩) (nG hw106_1 GW107) _).trans (((cell_far (p := ⟨gb107, _, none⟩) (nG hw106_1 GW107) _).trans (((cell_far (p := ⟨gb107, _, none⟩) (nG hw106_1 GW107) _).trans (hHeld.2.2.2.2.1)))))), ((cell_far (p := ⟨gb107, _, none⟩) (nG hw106_2 GW107) _).trans (((cell_far (p := ⟨gb107, _, none⟩) (nG hw106_2 GW107) _).trans (((cell_far (p := ⟨gb107, _, none⟩) (nG hw106_2 GW107) _).trans (hHeld.2.2.2.2.2))))))⟩ (fun hHeld => ?_)
      clear hK K
      refine pure_ (i := 15) (N := some 10) (v := ?_) (a' := ?_) (bs 16 0) rfl rfl (any_of HT_.out (by kernel_rfl)) (fun _ _ _ h => h) (Or.inl ⟨by rfl, ?_⟩) ?_ ?_
      rotate_left
      ·intro w'
       go_simp
       with_reducible rfl
      rotate_left
      ·simp only [sP, i64_w, i32_w]
       rfl
      refine done_ (done_of HT_.out (by kernel_rfl)) ?_
      have hnb20 := NB107_101.out
      have hnc20 := NB101_107.out
      have hcz21_0 := k30 BK107
      have hcz21_1 := k31 BK107
      have hcz21_2 := k32 BK107
      have hfz21_0 := fz BK107 0
      have hfz21_1 := fz BK107 1
      have hfz21_2 := fz BK107 2
      try go_wp2
      go_loopg [10, 60] kj3 (fun kq v10 v60 w' => ∃ (x10_2 : Int) (x60_2 : Int) (x102000_2 : Int) (x102001_2 : Int) (x108002_2 : List (S68)) (u108002 : Value), v10 = .int .i64 x10_2 ∧ v60 = .int .i64 x60_2 ∧ Aside0 (impl_termAt.l0 kq l0 a1 x10_2 (wrap64 (((rd_T62 l0 a1).f0) - 1)) x60_2 ((rd_T62 l0 a1).f0) ((rd_T62 l0 a1).f1) x108002_2 = some (r1, r2, r3, r4, r5)) ∧ Aside0 (kq ≤ kj3) ∧ Aside0 (Kd.R k68 68 w' w.heap.size (fun k_ => k_ ≠ gb101 ∧ k_ ≠ gb107) u108002 x108002_2) ∧ Aside0 (w'.heap[gb101]? = some (.cells #[.int .i64 x102000_2, .int .i64 x102001_2, (.slice none 0 0)] 68 (0, 0))) ∧ Aside0 (w'.heap[gb107]? = some (.cells #[.int .i64 ((rd_T62 l0 a1).f0), .int .i64 ((rd_T62 l0 a1).f1), u108002] 68 (0, 0))) ∧ Aside0 (Below w.heap.size w w'))
      case atStart => exact ⟨(wrap64 (a1 + 1)), (0), (0), (0), (([] : List (S68))), (.slice none 0 0), rS, rS, H', ⟨Nat.le_refl _⟩, ⟨by first | exact Kd.R_nil _ _ _ _ _ | exact Kd.N_nil _ _ _ _ _ | exact Kd.V_nil _ _ _ _ _ | exact Kd.Q_nil _ _ _ _ _ | exact Kd.S_nil _ _ _ _ _⟩, ⟨by (repeat first | with_reducible apply zN | with_reducible apply zD | with_reducible apply zA | refine blk_far ?_ NB101_107.out _); exact BK101.out⟩, ⟨p3 BK107⟩, ⟨pH HB⟩⟩
      case round =>
       clear H'
       try clear c1
       try clear p1
       try clear q1
       try clear hx1
       try clear c2
       try clear p2
       try clear c6
       try clear c6b0
       try clear c6b1
       try clear p6
       try clear c7
       try clear c7b0
       try clear c8
       try clear c8b0
       try clear c9
       try clear c9b0
       try clear c9b1
       try clear c10
       try clear c10b0
       try clear p10
       try clear q10
       try clear hx10
       try clear c11
       try clear c13
       try clear c13b0
       try clear c14
       try clear c14b0
       try clear c20
       try clear hcz12_0
       try clear hcz12_1
       try clear hcz12_2
       try clear hcz21_0
       try clear hcz21_1
       try clear hcz21_2
       try clear hfz12_0
       try clear hfz12_1
       try clear hfz12_2
       try clear hfz21_0
       try clear hfz21_1
       try clear hfz21_2
       try clear hx102_0
       try clear hx102_1
       try clear hx102_2
       try clear hx103_0
       try clear hx103_1
       try clear hx103_2
       try clear hx104_0
       try clear hx104_1
       try clear hx104_2
       try clear hx105_0
       try clear hx105_1
       try clear hx105_2
       try clear hx106_0
       try clear hx106_1
       try clear hx106_2
       try clear p1
       try clear p10
       try clear p102
       try clear p103
       try clear p104
       try clear p105
       try clear p106
       try clear p2
       try clear q1
       try clear q10
       try clear q102
       try clear q103
       try clear q104
       try clear q105
       try clear q106
       obtain ⟨x10_2, x60_2, x102000_2, x102001_2, x108002_2, u108002, rfl, rfl, HA, HK2, HO_108002, BK101, BK107, HB⟩ := hrel
       cases gk with
       | zero => exact absurd HA.out (by simp [impl_termAt.l0])
       | succ k2 =>
        have H := HA.out
        clear HA
        simp only [impl_termAt.l0] at H
        by_cases c22 : x60_2 < (wrap64 (((rd_T62 l0 a1).f0) - 1))
        ·rw [if_pos c22] at H
         have c22b0 : decide (x60_2 < (wrap64 (((rd_T62 l0 a1).f0) - 1))) = true := decide_eq_true c22
         clear c22
         replace H := Option.bind_eq_some_iff.mp H
         obtain ⟨⟨t108, t109, t110, t113, t114⟩, A230, H⟩ := H
         try dsimp only at H
         have A23 := aK A230
         clear A230
         by_cases c24 : t114 = true
         ·subst c24
          rw [if_pos rfl] at H
          by_cases c25 : x108002_2.length < 3518437208883
          ·rw [if_pos c25] at H
           have LMc25 := aK c25
           clear c25
           obtain ⟨y116, hy116⟩ : ∃ y_ : List (S68), y_ = (x108002_2 ++ [(⟨t108, t109, t110⟩ : S68)]) := ⟨_, rfl⟩
           replace H : (impl_termAt.l0 k2 l0 a1 t113 (wrap64 (((rd_T62 l0 a1).f0) - 1)) (wrap64 (x60_2 + 1)) ((rd_T62 l0 a1).f0) ((rd_T62 l0 a1).f1) y116) = some (r1, r2, r3, r4, r5) := by first | (rw [hy116]; with_reducible exact H) | (have H2_ := (Option.bind_some _ _).symm.trans H; rw [hy116]; with_reducible exact H2_) | (have H2_ := (Option.bind_some _ _).symm.trans H; with_reducible exact H2_) | with_reducible exact H | (rw [hy116]; exact H) | exact H
           have Ny116 := aK hy116
           clear hy116
           have H' := aK H
           clear H
           go_wp2_with (first | ((with_reducible refine gate_callee (f := 65) rfl ?_); refine goesL_ (some 66) rfl rfl Try.func65 (by kernel_rfl) rfl #[.slice (some ad105) l0.length c0, .int .i64 x10_2, .int .i64 a1] rfl tA ?_; (with_reducible refine (ih k2 (by have := HJ3.out; have := HK2.out; omega) _ _ l0 x10_2 a1 t108 t109 t110 t113 true _ ?side1 ?side2 A23.out).mono ?_); (case side1 => exact sC (Kd.C_below HR0.out HB.out)); (case side2 => exact HC0.out); rintro e w26 ⟨v111, rfl, ho0, hb⟩; refine ⟨_, rfl, ?_⟩; have n0_ := aK (Kd.R_elder' HO_108002.out (Kd.R_base ho0) hb); have HO112 := aK (Kd.R_lower (Kd.R_newB (Kd.R_newB (Kd.R_new' ho0 (Kd.R_lt HO_108002.out)) BK101.out) BK107.out) (below_size HB.out)); replace BK101 := qb BK101 hb; replace BK107 := qb BK107 hb; clear HO_108002; have HO_108002 := n0_; clear n0_; replace HB := qs HB hb; (try clear hb); (try clear ho0)) | ((with_reducible refine gate_dst (N := 11) rfl ?_); refine bE (N := 11) (cs := #[.int .i64 0, .int .i64 0, .slice none 0 0]) (t := 68) ?_; intro gb115 hg w27 hbox hb; have n0_ := aK (Kd.R_below (Kd.R_elderB HO_108002.out gb115 (Nat.le_of_eq hg.symm)) hb); have n1_ := aK (Kd.R_below (Kd.R_elderB HO112.out gb115 (Nat.le_of_eq hg.symm)) hb); have GW115 := qw HB hg; have GE115 := qw HB hg; have NB101_115 := ql BK101 hg; have NB115_101 := qg BK101 hg; have NB107_115 := ql BK107 hg; have NB115_107 := qg BK107 hg; replace BK101 := qb BK101 hb; replace BK107 := qb BK107 hb; have BK115 := aK hbox; clear HO_108002; have HO_108002 := n0_; clear n0_; clear HO112; have HO112 := n1_; clear n1_; replace HB := qs HB hb; clear hb hbox hg; have hnb28 := NB115_101.out; have hnc28 := NB101_115.out; have hnb29 := NB115_107.out; have hnc29 := NB107_115.out; have hcz30_0 := k30 BK115; have hcz30_1 := k31 BK115; have hcz30_2 := k32 BK115; have hfz30_0 := fz BK115 0; have hfz30_1 := fz BK115 1; have hfz30_2 := fz BK115 2; obtain ⟨Ao31, co31, eo31⟩ := Kd.R_slice HO112.out; subst eo31) | ((with_reducible refine gate_store (t := 68) (p := 11) rfl ?_); refine store_event (t := 68) (p := 11) (v := ?vo_w32) (w1 := (((w27.setCell ⟨gb115, 0, none⟩ (.int .i64 t108)).setCell ⟨gb115, 1, none⟩ (.int .i64 t109)).setCell ⟨gb115, 2, none⟩ (.slice Ao31 t110.length co31))) ?hg ?ho ?hn ?hr ?_; (case ho => rfl); (case hg => rfl); (case hn => rfl); (case hr => first | (go_simp; done) | (go_simp; rfl)); intro w32 hw; have n0_ : Aside0 (Kd.R k68 68 w32 w.heap.size (fun k_ => some k_ ≠ (.slice Ao31 t110.length co31 : Value).ownBlock ∧ k_ ≠ gb101 ∧ k_ ≠ gb107 ∧ k_ ≠ gb115) u108002 x108002_2) := ⟨(by rw [hw]; exact (by (with_reducible repeat (first | apply Kd.R_alloc | apply Kd.R_drewN | apply Kd.R_drew)); exact Kd.R_mono (Kd.R_far (p := ⟨gb115, 2, none⟩) (Kd.R_far (p := ⟨gb115, 1, none⟩) (Kd.R_far (p := ⟨gb115, 0, none⟩) (Kd.R_mono HO_108002.out (fun k_ hk => (⟨hk, hk.2⟩ : _ ∧ k_ ≠ gb115))) (fun _ hk => hk.2) (.int .i64 t108)) (fun _ hk => hk.2) (.int .i64 t109)) (fun _ hk => hk.2) (.slice Ao31 t110.length co31)) (fun _ hk => ⟨hk.1.1.2, ⟨hk.1.1.1.1, ⟨hk.1.1.1.2, hk.1.2⟩⟩⟩)))⟩; have n1_ : Aside0 (Kd.R k68 68 w32 w.heap.size (fun k_ => some k_ ≠ (u108002 : Value).ownBlock ∧ k_ ≠ gb101 ∧ k_ ≠ gb107 ∧ k_ ≠ gb115) (.slice Ao31 t110.length co31) t110) := ⟨(by rw [hw]; exact (by (with_reducible repeat (first | apply Kd.R_alloc | apply Kd.R_drewN | apply Kd.R_drew)); exact Kd.R_mono (Kd.R_far (p := ⟨gb115, 2, none⟩) (Kd.R_far (p := ⟨gb115, 1, none⟩) (Kd.R_far (p := ⟨gb115, 0, none⟩) (Kd.R_mono HO112.out (fun k_ hk => (⟨hk, hk.2⟩ : _ ∧ k_ ≠ gb115))) (fun _ hk => hk.2) (.int .i64 t108)) (fun _ hk => hk.2) (.int .i64 t109)) (fun _ hk => hk.2) (.slice Ao31 t110.length co31)) (fun _ hk => ⟨hk.1.1.1.1.2, ⟨hk.1.1.1.2, ⟨hk.1.1.2, hk.1.2⟩⟩⟩)))⟩; have n2_ : Aside0 (w32.heap[gb101]? = some (.cells #[.int .i64 x102000_2, .int .i64 x102001_2, .slice none 0 0] 68 (0, 0))) := ⟨(by rw [hw]; exact (by (repeat first | with_reducible apply zN | with_reducible apply zD | with_reducible apply zA | refine blk_far ?_ NB101_115.out _); exact BK101.out))⟩; have n3_ : Aside0 (w32.heap[gb107]? = some (.cells #[.int .i64 ((rd_T62 l0 a1).f0), .int .i64 ((rd_T62 l0 a1).f1), u108002] 68 (0, 0))) := ⟨(by rw [hw]; exact (by (repeat first | with_reducible apply zN | with_reducible apply zD | with_reducible apply zA | refine blk_far ?_ NB107_115.out _); exact BK107.out))⟩; have n4_ : Aside0 (w32.heap[gb115]? = some (.cells #[.int .i64 t108, .int .i64 t109, .slice Ao31 t110.length co31] 68 (0, 0))) := ⟨(by rw [hw]; exact (p3 BK115))⟩; have n5_ : Aside0 (Below w.heap.size w w32) := ⟨(by rw [hw]; exact (pH HB))⟩; clear hw; clear HO_108002; clear HO112; clear BK101; clear BK107; clear BK115; clear HB; have HO_108002 := n0_; have HO112 := n1_; have BK101 := n2_; have BK107 := n3_; have BK115 := n4_; have HB := n5_; clear n0_ n1_ n2_ n3_ n4_ n5_; have hnb33 := NB107_101.out; have hnc33 := NB101_107.out; have hcz34_0 := k30 BK107; have hcz34_1 := k31 BK107; have hcz34_2 := k32 BK107; have hfz34_0 := fz BK107 0; have hfz34_1 := fz BK107 1; have hfz34_2 := fz BK107 2; have hcz35_0 := k30 BK115; have hcz35_1 := k31 BK115; have hcz35_2 := k32 BK115; have hfz35_0 := fz BK115 0; have hfz35_1 := fz BK115 1; have hfz35_2 := fz BK115 2) | ((with_reducible refine gate_builtin (b := .append) (xs := #[.tmp 74, .tmp 76]) rfl ?_); at_builtin; refine Kd.R_append k68 (w0 := w) w.heap.size rfl (.tmp 74) (.tmp 76) 66 68 (.agg #[(.int .i64 0), (.int .i64 0), (.slice none 0 0)]) 40 rfl Try.underlying66 info68 rfl (by decide) (by omega) u108002 x108002_2 (⟨t108, t109, t110⟩ : S68) [.int .i64 t108, .int .i64 t109, .slice Ao31 t110.length co31] (fun k_ => k_ ≠ gb101 ∧ k_ ≠ gb107 ∧ k_ ≠ gb115) (fun k_ => ((fun k_ => k_ ≠ gb101 ∧ k_ ≠ gb107 ∧ k_ ≠ gb115)) k_ ∧ some k_ ≠ (u108002 : Value).ownBlock) rfl rfl ?aP (fun _ hk => hk) ?aF ?aO ?aB ?aS ?aL ?_; (case aP => exact k68_mkM _ _ _ (⟨t108, t109, t110⟩ : S68) (Kd.R_mono (HO112.out) (fun k_ hk => ⟨⟨hk.2.1, ⟨hk.2.2.1, hk.2.2.2⟩⟩, hk.1⟩))); (case aB => exact (pH HB)); (case aF => exact (fun k_ hk => ⟨Kd.freshB BK101.out k_ hk, Kd.freshB BK107.out k_ hk, Kd.freshB BK115.out k_ hk⟩)); (case aO => exact (by (with_reducible repeat (first | apply Kd.R_alloc | apply Kd.R_drewN | apply Kd.R_drew)); exact Kd.R_mono HO_108002.out (fun _ hk => ⟨hk.2.1, ⟨hk.2.2.1, hk.2.2.2⟩⟩))); (case aS => exact (below_size (pH HB))); (case aL => have := LMc25.out; omega); intro v117 w36 ho hb hg hat; rw [← Ny116.out] at ho; have n0_ := aK (blk_grown BK101.out hg (Kd.R_away HO_108002.out (fun _ hk => hk.2.1))); have n1_ := aK (blk_grown BK107.out hg (Kd.R_away HO_108002.out (fun _ hk => hk.2.2.1))); have n2_ := aK (blk_grown BK115.out hg (Kd.R_away HO_108002.out (fun _ hk => hk.2.2.2))); have n3_ := aK (hb); have HO118 := aK (ho); clear BK101; have BK101 := n0_; clear n0_; clear BK107; have BK107 := n1_; clear n1_; clear BK115; have BK115 := n2_; clear n2_; clear HB; have HB := n3_; clear n3_; clear HO_108002; clear HO112; clear ho hb hg hat; obtain ⟨Ao37, co37, eo37⟩ := Kd.R_slice HO118.out; subst eo37; have hcz38_0 := k30 BK107; have hcz38_1 := k31 BK107; have hcz38_2 := k32 BK107; have hfz38_0 := fz BK107 0; have hfz38_1 := fz BK107 1; have hfz38_2 := fz BK107 2))
           go_roundg k2
           case measure => have := HJ3.out; have := HK2.out; omega
           case rel => exact ⟨(t113), (wrap64 (x60_2 + 1)), (x102000_2), (x102001_2), (y116), (.slice Ao37 y116.length co37), rS, rS, H', ⟨by have := HJ3.out; have := HK2.out; omega⟩, ⟨by (with_reducible repeat (first | apply Kd.R_alloc | apply Kd.R_drewN | apply Kd.R_drew)); exact Kd.R_mono (Kd.R_far (p := ⟨gb107, 2, none⟩) (Kd.R_mono HO118.out (fun k_ hk => (⟨hk, hk.2.1⟩ : _ ∧ k_ ≠ gb107))) (fun _ hk => hk.2) (.slice Ao37 y116.length co37)) (fun _ hk => ⟨hk.1.1, hk.1.2.1⟩)⟩, ⟨by (repeat first | with_reducible apply zN | with_reducible apply zD | with_reducible apply zA | refine blk_far ?_ NB101_107.out _); exact BK101.out⟩, ⟨by (with_reducible repeat first | apply zN | apply zD | apply zA); refine blk_put (cs := #[.int .i64 ((rd_T62 l0 a1).f0), .int .i64 ((rd_T62 l0 a1).f1), u108002]) ?_ 2 _ rfl; (with_reducible repeat first | apply zN | apply zD | apply zA); exact BK107.out⟩, ⟨pH HB⟩⟩
          ·rw [if_neg c25] at H
           exact absurd H (by simp)
         ·replace c24 := Bool.eq_false_iff.mpr c24
          subst c24
          rw [if_neg (show ¬ (false = true) by decide)] at H
          simp only [Option.some.injEq, Prod.mk.injEq] at H
          obtain ⟨rfl, rfl, rfl, rfl, rfl⟩ := H
          go_wp2_with (first | ((with_reducible refine gate_callee (f := 65) rfl ?_); refine goesL_ (some 66) rfl rfl Try.func65 (by kernel_rfl) rfl #[.slice (some ad105) l0.length c0, .int .i64 x10_2, .int .i64 a1] rfl tA ?_; (with_reducible refine (ih k2 (by have := HJ3.out; have := HK2.out; omega) _ _ l0 x10_2 a1 t108 t109 t110 t113 false _ ?side1 ?side2 A23.out).mono ?_); (case side1 => exact sC (Kd.C_below HR0.out HB.out)); (case side2 => exact HC0.out); rintro e w39 ⟨v111, rfl, ho0, hb⟩; refine ⟨_, rfl, ?_⟩; have n0_ := aK (Kd.R_elder' HO_108002.out (Kd.R_base ho0) hb); have HO112 := aK (Kd.R_lower (Kd.R_newB (Kd.R_newB (Kd.R_new' ho0 (Kd.R_lt HO_108002.out)) BK101.out) BK107.out) (below_size HB.out)); replace BK101 := qb BK101 hb; replace BK107 := qb BK107 hb; clear HO_108002; have HO_108002 := n0_; clear n0_; replace HB := qs HB hb; (try clear hb); (try clear ho0)) | ((with_reducible refine gate_dst (N := 11) rfl ?_); refine bE (N := 11) (cs := #[.int .i64 0, .int .i64 0, .slice none 0 0]) (t := 68) ?_; intro gb115 hg w40 hbox hb; have n0_ := aK (Kd.R_below (Kd.R_elderB HO_108002.out gb115 (Nat.le_of_eq hg.symm)) hb); have n1_ := aK (Kd.R_below (Kd.R_elderB HO112.out gb115 (Nat.le_of_eq hg.symm)) hb); have GW115 := qw HB hg; have GE115 := qw HB hg; have NB101_115 := ql BK101 hg; have NB115_101 := qg BK101 hg; have NB107_115 := ql BK107 hg; have NB115_107 := qg BK107 hg; replace BK101 := qb BK101 hb; replace BK107 := qb BK107 hb; have BK115 := aK hbox; clear HO_108002; have HO_108002 := n0_; clear n0_; clear HO112; have HO112 := n1_; clear n1_; replace HB := qs HB hb; clear hb hbox hg; have hnb41 := NB115_101.out; have hnc41 := NB101_115.out; have hnb42 := NB115_107.out; have hnc42 := NB107_115.out; have hcz43_0 := k30 BK115; have hcz43_1 := k31 BK115; have hcz43_2 := k32 BK115; have hfz43_0 := fz BK115 0; have hfz43_1 := fz BK115 1; have hfz43_2 := fz BK115 2; obtain ⟨Ao44, co44, eo44⟩ := Kd.R_slice HO112.out; subst eo44; have hnb45 := NB101_107.out; have hnc45 := NB107_101.out; have hcz46_0 := k30 BK101; have hcz46_1 := k31 BK101; have hcz46_2 := k32 BK101; have hfz46_0 := fz BK101 0; have hfz46_1 := fz BK101 1; have hfz46_2 := fz BK101 2))
          refine bodyPost_ret (results_ctt rfl _ _ gb101 68 #[.int .i64 0, .int .i64 0, .slice none 0 0] (0, 0) _ rfl (by (with_reducible repeat first | apply zN | apply zD | apply zA); refine blk_put (cs := #[.int .i64 0, .int .i64 0, .slice none 0 0]) ?_ 2 _ rfl; (with_reducible repeat first | apply zN | apply zD | apply zA); refine blk_put (cs := #[.int .i64 0, .int .i64 x102001_2, .slice none 0 0]) ?_ 1 _ rfl; (with_reducible repeat first | apply zN | apply zD | apply zA); refine blk_put (cs := #[.int .i64 x102000_2, .int .i64 x102001_2, .slice none 0 0]) ?_ 0 _ rfl; (repeat first | with_reducible apply zN | with_reducible apply zD | with_reducible apply zA | refine blk_far ?_ NB101_115.out _); exact BK101.out) Try.underlying68 rfl (by kernel_rfl)) rfl ?_
          exact ⟨_, eW, by first | exact Kd.R_nil _ _ _ _ _ | exact Kd.N_nil _ _ _ _ _ | exact Kd.V_nil _ _ _ _ _ | exact Kd.Q_nil _ _ _ _ _ | exact Kd.S_nil _ _ _ _ _, pH HB⟩
        ·rw [if_neg c22] at H
         have c22b0 : decide (x60_2 < (wrap64 (((rd_T62 l0 a1).f0) - 1))) = false := decide_eq_false c22
         clear c22
         simp only [Option.some.injEq, Prod.mk.injEq] at H
         obtain ⟨rfl, rfl, rfl, rfl, rfl⟩ := H
         have hnb47 := NB107_101.out
         have hnc47 := NB101_107.out
         have hcz48_0 := k30 BK107
         have hcz48_1 := k31 BK107
         have hcz48_2 := k32 BK107
         have hfz48_0 := fz BK107 0
         have hfz48_1 := fz BK107 1
         have hfz48_2 := fz BK107 2
         have hcz49_0 := k30 BK101
         have hcz49_1 := k31 BK101
         have hcz49_2 := k32 BK101
         have hfz49_0 := fz BK101 0
         have hfz49_1 := fz BK101 1
         have hfz49_2 := fz BK101 2
         obtain ⟨Ao50, co50, eo50⟩ := Kd.R_slice HO_108002.out
         subst eo50
         go_wp2
         refine bodyPost_ret (results_ctt rfl _ _ gb101 68 #[.int .i64 ((rd_T62 l0 a1).f0), .int .i64 ((rd_T62 l0 a1).f1), .slice Ao50 x108002_2.length co50] (0, 0) _ rfl (p3 BK101) Try.underlying68 rfl (by kernel_rfl)) rfl ?_
         exact ⟨_, eW, by (with_reducible repeat (first | apply Kd.R_alloc | apply Kd.R_drewN | apply Kd.R_drew)); exact Kd.R_mono (Kd.R_far (p := ⟨gb101, 2, none⟩) (Kd.R_far (p := ⟨gb101, 1, none⟩) (Kd.R_far (p := ⟨gb101, 0, none⟩) (Kd.R_mono HO_108002.out (fun k_ hk => (⟨hk, hk.1⟩ : _ ∧ k_ ≠ gb101))) (fun _ hk => hk.2) (.int .i64 ((rd_T62 l0 a1).f0))) (fun _ hk => hk.2) (.int .i64 ((rd_T62 l0 a1).f1))) (fun _ hk => hk.2) (.slice Ao50 x108002_2.length co50)) (fun _ hk => trivial), pH HB⟩
     ·rw [if_neg c14] at H
      exact absurd H (by simp)
    ·rw [if_neg c13] at H
     exact absurd H (by simp)

end Go.Proofs.Ytcjhhdecckcibaa.G

namespace Go.Proofs.Ytcjhhdecckcibaa.G
open Go.RowKit Go.Proofs.YtcjhhdecckcibaaW.PrintWords Go.Proofs.YtcjhhdecckcibaaW.PrintLast Go.Proofs.YtcjhhdecckcibaaW.PrintMore
attribute [local go_sem] max2_int min2_int max_two min_two max_three min_three max_four min_four   -- for this text's walks alone
set_option linter.unusedVariables false
set_option linter.unusedSimpArgs false

mutual
def impl_term_size.l0 : Nat → Int → List (S68) → Int → Int → Option (Int)
 | 0, _, _, _, _ => none
 | k + 1, x3, x7, x8, x9 => if x9 < x8 then (if 0 ≤ x9 then (if x9 < (x7.length : Int) then ((impl_term_size.f k ((rd_T68 x7 x9).f0) ((rd_T68 x7 x9).f1) ((rd_T68 x7 x9).f2)).bind fun t104 => (impl_term_size.l0 k (wrap64 (x3 + t104)) x7 x8 (wrap64 (x9 + 1)))) else (none)) else (none)) else (some x3)
def impl_term_size.f : Nat → Int → Int → List (S68) → Option (Int)
 | 0, _, _, _ => none
 | k + 1, a0_0, a0_1, l0_2 => impl_term_size.l0 k 1 l0_2 (l0_2.length : Int) 0
end
set_option maxHeartbeats 8000000 in
set_option maxRecDepth 100000 in
theorem impl_term_size.calls (k : Nat) : ∀ (a0_0 : Int) (a0_1 : Int) (A0_2 : Option Addr) (c0_2 : Nat) (l0_2 : List (S68)) (r : Int) (w : World) (hr0_2 : Kd.C k68 w A0_2 l0_2.length l0_2) (hc0_2 : l0_2.length ≤ c0_2) (h : impl_term_size.f k a0_0 a0_1 l0_2 = some r),
  Calls Try.prog 68 #[.agg #[.int .i64 a0_0, .int .i64 a0_1, .slice A0_2 l0_2.length c0_2]] w fun e w' => e = .returned (.int .i64 r) ∧ Below w.heap.size w w' := by
 induction k using Nat.strongRecOn with
 | _ k ih =>
 intro a0_0 a0_1 A0_2 c0_2 l0_2 r w hr0_2 hc0_2 h
 cases k with
 | zero => exact absurd h (by simp [impl_term_size.f])
 | succ k =>
 simp only [impl_term_size.f] at h
 have hu68 := Try.underlying68
 have HR0_2 := aK hr0_2
 have HC0_2 := aK hc0_2
 clear hr0_2 hc0_2
 have HB := aK (Below.refl w.heap.size w)
 have H : (impl_term_size.l0 k 1 l0_2 (l0_2.length : Int) 0) = some r := h
 clear h
 have H' := aK H
 clear H
 go_enter Try.func68, Try.ntmps68
 go_wp2_with (first | ((with_reducible refine gate_dst (N := 1) rfl ?_); refine bE (N := 1) (cs := #[.int .i64 a0_0, .int .i64 a0_1, .slice A0_2 l0_2.length c0_2]) (t := 68) ?_; intro gb101 hg w2 hbox hb; have GW101 := qw HB hg; have GE101 := qw HB hg; have BK101 := aK hbox; replace HB := qs HB hb; clear hb hbox hg; have hcz3_0 := k30 BK101; have hcz3_1 := k31 BK101; have hcz3_2 := k32 BK101; have hfz3_0 := fz BK101 0; have hfz3_1 := fz BK101 1; have hfz3_2 := fz BK101 2))
 go_loopg [3, 9] k (fun kq v3 v9 w' => ∃ (x3_1 : Int) (x9_1 : Int), v3 = .int .i64 x3_1 ∧ v9 = .int .i64 x9_1 ∧ Aside0 (impl_term_size.l0 kq x3_1 l0_2 (l0_2.length : Int) x9_1 = some r) ∧ Aside0 (kq ≤ k) ∧ Aside0 (w'.heap[gb101]? = some (.cells #[.int .i64 a0_0, .int .i64 a0_1, (.slice A0_2 l0_2.length c0_2)] 68 (0, 0))) ∧ Aside0 (Below w.heap.size w w'))
 case atStart => exact ⟨(1), (0), rS, rS, H', ⟨Nat.le_refl _⟩, ⟨pB BK101⟩, ⟨pH HB⟩⟩
 case round =>
  clear H'
  try clear p2
  try clear hcz3_0
  try clear hcz3_1
  try clear hcz3_2
  try clear hfz3_0
  try clear hfz3_1
  try clear hfz3_2
  obtain ⟨x3_1, x9_1, rfl, rfl, HA, HK1, BK101, HB⟩ := hrel
  cases gk with
  | zero => exact absurd HA.out (by simp [impl_term_size.l0])
  | succ k1 =>
   have H := HA.out
   clear HA
   simp only [impl_term_size.l0] at H
   by_cases c4 : x9_1 < (l0_2.length : Int)
   ·rw [if_pos c4] at H
    have c4b0 : decide (x9_1 < (l0_2.length : Int)) = true := decide_eq_true c4
    clear c4
    by_cases c5 : 0 ≤ x9_1
    ·rw [if_pos c5] at H
     have c5b0 : decide (0 ≤ x9_1) = true := decide_eq_true c5
     clear c5
     by_cases c6 : x9_1 < (l0_2.length : Int)
     ·rw [if_pos c6] at H
      have c6b0 : decide (x9_1 < (l0_2.length : Int)) = true := decide_eq_true c6
      clear c6
      replace H := Option.bind_eq_some_iff.mp H
      obtain ⟨t104, A70, H⟩ := H
      try dsimp only at H
      have A7 := aK A70
      clear A70
      have H' := aK H
      clear H
      have p102 : 0 ≤ (x9_1 : Int) := dA
      have q102 : x9_1 < (l0_2.length : Int) := dA
      obtain ⟨ad102, A102_2, c102_2, e102, hx102_0, hx102_1, hx102_2, hl102_2, hi102_2⟩ := at_T68 HR0_2.out x9_1 p102 q102
      cases e102
      replace hx102_0 := uC HB hx102_0
      replace hx102_1 := uC HB hx102_1
      replace hx102_2 := uC HB hx102_2
      have HR102_2 := aK hi102_2
      have HC102_2 := aK hl102_2
      clear hi102_2 hl102_2
      replace p102 := eq_true p102
      replace q102 := eq_true q102
      go_wp2_with (first | ((with_reducible refine gate_dst (N := 5) rfl ?_); refine bE (N := 5) (cs := #[.int .i64 0, .int .i64 0, .slice none 0 0]) (t := 68) ?_; intro gb103 hg w8 hbox hb; have GW103 := qw HB hg; have GE103 := qw HB hg; have NB101_103 := ql BK101 hg; have NB103_101 := qg BK101 hg; replace BK101 := qb BK101 hb; have BK103 := aK hbox; replace HB := qs HB hb; clear hb hbox hg; have hnb9 := NB103_101.out; have hnc9 := NB101_103.out; have hcz10_0 := k30 BK103; have hcz10_1 := k31 BK103; have hcz10_2 := k32 BK103; have hfz10_0 := fz BK103 0; have hfz10_1 := fz BK103 1; have hfz10_2 := fz BK103 2) | ((with_reducible refine gate_callee (f := 68) rfl ?_); refine goesL_ (some 15) rfl rfl Try.func68 (by kernel_rfl) rfl #[.agg #[.int .i64 ((rd_T68 l0_2 x9_1).f0), .int .i64 ((rd_T68 l0_2 x9_1).f1), .slice A102_2 ((rd_T68 l0_2 x9_1).f2).length c102_2]] rfl tA ?_; (with_reducible refine (ih k1 (by have := HK1.out; omega) ((rd_T68 l0_2 x9_1).f0) ((rd_T68 l0_2 x9_1).f1) _ _ ((rd_T68 l0_2 x9_1).f2) t104 _ ?side1 ?side2 A7.out).mono ?_); (case side1 => exact Kd.C_below HR102_2.out (pH HB)); (case side2 => exact HC102_2.out); rintro e w11 ⟨rfl, hb⟩; refine ⟨_, rfl, ?_⟩; have n0_ := aK (blk_below (g := gb101) (o := .cells #[.int .i64 a0_0, .int .i64 a0_1, .slice (some ad102) l0_2.length c0_2] 68 (0, 0)) (by (repeat first | with_reducible apply zN | with_reducible apply zD | with_reducible apply zA | refine blk_far ?_ NB101_103.out _); exact BK101.out) hb); have n1_ := aK (blk_below (g := gb103) (o := .cells #[.int .i64 ((rd_T68 l0_2 x9_1).f0), .int .i64 ((rd_T68 l0_2 x9_1).f1), .slice A102_2 ((rd_T68 l0_2 x9_1).f2).length c102_2] 68 (0, 0)) (p3 BK103) hb); have n2_ := aK (below_step (pH HB) hb); clear BK101; clear BK103; clear HB; have BK101 := n0_; have BK103 := n1_; have HB := n2_; clear n0_ n1_ n2_; (try clear hb)))
      go_roundg k1
      case measure => have := HK1.out; omega
      case rel => exact ⟨(wrap64 (x3_1 + t104)), (wrap64 (x9_1 + 1)), rS, rS, H', ⟨by have := HK1.out; omega⟩, ⟨pB BK101⟩, ⟨pH HB⟩⟩
     ·rw [if_neg c6] at H
      exact absurd H (by simp)
    ·rw [if_neg c5] at H
     exact absurd H (by simp)
   ·rw [if_neg c4] at H
    have c4b0 : decide (x9_1 < (l0_2.length : Int)) = false := decide_eq_false c4
    clear c4
    obtain rfl := Option.some.inj H
    go_wp2
    go_ret
    exact ⟨eW, pH HB⟩

end Go.Proofs.Ytcjhhdecckcibaa.G

namespace Go.Proofs.Ytcjhhdecckcibaa.G
open Go.RowKit Go.Proofs.YtcjhhdecckcibaaW.PrintWords Go.Proofs.YtcjhhdecckcibaaW.PrintLast Go.Proofs.YtcjhhdecckcibaaW.PrintMore
attribute [local go_sem] max2_int min2_int max_two min_two max_three min_three max_four min_four   -- for this text's walks alone
set_option linter.unusedVariables false
set_option linter.unusedSimpArgs false

mutual
def impl_term_depth.l0 : Nat → Int → List (S68) → Int → Int → Option (Int)
 | 0, _, _, _, _ => none
 | k + 1, x3, x7, x8, x9 => if x9 < x8 then (if 0 ≤ x9 then (if x9 < (x7.length : Int) then ((impl_term_depth.f k ((rd_T68 x7 x9).f0) ((rd_T68 x7 x9).f1) ((rd_T68 x7 x9).f2)).bind fun t104 => (impl_term_depth.l0 k (mx x3 t104) x7 x8 (wrap64 (x9 + 1)))) else (none)) else (none)) else (some (wrap64 (x3 + 1)))
def impl_term_depth.f : Nat → Int → Int → List (S68) → Option (Int)
 | 0, _, _, _ => none
 | k + 1, a0_0, a0_1, l0_2 => impl_term_depth.l0 k 0 l0_2 (l0_2.length : Int) 0
end
set_option maxHeartbeats 8000000 in
set_option maxRecDepth 100000 in
theorem impl_term_depth.calls (k : Nat) : ∀ (a0_0 : Int) (a0_1 : Int) (A0_2 : Option Addr) (c0_2 : Nat) (l0_2 : List (S68)) (r : Int) (w : World) (hr0_2 : Kd.C k68 w A0_2 l0_2.length l0_2) (hc0_2 : l0_2.length ≤ c0_2) (h : impl_term_depth.f k a0_0 a0_1 l0_2 = some r),
  Calls Try.prog 87 #[.agg #[.int .i64 a0_0, .int .i64 a0_1, .slice A0_2 l0_2.length c0_2]] w fun e w' => e = .returned (.int .i64 r) ∧ Below w.heap.size w w' := by
 induction k using Nat.strongRecOn with
 | _ k ih =>
 intro a0_0 a0_1 A0_2 c0_2 l0_2 r w hr0_2 hc0_2 h
 cases k with
 | zero => exact absurd h (by simp [impl_term_depth.f])
 | succ k =>
 simp only [impl_term_depth.f] at h
 have hu68 := Try.underlying68
 have HR0_2 := aK hr0_2
 have HC0_2 := aK hc0_2
 clear hr0_2 hc0_2
 have HB := aK (Below.refl w.heap.size w)
 have H : (impl_term_depth.l0 k 0 l0_2 (l0_2.length : Int) 0) = some r := h
 clear h
 have H' := aK H
 clear H
 go_enter Try.func87, Try.ntmps87
 go_wp2_with (first | ((with_reducible refine gate_dst (N := 1) rfl ?_); refine bE (N := 1) (cs := #[.int .i64 a0_0, .int .i64 a0_1, .slice A0_2 l0_2.length c0_2]) (t := 68) ?_; intro gb101 hg w2 hbox hb; have GW101 := qw HB hg; have GE101 := qw HB hg; have BK101 := aK hbox; replace HB := qs HB hb; clear hb hbox hg; have hcz3_0 := k30 BK101; have hcz3_1 := k31 BK101; have hcz3_2 := k32 BK101; have hfz3_0 := fz BK101 0; have hfz3_1 := fz BK101 1; have hfz3_2 := fz BK101 2))
 go_loopg [3, 9] k (fun kq v3 v9 w' => ∃ (x3_1 : Int) (x9_1 : Int), v3 = .int .i64 x3_1 ∧ v9 = .int .i64 x9_1 ∧ Aside0 (impl_term_depth.l0 kq x3_1 l0_2 (l0_2.length : Int) x9_1 = some r) ∧ Aside0 (kq ≤ k) ∧ Aside0 (w'.heap[gb101]? = some (.cells #[.int .i64 a0_0, .int .i64 a0_1, (.slice A0_2 l0_2.length c0_2)] 68 (0, 0))) ∧ Aside0 (Below w.heap.size w w'))
 case atStart => exact ⟨(0), (0), rS, rS, H', ⟨Nat.le_refl _⟩, ⟨pB BK101⟩, ⟨pH HB⟩⟩
 case round =>
  clear H'
  try clear p2
  try clear hcz3_0
  try clear hcz3_1
  try clear hcz3_2
  try clear hfz3_0
  try clear hfz3_1
  try clear hfz3_2
  obtain ⟨x3_1, x9_1, rfl, rfl, HA, HK1, BK101, HB⟩ := hrel
  cases gk with
  | zero => exact absurd HA.out (by simp [impl_term_depth.l0])
  | succ k1 =>
   have H := HA.out
   clear HA
   simp only [impl_term_depth.l0] at H
   by_cases c4 : x9_1 < (l0_2.length : Int)
   ·rw [if_pos c4] at H
    have c4b0 : decide (x9_1 < (l0_2.length : Int)) = true := decide_eq_true c4
    clear c4
    by_cases c5 : 0 ≤ x9_1
    ·rw [if_pos c5] at H
     have c5b0 : decide (0 ≤ x9_1) = true := decide_eq_true c5
     clear c5
     by_cases c6 : x9_1 < (l0_2.length : Int)
     ·rw [if_pos c6] at H
      have c6b0 : decide (x9_1 < (l0_2.length : Int)) = true := decide_eq_true c6
      clear c6
      replace H := Option.bind_eq_some_iff.mp H
      obtain ⟨t104, A70, H⟩ := H
      try dsimp only at H
      have A7 := aK A70
      clear A70
      obtain ⟨ji8, hji8⟩ : ∃ j_ : Int, (mx x3_1 t104) = j_ := ⟨_, rfl⟩
      replace H : (impl_term_depth.l0 k1 ji8 l0_2 (l0_2.length : Int) (wrap64 (x9_1 + 1))) = some r := by first | (rw [hji8] at H; exact H) | (simp only [hji8] at H ⊢; exact H)
      (try rw [hji8] at A7)
      have hji8_ : (if x3_1 < t104 then t104 else x3_1) = ji8 := hji8
      have H' := aK H
      clear H
      have p102 : 0 ≤ (x9_1 : Int) := dA
      have q102 : x9_1 < (l0_2.length : Int) := dA
      obtain ⟨ad102, A102_2, c102_2, e102, hx102_0, hx102_1, hx102_2, hl102_2, hi102_2⟩ := at_T68 HR0_2.out x9_1 p102 q102
      cases e102
      replace hx102_0 := uC HB hx102_0
      replace hx102_1 := uC HB hx102_1
      replace hx102_2 := uC HB hx102_2
      have HR102_2 := aK hi102_2
      have HC102_2 := aK hl102_2
      clear hi102_2 hl102_2
      replace p102 := eq_true p102
      replace q102 := eq_true q102
      go_wp2_with (first | ((with_reducible refine gate_dst (N := 5) rfl ?_); refine bE (N := 5) (cs := #[.int .i64 0, .int .i64 0, .slice none 0 0]) (t := 68) ?_; intro gb103 hg w9 hbox hb; have GW103 := qw HB hg; have GE103 := qw HB hg; have NB101_103 := ql BK101 hg; have NB103_101 := qg BK101 hg; replace BK101 := qb BK101 hb; have BK103 := aK hbox; replace HB := qs HB hb; clear hb hbox hg; have hnb10 := NB103_101.out; have hnc10 := NB101_103.out; have hcz11_0 := k30 BK103; have hcz11_1 := k31 BK103; have hcz11_2 := k32 BK103; have hfz11_0 := fz BK103 0; have hfz11_1 := fz BK103 1; have hfz11_2 := fz BK103 2) | ((with_reducible refine gate_callee (f := 87) rfl ?_); refine goesL_ (some 15) rfl rfl Try.func87 (by kernel_rfl) rfl #[.agg #[.int .i64 ((rd_T68 l0_2 x9_1).f0), .int .i64 ((rd_T68 l0_2 x9_1).f1), .slice A102_2 ((rd_T68 l0_2 x9_1).f2).length c102_2]] rfl tA ?_; (with_reducible refine (ih k1 (by have := HK1.out; omega) ((rd_T68 l0_2 x9_1).f0) ((rd_T68 l0_2 x9_1).f1) _ _ ((rd_T68 l0_2 x9_1).f2) t104 _ ?side1 ?side2 A7.out).mono ?_); (case side1 => exact Kd.C_below HR102_2.out (pH HB)); (case side2 => exact HC102_2.out); rintro e w12 ⟨rfl, hb⟩; refine ⟨_, rfl, ?_⟩; have n0_ := aK (blk_below (g := gb101) (o := .cells #[.int .i64 a0_0, .int .i64 a0_1, .slice (some ad102) l0_2.length c0_2] 68 (0, 0)) (by (repeat first | with_reducible apply zN | with_reducible apply zD | with_reducible apply zA | refine blk_far ?_ NB101_103.out _); exact BK101.out) hb); have n1_ := aK (blk_below (g := gb103) (o := .cells #[.int .i64 ((rd_T68 l0_2 x9_1).f0), .int .i64 ((rd_T68 l0_2 x9_1).f1), .slice A102_2 ((rd_T68 l0_2 x9_1).f2).length c102_2] 68 (0, 0)) (p3 BK103) hb); have n2_ := aK (below_step (pH HB) hb); clear BK101; clear BK103; clear HB; have BK101 := n0_; have BK103 := n1_; have HB := n2_; clear n0_ n1_ n2_; (try clear hb)))
      go_roundg k1
      case measure => have := HK1.out; omega
      case rel => exact ⟨(ji8), (wrap64 (x9_1 + 1)), (by first | rfl | (simp; done) | (simp only [← hji8] <;> (first | rfl | simp)) | (simp [*]; done)), rS, H', ⟨by have := HK1.out; omega⟩, ⟨pB BK101⟩, ⟨pH HB⟩⟩
     ·rw [if_neg c6] at H
      exact absurd H (by simp)
    ·rw [if_neg c5] at H
     exact absurd H (by simp)
   ·rw [if_neg c4] at H
    have c4b0 : decide (x9_1 < (l0_2.length : Int)) = false := decide_eq_false c4
    clear c4
    obtain rfl := Option.some.inj H
    go_wp2
    go_ret
    exact ⟨eW, pH HB⟩

end Go.Proofs.Ytcjhhdecckcibaa.G

namespace Go.Proofs.Ytcjhhdecckcibaa.G
open Go.RowKit Go.Proofs.YtcjhhdecckcibaaW.PrintWords Go.Proofs.YtcjhhdecckcibaaW.PrintLast Go.Proofs.YtcjhhdecckcibaaW.PrintMore
attribute [local go_sem] max2_int min2_int max_two min_two max_three min_three max_four min_four   -- for this text's walks alone
set_option linter.unusedVariables false
set_option linter.unusedSimpArgs false

namespace Are68
def Tells (g : Nat) (lb : Array Value) (p : S68 → Bool) (l : List S68) (w : World) : Prop :=
 ∀ (W : World) (x : S68) (A : Option Addr) (c : Nat), x ∈ l → Below w.heap.size w W → Kd.C k68 W A x.f2.length x.f2 → x.f2.length ≤ c → Calls Try.prog g (#[.agg #[.int .i64 x.f0, .int .i64 x.f1, .slice A x.f2.length c]] ++ lb) W fun e w' => e = .returned (.bool (p x)) ∧ Below W.heap.size W w'

theorem rd_mem (l : List S68) (i : Int) (h0 : 0 ≤ i) (h1 : i < l.length) : rd_T68 l i ∈ l := by
 have hlt : i.toNat < l.length := by omega
 have e : rd_T68 l i = l[i.toNat] := by unfold rd_T68; rw [List.getD_eq_getElem?_getD, List.getElem?_eq_getElem hlt]; rfl
 rw [e]; exact List.getElem_mem hlt
theorem any_take_succ (p : S68 → Bool) (l : List S68) (i : Int) (h0 : 0 ≤ i) (h1 : i < l.length) (h : (l.take i.toNat).any p = false) (hx : p (rd_T68 l i) = false) : (l.take (i + 1).toNat).any p = false := by
 have hlt : i.toNat < l.length := by omega
 rw [show (i + 1).toNat = i.toNat + 1 by omega, List.take_succ_eq_append_getElem hlt, List.any_append, h]
 have e : rd_T68 l i = l[i.toNat] := by unfold rd_T68; rw [List.getD_eq_getElem?_getD, List.getElem?_eq_getElem hlt]; rfl
 rw [← e]; simp [hx]
theorem any_at (p : S68 → Bool) (l : List S68) (i : Int) (h0 : 0 ≤ i) (h1 : i < l.length) (hx : p (rd_T68 l i) = true) : l.any p = true := by
 rw [List.any_eq_true]
 exact ⟨_, rd_mem l i h0 h1, hx⟩

set_option maxHeartbeats 1000000 in
set_option maxRecDepth 100000 in
theorem index_some (g : Nat) (lb : Array Value) (p : S68 → Bool) (A0 : Option Addr) (c0 : Nat) (l0 : List S68) (w : World) (hr0 : Kd.C k68 w A0 l0.length l0)
  (eg : ∀ (args : Array Value) (w : World), (callFunc g args).run Try.prog w = .ok (.enter g args) w) (hp : Tells g lb p l0 w) :
  Calls Try.prog 108 #[.slice A0 l0.length c0, .func (.func g) #[] lb] w fun e w' => (∃ r : Int, e = .returned (.int .i64 r) ∧ decide (0 ≤ r) = l0.any p) ∧ Below w.heap.size w w' := by
 have hu68 := Try.underlying68
 have HR0 := aK hr0
 have HL := aK hr0.2.1
 clear hr0
 have HP := aK hp
 clear hp
 have HB := aK (Below.refl w.heap.size w)
 go_enter Try.func108, Try.ntmps108
 go_wp2
 go_loopg [8] (l0.length + 1) (fun kq v8 w' => ∃ (i : Int), v8 = .int .i64 i ∧ Aside0 (0 ≤ i ∧ i ≤ l0.length ∧ (kq : Int) = l0.length - i + 1 ∧ (l0.take i.toNat).any p = false) ∧ Aside0 (Below w.heap.size w w'))
 case atStart => exact ⟨0, rfl, ⟨by omega, by omega, by omega, by simp⟩, HB⟩
 case round =>
  clear HB
  obtain ⟨i, rfl, HA, HB1⟩ := hrel
  by_cases c : i < (l0.length : Int)
  ·have cb : decide (i < (l0.length : Int)) = true := decide_eq_true c
   have cz : decide (0 ≤ i) = true := decide_eq_true HA.out.1
   obtain ⟨ad, A2, c2, e1, hx0, hx1, hx2, hl2, hi2⟩ := at_T68 (Kd.C_below HR0.out HB1.out) i HA.out.1 c
   cases e1
   have HC2 := aK hl2
   have HR2 := aK hi2
   clear hl2 hi2
   have p1 := eq_true HA.out.1
   have q1 := eq_true c
   have w1 : wrap64 (i + 1) = i + 1 := by have := HA.out.1; have := HA.out.2.1; have := HL.out; unfold wrap64; omega
   have W1 := aK w1
   have Cc := aK c
   clear c w1
   go_wp2_with fail
   refine (HP.out _ (rd_T68 l0 i) A2 c2 (rd_mem l0 i HA.out.1 Cc.out) HB1.out HR2.out HC2.out).mono ?_
   rintro e w' ⟨rfl, hb⟩
   have HB2 := aK (below_step HB1.out hb)
   clear hb
   by_cases hpx : p (rd_T68 l0 i) = true
   ·have HX := aK hpx
    go_wp2
    go_ret
    exact ⟨⟨i, rfl, by rw [any_at p l0 i HA.out.1 Cc.out HX.out]; exact decide_eq_true HA.out.1⟩, HB2.out⟩
   ·replace hpx := Bool.eq_false_iff.mpr hpx
    have HX := aK hpx
    obtain ⟨k1, rfl⟩ : ∃ m, gk = m + 1 := ⟨gk - 1, by have := HA.out; omega⟩
    go_wp2
    go_roundg k1
    case measure => omega
    case rel => exact ⟨i + 1, by first | rfl | rw [W1.out], ⟨by have := HA.out; omega, by have := HA.out; have := Cc.out; omega, by have := HA.out; omega, any_take_succ p l0 i HA.out.1 Cc.out HA.out.2.2.2 HX.out⟩, HB2⟩
  ·have cb : decide (i < (l0.length : Int)) = false := decide_eq_false c
   have Cc := aK c
   clear c
   go_wp2
   go_ret
   refine ⟨⟨-1, rfl, ?_⟩, HB1.out⟩
   have h := HA.out.2.2.2
   rw [List.take_of_length_le (by have := HA.out; have := Cc.out; omega)] at h
   rw [h]; rfl

set_option maxHeartbeats 1000000 in
set_option maxRecDepth 100000 in
theorem contains_some (g : Nat) (lb : Array Value) (p : S68 → Bool) (A0 : Option Addr) (c0 : Nat) (l0 : List S68) (w : World) (hr0 : Kd.C k68 w A0 l0.length l0)
  (eg : ∀ (args : Array Value) (w : World), (callFunc g args).run Try.prog w = .ok (.enter g args) w) (hp : Tells g lb p l0 w) :
  Calls Try.prog 94 #[.slice A0 l0.length c0, .func (.func g) #[] lb] w fun e w' => e = .returned (.bool (l0.any p)) ∧ Below w.heap.size w w' := by
 go_enter Try.func94, Try.ntmps94
 go_wp2_with fail
 refine (index_some g lb p A0 c0 l0 _ hr0 eg hp).mono ?_
 rintro e w' ⟨⟨r, rfl, hr⟩, hb⟩
 have HR := aK hr
 clear hr
 go_wp2
 go_ret
 exact ⟨by rw [← HR.out]; rfl, hb⟩

def nodeOk (k n : Int) : Bool := decide (0 ≤ n) && decide (n ≤ 99) && (decide (k = 1) || decide (n = 0))
mutual
def okT : S68 → Bool
 | ⟨k, n, l⟩ => nodeOk k n && okL l
def okL : List S68 → Bool
 | [] => true
 | x :: l => okT x && okL l
end
theorem okL_all (l : List S68) : okL l = l.all okT := by
 induction l with
 | nil => rw [okL]; rfl
 | cons x l ih => rw [okL, ih]; rfl
theorem any_not (l : List S68) : (l.any fun x => !okT x) = !okL l := by
 rw [okL_all]
 induction l with
 | nil => rfl
 | cons x l ih => simp only [List.any_cons, List.all_cons, ih, Bool.not_and]
theorem okT_eq (x : S68) : okT x = (nodeOk x.f0 x.f1 && okL x.f2) := by cases x; rw [okT]

set_option maxHeartbeats 1000000 in
set_option maxRecDepth 100000 in
theorem lit_some (x : S68) (A : Option Addr) (c : Nat) (W : World) (hr : Kd.C k68 W A x.f2.length x.f2) (hc : x.f2.length ≤ c)
  (ih : ∀ (w : World), Kd.C k68 w A x.f2.length x.f2 → Calls Try.prog 88 #[.agg #[.int .i64 x.f0, .int .i64 x.f1, .slice A x.f2.length c]] w fun e w' => e = .returned (.bool (okT x)) ∧ Below w.heap.size w w') :
  Calls Try.prog 95 #[.agg #[.int .i64 x.f0, .int .i64 x.f1, .slice A x.f2.length c]] W fun e w' => e = .returned (.bool (!okT x)) ∧ Below W.heap.size W w' := by
 have hu68 := Try.underlying68
 have HR0 := aK hr
 clear hr
 have HI := aK ih
 clear ih
 have HB := aK (Below.refl W.heap.size W)
 go_enter Try.func95, Try.ntmps95
 go_wp2_with (first | ((with_reducible refine gate_dst (N := 1) rfl ?_); refine bE (N := 1) (cs := #[.int .i64 x.f0, .int .i64 x.f1, .slice A x.f2.length c]) (t := 68) ?_; intro gb hg w5 hbox hb; have n0_ := aK (below_step HB.out hb); have BK := aK hbox; clear HB; have HB := n0_; clear n0_; clear hb hbox hg; have hcz_0 : w5.cell? ⟨gb, 0, none⟩ = some (.int .i64 x.f0) := (blk_cell BK.out 0).trans rfl; have hcz_1 : w5.cell? ⟨gb, 1, none⟩ = some (.int .i64 x.f1) := (blk_cell BK.out 1).trans rfl; have hcz_2 : w5.cell? ⟨gb, 2, none⟩ = some (.slice A x.f2.length c) := (blk_cell BK.out 2).trans rfl; have hfz_0 := blk_frozen BK.out 0; have hfz_1 := blk_frozen BK.out 1; have hfz_2 := blk_frozen BK.out 2) | ((with_reducible refine gate_callee (f := 88) rfl ?_); refine goesL_ (some 4) rfl rfl Try.func88 (by kernel_rfl) rfl #[.agg #[.int .i64 x.f0, .int .i64 x.f1, .slice A x.f2.length c]] rfl tA ?_; refine (HI.out _ (Kd.C_below HR0.out HB.out)).mono ?_; rintro e w7 ⟨rfl, hb⟩; refine ⟨_, rfl, ?_⟩; have n1_ := aK (below_step HB.out hb); clear BK HB; have HB := n1_; clear n1_; clear hb))
 go_ret
 exact ⟨rfl, pH HB⟩

set_option maxHeartbeats 2000000 in
set_option maxRecDepth 100000 in
theorem node_bad (a0 a1 : Int) (A : Option Addr) (c : Nat) (l : List S68) (w : World) (h : nodeOk a0 a1 = false) :
  Calls Try.prog 88 #[.agg #[.int .i64 a0, .int .i64 a1, .slice A l.length c]] w fun e w' => e = .returned (.bool false) ∧ Below w.heap.size w w' := by
 have hu68 := Try.underlying68
 have HB := aK (Below.refl w.heap.size w)
 unfold nodeOk at h
 by_cases c1 : a1 < 0
 ·have cb1 : decide (a1 < 0) = true := decide_eq_true c1
  clear h c1
  go_enter Try.func88, Try.ntmps88
  go_wp2_with ((with_reducible refine gate_dst (N := 1) rfl ?_); refine bE (N := 1) (cs := #[.int .i64 a0, .int .i64 a1, .slice A l.length c]) (t := 68) ?_; intro gb hg w5 hbox hb; have n0_ := aK (below_step HB.out hb); have BK := aK hbox; clear HB; have HB := n0_; clear n0_; clear hb hbox hg; have hcz_0 : w5.cell? ⟨gb, 0, none⟩ = some (.int .i64 a0) := (blk_cell BK.out 0).trans rfl; have hcz_1 : w5.cell? ⟨gb, 1, none⟩ = some (.int .i64 a1) := (blk_cell BK.out 1).trans rfl; have hcz_2 : w5.cell? ⟨gb, 2, none⟩ = some (.slice A l.length c) := (blk_cell BK.out 2).trans rfl; have hfz_0 := blk_frozen BK.out 0; have hfz_1 := blk_frozen BK.out 1; have hfz_2 := blk_frozen BK.out 2)
  go_ret
  exact ⟨rfl, HB.out⟩
 ·have cb1 : decide (a1 < 0) = false := decide_eq_false c1
  by_cases c2 : a1 > 99
  ·have cb2 : decide (a1 > 99) = true := decide_eq_true c2
   clear h c1 c2
   go_enter Try.func88, Try.ntmps88
   go_wp2_with ((with_reducible refine gate_dst (N := 1) rfl ?_); refine bE (N := 1) (cs := #[.int .i64 a0, .int .i64 a1, .slice A l.length c]) (t := 68) ?_; intro gb hg w5 hbox hb; have n0_ := aK (below_step HB.out hb); have BK := aK hbox; clear HB; have HB := n0_; clear n0_; clear hb hbox hg; have hcz_0 : w5.cell? ⟨gb, 0, none⟩ = some (.int .i64 a0) := (blk_cell BK.out 0).trans rfl; have hcz_1 : w5.cell? ⟨gb, 1, none⟩ = some (.int .i64 a1) := (blk_cell BK.out 1).trans rfl; have hcz_2 : w5.cell? ⟨gb, 2, none⟩ = some (.slice A l.length c) := (blk_cell BK.out 2).trans rfl; have hfz_0 := blk_frozen BK.out 0; have hfz_1 := blk_frozen BK.out 1; have hfz_2 := blk_frozen BK.out 2)
   go_ret
   exact ⟨rfl, HB.out⟩
  ·have cb2 : decide (a1 > 99) = false := decide_eq_false c2
   have h3 : a0 ≠ 1 ∧ a1 ≠ 0 := by
    rw [decide_eq_true (show 0 ≤ a1 by omega), decide_eq_true (show a1 ≤ 99 by omega)] at h
    simp at h
    exact h
   obtain ⟨h3, h4⟩ := h3
   replace h3 : (a0 != 1) = true := bne_iff_ne.mpr h3
   replace h4 : (a1 != 0) = true := bne_iff_ne.mpr h4
   clear h c1 c2
   go_enter Try.func88, Try.ntmps88
   go_wp2_with ((with_reducible refine gate_dst (N := 1) rfl ?_); refine bE (N := 1) (cs := #[.int .i64 a0, .int .i64 a1, .slice A l.length c]) (t := 68) ?_; intro gb hg w5 hbox hb; have n0_ := aK (below_step HB.out hb); have BK := aK hbox; clear HB; have HB := n0_; clear n0_; clear hb hbox hg; have hcz_0 : w5.cell? ⟨gb, 0, none⟩ = some (.int .i64 a0) := (blk_cell BK.out 0).trans rfl; have hcz_1 : w5.cell? ⟨gb, 1, none⟩ = some (.int .i64 a1) := (blk_cell BK.out 1).trans rfl; have hcz_2 : w5.cell? ⟨gb, 2, none⟩ = some (.slice A l.length c) := (blk_cell BK.out 2).trans rfl; have hfz_0 := blk_frozen BK.out 0; have hfz_1 := blk_frozen BK.out 1; have hfz_2 := blk_frozen BK.out 2)
   go_ret
   exact ⟨rfl, HB.out⟩
set_option maxHeartbeats 2000000 in
set_option maxRecDepth 100000 in
theorem node_good (a0 a1 : Int) (A : Option Addr) (c : Nat) (l : List S68) (w : World) (hr : Kd.C k68 w A l.length l) (hc : l.length ≤ c) (h : nodeOk a0 a1 = true)
  (ih : ∀ x ∈ l, ∀ (A : Option Addr) (c : Nat) (w : World), x.f2.length ≤ c → Kd.C k68 w A x.f2.length x.f2 → Calls Try.prog 88 #[.agg #[.int .i64 x.f0, .int .i64 x.f1, .slice A x.f2.length c]] w fun e w' => e = .returned (.bool (okT x)) ∧ Below w.heap.size w w') :
  Calls Try.prog 88 #[.agg #[.int .i64 a0, .int .i64 a1, .slice A l.length c]] w fun e w' => e = .returned (.bool (okL l)) ∧ Below w.heap.size w w' := by
 have hu68 := Try.underlying68
 have HR0 := aK hr
 clear hr
 have eg := enters_ Try.func95 (by kernel_rfl) rfl
 have EG := aK eg
 clear eg
 have HT : ∀ W, Below w.heap.size w W → Tells 95 #[] (fun x => !okT x) l W := by
  intro W hW W2 x A2 c2 hx hb hC hl
  have := lit_some x A2 c2 W2 hC hl (fun w3 h3 => ih x hx A2 c2 w3 hl h3)
  simpa using this
 have HI := aK HT
 clear HT ih
 have HB := aK (Below.refl w.heap.size w)
 have h1 : 0 ≤ a1 ∧ a1 ≤ 99 ∧ (a0 = 1 ∨ a1 = 0) := by
  unfold nodeOk at h
  simp at h
  omega
 clear h
 have cb1 : decide (a1 < 0) = false := decide_eq_false (by omega)
 have cb2 : decide (a1 > 99) = false := decide_eq_false (by omega)
 have key : (a0 = 1) ∨ (a0 ≠ 1 ∧ a1 = 0) := by omega
 clear h1
 rcases key with rfl | ⟨h3, rfl⟩
 ·go_enter Try.func88, Try.ntmps88
  go_wp2_with (first | ((with_reducible refine gate_dst (N := 1) rfl ?_); refine bE (N := 1) (cs := #[.int .i64 1, .int .i64 a1, .slice A l.length c]) (t := 68) ?_; intro gb hg w5 hbox hb; have n0_ := aK (below_step HB.out hb); have BK := aK hbox; clear HB; have HB := n0_; clear n0_; clear hb hbox hg; have hcz_0 : w5.cell? ⟨gb, 0, none⟩ = some (.int .i64 1) := (blk_cell BK.out 0).trans rfl; have hcz_1 : w5.cell? ⟨gb, 1, none⟩ = some (.int .i64 a1) := (blk_cell BK.out 1).trans rfl; have hcz_2 : w5.cell? ⟨gb, 2, none⟩ = some (.slice A l.length c) := (blk_cell BK.out 2).trans rfl; have hfz_0 := blk_frozen BK.out 0; have hfz_1 := blk_frozen BK.out 1; have hfz_2 := blk_frozen BK.out 2) | ((with_reducible refine gate_callee (f := 94) rfl ?_); refine goesL_ (some 23) rfl rfl Try.func94 (by kernel_rfl) rfl #[.slice A l.length c, .func (.func 95) #[] #[]] rfl tA ?_; refine (contains_some 95 #[] (fun x => !okT x) A c l _ (Kd.C_below HR0.out HB.out) EG.out (HI.out _ HB.out)).mono ?_; rintro e w7 ⟨rfl, hb⟩; refine ⟨_, rfl, ?_⟩; have n1_ := aK (below_step HB.out hb); clear BK HB; have HB := n1_; clear n1_; clear hb))
  go_ret
  exact ⟨by rw [any_not, Bool.not_not]; rfl, HB.out⟩
 ·clear cb1 cb2
  replace h3 : (a0 != 1) = true := bne_iff_ne.mpr h3
  go_enter Try.func88, Try.ntmps88
  go_wp2_with (first | ((with_reducible refine gate_dst (N := 1) rfl ?_); refine bE (N := 1) (cs := #[.int .i64 a0, .int .i64 0, .slice A l.length c]) (t := 68) ?_; intro gb hg w5 hbox hb; have n0_ := aK (below_step HB.out hb); have BK := aK hbox; clear HB; have HB := n0_; clear n0_; clear hb hbox hg; have hcz_0 : w5.cell? ⟨gb, 0, none⟩ = some (.int .i64 a0) := (blk_cell BK.out 0).trans rfl; have hcz_1 : w5.cell? ⟨gb, 1, none⟩ = some (.int .i64 0) := (blk_cell BK.out 1).trans rfl; have hcz_2 : w5.cell? ⟨gb, 2, none⟩ = some (.slice A l.length c) := (blk_cell BK.out 2).trans rfl; have hfz_0 := blk_frozen BK.out 0; have hfz_1 := blk_frozen BK.out 1; have hfz_2 := blk_frozen BK.out 2) | ((with_reducible refine gate_callee (f := 94) rfl ?_); refine goesL_ (some 23) rfl rfl Try.func94 (by kernel_rfl) rfl #[.slice A l.length c, .func (.func 95) #[] #[]] rfl tA ?_; refine (contains_some 95 #[] (fun x => !okT x) A c l _ (Kd.C_below HR0.out HB.out) EG.out (HI.out _ HB.out)).mono ?_; rintro e w7 ⟨rfl, hb⟩; refine ⟨_, rfl, ?_⟩; have n1_ := aK (below_step HB.out hb); clear BK HB; have HB := n1_; clear n1_; clear hb))
  go_ret
  exact ⟨by rw [any_not, Bool.not_not]; rfl, HB.out⟩

theorem all_some : ∀ (N : Nat) (a0 a1 : Int) (l : List S68) (A : Option Addr) (c : Nat) (w : World), SizeOf.sizeOf l ≤ N → l.length ≤ c → Kd.C k68 w A l.length l →
  Calls Try.prog 88 #[.agg #[.int .i64 a0, .int .i64 a1, .slice A l.length c]] w fun e w' => e = .returned (.bool (nodeOk a0 a1 && okL l)) ∧ Below w.heap.size w w' := by
 intro N
 induction N with
 | zero =>
  intro a0 a1 l A c w hN
  cases l with
  | nil => simp at hN
  | cons x l => simp at hN
 | succ N ih =>
  intro a0 a1 l A c w hN hl hC
  by_cases h : nodeOk a0 a1 = true
  ·rw [h, Bool.true_and]
   refine node_good a0 a1 A c l w hC hl h fun x hx A2 c2 w2 hl2 hC2 => ?_
   rw [okT_eq]
   refine ih x.f0 x.f1 x.f2 A2 c2 w2 ?_ hl2 hC2
   have h1 := List.sizeOf_lt_of_mem hx
   have h2 : SizeOf.sizeOf x.f2 < SizeOf.sizeOf x := by cases x; simp; omega
   omega
  ·replace h := Bool.eq_false_iff.mpr h
   rw [h, Bool.false_and]
   exact node_bad a0 a1 A c l w h
end Are68

def impl_term_areNumbers.f (k : Nat) (a0_0 : Int) (a0_1 : Int) (l0_2 : List (S68)) : Option (Bool) := some (Are68.nodeOk a0_0 a0_1 && Are68.okL l0_2)
theorem impl_term_areNumbers.calls (k : Nat) (a0_0 : Int) (a0_1 : Int) (A0_2 : Option Addr) (c0_2 : Nat) (l0_2 : List (S68)) (r : Bool) (w : World) (hr0_2 : Kd.C k68 w A0_2 l0_2.length l0_2) (hc0_2 : l0_2.length ≤ c0_2) (h : impl_term_areNumbers.f k a0_0 a0_1 l0_2 = some r) :
  Calls Try.prog 88 #[.agg #[.int .i64 a0_0, .int .i64 a0_1, .slice A0_2 l0_2.length c0_2]] w fun e w' => e = .returned (.bool r) ∧ Below w.heap.size w w' := by
 obtain rfl := Option.some.inj h
 exact Are68.all_some (SizeOf.sizeOf l0_2) a0_0 a0_1 l0_2 A0_2 c0_2 w (Nat.le_refl _) hc0_2 hr0_2
end Go.Proofs.Ytcjhhdecckcibaa.G

namespace Go.Proofs.Ytcjhhdecckcibaa.G
open Go.RowKit Go.Proofs.YtcjhhdecckcibaaW.PrintWords Go.Proofs.YtcjhhdecckcibaaW.PrintLast Go.Proofs.YtcjhhdecckcibaaW.PrintMore
attribute [local go_sem] max2_int min2_int max_two min_two max_three min_three max_four min_four   -- for this text's walks alone
set_option linter.unusedVariables false
set_option linter.unusedSimpArgs false

def impl_term_isGood.f (k : Nat) (a0_0 : Int) (a0_1 : Int) (l0_2 : List (S68)) : Option (Bool) := (impl_term_size.f k a0_0 a0_1 l0_2).bind fun t102 => (if t102 ≤ 150 then ((impl_term_depth.f k a0_0 a0_1 l0_2).bind fun t103 => (if t103 ≤ 40 then ((impl_term_areNumbers.f k a0_0 a0_1 l0_2).bind fun t104 => (some t104)) else (some false))) else (some false))
set_option maxHeartbeats 8000000 in
set_option maxRecDepth 100000 in
theorem impl_term_isGood.calls (k : Nat) (a0_0 : Int) (a0_1 : Int) (A0_2 : Option Addr) (c0_2 : Nat) (l0_2 : List (S68)) (r : Bool) (w : World) (hr0_2 : Kd.C k68 w A0_2 l0_2.length l0_2) (hc0_2 : l0_2.length ≤ c0_2) (h : impl_term_isGood.f k a0_0 a0_1 l0_2 = some r) :
  Calls Try.prog 66 #[.agg #[.int .i64 a0_0, .int .i64 a0_1, .slice A0_2 l0_2.length c0_2]] w fun e w' => e = .returned (.bool r) ∧ Below w.heap.size w w' := by
 have hu68 := Try.underlying68
 have HR0_2 := aK hr0_2
 have HC0_2 := aK hc0_2
 clear hr0_2 hc0_2
 have HB := aK (Below.refl w.heap.size w)
 have H : ((impl_term_size.f k a0_0 a0_1 l0_2).bind fun t102 => (if t102 ≤ 150 then ((impl_term_depth.f k a0_0 a0_1 l0_2).bind fun t103 => (if t103 ≤ 40 then ((impl_term_areNumbers.f k a0_0 a0_1 l0_2).bind fun t104 => (some t104)) else (some false))) else (some false))) = some r := h
 clear h
 replace H := Option.bind_eq_some_iff.mp H
 obtain ⟨t102, A20, H⟩ := H
 try dsimp only at H
 have A2 := aK A20
 clear A20
 by_cases c3 : t102 ≤ 150
 ·rw [if_pos c3] at H
  have c3b0 : decide (t102 ≤ 150) = true := decide_eq_true c3
  clear c3
  replace H := Option.bind_eq_some_iff.mp H
  obtain ⟨t103, A40, H⟩ := H
  try dsimp only at H
  have A4 := aK A40
  clear A40
  by_cases c5 : t103 ≤ 40
  ·rw [if_pos c5] at H
   have c5b0 : decide (t103 ≤ 40) = true := decide_eq_true c5
   clear c5
   replace H := Option.bind_eq_some_iff.mp H
   obtain ⟨t104, A60, H⟩ := H
   try dsimp only at H
   have A6 := aK A60
   clear A60
   obtain rfl := Option.some.inj H
   go_enter Try.func66, Try.ntmps66
   go_wp2_with (first | ((with_reducible refine gate_dst (N := 1) rfl ?_); refine bE (N := 1) (cs := #[.int .i64 a0_0, .int .i64 a0_1, .slice A0_2 l0_2.length c0_2]) (t := 68) ?_; intro gb101 hg w7 hbox hb; have GW101 := qw HB hg; have GE101 := qw HB hg; have BK101 := aK hbox; replace HB := qs HB hb; clear hb hbox hg; have hcz8_0 := k30 BK101; have hcz8_1 := k31 BK101; have hcz8_2 := k32 BK101; have hfz8_0 := fz BK101 0; have hfz8_1 := fz BK101 1; have hfz8_2 := fz BK101 2) | ((with_reducible refine gate_callee (f := 68) rfl ?_); refine goesL_ (some 4) rfl rfl Try.func68 (by kernel_rfl) rfl #[.agg #[.int .i64 a0_0, .int .i64 a0_1, .slice A0_2 l0_2.length c0_2]] rfl tA ?_; (with_reducible refine (impl_term_size.calls k a0_0 a0_1 _ _ l0_2 t102 _ ?side1 ?side2 A2.out).mono ?_); (case side1 => exact sC (Kd.C_below HR0_2.out HB.out)); (case side2 => exact HC0_2.out); rintro e w9 ⟨rfl, hb⟩; refine ⟨_, rfl, ?_⟩; replace BK101 := qb BK101 hb; replace HB := qs HB hb; (try clear hb); have hcz10_0 := k30 BK101; have hcz10_1 := k31 BK101; have hcz10_2 := k32 BK101; have hfz10_0 := fz BK101 0; have hfz10_1 := fz BK101 1; have hfz10_2 := fz BK101 2) | (go_at_call 87; (with_reducible refine (impl_term_depth.calls k a0_0 a0_1 _ _ l0_2 t103 _ ?side1 ?side2 A4.out).mono ?_); (case side1 => exact sC (Kd.C_below HR0_2.out HB.out)); (case side2 => exact HC0_2.out); rintro e w11 ⟨rfl, hb⟩; replace BK101 := qb BK101 hb; replace HB := qs HB hb; (try clear hb); have hcz12_0 := k30 BK101; have hcz12_1 := k31 BK101; have hcz12_2 := k32 BK101; have hfz12_0 := fz BK101 0; have hfz12_1 := fz BK101 1; have hfz12_2 := fz BK101 2) | (go_at_call 88; (with_reducible refine (impl_term_areNumbers.calls k a0_0 a0_1 _ _ l0_2 t104 _ ?side1 ?side2 A6.out).mono ?_); (case side1 => exact sC (Kd.C_below HR0_2.out HB.out)); (case side2 => exact HC0_2.out); rintro e w13 ⟨rfl, hb⟩; replace BK101 := qb BK101 hb; replace HB := qs HB hb; (try clear hb)))
   go_ret
   exact ⟨eW, pH HB⟩
  ·rw [if_neg c5] at H
   have c5b0 : decide (t103 ≤ 40) = false := decide_eq_false c5
   clear c5
   obtain rfl := Option.some.inj H
   go_enter Try.func66, Try.ntmps66
   go_wp2_with (first | ((with_reducible refine gate_dst (N := 1) rfl ?_); refine bE (N := 1) (cs := #[.int .i64 a0_0, .int .i64 a0_1, .slice A0_2 l0_2.length c0_2]) (t := 68) ?_; intro gb101 hg w14 hbox hb; have GW101 := qw HB hg; have GE101 := qw HB hg; have BK101 := aK hbox; replace HB := qs HB hb; clear hb hbox hg; have hcz15_0 := k30 BK101; have hcz15_1 := k31 BK101; have hcz15_2 := k32 BK101; have hfz15_0 := fz BK101 0; have hfz15_1 := fz BK101 1; have hfz15_2 := fz BK101 2) | ((with_reducible refine gate_callee (f := 68) rfl ?_); refine goesL_ (some 4) rfl rfl Try.func68 (by kernel_rfl) rfl #[.agg #[.int .i64 a0_0, .int .i64 a0_1, .slice A0_2 l0_2.length c0_2]] rfl tA ?_; (with_reducible refine (impl_term_size.calls k a0_0 a0_1 _ _ l0_2 t102 _ ?side1 ?side2 A2.out).mono ?_); (case side1 => exact sC (Kd.C_below HR0_2.out HB.out)); (case side2 => exact HC0_2.out); rintro e w16 ⟨rfl, hb⟩; refine ⟨_, rfl, ?_⟩; replace BK101 := qb BK101 hb; replace HB := qs HB hb; (try clear hb); have hcz17_0 := k30 BK101; have hcz17_1 := k31 BK101; have hcz17_2 := k32 BK101; have hfz17_0 := fz BK101 0; have hfz17_1 := fz BK101 1; have hfz17_2 := fz BK101 2) | (go_at_call 87; (with_reducible refine (impl_term_depth.calls k a0_0 a0_1 _ _ l0_2 t103 _ ?side1 ?side2 A4.out).mono ?_); (case side1 => exact sC (Kd.C_below HR0_2.out HB.out)); (case side2 => exact HC0_2.out); rintro e w18 ⟨rfl, hb⟩; replace BK101 := qb BK101 hb; replace HB := qs HB hb; (try clear hb)))
   go_ret
   exact ⟨eW, pH HB⟩
 ·rw [if_neg c3] at H
  have c3b0 : decide (t102 ≤ 150) = false := decide_eq_false c3
  clear c3
  obtain rfl := Option.some.inj H
  go_enter Try.func66, Try.ntmps66
  go_wp2_with (first | ((with_reducible refine gate_dst (N := 1) rfl ?_); refine bE (N := 1) (cs := #[.int .i64 a0_0, .int .i64 a0_1, .slice A0_2 l0_2.length c0_2]) (t := 68) ?_; intro gb101 hg w19 hbox hb; have GW101 := qw HB hg; have GE101 := qw HB hg; have BK101 := aK hbox; replace HB := qs HB hb; clear hb hbox hg; have hcz20_0 := k30 BK101; have hcz20_1 := k31 BK101; have hcz20_2 := k32 BK101; have hfz20_0 := fz BK101 0; have hfz20_1 := fz BK101 1; have hfz20_2 := fz BK101 2) | ((with_reducible refine gate_callee (f := 68) rfl ?_); refine goesL_ (some 4) rfl rfl Try.func68 (by kernel_rfl) rfl #[.agg #[.int .i64 a0_0, .int .i64 a0_1, .slice A0_2 l0_2.length c0_2]] rfl tA ?_; (with_reducible refine (impl_term_size.calls k a0_0 a0_1 _ _ l0_2 t102 _ ?side1 ?side2 A2.out).mono ?_); (case side1 => exact sC (Kd.C_below HR0_2.out HB.out)); (case side2 => exact HC0_2.out); rintro e w21 ⟨rfl, hb⟩; refine ⟨_, rfl, ?_⟩; replace BK101 := qb BK101 hb; replace HB := qs HB hb; (try clear hb)))
  go_ret
  exact ⟨eW, pH HB⟩

end Go.Proofs.Ytcjhhdecckcibaa.G
