/- Part 5 of 5 of the proof that the law FnExactReadCombCardSaid holds: for every input that can be read the call returns true and leaves its arguments as they were; no condition but those each theorem names. -/
import Derived.Lib.ItoaNum
import Derived.Lib.AtoiAll
import Derived.Lib.IndexMore
import Derived.Lib.CutLaws
import Derived.Lib.Split
import Derived.Test.YtcjhhdecckcibaaDoorRows
import Derived.Test.YtcjhhdecckcibaaDoorCards
import Derived.Test.YtcjhhdecckcibaaDoorTie
import Derived.WalkKit
import Derived.ProofKit
import Derived.OpenShut
import Derived.ShutString
import Derived.ChangeOld
import Derived.Below
import Derived.SizedLaws
import Derived.LaidMore
import Derived.Lib.LaidTab
import Derived.Stop.LaidErr
import Derived.MakeChecks
import Derived.HandedShaped
import Derived.LaidLaws
import Derived.Lay
import Derived.SevenTiedAt
import Derived.Stop.Joined
import Derived.Test.YtcjhhdecckcibaaDoorQReadCombW1
import Derived.Test.YtcjhhdecckcibaaDoorQReadComb1
import Derived.Test.YtcjhhdecckcibaaDoorQReadComb2
import Derived.Test.YtcjhhdecckcibaaDoorQReadComb3
import Derived.Test.YtcjhhdecckcibaaDoorQReadComb4
namespace Go.Proofs.YtcjhhdecckcibaaDoor.G
open Go.RowKit Go.Proofs.YtcjhhdecckcibaaDoorW.PrintWords Go.Proofs.YtcjhhdecckcibaaDoorW.PrintLast Go.Proofs.YtcjhhdecckcibaaDoorW.PrintMore Go.Proofs.YtcjhhdecckcibaaDoor.Short
attribute [local go_sem] max2_int min2_int max_two min_two max_three min_three max_four min_four   -- for this text's walks alone
set_option linter.unusedVariables false
set_option linter.unusedSimpArgs false

def impl_ReadComb.f (k : Nat) (a0 : ByteArray) : Option ((List (S51)) × Bool) := if (a0.size : Int) > 1000 then (some (([] : List (S51)), false)) else ((impl_combRead.f k a0 1).bind fun bt101 => (if bt101.2.2.2.2 = true then (if bt101.2.2.2.1.toList = ([] : List UInt8) then ((impl_comb_text.f k bt101.1 bt101.2.1 bt101.2.2.1).bind fun t109 => (if t109.toList = a0.toList then ((impl_comb_goodNodes.f k bt101.1 bt101.2.1 bt101.2.2.1).bind fun bt110 => (some (bt110.1, bt110.2))) else (some (([] : List (S51)), false)))) else (some (([] : List (S51)), false))) else (some (([] : List (S51)), false))))
set_option maxHeartbeats 8000000 in
set_option maxRecDepth 100000 in
theorem impl_ReadComb.calls (k : Nat) (a0 : ByteArray) (r1 : List (S51)) (r2 : Bool) (w : World) (h : impl_ReadComb.f k a0 = some (r1, r2)) (hE : Met w) :
    Calls Tryd.prog 18 #[.string a0] w fun e w' => ∃ v0_ : Value, e = .returned (.tuple #[v0_, .bool r2]) ∧ Kd.R k51 51 w' w.heap.size (fun _ => True) v0_ r1 ∧ Below w.heap.size w w' := by
  have hu56 := Tryd.underlying56
  have HB := aM (Below.refl w.heap.size w)
  have HE := aM hE
  clear hE
  have H : (if (a0.size : Int) > 1000 then (some (([] : List (S51)), false)) else ((impl_combRead.f k a0 1).bind fun bt101 => (if bt101.2.2.2.2 = true then (if bt101.2.2.2.1.toList = ([] : List UInt8) then ((impl_comb_text.f k bt101.1 bt101.2.1 bt101.2.2.1).bind fun t109 => (if t109.toList = a0.toList then ((impl_comb_goodNodes.f k bt101.1 bt101.2.1 bt101.2.2.1).bind fun bt110 => (some (bt110.1, bt110.2))) else (some (([] : List (S51)), false)))) else (some (([] : List (S51)), false))) else (some (([] : List (S51)), false))))) = some (r1, r2) := h
  clear h
  by_cases c2 : (a0.size : Int) > 1000
  · rw [if_pos c2] at H
    have c2b0 : decide (1000 < (a0.size : Int)) = true := decide_eq_true c2
    have c2b1 : decide (1000 < a0.size) = true := decide_eq_true (by omega)
    clear c2
    simp only [Option.some.injEq, Prod.mk.injEq] at H
    obtain ⟨rfl, rfl⟩ := H
    go_enter Tryd.func18, Tryd.ntmps18
    go_wp2
    go_ret2
    exact ⟨_, by first | rfl | (simp [errW_none, errW_some] <;> rfl) | (simp [*, errW_none, errW_some] <;> rfl), by first | exact Kd.R_nil _ _ _ _ _ | exact Kd.N_nil _ _ _ _ _ | exact Kd.V_nil _ _ _ _ _ | exact Kd.Q_nil _ _ _ _ _ | exact Kd.S_nil _ _ _ _ _, by repeat (first | (with_reducible first | exact HB.out | apply below_alloc | apply pw_below_drewN | apply below_drew1) | exact HB.out)⟩
  · rw [if_neg c2] at H
    have c2b0 : decide (1000 < (a0.size : Int)) = false := decide_eq_false c2
    have c2b1 : decide (1000 < a0.size) = false := decide_eq_false (by omega)
    clear c2
    replace H := Option.bind_eq_some_iff.mp H
    obtain ⟨⟨t101, t102, t103, t106, t107⟩, A30, H⟩ := H
    replace H : (if t107 = true then (if t106.toList = ([] : List UInt8) then ((impl_comb_text.f k t101 t102 t103).bind fun t109 => (if t109.toList = a0.toList then ((impl_comb_goodNodes.f k t101 t102 t103).bind fun bt110 => (some (bt110.1, bt110.2))) else (some (([] : List (S51)), false)))) else (some (([] : List (S51)), false))) else (some (([] : List (S51)), false))) = some (r1, r2) := H
    have A3 := aM A30
    clear A30
    by_cases c4 : t107 = true
    · subst c4
      have H1 : (if t106.toList = ([] : List UInt8) then ((impl_comb_text.f k t101 t102 t103).bind fun t109 => (if t109.toList = a0.toList then ((impl_comb_goodNodes.f k t101 t102 t103).bind fun bt110 => (some (bt110.1, bt110.2))) else (some (([] : List (S51)), false)))) else (some (([] : List (S51)), false))) = some (r1, r2) := by rw [if_pos rfl] at H; exact H
      clear H
      have H := H1
      clear H1
      by_cases c5 : t106.toList = ([] : List UInt8)
      · rw [if_pos c5] at H
        have c5b0 : (t106.toList == ([] : List UInt8)) = true := beq_iff_eq.mpr c5
        have c5b1 : (t106.toList != ([] : List UInt8)) = false := bne_eq_false_iff_eq.mpr c5
        clear c5
        replace H := Option.bind_eq_some_iff.mp H
        obtain ⟨t109, A60, H⟩ := H
        replace H : (if t109.toList = a0.toList then ((impl_comb_goodNodes.f k t101 t102 t103).bind fun bt110 => (some (bt110.1, bt110.2))) else (some (([] : List (S51)), false))) = some (r1, r2) := H
        have A6 := aM A60
        clear A60
        by_cases c7 : t109.toList = a0.toList
        · rw [if_pos c7] at H
          have c7b0 : (t109.toList == a0.toList) = true := beq_iff_eq.mpr c7
          have c7b1 : (t109.toList != a0.toList) = false := bne_eq_false_iff_eq.mpr c7
          clear c7
          replace H := Option.bind_eq_some_iff.mp H
          obtain ⟨⟨t110, t113⟩, A80, H⟩ := H
          replace H : (some (t110, t113)) = some (r1, r2) := H
          have A8 := aM A80
          clear A80
          simp only [Option.some.injEq, Prod.mk.injEq] at H
          obtain ⟨rfl, rfl⟩ := H
          go_enter Tryd.func18, Tryd.ntmps18
          go_wp2_with (first | ((with_reducible refine gate_callee (f := 41) rfl ?_); refine goesL_ (some 12) rfl rfl Tryd.func41 (by kernel_rfl) rfl #[.string a0, .int .i64 1] rfl (by (try simp only [List.map_toArray, List.map_cons, List.map_nil]); first | done | rfl | (simp only [List.length_drop, List.length_take]; rfl)) ?_; (with_reducible refine (impl_combRead.calls k a0 1 t101 t102 t103 t106 true _ A3.out (HE.out.below (by repeat (first | (with_reducible first | exact HB.out | apply below_alloc | apply pw_below_drewN | apply below_drew1) | exact HB.out)))).mono ?_); rintro e w9 ⟨v104, rfl, ho0, hb⟩; refine ⟨_, rfl, ?_⟩; have n0_ := aM (Kd.N_lower (Kd.N_mono (ok' := fun k_ => True) ho0 (fun k_ hk_ => trivial)) (below_size (by repeat (first | (with_reducible first | exact HB.out | apply below_alloc | apply pw_below_drewN | apply below_drew1) | exact HB.out)))); have n1_ := aM (below_step (by repeat (first | (with_reducible first | exact HB.out | apply below_alloc | apply pw_below_drewN | apply below_drew1) | exact HB.out)) hb); clear HB; have HO105 := n0_; have HB := n1_; clear n0_ n1_; (try clear hb); (try clear hb2); (try clear hk); (try clear hi); (try clear ho0)) | ((with_reducible refine gate_dst (N := 4) rfl ?_); refine box_event ?hg (N := 4) ?hd (cs := #[.int .i64 0, .int .i64 0, .slice none 0 0]) (t := 56) ?hr ?_; (case hd => rfl); (case hg => rfl); (case hr => first | (go_simp; done) | (go_simp; rfl)); intro gb108 hg w10 hbox hb; have n0_ := aM (Kd.N_below (Kd.N_elderB (by (with_reducible repeat (first | apply Kd.N_alloc | apply Kd.N_drewN | apply Kd.N_drew)); exact HO105.out) gb108 (Nat.le_of_eq hg.symm)) hb); have n1_ := aM (below_step (by repeat (first | (with_reducible first | exact HB.out | apply below_alloc | apply pw_below_drewN | apply below_drew1) | exact HB.out)) hb); have n2_ := aM (hbox); have n3_ := aM ((by rw [hg]; exact (below_size (by repeat (first | (with_reducible first | exact HB.out | apply below_alloc | apply pw_below_drewN | apply below_drew1) | exact HB.out))) : w.heap.size ≤ gb108)); have n4_ := aM ((by rw [hg]; exact (below_size (by repeat (first | (with_reducible first | exact HB.out | apply below_alloc | apply pw_below_drewN | apply below_drew1) | exact HB.out))) : w.heap.size ≤ gb108)); clear HO105; clear HB; have HO105 := n0_; have HB := n1_; have BK108 := n2_; have GW108 := n3_; have GE108 := n4_; clear n0_ n1_ n2_ n3_ n4_; clear hb hbox hg; have hcz11_0 : w10.cell? ⟨gb108, 0, none⟩ = some (.int .i64 0) := (blk_cell BK108.out 0).trans rfl; have hcz11_1 : w10.cell? ⟨gb108, 1, none⟩ = some (.int .i64 0) := (blk_cell BK108.out 1).trans rfl; have hcz11_2 : w10.cell? ⟨gb108, 2, none⟩ = some (.slice none 0 0) := (blk_cell BK108.out 2).trans rfl; have hfz11_0 := blk_frozen BK108.out 0; have hfz11_1 := blk_frozen BK108.out 1; have hfz11_2 := blk_frozen BK108.out 2; obtain ⟨Ao12, co12, eo12⟩ := Kd.N_slice HO105.out; subst eo12) | (go_at_call 30; (with_reducible refine (impl_comb_text.calls k t101 t102 _ _ t103 t109 _ ?side1 ?side2 A6.out (HE.out.below (by repeat (first | (with_reducible first | exact HB.out | apply below_alloc | apply pw_below_drewN | apply below_drew1 | refine below_set ?_ GE108.out) | exact HB.out))).tab).mono ?_); (case side1 => refine (Kd.N_reads' (e := 56) (base := w.heap.size) (ok := fun k_ => (True ∧ k_ ≠ gb108)) (n := t103.length) (c := co12) ?_).2.2; exact (by (with_reducible repeat (first | apply Kd.N_alloc | apply Kd.N_drewN | apply Kd.N_drew)); exact (Kd.N_mono (Kd.N_far (p := ⟨gb108, 2, none⟩) (Kd.N_far (p := ⟨gb108, 1, none⟩) (Kd.N_far (p := ⟨gb108, 0, none⟩) (Kd.N_mono HO105.out (fun k_ hk => (⟨hk, hk.2⟩ : _ ∧ k_ ≠ gb108))) (fun _ hk => hk.2) (.int .i64 t101)) (fun _ hk => hk.2) (.int .i64 t102)) (fun _ hk => hk.2) (.slice Ao12 t103.length co12)) (fun _ h_ => h_.1)))); (case side2 => exact (Kd.N_reads' HO105.out).2.1); rintro e w13 ⟨rfl, hb⟩; have n0_ := aM (Kd.N_below (by (with_reducible repeat (first | apply Kd.N_alloc | apply Kd.N_drewN | apply Kd.N_drew)); exact (Kd.N_mono (Kd.N_far (p := ⟨gb108, 2, none⟩) (Kd.N_far (p := ⟨gb108, 1, none⟩) (Kd.N_far (p := ⟨gb108, 0, none⟩) (Kd.N_mono HO105.out (fun k_ hk => (⟨hk, hk.2⟩ : _ ∧ k_ ≠ gb108))) (fun _ hk => hk.2) (.int .i64 t101)) (fun _ hk => hk.2) (.int .i64 t102)) (fun _ hk => hk.2) (.slice Ao12 t103.length co12)) (fun _ h_ => h_.1))) hb); have n1_ := aM (blk_below (g := gb108) (o := .cells #[.int .i64 t101, .int .i64 t102, .slice Ao12 t103.length co12] 56 (0, 0)) (by (with_reducible repeat (first | refine bN ?_ _ | refine bD ?_ | refine bA ?_ _)); refine blk_put (cs := #[.int .i64 t101, .int .i64 t102, .slice none 0 0]) ?_ 2 _ rfl; (with_reducible repeat (first | refine bN ?_ _ | refine bD ?_ | refine bA ?_ _)); refine blk_put (cs := #[.int .i64 t101, .int .i64 0, .slice none 0 0]) ?_ 1 _ rfl; (with_reducible repeat (first | refine bN ?_ _ | refine bD ?_ | refine bA ?_ _)); refine blk_put (cs := #[.int .i64 0, .int .i64 0, .slice none 0 0]) ?_ 0 _ rfl; (with_reducible repeat (first | refine bN ?_ _ | refine bD ?_ | refine bA ?_ _)); exact BK108.out) hb); have n2_ := aM (below_step (by repeat (first | (with_reducible first | exact HB.out | apply below_alloc | apply pw_below_drewN | apply below_drew1 | refine below_set ?_ GE108.out) | exact HB.out)) hb); clear HO105; clear BK108; clear HB; have HO105 := n0_; have BK108 := n1_; have HB := n2_; clear n0_ n1_ n2_; (try clear hb); (try clear hb2); (try clear hk); (try clear hi); have hcz14_0 : w13.cell? ⟨gb108, 0, none⟩ = some (.int .i64 t101) := (blk_cell BK108.out 0).trans rfl; have hcz14_1 : w13.cell? ⟨gb108, 1, none⟩ = some (.int .i64 t102) := (blk_cell BK108.out 1).trans rfl; have hcz14_2 : w13.cell? ⟨gb108, 2, none⟩ = some (.slice Ao12 t103.length co12) := (blk_cell BK108.out 2).trans rfl; have hfz14_0 := blk_frozen BK108.out 0; have hfz14_1 := blk_frozen BK108.out 1; have hfz14_2 := blk_frozen BK108.out 2) | ((with_reducible refine gate_callee (f := 42) rfl ?_); refine goesL_ (some 29) rfl rfl Tryd.func42 (by kernel_rfl) rfl #[.agg #[.int .i64 t101, .int .i64 t102, .slice Ao12 t103.length co12]] rfl (by (try simp only [List.map_toArray, List.map_cons, List.map_nil]); first | done | rfl | (simp only [List.length_drop, List.length_take]; rfl)) ?_; (with_reducible refine (impl_comb_goodNodes.calls k t101 t102 _ _ t103 t110 t113 _ ?side1 ?side2 A8.out).mono ?_); (case side1 => repeat (first | exact (Kd.N_reads' HO105.out).2.2 | (with_reducible refine Kd.C_alloc ?_ _) | (with_reducible refine Kd.C_drewN ?_ _) | (with_reducible refine Kd.C_drew ?_))); (case side2 => exact (Kd.N_reads' HO105.out).2.1); rintro e w15 ⟨v111, rfl, ho0, hb⟩; refine ⟨_, rfl, ?_⟩; have n0_ := aM (Kd.N_elder' (by (with_reducible repeat (first | apply Kd.N_alloc | apply Kd.N_drewN | apply Kd.N_drew)); exact HO105.out) (Kd.R_base ho0) hb); have n1_ := aM (Kd.R_lower ho0 (below_size (by repeat (first | (with_reducible first | exact HB.out | apply below_alloc | apply pw_below_drewN | apply below_drew1 | refine below_set ?_ GE108.out) | exact HB.out)))); have n2_ := aM (blk_below (g := gb108) (o := .cells #[.int .i64 t101, .int .i64 t102, .slice Ao12 t103.length co12] 56 (0, 0)) (by (with_reducible repeat (first | refine bN ?_ _ | refine bD ?_ | refine bA ?_ _)); exact BK108.out) hb); have n3_ := aM (below_step (by repeat (first | (with_reducible first | exact HB.out | apply below_alloc | apply pw_below_drewN | apply below_drew1 | refine below_set ?_ GE108.out) | exact HB.out)) hb); clear HO105; clear BK108; clear HB; have HO105 := n0_; have HO112 := n1_; have BK108 := n2_; have HB := n3_; clear n0_ n1_ n2_ n3_; (try clear hb); (try clear hb2); (try clear hk); (try clear hi); (try clear ho0)))
          go_ret2
          exact ⟨_, by first | rfl | (simp [errW_none, errW_some] <;> rfl) | (simp [*, errW_none, errW_some] <;> rfl), by (with_reducible repeat (first | apply rA | apply rN | apply rD)); exact HO112.out, by repeat (first | (with_reducible first | exact HB.out | apply below_alloc | apply pw_below_drewN | apply below_drew1 | refine below_set ?_ GE108.out) | exact HB.out)⟩
        · rw [if_neg c7] at H
          have c7b0 : (t109.toList == a0.toList) = false := beq_eq_false_iff_ne.mpr c7
          have c7b1 : (t109.toList != a0.toList) = true := bne_iff_ne.mpr c7
          simp only [Option.some.injEq, Prod.mk.injEq] at H
          obtain ⟨rfl, rfl⟩ := H
          go_enter Tryd.func18, Tryd.ntmps18
          go_wp2_with (first | ((with_reducible refine gate_callee (f := 41) rfl ?_); refine goesL_ (some 12) rfl rfl Tryd.func41 (by kernel_rfl) rfl #[.string a0, .int .i64 1] rfl (by (try simp only [List.map_toArray, List.map_cons, List.map_nil]); first | done | rfl | (simp only [List.length_drop, List.length_take]; rfl)) ?_; (with_reducible refine (impl_combRead.calls k a0 1 t101 t102 t103 t106 true _ A3.out (HE.out.below (by repeat (first | (with_reducible first | exact HB.out | apply below_alloc | apply pw_below_drewN | apply below_drew1) | exact HB.out)))).mono ?_); rintro e w16 ⟨v104, rfl, ho0, hb⟩; refine ⟨_, rfl, ?_⟩; have n0_ := aM (Kd.N_lower (Kd.N_mono (ok' := fun k_ => True) ho0 (fun k_ hk_ => trivial)) (below_size (by repeat (first | (with_reducible first | exact HB.out | apply below_alloc | apply pw_below_drewN | apply below_drew1) | exact HB.out)))); have n1_ := aM (below_step (by repeat (first | (with_reducible first | exact HB.out | apply below_alloc | apply pw_below_drewN | apply below_drew1) | exact HB.out)) hb); clear HB; have HO105 := n0_; have HB := n1_; clear n0_ n1_; (try clear hb); (try clear hb2); (try clear hk); (try clear hi); (try clear ho0)) | ((with_reducible refine gate_dst (N := 4) rfl ?_); refine box_event ?hg (N := 4) ?hd (cs := #[.int .i64 0, .int .i64 0, .slice none 0 0]) (t := 56) ?hr ?_; (case hd => rfl); (case hg => rfl); (case hr => first | (go_simp; done) | (go_simp; rfl)); intro gb108 hg w17 hbox hb; have n0_ := aM (Kd.N_below (Kd.N_elderB (by (with_reducible repeat (first | apply Kd.N_alloc | apply Kd.N_drewN | apply Kd.N_drew)); exact HO105.out) gb108 (Nat.le_of_eq hg.symm)) hb); have n1_ := aM (below_step (by repeat (first | (with_reducible first | exact HB.out | apply below_alloc | apply pw_below_drewN | apply below_drew1) | exact HB.out)) hb); have n2_ := aM (hbox); have n3_ := aM ((by rw [hg]; exact (below_size (by repeat (first | (with_reducible first | exact HB.out | apply below_alloc | apply pw_below_drewN | apply below_drew1) | exact HB.out))) : w.heap.size ≤ gb108)); have n4_ := aM ((by rw [hg]; exact (below_size (by repeat (first | (with_reducible first | exact HB.out | apply below_alloc | apply pw_below_drewN | apply below_drew1) | exact HB.out))) : w.heap.size ≤ gb108)); clear HO105; clear HB; have HO105 := n0_; have HB := n1_; have BK108 := n2_; have GW108 := n3_; have GE108 := n4_; clear n0_ n1_ n2_ n3_ n4_; clear hb hbox hg; have hcz18_0 : w17.cell? ⟨gb108, 0, none⟩ = some (.int .i64 0) := (blk_cell BK108.out 0).trans rfl; have hcz18_1 : w17.cell? ⟨gb108, 1, none⟩ = some (.int .i64 0) := (blk_cell BK108.out 1).trans rfl; have hcz18_2 : w17.cell? ⟨gb108, 2, none⟩ = some (.slice none 0 0) := (blk_cell BK108.out 2).trans rfl; have hfz18_0 := blk_frozen BK108.out 0; have hfz18_1 := blk_frozen BK108.out 1; have hfz18_2 := blk_frozen BK108.out 2; obtain ⟨Ao19, co19, eo19⟩ := Kd.N_slice HO105.out; subst eo19) | (go_at_call 30; (with_reducible refine (impl_comb_text.calls k t101 t102 _ _ t103 t109 _ ?side1 ?side2 A6.out (HE.out.below (by repeat (first | (with_reducible first | exact HB.out | apply below_alloc | apply pw_below_drewN | apply below_drew1 | refine below_set ?_ GE108.out) | exact HB.out))).tab).mono ?_); (case side1 => refine (Kd.N_reads' (e := 56) (base := w.heap.size) (ok := fun k_ => (True ∧ k_ ≠ gb108)) (n := t103.length) (c := co19) ?_).2.2; exact (by (with_reducible repeat (first | apply Kd.N_alloc | apply Kd.N_drewN | apply Kd.N_drew)); exact (Kd.N_mono (Kd.N_far (p := ⟨gb108, 2, none⟩) (Kd.N_far (p := ⟨gb108, 1, none⟩) (Kd.N_far (p := ⟨gb108, 0, none⟩) (Kd.N_mono HO105.out (fun k_ hk => (⟨hk, hk.2⟩ : _ ∧ k_ ≠ gb108))) (fun _ hk => hk.2) (.int .i64 t101)) (fun _ hk => hk.2) (.int .i64 t102)) (fun _ hk => hk.2) (.slice Ao19 t103.length co19)) (fun _ h_ => h_.1)))); (case side2 => exact (Kd.N_reads' HO105.out).2.1); rintro e w20 ⟨rfl, hb⟩; have n0_ := aM (Kd.N_below (by (with_reducible repeat (first | apply Kd.N_alloc | apply Kd.N_drewN | apply Kd.N_drew)); exact (Kd.N_mono (Kd.N_far (p := ⟨gb108, 2, none⟩) (Kd.N_far (p := ⟨gb108, 1, none⟩) (Kd.N_far (p := ⟨gb108, 0, none⟩) (Kd.N_mono HO105.out (fun k_ hk => (⟨hk, hk.2⟩ : _ ∧ k_ ≠ gb108))) (fun _ hk => hk.2) (.int .i64 t101)) (fun _ hk => hk.2) (.int .i64 t102)) (fun _ hk => hk.2) (.slice Ao19 t103.length co19)) (fun _ h_ => h_.1))) hb); have n1_ := aM (blk_below (g := gb108) (o := .cells #[.int .i64 t101, .int .i64 t102, .slice Ao19 t103.length co19] 56 (0, 0)) (by (with_reducible repeat (first | refine bN ?_ _ | refine bD ?_ | refine bA ?_ _)); refine blk_put (cs := #[.int .i64 t101, .int .i64 t102, .slice none 0 0]) ?_ 2 _ rfl; (with_reducible repeat (first | refine bN ?_ _ | refine bD ?_ | refine bA ?_ _)); refine blk_put (cs := #[.int .i64 t101, .int .i64 0, .slice none 0 0]) ?_ 1 _ rfl; (with_reducible repeat (first | refine bN ?_ _ | refine bD ?_ | refine bA ?_ _)); refine blk_put (cs := #[.int .i64 0, .int .i64 0, .slice none 0 0]) ?_ 0 _ rfl; (with_reducible repeat (first | refine bN ?_ _ | refine bD ?_ | refine bA ?_ _)); exact BK108.out) hb); have n2_ := aM (below_step (by repeat (first | (with_reducible first | exact HB.out | apply below_alloc | apply pw_below_drewN | apply below_drew1 | refine below_set ?_ GE108.out) | exact HB.out)) hb); clear HO105; clear BK108; clear HB; have HO105 := n0_; have BK108 := n1_; have HB := n2_; clear n0_ n1_ n2_; (try clear hb); (try clear hb2); (try clear hk); (try clear hi)))
          go_ret2
          exact ⟨_, by first | rfl | (simp [errW_none, errW_some] <;> rfl) | (simp [*, errW_none, errW_some] <;> rfl), by first | exact Kd.R_nil _ _ _ _ _ | exact Kd.N_nil _ _ _ _ _ | exact Kd.V_nil _ _ _ _ _ | exact Kd.Q_nil _ _ _ _ _ | exact Kd.S_nil _ _ _ _ _, by repeat (first | (with_reducible first | exact HB.out | apply below_alloc | apply pw_below_drewN | apply below_drew1 | refine below_set ?_ GE108.out) | exact HB.out)⟩
      · rw [if_neg c5] at H
        have c5b0 : (t106.toList == ([] : List UInt8)) = false := beq_eq_false_iff_ne.mpr c5
        have c5b1 : (t106.toList != ([] : List UInt8)) = true := bne_iff_ne.mpr c5
        simp only [Option.some.injEq, Prod.mk.injEq] at H
        obtain ⟨rfl, rfl⟩ := H
        go_enter Tryd.func18, Tryd.ntmps18
        go_wp2_with (first | ((with_reducible refine gate_callee (f := 41) rfl ?_); refine goesL_ (some 12) rfl rfl Tryd.func41 (by kernel_rfl) rfl #[.string a0, .int .i64 1] rfl (by (try simp only [List.map_toArray, List.map_cons, List.map_nil]); first | done | rfl | (simp only [List.length_drop, List.length_take]; rfl)) ?_; (with_reducible refine (impl_combRead.calls k a0 1 t101 t102 t103 t106 true _ A3.out (HE.out.below (by repeat (first | (with_reducible first | exact HB.out | apply below_alloc | apply pw_below_drewN | apply below_drew1) | exact HB.out)))).mono ?_); rintro e w21 ⟨v104, rfl, ho0, hb⟩; refine ⟨_, rfl, ?_⟩; have n0_ := aM (Kd.N_lower (Kd.N_mono (ok' := fun k_ => True) ho0 (fun k_ hk_ => trivial)) (below_size (by repeat (first | (with_reducible first | exact HB.out | apply below_alloc | apply pw_below_drewN | apply below_drew1) | exact HB.out)))); have n1_ := aM (below_step (by repeat (first | (with_reducible first | exact HB.out | apply below_alloc | apply pw_below_drewN | apply below_drew1) | exact HB.out)) hb); clear HB; have HO105 := n0_; have HB := n1_; clear n0_ n1_; (try clear hb); (try clear hb2); (try clear hk); (try clear hi); (try clear ho0)) | ((with_reducible refine gate_dst (N := 4) rfl ?_); refine box_event ?hg (N := 4) ?hd (cs := #[.int .i64 0, .int .i64 0, .slice none 0 0]) (t := 56) ?hr ?_; (case hd => rfl); (case hg => rfl); (case hr => first | (go_simp; done) | (go_simp; rfl)); intro gb108 hg w22 hbox hb; have n0_ := aM (Kd.N_below (Kd.N_elderB (by (with_reducible repeat (first | apply Kd.N_alloc | apply Kd.N_drewN | apply Kd.N_drew)); exact HO105.out) gb108 (Nat.le_of_eq hg.symm)) hb); have n1_ := aM (below_step (by repeat (first | (with_reducible first | exact HB.out | apply below_alloc | apply pw_below_drewN | apply below_drew1) | exact HB.out)) hb); have n2_ := aM (hbox); have n3_ := aM ((by rw [hg]; exact (below_size (by repeat (first | (with_reducible first | exact HB.out | apply below_alloc | apply pw_below_drewN | apply below_drew1) | exact HB.out))) : w.heap.size ≤ gb108)); have n4_ := aM ((by rw [hg]; exact (below_size (by repeat (first | (with_reducible first | exact HB.out | apply below_alloc | apply pw_below_drewN | apply below_drew1) | exact HB.out))) : w.heap.size ≤ gb108)); clear HO105; clear HB; have HO105 := n0_; have HB := n1_; have BK108 := n2_; have GW108 := n3_; have GE108 := n4_; clear n0_ n1_ n2_ n3_ n4_; clear hb hbox hg; have hcz23_0 : w22.cell? ⟨gb108, 0, none⟩ = some (.int .i64 0) := (blk_cell BK108.out 0).trans rfl; have hcz23_1 : w22.cell? ⟨gb108, 1, none⟩ = some (.int .i64 0) := (blk_cell BK108.out 1).trans rfl; have hcz23_2 : w22.cell? ⟨gb108, 2, none⟩ = some (.slice none 0 0) := (blk_cell BK108.out 2).trans rfl; have hfz23_0 := blk_frozen BK108.out 0; have hfz23_1 := blk_frozen BK108.out 1; have hfz23_2 := blk_frozen BK108.out 2; obtain ⟨Ao24, co24, eo24⟩ := Kd.N_slice HO105.out; subst eo24))
        go_ret2
        exact ⟨_, by first | rfl | (simp [errW_none, errW_some] <;> rfl) | (simp [*, errW_none, errW_some] <;> rfl), by first | exact Kd.R_nil _ _ _ _ _ | exact Kd.N_nil _ _ _ _ _ | exact Kd.V_nil _ _ _ _ _ | exact Kd.Q_nil _ _ _ _ _ | exact Kd.S_nil _ _ _ _ _, by repeat (first | (with_reducible first | exact HB.out | apply below_alloc | apply pw_below_drewN | apply below_drew1 | refine below_set ?_ GE108.out) | exact HB.out)⟩
    · replace c4 := Bool.eq_false_iff.mpr c4
      subst c4
      have H1 : (some (([] : List (S51)), false)) = some (r1, r2) := by rw [if_neg (show ¬ (false = true) by decide)] at H; exact H
      clear H
      have H := H1
      clear H1
      simp only [Option.some.injEq, Prod.mk.injEq] at H
      obtain ⟨rfl, rfl⟩ := H
      go_enter Tryd.func18, Tryd.ntmps18
      go_wp2_with (first | ((with_reducible refine gate_callee (f := 41) rfl ?_); refine goesL_ (some 12) rfl rfl Tryd.func41 (by kernel_rfl) rfl #[.string a0, .int .i64 1] rfl (by (try simp only [List.map_toArray, List.map_cons, List.map_nil]); first | done | rfl | (simp only [List.length_drop, List.length_take]; rfl)) ?_; (with_reducible refine (impl_combRead.calls k a0 1 t101 t102 t103 t106 false _ A3.out (HE.out.below (by repeat (first | (with_reducible first | exact HB.out | apply below_alloc | apply pw_below_drewN | apply below_drew1) | exact HB.out)))).mono ?_); rintro e w25 ⟨v104, rfl, ho0, hb⟩; refine ⟨_, rfl, ?_⟩; have n0_ := aM (Kd.N_lower (Kd.N_mono (ok' := fun k_ => True) ho0 (fun k_ hk_ => trivial)) (below_size (by repeat (first | (with_reducible first | exact HB.out | apply below_alloc | apply pw_below_drewN | apply below_drew1) | exact HB.out)))); have n1_ := aM (below_step (by repeat (first | (with_reducible first | exact HB.out | apply below_alloc | apply pw_below_drewN | apply below_drew1) | exact HB.out)) hb); clear HB; have HO105 := n0_; have HB := n1_; clear n0_ n1_; (try clear hb); (try clear hb2); (try clear hk); (try clear hi); (try clear ho0)) | ((with_reducible refine gate_dst (N := 4) rfl ?_); refine box_event ?hg (N := 4) ?hd (cs := #[.int .i64 0, .int .i64 0, .slice none 0 0]) (t := 56) ?hr ?_; (case hd => rfl); (case hg => rfl); (case hr => first | (go_simp; done) | (go_simp; rfl)); intro gb108 hg w26 hbox hb; have n0_ := aM (Kd.N_below (Kd.N_elderB (by (with_reducible repeat (first | apply Kd.N_alloc | apply Kd.N_drewN | apply Kd.N_drew)); exact HO105.out) gb108 (Nat.le_of_eq hg.symm)) hb); have n1_ := aM (below_step (by repeat (first | (with_reducible first | exact HB.out | apply below_alloc | apply pw_below_drewN | apply below_drew1) | exact HB.out)) hb); have n2_ := aM (hbox); have n3_ := aM ((by rw [hg]; exact (below_size (by repeat (first | (with_reducible first | exact HB.out | apply below_alloc | apply pw_below_drewN | apply below_drew1) | exact HB.out))) : w.heap.size ≤ gb108)); have n4_ := aM ((by rw [hg]; exact (below_size (by repeat (first | (with_reducible first | exact HB.out | apply below_alloc | apply pw_below_drewN | apply below_drew1) | exact HB.out))) : w.heap.size ≤ gb108)); clear HO105; clear HB; have HO105 := n0_; have HB := n1_; have BK108 := n2_; have GW108 := n3_; have GE108 := n4_; clear n0_ n1_ n2_ n3_ n4_; clear hb hbox hg; have hcz27_0 : w26.cell? ⟨gb108, 0, none⟩ = some (.int .i64 0) := (blk_cell BK108.out 0).trans rfl; have hcz27_1 : w26.cell? ⟨gb108, 1, none⟩ = some (.int .i64 0) := (blk_cell BK108.out 1).trans rfl; have hcz27_2 : w26.cell? ⟨gb108, 2, none⟩ = some (.slice none 0 0) := (blk_cell BK108.out 2).trans rfl; have hfz27_0 := blk_frozen BK108.out 0; have hfz27_1 := blk_frozen BK108.out 1; have hfz27_2 := blk_frozen BK108.out 2; obtain ⟨Ao28, co28, eo28⟩ := Kd.N_slice HO105.out; subst eo28))
      go_ret2
      exact ⟨_, by first | rfl | (simp [errW_none, errW_some] <;> rfl) | (simp [*, errW_none, errW_some] <;> rfl), by first | exact Kd.R_nil _ _ _ _ _ | exact Kd.N_nil _ _ _ _ _ | exact Kd.V_nil _ _ _ _ _ | exact Kd.Q_nil _ _ _ _ _ | exact Kd.S_nil _ _ _ _ _, by repeat (first | (with_reducible first | exact HB.out | apply below_alloc | apply pw_below_drewN | apply below_drew1 | refine below_set ?_ GE108.out) | exact HB.out)⟩

end Go.Proofs.YtcjhhdecckcibaaDoor.G

namespace Go.Proofs.YtcjhhdecckcibaaDoor.G
open Go.RowKit Go.Proofs.YtcjhhdecckcibaaDoorW.PrintWords Go.Proofs.YtcjhhdecckcibaaDoorW.PrintLast Go.Proofs.YtcjhhdecckcibaaDoorW.PrintMore Go.Proofs.YtcjhhdecckcibaaDoor.Short
attribute [local go_sem] max2_int min2_int max_two min_two max_three min_three max_four min_four   -- for this text's walks alone
set_option linter.unusedVariables false
set_option linter.unusedSimpArgs false

def laws_markCombS.l0 : Nat → List (S51) → Int → Int → Option (Int × (List (S51)))
  | 0, _, _, _ => none
  | k + 1, x0, x1, x5 => if x5 < (x0.length : Int) then (if 0 ≤ x5 then ((some (x0.set (x5 : Int).toNat (⟨x1, (rd_T51 x0 x5).f1, (rd_T51 x0 x5).f2⟩ : S51) : List (S51))).bind fun y101 => ((some (y101.set (x5 : Int).toNat (⟨(rd_T51 y101 x5).f0, wrap64 (x1 + 1), (rd_T51 y101 x5).f2⟩ : S51) : List (S51))).bind fun y102 => (laws_markCombS.l0 k (y102.set (x5 : Int).toNat (⟨(rd_T51 y102 x5).f0, (rd_T51 y102 x5).f1, wrap64 ((wrap64 (x1 + 1)) + 1)⟩ : S51)) (wrap64 ((wrap64 ((wrap64 (x1 + 1)) + 1)) + 1)) (wrap64 (x5 + 1))))) else (none)) else (some (x1, x0))
def laws_markCombS.f (k : Nat) (l0 : List (S51)) (a1 : Int) : Option (Int × (List (S51))) := laws_markCombS.l0 k l0 a1 0
set_option maxHeartbeats 8000000 in
set_option maxRecDepth 100000 in
theorem laws_markCombS.calls (k : Nat) (P0_ : Nat → Prop) (u9000_ : Value) (l0 : List (S51)) (a1 : Int) (r1 : Int) (r2 : List (S51)) (w0 w : World) (hB : Below w0.heap.size w0 w) (ho0 : Kd.R k51 51 w w0.heap.size P0_ u9000_ l0) (h : laws_markCombS.f k l0 a1 = some (r1, r2)) :
    Calls Tryd.prog 19 #[u9000_, .int .i64 a1] w fun e w' => e = .returned (.int .i64 r1) ∧ Kd.R k51 51 w' w0.heap.size (fun k_ => (P0_ k_ ∨ w.heap.size ≤ k_)) u9000_ r2 ∧ Below w0.heap.size w0 w' ∧ Kept w w' (fun k_ => P0_ k_) := by
  have HO0 := aM (show Kd.R k51 51 w w0.heap.size (fun k_ => (P0_ k_ ∨ w.heap.size ≤ k_)) u9000_ l0 from Kd.R_mono ho0 (fun k_ hk => (.inl hk)))
  have HK := aM (Kept.refl w (fun k_ => P0_ k_))
  have HW0 := aM hB.size
  have HB := aM hB
  clear hB
  have H : (laws_markCombS.l0 k l0 a1 0) = some (r1, r2) := h
  clear h
  have H' := aM H
  clear H
  go_enter Tryd.func19, Tryd.ntmps19
  go_wp2
  go_loopg [1, 5] k (fun kq v1 v5 w' => ∃ (x0_1 : List (S51)) (x1_1 : Int) (x5_1 : Int), v1 = .int .i64 x1_1 ∧ v5 = .int .i64 x5_1 ∧ Aside0 (laws_markCombS.l0 kq x0_1 x1_1 x5_1 = some (r1, r2)) ∧ Aside0 (kq ≤ k) ∧ Aside0 (Kd.R k51 51 w' w0.heap.size (fun k_ => (P0_ k_ ∨ w.heap.size ≤ k_)) u9000_ x0_1) ∧ Aside0 (Kept w w' (fun k_ => P0_ k_)) ∧ Aside0 (Below w0.heap.size w0 w'))
  case atStart => exact ⟨(l0), (a1), (0), (by first | rfl | (simp; done) | (simp [*]; done)), (by first | rfl | (simp; done) | (simp [*]; done)), H', ⟨Nat.le_refl _⟩, ⟨by (with_reducible repeat (first | apply rA | apply rN | apply rD)); exact HO0.out⟩, ⟨by repeat (first | (with_reducible first | exact HK.out | apply Kept.alloc | apply Kept.drewN | apply Kept.drew) | exact HK.out)⟩, ⟨by repeat (first | (with_reducible first | exact HB.out | apply below_alloc | apply pw_below_drewN | apply below_drew1) | exact HB.out)⟩⟩
  case round =>
    clear H'
    try clear c1
    try clear p2
    obtain ⟨x0_1, x1_1, x5_1, rfl, rfl, HA, HK1, HO_0, HK, HB⟩ := hrel
    cases gk with
    | zero => exact absurd HA.out (by simp [laws_markCombS.l0])
    | succ k1 =>
      have H := HA.out
      clear HA
      simp only [laws_markCombS.l0] at H
      by_cases c3 : x5_1 < (x0_1.length : Int)
      · rw [if_pos c3] at H
        have c3b0 : decide (x5_1 < (x0_1.length : Int)) = true := decide_eq_true c3
        clear c3
        by_cases c4 : 0 ≤ x5_1
        · rw [if_pos c4] at H
          have c4b0 : decide (0 ≤ x5_1) = true := decide_eq_true c4
          clear c4
          obtain ⟨y101, hy101⟩ : ∃ y_ : List (S51), y_ = (x0_1.set (x5_1 : Int).toNat (⟨x1_1, (rd_T51 x0_1 x5_1).f1, (rd_T51 x0_1 x5_1).f2⟩ : S51)) := ⟨_, rfl⟩
          replace H : ((some (y101.set (x5_1 : Int).toNat (⟨(rd_T51 y101 x5_1).f0, wrap64 (x1_1 + 1), (rd_T51 y101 x5_1).f2⟩ : S51) : List (S51))).bind fun y102 => (laws_markCombS.l0 k1 (y102.set (x5_1 : Int).toNat (⟨(rd_T51 y102 x5_1).f0, (rd_T51 y102 x5_1).f1, wrap64 ((wrap64 (x1_1 + 1)) + 1)⟩ : S51)) (wrap64 ((wrap64 ((wrap64 (x1_1 + 1)) + 1)) + 1)) (wrap64 (x5_1 + 1)))) = some (r1, r2) := by first | (rw [hy101]; with_reducible exact H) | (have H2_ := (Option.bind_some _ _).symm.trans H; rw [hy101]; with_reducible exact H2_) | (have H2_ := (Option.bind_some _ _).symm.trans H; with_reducible exact H2_) | with_reducible exact H | (rw [hy101]; exact H) | exact H
          have Ny101 := aM hy101
          clear hy101
          obtain ⟨y102, hy102⟩ : ∃ y_ : List (S51), y_ = (y101.set (x5_1 : Int).toNat (⟨(rd_T51 y101 x5_1).f0, wrap64 (x1_1 + 1), (rd_T51 y101 x5_1).f2⟩ : S51)) := ⟨_, rfl⟩
          replace H : (laws_markCombS.l0 k1 (y102.set (x5_1 : Int).toNat (⟨(rd_T51 y102 x5_1).f0, (rd_T51 y102 x5_1).f1, wrap64 ((wrap64 (x1_1 + 1)) + 1)⟩ : S51)) (wrap64 ((wrap64 ((wrap64 (x1_1 + 1)) + 1)) + 1)) (wrap64 (x5_1 + 1))) = some (r1, r2) := by first | (rw [hy102]; with_reducible exact H) | (have H2_ := (Option.bind_some _ _).symm.trans H; rw [hy102]; with_reducible exact H2_) | (have H2_ := (Option.bind_some _ _).symm.trans H; with_reducible exact H2_) | with_reducible exact H | (rw [hy102]; exact H) | exact H
          have Ny102 := aM hy102
          clear hy102
          obtain ⟨y103, hy103⟩ : ∃ y_ : List (S51), y_ = (y102.set (x5_1 : Int).toNat (⟨(rd_T51 y102 x5_1).f0, (rd_T51 y102 x5_1).f1, wrap64 ((wrap64 (x1_1 + 1)) + 1)⟩ : S51)) := ⟨_, rfl⟩
          replace H : (laws_markCombS.l0 k1 y103 (wrap64 ((wrap64 ((wrap64 (x1_1 + 1)) + 1)) + 1)) (wrap64 (x5_1 + 1))) = some (r1, r2) := by first | (rw [hy103]; with_reducible exact H) | (have H2_ := (Option.bind_some _ _).symm.trans H; rw [hy103]; with_reducible exact H2_) | (have H2_ := (Option.bind_some _ _).symm.trans H; with_reducible exact H2_) | with_reducible exact H | (rw [hy103]; exact H) | exact H
          have Ny103 := aM hy103
          clear hy103
          have H' := aM H
          clear H
          obtain ⟨Ao8, co8, eo8⟩ := Kd.R_slice HO_0.out
          subst eo8
          have p5 : 0 ≤ (x5_1 : Int) := of_decide_eq_true (by first | (with_reducible assumption) | assumption)
          have q5 : (x5_1 : Int) < ((x0_1.length : Int) : Int) := of_decide_eq_true (by first | (with_reducible assumption) | assumption)
          obtain ⟨go5, co5, eo5, gb5, gl5, cl5, HG5⟩ := Kd.R_form HO_0.out (by omega)
          (first | cases eo5 | (injection eo5 with ea_ en_ ec_; (first | subst ea_ | (injection ea_ with ea_; subst ea_)); subst ec_; clear en_))
          have GB5 := aM gb5
          have GG5 := aM HG5
          clear gb5 gl5 HG5
          have HMgo5 := aM (show (P0_ go5 ∨ w.heap.size ≤ go5) from (HO_0.out.1 _ rfl))
          obtain ⟨ce5, hcl5, hM5, hcc5, hfr5⟩ := Kd.R_elem HO_0.out z51 (x5_1 : Int) p5 q5
          obtain rfl := k51_openM hM5
          have hx5_0 : wr.cell? ⟨go5, (x5_1 : Int).toNat * 3, none⟩ = some (.int .i64 ((rd_T51 x0_1 x5_1).f0)) := hcc5 0 _ rfl
          have hx5_1 : wr.cell? ⟨go5, (x5_1 : Int).toNat * 3 + 1, none⟩ = some (.int .i64 ((rd_T51 x0_1 x5_1).f1)) := hcc5 1 _ rfl
          have hx5_2 : wr.cell? ⟨go5, (x5_1 : Int).toNat * 3 + 2, none⟩ = some (.int .i64 ((rd_T51 x0_1 x5_1).f2)) := hcc5 2 _ rfl
          have hf5_0 : wr.frozen? ⟨go5, (x5_1 : Int).toNat * 3, none⟩ = false := hfr5 0
          have hf5_1 : wr.frozen? ⟨go5, (x5_1 : Int).toNat * 3 + 1, none⟩ = false := hfr5 1
          have hf5_2 : wr.frozen? ⟨go5, (x5_1 : Int).toNat * 3 + 2, none⟩ = false := hfr5 2
          clear hcl5 hcc5 hfr5 hM5
          replace p5 := eq_true p5
          replace q5 := eq_true q5
          have HX9 := aM (show Kd.R k51 51 wr w0.heap.size (fun k_ => (P0_ k_ ∨ w.heap.size ≤ k_)) (.slice (some ⟨go5, 0, none⟩) x0_1.length co8) x0_1 from (by (with_reducible repeat (first | apply rA | apply rN | apply rD)); exact HO_0.out))
          obtain ⟨ce9, hcl9, hM9, hcc9, hfr9⟩ := Kd.R_elem HX9.out z51 (x5_1 : Int) (of_decide_eq_true (by first | (with_reducible assumption) | assumption)) (by have h_ : (x5_1 : Int) < ((x0_1.length : Int) : Int) := of_decide_eq_true (by first | (with_reducible assumption) | assumption); first | exact h_ | (have e_ := (Kd.R_reads' HO_0.out).1; omega) | simpa using h_)
          obtain rfl := k51_openM hM9
          have HP9 := Kd.R_seg HX9.out (x5_1 : Int) (of_decide_eq_true (by first | (with_reducible assumption) | assumption)) (by have h_ : (x5_1 : Int) < ((x0_1.length : Int) : Int) := of_decide_eq_true (by first | (with_reducible assumption) | assumption); first | exact h_ | (have e_ := (Kd.R_reads' HO_0.out).1; omega) | simpa using h_) (seg := [.int .i64 x1_1]) (j := 0) hcl9 hcc9 (show 1 ≤ 3 from by decide) (x' := (⟨x1_1, (rd_T51 x0_1 x5_1).f1, (rd_T51 x0_1 x5_1).f2⟩ : S51)) (k51_mkM _ _ _ (⟨x1_1, (rd_T51 x0_1 x5_1).f1, (rd_T51 x0_1 x5_1).f2⟩ : S51) ) (fun _ hk => hk)
          have hx9_0 := hcc9 0 _ rfl
          (try simp only [show (k51).sz = 3 from rfl, Nat.mul_one, Nat.add_zero] at hx9_0)
          have hf9_0 := hfr9 0
          (try simp only [show (k51).sz = 3 from rfl, Nat.mul_one, Nat.add_zero] at hf9_0)
          clear hcl9 hcc9 hfr9 hM9
          go_wp2_with (first | ((with_reducible refine gate_store (t := 3) (p := 16) rfl ?_); refine store_event (t := 3) (p := 16) (v := ?vo_w10) (w1 := (wr.setCell ⟨go5, (x5_1 : Int).toNat * 3, none⟩ (.int .i64 x1_1))) ?hg ?ho ?hn ?hr ?_; (case ho => rfl); (case hg => rfl); (case hn => rfl); (case hr => first | (go_simp; done) | (go_simp; rfl)); intro w10 hw; have hg : wr.grownBy w10 (some go5) := (by rw [hw]; exact HP9.2); have hp_ : Kd.R k51 51 w10 w0.heap.size (fun k_ => (P0_ k_ ∨ w.heap.size ≤ k_)) (.slice (some ⟨go5, 0, none⟩) x0_1.length co8) y101 := (by rw [hw, Ny101.out]; exact HP9.1); clear HP9; have n0_ := aM (hp_); have n1_ := aM ((by rw [hw]; exact below_set (HB.out) GB5.out : Below w0.heap.size w0 w10)); have n2_ := aM (Kept.of_grown (S := (fun k_ => P0_ k_)) hg (by repeat (first | (with_reducible first | exact HK.out | apply Kept.alloc | apply Kept.drewN | apply Kept.drew) | exact HK.out)) (fun k_ e_ => (HO_0.out.1 k_ e_))); clear HO_0; clear HB; clear HK; have HO_0 := n0_; have HB := n1_; have HK := n2_; clear n0_ n1_ n2_; clear hg hw hp_; have p6 : 0 ≤ (x5_1 : Int) := of_decide_eq_true (by first | (with_reducible assumption) | assumption); have q6 : (x5_1 : Int) < ((x0_1.length : Int) : Int) := of_decide_eq_true (by first | (with_reducible assumption) | assumption); obtain ⟨ce6, hcl6, hM6, hcc6, hfr6⟩ := Kd.R_elem HO_0.out z51 (x5_1 : Int) p6 q6; obtain rfl := k51_openM hM6; have hx6_0 : w10.cell? ⟨go5, (x5_1 : Int).toNat * 3, none⟩ = some (.int .i64 ((rd_T51 y101 x5_1).f0)) := hcc6 0 _ rfl; have hx6_1 : w10.cell? ⟨go5, (x5_1 : Int).toNat * 3 + 1, none⟩ = some (.int .i64 ((rd_T51 y101 x5_1).f1)) := hcc6 1 _ rfl; have hx6_2 : w10.cell? ⟨go5, (x5_1 : Int).toNat * 3 + 2, none⟩ = some (.int .i64 ((rd_T51 y101 x5_1).f2)) := hcc6 2 _ rfl; have hf6_0 : w10.frozen? ⟨go5, (x5_1 : Int).toNat * 3, none⟩ = false := hfr6 0; have hf6_1 : w10.frozen? ⟨go5, (x5_1 : Int).toNat * 3 + 1, none⟩ = false := hfr6 1; have hf6_2 : w10.frozen? ⟨go5, (x5_1 : Int).toNat * 3 + 2, none⟩ = false := hfr6 2; clear hcl6 hcc6 hfr6 hM6; replace p6 := eq_true p6; replace q6 := eq_true q6; have HX11 := aM (show Kd.R k51 51 w10 w0.heap.size (fun k_ => (P0_ k_ ∨ w.heap.size ≤ k_)) (.slice (some ⟨go5, 0, none⟩) x0_1.length co8) y101 from (by (with_reducible repeat (first | apply rA | apply rN | apply rD)); exact HO_0.out)); obtain ⟨ce11, hcl11, hM11, hcc11, hfr11⟩ := Kd.R_elem HX11.out z51 (x5_1 : Int) (of_decide_eq_true (by first | (with_reducible assumption) | assumption)) (by have h_ : (x5_1 : Int) < ((x0_1.length : Int) : Int) := of_decide_eq_true (by first | (with_reducible assumption) | assumption); first | exact h_ | (have e_ := (Kd.R_reads' HO_0.out).1; omega) | simpa using h_); obtain rfl := k51_openM hM11; have HP11 := Kd.R_seg HX11.out (x5_1 : Int) (of_decide_eq_true (by first | (with_reducible assumption) | assumption)) (by have h_ : (x5_1 : Int) < ((x0_1.length : Int) : Int) := of_decide_eq_true (by first | (with_reducible assumption) | assumption); first | exact h_ | (have e_ := (Kd.R_reads' HO_0.out).1; omega) | simpa using h_) (seg := [.int .i64 (wrap64 (x1_1 + 1))]) (j := 1) hcl11 hcc11 (show 2 ≤ 3 from by decide) (x' := (⟨(rd_T51 y101 x5_1).f0, wrap64 (x1_1 + 1), (rd_T51 y101 x5_1).f2⟩ : S51)) (k51_mkM _ _ _ (⟨(rd_T51 y101 x5_1).f0, wrap64 (x1_1 + 1), (rd_T51 y101 x5_1).f2⟩ : S51) ) (fun _ hk => hk); have hx11_1 := hcc11 1 _ rfl; (try simp only [show (k51).sz = 3 from rfl, Nat.mul_one, Nat.add_zero] at hx11_1); have hf11_1 := hfr11 1; (try simp only [show (k51).sz = 3 from rfl, Nat.mul_one, Nat.add_zero] at hf11_1); clear hcl11 hcc11 hfr11 hM11) | ((with_reducible refine gate_store (t := 3) (p := 23) rfl ?_); refine store_event (t := 3) (p := 23) (v := ?vo_w12) (w1 := (w10.setCell ⟨go5, (x5_1 : Int).toNat * 3 + 1, none⟩ (.int .i64 (wrap64 (x1_1 + 1))))) ?hg ?ho ?hn ?hr ?_; (case ho => rfl); (case hg => rfl); (case hn => rfl); (case hr => first | (go_simp; done) | (go_simp; rfl)); intro w12 hw; have hg : w10.grownBy w12 (some go5) := (by rw [hw]; exact HP11.2); have hp_ : Kd.R k51 51 w12 w0.heap.size (fun k_ => (P0_ k_ ∨ w.heap.size ≤ k_)) (.slice (some ⟨go5, 0, none⟩) x0_1.length co8) y102 := (by rw [hw, Ny102.out]; exact HP11.1); clear HP11; have n0_ := aM (hp_); have n1_ := aM ((by rw [hw]; exact below_set (HB.out) GB5.out : Below w0.heap.size w0 w12)); have n2_ := aM (Kept.of_grown (S := (fun k_ => P0_ k_)) hg (by repeat (first | (with_reducible first | exact HK.out | apply Kept.alloc | apply Kept.drewN | apply Kept.drew) | exact HK.out)) (fun k_ e_ => (HO_0.out.1 k_ e_))); clear HO_0; clear HB; clear HK; have HO_0 := n0_; have HB := n1_; have HK := n2_; clear n0_ n1_ n2_; clear hg hw hp_; have p7 : 0 ≤ (x5_1 : Int) := of_decide_eq_true (by first | (with_reducible assumption) | assumption); have q7 : (x5_1 : Int) < ((x0_1.length : Int) : Int) := of_decide_eq_true (by first | (with_reducible assumption) | assumption); obtain ⟨ce7, hcl7, hM7, hcc7, hfr7⟩ := Kd.R_elem HO_0.out z51 (x5_1 : Int) p7 q7; obtain rfl := k51_openM hM7; have hx7_0 : w12.cell? ⟨go5, (x5_1 : Int).toNat * 3, none⟩ = some (.int .i64 ((rd_T51 y102 x5_1).f0)) := hcc7 0 _ rfl; have hx7_1 : w12.cell? ⟨go5, (x5_1 : Int).toNat * 3 + 1, none⟩ = some (.int .i64 ((rd_T51 y102 x5_1).f1)) := hcc7 1 _ rfl; have hx7_2 : w12.cell? ⟨go5, (x5_1 : Int).toNat * 3 + 2, none⟩ = some (.int .i64 ((rd_T51 y102 x5_1).f2)) := hcc7 2 _ rfl; have hf7_0 : w12.frozen? ⟨go5, (x5_1 : Int).toNat * 3, none⟩ = false := hfr7 0; have hf7_1 : w12.frozen? ⟨go5, (x5_1 : Int).toNat * 3 + 1, none⟩ = false := hfr7 1; have hf7_2 : w12.frozen? ⟨go5, (x5_1 : Int).toNat * 3 + 2, none⟩ = false := hfr7 2; clear hcl7 hcc7 hfr7 hM7; replace p7 := eq_true p7; replace q7 := eq_true q7; have HX13 := aM (show Kd.R k51 51 w12 w0.heap.size (fun k_ => (P0_ k_ ∨ w.heap.size ≤ k_)) (.slice (some ⟨go5, 0, none⟩) x0_1.length co8) y102 from (by (with_reducible repeat (first | apply rA | apply rN | apply rD)); exact HO_0.out)); obtain ⟨ce13, hcl13, hM13, hcc13, hfr13⟩ := Kd.R_elem HX13.out z51 (x5_1 : Int) (of_decide_eq_true (by first | (with_reducible assumption) | assumption)) (by have h_ : (x5_1 : Int) < ((x0_1.length : Int) : Int) := of_decide_eq_true (by first | (with_reducible assumption) | assumption); first | exact h_ | (have e_ := (Kd.R_reads' HO_0.out).1; omega) | simpa using h_); obtain rfl := k51_openM hM13; have HP13 := Kd.R_seg HX13.out (x5_1 : Int) (of_decide_eq_true (by first | (with_reducible assumption) | assumption)) (by have h_ : (x5_1 : Int) < ((x0_1.length : Int) : Int) := of_decide_eq_true (by first | (with_reducible assumption) | assumption); first | exact h_ | (have e_ := (Kd.R_reads' HO_0.out).1; omega) | simpa using h_) (seg := [.int .i64 (wrap64 ((wrap64 (x1_1 + 1)) + 1))]) (j := 2) hcl13 hcc13 (show 3 ≤ 3 from by decide) (x' := (⟨(rd_T51 y102 x5_1).f0, (rd_T51 y102 x5_1).f1, wrap64 ((wrap64 (x1_1 + 1)) + 1)⟩ : S51)) (k51_mkM _ _ _ (⟨(rd_T51 y102 x5_1).f0, (rd_T51 y102 x5_1).f1, wrap64 ((wrap64 (x1_1 + 1)) + 1)⟩ : S51) ) (fun _ hk => hk); have hx13_2 := hcc13 2 _ rfl; (try simp only [show (k51).sz = 3 from rfl, Nat.mul_one, Nat.add_zero] at hx13_2); have hf13_2 := hfr13 2; (try simp only [show (k51).sz = 3 from rfl, Nat.mul_one, Nat.add_zero] at hf13_2); clear hcl13 hcc13 hfr13 hM13) | ((with_reducible refine gate_store (t := 3) (p := 30) rfl ?_); refine store_event (t := 3) (p := 30) (v := ?vo_w14) (w1 := (w12.setCell ⟨go5, (x5_1 : Int).toNat * 3 + 2, none⟩ (.int .i64 (wrap64 ((wrap64 (x1_1 + 1)) + 1))))) ?hg ?ho ?hn ?hr ?_; (case ho => rfl); (case hg => rfl); (case hn => rfl); (case hr => first | (go_simp; done) | (go_simp; rfl)); intro w14 hw; have hg : w12.grownBy w14 (some go5) := (by rw [hw]; exact HP13.2); have hp_ : Kd.R k51 51 w14 w0.heap.size (fun k_ => (P0_ k_ ∨ w.heap.size ≤ k_)) (.slice (some ⟨go5, 0, none⟩) x0_1.length co8) y103 := (by rw [hw, Ny103.out]; exact HP13.1); clear HP13; have n0_ := aM (hp_); have n1_ := aM ((by rw [hw]; exact below_set (HB.out) GB5.out : Below w0.heap.size w0 w14)); have n2_ := aM (Kept.of_grown (S := (fun k_ => P0_ k_)) hg (by repeat (first | (with_reducible first | exact HK.out | apply Kept.alloc | apply Kept.drewN | apply Kept.drew) | exact HK.out)) (fun k_ e_ => (HO_0.out.1 k_ e_))); clear HO_0; clear HB; clear HK; have HO_0 := n0_; have HB := n1_; have HK := n2_; clear n0_ n1_ n2_; clear hg hw hp_))
          go_roundg k1
          case measure => have := HK1.out; omega
          case rel => exact ⟨(y103), (wrap64 ((wrap64 ((wrap64 (x1_1 + 1)) + 1)) + 1)), (wrap64 (x5_1 + 1)), (by first | rfl | (simp; done) | (simp [*]; done)), (by first | rfl | (simp; done) | (simp [*]; done)), H', ⟨by have := HK1.out; omega⟩, ⟨by (with_reducible repeat (first | apply rA | apply rN | apply rD)); exact HO_0.out⟩, ⟨by repeat (first | (with_reducible first | exact HK.out | apply Kept.alloc | apply Kept.drewN | apply Kept.drew) | exact HK.out)⟩, ⟨by repeat (first | (with_reducible first | exact HB.out | apply below_alloc | apply pw_below_drewN | apply below_drew1) | exact HB.out)⟩⟩
        · rw [if_neg c4] at H
          exact absurd H (by simp)
      · rw [if_neg c3] at H
        have c3b0 : decide (x5_1 < (x0_1.length : Int)) = false := decide_eq_false c3
        clear c3
        simp only [Option.some.injEq, Prod.mk.injEq] at H
        obtain ⟨rfl, rfl⟩ := H
        obtain ⟨Ao15, co15, eo15⟩ := Kd.R_slice HO_0.out
        subst eo15
        go_wp2
        go_ret
        exact ⟨by first | rfl | (simp [errW_none, errW_some] <;> rfl) | (simp [*, errW_none, errW_some] <;> rfl), by (with_reducible repeat (first | apply rA | apply rN | apply rD)); exact HO_0.out, by repeat (first | (with_reducible first | exact HB.out | apply below_alloc | apply pw_below_drewN | apply below_drew1) | exact HB.out), by repeat (first | (with_reducible first | exact HK.out | apply Kept.alloc | apply Kept.drewN | apply Kept.drew) | exact HK.out)⟩

end Go.Proofs.YtcjhhdecckcibaaDoor.G

namespace Go.Proofs.YtcjhhdecckcibaaDoor.G
open Go.RowKit Go.Proofs.YtcjhhdecckcibaaDoorW.PrintWords Go.Proofs.YtcjhhdecckcibaaDoorW.PrintLast Go.Proofs.YtcjhhdecckcibaaDoorW.PrintMore Go.Proofs.YtcjhhdecckcibaaDoor.Short
attribute [local go_sem] max2_int min2_int max_two min_two max_three min_three max_four min_four   -- for this text's walks alone
set_option linter.unusedVariables false
set_option linter.unusedSimpArgs false

def laws_heldCombS.l0 : Nat → List (S51) → Int → Int → Option (Int)
  | 0, _, _, _ => none
  | k + 1, x0, x1, x5 => if x5 < (x0.length : Int) then (if 0 ≤ x5 then (if ((rd_T51 x0 x5).f0) = x1 then (if ((rd_T51 x0 x5).f1) = (wrap64 (x1 + 1)) then (if ((rd_T51 x0 x5).f2) = (wrap64 ((wrap64 (x1 + 1)) + 1)) then (laws_heldCombS.l0 k x0 (wrap64 ((wrap64 ((wrap64 (x1 + 1)) + 1)) + 1)) (wrap64 (x5 + 1))) else (some (-1))) else (some (-1))) else (some (-1))) else (none)) else (some x1)
def laws_heldCombS.f (k : Nat) (l0 : List (S51)) (a1 : Int) : Option (Int) := laws_heldCombS.l0 k l0 a1 0
set_option maxHeartbeats 8000000 in
set_option maxRecDepth 100000 in
theorem laws_heldCombS.calls (k : Nat) (A0 : Option Addr) (c0 : Nat) (l0 : List (S51)) (a1 : Int) (r : Int) (w : World) (hr0 : Kd.C k51 w A0 l0.length l0) (hc0 : l0.length ≤ c0) (h : laws_heldCombS.f k l0 a1 = some r) :
    Calls Tryd.prog 20 #[.slice A0 l0.length c0, .int .i64 a1] w fun e w' => e = .returned (.int .i64 r) ∧ Drawn0 w w' := by
  have HR0 := aM hr0
  have HC0 := aM hc0
  clear hr0 hc0
  have H : (laws_heldCombS.l0 k l0 a1 0) = some r := h
  clear h
  have H' := aM H
  clear H
  go_enter Tryd.func20, Tryd.ntmps20
  go_wp2
  go_loopg [1, 5] k (fun kq v1 v5 w' => ∃ (x1_1 : Int) (x5_1 : Int), v1 = .int .i64 x1_1 ∧ v5 = .int .i64 x5_1 ∧ Aside0 (laws_heldCombS.l0 kq l0 x1_1 x5_1 = some r) ∧ Aside0 (kq ≤ k) ∧ Drawn0 w w')
  case atStart => exact ⟨(a1), (0), (by first | rfl | (simp; done) | (simp [*]; done)), (by first | rfl | (simp; done) | (simp [*]; done)), H', ⟨Nat.le_refl _⟩, by repeat (first | exact Drawn0.refl _ | apply Drawn0.step)⟩
  case round =>
    clear H'
    try clear c2
    try clear p2
    obtain ⟨x1_1, x5_1, rfl, rfl, HA, HK1, ⟨m1, rfl⟩⟩ := hrel
    cases gk with
    | zero => exact absurd HA.out (by simp [laws_heldCombS.l0])
    | succ k1 =>
      have H := HA.out
      clear HA
      simp only [laws_heldCombS.l0] at H
      by_cases c3 : x5_1 < (l0.length : Int)
      · rw [if_pos c3] at H
        have c3b0 : decide (x5_1 < (l0.length : Int)) = true := decide_eq_true c3
        clear c3
        by_cases c4 : 0 ≤ x5_1
        · rw [if_pos c4] at H
          have c4b0 : decide (0 ≤ x5_1) = true := decide_eq_true c4
          clear c4
          by_cases c5 : ((rd_T51 l0 x5_1).f0) = x1_1
          · rw [if_pos c5] at H
            have c5b0 : (((rd_T51 l0 x5_1).f0) == x1_1) = true := beq_iff_eq.mpr c5
            have c5b1 : (((rd_T51 l0 x5_1).f0) != x1_1) = false := bne_eq_false_iff_eq.mpr c5
            clear c5
            by_cases c6 : ((rd_T51 l0 x5_1).f1) = (wrap64 (x1_1 + 1))
            · rw [if_pos c6] at H
              have c6b0 : (((rd_T51 l0 x5_1).f1) == (wrap64 (x1_1 + 1))) = true := beq_iff_eq.mpr c6
              have c6b1 : (((rd_T51 l0 x5_1).f1) != (wrap64 (x1_1 + 1))) = false := bne_eq_false_iff_eq.mpr c6
              clear c6
              by_cases c7 : ((rd_T51 l0 x5_1).f2) = (wrap64 ((wrap64 (x1_1 + 1)) + 1))
              · rw [if_pos c7] at H
                have c7b0 : (((rd_T51 l0 x5_1).f2) == (wrap64 ((wrap64 (x1_1 + 1)) + 1))) = true := beq_iff_eq.mpr c7
                have c7b1 : (((rd_T51 l0 x5_1).f2) != (wrap64 ((wrap64 (x1_1 + 1)) + 1))) = false := bne_eq_false_iff_eq.mpr c7
                clear c7
                have H' := aM H
                clear H
                have p101 : 0 ≤ (x5_1 : Int) := of_decide_eq_true (by first | (with_reducible assumption) | assumption)
                have q101 : x5_1 < (l0.length : Int) := of_decide_eq_true (by first | (with_reducible assumption) | assumption)
                obtain ⟨ad101, e101, hx101_0, hx101_1, hx101_2⟩ := at_T51 HR0.out x5_1 p101 q101
                cases e101
                replace p101 := eq_true p101
                replace q101 := eq_true q101
                have p102 : 0 ≤ (x5_1 : Int) := of_decide_eq_true (by first | (with_reducible assumption) | assumption)
                have q102 : x5_1 < (l0.length : Int) := of_decide_eq_true (by first | (with_reducible assumption) | assumption)
                obtain ⟨ad102, e102, hx102_0, hx102_1, hx102_2⟩ := at_T51 HR0.out x5_1 p102 q102
                obtain rfl : ad101 = ad102 := (by injection e102)
                replace p102 := eq_true p102
                replace q102 := eq_true q102
                have p103 : 0 ≤ (x5_1 : Int) := of_decide_eq_true (by first | (with_reducible assumption) | assumption)
                have q103 : x5_1 < (l0.length : Int) := of_decide_eq_true (by first | (with_reducible assumption) | assumption)
                obtain ⟨ad103, e103, hx103_0, hx103_1, hx103_2⟩ := at_T51 HR0.out x5_1 p103 q103
                obtain rfl : ad101 = ad103 := (by injection e103)
                replace p103 := eq_true p103
                replace q103 := eq_true q103
                go_wp2
                go_roundg k1
                case measure => have := HK1.out; omega
                case rel => exact ⟨(wrap64 ((wrap64 ((wrap64 (x1_1 + 1)) + 1)) + 1)), (wrap64 (x5_1 + 1)), (by first | rfl | (simp; done) | (simp [*]; done)), (by first | rfl | (simp; done) | (simp [*]; done)), H', ⟨by have := HK1.out; omega⟩, by repeat (first | exact Drawn0.refl _ | apply Drawn0.step)⟩
              · rw [if_neg c7] at H
                have c7b0 : (((rd_T51 l0 x5_1).f2) == (wrap64 ((wrap64 (x1_1 + 1)) + 1))) = false := beq_eq_false_iff_ne.mpr c7
                have c7b1 : (((rd_T51 l0 x5_1).f2) != (wrap64 ((wrap64 (x1_1 + 1)) + 1))) = true := bne_iff_ne.mpr c7
                obtain rfl := Option.some.inj H
                have p101 : 0 ≤ (x5_1 : Int) := of_decide_eq_true (by first | (with_reducible assumption) | assumption)
                have q101 : x5_1 < (l0.length : Int) := of_decide_eq_true (by first | (with_reducible assumption) | assumption)
                obtain ⟨ad101, e101, hx101_0, hx101_1, hx101_2⟩ := at_T51 HR0.out x5_1 p101 q101
                cases e101
                replace p101 := eq_true p101
                replace q101 := eq_true q101
                have p102 : 0 ≤ (x5_1 : Int) := of_decide_eq_true (by first | (with_reducible assumption) | assumption)
                have q102 : x5_1 < (l0.length : Int) := of_decide_eq_true (by first | (with_reducible assumption) | assumption)
                obtain ⟨ad102, e102, hx102_0, hx102_1, hx102_2⟩ := at_T51 HR0.out x5_1 p102 q102
                obtain rfl : ad101 = ad102 := (by injection e102)
                replace p102 := eq_true p102
                replace q102 := eq_true q102
                have p103 : 0 ≤ (x5_1 : Int) := of_decide_eq_true (by first | (with_reducible assumption) | assumption)
                have q103 : x5_1 < (l0.length : Int) := of_decide_eq_true (by first | (with_reducible assumption) | assumption)
                obtain ⟨ad103, e103, hx103_0, hx103_1, hx103_2⟩ := at_T51 HR0.out x5_1 p103 q103
                obtain rfl : ad101 = ad103 := (by injection e103)
                replace p103 := eq_true p103
                replace q103 := eq_true q103
                go_wp2
                go_ret
                exact ⟨by first | rfl | (simp; done) | (simp [*]; done), by repeat (first | exact Drawn0.refl _ | apply Drawn0.step)⟩
            · rw [if_neg c6] at H
              have c6b0 : (((rd_T51 l0 x5_1).f1) == (wrap64 (x1_1 + 1))) = false := beq_eq_false_iff_ne.mpr c6
              have c6b1 : (((rd_T51 l0 x5_1).f1) != (wrap64 (x1_1 + 1))) = true := bne_iff_ne.mpr c6
              obtain rfl := Option.some.inj H
              have p101 : 0 ≤ (x5_1 : Int) := of_decide_eq_true (by first | (with_reducible assumption) | assumption)
              have q101 : x5_1 < (l0.length : Int) := of_decide_eq_true (by first | (with_reducible assumption) | assumption)
              obtain ⟨ad101, e101, hx101_0, hx101_1, hx101_2⟩ := at_T51 HR0.out x5_1 p101 q101
              cases e101
              replace p101 := eq_true p101
              replace q101 := eq_true q101
              have p102 : 0 ≤ (x5_1 : Int) := of_decide_eq_true (by first | (with_reducible assumption) | assumption)
              have q102 : x5_1 < (l0.length : Int) := of_decide_eq_true (by first | (with_reducible assumption) | assumption)
              obtain ⟨ad102, e102, hx102_0, hx102_1, hx102_2⟩ := at_T51 HR0.out x5_1 p102 q102
              obtain rfl : ad101 = ad102 := (by injection e102)
              replace p102 := eq_true p102
              replace q102 := eq_true q102
              go_wp2
              go_ret
              exact ⟨by first | rfl | (simp; done) | (simp [*]; done), by repeat (first | exact Drawn0.refl _ | apply Drawn0.step)⟩
          · rw [if_neg c5] at H
            have c5b0 : (((rd_T51 l0 x5_1).f0) == x1_1) = false := beq_eq_false_iff_ne.mpr c5
            have c5b1 : (((rd_T51 l0 x5_1).f0) != x1_1) = true := bne_iff_ne.mpr c5
            obtain rfl := Option.some.inj H
            have p101 : 0 ≤ (x5_1 : Int) := of_decide_eq_true (by first | (with_reducible assumption) | assumption)
            have q101 : x5_1 < (l0.length : Int) := of_decide_eq_true (by first | (with_reducible assumption) | assumption)
            obtain ⟨ad101, e101, hx101_0, hx101_1, hx101_2⟩ := at_T51 HR0.out x5_1 p101 q101
            cases e101
            replace p101 := eq_true p101
            replace q101 := eq_true q101
            go_wp2
            go_ret
            exact ⟨by first | rfl | (simp; done) | (simp [*]; done), by repeat (first | exact Drawn0.refl _ | apply Drawn0.step)⟩
        · rw [if_neg c4] at H
          exact absurd H (by simp)
      · rw [if_neg c3] at H
        have c3b0 : decide (x5_1 < (l0.length : Int)) = false := decide_eq_false c3
        clear c3
        obtain rfl := Option.some.inj H
        go_wp2
        go_ret
        exact ⟨by first | rfl | (simp; done) | (simp [*]; done), by repeat (first | exact Drawn0.refl _ | apply Drawn0.step)⟩

end Go.Proofs.YtcjhhdecckcibaaDoor.G

namespace Go.Proofs.YtcjhhdecckcibaaDoor.G
open Go.RowKit Go.Proofs.YtcjhhdecckcibaaDoorW.PrintWords Go.Proofs.YtcjhhdecckcibaaDoorW.PrintLast Go.Proofs.YtcjhhdecckcibaaDoorW.PrintMore Go.Proofs.YtcjhhdecckcibaaDoor.Short
attribute [local go_sem] max2_int min2_int max_two min_two max_three min_three max_four min_four   -- for this text's walks alone
set_option linter.unusedVariables false
set_option linter.unusedSimpArgs false

mutual
def laws_FnExactReadComb.j0 : Nat → ByteArray → List (S51) → Bool → List (S51) → Bool → Option (Bool)
  | 0, _, _, _, _, _ => none
  | k + 1, x0, x3, x4, x5, x32 => if x32 = true then (some false) else ((laws_markCombS.f k x5 1).bind fun bt110 => ((laws_heldCombS.f k bt110.2 1).bind fun t112 => (if t112 < 0 then (some false) else (if t112 = bt110.1 then ((impl_ReadComb.f k x0).bind fun bt113 => ((laws_eqCombS.f k bt113.1 x3).bind fun t117 => (if t117 = true then (laws_FnExactReadComb.j1 k bt110.2 bt110.1 (bt113.2 != x4)) else (laws_FnExactReadComb.j1 k bt110.2 bt110.1 true)))) else (some false)))))
def laws_FnExactReadComb.j1 : Nat → List (S51) → Int → Bool → Option (Bool)
  | 0, _, _, _ => none
  | k + 1, x5, x7, x57 => if x57 = true then (some false) else ((laws_heldCombS.f k x5 1).bind fun t118 => (if t118 < 0 then (some false) else (if t118 = x7 then (some true) else (some false))))
end
def laws_FnExactReadComb.f (k : Nat) (a0 : ByteArray) : Option (Bool) := if (a0.size : Int) > 1048576 then (some true) else ((spec_ReadComb.f k a0).bind fun bt101 => ((impl_ReadComb.f k a0).bind fun bt105 => ((laws_eqCombS.f k bt105.1 bt101.1).bind fun t109 => (if t109 = true then (laws_FnExactReadComb.j0 k a0 bt101.1 bt101.2 bt105.1 (bt105.2 != bt101.2)) else (laws_FnExactReadComb.j0 k a0 bt101.1 bt101.2 bt105.1 true)))))
set_option maxHeartbeats 8000000 in
set_option maxRecDepth 100000 in
theorem laws_FnExactReadComb.calls (k : Nat) (a0 : ByteArray) (r : Bool) (w : World) (h : laws_FnExactReadComb.f k a0 = some r) (hE : Met w) :
    Calls Tryd.prog 5 #[.string a0] w fun e w' => e = .returned (.bool r) ∧ Below w.heap.size w w' := by
  have HB := aM (Below.refl w.heap.size w)
  have HE := aM hE
  clear hE
  have H : (if (a0.size : Int) > 1048576 then (some true) else ((spec_ReadComb.f k a0).bind fun bt101 => ((impl_ReadComb.f k a0).bind fun bt105 => ((laws_eqCombS.f k bt105.1 bt101.1).bind fun t109 => (if t109 = true then (laws_FnExactReadComb.j0 k a0 bt101.1 bt101.2 bt105.1 (bt105.2 != bt101.2)) else (laws_FnExactReadComb.j0 k a0 bt101.1 bt101.2 bt105.1 true)))))) = some r := h
  clear h
  by_cases c2 : (a0.size : Int) > 1048576
  · rw [if_pos c2] at H
    have c2b0 : decide (1048576 < (a0.size : Int)) = true := decide_eq_true c2
    have c2b1 : decide (1048576 < a0.size) = true := decide_eq_true (by omega)
    clear c2
    obtain rfl := Option.some.inj H
    go_enter Tryd.func5, Tryd.ntmps5
    go_wp2
    go_ret
    exact ⟨by first | rfl | (simp [errW_none, errW_some] <;> rfl) | (simp [*, errW_none, errW_some] <;> rfl), by repeat (first | (with_reducible first | exact HB.out | apply below_alloc | apply pw_below_drewN | apply below_drew1) | exact HB.out)⟩
  · rw [if_neg c2] at H
    have c2b0 : decide (1048576 < (a0.size : Int)) = false := decide_eq_false c2
    have c2b1 : decide (1048576 < a0.size) = false := decide_eq_false (by omega)
    clear c2
    replace H := Option.bind_eq_some_iff.mp H
    obtain ⟨⟨t101, t102⟩, A30, H⟩ := H
    replace H : ((impl_ReadComb.f k a0).bind fun bt105 => ((laws_eqCombS.f k bt105.1 t101).bind fun t109 => (if t109 = true then (laws_FnExactReadComb.j0 k a0 t101 t102 bt105.1 (bt105.2 != t102)) else (laws_FnExactReadComb.j0 k a0 t101 t102 bt105.1 true)))) = some r := H
    have A3 := aM A30
    clear A30
    replace H := Option.bind_eq_some_iff.mp H
    obtain ⟨⟨t105, t106⟩, A40, H⟩ := H
    replace H : ((laws_eqCombS.f k t105 t101).bind fun t109 => (if t109 = true then (laws_FnExactReadComb.j0 k a0 t101 t102 t105 (t106 != t102)) else (laws_FnExactReadComb.j0 k a0 t101 t102 t105 true))) = some r := H
    have A4 := aM A40
    clear A40
    have HC5 := aM H
    clear H
    go_enter Tryd.func5, Tryd.ntmps5
    go_upto_region 5 with (first | ((with_reducible refine gate_callee (f := 17) rfl ?_); refine goesL_ (some 16) rfl rfl Tryd.func17 (by kernel_rfl) rfl #[.string a0] rfl (by (try simp only [List.map_toArray, List.map_cons, List.map_nil]); first | done | rfl | (simp only [List.length_drop, List.length_take]; rfl)) ?_; (with_reducible refine (spec_ReadComb.calls k a0 t101 t102 _ A3.out).mono ?_); rintro e w6 ⟨v103, rfl, ho0, hb⟩; refine ⟨_, rfl, ?_⟩; have n0_ := aM (Kd.R_lower ho0 (below_size (by repeat (first | (with_reducible first | exact HB.out | apply below_alloc | apply pw_below_drewN | apply below_drew1) | exact HB.out)))); have n1_ := aM (below_step (by repeat (first | (with_reducible first | exact HB.out | apply below_alloc | apply pw_below_drewN | apply below_drew1) | exact HB.out)) hb); clear HB; have HO104 := n0_; have HB := n1_; clear n0_ n1_; (try clear hb); (try clear hb2); (try clear hk); (try clear hi); (try clear ho0)) | ((with_reducible refine gate_callee (f := 18) rfl ?_); refine goesL_ (some 21) rfl rfl Tryd.func18 (by kernel_rfl) rfl #[.string a0] rfl (by (try simp only [List.map_toArray, List.map_cons, List.map_nil]); first | done | rfl | (simp only [List.length_drop, List.length_take]; rfl)) ?_; (with_reducible refine (impl_ReadComb.calls k a0 t105 t106 _ A4.out (HE.out.below (by repeat (first | (with_reducible first | exact HB.out | apply below_alloc | apply pw_below_drewN | apply below_drew1) | exact HB.out)))).mono ?_); rintro e w7 ⟨v107, rfl, ho0, hb⟩; refine ⟨_, rfl, ?_⟩; have n0_ := aM (Kd.R_elder' (by (with_reducible repeat (first | apply rA | apply rN | apply rD)); exact HO104.out) (Kd.R_base ho0) hb); have n1_ := aM (Kd.R_lower (Kd.R_new' ho0 (Kd.R_lt (by (with_reducible repeat (first | apply rA | apply rN | apply rD)); exact HO104.out))) (below_size (by repeat (first | (with_reducible first | exact HB.out | apply below_alloc | apply pw_below_drewN | apply below_drew1) | exact HB.out)))); have n2_ := aM (below_step (by repeat (first | (with_reducible first | exact HB.out | apply below_alloc | apply pw_below_drewN | apply below_drew1) | exact HB.out)) hb); clear HO104; clear HB; have HO104 := n0_; have HO108 := n1_; have HB := n2_; clear n0_ n1_ n2_; (try clear hb); (try clear hb2); (try clear hk); (try clear hi); (try clear ho0)))
    (try simp only [Act.put, List.setIfInBounds_toArray, List.set_cons_zero, List.set_cons_succ])
    go_cut [32] (fun v32 wc => ∃ (kq : Nat) (x32_4 : Bool), v32 = .bool x32_4 ∧ Aside0 (laws_FnExactReadComb.j0 kq a0 t101 t102 t105 x32_4 = some r) ∧ Aside0 (kq ≤ k) ∧ Aside0 (Kd.R k51 51 wc w.heap.size (fun k_ => some k_ ≠ (v107 : Value).ownBlock) v103 t101) ∧ Aside0 (Kd.R k51 51 wc w.heap.size (fun k_ => some k_ ≠ (v103 : Value).ownBlock) v107 t105) ∧ Aside0 (Below w.heap.size w wc))
    case first =>
      have H := HC5.out
      clear HC5
      replace H := Option.bind_eq_some_iff.mp H
      obtain ⟨t109, A80, H⟩ := H
      replace H : (if t109 = true then (laws_FnExactReadComb.j0 k a0 t101 t102 t105 (t106 != t102)) else (laws_FnExactReadComb.j0 k a0 t101 t102 t105 true)) = some r := H
      have A8 := aM A80
      clear A80
      by_cases c9 : t109 = true
      · subst c9
        have H1 : (laws_FnExactReadComb.j0 k a0 t101 t102 t105 (t106 != t102)) = some r := by rw [if_pos rfl] at H; exact H
        clear H
        have H := H1
        clear H1
        have H' := aM H
        clear H
        obtain ⟨Ao10, co10, eo10⟩ := Kd.R_slice HO108.out
        subst eo10
        obtain ⟨Ao11, co11, eo11⟩ := Kd.R_slice HO104.out
        subst eo11
        go_wp2_with (first | ((with_reducible refine gate_callee (f := 11) rfl ?_); refine goesL_ (some 26) rfl rfl Tryd.func11 (by kernel_rfl) rfl #[.slice Ao10 t105.length co10, .slice Ao11 t101.length co11] rfl (by (try simp only [List.map_toArray, List.map_cons, List.map_nil]); first | done | rfl | (simp only [List.length_drop, List.length_take]; rfl)) ?_; (with_reducible refine (laws_eqCombS.calls k _ _ t105 _ _ t101 true _ ?side1 ?side2 ?side3 ?side4 A8.out).mono ?_); (case side1 => repeat (first | exact (Kd.R_reads' HO108.out).2.2 | (with_reducible refine Kd.C_alloc ?_ _) | (with_reducible refine Kd.C_drewN ?_ _) | (with_reducible refine Kd.C_drew ?_))); (case side2 => exact (Kd.R_reads' HO108.out).2.1); (case side3 => repeat (first | exact (Kd.R_reads' HO104.out).2.2 | (with_reducible refine Kd.C_alloc ?_ _) | (with_reducible refine Kd.C_drewN ?_ _) | (with_reducible refine Kd.C_drew ?_))); (case side4 => exact (Kd.R_reads' HO104.out).2.1); rintro e w12 ⟨rfl, hb⟩; refine ⟨_, rfl, ?_⟩; have n0_ := aM (Kd.R_below (by (with_reducible repeat (first | apply rA | apply rN | apply rD)); exact HO104.out) hb); have n1_ := aM (Kd.R_below (by (with_reducible repeat (first | apply rA | apply rN | apply rD)); exact HO108.out) hb); have n2_ := aM (below_step (by repeat (first | (with_reducible first | exact HB.out | apply below_alloc | apply pw_below_drewN | apply below_drew1) | exact HB.out)) hb); clear HO104; clear HO108; clear HB; have HO104 := n0_; have HO108 := n1_; have HB := n2_; clear n0_ n1_ n2_; (try clear hb); (try clear hb2); (try clear hk); (try clear hi)))
        go_meet
        case rel => exact ⟨_, ((t106 != t102)), (by first | rfl | (simp; done) | (simp [*]; done)), H', ⟨by first | omega | exact Nat.le_refl _⟩, ⟨by (with_reducible repeat (first | apply rA | apply rN | apply rD)); exact Kd.R_mono HO104.out (fun _ hk => hk.2)⟩, ⟨by (with_reducible repeat (first | apply rA | apply rN | apply rD)); exact Kd.R_mono HO108.out (fun _ hk => hk.2)⟩, ⟨by repeat (first | (with_reducible first | exact HB.out | apply below_alloc | apply pw_below_drewN | apply below_drew1) | exact HB.out)⟩⟩
      · replace c9 := Bool.eq_false_iff.mpr c9
        subst c9
        have H1 : (laws_FnExactReadComb.j0 k a0 t101 t102 t105 true) = some r := by rw [if_neg (show ¬ (false = true) by decide)] at H; exact H
        clear H
        have H := H1
        clear H1
        have H' := aM H
        clear H
        obtain ⟨Ao13, co13, eo13⟩ := Kd.R_slice HO108.out
        subst eo13
        obtain ⟨Ao14, co14, eo14⟩ := Kd.R_slice HO104.out
        subst eo14
        go_wp2_with (first | ((with_reducible refine gate_callee (f := 11) rfl ?_); refine goesL_ (some 26) rfl rfl Tryd.func11 (by kernel_rfl) rfl #[.slice Ao13 t105.length co13, .slice Ao14 t101.length co14] rfl (by (try simp only [List.map_toArray, List.map_cons, List.map_nil]); first | done | rfl | (simp only [List.length_drop, List.length_take]; rfl)) ?_; (with_reducible refine (laws_eqCombS.calls k _ _ t105 _ _ t101 false _ ?side1 ?side2 ?side3 ?side4 A8.out).mono ?_); (case side1 => repeat (first | exact (Kd.R_reads' HO108.out).2.2 | (with_reducible refine Kd.C_alloc ?_ _) | (with_reducible refine Kd.C_drewN ?_ _) | (with_reducible refine Kd.C_drew ?_))); (case side2 => exact (Kd.R_reads' HO108.out).2.1); (case side3 => repeat (first | exact (Kd.R_reads' HO104.out).2.2 | (with_reducible refine Kd.C_alloc ?_ _) | (with_reducible refine Kd.C_drewN ?_ _) | (with_reducible refine Kd.C_drew ?_))); (case side4 => exact (Kd.R_reads' HO104.out).2.1); rintro e w15 ⟨rfl, hb⟩; refine ⟨_, rfl, ?_⟩; have n0_ := aM (Kd.R_below (by (with_reducible repeat (first | apply rA | apply rN | apply rD)); exact HO104.out) hb); have n1_ := aM (Kd.R_below (by (with_reducible repeat (first | apply rA | apply rN | apply rD)); exact HO108.out) hb); have n2_ := aM (below_step (by repeat (first | (with_reducible first | exact HB.out | apply below_alloc | apply pw_below_drewN | apply below_drew1) | exact HB.out)) hb); clear HO104; clear HO108; clear HB; have HO104 := n0_; have HO108 := n1_; have HB := n2_; clear n0_ n1_ n2_; (try clear hb); (try clear hb2); (try clear hk); (try clear hi)))
        go_meet
        case rel => exact ⟨_, (true), (by first | rfl | (simp; done) | (simp [*]; done)), H', ⟨by first | omega | exact Nat.le_refl _⟩, ⟨by (with_reducible repeat (first | apply rA | apply rN | apply rD)); exact Kd.R_mono HO104.out (fun _ hk => hk.2)⟩, ⟨by (with_reducible repeat (first | apply rA | apply rN | apply rD)); exact Kd.R_mono HO108.out (fun _ hk => hk.2)⟩, ⟨by repeat (first | (with_reducible first | exact HB.out | apply below_alloc | apply pw_below_drewN | apply below_drew1) | exact HB.out)⟩⟩
    case rest =>
      clear HC5
      try clear c1
      try clear c2
      try clear c2b0
      try clear c2b1
      try clear p2
      try clear c5
      try clear c9
      try clear c11
      obtain ⟨kq, x32_4, rfl, HA, HJ4, HO_3, HO_5, HB⟩ := hcut
      cases kq with
      | zero => exact absurd HA.out (by simp [laws_FnExactReadComb.j0])
      | succ kj4 =>
        have H := HA.out
        clear HA
        simp only [laws_FnExactReadComb.j0] at H
        by_cases c16 : x32_4 = true
        · subst c16
          have H1 : (some false) = some r := by rw [if_pos rfl] at H; exact H
          clear H
          have H := H1
          clear H1
          obtain rfl := Option.some.inj H
          go_wp2
          go_ret
          exact ⟨by first | rfl | (simp [errW_none, errW_some] <;> rfl) | (simp [*, errW_none, errW_some] <;> rfl), by repeat (first | (with_reducible first | exact HB.out | apply below_alloc | apply pw_below_drewN | apply below_drew1) | exact HB.out)⟩
        · replace c16 := Bool.eq_false_iff.mpr c16
          subst c16
          have H1 : ((laws_markCombS.f kj4 t105 1).bind fun bt110 => ((laws_heldCombS.f kj4 bt110.2 1).bind fun t112 => (if t112 < 0 then (some false) else (if t112 = bt110.1 then ((impl_ReadComb.f kj4 a0).bind fun bt113 => ((laws_eqCombS.f kj4 bt113.1 t101).bind fun t117 => (if t117 = true then (laws_FnExactReadComb.j1 kj4 bt110.2 bt110.1 (bt113.2 != t102)) else (laws_FnExactReadComb.j1 kj4 bt110.2 bt110.1 true)))) else (some false))))) = some r := by rw [if_neg (show ¬ (false = true) by decide)] at H; exact H
          clear H
          have H := H1
          clear H1
          replace H := Option.bind_eq_some_iff.mp H
          obtain ⟨⟨t110, t111⟩, A170, H⟩ := H
          replace H : ((laws_heldCombS.f kj4 t111 1).bind fun t112 => (if t112 < 0 then (some false) else (if t112 = t110 then ((impl_ReadComb.f kj4 a0).bind fun bt113 => ((laws_eqCombS.f kj4 bt113.1 t101).bind fun t117 => (if t117 = true then (laws_FnExactReadComb.j1 kj4 t111 t110 (bt113.2 != t102)) else (laws_FnExactReadComb.j1 kj4 t111 t110 true)))) else (some false)))) = some r := H
          have A17 := aM A170
          clear A170
          replace H := Option.bind_eq_some_iff.mp H
          obtain ⟨t112, A180, H⟩ := H
          replace H : (if t112 < 0 then (some false) else (if t112 = t110 then ((impl_ReadComb.f kj4 a0).bind fun bt113 => ((laws_eqCombS.f kj4 bt113.1 t101).bind fun t117 => (if t117 = true then (laws_FnExactReadComb.j1 kj4 t111 t110 (bt113.2 != t102)) else (laws_FnExactReadComb.j1 kj4 t111 t110 true)))) else (some false))) = some r := H
          have A18 := aM A180
          clear A180
          by_cases c19 : t112 < 0
          · rw [if_pos c19] at H
            have c19b0 : decide (t112 < 0) = true := decide_eq_true c19
            clear c19
            obtain rfl := Option.some.inj H
            obtain ⟨Ao20, co20, eo20⟩ := Kd.R_slice HO_5.out
            subst eo20
            go_wp2_with (first | ((with_reducible refine gate_callee (f := 19) rfl ?_); refine goesL_ (some 35) rfl rfl Tryd.func19 (by kernel_rfl) rfl #[.slice Ao20 t105.length co20, .int .i64 1] rfl (by (try simp only [List.map_toArray, List.map_cons, List.map_nil]); first | done | rfl | (simp only [List.length_drop, List.length_take]; rfl)) ?_; (with_reducible refine (laws_markCombS.calls kj4 (fun k_ => some k_ = (.slice Ao20 t105.length co20 : Value).ownBlock) (.slice Ao20 t105.length co20) t105 1 t110 t111 w _ ?side1 ?side2 A17.out).mono ?_); (case side1 => repeat (first | (with_reducible first | exact HB.out | apply below_alloc | apply pw_below_drewN | apply below_drew1) | exact HB.out)); (case side2 => exact Kd.R_tight rfl HO_5.out); rintro e w21 ⟨rfl, hy0, hb, hkp⟩; refine ⟨_, rfl, ?_⟩; have n0_ := aM (Kd.R_mono (ok' := fun k_ => some k_ ≠ (.slice Ao20 t105.length co20 : Value).ownBlock) (Kd.R_keptB (HO_3.out) hkp (fun k_ hk_ hs_ => (hk_) hs_)) (fun k_ hk_ => hk_.1)); have n1_ := aM (Kd.R_reok rfl hy0 (fun k_ e_ => HO_5.out.1 k_ e_)); have n2_ := aM (hb); clear HO_3; clear HO_5; clear HB; have HO_3 := n0_; have HO_5 := n1_; have HB := n2_; clear n0_ n1_ n2_; (try clear hb); (try clear hkp); (try clear hy0)) | ((with_reducible refine gate_callee (f := 20) rfl ?_); refine goesL_ (some 38) rfl rfl Tryd.func20 (by kernel_rfl) rfl #[.slice Ao20 t111.length co20, .int .i64 1] rfl (by (try simp only [List.map_toArray, List.map_cons, List.map_nil]); first | done | (rw [show t111.length = t105.length from (Kd.R_reads' HO_5.out).1.symm] <;> rfl) | rfl | (simp only [List.length_drop, List.length_take]; rfl)) ?_; (with_reducible refine (laws_heldCombS.calls kj4 _ _ t111 1 t112 _ ?side1 ?side2 A18.out).mono ?_); (case side1 => repeat (first | exact (Kd.R_reads' HO_5.out).2.2 | (with_reducible refine Kd.C_alloc ?_ _) | (with_reducible refine Kd.C_drewN ?_ _) | (with_reducible refine Kd.C_drew ?_))); (case side2 => rw [show t111.length = t105.length from (Kd.R_reads' HO_5.out).1.symm]; exact (Kd.R_reads' HO_5.out).2.1); rintro e w' ⟨rfl, ⟨nd, rfl⟩⟩; refine ⟨_, rfl, ?_⟩))
            go_ret
            exact ⟨by first | rfl | (simp [errW_none, errW_some] <;> rfl) | (simp [*, errW_none, errW_some] <;> rfl), by repeat (first | (with_reducible first | exact HB.out | apply below_alloc | apply pw_below_drewN | apply below_drew1) | exact HB.out)⟩
          · rw [if_neg c19] at H
            have c19b0 : decide (t112 < 0) = false := decide_eq_false c19
            clear c19
            by_cases c22 : t112 = t110
            · rw [if_pos c22] at H
              have c22b0 : (t112 == t110) = true := beq_iff_eq.mpr c22
              have c22b1 : (t112 != t110) = false := bne_eq_false_iff_eq.mpr c22
              clear c22
              replace H := Option.bind_eq_some_iff.mp H
              obtain ⟨⟨t113, t114⟩, A230, H⟩ := H
              replace H : ((laws_eqCombS.f kj4 t113 t101).bind fun t117 => (if t117 = true then (laws_FnExactReadComb.j1 kj4 t111 t110 (t114 != t102)) else (laws_FnExactReadComb.j1 kj4 t111 t110 true))) = some r := H
              have A23 := aM A230
              clear A230
              have HC24 := aM H
              clear H
              obtain ⟨Ao25, co25, eo25⟩ := Kd.R_slice HO_5.out
              subst eo25
              go_upto_region 16 with (first | ((with_reducible refine gate_callee (f := 19) rfl ?_); refine goesL_ (some 35) rfl rfl Tryd.func19 (by kernel_rfl) rfl #[.slice Ao25 t105.length co25, .int .i64 1] rfl (by (try simp only [List.map_toArray, List.map_cons, List.map_nil]); first | done | rfl | (simp only [List.length_drop, List.length_take]; rfl)) ?_; (with_reducible refine (laws_markCombS.calls kj4 (fun k_ => some k_ = (.slice Ao25 t105.length co25 : Value).ownBlock) (.slice Ao25 t105.length co25) t105 1 t110 t111 w _ ?side1 ?side2 A17.out).mono ?_); (case side1 => repeat (first | (with_reducible first | exact HB.out | apply below_alloc | apply pw_below_drewN | apply below_drew1) | exact HB.out)); (case side2 => exact Kd.R_tight rfl HO_5.out); rintro e w26 ⟨rfl, hy0, hb, hkp⟩; refine ⟨_, rfl, ?_⟩; have n0_ := aM (Kd.R_mono (ok' := fun k_ => some k_ ≠ (.slice Ao25 t105.length co25 : Value).ownBlock) (Kd.R_keptB (HO_3.out) hkp (fun k_ hk_ hs_ => (hk_) hs_)) (fun k_ hk_ => hk_.1)); have n1_ := aM (Kd.R_reok rfl hy0 (fun k_ e_ => HO_5.out.1 k_ e_)); have n2_ := aM (hb); clear HO_3; clear HO_5; clear HB; have HO_3 := n0_; have HO_5 := n1_; have HB := n2_; clear n0_ n1_ n2_; (try clear hb); (try clear hkp); (try clear hy0)) | ((with_reducible refine gate_callee (f := 20) rfl ?_); refine goesL_ (some 38) rfl rfl Tryd.func20 (by kernel_rfl) rfl #[.slice Ao25 t111.length co25, .int .i64 1] rfl (by (try simp only [List.map_toArray, List.map_cons, List.map_nil]); first | done | (rw [show t111.length = t105.length from (Kd.R_reads' HO_5.out).1.symm] <;> rfl) | rfl | (simp only [List.length_drop, List.length_take]; rfl)) ?_; (with_reducible refine (laws_heldCombS.calls kj4 _ _ t111 1 t112 _ ?side1 ?side2 A18.out).mono ?_); (case side1 => repeat (first | exact (Kd.R_reads' HO_5.out).2.2 | (with_reducible refine Kd.C_alloc ?_ _) | (with_reducible refine Kd.C_drewN ?_ _) | (with_reducible refine Kd.C_drew ?_))); (case side2 => rw [show t111.length = t105.length from (Kd.R_reads' HO_5.out).1.symm]; exact (Kd.R_reads' HO_5.out).2.1); rintro e w' ⟨rfl, ⟨nd, rfl⟩⟩; refine ⟨_, rfl, ?_⟩) | ((with_reducible refine gate_callee (f := 18) rfl ?_); refine goesL_ (some 46) rfl rfl Tryd.func18 (by kernel_rfl) rfl #[.string a0] rfl (by (try simp only [List.map_toArray, List.map_cons, List.map_nil]); first | done | rfl | (simp only [List.length_drop, List.length_take]; rfl)) ?_; (with_reducible refine (impl_ReadComb.calls kj4 a0 t113 t114 _ A23.out (HE.out.below (by repeat (first | (with_reducible first | exact HB.out | apply below_alloc | apply pw_below_drewN | apply below_drew1) | exact HB.out)))).mono ?_); rintro e w27 ⟨v115, rfl, ho0, hb⟩; refine ⟨_, rfl, ?_⟩; have n0_ := aM (Kd.R_elder' (by (with_reducible repeat (first | apply rA | apply rN | apply rD)); exact HO_3.out) (Kd.R_base ho0) hb); have n1_ := aM (Kd.R_elder' (by (with_reducible repeat (first | apply rA | apply rN | apply rD)); exact HO_5.out) (Kd.R_base ho0) hb); have n2_ := aM (Kd.R_lower (Kd.R_new' (Kd.R_new' ho0 (Kd.R_lt (by (with_reducible repeat (first | apply rA | apply rN | apply rD)); exact HO_3.out))) (Kd.R_lt (by (with_reducible repeat (first | apply rA | apply rN | apply rD)); exact HO_5.out))) (below_size (by repeat (first | (with_reducible first | exact HB.out | apply below_alloc | apply pw_below_drewN | apply below_drew1) | exact HB.out)))); have n3_ := aM (below_step (by repeat (first | (with_reducible first | exact HB.out | apply below_alloc | apply pw_below_drewN | apply below_drew1) | exact HB.out)) hb); clear HO_3; clear HO_5; clear HB; have HO_3 := n0_; have HO_5 := n1_; have HO116 := n2_; have HB := n3_; clear n0_ n1_ n2_ n3_; (try clear hb); (try clear hb2); (try clear hk); (try clear hi); (try clear ho0)))
              (try simp only [Act.put, List.setIfInBounds_toArray, List.set_cons_zero, List.set_cons_succ])
              go_cut [57] (fun v57 wc => ∃ (kq : Nat) (x57_23 : Bool), v57 = .bool x57_23 ∧ Aside0 (laws_FnExactReadComb.j1 kq t111 t110 x57_23 = some r) ∧ Aside0 (kq ≤ kj4) ∧ Aside0 (Kd.R k51 51 wc w.heap.size (fun _ => True) (.slice Ao25 t105.length co25) t111) ∧ Aside0 (Below w.heap.size w wc))
              case first =>
                have H := HC24.out
                clear HC24
                replace H := Option.bind_eq_some_iff.mp H
                obtain ⟨t117, A280, H⟩ := H
                replace H : (if t117 = true then (laws_FnExactReadComb.j1 kj4 t111 t110 (t114 != t102)) else (laws_FnExactReadComb.j1 kj4 t111 t110 true)) = some r := H
                have A28 := aM A280
                clear A280
                by_cases c29 : t117 = true
                · subst c29
                  have H1 : (laws_FnExactReadComb.j1 kj4 t111 t110 (t114 != t102)) = some r := by rw [if_pos rfl] at H; exact H
                  clear H
                  have H := H1
                  clear H1
                  have H' := aM H
                  clear H
                  obtain ⟨Ao30, co30, eo30⟩ := Kd.R_slice HO116.out
                  subst eo30
                  obtain ⟨Ao31, co31, eo31⟩ := Kd.R_slice HO_3.out
                  subst eo31
                  go_wp2_with (first | ((with_reducible refine gate_callee (f := 11) rfl ?_); refine goesL_ (some 51) rfl rfl Tryd.func11 (by kernel_rfl) rfl #[.slice Ao30 t113.length co30, .slice Ao31 t101.length co31] rfl (by (try simp only [List.map_toArray, List.map_cons, List.map_nil]); first | done | rfl | (simp only [List.length_drop, List.length_take]; rfl)) ?_; (with_reducible refine (laws_eqCombS.calls kj4 _ _ t113 _ _ t101 true _ ?side1 ?side2 ?side3 ?side4 A28.out).mono ?_); (case side1 => repeat (first | exact (Kd.R_reads' HO116.out).2.2 | (with_reducible refine Kd.C_alloc ?_ _) | (with_reducible refine Kd.C_drewN ?_ _) | (with_reducible refine Kd.C_drew ?_))); (case side2 => exact (Kd.R_reads' HO116.out).2.1); (case side3 => repeat (first | exact (Kd.R_reads' HO_3.out).2.2 | (with_reducible refine Kd.C_alloc ?_ _) | (with_reducible refine Kd.C_drewN ?_ _) | (with_reducible refine Kd.C_drew ?_))); (case side4 => exact (Kd.R_reads' HO_3.out).2.1); rintro e w32 ⟨rfl, hb⟩; refine ⟨_, rfl, ?_⟩; have n0_ := aM (Kd.R_below (by (with_reducible repeat (first | apply rA | apply rN | apply rD)); exact HO_3.out) hb); have n1_ := aM (Kd.R_below (by (with_reducible repeat (first | apply rA | apply rN | apply rD)); exact HO_5.out) hb); have n2_ := aM (Kd.R_below (by (with_reducible repeat (first | apply rA | apply rN | apply rD)); exact HO116.out) hb); have n3_ := aM (below_step (by repeat (first | (with_reducible first | exact HB.out | apply below_alloc | apply pw_below_drewN | apply below_drew1) | exact HB.out)) hb); clear HO_3; clear HO_5; clear HO116; clear HB; have HO_3 := n0_; have HO_5 := n1_; have HO116 := n2_; have HB := n3_; clear n0_ n1_ n2_ n3_; (try clear hb); (try clear hb2); (try clear hk); (try clear hi)))
                  go_meet
                  case rel => exact ⟨_, ((t114 != t102)), (by first | rfl | (simp; done) | (simp [*]; done)), H', ⟨by have := HJ4.out; first | omega | exact Nat.le_refl _⟩, ⟨by (with_reducible repeat (first | apply rA | apply rN | apply rD)); exact Kd.R_mono HO_5.out (fun _ hk => trivial)⟩, ⟨by repeat (first | (with_reducible first | exact HB.out | apply below_alloc | apply pw_below_drewN | apply below_drew1) | exact HB.out)⟩⟩
                · replace c29 := Bool.eq_false_iff.mpr c29
                  subst c29
                  have H1 : (laws_FnExactReadComb.j1 kj4 t111 t110 true) = some r := by rw [if_neg (show ¬ (false = true) by decide)] at H; exact H
                  clear H
                  have H := H1
                  clear H1
                  have H' := aM H
                  clear H
                  obtain ⟨Ao33, co33, eo33⟩ := Kd.R_slice HO116.out
                  subst eo33
                  obtain ⟨Ao34, co34, eo34⟩ := Kd.R_slice HO_3.out
                  subst eo34
                  go_wp2_with (first | ((with_reducible refine gate_callee (f := 11) rfl ?_); refine goesL_ (some 51) rfl rfl Tryd.func11 (by kernel_rfl) rfl #[.slice Ao33 t113.length co33, .slice Ao34 t101.length co34] rfl (by (try simp only [List.map_toArray, List.map_cons, List.map_nil]); first | done | rfl | (simp only [List.length_drop, List.length_take]; rfl)) ?_; (with_reducible refine (laws_eqCombS.calls kj4 _ _ t113 _ _ t101 false _ ?side1 ?side2 ?side3 ?side4 A28.out).mono ?_); (case side1 => repeat (first | exact (Kd.R_reads' HO116.out).2.2 | (with_reducible refine Kd.C_alloc ?_ _) | (with_reducible refine Kd.C_drewN ?_ _) | (with_reducible refine Kd.C_drew ?_))); (case side2 => exact (Kd.R_reads' HO116.out).2.1); (case side3 => repeat (first | exact (Kd.R_reads' HO_3.out).2.2 | (with_reducible refine Kd.C_alloc ?_ _) | (with_reducible refine Kd.C_drewN ?_ _) | (with_reducible refine Kd.C_drew ?_))); (case side4 => exact (Kd.R_reads' HO_3.out).2.1); rintro e w35 ⟨rfl, hb⟩; refine ⟨_, rfl, ?_⟩; have n0_ := aM (Kd.R_below (by (with_reducible repeat (first | apply rA | apply rN | apply rD)); exact HO_3.out) hb); have n1_ := aM (Kd.R_below (by (with_reducible repeat (first | apply rA | apply rN | apply rD)); exact HO_5.out) hb); have n2_ := aM (Kd.R_below (by (with_reducible repeat (first | apply rA | apply rN | apply rD)); exact HO116.out) hb); have n3_ := aM (below_step (by repeat (first | (with_reducible first | exact HB.out | apply below_alloc | apply pw_below_drewN | apply below_drew1) | exact HB.out)) hb); clear HO_3; clear HO_5; clear HO116; clear HB; have HO_3 := n0_; have HO_5 := n1_; have HO116 := n2_; have HB := n3_; clear n0_ n1_ n2_ n3_; (try clear hb); (try clear hb2); (try clear hk); (try clear hi)))
                  go_meet
                  case rel => exact ⟨_, (true), (by first | rfl | (simp; done) | (simp [*]; done)), H', ⟨by have := HJ4.out; first | omega | exact Nat.le_refl _⟩, ⟨by (with_reducible repeat (first | apply rA | apply rN | apply rD)); exact Kd.R_mono HO_5.out (fun _ hk => trivial)⟩, ⟨by repeat (first | (with_reducible first | exact HB.out | apply below_alloc | apply pw_below_drewN | apply below_drew1) | exact HB.out)⟩⟩
              case rest =>
                clear HC24
                try clear c1
                try clear c2
                try clear c2b0
                try clear c2b1
                try clear p2
                try clear c5
                try clear c9
                try clear c11
                try clear c16
                try clear c17
                try clear c18
                try clear c19
                try clear c19b0
                try clear c20
                try clear c22
                try clear c22b0
                try clear c22b1
                try clear c29
                try clear p2
                obtain ⟨kq, x57_23, rfl, HA, HJ23, HO_5, HB⟩ := hcut
                have hl5_23 := (Kd.R_reads' HO_5.out).1
                rw [hl5_23] at HO_5
                (try simp only [hl5_23])
                cases kq with
                | zero => exact absurd HA.out (by simp [laws_FnExactReadComb.j1])
                | succ kj23 =>
                  have H := HA.out
                  clear HA
                  simp only [laws_FnExactReadComb.j1] at H
                  by_cases c36 : x57_23 = true
                  · subst c36
                    have H1 : (some false) = some r := by rw [if_pos rfl] at H; exact H
                    clear H
                    have H := H1
                    clear H1
                    obtain rfl := Option.some.inj H
                    go_wp2
                    go_ret
                    exact ⟨by first | rfl | (simp [errW_none, errW_some] <;> rfl) | (simp [*, errW_none, errW_some] <;> rfl), by repeat (first | (with_reducible first | exact HB.out | apply below_alloc | apply pw_below_drewN | apply below_drew1) | exact HB.out)⟩
                  · replace c36 := Bool.eq_false_iff.mpr c36
                    subst c36
                    have H1 : ((laws_heldCombS.f kj23 t111 1).bind fun t118 => (if t118 < 0 then (some false) else (if t118 = t110 then (some true) else (some false)))) = some r := by rw [if_neg (show ¬ (false = true) by decide)] at H; exact H
                    clear H
                    have H := H1
                    clear H1
                    replace H := Option.bind_eq_some_iff.mp H
                    obtain ⟨t118, A370, H⟩ := H
                    replace H : (if t118 < 0 then (some false) else (if t118 = t110 then (some true) else (some false))) = some r := H
                    have A37 := aM A370
                    clear A370
                    by_cases c38 : t118 < 0
                    · rw [if_pos c38] at H
                      have c38b0 : decide (t118 < 0) = true := decide_eq_true c38
                      clear c38
                      obtain rfl := Option.some.inj H
                      go_wp2_with (first | ((with_reducible refine gate_callee (f := 20) rfl ?_); refine goesL_ (some 60) rfl rfl Tryd.func20 (by kernel_rfl) rfl #[.slice Ao25 t111.length co25, .int .i64 1] rfl (by (try simp only [List.map_toArray, List.map_cons, List.map_nil]); first | done | rfl | (simp only [List.length_drop, List.length_take]; rfl)) ?_; (with_reducible refine (laws_heldCombS.calls kj23 _ _ t111 1 t118 _ ?side1 ?side2 A37.out).mono ?_); (case side1 => repeat (first | exact (Kd.R_reads' HO_5.out).2.2 | (with_reducible refine Kd.C_alloc ?_ _) | (with_reducible refine Kd.C_drewN ?_ _) | (with_reducible refine Kd.C_drew ?_))); (case side2 => exact (Kd.R_reads' HO_5.out).2.1); rintro e w' ⟨rfl, ⟨nd, rfl⟩⟩; refine ⟨_, rfl, ?_⟩))
                      go_ret
                      exact ⟨by first | rfl | (simp [errW_none, errW_some] <;> rfl) | (simp [*, errW_none, errW_some] <;> rfl), by repeat (first | (with_reducible first | exact HB.out | apply below_alloc | apply pw_below_drewN | apply below_drew1) | exact HB.out)⟩
                    · rw [if_neg c38] at H
                      have c38b0 : decide (t118 < 0) = false := decide_eq_false c38
                      clear c38
                      by_cases c39 : t118 = t110
                      · rw [if_pos c39] at H
                        have c39b0 : (t118 == t110) = true := beq_iff_eq.mpr c39
                        have c39b1 : (t118 != t110) = false := bne_eq_false_iff_eq.mpr c39
                        clear c39
                        obtain rfl := Option.some.inj H
                        go_wp2_with (first | ((with_reducible refine gate_callee (f := 20) rfl ?_); refine goesL_ (some 60) rfl rfl Tryd.func20 (by kernel_rfl) rfl #[.slice Ao25 t111.length co25, .int .i64 1] rfl (by (try simp only [List.map_toArray, List.map_cons, List.map_nil]); first | done | rfl | (simp only [List.length_drop, List.length_take]; rfl)) ?_; (with_reducible refine (laws_heldCombS.calls kj23 _ _ t111 1 t118 _ ?side1 ?side2 A37.out).mono ?_); (case side1 => repeat (first | exact (Kd.R_reads' HO_5.out).2.2 | (with_reducible refine Kd.C_alloc ?_ _) | (with_reducible refine Kd.C_drewN ?_ _) | (with_reducible refine Kd.C_drew ?_))); (case side2 => exact (Kd.R_reads' HO_5.out).2.1); rintro e w' ⟨rfl, ⟨nd, rfl⟩⟩; refine ⟨_, rfl, ?_⟩))
                        go_ret
                        exact ⟨by first | rfl | (simp [errW_none, errW_some] <;> rfl) | (simp [*, errW_none, errW_some] <;> rfl), by repeat (first | (with_reducible first | exact HB.out | apply below_alloc | apply pw_below_drewN | apply below_drew1) | exact HB.out)⟩
                      · rw [if_neg c39] at H
                        have c39b0 : (t118 == t110) = false := beq_eq_false_iff_ne.mpr c39
                        have c39b1 : (t118 != t110) = true := bne_iff_ne.mpr c39
                        obtain rfl := Option.some.inj H
                        go_wp2_with (first | ((with_reducible refine gate_callee (f := 20) rfl ?_); refine goesL_ (some 60) rfl rfl Tryd.func20 (by kernel_rfl) rfl #[.slice Ao25 t111.length co25, .int .i64 1] rfl (by (try simp only [List.map_toArray, List.map_cons, List.map_nil]); first | done | rfl | (simp only [List.length_drop, List.length_take]; rfl)) ?_; (with_reducible refine (laws_heldCombS.calls kj23 _ _ t111 1 t118 _ ?side1 ?side2 A37.out).mono ?_); (case side1 => repeat (first | exact (Kd.R_reads' HO_5.out).2.2 | (with_reducible refine Kd.C_alloc ?_ _) | (with_reducible refine Kd.C_drewN ?_ _) | (with_reducible refine Kd.C_drew ?_))); (case side2 => exact (Kd.R_reads' HO_5.out).2.1); rintro e w' ⟨rfl, ⟨nd, rfl⟩⟩; refine ⟨_, rfl, ?_⟩))
                        go_ret
                        exact ⟨by first | rfl | (simp [errW_none, errW_some] <;> rfl) | (simp [*, errW_none, errW_some] <;> rfl), by repeat (first | (with_reducible first | exact HB.out | apply below_alloc | apply pw_below_drewN | apply below_drew1) | exact HB.out)⟩
            · rw [if_neg c22] at H
              have c22b0 : (t112 == t110) = false := beq_eq_false_iff_ne.mpr c22
              have c22b1 : (t112 != t110) = true := bne_iff_ne.mpr c22
              obtain rfl := Option.some.inj H
              obtain ⟨Ao40, co40, eo40⟩ := Kd.R_slice HO_5.out
              subst eo40
              go_wp2_with (first | ((with_reducible refine gate_callee (f := 19) rfl ?_); refine goesL_ (some 35) rfl rfl Tryd.func19 (by kernel_rfl) rfl #[.slice Ao40 t105.length co40, .int .i64 1] rfl (by (try simp only [List.map_toArray, List.map_cons, List.map_nil]); first | done | rfl | (simp only [List.length_drop, List.length_take]; rfl)) ?_; (with_reducible refine (laws_markCombS.calls kj4 (fun k_ => some k_ = (.slice Ao40 t105.length co40 : Value).ownBlock) (.slice Ao40 t105.length co40) t105 1 t110 t111 w _ ?side1 ?side2 A17.out).mono ?_); (case side1 => repeat (first | (with_reducible first | exact HB.out | apply below_alloc | apply pw_below_drewN | apply below_drew1) | exact HB.out)); (case side2 => exact Kd.R_tight rfl HO_5.out); rintro e w41 ⟨rfl, hy0, hb, hkp⟩; refine ⟨_, rfl, ?_⟩; have n0_ := aM (Kd.R_mono (ok' := fun k_ => some k_ ≠ (.slice Ao40 t105.length co40 : Value).ownBlock) (Kd.R_keptB (HO_3.out) hkp (fun k_ hk_ hs_ => (hk_) hs_)) (fun k_ hk_ => hk_.1)); have n1_ := aM (Kd.R_reok rfl hy0 (fun k_ e_ => HO_5.out.1 k_ e_)); have n2_ := aM (hb); clear HO_3; clear HO_5; clear HB; have HO_3 := n0_; have HO_5 := n1_; have HB := n2_; clear n0_ n1_ n2_; (try clear hb); (try clear hkp); (try clear hy0)) | ((with_reducible refine gate_callee (f := 20) rfl ?_); refine goesL_ (some 38) rfl rfl Tryd.func20 (by kernel_rfl) rfl #[.slice Ao40 t111.length co40, .int .i64 1] rfl (by (try simp only [List.map_toArray, List.map_cons, List.map_nil]); first | done | (rw [show t111.length = t105.length from (Kd.R_reads' HO_5.out).1.symm] <;> rfl) | rfl | (simp only [List.length_drop, List.length_take]; rfl)) ?_; (with_reducible refine (laws_heldCombS.calls kj4 _ _ t111 1 t112 _ ?side1 ?side2 A18.out).mono ?_); (case side1 => repeat (first | exact (Kd.R_reads' HO_5.out).2.2 | (with_reducible refine Kd.C_alloc ?_ _) | (with_reducible refine Kd.C_drewN ?_ _) | (with_reducible refine Kd.C_drew ?_))); (case side2 => rw [show t111.length = t105.length from (Kd.R_reads' HO_5.out).1.symm]; exact (Kd.R_reads' HO_5.out).2.1); rintro e w' ⟨rfl, ⟨nd, rfl⟩⟩; refine ⟨_, rfl, ?_⟩))
              go_ret
              exact ⟨by first | rfl | (simp [errW_none, errW_some] <;> rfl) | (simp [*, errW_none, errW_some] <;> rfl), by repeat (first | (with_reducible first | exact HB.out | apply below_alloc | apply pw_below_drewN | apply below_drew1) | exact HB.out)⟩

def laws_FnExactReadComb.Pure : Prop := ∀ (a0 : ByteArray), a0.size ≤ 140737488351232 → ∃ k, laws_FnExactReadComb.f k a0 = some true

end Go.Proofs.YtcjhhdecckcibaaDoor.G

namespace Go.Proofs.YtcjhhdecckcibaaDoor.EvL
open Go.RowKit Go.Proofs.YtcjhhdecckcibaaDoorW.PrintWords
set_option linter.unusedVariables false

theorem w64 {x : Int} (h1 : -9223372036854775808 ≤ x) (h2 : x ≤ 9223372036854775807) : wrap64 x = x := by unfold wrap64; omega
theorem Ev.const {α : Type} {a : Option α} {r : α} (h : a = some r) : Ev (fun _ => a) r := ⟨0, fun _ _ => h⟩
theorem Ev.of_eq {α : Type} {g : Nat → Option α} {r r' : α} (h : Ev g r) (e : r = r') : Ev g r' := e ▸ h
theorem Ev.ite_pos {α : Type} {c : Prop} [Decidable c] {g f : Nat → Option α} {r : α} (hc : c) (h : Ev g r) : Ev (fun k => if c then g k else f k) r := Ev.congr (fun k => if_pos hc) h
theorem Ev.ite_neg {α : Type} {c : Prop} [Decidable c] {g f : Nat → Option α} {r : α} (hc : ¬ c) (h : Ev f r) : Ev (fun k => if c then g k else f k) r := Ev.congr (fun k => if_neg hc) h
theorem Ev.succ {α : Type} {g : Nat → Option α} {r : α} (h : Ev (fun k => g (k + 1)) r) : Ev g r := Ev.step (fun k => rfl) h
theorem Ev.unique {α : Type} {g : Nat → Option α} {r r' : α} (h : Ev g r) (h' : Ev g r') : r = r' := by
  obtain ⟨K, hK⟩ := h
  obtain ⟨K', hK'⟩ := h'
  have h1 := hK (max K K') (Nat.le_max_left ..)
  have h2 := hK' (max K K') (Nat.le_max_right ..)
  rw [h1] at h2
  exact Option.some.inj h2

theorem ev_all (F : Nat → Int → Option Bool) (n : Nat) (p : Nat → Bool) (hs : ∀ (k i : Nat), i < n → F (k + 1) i = if p i = true then F k ((i + 1 : Nat) : Int) else some false) (he : ∀ k, F (k + 1) n = some true) :
    ∀ (d i : Nat), i + d = n → Ev (fun k => F k i) ((List.range d).all fun j => p (i + j)) := by
  intro d
  induction d with
  | zero => intro i hi; obtain rfl : i = n := by omega
            exact Ev.step he (Ev.now _)
  | succ d ih =>
    intro i hi
    have e : ((List.range (d + 1)).all fun j => p (i + j)) = (p i && (List.range d).all fun j => p (i + 1 + j)) := by
      rw [List.range_succ_eq_map, List.all_cons, List.all_map, Nat.add_zero]
      congr 1; congr 1; funext j; show p (i + (j + 1)) = _; congr 1; omega
    rw [e]
    by_cases hp : p i = true
    · refine Ev.step (fun k => (hs k i (by omega)).trans (if_pos hp)) ?_
      rw [hp, Bool.true_and]
      exact ih (i + 1) (by omega)
    · refine Ev.step (fun k => (hs k i (by omega)).trans (if_neg hp)) ?_
      rw [Bool.eq_false_iff.mpr hp, Bool.false_and]
      exact Ev.now _

end Go.Proofs.YtcjhhdecckcibaaDoor.EvL

namespace Go.Proofs.YtcjhhdecckcibaaDoor.TxtL
open Go.RowKit Go.Proofs.YtcjhhdecckcibaaDoor.EvL Go.Proofs.YtcjhhdecckcibaaDoorW.PrintWords
set_option linter.unusedVariables false
set_option linter.unusedSimpArgs false

def B (l : List UInt8) : ByteArray := ⟨l.toArray⟩
theorem B_list (l : List UInt8) : (B l).data.toList = l := rfl
theorem B_of (s : ByteArray) : B s.data.toList = s := rfl
theorem B_size (l : List UInt8) : (B l).size = l.length := by show l.toArray.size = _; simp
theorem len (s : ByteArray) : s.data.toList.length = s.size := by rw [Array.length_toList]; rfl
theorem B_append (a b : List UInt8) : B a ++ B b = B (a ++ b) := by
  apply ByteArray.ext
  simp [B]
theorem loop_eq (s : ByteArray) : ∀ (n i : Nat) (r : List UInt8), s.size - i = n → ByteArray.toList.loop s i r = r.reverse ++ s.data.toList.drop i := by
  intro n
  induction n with
  | zero =>
    intro i r h
    rw [ByteArray.toList.loop, if_neg (by omega), List.drop_eq_nil_of_le (by rw [len]; omega), List.append_nil]
  | succ n ih =>
    intro i r h
    have hi : i < s.size := by omega
    rw [ByteArray.toList.loop, if_pos hi, ih (i + 1) _ (by omega), List.drop_eq_getElem_cons (show i < s.data.toList.length by rw [len]; exact hi)]
    have e : s.get! i = s.data.toList[i]'(by rw [len]; exact hi) := by
      show s.data[i]! = _
      rw [getElem!_pos s.data i hi]
      exact (Array.getElem_toList _).symm
    rw [List.reverse_cons, List.append_assoc, List.singleton_append, e]
theorem toList_eq (s : ByteArray) : s.toList = s.data.toList := by
  show ByteArray.toList.loop s 0 [] = _
  rw [loop_eq s s.size 0 [] (by omega)]; rfl
theorem toList_B (l : List UInt8) : (B l).toList = l := toList_eq _
theorem bt_B (l : List UInt8) (i : Nat) (h : i < l.length) : bt (B l) (i : Int) = ((l[i]).toNat : Int) := by
  rw [← bt_at (B l) i (by rw [Int.toNat_natCast, B_size]; exact h)]
  rfl
theorem ext_drop (l : List UInt8) (n m : Nat) (h : m = l.length) : (B l).extract n m = B (l.drop n) := by
  subst h
  apply ByteArray.ext
  simp [B]
  exact List.take_of_length_le (by rw [List.length_drop]; omega)

def isD (c : UInt8) : Prop := 48 ≤ c.toNat ∧ c.toNat ≤ 57
instance (c : UInt8) : Decidable (isD c) := by unfold isD; exact inferInstance
def stepD (a : Nat) (c : UInt8) : Nat := a * 10 + (c.toNat - 48)
def valF (a : Nat) (l : List UInt8) : Nat := l.foldl stepD a
theorem valF_cons (a : Nat) (c : UInt8) (l : List UInt8) : valF a (c :: l) = valF (a * 10 + (c.toNat - 48)) l := by unfold valF; rw [List.foldl_cons, stepD]
theorem valF_one (a : Nat) (c : UInt8) : valF a [c] = a * 10 + (c.toNat - 48) := by unfold valF; rw [List.foldl_cons, List.foldl_nil, stepD]
theorem valF_app (l m : List UInt8) (a : Nat) : valF a (l ++ m) = valF (valF a l) m := List.foldl_append
theorem head_app {α : Type} {l : List α} (m : List α) (h : l ≠ []) : (l ++ m).head? = l.head? := by
  cases l with
  | nil => exact absurd rfl h
  | cons a l => rfl
theorem valF_ge : ∀ (l : List UInt8) (a : Nat), a ≤ valF a l
  | [], a => Nat.le_refl _
  | c :: l, a => by rw [valF_cons]; exact Nat.le_trans (by omega) (valF_ge l _)
theorem valF_lt : ∀ (l : List UInt8) (a : Nat), (∀ c ∈ l, isD c) → valF a l < (a + 1) * 10 ^ l.length
  | [], a, _ => by show a < (a + 1) * 1; omega
  | c :: l, a, h => by
    have hc := h c (by simp)
    have ih := valF_lt l (a * 10 + (c.toNat - 48)) (fun x hx => h x (by simp [hx]))
    rw [valF_cons, List.length_cons, Nat.pow_succ]
    refine Nat.lt_of_lt_of_le ih ?_
    rw [Nat.mul_comm (10 ^ l.length) 10, ← Nat.mul_assoc]
    exact Nat.mul_le_mul_right _ (by unfold isD at hc; omega)
theorem digit_ofNat (i : Nat) (h : i < 10) : (UInt8.ofNat (48 + i)).toNat = 48 + i := by
  rw [UInt8.toNat_ofNat']; omega
def Numeral (l : List UInt8) : Prop := (∀ c ∈ l, isD c) ∧ l ≠ [] ∧ (l.head? ≠ some 48 ∨ l.length = 1)
theorem dec_numeral : ∀ (n : Nat), Numeral (Lib.decDigits n) ∧ valF 0 (Lib.decDigits n) = n ∧ (1 ≤ n → (Lib.decDigits n).head? ≠ some 48) := by
  intro n
  induction n using Nat.strongRecOn with
  | _ n ih =>
    by_cases h : n < 10
    · have hd := digit_ofNat n h
      rw [Lib.decDigits_one h]
      refine ⟨⟨?_, by simp, .inr rfl⟩, ?_, ?_⟩
      · intro c hc
        rw [List.mem_singleton] at hc
        rw [hc]; unfold isD; rw [hd]; omega
      · rw [valF_one, hd]; omega
      · intro h1 e
        have e2 : UInt8.ofNat (48 + n) = 48 := by simpa using e
        have e3 := congrArg UInt8.toNat e2
        rw [hd] at e3
        have : (48 : UInt8).toNat = 48 := rfl
        omega
    · have e : Lib.decDigits n = Lib.decDigits (n / 10) ++ [UInt8.ofNat (48 + n % 10)] := by rw [Lib.decDigits, dif_neg h]
      obtain ⟨⟨h1, h2, _⟩, h4, h5⟩ := ih (n / 10) (by omega)
      have hd := digit_ofNat (n % 10) (by omega)
      have hh : (Lib.decDigits n).head? ≠ some 48 := by
        rw [e, head_app _ h2]
        exact h5 (by omega)
      refine ⟨⟨?_, by rw [e]; simp, .inl hh⟩, ?_, fun _ => hh⟩
      · intro c hc
        rw [e, List.mem_append, List.mem_singleton] at hc
        rcases hc with hc | hc
        · exact h1 c hc
        · rw [hc]; unfold isD; rw [hd]; omega
      · rw [e, valF_app, h4, valF_one, hd]; omega
theorem parse_ok : ∀ (l : List UInt8) (a : Nat), (∀ c ∈ l, isD c) → valF a l ≤ 1000000000000000000 → Lib.parseUint10 a l = .ok (valF a l)
  | [], a, _, _ => rfl
  | c :: l, a, h, hv => by
    have hc : isD c := h c (by simp)
    rw [valF_cons] at hv
    have hg := valF_ge l (a * 10 + (c.toNat - 48))
    unfold Lib.parseUint10
    rw [if_pos (show 48 ≤ c.toNat ∧ c.toNat ≤ 57 from hc), if_neg (by omega), if_neg (by omega), parse_ok l _ (fun x hx => h x (by simp [hx])) hv, valF_cons]
theorem atoi_digits (l : List UInt8) (h1 : ∀ c ∈ l, isD c) (h2 : l ≠ []) (hn : valF 0 l ≤ 1000000000000000000) : Lib.atoiAll l = .ok ((valF 0 l : Nat) : Int) := by
  have hp := parse_ok l 0 h1 hn
  generalize valF 0 l = n at hp hn
  cases l with
  | nil => exact absurd rfl h2
  | cons c r =>
    have hc : isD c := h1 c (by simp)
    unfold isD at hc
    unfold Lib.atoiAll
    have hs : ¬ (c.toNat = 43 ∨ c.toNat = 45) := by omega
    have hs2 : ¬ c.toNat = 45 := by omega
    simp only [if_neg hs]
    unfold Lib.parseMag
    rw [if_neg (by simp), hp]
    simp only [hs2, not_false_eq_true, true_and, false_and, if_false]
    rw [if_neg (by omega)]
end Go.Proofs.YtcjhhdecckcibaaDoor.TxtL

namespace Go.Proofs.YtcjhhdecckcibaaDoor.TreeM
set_option linter.unusedVariables false

structure Nd where
  kind : Int
  n : Int
  up : Int
inductive Tr where
  | leaf (k n : Int)
  | un (k n : Int) (a : Tr)
  | bin (k n : Int) (a b : Tr)
def Tr.kind : Tr → Int
  | .leaf k _ => k
  | .un k _ _ => k
  | .bin k _ _ _ => k
def Tr.num : Tr → Int
  | .leaf _ n => n
  | .un _ n _ => n
  | .bin _ n _ _ => n
def Tr.size : Tr → Nat
  | .leaf _ _ => 1
  | .un _ _ a => 1 + a.size
  | .bin _ _ a b => 1 + a.size + b.size
def Tr.depth : Tr → Nat
  | .leaf _ _ => 1
  | .un _ _ a => a.depth + 1
  | .bin _ _ a b => max a.depth b.depth + 1
def Tr.all (p : Int → Int → Prop) : Tr → Prop
  | .leaf k n => p k n
  | .un k n a => p k n ∧ a.all p
  | .bin k n a b => p k n ∧ a.all p ∧ b.all p

def z : Nd := ⟨0, 0, 0⟩
def up (l : List Nd) (i : Nat) : Int := (l.getD i z).up
theorem up_of {l : List Nd} {i : Nat} {x : Nd} (h : l[i]? = some x) : up l i = x.up := by unfold up; rw [List.getD_eq_getElem?_getD, h]; rfl
theorem lt_of {l : List Nd} {i : Nat} {x : Nd} (h : l[i]? = some x) : i < l.length := by
  by_cases hi : i < l.length
  · exact hi
  · rw [List.getElem?_eq_none (by omega)] at h; cases h
theorem get_of {l : List Nd} {i : Nat} (h : i < l.length) : l[i]? = some (l.getD i z) := by rw [List.getD_eq_getElem?_getD, List.getElem?_eq_getElem h]; rfl

def chain (l : List Nd) (i : Nat) : List Nat := i :: if h : 0 ≤ up l i ∧ up l i < (i : Int) then chain l (up l i).toNat else []
termination_by i
decreasing_by omega
theorem chain_self (l : List Nd) (i : Nat) : i ∈ chain l i := by rw [chain]; simp
theorem chain_up {l : List Nd} {i : Nat} (h : 0 ≤ up l i ∧ up l i < (i : Int)) : chain l i = i :: chain l (up l i).toNat := by rw [chain, dif_pos h]
theorem chain_top {l : List Nd} {i : Nat} (h : ¬ (0 ≤ up l i ∧ up l i < (i : Int))) : chain l i = [i] := by rw [chain, dif_neg h]
theorem chain_le {l : List Nd} : ∀ (i j : Nat), j ∈ chain l i → j ≤ i := by
  intro i
  induction i using Nat.strongRecOn with
  | _ i ih =>
    intro j hj
    by_cases h : 0 ≤ up l i ∧ up l i < (i : Int)
    · rw [chain_up h, List.mem_cons] at hj
      rcases hj with rfl | hj
      · exact Nat.le_refl _
      · have := ih _ (by omega) j hj; omega
    · rw [chain_top h] at hj
      have : j = i := by simpa using hj
      omega
theorem chain_trans {l : List Nd} : ∀ (i j x : Nat), j ∈ chain l i → x ∈ chain l j → x ∈ chain l i := by
  intro i
  induction i using Nat.strongRecOn with
  | _ i ih =>
    intro j x hj hx
    by_cases h : 0 ≤ up l i ∧ up l i < (i : Int)
    · rw [chain_up h, List.mem_cons] at hj
      rcases hj with rfl | hj
      · exact hx
      · rw [chain_up h]
        exact List.mem_cons_of_mem _ (ih _ (by omega) j x hj hx)
    · rw [chain_top h] at hj
      obtain rfl : j = i := by simpa using hj
      exact hx
theorem chain_below {l : List Nd} : ∀ (i j x : Nat), j ∈ chain l i → x ∈ chain l i → x ≤ j → x ∈ chain l j := by
  intro i
  induction i using Nat.strongRecOn with
  | _ i ih =>
    intro j x hj hx hle
    by_cases h : 0 ≤ up l i ∧ up l i < (i : Int)
    · rw [chain_up h, List.mem_cons] at hj hx
      rcases hj with rfl | hj
      · rw [chain_up h]; exact List.mem_cons.mpr hx
      · rcases hx with rfl | hx
        · have := chain_le _ _ hj; omega
        · exact ih _ (by omega) j x hj hx hle
    · rw [chain_top h] at hj hx
      obtain rfl : j = i := by simpa using hj
      rw [chain_top h]; exact hx
theorem chain_mem_up {l : List Nd} {i : Nat} (h : 0 ≤ up l i ∧ up l i < (i : Int)) {x : Nat} (hx : x ∈ chain l i) (hne : x ≠ i) : x ∈ chain l (up l i).toNat := by
  rw [chain_up h, List.mem_cons] at hx
  exact hx.resolve_left hne

def cnt (l : List Nd) (i : Nat) : Nat → Nat → Nat
  | _, 0 => 0
  | a, d + 1 => (if up l a = (i : Int) then 1 else 0) + cnt l i (a + 1) d
theorem cnt_add (l : List Nd) (i : Nat) : ∀ (d a d' : Nat), cnt l i a (d + d') = cnt l i a d + cnt l i (a + d) d'
  | 0, a, d' => by simp [cnt]
  | d + 1, a, d' => by
    have e : d + 1 + d' = (d + d') + 1 := by omega
    rw [e]
    show (if up l a = (i : Int) then 1 else 0) + cnt l i (a + 1) (d + d') = (if up l a = (i : Int) then 1 else 0) + cnt l i (a + 1) d + cnt l i (a + (d + 1)) d'
    rw [cnt_add l i d (a + 1) d', show a + 1 + d = a + (d + 1) by omega]; omega
theorem cnt_zero (l : List Nd) (i : Nat) : ∀ (d a : Nat), (∀ m, a ≤ m → m < a + d → up l m ≠ (i : Int)) → cnt l i a d = 0
  | 0, a, h => rfl
  | d + 1, a, h => by
    show (if up l a = (i : Int) then 1 else 0) + cnt l i (a + 1) d = 0
    rw [if_neg (h a (Nat.le_refl _) (by omega)), cnt_zero l i d (a + 1) (fun m h1 h2 => h m (by omega) (by omega))]

structure Arity where
  top : Int
  want : Int → Nat

inductive Par (A : Arity) (l : List Nd) : Nat → Int → Tr → Nat → Prop
  | leaf {i : Nat} {u k n : Int} (h : l[i]? = some ⟨k, n, u⟩) (hk : 1 ≤ k ∧ k ≤ A.top) (hw : A.want k = 0) : Par A l i u (.leaf k n) (i + 1)
  | un {i e : Nat} {u k n : Int} {a : Tr} (h : l[i]? = some ⟨k, n, u⟩) (hk : 1 ≤ k ∧ k ≤ A.top) (hw : A.want k = 1) (ha : Par A l (i + 1) i a e) : Par A l i u (.un k n a) e
  | bin {i e e' : Nat} {u k n : Int} {a b : Tr} (h : l[i]? = some ⟨k, n, u⟩) (hk : 1 ≤ k ∧ k ≤ A.top) (hw : A.want k = 2) (ha : Par A l (i + 1) i a e) (hb : Par A l e i b e') : Par A l i u (.bin k n a b) e'

theorem Par.span {A : Arity} {l : List Nd} {i e : Nat} {u : Int} {t : Tr} (h : Par A l i u t e) : e = i + t.size ∧ e ≤ l.length ∧ up l i = u := by
  induction h with
  | @leaf i u k n h hk hw => exact ⟨rfl, lt_of h, up_of h⟩
  | @un i e u k n a h hk hw ha ih => exact ⟨by rw [ih.1]; show _ = _ + (1 + _); omega, ih.2.1, up_of h⟩
  | @bin i e e' u k n a b h hk hw ha hb ih1 ih2 => exact ⟨by rw [ih2.1, ih1.1]; show _ = _ + (1 + _ + _); omega, ih2.2.1, up_of h⟩
theorem Tr.size_pos (t : Tr) : 0 < t.size := by cases t <;> (simp only [Tr.size]; omega)
theorem Par.lt {A : Arity} {l : List Nd} {i e : Nat} {u : Int} {t : Tr} (h : Par A l i u t e) : i < e := by have := h.span.1; have := t.size_pos; omega

theorem Par.inside {A : Arity} {l : List Nd} {i e : Nat} {u : Int} {t : Tr} (h : Par A l i u t e) : ∀ m, i < m → m < e → (i : Int) ≤ up l m ∧ up l m < (m : Int) := by
  induction h with
  | @leaf i u k n h hk hw => intro m h1 h2; omega
  | @un i e u k n a h hk hw ha ih =>
    intro m h1 h2
    by_cases hm : m = i + 1
    · subst hm; rw [ha.span.2.2]; omega
    · have := ih m (by omega) h2; omega
  | @bin i e e' u k n a b h hk hw ha hb ih1 ih2 =>
    intro m h1 h2
    have := ha.lt
    by_cases hm : m = i + 1
    · subst hm; rw [ha.span.2.2]; omega
    · by_cases hme : m < e
      · have := ih1 m (by omega) hme; omega
      · by_cases hm2 : m = e
        · subst hm2; rw [hb.span.2.2]; omega
        · have := ih2 m (by omega) h2; omega

theorem anc_of_sub {l : List Nd} {i e : Nat} (h : ∀ m, i < m → m < e → (i : Int) ≤ up l m ∧ up l m < (m : Int)) : ∀ m, i ≤ m → m < e → i ∈ chain l m := by
  intro m
  induction m using Nat.strongRecOn with
  | _ m ih =>
    intro h1 h2
    by_cases hm : m = i
    · subst hm; exact chain_self l m
    · have hu := h m (by omega) h2
      rw [chain_up (by omega)]
      exact List.mem_cons_of_mem _ (ih (up l m).toNat (by omega) (by omega) (by omega))

theorem Par.around {A : Arity} {l : List Nd} {i e : Nat} {u : Int} {t : Tr} (h : Par A l i u t e) : ∀ m, i < m → m < e → (up l m).toNat ∈ chain l (m - 1) := by
  induction h with
  | @leaf i u k n h hk hw => intro m h1 h2; omega
  | @un i e u k n a h hk hw ha ih =>
    intro m h1 h2
    by_cases hm : m = i + 1
    · subst hm; rw [ha.span.2.2]; exact chain_self l i
    · exact ih m (by omega) h2
  | @bin i e e' u k n a b h hk hw ha hb ih1 ih2 =>
    intro m h1 h2
    have hlt := ha.lt
    by_cases hm : m = i + 1
    · subst hm; rw [ha.span.2.2]; exact chain_self l i
    · by_cases hme : m < e
      · exact ih1 m (by omega) hme
      · by_cases hm2 : m = e
        · subst hm2
          rw [hb.span.2.2]
          exact anc_of_sub (e := m) (fun q h3 h4 => (Par.bin h hk hw ha hb).inside q h3 (by have := hb.lt; omega)) (m - 1) (by omega) (by omega)
        · exact ih2 m (by omega) h2

theorem Par.counts {A : Arity} {l : List Nd} {i e : Nat} {u : Int} {t : Tr} (h : Par A l i u t e) : ∀ m, i ≤ m → m < e → ∃ k n v, l[m]? = some ⟨k, n, v⟩ ∧ (1 ≤ k ∧ k ≤ A.top) ∧ cnt l m (m + 1) (e - (m + 1)) = A.want k := by
  induction h with
  | @leaf i u k n h hk hw =>
    intro m h1 h2
    obtain rfl : m = i := by omega
    exact ⟨k, n, u, h, hk, by rw [hw, Nat.sub_self]; rfl⟩
  | @un i e u k n a h hk hw ha ih =>
    intro m h1 h2
    have hlt := ha.lt
    by_cases hm : m = i
    · subst hm
      refine ⟨k, n, u, h, hk, ?_⟩
      obtain ⟨d, hd⟩ : ∃ d, e - (m + 1) = d + 1 := ⟨e - (m + 1) - 1, by omega⟩
      rw [hd, hw]
      show (if up l (m + 1) = (m : Int) then 1 else 0) + cnt l m (m + 1 + 1) d = 1
      rw [if_pos ha.span.2.2, cnt_zero]
      intro q h3 h4
      have := ha.inside q (by omega) (by omega); omega
    · exact ih m (by omega) h2
  | @bin i e e' u k n a b h hk hw ha hb ih1 ih2 =>
    intro m h1 h2
    have hlt := ha.lt
    have hlt2 := hb.lt
    by_cases hm : m = i
    · subst hm
      refine ⟨k, n, u, h, hk, ?_⟩
      obtain ⟨d, hd⟩ : ∃ d, e - (m + 1) = d + 1 := ⟨e - (m + 1) - 1, by omega⟩
      obtain ⟨d2, hd2⟩ : ∃ d2, e' - e = d2 + 1 := ⟨e' - e - 1, by omega⟩
      rw [show e' - (m + 1) = (d + 1) + (d2 + 1) by omega, hw, cnt_add, show m + 1 + (d + 1) = e by omega]
      show (if up l (m + 1) = (m : Int) then 1 else 0) + cnt l m (m + 1 + 1) d + ((if up l e = (m : Int) then 1 else 0) + cnt l m (e + 1) d2) = 2
      rw [if_pos ha.span.2.2, if_pos hb.span.2.2, cnt_zero, cnt_zero]
      · intro q h3 h4
        have := hb.inside q (by omega) (by omega); omega
      · intro q h3 h4
        have := ha.inside q (by omega) (by omega); omega
    · by_cases hme : m < e
      · obtain ⟨k', n', v', h3, h4, h5⟩ := ih1 m (by omega) hme
        refine ⟨k', n', v', h3, h4, ?_⟩
        rw [show e' - (m + 1) = (e - (m + 1)) + (e' - e) by omega, cnt_add, h5, show m + 1 + (e - (m + 1)) = e by omega, cnt_zero, Nat.add_zero]
        intro q h6 h7
        by_cases hq : q = e
        · subst hq; rw [hb.span.2.2]; omega
        · have := hb.inside q (by omega) (by omega); omega
      · exact ih2 m (by omega) h2

theorem Par.deep {A : Arity} {l : List Nd} {i e : Nat} {u : Int} {t : Tr} (h : Par A l i u t e) : (∀ m, i ≤ m → m < e → (chain l m).length + 1 ≤ (chain l i).length + t.depth) ∧ ∃ m, i ≤ m ∧ m < e ∧ (chain l m).length + 1 = (chain l i).length + t.depth := by
  have up1 : ∀ (q i : Nat), up l q = (i : Int) → i < q → (chain l q).length = (chain l i).length + 1 := fun q i h1 h2 => by
    rw [chain_up (by omega), h1]; simp
  induction h with
  | @leaf i u k n h hk hw =>
    exact ⟨fun m h1 h2 => by obtain rfl : m = i := by omega
                             exact Nat.le_refl _, i, Nat.le_refl _, by omega, rfl⟩
  | @un i e u k n a h hk hw ha ih =>
    have hlt := ha.lt
    have e1 := up1 (i + 1) i ha.span.2.2 (by omega)
    refine ⟨fun m h1 h2 => ?_, ?_⟩
    · by_cases hm : m = i
      · subst hm; show _ ≤ _ + (a.depth + 1); omega
      · have := ih.1 m (by omega) h2; show _ ≤ _ + (a.depth + 1); omega
    · obtain ⟨m, h1, h2, h3⟩ := ih.2
      exact ⟨m, by omega, h2, by show _ = _ + (a.depth + 1); omega⟩
  | @bin i e e' u k n a b h hk hw ha hb ih1 ih2 =>
    have hlt := ha.lt
    have hlt2 := hb.lt
    have e1 := up1 (i + 1) i ha.span.2.2 (by omega)
    have e2 := up1 e i hb.span.2.2 (by omega)
    refine ⟨fun m h1 h2 => ?_, ?_⟩
    · show _ ≤ _ + (max a.depth b.depth + 1)
      by_cases hm : m = i
      · subst hm; omega
      · by_cases hme : m < e
        · have := ih1.1 m (by omega) hme; omega
        · have := ih2.1 m (by omega) h2; omega
    · by_cases hd : b.depth ≤ a.depth
      · obtain ⟨m, h1, h2, h3⟩ := ih1.2
        exact ⟨m, by omega, by omega, by show _ = _ + (max a.depth b.depth + 1); omega⟩
      · obtain ⟨m, h1, h2, h3⟩ := ih2.2
        exact ⟨m, by omega, by omega, by show _ = _ + (max a.depth b.depth + 1); omega⟩

theorem Par.alls {A : Arity} {l : List Nd} {i e : Nat} {u : Int} {t : Tr} (h : Par A l i u t e) (p : Int → Int → Prop) : t.all p ↔ ∀ m, i ≤ m → m < e → p (l.getD m z).kind (l.getD m z).n := by
  have at1 : ∀ (q : Nat) (x : Nd), l[q]? = some x → l.getD q z = x := fun q x h => by rw [List.getD_eq_getElem?_getD, h]; rfl
  induction h with
  | @leaf i u k n h hk hw =>
    constructor
    · intro h1 m h2 h3
      obtain rfl : m = i := by omega
      rw [at1 _ _ h]; exact h1
    · intro h1
      have := h1 i (Nat.le_refl _) (by omega)
      rw [at1 _ _ h] at this; exact this
  | @un i e u k n a h hk hw ha ih =>
    have hlt := ha.lt
    constructor
    · rintro ⟨h1, h2⟩ m h3 h4
      by_cases hm : m = i
      · subst hm; rw [at1 _ _ h]; exact h1
      · exact ih.mp h2 m (by omega) h4
    · intro h1
      have := h1 i (Nat.le_refl _) (by omega)
      rw [at1 _ _ h] at this
      exact ⟨this, ih.mpr (fun m h3 h4 => h1 m (by omega) h4)⟩
  | @bin i e e' u k n a b h hk hw ha hb ih1 ih2 =>
    have hlt := ha.lt
    have hlt2 := hb.lt
    constructor
    · rintro ⟨h1, h2, h2'⟩ m h3 h4
      by_cases hm : m = i
      · subst hm; rw [at1 _ _ h]; exact h1
      · by_cases hme : m < e
        · exact ih1.mp h2 m (by omega) hme
        · exact ih2.mp h2' m (by omega) h4
    · intro h1
      have := h1 i (Nat.le_refl _) (by omega)
      rw [at1 _ _ h] at this
      exact ⟨this, ih1.mpr (fun m h3 h4 => h1 m (by omega) (by omega)), ih2.mpr (fun m h3 h4 => h1 m (by omega) (by omega))⟩

structure Loc (A : Arity) (l : List Nd) : Prop where
  root : ∀ h : 0 < l.length, up l 0 = -1
  ahead : ∀ m, 0 < m → m < l.length → 0 ≤ up l m ∧ up l m < (m : Int)
  around : ∀ m, 0 < m → m < l.length → (up l m).toNat ∈ chain l (m - 1)
  kinds : ∀ m, m < l.length → 1 ≤ (l.getD m z).kind ∧ (l.getD m z).kind ≤ A.top
  wants : ∀ m, m < l.length → cnt l m (m + 1) (l.length - (m + 1)) = A.want (l.getD m z).kind

theorem Par.loc {A : Arity} {l : List Nd} {t : Tr} (h : Par A l 0 (-1) t l.length) : Loc A l := by
  have at1 : ∀ (q : Nat) (x : Nd), l[q]? = some x → l.getD q z = x := fun q x h => by rw [List.getD_eq_getElem?_getD, h]; rfl
  refine ⟨fun _ => h.span.2.2, fun m h1 h2 => by have := h.inside m h1 h2; omega, fun m h1 h2 => h.around m h1 h2, fun m h1 => ?_, fun m h1 => ?_⟩
  · obtain ⟨k, n, v, h2, h3, _⟩ := h.counts m (by omega) h1
    rw [at1 _ _ h2]; exact h3
  · obtain ⟨k, n, v, h2, _, h3⟩ := h.counts m (by omega) h1
    rw [at1 _ _ h2]; exact h3

theorem Loc.past {A : Arity} {l : List Nd} (L : Loc A l) {i e : Nat} (hi : i < e) (he : e < l.length) (hu : up l e < (i : Int)) : ∀ m, e ≤ m → m < l.length → ∀ x ∈ chain l m, x < i ∨ e ≤ x := by
  intro m
  induction m using Nat.strongRecOn with
  | _ m ih =>
    intro h1 h2 x hx
    have ha := L.ahead m (by omega) h2
    rw [chain_up ha, List.mem_cons] at hx
    rcases hx with rfl | hx
    · exact .inr h1
    · by_cases hm : m = e
      · subst hm
        have := chain_le _ _ hx
        exact .inl (by omega)
      · exact ih (m - 1) (by omega) (by omega) (by omega) x (chain_trans _ _ _ (L.around m (by omega) h2) hx)

theorem Loc.par {A : Arity} {l : List Nd} (L : Loc A l) (hA : ∀ k, A.want k ≤ 2) : ∀ (d i : Nat), i + d = l.length → 0 < d → ∃ t e, Par A l i (up l i) t e ∧ (e = l.length ∨ up l e < (i : Int)) := by
  intro d
  induction d using Nat.strongRecOn with
  | _ d ih =>
    intro i hi hd
    have hlt : i < l.length := by omega
    have hx : l[i]? = some ⟨(l.getD i z).kind, (l.getD i z).n, up l i⟩ := get_of hlt
    have hk := L.kinds i hlt
    have hw := L.wants i hlt
    -- the first part, if there is any
    have first : ∀ h : 0 < A.want (l.getD i z).kind, i + 1 < l.length ∧ up l (i + 1) = (i : Int) := by
      intro h
      have h1 : i + 1 < l.length := by
        by_cases h1 : i + 1 < l.length
        · exact h1
        · rw [show l.length - (i + 1) = 0 by omega] at hw
          have : cnt l i (i + 1) 0 = 0 := rfl
          omega
      refine ⟨h1, ?_⟩
      have ha := L.ahead (i + 1) (by omega) h1
      by_cases hu : up l (i + 1) = (i : Int)
      · exact hu
      · have hz : cnt l i (i + 1) (l.length - (i + 1)) = 0 := cnt_zero l i _ _ (fun m h2 h3 he => by
          have hp := L.past (i := i) (e := i + 1) (by omega) h1 (by omega) m (by omega) (by omega) i (by
            rw [chain_up (L.ahead m (by omega) (by omega)), he, Int.toNat_natCast]
            exact List.mem_cons_of_mem _ (chain_self l i))
          omega)
        omega
    by_cases h0 : A.want (l.getD i z).kind = 0
    · refine ⟨_, i + 1, .leaf hx hk h0, ?_⟩
      by_cases h1 : i + 1 < l.length
      · refine .inr ?_
        have ha := L.ahead (i + 1) (by omega) h1
        by_cases hu : up l (i + 1) = (i : Int)
        · obtain ⟨d', hd'⟩ : ∃ d', l.length - (i + 1) = d' + 1 := ⟨l.length - (i + 1) - 1, by omega⟩
          rw [hd', h0] at hw
          have hw' : (if up l (i + 1) = (i : Int) then 1 else 0) + cnt l i (i + 1 + 1) d' = 0 := hw
          rw [if_pos hu] at hw'; omega
        · omega
      · exact .inl (by omega)
    · obtain ⟨h1, hu1⟩ := first (by omega)
      obtain ⟨a, e1, pa, he1⟩ := ih (l.length - (i + 1)) (by omega) (i + 1) (by omega) (by omega)
      rw [hu1] at pa
      have hs1 := pa.span
      have hl1 := pa.lt
      have c1 : cnt l i (i + 1) (e1 - (i + 1)) = 1 := by
        obtain ⟨d', hd'⟩ : ∃ d', e1 - (i + 1) = d' + 1 := ⟨e1 - (i + 1) - 1, by omega⟩
        rw [hd']
        show (if up l (i + 1) = (i : Int) then 1 else 0) + cnt l i (i + 1 + 1) d' = 1
        rw [if_pos hu1, cnt_zero]
        intro q h3 h4
        have := pa.inside q (by omega) (by omega); omega
      have c2 : cnt l i (i + 1) (l.length - (i + 1)) = 1 + cnt l i e1 (l.length - e1) := by
        rw [show l.length - (i + 1) = (e1 - (i + 1)) + (l.length - e1) by omega, cnt_add, c1, show i + 1 + (e1 - (i + 1)) = e1 by omega]
      by_cases hw1 : A.want (l.getD i z).kind = 1
      · refine ⟨_, e1, .un hx hk hw1 pa, ?_⟩
        by_cases h2 : e1 < l.length
        · refine .inr ?_
          have hu := he1.resolve_left (by omega)
          by_cases hq : up l e1 = (i : Int)
          · obtain ⟨d', hd'⟩ : ∃ d', l.length - e1 = d' + 1 := ⟨l.length - e1 - 1, by omega⟩
            have : cnt l i e1 (l.length - e1) = (if up l e1 = (i : Int) then 1 else 0) + cnt l i (e1 + 1) d' := by rw [hd']; rfl
            rw [if_pos hq] at this; omega
          · omega
        · exact .inl (by omega)
      · have hw2 : A.want (l.getD i z).kind = 2 := by have := hA (l.getD i z).kind; omega
        have h2 : e1 < l.length := by
          by_cases h2 : e1 < l.length
          · exact h2
          · rw [show l.length - e1 = 0 by omega] at c2
            have : cnt l i e1 0 = 0 := rfl
            omega
        have hu := he1.resolve_left (by omega)
        have hu2 : up l e1 = (i : Int) := by
          by_cases hq : up l e1 = (i : Int)
          · exact hq
          · have hz : cnt l i e1 (l.length - e1) = 0 := cnt_zero l i _ _ (fun m h3 h4 he => by
              have hp := L.past (i := i) (e := e1) (by omega) h2 (by omega) m (by omega) (by omega) i (by
                rw [chain_up (L.ahead m (by omega) (by omega)), he, Int.toNat_natCast]
                exact List.mem_cons_of_mem _ (chain_self l i))
              omega)
            omega
        obtain ⟨b, e2, pb, he2⟩ := ih (l.length - e1) (by omega) e1 (by omega) (by omega)
        rw [hu2] at pb
        have hl2 := pb.lt
        have hs2 := pb.span
        refine ⟨_, e2, .bin hx hk hw2 pa pb, ?_⟩
        by_cases h3 : e2 < l.length
        · refine .inr ?_
          have hv := he2.resolve_left (by omega)
          have hav := L.ahead e2 (by omega) h3
          have hanc : e1 ∈ chain l (e2 - 1) := anc_of_sub (e := e2) (fun q h5 h6 => by have := pb.inside q h5 h6; omega) (e2 - 1) (by omega) (by omega)
          have hin := chain_below _ _ _ hanc (L.around e2 (by omega) h3) (by omega)
          have hin2 := chain_mem_up (L.ahead e1 (by omega) h2) hin (by omega)
          rw [hu2, Int.toNat_natCast] at hin2
          have hle := chain_le _ _ hin2
          by_cases hq : up l e2 = (i : Int)
          · obtain ⟨d1, hd1⟩ : ∃ d', e2 - e1 = d' + 1 := ⟨e2 - e1 - 1, by omega⟩
            obtain ⟨d2, hd2⟩ : ∃ d', l.length - e2 = d' + 1 := ⟨l.length - e2 - 1, by omega⟩
            have e3 : cnt l i e1 (l.length - e1) = cnt l i e1 (e2 - e1) + cnt l i e2 (l.length - e2) := by
              rw [show l.length - e1 = (e2 - e1) + (l.length - e2) by omega, cnt_add, show e1 + (e2 - e1) = e2 by omega]
            have e4 : cnt l i e1 (e2 - e1) = (if up l e1 = (i : Int) then 1 else 0) + cnt l i (e1 + 1) d1 := by rw [hd1]; rfl
            have e5 : cnt l i e2 (l.length - e2) = (if up l e2 = (i : Int) then 1 else 0) + cnt l i (e2 + 1) d2 := by rw [hd2]; rfl
            rw [if_pos hu2] at e4
            rw [if_pos hq] at e5
            omega
          · omega
        · exact .inl (by omega)

theorem loc_iff {A : Arity} {l : List Nd} (hA : ∀ k, A.want k ≤ 2) (hl : 0 < l.length) : Loc A l ↔ ∃ t, Par A l 0 (-1) t l.length := by
  constructor
  · intro L
    obtain ⟨t, e, h, he⟩ := L.par hA l.length 0 (by omega) hl
    rw [L.root hl] at h
    rcases he with rfl | he
    · exact ⟨t, h⟩
    · have hlt := h.lt
      have hs := h.span
      by_cases h2 : e < l.length
      · have := L.ahead e (by omega) h2; omega
      · obtain rfl : e = l.length := by omega
        exact ⟨t, h⟩
  · rintro ⟨t, h⟩
    exact h.loc

theorem Par.unique {A : Arity} {l : List Nd} {i e e' : Nat} {u : Int} {t t' : Tr} (h : Par A l i u t e) (h' : Par A l i u t' e') : t = t' ∧ e = e' := by
  induction h generalizing t' e' with
  | @leaf i u k n h hk hw =>
    cases h' with
    | leaf h2 _ _ => rw [h] at h2; injection h2 with h2; injection h2 with a b c; subst a; subst b; exact ⟨rfl, rfl⟩
    | un h2 _ hw2 _ => rw [h] at h2; injection h2 with h2; injection h2 with a b c; subst a; omega
    | bin h2 _ hw2 _ _ => rw [h] at h2; injection h2 with h2; injection h2 with a b c; subst a; omega
  | @un i e u k n a h hk hw ha ih =>
    cases h' with
    | leaf h2 _ hw2 => rw [h] at h2; injection h2 with h2; injection h2 with a b c; subst a; omega
    | un h2 _ _ ha2 =>
      rw [h] at h2; injection h2 with h2; injection h2 with a b c; subst a; subst b
      obtain ⟨rfl, rfl⟩ := ih ha2
      exact ⟨rfl, rfl⟩
    | bin h2 _ hw2 _ _ => rw [h] at h2; injection h2 with h2; injection h2 with a b c; subst a; omega
  | @bin i e e' u k n a b h hk hw ha hb ih1 ih2 =>
    cases h' with
    | leaf h2 _ hw2 => rw [h] at h2; injection h2 with h2; injection h2 with a b c; subst a; omega
    | un h2 _ hw2 _ => rw [h] at h2; injection h2 with h2; injection h2 with a b c; subst a; omega
    | bin h2 _ _ ha2 hb2 =>
      rw [h] at h2; injection h2 with h2; injection h2 with a b c; subst a; subst b
      obtain ⟨rfl, rfl⟩ := ih1 ha2
      obtain ⟨rfl, rfl⟩ := ih2 hb2
      exact ⟨rfl, rfl⟩
end Go.Proofs.YtcjhhdecckcibaaDoor.TreeM

namespace Go.Proofs.YtcjhhdecckcibaaDoor.TreeM
set_option linter.unusedVariables false

def flat : Tr → Nat → Int → List Nd
  | .leaf k n, _, u => [⟨k, n, u⟩]
  | .un k n a, i, u => ⟨k, n, u⟩ :: flat a (i + 1) i
  | .bin k n a b, i, u => ⟨k, n, u⟩ :: (flat a (i + 1) i ++ flat b (i + 1 + a.size) i)
theorem flat_len : ∀ (t : Tr) (i : Nat) (u : Int), (flat t i u).length = t.size
  | .leaf _ _, _, _ => rfl
  | .un k n a, i, u => by show (flat a (i + 1) i).length + 1 = 1 + a.size; rw [flat_len a]; omega
  | .bin k n a b, i, u => by show (flat a (i + 1) i ++ flat b (i + 1 + a.size) i).length + 1 = 1 + a.size + b.size; rw [List.length_append, flat_len a, flat_len b]; omega

def Tr.wf (A : Arity) : Tr → Prop
  | .leaf k _ => (1 ≤ k ∧ k ≤ A.top) ∧ A.want k = 0
  | .un k _ a => ((1 ≤ k ∧ k ≤ A.top) ∧ A.want k = 1) ∧ a.wf A
  | .bin k _ a b => ((1 ≤ k ∧ k ≤ A.top) ∧ A.want k = 2) ∧ a.wf A ∧ b.wf A
theorem Par.wf {A : Arity} {l : List Nd} {i e : Nat} {u : Int} {t : Tr} (h : Par A l i u t e) : t.wf A := by
  induction h with
  | leaf h hk hw => exact ⟨hk, hw⟩
  | un h hk hw ha ih => exact ⟨⟨hk, hw⟩, ih⟩
  | bin h hk hw ha hb ih1 ih2 => exact ⟨⟨hk, hw⟩, ih1, ih2⟩

theorem par_flat {A : Arity} : ∀ (t : Tr) (i : Nat) (u : Int) (l : List Nd), t.wf A → (∀ j x, (flat t i u)[j]? = some x → l[i + j]? = some x) → Par A l i u t (i + t.size)
  | .leaf k n, i, u, l, hw, h => .leaf (h 0 _ rfl) hw.1 hw.2
  | .un k n a, i, u, l, hw, h => by
    have pa := par_flat a (i + 1) i l hw.2 (fun j x hx => by rw [show i + 1 + j = i + (j + 1) by omega]; exact h (j + 1) x hx)
    have e : i + (Tr.un k n a).size = i + 1 + a.size := by show i + (1 + a.size) = _; omega
    rw [e]
    exact .un (h 0 _ rfl) hw.1.1 hw.1.2 pa
  | .bin k n a b, i, u, l, hw, h => by
    have pa := par_flat a (i + 1) i l hw.2.1 (fun j x hx => by
      rw [show i + 1 + j = i + (j + 1) by omega]
      refine h (j + 1) x ?_
      show (flat a (i + 1) i ++ flat b (i + 1 + a.size) i)[j]? = _
      rw [List.getElem?_append_left (by have := lt_of hx; exact this)]; exact hx)
    have pb := par_flat b (i + 1 + a.size) i l hw.2.2 (fun j x hx => by
      rw [show i + 1 + a.size + j = i + (a.size + j + 1) by omega]
      refine h (a.size + j + 1) x ?_
      show (flat a (i + 1) i ++ flat b (i + 1 + a.size) i)[a.size + j]? = _
      rw [List.getElem?_append_right (by rw [flat_len]; omega), flat_len, show a.size + j - a.size = j by omega]; exact hx)
    have e : i + (Tr.bin k n a b).size = i + 1 + a.size + b.size := by show i + (1 + a.size + b.size) = _; omega
    rw [e]
    exact .bin (h 0 _ rfl) hw.1.1 hw.1.2 pa pb

theorem flat_par {A : Arity} (t : Tr) (hw : t.wf A) : Par A (flat t 0 (-1)) 0 (-1) t (flat t 0 (-1)).length := by
  have := par_flat (A := A) t 0 (-1) (flat t 0 (-1)) hw (fun j x hx => by rw [Nat.zero_add]; exact hx)
  rw [flat_len]; rw [Nat.zero_add] at this; exact this

def pts (l : List Nd) (i : Nat) : Nat → Nat → List Nat
  | _, 0 => []
  | a, d + 1 => if up l a = (i : Int) then a :: pts l i (a + 1) d else pts l i (a + 1) d
theorem pts_add (l : List Nd) (i : Nat) : ∀ (d a d' : Nat), pts l i a (d + d') = pts l i a d ++ pts l i (a + d) d'
  | 0, a, d' => by simp [pts]
  | d + 1, a, d' => by
    have e : d + 1 + d' = (d + d') + 1 := by omega
    rw [e]
    show (if up l a = (i : Int) then a :: pts l i (a + 1) (d + d') else pts l i (a + 1) (d + d')) = (if up l a = (i : Int) then a :: pts l i (a + 1) d else pts l i (a + 1) d) ++ pts l i (a + (d + 1)) d'
    rw [pts_add l i d (a + 1) d', show a + 1 + d = a + (d + 1) by omega]
    split <;> rfl
theorem pts_none (l : List Nd) (i : Nat) : ∀ (d a : Nat), (∀ m, a ≤ m → m < a + d → up l m ≠ (i : Int)) → pts l i a d = []
  | 0, a, h => rfl
  | d + 1, a, h => by
    show (if up l a = (i : Int) then a :: pts l i (a + 1) d else pts l i (a + 1) d) = []
    rw [if_neg (h a (Nat.le_refl _) (by omega)), pts_none l i d (a + 1) (fun m h1 h2 => h m (by omega) (by omega))]

def Shut (l : List Nd) (i e : Nat) : Prop := ∀ m, e ≤ m → m < l.length → ¬ ((i : Int) ≤ up l m ∧ up l m < (e : Int))

inductive Parts (A : Arity) (l : List Nd) : Nat → Tr → Nat → Prop
  | leaf {i : Nat} {k n : Int} (h : l.getD i z = ⟨k, n, up l i⟩) (hi : i < l.length) (hw : A.want k = 0) (hp : pts l i (i + 1) (l.length - (i + 1)) = []) : Parts A l i (.leaf k n) (i + 1)
  | un {i e : Nat} {k n : Int} {a : Tr} (h : l.getD i z = ⟨k, n, up l i⟩) (hi : i < l.length) (hw : A.want k = 1) (hp : pts l i (i + 1) (l.length - (i + 1)) = [i + 1]) (ha : Parts A l (i + 1) a e) : Parts A l i (.un k n a) e
  | bin {i e e' : Nat} {k n : Int} {a b : Tr} (h : l.getD i z = ⟨k, n, up l i⟩) (hi : i < l.length) (hw : A.want k = 2) (hp : pts l i (i + 1) (l.length - (i + 1)) = [i + 1, e]) (ha : Parts A l (i + 1) a e) (hb : Parts A l e b e') : Parts A l i (.bin k n a b) e'

theorem Par.parts {A : Arity} {l : List Nd} {i e : Nat} {u : Int} {t : Tr} (h : Par A l i u t e) : Shut l i e → Parts A l i t e := by
  have at1 : ∀ (q : Nat) (k n v : Int), l[q]? = some ⟨k, n, v⟩ → l.getD q z = ⟨k, n, up l q⟩ := fun q k n v h => by rw [up_of h, List.getD_eq_getElem?_getD, h]; rfl
  induction h with
  | @leaf i u k n h hk hw =>
    intro hs
    refine .leaf (at1 _ _ _ _ h) (lt_of h) hw (pts_none _ _ _ _ fun m h1 h2 he => hs m h1 (by have := lt_of h; omega) ?_)
    omega
  | @un i e u k n a h hk hw ha ih =>
    intro hs
    have hlt := ha.lt
    have hsp := ha.span
    refine .un (at1 _ _ _ _ h) (lt_of h) hw ?_ (ih fun m h1 h2 h3 => hs m h1 h2 (by omega))
    obtain ⟨d, hd⟩ : ∃ d, e - (i + 1) = d + 1 := ⟨e - (i + 1) - 1, by omega⟩
    rw [show l.length - (i + 1) = (d + 1) + (l.length - e) by omega, pts_add l i (d + 1) (i + 1) (l.length - e), show i + 1 + (d + 1) = e by omega]
    have e1 : pts l i (i + 1) (d + 1) = [i + 1] := by
      show (if up l (i + 1) = (i : Int) then (i + 1) :: pts l i (i + 1 + 1) d else pts l i (i + 1 + 1) d) = _
      rw [if_pos hsp.2.2, pts_none]
      intro q h3 h4
      have := ha.inside q (by omega) (by omega); omega
    have e2 : pts l i e (l.length - e) = [] := pts_none _ _ _ _ fun m h1 h2 he => hs m h1 (by omega) (by omega)
    rw [e1, e2]; rfl
  | @bin i e e' u k n a b h hk hw ha hb ih1 ih2 =>
    intro hs
    have hlt := ha.lt
    have hsp := ha.span
    have hlt2 := hb.lt
    have hsp2 := hb.span
    refine .bin (at1 _ _ _ _ h) (lt_of h) hw ?_ (ih1 fun m h1 h2 h3 => ?_) (ih2 fun m h1 h2 h3 => hs m h1 h2 (by omega))
    · obtain ⟨d, hd⟩ : ∃ d, e - (i + 1) = d + 1 := ⟨e - (i + 1) - 1, by omega⟩
      obtain ⟨d2, hd2⟩ : ∃ d2, e' - e = d2 + 1 := ⟨e' - e - 1, by omega⟩
      rw [show l.length - (i + 1) = (d + 1) + ((d2 + 1) + (l.length - e')) by omega, pts_add l i (d + 1) (i + 1) ((d2 + 1) + (l.length - e')), show i + 1 + (d + 1) = e by omega, pts_add l i (d2 + 1) e (l.length - e'), show e + (d2 + 1) = e' by omega]
      have e1 : pts l i (i + 1) (d + 1) = [i + 1] := by
        show (if up l (i + 1) = (i : Int) then (i + 1) :: pts l i (i + 1 + 1) d else pts l i (i + 1 + 1) d) = _
        rw [if_pos hsp.2.2, pts_none]
        intro q h3 h4
        have := ha.inside q (by omega) (by omega); omega
      have e2 : pts l i e (d2 + 1) = [e] := by
        show (if up l e = (i : Int) then e :: pts l i (e + 1) d2 else pts l i (e + 1) d2) = _
        rw [if_pos hsp2.2.2, pts_none]
        intro q h3 h4
        have := hb.inside q (by omega) (by omega); omega
      have e3 : pts l i e' (l.length - e') = [] := pts_none _ _ _ _ fun m h1 h2 he => hs m h1 (by omega) (by omega)
      rw [e1, e2, e3]; rfl
    · by_cases hm : m < e'
      · by_cases hme : m = e
        · subst hme; omega
        · have := hb.inside m (by omega) hm; omega
      · exact hs m (by omega) h2 (by omega)

end Go.Proofs.YtcjhhdecckcibaaDoor.TreeM

namespace Go.Proofs.YtcjhhdecckcibaaDoor.ReadM
open Go.RowKit Go.Proofs.YtcjhhdecckcibaaDoor.EvL Go.Proofs.YtcjhhdecckcibaaDoor.TxtL Go.Proofs.YtcjhhdecckcibaaDoor.TreeM Go.Proofs.YtcjhhdecckcibaaDoorW.PrintWords
set_option linter.unusedVariables false
set_option linter.unusedSimpArgs false

def digs : Nat → List UInt8 → List UInt8
  | 0, _ => []
  | _ + 1, [] => []
  | m + 1, c :: l => if isD c then c :: digs m l else []
theorem digs_all : ∀ (m : Nat) (l : List UInt8), ∀ c ∈ digs m l, isD c
  | 0, _, c, h => by simp [digs] at h
  | _ + 1, [], c, h => by simp [digs] at h
  | m + 1, x :: l, c, h => by
    unfold digs at h
    by_cases hx : isD x
    · rw [if_pos hx] at h
      rcases List.mem_cons.mp h with rfl | h
      · exact hx
      · exact digs_all m l c h
    · rw [if_neg hx] at h; simp at h
theorem digs_len : ∀ (m : Nat) (l : List UInt8), (digs m l).length ≤ m ∧ (digs m l).length ≤ l.length
  | 0, _ => by simp [digs]
  | _ + 1, [] => by simp [digs]
  | m + 1, x :: l => by
    have ih := digs_len m l
    unfold digs
    split
    · simp only [List.length_cons]; omega
    · simp
theorem digs_pre : ∀ (m : Nat) (l : List UInt8), l = digs m l ++ l.drop (digs m l).length
  | 0, _ => by simp [digs]
  | _ + 1, [] => by simp [digs]
  | m + 1, x :: l => by
    have ih := digs_pre m l
    unfold digs
    split
    · rw [List.length_cons, List.drop_succ_cons, List.cons_append, ← ih]
    · rfl
def NoD (r : List UInt8) : Prop := ∀ c, r.head? = some c → ¬ isD c
theorem noD_nil : NoD [] := fun c h => by cases h
theorem noD_cons {c : UInt8} (r : List UInt8) (h : ¬ isD c) : NoD (c :: r) := fun x hx => by
  have : c = x := by simpa using hx
  rw [← this]; exact h
theorem digs_app : ∀ (m : Nat) (ds r : List UInt8), (∀ c ∈ ds, isD c) → ds.length ≤ m → NoD r → digs m (ds ++ r) = ds
  | 0, ds, r, _, hl, _ => by
    have : ds = [] := List.eq_nil_of_length_eq_zero (by omega)
    rw [this]; rfl
  | m + 1, [], r, _, _, hr => by
    cases r with
    | nil => rfl
    | cons c r => rw [List.nil_append, digs, if_neg (hr c rfl)]
  | m + 1, x :: ds, r, h, hl, hr => by
    rw [List.cons_append, digs, if_pos (h x (by simp)), digs_app m ds r (fun c hc => h c (by simp [hc])) (by simpa using hl) hr]
theorem dec_len : ∀ (m n : Nat), 1 ≤ m → n < 10 ^ m → (Lib.decDigits n).length ≤ m
  | 0, n, h, _ => by omega
  | m + 1, n, _, hn => by
    by_cases h : n < 10
    · rw [Lib.decDigits_one h]; simp
    · have hm : 1 ≤ m := by
        cases m with
        | zero => simp at hn; omega
        | succ m => omega
      rw [Nat.pow_succ] at hn
      have ih := dec_len m (n / 10) hm (by omega)
      rw [Lib.decDigits, dif_neg h, List.length_append, List.length_singleton]
      omega
theorem val_lt (ds : List UInt8) (h : ∀ c ∈ ds, isD c) : valF 0 ds < 10 ^ ds.length := by
  have := valF_lt ds 0 h
  rwa [Nat.zero_add, Nat.one_mul] at this
theorem val_le (m : Nat) (ds : List UInt8) (h : ∀ c ∈ ds, isD c) (hl : ds.length ≤ m) : valF 0 ds < 10 ^ m := Nat.lt_of_lt_of_le (val_lt ds h) (Nat.pow_le_pow_right (by omega) hl)
theorem dec_val_len (ds : List UInt8) (h : ∀ c ∈ ds, isD c) (hne : ds ≠ []) : (Lib.decDigits (valF 0 ds)).length ≤ ds.length := by
  refine dec_len ds.length _ ?_ (val_lt ds h)
  cases ds with
  | nil => exact absurd rfl hne
  | cons c ds => simp

def eat (x : UInt8) : List UInt8 → Option (List UInt8)
  | [] => none
  | c :: r => if c = x then some r else none
theorem eat_some {x : UInt8} {r r' : List UInt8} (h : eat x r = some r') : r = x :: r' := by
  cases r with
  | nil => cases h
  | cons c r =>
    replace h : (if c = x then some r else none) = some r' := h
    by_cases hc : c = x
    · rw [if_pos hc] at h; injection h with h; rw [hc, h]
    · rw [if_neg hc] at h; cases h
theorem eat_cons (x : UInt8) (r : List UInt8) : eat x (x :: r) = some r := if_pos rfl
theorem trim_eat (x : UInt8) (r : List UInt8) : Lib.hasPrefix r [x] = (eat x r).isSome ∧ Lib.trimPrefix r [x] = (eat x r).getD r := by
  cases r with
  | nil => exact ⟨rfl, rfl⟩
  | cons c r =>
    have hp : Lib.hasPrefix (c :: r) [x] = decide (x = c) := by unfold Lib.hasPrefix; rw [Bool.eq_iff_iff, decide_eq_true_iff]; simp [List.isPrefixOf]
    have he : eat x (c :: r) = if c = x then some r else none := rfl
    unfold Lib.trimPrefix
    rw [hp, he]
    by_cases h : c = x
    · subst h; simp
    · have h' : ¬ x = c := fun e => h e.symm
      simp [h, h']

def ctxt : Tr → List UInt8
  | .leaf k n => if k = 1 then 120 :: Lib.decDigits n.toNat else if k = 3 then [83] else if k = 4 then [75] else [73]
  | .un _ _ a => ctxt a
  | .bin _ _ a b => 40 :: (ctxt a ++ 32 :: (ctxt b ++ [41]))
def CForm (m : Nat) : Tr → Prop
  | .leaf k n => (k = 1 ∧ 0 ≤ n ∧ n < (m : Int)) ∨ ((k = 3 ∨ k = 4 ∨ k = 5) ∧ n = 0)
  | .un _ _ _ => False
  | .bin k n a b => k = 2 ∧ n = 0 ∧ CForm m a ∧ CForm m b
def crd (m : Nat) : Nat → List UInt8 → Option (Tr × List UInt8)
  | 0, _ => none
  | _ + 1, [] => none
  | d + 1, c :: s =>
    if c = 83 then some (.leaf 3 0, s) else if c = 75 then some (.leaf 4 0, s) else if c = 73 then some (.leaf 5 0, s)
    else if c = 120 then (if digs m s = [] then none else some (.leaf 1 (valF 0 (digs m s) : Nat), s.drop (digs m s).length))
    else if c = 40 then (crd m d s).bind fun p => (eat 32 p.2).bind fun r1 => (crd m d r1).bind fun q => (eat 41 q.2).bind fun r3 => some (.bin 2 0 p.1 q.1, r3)
    else none
theorem crd_sound (m : Nat) : ∀ (d : Nat) (s : List UInt8) (t : Tr) (r : List UInt8), crd m d s = some (t, r) → CForm (10 ^ m) t ∧ (ctxt t).length + r.length ≤ s.length ∧ t.size + r.length ≤ s.length ∧ t.depth ≤ d
  | 0, _, _, _, h => by cases h
  | _ + 1, [], _, _, h => by cases h
  | d + 1, c :: s, t, r, h => by
    unfold crd at h
    by_cases h1 : c = 83
    · rw [if_pos h1] at h
      simp only [Option.some.injEq, Prod.mk.injEq] at h
      obtain ⟨rfl, rfl⟩ := h
      exact ⟨.inr ⟨.inl rfl, rfl⟩, by simp [ctxt]; omega, by simp [Tr.size]; omega, by simp [Tr.depth]⟩
    rw [if_neg h1] at h
    by_cases h2 : c = 75
    · rw [if_pos h2] at h
      simp only [Option.some.injEq, Prod.mk.injEq] at h
      obtain ⟨rfl, rfl⟩ := h
      exact ⟨.inr ⟨.inr (.inl rfl), rfl⟩, by simp [ctxt]; omega, by simp [Tr.size]; omega, by simp [Tr.depth]⟩
    rw [if_neg h2] at h
    by_cases h3 : c = 73
    · rw [if_pos h3] at h
      simp only [Option.some.injEq, Prod.mk.injEq] at h
      obtain ⟨rfl, rfl⟩ := h
      exact ⟨.inr ⟨.inr (.inr rfl), rfl⟩, by simp [ctxt]; omega, by simp [Tr.size]; omega, by simp [Tr.depth]⟩
    rw [if_neg h3] at h
    by_cases h4 : c = 120
    · rw [if_pos h4] at h
      by_cases h5 : digs m s = []
      · rw [if_pos h5] at h; cases h
      rw [if_neg h5] at h
      simp only [Option.some.injEq, Prod.mk.injEq] at h
      obtain ⟨rfl, rfl⟩ := h
      have hl := digs_len m s
      have hv := val_le m (digs m s) (digs_all m s) hl.1
      have hd := dec_val_len (digs m s) (digs_all m s) h5
      have hp : 1 ≤ (digs m s).length := by
        cases hq : digs m s with
        | nil => exact absurd hq h5
        | cons a b => simp
      refine ⟨.inl ⟨rfl, by omega, by exact_mod_cast hv⟩, ?_, ?_, by simp [Tr.depth]⟩
      · rw [ctxt, if_pos rfl, List.length_cons, List.length_cons, List.length_drop, Int.toNat_natCast]; omega
      · rw [List.length_cons, List.length_drop]; show 1 + _ ≤ _; omega
    rw [if_neg h4] at h
    by_cases h5 : c = 40
    · rw [if_pos h5] at h
      obtain ⟨⟨a, r0⟩, ha, h⟩ := Option.bind_eq_some_iff.mp h
      obtain ⟨r1, e1, h⟩ := Option.bind_eq_some_iff.mp h
      obtain ⟨⟨b, r2⟩, hb, h⟩ := Option.bind_eq_some_iff.mp h
      obtain ⟨r3, e2, h⟩ := Option.bind_eq_some_iff.mp h
      simp only [Option.some.injEq, Prod.mk.injEq] at h
      obtain ⟨rfl, rfl⟩ := h
      obtain ⟨a1, a2, a3, a4⟩ := crd_sound m d s a r0 ha
      obtain ⟨b1, b2, b3, b4⟩ := crd_sound m d r1 b r2 hb
      have q1 : r0 = 32 :: r1 := eat_some e1
      have q2 : r2 = 41 :: r3 := eat_some e2
      rw [q1, List.length_cons] at a2 a3
      rw [q2, List.length_cons] at b2 b3
      refine ⟨⟨rfl, rfl, a1, b1⟩, ?_, ?_, ?_⟩
      · simp only [ctxt, List.length_cons, List.length_append, List.length_nil]; omega
      · show 1 + a.size + b.size + _ ≤ _; rw [List.length_cons]; omega
      · show max a.depth b.depth + 1 ≤ _; omega
    · rw [if_neg h5] at h; cases h
theorem crd_text (m : Nat) (hm : 3 ≤ m) : ∀ (t : Tr) (d : Nat) (r : List UInt8), CForm 1000 t → t.depth ≤ d → NoD r → crd m d (ctxt t ++ r) = some (t, r)
  | .leaf k n, 0, r, _, hd, _ => by simp [Tr.depth] at hd
  | .leaf k n, d + 1, r, h, _, hr => by
    rcases h with ⟨rfl, h0, h1⟩ | ⟨h, rfl⟩
    · have hN := dec_numeral n.toNat
      have hds : digs m (Lib.decDigits n.toNat ++ r) = Lib.decDigits n.toNat := digs_app m _ r hN.1.1 (Nat.le_trans (dec_len 3 n.toNat (by omega) (by show _ < 1000; omega)) hm) hr
      rw [ctxt, if_pos rfl, List.cons_append, crd, if_neg (by decide), if_neg (by decide), if_neg (by decide), if_pos rfl, hds, if_neg hN.1.2.1, List.drop_left, hN.2.1]
      congr 3
      omega
    · rcases h with rfl | rfl | rfl <;> simp [ctxt, crd]
  | .un k n a, _, _, h, _, _ => h.elim
  | .bin k n a b, 0, r, _, hd, _ => by simp [Tr.depth] at hd
  | .bin k n a b, d + 1, r, h, hd, hr => by
    obtain ⟨rfl, rfl, ha, hb⟩ := h
    have hd' : max a.depth b.depth + 1 ≤ d + 1 := hd
    have e : ctxt (.bin 2 0 a b) ++ r = 40 :: (ctxt a ++ 32 :: (ctxt b ++ 41 :: r)) := by simp [ctxt]
    rw [e, crd, if_neg (by decide), if_neg (by decide), if_neg (by decide), if_neg (by decide), if_pos rfl,
      crd_text m hm a d _ ha (by omega) (noD_cons _ (by decide)), Option.bind_some, eat_cons, Option.bind_some,
      crd_text m hm b d _ hb (by omega) (noD_cons _ (by decide)), Option.bind_some, eat_cons, Option.bind_some]
theorem ctxt_len : ∀ (t : Tr), CForm 1000 t → (ctxt t).length ≤ 5 * t.size
  | .leaf k n, h => by
    rcases h with ⟨rfl, h0, h1⟩ | ⟨h, rfl⟩
    · have := dec_len 3 n.toNat (by omega) (by show _ < 1000; omega)
      rw [ctxt, if_pos rfl, List.length_cons]; show _ ≤ 5 * 1; omega
    · rcases h with rfl | rfl | rfl <;> simp [ctxt, Tr.size]
  | .un _ _ _, h => h.elim
  | .bin k n a b, h => by
    have ia := ctxt_len a h.2.2.1
    have ib := ctxt_len b h.2.2.2
    simp only [ctxt, List.length_cons, List.length_append, List.length_nil]
    show _ ≤ 5 * (1 + a.size + b.size); omega

theorem eat_suffix {x : UInt8} {r r' : List UInt8} (h : eat x r = some r') : r' <:+ r := by rw [eat_some h]; exact List.suffix_cons _ _
theorem crd_suffix (m : Nat) : ∀ (d : Nat) (s : List UInt8) (t : Tr) (r : List UInt8), crd m d s = some (t, r) → r <:+ s
  | 0, _, _, _, h => by cases h
  | _ + 1, [], _, _, h => by cases h
  | d + 1, c :: s, t, r, h => by
    unfold crd at h
    split at h
    · simp only [Option.some.injEq, Prod.mk.injEq] at h; rw [← h.2]; exact List.suffix_cons _ _
    split at h
    · simp only [Option.some.injEq, Prod.mk.injEq] at h; rw [← h.2]; exact List.suffix_cons _ _
    split at h
    · simp only [Option.some.injEq, Prod.mk.injEq] at h; rw [← h.2]; exact List.suffix_cons _ _
    split at h
    · split at h
      · cases h
      · simp only [Option.some.injEq, Prod.mk.injEq] at h; rw [← h.2]; exact (List.drop_suffix _ _).trans (List.suffix_cons _ _)
    split at h
    · obtain ⟨⟨a, r0⟩, ha, h⟩ := Option.bind_eq_some_iff.mp h
      obtain ⟨r1, e1, h⟩ := Option.bind_eq_some_iff.mp h
      obtain ⟨⟨b, r2⟩, hb, h⟩ := Option.bind_eq_some_iff.mp h
      obtain ⟨r3, e2, h⟩ := Option.bind_eq_some_iff.mp h
      simp only [Option.some.injEq, Prod.mk.injEq] at h
      rw [← h.2]
      exact (eat_suffix e2).trans ((crd_suffix m d r1 b r2 hb).trans ((eat_suffix e1).trans ((crd_suffix m d s a r0 ha).trans (List.suffix_cons _ _))))
    · cases h
theorem suffix_get {y : UInt8} {r s : List UInt8} (h : (y :: r) <:+ s) (hl : s.length - (y :: r).length < s.length) : s[s.length - (y :: r).length]'hl = y := by
  obtain ⟨p, rfl⟩ := h
  have e : (p ++ y :: r).length - (y :: r).length = p.length := by simp
  have : (p ++ y :: r)[p.length]? = some y := by simp
  have h2 : (p ++ y :: r)[(p ++ y :: r).length - (y :: r).length]? = some y := by rw [e]; exact this
  rw [List.getElem?_eq_getElem hl] at h2
  exact Option.some.inj h2
theorem suffix_drop {y : UInt8} {r s : List UInt8} (h : (y :: r) <:+ s) : s.drop (s.length - r.length) = r := by
  obtain ⟨p, rfl⟩ := h
  have e : (p ++ y :: r).length - r.length = (p ++ [y]).length := by simp; omega
  rw [e, show p ++ y :: r = (p ++ [y]) ++ r by simp, List.drop_left]
end Go.Proofs.YtcjhhdecckcibaaDoor.ReadM

namespace Go.Proofs.YtcjhhdecckcibaaDoor.NumL
open Go.RowKit Go.Proofs.YtcjhhdecckcibaaDoor.G Go.Proofs.YtcjhhdecckcibaaDoor.EvL Go.Proofs.YtcjhhdecckcibaaDoor.TxtL Go.Proofs.YtcjhhdecckcibaaDoorW.PrintWords Go.Proofs.YtcjhhdecckcibaaDoorW.PrintLast
set_option linter.unusedVariables false
set_option linter.unusedSimpArgs false

theorem digit_all : ∀ i : Fin 10, strOfNums (([(wrap64 (48 + (i.val : Int))) % 256] : List Int)) = ⟨([UInt8.ofNat (48 + i.val)] : List UInt8).toArray⟩ := by decide +kernel
theorem digit (n : Int) (h0 : 0 ≤ n) (h1 : n < 10) : strOfNums (([(wrap64 (48 + n)) % 256] : List Int)) = ⟨([UInt8.ofNat (48 + n.toNat)] : List UInt8).toArray⟩ := by
  have h := digit_all ⟨n.toNat, by omega⟩
  have e : (((⟨n.toNat, by omega⟩ : Fin 10).val : Nat) : Int) = n := by show ((n.toNat : Nat) : Int) = n; omega
  rw [e] at h
  exact h
theorem low_ev (n : Int) (h0 : 0 ≤ n) (h1 : n < 10) : Ev (fun k => spec_l1Num.f k n) ⟨(Lib.decDigits n.toNat).toArray⟩ := by
  refine Ev.step (f := fun _ => some ⟨(Lib.decDigits n.toNat).toArray⟩) (fun k => ?_) (Ev.now _)
  simp only [spec_l1Num.f]
  rw [if_neg (by omega), if_pos h1, digit n h0 h1, Lib.decDigits_one (by omega)]
theorem up_ev (n : Int) (h0 : 10 ≤ n) (h1 : n ≤ 100000) (hl : (Lib.decDigits (n / 10).toNat).length ≤ 100) (h : Ev (fun k => spec_l1Num.f k (n / 10)) ⟨(Lib.decDigits (n / 10).toNat).toArray⟩) : Ev (fun k => spec_l1Num.f k n) ⟨(Lib.decDigits n.toNat).toArray⟩ := by
  have e : Int.tdiv n 10 = n / 10 := Int.tdiv_eq_ediv_of_nonneg (by omega)
  have e2 : wrap64 (Int.tdiv n 10) = n / 10 := by rw [e]; exact w64 (by omega) (by omega)
  have e3 : Int.tmod n 10 = n % 10 := Int.tmod_eq_emod_of_nonneg (by omega)
  have e4 := digit (n % 10) (by omega) (by omega)
  have e5 : Lib.decDigits n.toNat = Lib.decDigits (n / 10).toNat ++ [UInt8.ofNat (48 + (n % 10).toNat)] := by
    rw [Lib.decDigits, dif_neg (by omega), show n.toNat / 10 = (n / 10).toNat by omega, show n.toNat % 10 = (n % 10).toNat by omega]
  refine Ev.step (f := fun k => (spec_l1Num.f k (n / 10)).bind fun t105 => (if t105.size + (⟨([UInt8.ofNat (48 + (n % 10).toNat)] : List UInt8).toArray⟩ : ByteArray).size ≤ 9223372036854775807 then (some (t105 ++ (⟨([UInt8.ofNat (48 + (n % 10).toNat)] : List UInt8).toArray⟩ : ByteArray))) else (none))) (fun k => ?_) (Ev.bind h (Ev.ite_pos ?_ (Ev.of_eq (Ev.now _) ?_)))
  · simp only [spec_l1Num.f]
    rw [if_neg (by omega), if_neg (by omega), e2, e3]
    simp only [Option.bind_some, e4]
  · show (Lib.decDigits (n / 10).toNat).toArray.size + 1 ≤ _
    simp; omega
  · rw [e5]
    apply ByteArray.ext
    simp
theorem num_ev : ∀ (m : Nat) (n : Int), 0 ≤ n → n < 10 ^ (m + 1) → n ≤ 100000 → m ≤ 20 → Ev (fun k => spec_l1Num.f k n) ⟨(Lib.decDigits n.toNat).toArray⟩ ∧ (Lib.decDigits n.toNat).length ≤ m + 1 := by
  intro m
  induction m with
  | zero =>
    intro n h0 h1 h2 hm
    have h1' : n < 10 := by simpa using h1
    exact ⟨low_ev n h0 h1', by rw [Lib.decDigits_one (by omega)]; simp⟩
  | succ m ih =>
    intro n h0 h1 h2 hm
    by_cases c : n < 10
    · exact ⟨low_ev n h0 c, by rw [Lib.decDigits_one (by omega)]; simp⟩
    · have hp : (10 : Int) ^ (m + 1 + 1) = 10 ^ (m + 1) * 10 := Int.pow_succ ..
      obtain ⟨hE, hl⟩ := ih (n / 10) (by omega) (by rw [hp] at h1; omega) (by omega) (by omega)
      refine ⟨up_ev n (by omega) h2 (by omega) hE, ?_⟩
      rw [Lib.decDigits, dif_neg (by omega), show n.toNat / 10 = (n / 10).toNat by omega]
      simp; omega
theorem num (n : Int) (h0 : 0 ≤ n) (h1 : n ≤ 100000) : Ev (fun k => spec_l1Num.f k n) ⟨(Lib.decDigits n.toNat).toArray⟩ ∧ (Lib.decDigits n.toNat).length ≤ 6 :=
  num_ev 5 n h0 (by have : (10 : Int) ^ (5 + 1) = 1000000 := by decide
                    omega) h1 (by decide)

theorem next (i n : Nat) (h : i < n) (hn : n ≤ 9223372036854775807) : wrap64 ((i : Int) + 1) = ((i + 1 : Nat) : Int) := w64 (by omega) (by omega)
theorem num_step (a v P : Nat) (h : a < P) (hP : P ≤ 1000000) (hv : v ≤ 9) (x : Int) (hx : x = (v : Int) + 48) : a * 10 + v < P * 10 ∧ wrap64 (wrap64 (10 * (a : Int)) + (x - 48) % 256) = ((a * 10 + v : Nat) : Int) := by
  refine ⟨by omega, ?_⟩
  have e1 : (x - 48) % 256 = (v : Int) := by omega
  have e2 : wrap64 (10 * (a : Int)) = 10 * (a : Int) := w64 (by omega) (by omega)
  rw [e1, e2, w64 (by omega) (by omega)]; omega
theorem numAt (l : List UInt8) (hl : l.length ≤ 6) (hd : ∀ c ∈ l, isD c) : ∀ (d i a : Nat), i + d = l.length → a < 10 ^ i → Ev (fun k => spec_laSmall.l0 k (B l) a i) ((valF a (l.drop i) : Nat) : Int) := by
  intro d
  have hsz : (B l).size = l.length := B_size l
  induction d with
  | zero =>
    intro i a hi ha
    have c1 : ¬ (i : Int) < (((B l).size : Nat) : Int) := by rw [hsz]; omega
    rw [List.drop_eq_nil_of_le (show l.length ≤ i by omega)]
    refine Ev.step (f := fun _ => some (a : Int)) (fun k => ?_) (Ev.now _)
    rw [spec_laSmall.l0, if_neg c1]
  | succ d ih =>
    intro i a hi ha
    have hlt : i < l.length := by omega
    have c1 : (i : Int) < (((B l).size : Nat) : Int) := by rw [hsz]; omega
    have c0 : 0 ≤ (i : Int) := by omega
    have hw := next i l.length hlt (by omega)
    have hbt := bt_B l i hlt
    have hD : isD l[i] := hd _ (List.getElem_mem hlt)
    unfold isD at hD
    have hp : 10 ^ i ≤ 1000000 := Nat.le_trans (Nat.pow_le_pow_right (by omega) (show i ≤ 6 by omega)) (by decide)
    rw [List.drop_eq_getElem_cons hlt, valF_cons]
    obtain ⟨v, hv⟩ : ∃ v, v = (l[i]).toNat - 48 := ⟨_, rfl⟩
    rw [← hv]
    obtain ⟨q1, q2⟩ := num_step a v (10 ^ i) ha hp (by omega) (bt (B l) (i : Int)) (by rw [hbt]; omega)
    refine Ev.step (f := fun k => spec_laSmall.l0 k (B l) ((a * 10 + v : Nat) : Int) ((i + 1 : Nat) : Int)) (fun k => ?_) (ih (i + 1) (a * 10 + v) (by omega) (by rw [Nat.pow_succ]; exact q1))
    rw [spec_laSmall.l0, if_pos c1, if_pos c0, q2, hw]
theorem small_ev (l : List UInt8) (hl : l.length ≤ 6) (hd : ∀ c ∈ l, isD c) : Ev (fun k => spec_laSmall.f k (B l)) ((valF 0 l : Nat) : Int) := numAt l hl hd l.length 0 0 (by omega) (by decide)
theorem num_B (n : Int) (h0 : 0 ≤ n) (h1 : n ≤ 100000) : Ev (fun k => spec_l1Num.f k n) (B (Lib.decDigits n.toNat)) := (num n h0 h1).1
end Go.Proofs.YtcjhhdecckcibaaDoor.NumL

namespace Go.Proofs.YtcjhhdecckcibaaDoor.CombL
open Go.RowKit Go.Proofs.YtcjhhdecckcibaaDoor.G Go.Proofs.YtcjhhdecckcibaaDoor.EvL Go.Proofs.YtcjhhdecckcibaaDoor.TreeM Go.Proofs.YtcjhhdecckcibaaDoorW.PrintWords Go.Proofs.YtcjhhdecckcibaaDoorW.PrintLast
set_option linter.unusedVariables false

def conv (c : S53) : S51 := ⟨c.f0, c.f1, c.f2⟩
def nd (c : S51) : Nd := ⟨c.f0, c.f1, c.f2⟩
theorem rdC (l : List S51) (i : Nat) : rd_T51 l (i : Int) = l.getD i z51 := by unfold rd_T51; rw [Int.toNat_natCast]
theorem next (i : Nat) {n : Nat} (h : i < n) (hn : n ≤ 9223372036854775807) : wrap64 ((i : Int) + 1) = ((i + 1 : Nat) : Int) := by rw [w64 (by omega) (by omega)]; omega
theorem getD_nd (l : List S51) (i : Nat) : (l.map nd).getD i z = nd (l.getD i z51) := by
  rw [List.getD_eq_getElem?_getD, List.getD_eq_getElem?_getD, List.getElem?_map]
  cases l[i]? <;> rfl
theorem up_nd (l : List S51) (i : Nat) : (l.getD i z51).f2 = TreeM.up (l.map nd) i := by unfold TreeM.up; rw [getD_nd]; rfl

theorem eqCombs (a : List S51) (ha : a.length ≤ 9223372036854775807) : Ev (fun k => laws_eqCombS.f k a a) true := by
  unfold laws_eqCombS.f
  refine Ev.ite_pos rfl ?_
  refine Ev.of_eq (ev_all (fun k i => laws_eqCombS.l0 k a a i) a.length (fun _ => true) ?_ ?_ a.length 0 (by omega)) (by simp)
  · intro k i hi
    simp only [laws_eqCombS.l0, laws_eqComb.f]
    rw [if_pos (by omega), if_pos (by omega), if_pos (by omega)]
    simp only [if_true, Option.bind_some]
    rw [next i hi ha]
  · intro k
    simp only [laws_eqCombS.l0]
    rw [if_neg (by omega)]

theorem l1In_eq (a b c : Int) : spec_l1In.f a b c = some (decide (b ≤ a ∧ a ≤ c)) := by
  unfold spec_l1In.f
  by_cases h : a ≥ b
  · rw [if_pos h]; congr 1; exact decide_eq_decide.mpr (by omega)
  · rw [if_neg h, decide_eq_false (by omega)]

def ar : Arity := ⟨5, fun k => if k = 2 then 2 else 0⟩
theorem ar2 (k : Int) : ar.want k ≤ 2 := by show (if k = 2 then 2 else 0) ≤ 2; split <;> omega

structure NodeOk (L : List Nd) (m : Nat) : Prop where
  top : m = 0 ↔ up L m = -1
  ahead : -1 ≤ up L m ∧ up L m < (m : Int)
  kind : 1 ≤ (L.getD m z).kind ∧ (L.getD m z).kind ≤ 5
  num : 0 ≤ (L.getD m z).n ∧ (L.getD m z).n ≤ 999 ∧ ((L.getD m z).kind = 1 ∨ (L.getD m z).n = 0)
  around : m = 0 ∨ ∃ x ∈ chain L (m - 1), (x : Int) = up L m
  deep : (chain L m).length ≤ 60
  wants : cnt L m (m + 1) (L.length - (m + 1)) = ar.want (L.getD m z).kind

theorem parts (l : List S51) (i : Nat) (hl : l.length ≤ 200) : ∀ (d a : Nat) (acc : List Int), a + d = l.length → acc.length + d ≤ 200 → ∃ r, Ev (fun k => spec_ldParts.l0 k l i acc a) r ∧ r.length = acc.length + cnt (l.map nd) i a d := by
  intro d
  induction d with
  | zero =>
    intro a acc ha _
    refine ⟨acc, Ev.step (f := fun _ => some acc) (fun k => ?_) (Ev.now _), rfl⟩
    simp only [spec_ldParts.l0]
    rw [if_neg (by omega)]
  | succ d ih =>
    intro a acc ha hacc
    by_cases h : up (l.map nd) a = (i : Int)
    · obtain ⟨r, hr, hn⟩ := ih (a + 1) (acc ++ [(a : Int)]) (by omega) (by simp; omega)
      refine ⟨r, Ev.step (fun k => ?_) hr, ?_⟩
      · simp only [spec_ldParts.l0]
        rw [if_pos (by omega), if_pos (by omega), rdC, up_nd, if_pos h, if_pos (by omega), next a (n := l.length) (by omega) (by omega)]
      · rw [hn, List.length_append]
        show acc.length + 1 + _ = acc.length + ((if up (l.map nd) a = (i : Int) then 1 else 0) + _)
        rw [if_pos h]; omega
    · obtain ⟨r, hr, hn⟩ := ih (a + 1) acc (by omega) (by omega)
      refine ⟨r, Ev.step (fun k => ?_) hr, ?_⟩
      · simp only [spec_ldParts.l0]
        rw [if_pos (by omega), if_pos (by omega), rdC, up_nd, if_neg h, next a (n := l.length) (by omega) (by omega)]
      · rw [hn]
        show _ = acc.length + ((if up (l.map nd) a = (i : Int) then 1 else 0) + _)
        rw [if_neg h]; omega

theorem ldParts (l : List S51) (i : Nat) (hi : i < l.length) (hl : l.length ≤ 200) : ∃ r, Ev (fun k => spec_ldParts.f k l i) r ∧ r.length = cnt (l.map nd) i (i + 1) (l.length - (i + 1)) := by
  obtain ⟨r, hr, hn⟩ := parts l i hl (l.length - (i + 1)) (i + 1) [] (by omega) (by simp; omega)
  refine ⟨r, ?_, by rw [hn]; simp⟩
  unfold spec_ldParts.f
  rw [next i hi (by omega)]
  exact hr

theorem deepLoop (l : List S51) (hl : l.length ≤ 200) (i : Nat) (hi : i < l.length) (b : Bool) (kd n u : Int) (h : ∀ m, m ≤ i → -1 ≤ up (l.map nd) m ∧ up (l.map nd) m < (m : Int)) {r : Bool} :
    ∀ (j d : Nat), j ≤ i → d + j ≤ 400 → Ev (fun k => spec_GoodComb.l2 k l i b ((d + (chain (l.map nd) j).length : Nat) : Int) (-1) l l.length i kd n u) r → Ev (fun k => spec_GoodComb.l2 k l i b (d : Int) (j : Int) l l.length i kd n u) r := by
  intro j
  induction j using Nat.strongRecOn with
  | _ j ih =>
    intro d hj hd hE
    refine Ev.step (f := fun k => spec_GoodComb.l2 k l i b ((d + 1 : Nat) : Int) (up (l.map nd) j) l l.length i kd n u) (fun k => ?_) ?_
    · show (if (j : Int) ≥ 0 then _ else _) = _
      rw [if_pos (by omega), if_pos (by omega), if_pos (by omega), rdC, up_nd, w64 (by omega) (by omega)]
      rfl
    · have hu := h j hj
      by_cases hu0 : 0 ≤ up (l.map nd) j
      · rw [show up (l.map nd) j = (((up (l.map nd) j).toNat : Nat) : Int) by omega]
        refine ih _ (by omega) (d + 1) (by omega) (by omega) ?_
        rw [chain_up ⟨hu0, hu.2⟩, List.length_cons] at hE
        rw [show d + 1 + (chain (l.map nd) (up (l.map nd) j).toNat).length = d + ((chain (l.map nd) (up (l.map nd) j).toNat).length + 1) by omega]
        exact hE
      · rw [chain_top (by omega)] at hE
        rw [show up (l.map nd) j = -1 by omega]
        exact hE

theorem aroundLoop (l : List S51) (hl : l.length ≤ 200) (i : Nat) (hi : i < l.length) (kd n u : Int) (h : ∀ m, m < i → -1 ≤ up (l.map nd) m ∧ up (l.map nd) m < (m : Int)) {r : Bool} {c : Bool} :
    ∀ (j : Nat), j < i → (c = true ↔ ∃ x ∈ chain (l.map nd) j, (x : Int) = u) → Ev (fun k => spec_GoodComb.j3 k l i c l l.length i kd n u) r → Ev (fun k => spec_GoodComb.l1 k l i false (j : Int) l l.length i kd n u) r := by
  intro j
  induction j using Nat.strongRecOn with
  | _ j ih =>
    intro hj hc hE
    have hu := h j hj
    refine Ev.step (f := fun k => spec_GoodComb.l1 k l i ((j : Int) == u) (up (l.map nd) j) l l.length i kd n u) (fun k => ?_) ?_
    · show (if (j : Int) ≥ 0 then _ else _) = _
      rw [if_pos (by omega), if_neg (by simp), if_pos (by omega), if_pos (by omega), rdC, up_nd]
    · by_cases hju : (j : Int) = u
      · obtain rfl : c = true := hc.mpr ⟨j, chain_self _ _, hju⟩
        rw [show ((j : Int) == u) = true by simpa using hju]
        refine Ev.step (f := fun k => spec_GoodComb.j3 k l i true l l.length i kd n u) (fun k => ?_) hE
        simp only [spec_GoodComb.l1]
        simp
      · rw [show ((j : Int) == u) = false by simpa using hju]
        by_cases hu0 : 0 ≤ up (l.map nd) j
        · rw [show up (l.map nd) j = (((up (l.map nd) j).toNat : Nat) : Int) by omega]
          refine ih _ (by omega) (by omega) (hc.trans ?_) hE
          rw [chain_up ⟨hu0, hu.2⟩]
          simp [hju]
        · obtain rfl : c = false := by
            cases c with
            | false => rfl
            | true =>
              obtain ⟨x, hx, hxu⟩ := hc.mp rfl
              rw [chain_top (by omega)] at hx
              have : x = j := by simpa using hx
              subst this; exact absurd hxu hju
          refine Ev.step (f := fun k => spec_GoodComb.j3 k l i false l l.length i kd n u) (fun k => ?_) hE
          simp only [spec_GoodComb.l1]
          rw [if_neg (by omega)]

theorem badNode (l : List S51) (a b c kd n u : Int) : Ev (fun k => spec_GoodComb.j1 k l a l b c true kd n u) false := by
  refine Ev.step (f := fun _ => some false) (fun k => ?_) (Ev.now _)
  simp only [spec_GoodComb.j1]
  rfl

theorem specLoop (l : List S51) (hl : l.length ≤ 200) : ∀ (d i : Nat), i + d = l.length → (∀ m, m < i → -1 ≤ up (l.map nd) m ∧ up (l.map nd) m < (m : Int)) →
    ∃ b, Ev (fun k => spec_GoodComb.l0 k l l l.length i) b ∧ (b = true ↔ ∀ m, i ≤ m → m < l.length → NodeOk (l.map nd) m) := by
  intro d
  induction d with
  | zero =>
    intro i hi _
    refine ⟨true, Ev.step (f := fun _ => some true) (fun k => ?_) (Ev.now _), ?_⟩
    · simp only [spec_GoodComb.l0]
      rw [if_neg (by omega)]
    · exact ⟨fun _ m h1 h2 => by omega, fun _ => rfl⟩
  | succ d ih =>
    intro i hi hah
    have hil : i < l.length := by omega
    have eu : (l.getD i z51).f2 = TreeM.up (l.map nd) i := up_nd l i
    have ek : (l.getD i z51).f0 = ((l.map nd).getD i z).kind := by rw [getD_nd]; rfl
    have en : (l.getD i z51).f1 = ((l.map nd).getD i z).n := by rw [getD_nd]; rfl
    have hlen : (l.map nd).length = l.length := List.length_map ..
    -- a node that is not good
    have bad : ∀ {F : Nat → Option Bool}, ¬ NodeOk (l.map nd) i → Ev F false → ∃ b, Ev F b ∧ (b = true ↔ ∀ m, i ≤ m → m < l.length → NodeOk (l.map nd) m) :=
      fun hn hE => ⟨false, hE, fun h => absurd h (by simp), fun h => absurd (h i (Nat.le_refl _) hil) hn⟩
    generalize hu : up (l.map nd) i = u at *
    generalize hk : ((l.map nd).getD i z).kind = kd at *
    generalize hn : ((l.map nd).getD i z).n = n at *
    have st : ∀ k, spec_GoodComb.l0 (k + 1) l l l.length i = (if ((((i : Int) == 0) != (u == (-1))) = true) then (spec_GoodComb.j1 k l i l l.length i true kd n u) else if (-1 ≤ u ∧ u ≤ (i : Int) - 1) then (if (1 ≤ kd ∧ kd ≤ 5) then (if (0 ≤ n ∧ n ≤ 999) then (if kd = 1 then (spec_GoodComb.j1 k l i l l.length i false kd n u) else (spec_GoodComb.j1 k l i l l.length i (n != 0) kd n u)) else (spec_GoodComb.j1 k l i l l.length i true kd n u)) else (spec_GoodComb.j1 k l i l l.length i true kd n u)) else (spec_GoodComb.j1 k l i l l.length i true kd n u)) := by
      intro k
      simp only [spec_GoodComb.l0]
      rw [if_pos (by omega), if_pos (by omega), if_pos (by omega), rdC, eu, ek, en, l1In_eq, l1In_eq, l1In_eq, w64 (by omega) (by omega)]
      simp only [Option.bind_some, decide_eq_true_eq]
    have hT : ((((i : Int) == 0) != (u == (-1))) = true) ↔ ¬ (i = 0 ↔ u = -1) := by
      have e1 : ((i : Int) == 0) = decide (i = 0) := by rw [Bool.eq_iff_iff]; simp
      have e2 : (u == (-1)) = decide (u = -1) := by rw [Bool.eq_iff_iff]; simp
      rw [e1, e2]
      by_cases h1 : i = 0 <;> by_cases h2 : u = -1 <;> simp [h1, h2]
    by_cases h1 : i = 0 ↔ u = -1
    case neg =>
      exact bad (fun h => h1 (hu ▸ h.top)) (Ev.step (fun k => (st k).trans (if_pos (hT.mpr h1))) (badNode ..))
    have st := fun k => (st k).trans (if_neg (fun h => hT.mp h h1))
    by_cases h2 : -1 ≤ u ∧ u ≤ (i : Int) - 1
    case neg =>
      exact bad (fun h => h2 (by have := h.ahead; rw [hu] at this; omega)) (Ev.step (fun k => (st k).trans (if_neg h2)) (badNode ..))
    have st := fun k => (st k).trans (if_pos h2)
    by_cases h3 : 1 ≤ kd ∧ kd ≤ 5
    case neg =>
      exact bad (fun h => h3 (hk ▸ h.kind)) (Ev.step (fun k => (st k).trans (if_neg h3)) (badNode ..))
    have st := fun k => (st k).trans (if_pos h3)
    by_cases h4 : 0 ≤ n ∧ n ≤ 999
    case neg =>
      exact bad (fun h => h4 (by have := h.num; rw [hn] at this; omega)) (Ev.step (fun k => (st k).trans (if_neg h4)) (badNode ..))
    have st := fun k => (st k).trans (if_pos h4)
    by_cases h5 : kd = 1 ∨ n = 0
    case neg =>
      refine bad (fun h => h5 (by have := h.num; rw [hn, hk] at this; omega)) (Ev.step (f := fun k => spec_GoodComb.j1 k l i l l.length i true kd n u) (fun k => (st k).trans ?_) (badNode ..))
      rw [if_neg (by omega), show (n != 0) = true by simp; omega]
    -- the node itself is good; what it is in, how deep, how many parts
    have st : ∀ k, spec_GoodComb.l0 (k + 1) l l l.length i = spec_GoodComb.j1 k l i l l.length i false kd n u := by
      intro k
      rw [st k]
      by_cases h6 : kd = 1
      · rw [if_pos h6]
      · rw [if_neg h6, show (n != 0) = false by simp; omega]
    have hah' : ∀ m, m < i + 1 → -1 ≤ up (l.map nd) m ∧ up (l.map nd) m < (m : Int) := by
      intro m hm
      by_cases hmi : m = i
      · subst hmi; rw [hu]; omega
      · exact hah m (by omega)
    obtain ⟨b, hb, hbi⟩ := ih (i + 1) (by omega) hah'
    obtain ⟨ps, hps, hpn⟩ := ldParts l i hil hl
    -- the end
    obtain ⟨c, hc⟩ : ∃ c : Bool, c = true ↔ (i = 0 ∨ ∃ x ∈ chain (l.map nd) (i - 1), (x : Int) = u) := by
      by_cases h : (i = 0 ∨ ∃ x ∈ chain (l.map nd) (i - 1), (x : Int) = u)
      · exact ⟨true, by simp [h]⟩
      · exact ⟨false, by simp [h]⟩
    have go : ∀ {r : Bool}, Ev (fun k => spec_GoodComb.l2 k l i c (((chain (l.map nd) i).length : Nat) : Int) (-1) l l.length i kd n u) r → Ev (fun k => spec_GoodComb.l0 k l l l.length i) r := by
      intro r hE
      refine Ev.step st ?_
      refine Ev.step (f := fun k => spec_GoodComb.l1 k l i ((i : Int) == 0) ((i : Int) - 1) l l.length i kd n u) (fun k => ?_) ?_
      · simp only [spec_GoodComb.j1]
        rw [w64 (by omega) (by omega)]
        rfl
      · have hj3 : Ev (fun k => spec_GoodComb.j3 k l i c l l.length i kd n u) r := by
          refine Ev.step (f := fun k => spec_GoodComb.l2 k l i c ((0 : Nat) : Int) (i : Int) l l.length i kd n u) (fun k => rfl) ?_
          refine deepLoop l hl i hil c kd n u (fun m hm => hah' m (by omega)) i 0 (Nat.le_refl _) (by omega) ?_
          rw [Nat.zero_add]; exact hE
        by_cases hi0 : i = 0
        · obtain rfl : c = true := hc.mpr (.inl hi0)
          subst hi0
          refine Ev.step (f := fun k => spec_GoodComb.j3 k l (0 : Nat) true l l.length (0 : Nat) kd n u) (fun k => ?_) hj3
          simp only [spec_GoodComb.l1]
          rfl
        · rw [show ((i : Int) == 0) = false by simpa using hi0, show (i : Int) - 1 = ((i - 1 : Nat) : Int) by omega]
          refine aroundLoop l hl i hil kd n u hah (i - 1) (by omega) (hc.trans ?_) hj3
          simp [hi0]
    have fin : ∀ k, spec_GoodComb.l2 (k + 1) l i c (((chain (l.map nd) i).length : Nat) : Int) (-1) l l.length i kd n u = (if c = true then (if (chain (l.map nd) i).length ≤ 60 then ((spec_ldParts.f k l i).bind fun t => (if t.length = ar.want kd then (spec_GoodComb.l0 k l l l.length ((i + 1 : Nat) : Int)) else (some false))) else some false) else (some false)) := by
      intro k
      simp only [spec_GoodComb.l2]
      rw [if_neg (by decide), next i hil (by omega)]
      have hd : ((((chain (l.map nd) i).length : Nat) : Int) > 60) ↔ ¬ (chain (l.map nd) i).length ≤ 60 := by omega
      have hw : ∀ (t : List Int), (t.length = ar.want kd) ↔ (if kd = 2 then (t.length : Int) = 2 else (t.length : Int) = 0) := by
        intro t
        show (t.length = if kd = 2 then 2 else 0) ↔ _
        by_cases h6 : kd = 2
        · rw [if_pos h6, if_pos h6]; omega
        · rw [if_neg h6, if_neg h6]; omega
      by_cases h6 : kd = 2
      · simp only [hw, if_pos h6]
        by_cases h7 : (chain (l.map nd) i).length ≤ 60
        · simp only [if_pos h7, if_neg (fun h => hd.mp h h7)]
        · simp only [if_neg h7, if_pos (hd.mpr h7)]
      · simp only [hw, if_neg h6]
        by_cases h7 : (chain (l.map nd) i).length ≤ 60
        · simp only [if_pos h7, if_neg (fun h => hd.mp h h7)]
        · simp only [if_neg h7, if_pos (hd.mpr h7)]
    by_cases h7 : c = true
    case neg =>
      exact bad (fun h => h7 (hc.mpr (hu ▸ h.around))) (go (Ev.step (f := fun _ => some false) (fun k => (fin k).trans (if_neg h7)) (Ev.now _)))
    have fin := fun k => (fin k).trans (if_pos h7)
    by_cases h8 : (chain (l.map nd) i).length ≤ 60
    case neg =>
      exact bad (fun h => h8 h.deep) (go (Ev.step (f := fun _ => some false) (fun k => (fin k).trans (if_neg h8)) (Ev.now _)))
    have fin := fun k => (fin k).trans (if_pos h8)
    by_cases h9 : ps.length = ar.want kd
    case neg =>
      exact bad (fun h => h9 (by have := h.wants; rw [hk, hlen] at this; rw [hpn]; exact this)) (go (Ev.step fin (Ev.bind hps (Ev.ite_neg h9 (Ev.now _)))))
    refine ⟨b, go (Ev.step fin (Ev.bind hps (Ev.ite_pos h9 hb))), hbi.trans ?_⟩
    have good : NodeOk (l.map nd) i := by
      refine ⟨by rw [hu]; exact h1, by rw [hu]; omega, by rw [hk]; exact h3, by rw [hn, hk]; exact ⟨h4.1, h4.2, h5⟩, by rw [hu]; exact hc.mp h7, h8, ?_⟩
      rw [hk, hlen, ← hpn]; exact h9
    constructor
    · intro h m hm1 hm2
      by_cases hmi : m = i
      · subst hmi; exact good
      · exact h m (by omega) hm2
    · intro h m hm1 hm2
      exact h m (by omega) hm2
end Go.Proofs.YtcjhhdecckcibaaDoor.CombL

namespace Go.Proofs.YtcjhhdecckcibaaDoor.CombL
open Go.RowKit Go.Proofs.YtcjhhdecckcibaaDoor.G Go.Proofs.YtcjhhdecckcibaaDoor.EvL Go.Proofs.YtcjhhdecckcibaaDoor.TreeM Go.Proofs.YtcjhhdecckcibaaDoorW.PrintWords Go.Proofs.YtcjhhdecckcibaaDoorW.PrintLast
set_option linter.unusedVariables false

def toS : Tr → S56
  | .leaf k n => ⟨k, n, []⟩
  | .un k n a => ⟨k, n, [toS a]⟩
  | .bin k n a b => ⟨k, n, [toS a, toS b]⟩

def numOk (k n : Int) : Prop := 0 ≤ n ∧ n ≤ 999 ∧ (k = 1 ∨ n = 0)

theorem Tr.depth_le (t : Tr) : t.depth ≤ t.size ∧ 1 ≤ t.depth := by
  induction t with
  | leaf k n => exact ⟨Nat.le_refl _, Nat.le_refl _⟩
  | un k n a ih => show a.depth + 1 ≤ 1 + a.size ∧ 1 ≤ a.depth + 1; omega
  | bin k n a b iha ihb => show max a.depth b.depth + 1 ≤ 1 + a.size + b.size ∧ 1 ≤ max a.depth b.depth + 1; omega

theorem measure_ev : ∀ (t : Tr), t.size ≤ 4000 → ∃ b, Ev (fun k => impl_comb_measure.f k (toS t).f0 (toS t).f1 (toS t).f2) ((t.size : Int), (t.depth : Int), b) ∧ (b = true ↔ t.all numOk) := by
  -- the node itself
  have node : ∀ (kd n : Int) (ps : List S56), ∃ c : Bool, (c = true ↔ numOk kd n) ∧ ∀ {r}, Ev (fun k => impl_comb_measure.l0 k 1 0 c ps ps.length 0) r → Ev (fun k => impl_comb_measure.f k kd n ps) r := by
    intro kd n ps
    have fin : ∀ (c : Bool) {r}, Ev (fun k => impl_comb_measure.l0 k 1 0 c ps ps.length 0) r → Ev (fun k => impl_comb_measure.j0 k 1 0 c kd n ps) r := fun c r h => Ev.step (fun k => rfl) h
    unfold numOk
    by_cases h1 : n ≥ 0
    · by_cases h2 : n ≤ 999
      · by_cases h3 : kd = 1
        · exact ⟨true, by simp; omega, fun h => Ev.step (fun k => by simp only [impl_comb_measure.f]; rw [if_pos h1, if_pos h2, if_pos h3]) (fin _ h)⟩
        · exact ⟨n == 0, by simp; omega, fun h => Ev.step (fun k => by simp only [impl_comb_measure.f]; rw [if_pos h1, if_pos h2, if_neg h3]) (fin _ h)⟩
      · exact ⟨false, by simp; omega, fun h => Ev.step (fun k => by simp only [impl_comb_measure.f]; rw [if_pos h1, if_neg h2]) (fin _ h)⟩
    · exact ⟨false, by simp; omega, fun h => Ev.step (fun k => by simp only [impl_comb_measure.f]; rw [if_neg h1]) (fin _ h)⟩
  have fin : ∀ (s dp : Nat) (c : Bool) (ps : List S56), dp ≤ 4000 → Ev (fun k => impl_comb_measure.l0 k s dp c ps ps.length ps.length) ((s : Int), ((dp + 1 : Nat) : Int), c) := by
    intro s dp c ps hd
    refine Ev.step (f := fun _ => some ((s : Int), ((dp + 1 : Nat) : Int), c)) (fun k => ?_) (Ev.now _)
    simp only [impl_comb_measure.l0]
    rw [if_neg (by omega), w64 (by omega) (by omega)]
    rfl
  have part : ∀ (s dp i s2 d2 : Nat) (c b : Bool) (ps : List S56) (x : S56), i < ps.length → ps.length ≤ 2 → rd_T56 ps i = x → s + s2 ≤ 4000 → Ev (fun k => impl_comb_measure.f k x.f0 x.f1 x.f2) ((s2 : Int), (d2 : Int), b) → ∀ {r}, Ev (fun k => impl_comb_measure.l0 k ((s + s2 : Nat) : Int) ((max dp d2 : Nat) : Int) (c && b) ps ps.length ((i + 1 : Nat) : Int)) r → Ev (fun k => impl_comb_measure.l0 k s dp c ps ps.length i) r := by
    intro s dp i s2 d2 c b ps x hi hl hx hs hE r h
    have hm : mx (dp : Int) (d2 : Int) = ((max dp d2 : Nat) : Int) := by unfold mx; split <;> omega
    refine Ev.step (f := fun k => (impl_comb_measure.f k x.f0 x.f1 x.f2).bind fun bt => (if c = true then (impl_comb_measure.l0 k (wrap64 ((s : Int) + bt.1)) (mx dp bt.2.1) bt.2.2 ps ps.length ((i + 1 : Nat) : Int)) else (impl_comb_measure.l0 k (wrap64 ((s : Int) + bt.1)) (mx dp bt.2.1) false ps ps.length ((i + 1 : Nat) : Int)))) (fun k => ?_) (Ev.bind hE ?_)
    · simp only [impl_comb_measure.l0]
      rw [if_pos (by omega), if_pos (by omega), if_pos (by omega), hx, next i hi (by omega)]
    · show Ev (fun k => if c = true then (impl_comb_measure.l0 k (wrap64 ((s : Int) + s2)) (mx dp d2) b ps ps.length ((i + 1 : Nat) : Int)) else (impl_comb_measure.l0 k (wrap64 ((s : Int) + s2)) (mx dp d2) false ps ps.length ((i + 1 : Nat) : Int))) r
      rw [hm, w64 (by omega) (by omega), show (s : Int) + s2 = ((s + s2 : Nat) : Int) by omega]
      by_cases hc : c = true
      · subst hc; rw [Bool.true_and] at h; exact Ev.ite_pos rfl h
      · obtain rfl : c = false := by simpa using hc
        rw [Bool.false_and] at h; exact Ev.ite_neg (by simp) h
  intro t
  induction t with
  | leaf kd n =>
    intro _
    obtain ⟨c, hc, hE⟩ := node kd n []
    exact ⟨c, hE (fin 1 0 c [] (by omega)), hc⟩
  | un kd n a ih =>
    intro hs
    have hs' : 1 + a.size ≤ 4000 := hs
    obtain ⟨b, hb, hbi⟩ := ih (by omega)
    obtain ⟨c, hc, hE⟩ := node kd n [toS a]
    have := Tr.depth_le a
    refine ⟨c && b, ?_, ?_⟩
    · refine hE (part 1 0 0 a.size a.depth c b [toS a] (toS a) (by simp) (by simp) rfl hs' hb (Ev.of_eq (fin (1 + a.size) (max 0 a.depth) (c && b) [toS a] (by omega)) ?_))
      rw [Nat.zero_max]; rfl
    · rw [Bool.and_eq_true, hc, hbi]; exact Iff.rfl
  | bin kd n x y ihx ihy =>
    intro hs
    have hs' : 1 + x.size + y.size ≤ 4000 := hs
    obtain ⟨b1, hb1, hbi1⟩ := ihx (by omega)
    obtain ⟨b2, hb2, hbi2⟩ := ihy (by omega)
    obtain ⟨c, hc, hE⟩ := node kd n [toS x, toS y]
    have := Tr.depth_le x
    have := Tr.depth_le y
    refine ⟨(c && b1) && b2, ?_, ?_⟩
    · refine hE (part 1 0 0 x.size x.depth c b1 [toS x, toS y] (toS x) (by simp) (by simp) rfl (by omega) hb1 ?_)
      refine part (1 + x.size) (max 0 x.depth) 1 y.size y.depth (c && b1) b2 [toS x, toS y] (toS y) (by simp) (by simp) rfl hs' hb2 ?_
      refine Ev.of_eq (fin (1 + x.size + y.size) (max (max 0 x.depth) y.depth) ((c && b1) && b2) [toS x, toS y] (by omega)) ?_
      rw [Nat.zero_max]; rfl
    · rw [Bool.and_eq_true, Bool.and_eq_true, hc, hbi1, hbi2, and_assoc]; exact Iff.rfl
end Go.Proofs.YtcjhhdecckcibaaDoor.CombL

namespace Go.Proofs.YtcjhhdecckcibaaDoor.CombL
open Go.RowKit Go.Proofs.YtcjhhdecckcibaaDoor.G Go.Proofs.YtcjhhdecckcibaaDoor.EvL Go.Proofs.YtcjhhdecckcibaaDoor.TreeM Go.Proofs.YtcjhhdecckcibaaDoorW.PrintWords Go.Proofs.YtcjhhdecckcibaaDoorW.PrintLast
set_option linter.unusedVariables false

def Tells (l : List S51) (t : Tr) : Prop := 1 ≤ l.length ∧ l.length ≤ 200 ∧ Par ar (l.map nd) 0 (-1) t l.length ∧ t.all numOk ∧ t.depth ≤ 60

theorem nodes_iff (l : List S51) (h1 : 1 ≤ l.length) (h2 : l.length ≤ 200) : (∀ m, 0 ≤ m → m < l.length → NodeOk (l.map nd) m) ↔ ∃ t, Tells l t := by
  have hlen : (l.map nd).length = l.length := List.length_map ..
  have hli := loc_iff (A := ar) (l := l.map nd) ar2 (by omega)
  constructor
  · intro h
    have L : TreeM.Loc ar (l.map nd) := by
      refine ⟨fun _ => (h 0 (Nat.le_refl _) (by omega)).top.mp rfl, fun m h3 h4 => ?_, fun m h3 h4 => ?_, fun m h3 => (h m (by omega) (by omega)).kind, fun m h3 => (h m (by omega) (by omega)).wants⟩
      · have hm := h m (by omega) (by omega)
        have := hm.ahead
        have := hm.top
        omega
      · have hm := h m (by omega) (by omega)
        obtain ⟨x, hx, hxu⟩ := hm.around.resolve_left (by omega)
        rw [← hxu, Int.toNat_natCast]; exact hx
    obtain ⟨t, ht⟩ := hli.mp L
    rw [hlen] at ht
    refine ⟨t, h1, h2, ht, (ht.alls numOk).mpr (fun m h3 h4 => (h m h3 h4).num), ?_⟩
    obtain ⟨m, h3, h4, h5⟩ := ht.deep.2
    have hm := (h m h3 h4).deep
    have h0 : (chain (l.map nd) 0).length = 1 := by rw [chain_top (by rw [ht.span.2.2]; omega)]; rfl
    omega
  · rintro ⟨t, _, _, ht, hn, hd⟩ m _ hm
    have L : TreeM.Loc ar (l.map nd) := hli.mpr ⟨t, by rw [hlen]; exact ht⟩
    have h0 : (chain (l.map nd) 0).length = 1 := by rw [chain_top (by rw [ht.span.2.2]; omega)]; rfl
    have hr := L.root (by omega)
    refine ⟨?_, ?_, L.kinds m (by omega), (ht.alls numOk).mp hn m (by omega) hm, ?_, by have := ht.deep.1 m (by omega) hm; omega, L.wants m (by omega)⟩
    · by_cases h3 : m = 0
      · subst h3; exact ⟨fun _ => hr, fun _ => rfl⟩
      · have := L.ahead m (by omega) (by omega); omega
    · by_cases h3 : m = 0
      · subst h3; omega
      · have := L.ahead m (by omega) (by omega); omega
    · by_cases h3 : m = 0
      · exact .inl h3
      · have h4 := L.ahead m (by omega) (by omega)
        exact .inr ⟨_, L.around m (by omega) (by omega), by omega⟩

theorem specGood (l : List S51) (hl : l.length ≤ 9223372036854775807) : ∃ b, Ev (fun k => spec_GoodComb.f k l) b ∧ (b = true ↔ ∃ t, Tells l t) := by
  unfold spec_GoodComb.f
  rw [l1In_eq]
  simp only [Option.bind_some, decide_eq_true_eq]
  by_cases h : (1 : Int) ≤ (l.length : Int) ∧ (l.length : Int) ≤ 200
  · obtain ⟨b, hb, hbi⟩ := specLoop l (by omega) l.length 0 (by omega) (fun m hm => by omega)
    exact ⟨b, Ev.ite_pos h hb, hbi.trans (nodes_iff l (by omega) (by omega))⟩
  · exact ⟨false, Ev.ite_neg h (Ev.now _), fun h2 => absurd h2 (by simp), fun ⟨t, h2, h3, _⟩ => absurd ⟨by omega, by omega⟩ h⟩

end Go.Proofs.YtcjhhdecckcibaaDoor.CombL

namespace Go.Proofs.YtcjhhdecckcibaaDoor.CombL
open Go.RowKit Go.Proofs.YtcjhhdecckcibaaDoor.G Go.Proofs.YtcjhhdecckcibaaDoor.EvL Go.Proofs.YtcjhhdecckcibaaDoor.TreeM Go.Proofs.YtcjhhdecckcibaaDoorW.PrintWords Go.Proofs.YtcjhhdecckcibaaDoorW.PrintLast
set_option linter.unusedVariables false

def toL : Tr → S48
  | .leaf k n => ⟨k, n, []⟩
  | .un k n a => ⟨k, n, [toL a]⟩
  | .bin k n a b => ⟨k, n, [toL a, toL b]⟩
theorem toL_eta (a : Tr) : (⟨(toL a).f0, (toL a).f1, (toL a).f2⟩ : S48) = toL a := by cases toL a; rfl
theorem toS_eta (a : Tr) : (⟨(toS a).f0, (toS a).f1, (toS a).f2⟩ : S56) = toS a := by cases toS a; rfl

def back (x : Nd) : S51 := ⟨x.kind, x.n, x.up⟩
theorem nd_back (l : List Nd) : (l.map back).map nd = l := by
  rw [List.map_map]
  have : (nd ∘ back) = id := by funext x; rfl
  rw [this, List.map_id]
def tnodes (t : Tr) : List S51 := (flat t 0 (-1)).map back
theorem tnodes_len (t : Tr) : (tnodes t).length = t.size := by unfold tnodes; rw [List.length_map, flat_len]

theorem fl_spec : ∀ (t : Tr) (up : Int) (l : List S51), l.length ≤ 200 → (l.length + t.size ≤ 201 → Flat48.flT (toL t) up l = l ++ (flat t l.length up).map back) ∧ (201 < l.length + t.size → 201 ≤ (Flat48.flT (toL t) up l).length) := by
  intro t
  induction t with
  | leaf k n =>
    intro up l hl
    have e : Flat48.flT (toL (.leaf k n)) up l = l ++ [⟨k, n, up⟩] := by rw [Flat48.flT_eq]; show Flat48.flL [] _ _ = _; rw [Flat48.flL_nil]; rfl
    have hs : (Tr.leaf k n).size = 1 := rfl
    exact ⟨fun _ => e, fun h => by omega⟩
  | un k n a ih =>
    intro up l hl
    have hs : (Tr.un k n a).size = 1 + a.size := rfl
    have hp := a.size_pos
    have e : Flat48.flT (toL (.un k n a)) up l = (if (l ++ [(⟨k, n, up⟩ : S51)]).length ≤ 200 then Flat48.flT (toL a) (l.length : Int) (l ++ [⟨k, n, up⟩]) else l ++ [⟨k, n, up⟩]) := by
      rw [Flat48.flT_eq]; show Flat48.flL [toL a] _ _ = _; rw [Flat48.flL_cons, Flat48.flL_nil]; rfl
    have e1 : (l ++ [(⟨k, n, up⟩ : S51)]).length = l.length + 1 := by simp
    rw [e, e1]
    by_cases h1 : l.length + 1 ≤ 200
    · rw [if_pos h1]
      have h2 := ih (l.length : Int) (l ++ [⟨k, n, up⟩]) (by omega)
      rw [e1] at h2
      refine ⟨fun h => ?_, fun h => h2.2 (by omega)⟩
      rw [h2.1 (by omega)]
      show _ = l ++ (⟨k, n, up⟩ :: flat a (l.length + 1) l.length).map back
      simp [back]
    · rw [if_neg h1]
      exact ⟨fun h => by omega, fun h => by omega⟩
  | bin k n a b iha ihb =>
    intro up l hl
    have hs : (Tr.bin k n a b).size = 1 + a.size + b.size := rfl
    have hp := a.size_pos
    have hq := b.size_pos
    have e1 : (l ++ [(⟨k, n, up⟩ : S51)]).length = l.length + 1 := by simp
    have e : Flat48.flT (toL (.bin k n a b)) up l = (fun m => if m.length ≤ 200 then Flat48.flT (toL b) (l.length : Int) m else m) (if l.length + 1 ≤ 200 then Flat48.flT (toL a) (l.length : Int) (l ++ [⟨k, n, up⟩]) else l ++ [⟨k, n, up⟩]) := by
      rw [Flat48.flT_eq]; show Flat48.flL [toL a, toL b] _ _ = _; rw [Flat48.flL_cons, Flat48.flL_cons, Flat48.flL_nil, ← e1]; rfl
    rw [e]
    by_cases h1 : l.length + 1 ≤ 200
    · rw [if_pos h1]
      have h2 := iha (l.length : Int) (l ++ [⟨k, n, up⟩]) (by omega)
      rw [e1] at h2
      by_cases h3 : l.length + 1 + a.size ≤ 201
      · rw [h2.1 h3]
        have e2 : (l ++ [(⟨k, n, up⟩ : S51)] ++ (flat a (l.length + 1) l.length).map back).length = l.length + 1 + a.size := by rw [List.length_append, List.length_map, flat_len, e1]
        dsimp only
        rw [e2]
        by_cases h4 : l.length + 1 + a.size ≤ 200
        · rw [if_pos h4]
          have h5 := ihb (l.length : Int) (l ++ [(⟨k, n, up⟩ : S51)] ++ (flat a (l.length + 1) l.length).map back) (by omega)
          rw [e2] at h5
          refine ⟨fun h => ?_, fun h => h5.2 (by omega)⟩
          rw [h5.1 (by omega)]
          show _ = l ++ (⟨k, n, up⟩ :: (flat a (l.length + 1) l.length ++ flat b (l.length + 1 + a.size) l.length)).map back
          simp [back]
        · rw [if_neg h4]
          exact ⟨fun h => by omega, fun h => by omega⟩
      · have h6 := h2.2 (by omega)
        dsimp only
        rw [if_neg (by omega)]
        exact ⟨fun h => by omega, fun h => h6⟩
    · rw [if_neg h1]
      dsimp only
      rw [if_neg (by omega)]
      exact ⟨fun h => by omega, fun h => by omega⟩

theorem fl_impl : ∀ (t : Tr) (up : Int) (l : List S51), Nodes56.flT (toS t) up l = l ++ (flat t l.length up).map back := by
  intro t
  induction t with
  | leaf k n => intro up l; rw [Nodes56.flT_eq]; show Nodes56.flL [] _ _ = _; rw [Nodes56.flL_nil]; rfl
  | un k n a ih =>
    intro up l
    rw [Nodes56.flT_eq]; show Nodes56.flL [toS a] _ _ = _
    rw [Nodes56.flL_cons, Nodes56.flL_nil, ih]
    show _ = l ++ (⟨k, n, up⟩ :: flat a (l.length + 1) l.length).map back
    simp [back, toS]
  | bin k n a b iha ihb =>
    intro up l
    rw [Nodes56.flT_eq]; show Nodes56.flL [toS a, toS b] _ _ = _
    rw [Nodes56.flL_cons, Nodes56.flL_cons, Nodes56.flL_nil, iha, ihb]
    show _ = l ++ (⟨k, n, up⟩ :: (flat a (l.length + 1) l.length ++ flat b (l.length + 1 + a.size) l.length)).map back
    simp [back, toS, flat_len, show l.length + 1 + a.size = l.length + (a.size + 1) by omega]
theorem sz_impl : ∀ (t : Tr), Nodes56.szT (toS t) = t.size := by
  intro t
  induction t with
  | leaf k n => rw [Nodes56.szT_eq]; show 1 + Nodes56.szL [] = 1; rw [Nodes56.szL]
  | un k n a ih => rw [Nodes56.szT_eq]; show 1 + Nodes56.szL [toS a] = 1 + a.size; rw [Nodes56.szL_cons, Nodes56.szL, ih]; omega
  | bin k n a b iha ihb => rw [Nodes56.szT_eq]; show 1 + Nodes56.szL [toS a, toS b] = 1 + a.size + b.size; rw [Nodes56.szL_cons, Nodes56.szL_cons, Nodes56.szL, iha, ihb]; omega

def Good (t : Tr) : Prop := t.size ≤ 200 ∧ t.depth ≤ 60 ∧ t.all numOk

theorem isGood_ev (t : Tr) (hs : t.size ≤ 4000) : ∃ b, Ev (fun k => impl_comb_isGood.f k (toS t).f0 (toS t).f1 (toS t).f2) b ∧ (b = true ↔ Good t) := by
  obtain ⟨b, hb, hbi⟩ := measure_ev t hs
  unfold impl_comb_isGood.f Good
  by_cases h3 : b = true
  case neg => exact ⟨false, Ev.bind hb (Ev.ite_neg h3 (Ev.now _)), fun h => absurd h (by simp), fun h => absurd (hbi.mpr h.2.2) h3⟩
  by_cases h4 : t.size ≤ 200
  case neg => exact ⟨false, Ev.bind hb (Ev.ite_pos h3 (Ev.ite_neg (by omega) (Ev.now _))), fun h => absurd h (by simp), fun h => absurd h.1 h4⟩
  refine ⟨decide (t.depth ≤ 60), Ev.bind hb (Ev.ite_pos h3 (Ev.ite_pos (by omega) (Ev.of_eq (Ev.now _) ?_))), ?_⟩
  · exact decide_eq_decide.mpr (by show ((t.depth : Int) ≤ 60) ↔ _; omega)
  · rw [decide_eq_true_iff]
    exact ⟨fun h => ⟨h4, h, hbi.mp h3⟩, fun h => h.2.1⟩

theorem tells_iff (t : Tr) (hw : t.wf ar) (hs : t.size ≤ 200) : (∃ t', Tells (tnodes t) t') ↔ Good t := by
  have hp := flat_par t hw
  have hm : (tnodes t).map nd = flat t 0 (-1) := nd_back _
  have hl := tnodes_len t
  constructor
  · rintro ⟨t', h1, h2, h3, h4, h5⟩
    rw [hm, hl, ← flat_len t 0 (-1)] at h3
    obtain ⟨rfl, _⟩ := hp.unique h3
    exact ⟨hs, h5, h4⟩
  · rintro ⟨_, h2, h3⟩
    refine ⟨t, ?_, by omega, ?_, h3, h2⟩
    · rw [hl]; exact t.size_pos
    · rw [hm, hl, ← flat_len t 0 (-1)]; exact hp

def mkC (q : Int) : S51 := ⟨q, q + 1, q + 2⟩
def markC (l : List S51) : List S51 := (List.range l.length).map fun (j : Nat) => mkC (1 + 3 * (j : Int))
theorem rd_setC (l : List S51) (i : Nat) (v : S51) (h : i < l.length) : rd_T51 (l.set i v) (i : Int) = v := by
  rw [rdC, List.getD_eq_getElem?_getD, List.getElem?_set_self h]; rfl
theorem markCombs_from (n : Nat) (hn : n ≤ 2000000) : ∀ (d i : Nat) (l : List S51), i + d = n → l.length = n →
    Ev (fun k => laws_markCombS.l0 k l (1 + 3 * (i : Int)) i) (1 + 3 * (n : Int), l.take i ++ (List.range d).map fun (j : Nat) => mkC (1 + 3 * ((i + j : Nat) : Int))) := by
  intro d
  induction d with
  | zero =>
    intro i l hi hl
    obtain rfl : i = n := by omega
    refine Ev.succ (Ev.congr (fun k => ?_) (Ev.now _))
    simp only [laws_markCombS.l0]
    rw [if_neg (by omega), List.range_zero, List.map_nil, List.append_nil, List.take_of_length_le (by omega)]
  | succ d ih =>
    intro i l hi hl
    have hlt : i < l.length := by omega
    refine Ev.step (f := fun k => laws_markCombS.l0 k (l.set i (mkC (1 + 3 * (i : Int)))) (1 + 3 * ((i + 1 : Nat) : Int)) ((i + 1 : Nat) : Int)) (fun k => ?_) ?_
    · have w1 : wrap64 (1 + 3 * (i : Int) + 1) = 1 + 3 * (i : Int) + 1 := w64 (by omega) (by omega)
      have w2 : wrap64 (1 + 3 * (i : Int) + 1 + 1) = 1 + 3 * (i : Int) + 2 := by rw [w64 (by omega) (by omega)]; omega
      have w3 : wrap64 (1 + 3 * (i : Int) + 2 + 1) = 1 + 3 * ((i + 1 : Nat) : Int) := by rw [w64 (by omega) (by omega)]; omega
      simp only [laws_markCombS.l0, w1, w2, w3, Option.bind_some, Int.toNat_natCast]
      rw [if_pos (by omega), if_pos (by omega), next i (n := n) (by omega) (by omega)]
      congr 1
      simp only [rd_setC l i _ hlt, List.set_set]
      rfl
    · refine Ev.of_eq (ih (i + 1) (l.set i (mkC (1 + 3 * (i : Int)))) (by omega) (by simpa using hl)) ?_
      have e : (l.set i (mkC (1 + 3 * (i : Int)))).take (i + 1) = l.take i ++ [mkC (1 + 3 * (i : Int))] := by
        rw [List.take_succ_eq_append_getElem (by simp; omega)]
        simp [List.take_set_of_le]
      rw [e, List.append_assoc, List.range_succ_eq_map, List.map_cons, List.map_map, Nat.add_zero, List.singleton_append]
      congr 2
      congr 1
      apply List.map_congr_left
      intro j _
      show mkC (1 + 3 * ((i + 1 + j : Nat) : Int)) = mkC (1 + 3 * ((i + (j + 1) : Nat) : Int))
      congr 3; omega
theorem markCombs (l : List S51) (hl : l.length ≤ 2000000) : Ev (fun k => laws_markCombS.f k l 1) (1 + 3 * (l.length : Int), markC l) := by
  unfold laws_markCombS.f markC
  have := markCombs_from l.length hl l.length 0 l (by omega) rfl
  simp only [Nat.zero_add, List.take_zero, List.nil_append] at this
  exact this
theorem heldCombs (l : List S51) (hl : l.length ≤ 2000000) : Ev (fun k => laws_heldCombS.f k (markC l) 1) (1 + 3 * (l.length : Int)) := by
  unfold laws_heldCombS.f
  have hlen : (markC l).length = l.length := by unfold markC; simp
  have key : ∀ (d i : Nat), i + d = l.length → Ev (fun k => laws_heldCombS.l0 k (markC l) (1 + 3 * (i : Int)) i) (1 + 3 * (l.length : Int)) := by
    intro d
    induction d with
    | zero =>
      intro i hi
      refine Ev.succ (Ev.congr (fun k => ?_) (Ev.now _))
      simp only [laws_heldCombS.l0, hlen]
      rw [if_neg (by omega), show i = l.length by omega]
    | succ d ih =>
      intro i hi
      have e : rd_T51 (markC l) (i : Int) = mkC (1 + 3 * (i : Int)) := by
        rw [rdC]; unfold markC
        rw [List.getD_eq_getElem?_getD, List.getElem?_map, List.getElem?_range (by omega)]; rfl
      have w1 : wrap64 (1 + 3 * (i : Int) + 1) = 1 + 3 * (i : Int) + 1 := w64 (by omega) (by omega)
      have w2 : wrap64 (1 + 3 * (i : Int) + 1 + 1) = 1 + 3 * (i : Int) + 2 := by rw [w64 (by omega) (by omega)]; omega
      have w3 : wrap64 (1 + 3 * (i : Int) + 2 + 1) = 1 + 3 * ((i + 1 : Nat) : Int) := by rw [w64 (by omega) (by omega)]; omega
      refine Ev.step (f := fun k => laws_heldCombS.l0 k (markC l) (1 + 3 * ((i + 1 : Nat) : Int)) ((i + 1 : Nat) : Int)) (fun k => ?_) (ih (i + 1) (by omega))
      simp only [laws_heldCombS.l0, hlen, e, w1, w2, w3, mkC]
      rw [if_pos (by omega), if_pos (by omega), next i (n := l.length) (by omega) (by omega), if_pos trivial, if_pos trivial, if_pos trivial]
  exact key l.length 0 (by omega)
end Go.Proofs.YtcjhhdecckcibaaDoor.CombL

namespace Go.Proofs.YtcjhhdecckcibaaDoor.CombL
open Go.RowKit Go.Proofs.YtcjhhdecckcibaaDoor.G Go.Proofs.YtcjhhdecckcibaaDoor.EvL Go.Proofs.YtcjhhdecckcibaaDoor.TreeM Go.Proofs.YtcjhhdecckcibaaDoorW.PrintWords Go.Proofs.YtcjhhdecckcibaaDoorW.PrintLast
set_option linter.unusedVariables false

theorem toldS (t : Tr) (hw : t.wf ar) : ∃ b, (b = true ↔ Good t) ∧ Ev (fun k => spec_ldTold.f k (toL t).f0 (toL t).f1 (toL t).f2) (if b = true then tnodes t else [], b) := by
  have hfs := fl_spec t (-1) [] (by simp)
  have e0 : (([] : List S51).length + t.size) = t.size := by simp
  rw [e0] at hfs
  have hsg : ∃ b, Ev (fun k => spec_GoodComb.f k (Flat48.flT (toL t) (-1) [])) b ∧ (b = true ↔ Good t) ∧ (b = true → Flat48.flT (toL t) (-1) [] = tnodes t) := by
    by_cases h : t.size ≤ 201
    · have e : Flat48.flT (toL t) (-1) [] = tnodes t := by rw [hfs.1 h]; rfl
      rw [e]
      obtain ⟨b, hb, hbg⟩ := specGood (tnodes t) (by rw [tnodes_len]; omega)
      refine ⟨b, hb, ?_, fun _ => rfl⟩
      by_cases h2 : t.size ≤ 200
      · rw [hbg, tells_iff t hw h2]
      · rw [hbg]
        constructor
        · rintro ⟨t', _, h3, _⟩; rw [tnodes_len] at h3; omega
        · intro h3; exact absurd h3.1 h2
    · have h1 := hfs.2 (by omega)
      have h2 := Flat48.flT_len (toL t) (-1) [] (by simp)
      obtain ⟨b, hb, hbg⟩ := specGood (Flat48.flT (toL t) (-1) []) (by omega)
      have hf : ¬ b = true := by rw [hbg]; rintro ⟨t', _, h3, _⟩; omega
      exact ⟨b, hb, ⟨fun h3 => absurd h3 hf, fun h3 => absurd h3.1 (by omega)⟩, fun h3 => absurd h3 hf⟩
  obtain ⟨bs, hbs, hgs, hes⟩ := hsg
  refine ⟨bs, hgs, ?_⟩
  unfold spec_ldTold.f
  rw [toL_eta]
  by_cases h : bs = true
  · rw [if_pos h]
    exact Ev.bind hbs (Ev.ite_pos h (Ev.of_eq (Ev.now _) (by rw [hes h, h])))
  · rw [if_neg h]
    exact Ev.bind hbs (Ev.ite_neg h (Ev.of_eq (Ev.now _) (by simpa using h)))
theorem toldI (t : Tr) (hs : t.size ≤ 4000) : ∃ b, (b = true ↔ Good t) ∧ Ev (fun k => impl_comb_goodNodes.f k (toS t).f0 (toS t).f1 (toS t).f2) (if b = true then tnodes t else [], b) := by
  obtain ⟨bi, hbi, hg⟩ := isGood_ev t hs
  refine ⟨bi, hg, ?_⟩
  unfold impl_comb_goodNodes.f
  by_cases h : bi = true
  · have hgood := hg.mp h
    rw [if_pos h, toS_eta]
    exact Ev.bind hbi (Ev.ite_pos h (Ev.ite_pos (by rw [sz_impl]; omega) (Ev.of_eq (Ev.now _) (by rw [fl_impl, h]; rfl))))
  · rw [if_neg h]
    exact Ev.bind hbi (Ev.ite_neg h (Ev.of_eq (Ev.now _) (by simpa using h)))

end Go.Proofs.YtcjhhdecckcibaaDoor.CombL

namespace Go.Proofs.YtcjhhdecckcibaaDoor.CombL
open Go.RowKit Go.Proofs.YtcjhhdecckcibaaDoor.G Go.Proofs.YtcjhhdecckcibaaDoor.EvL Go.Proofs.YtcjhhdecckcibaaDoor.TreeM Go.Proofs.YtcjhhdecckcibaaDoor.TxtL Go.Proofs.YtcjhhdecckcibaaDoor.NumL Go.Proofs.YtcjhhdecckcibaaDoor.ReadM Go.Proofs.YtcjhhdecckcibaaDoorW.PrintWords Go.Proofs.YtcjhhdecckcibaaDoorW.PrintLast
set_option linter.unusedVariables false
set_option linter.unusedSimpArgs false

theorem e40 : (⟨#[40]⟩ : ByteArray) = B [40] := rfl
theorem e32 : (⟨#[32]⟩ : ByteArray) = B [32] := rfl
theorem e41 : (⟨#[41]⟩ : ByteArray) = B [41] := rfl
theorem e120 : (⟨#[120]⟩ : ByteArray) = B [120] := rfl
theorem text_ev : ∀ (t : Tr), CForm 10000 t → (ctxt t).length ≤ 9000000 → Ev (fun k => spec_ldText.f k (toL t).f0 (toL t).f1 (toL t).f2) (B (ctxt t)) ∧ Ev (fun k => impl_comb_text.f k (toS t).f0 (toS t).f1 (toS t).f2) (B (ctxt t))
  | .leaf k n, h, hl => by
    rcases h with ⟨rfl, h0, h1⟩ | ⟨h, rfl⟩
    · have hi : strconv_Itoa_52.f n = some (B (Lib.decDigits n.toNat)) := if_pos ⟨h0, by omega⟩
      have hl' : (Lib.decDigits n.toNat).length + 1 ≤ 9000000 := hl
      have z1 : 1 + (B (Lib.decDigits n.toNat)).size ≤ 9223372036854775807 := by rw [B_size]; omega
      have e : (⟨#[120]⟩ : ByteArray) ++ B (Lib.decDigits n.toNat) = B (ctxt (.leaf 1 n)) := by rw [e120, B_append]; rfl
      refine ⟨Ev.step (f := fun m => (spec_l1Num.f m n).bind fun t102 => if 1 + t102.size ≤ 9223372036854775807 then some ((⟨#[120]⟩ : ByteArray) ++ t102) else none) (fun m => ?_) (Ev.bind (num_B n h0 (by omega)) (Ev.ite_pos z1 (Ev.of_eq (Ev.now _) e))), Ev.step (f := fun _ => some (B (ctxt (.leaf 1 n)))) (fun m => ?_) (Ev.now _)⟩
      · show spec_ldText.f (m + 1) 1 n [] = _
        rw [spec_ldText.f, if_pos rfl]
      · show impl_comb_text.f (m + 1) 1 n [] = _
        rw [impl_comb_text.f, if_pos rfl, hi, Option.bind_some, if_pos z1, e]
    · have rest : ∀ (c : ByteArray), c = B (ctxt (.leaf k 0)) → (k = 3 ∧ c = ⟨#[83]⟩ ∨ k = 4 ∧ c = ⟨#[75]⟩ ∨ k = 5 ∧ c = ⟨#[73]⟩) → Ev (fun m => spec_ldText.f m (toL (.leaf k 0)).f0 (toL (.leaf k 0)).f1 (toL (.leaf k 0)).f2) (B (ctxt (.leaf k 0))) ∧ Ev (fun m => impl_comb_text.f m (toS (.leaf k 0)).f0 (toS (.leaf k 0)).f1 (toS (.leaf k 0)).f2) (B (ctxt (.leaf k 0))) := by
        intro c e hc
        rw [← e]
        refine ⟨Ev.step (f := fun _ => some c) (fun m => ?_) (Ev.now _), Ev.step (f := fun _ => some c) (fun m => ?_) (Ev.now _)⟩
        · show spec_ldText.f (m + 1) k 0 [] = _
          simp only [spec_ldText.f]
          clear e
          rcases hc with ⟨rfl, rfl⟩ | ⟨rfl, rfl⟩ | ⟨rfl, rfl⟩ <;> simp
        · show impl_comb_text.f (m + 1) k 0 [] = _
          simp only [impl_comb_text.f]
          clear e
          rcases hc with ⟨rfl, rfl⟩ | ⟨rfl, rfl⟩ | ⟨rfl, rfl⟩ <;> simp
      rcases h with rfl | rfl | rfl
      · exact rest ⟨#[83]⟩ rfl (.inl ⟨rfl, rfl⟩)
      · exact rest ⟨#[75]⟩ rfl (.inr (.inl ⟨rfl, rfl⟩))
      · exact rest ⟨#[73]⟩ rfl (.inr (.inr ⟨rfl, rfl⟩))
  | .un _ _ _, h, _ => h.elim
  | .bin k n a b, h, hl => by
    obtain ⟨rfl, rfl, ha, hb⟩ := h
    have hl' : (ctxt a).length + (ctxt b).length + 3 ≤ 9000000 := by simp only [ctxt, List.length_cons, List.length_append, List.length_nil] at hl; omega
    obtain ⟨sE, iE⟩ := text_ev a ha (by omega)
    obtain ⟨sF, iF⟩ := text_ev b hb (by omega)
    have z1 : 1 + (B (ctxt a)).size ≤ 9223372036854775807 := by rw [B_size]; omega
    have q2 : (⟨#[40]⟩ : ByteArray) ++ B (ctxt a) = B (40 :: ctxt a) := by rw [e40, B_append]; rfl
    have z2 : (B (40 :: ctxt a)).size + 1 ≤ 9223372036854775807 := by rw [B_size, List.length_cons]; omega
    have q3 : B (40 :: ctxt a) ++ (⟨#[32]⟩ : ByteArray) = B (40 :: (ctxt a ++ [32])) := by rw [e32, B_append]; rfl
    have z3 : (B (40 :: (ctxt a ++ [32]))).size + (B (ctxt b)).size ≤ 9223372036854775807 := by rw [B_size, B_size, List.length_cons, List.length_append, List.length_singleton]; omega
    have q4 : B (40 :: (ctxt a ++ [32])) ++ B (ctxt b) = B (40 :: (ctxt a ++ [32]) ++ ctxt b) := B_append _ _
    have z4 : (B (40 :: (ctxt a ++ [32]) ++ ctxt b)).size + 1 ≤ 9223372036854775807 := by rw [B_size, List.length_append, List.length_cons, List.length_append, List.length_singleton]; omega
    have q5 : B (40 :: (ctxt a ++ [32]) ++ ctxt b) ++ (⟨#[41]⟩ : ByteArray) = B (ctxt (.bin 2 0 a b)) := by
      rw [e41, B_append]; congr 1; simp [ctxt]
    refine ⟨Ev.step (f := fun m => (spec_ldText.f m (toL a).f0 (toL a).f1 (toL a).f2).bind fun tA => (if 1 + tA.size ≤ 9223372036854775807 then (if ((⟨#[40]⟩ : ByteArray) ++ tA).size + 1 ≤ 9223372036854775807 then ((spec_ldText.f m (toL b).f0 (toL b).f1 (toL b).f2).bind fun tB => (if (((⟨#[40]⟩ : ByteArray) ++ tA) ++ (⟨#[32]⟩ : ByteArray)).size + tB.size ≤ 9223372036854775807 then (if ((((⟨#[40]⟩ : ByteArray) ++ tA) ++ (⟨#[32]⟩ : ByteArray)) ++ tB).size + 1 ≤ 9223372036854775807 then (some (((((⟨#[40]⟩ : ByteArray) ++ tA) ++ (⟨#[32]⟩ : ByteArray)) ++ tB) ++ (⟨#[41]⟩ : ByteArray))) else (none)) else (none))) else (none)) else (none))) (fun m => ?_) (Ev.bind sE (Ev.ite_pos z1 ?_)),
      Ev.step (f := fun m => (impl_comb_text.f m (toS a).f0 (toS a).f1 (toS a).f2).bind fun tA => (if 1 + tA.size ≤ 9223372036854775807 then (if ((⟨#[40]⟩ : ByteArray) ++ tA).size + 1 ≤ 9223372036854775807 then ((impl_comb_text.f m (toS b).f0 (toS b).f1 (toS b).f2).bind fun tB => (if (((⟨#[40]⟩ : ByteArray) ++ tA) ++ (⟨#[32]⟩ : ByteArray)).size + tB.size ≤ 9223372036854775807 then (if ((((⟨#[40]⟩ : ByteArray) ++ tA) ++ (⟨#[32]⟩ : ByteArray)) ++ tB).size + 1 ≤ 9223372036854775807 then (some (((((⟨#[40]⟩ : ByteArray) ++ tA) ++ (⟨#[32]⟩ : ByteArray)) ++ tB) ++ (⟨#[41]⟩ : ByteArray))) else (none)) else (none))) else (none)) else (none))) (fun m => ?_) (Ev.bind iE (Ev.ite_pos z1 ?_))⟩
    · show spec_ldText.f (m + 1) 2 0 [toL a, toL b] = _
      rw [spec_ldText.f, if_neg (by decide), if_neg (by decide), if_neg (by decide), if_neg (by decide), if_pos (show (0 : Int) < (([toL a, toL b] : List S48).length : Int) by simp)]
      simp only [if_pos (show (1 : Int) < (([toL a, toL b] : List S48).length : Int) by simp)]
      rfl
    · rw [q2]
      refine Ev.ite_pos z2 (Ev.bind sF ?_)
      rw [q3]
      refine Ev.ite_pos z3 ?_
      rw [q4]
      exact Ev.ite_pos z4 (Ev.of_eq (Ev.now _) q5)
    · show impl_comb_text.f (m + 1) 2 0 [toS a, toS b] = _
      rw [impl_comb_text.f, if_neg (by decide), if_pos rfl, if_pos (show (0 : Int) < (([toS a, toS b] : List S56).length : Int) by simp)]
      simp only [if_pos (show (1 : Int) < (([toS a, toS b] : List S56).length : Int) by simp)]
      rfl
    · rw [q2]
      refine Ev.ite_pos z2 (Ev.bind iF ?_)
      rw [q3]
      refine Ev.ite_pos z3 ?_
      rw [q4]
      exact Ev.ite_pos z4 (Ev.of_eq (Ev.now _) q5)

def outS (s : List UInt8) : Option (Tr × List UInt8) → Int × Int × List S48 × Int
  | none => (0, 0, [], 0)
  | some (t, r) => ((toL t).f0, (toL t).f1, (toL t).f2, (s.length : Int) - (r.length : Int))
theorem bt0 (c : UInt8) (s : List UInt8) : bt (B (c :: s)) 0 = (c.toNat : Int) := bt_B (c :: s) 0 (by simp)
theorem bt_ne {c b : UInt8} (h : c ≠ b) : ¬ (c.toNat : Int) = (b.toNat : Int) := fun e => h (UInt8.toNat_inj.mp (by omega))
theorem digS (s : List UInt8) (hs : s.length ≤ 2000000) : ∀ (e i n : Nat), i + e = 4 → 1 ≤ i → i ≤ s.length → (∀ j, 1 ≤ j → j < i → ∀ h : j < s.length, isD s[j]) → n = i + (digs e (s.drop i)).length → Ev (fun k => spec_ldRead.l0 k (B s) i) (if n = 1 then ((0 : Int), (0 : Int), ([] : List S48), (0 : Int)) else ((1 : Int), ((valF 0 ((s.take n).drop 1) : Nat) : Int), [], (n : Int))) := by
  have hsz : (B s).size = s.length := B_size s
  have leaf : ∀ i : Nat, 1 ≤ i → i ≤ 4 → i ≤ s.length → (∀ j, 1 ≤ j → j < i → ∀ h : j < s.length, isD s[j]) → Ev (fun k => if (i : Int) = 1 then (some ((0 : Int), (0 : Int), ([] : List S48), (0 : Int))) else (if 1 ≤ (i : Int) then (if (i : Int) ≤ (((B s).size : Nat) : Int) then ((spec_laSmall.f k ((B s).extract 1 (i : Int).toNat)).bind fun t117 => (some (1, t117, ([] : List S48), (i : Int)))) else (none)) else (none))) (if i = 1 then ((0 : Int), (0 : Int), ([] : List S48), (0 : Int)) else ((1 : Int), ((valF 0 ((s.take i).drop 1) : Nat) : Int), [], (i : Int))) := by
    intro i h1 h4 hl hD
    by_cases hi : i = 1
    · rw [if_pos hi]; exact Ev.ite_pos (by omega) (Ev.now _)
    · rw [if_neg hi]
      have ex : (B s).extract 1 (i : Int).toNat = B ((s.take i).drop 1) := by
        rw [Int.toNat_natCast]
        apply ByteArray.ext
        simp [B, List.drop_take]
      have hall : ∀ c ∈ (s.take i).drop 1, isD c := by
        intro c hc
        obtain ⟨j, hj, he⟩ := List.getElem_of_mem hc
        rw [List.length_drop, List.length_take] at hj
        rw [List.getElem_drop, List.getElem_take] at he
        rw [← he]
        exact hD (1 + j) (by omega) (by omega) (by omega)
      refine Ev.ite_neg (by omega) (Ev.ite_pos (by omega) (Ev.ite_pos (by rw [hsz]; omega) ?_))
      rw [ex]
      exact Ev.bind (small_ev _ (by rw [List.length_drop, List.length_take]; omega) hall) (Ev.now _)
  intro e
  induction e with
  | zero =>
    intro i n hi h1 hl hD hn
    have hn' : n = i := by rw [hn]; simp [digs]
    subst hn'
    by_cases c : (n : Int) < (((B s).size : Nat) : Int)
    · exact Ev.step (fun k => by rw [spec_ldRead.l0, if_pos c, if_neg (by omega)]) (leaf n h1 (by omega) hl hD)
    · exact Ev.step (fun k => by rw [spec_ldRead.l0, if_neg c]) (leaf n h1 (by omega) hl hD)
  | succ e ih =>
    intro i n hi h1 hl hD hn
    by_cases c : (i : Int) < (((B s).size : Nat) : Int)
    · have hlt : i < s.length := by rw [hsz] at c; omega
      have hbt := bt_B s i hlt
      have c0 : 0 ≤ (i : Int) := by omega
      have c2 : (i : Int) < 4 := by omega
      have hw := NumL.next i s.length hlt (by omega)
      rw [List.drop_eq_getElem_cons hlt] at hn
      by_cases hDi : isD s[i]
      · have h48 : bt (B s) (i : Int) ≥ 48 := by unfold isD at hDi; omega
        have h57 : bt (B s) (i : Int) ≤ 57 := by unfold isD at hDi; omega
        rw [digs, if_pos hDi, List.length_cons] at hn
        refine Ev.step (fun k => by rw [spec_ldRead.l0, if_pos c, if_pos c2, if_pos c0, if_pos h48, if_pos h57, hw]) (ih (i + 1) n (by omega) (by omega) (by omega) ?_ (by omega))
        intro j g1 g2 g3
        rcases Nat.lt_or_ge j i with g | g
        · exact hD j g1 g g3
        · obtain rfl : j = i := by omega
          exact hDi
      · rw [digs, if_neg hDi] at hn
        have hn' : n = i := hn
        subst hn'
        by_cases h48 : bt (B s) (n : Int) ≥ 48
        · have h57 : ¬ bt (B s) (n : Int) ≤ 57 := by unfold isD at hDi; omega
          exact Ev.step (fun k => by rw [spec_ldRead.l0, if_pos c, if_pos c2, if_pos c0, if_pos h48, if_neg h57]) (leaf n h1 (by omega) hl hD)
        · exact Ev.step (fun k => by rw [spec_ldRead.l0, if_pos c, if_pos c2, if_pos c0, if_neg h48]) (leaf n h1 (by omega) hl hD)
    · have hd : s.drop i = [] := List.drop_eq_nil_of_le (by rw [hsz] at c; omega)
      rw [hd, digs] at hn
      have hn' : n = i := hn
      subst hn'
      exact Ev.step (fun k => by rw [spec_ldRead.l0, if_neg c]) (leaf n h1 (by omega) hl hD)
theorem outS_len {d : Nat} {s : List UInt8} {t : Tr} {r : List UInt8} (h : crd 3 d s = some (t, r)) : r.length < s.length := by
  have := crd_sound 3 d s t r h
  have := t.size_pos
  omega
theorem ldRead_ev : ∀ (d : Nat) (s : List UInt8), d ≤ 60 → s.length ≤ 1048576 → Ev (fun k => spec_ldRead.f k (B s) (61 - (d : Int))) (outS s (crd 3 d s)) := by
  intro d
  induction d with
  | zero =>
    intro s hd hs
    refine Ev.step (f := fun k => spec_ldRead.j0 k (B s) (61 - ((0 : Nat) : Int)) true) (fun k => by rw [spec_ldRead.f, if_pos (by omega)]) ?_
    exact Ev.step (f := fun _ => some (0, 0, ([] : List S48), 0)) (fun k => by rw [spec_ldRead.j0, if_pos rfl]) (Ev.now _)
  | succ d ih =>
    intro s hd hs
    have hsz : (B s).size = s.length := B_size s
    have hw : wrap64 ((61 - ((d + 1 : Nat) : Int)) + 1) = 61 - (d : Int) := by rw [w64 (by omega) (by omega)]; omega
    refine Ev.step (f := fun k => spec_ldRead.j0 k (B s) (61 - ((d + 1 : Nat) : Int)) ((B s).toList == ([] : List UInt8))) (fun k => by rw [spec_ldRead.f, if_neg (by omega)]) ?_
    rw [toList_B]
    cases s with
    | nil => exact Ev.step (f := fun _ => some (0, 0, ([] : List S48), 0)) (fun k => by rw [spec_ldRead.j0, if_pos (show (([] : List UInt8) == []) = true from rfl)]) (Ev.now _)
    | cons c s =>
      have hs' : s.length + 1 ≤ 1048576 := hs
      have p0 : 0 < (((B (c :: s)).size : Nat) : Int) := by rw [hsz, List.length_cons]; omega
      have p1 : 1 ≤ (((B (c :: s)).size : Nat) : Int) := by omega
      have ex1 : (B (c :: s)).extract 1 (B (c :: s)).size = B s := by rw [ext_drop _ _ _ hsz]; rfl
      have hne : ¬ (((c :: s) == ([] : List UInt8)) = true) := by simp
      have one : ∀ (kd : Int), Ev (fun k => (spec_ldOne.f kd).bind fun bt102 => (some (bt102.1, bt102.2.1, bt102.2.2, (1 : Int)))) (outS (c :: s) (some (.leaf kd 0, s))) := fun kd => Ev.bind (Ev.now (kd, (0 : Int), ([] : List S48))) (Ev.of_eq (Ev.now _) (by
        show ((kd : Int), (0 : Int), ([] : List S48), (1 : Int)) = (kd, 0, [], (((c :: s).length : Nat) : Int) - (s.length : Int))
        rw [List.length_cons]; congr 3; omega))
      by_cases h83 : c = 83
      · have b83 : bt (B (c :: s)) 0 = 83 := by rw [bt0, h83]; rfl
        rw [crd, if_pos h83]
        exact Ev.step (fun k => by rw [spec_ldRead.j0, if_neg hne, if_pos p0, if_pos b83]) (one 3)
      have b83 : ¬ bt (B (c :: s)) 0 = 83 := by rw [bt0]; exact bt_ne h83
      by_cases h75 : c = 75
      · have b75 : bt (B (c :: s)) 0 = 75 := by rw [bt0, h75]; rfl
        rw [crd, if_neg h83, if_pos h75]
        exact Ev.step (fun k => by rw [spec_ldRead.j0, if_neg hne, if_pos p0, if_neg b83, if_pos b75]) (one 4)
      have b75 : ¬ bt (B (c :: s)) 0 = 75 := by rw [bt0]; exact bt_ne h75
      by_cases h73 : c = 73
      · have b73 : bt (B (c :: s)) 0 = 73 := by rw [bt0, h73]; rfl
        rw [crd, if_neg h83, if_neg h75, if_pos h73]
        exact Ev.step (fun k => by rw [spec_ldRead.j0, if_neg hne, if_pos p0, if_neg b83, if_neg b75, if_pos b73]) (one 5)
      have b73 : ¬ bt (B (c :: s)) 0 = 73 := by rw [bt0]; exact bt_ne h73
      by_cases h120 : c = 120
      · have b120 : bt (B (c :: s)) 0 = 120 := by rw [bt0, h120]; rfl
        have hdl := digs_len 3 s
        have hE := digS (c :: s) (by omega) 3 1 (1 + (digs 3 s).length) rfl (by omega) (by simp) (fun j g1 g2 => by omega) (by rfl)
        refine Ev.step (f := fun k => spec_ldRead.l0 k (B (c :: s)) ((1 : Nat) : Int)) (fun k => by rw [spec_ldRead.j0, if_neg hne, if_pos p0, if_neg b83, if_neg b75, if_neg b73, if_pos b120]; rfl) (Ev.of_eq hE ?_)
        rw [crd, if_neg h83, if_neg h75, if_neg h73, if_pos h120]
        by_cases hd0 : digs 3 s = []
        · rw [if_pos hd0, hd0]; rfl
        · have hpos : 0 < (digs 3 s).length := by
            cases hq : digs 3 s with
            | nil => exact absurd hq hd0
            | cons a b => simp
          have htk : ((c :: s).take (1 + (digs 3 s).length)).drop 1 = digs 3 s := by
            rw [Nat.add_comm, List.take_succ_cons, List.drop_succ_cons, List.drop_zero]
            have := digs_pre 3 s
            conv => lhs; arg 2; rw [this]
            rw [List.take_left]
          rw [if_neg hd0, if_neg (by omega), htk]
          show ((1 : Int), ((valF 0 (digs 3 s) : Nat) : Int), ([] : List S48), ((1 + (digs 3 s).length : Nat) : Int)) = (1, ((valF 0 (digs 3 s) : Nat) : Int), [], (((c :: s).length : Nat) : Int) - (((s.drop (digs 3 s).length).length : Nat) : Int))
          rw [List.length_drop, List.length_cons]
          congr 3; omega
      have b120 : ¬ bt (B (c :: s)) 0 = 120 := by rw [bt0]; exact bt_ne h120
      by_cases h40 : c = 40
      · have b40 : bt (B (c :: s)) 0 = 40 := by rw [bt0, h40]; rfl
        have hE := ih s (by omega) (by omega)
        have bad : ∀ (x0 x1 : Int) (x2 : List S48) (n : Int), Ev (fun k => spec_ldRead.j2 k (B (c :: s)) (61 - ((d + 1 : Nat) : Int)) n true x0 x1 x2) ((0 : Int), (0 : Int), ([] : List S48), (0 : Int)) := fun x0 x1 x2 n => Ev.step (f := fun _ => some (0, 0, ([] : List S48), 0)) (fun k => by rw [spec_ldRead.j2, if_pos rfl]) (Ev.now _)
        have hT : crd 3 (d + 1) (c :: s) = (crd 3 d s).bind fun p => (eat 32 p.2).bind fun r1 => (crd 3 d r1).bind fun q => (eat 41 q.2).bind fun r3 => some (.bin 2 0 p.1 q.1, r3) := by rw [crd, if_neg h83, if_neg h75, if_neg h73, if_neg h120, if_pos h40]
        have hsz' : (((B (c :: s)).size : Nat) : Int) = ((s.length + 1 : Nat) : Int) := by rw [hsz, List.length_cons]
        cases hq : crd 3 d s with
        | none =>
          rw [hq] at hE
          refine Ev.step (fun k => by rw [spec_ldRead.j0, if_neg hne, if_pos p0, if_neg b83, if_neg b75, if_neg b73, if_neg b120, if_pos b40, if_pos p1, ex1, hw]) (Ev.bind hE (Ev.ite_pos rfl (Ev.of_eq (bad _ _ _ _) ?_)))
          rw [hT, hq]; rfl
        | some p =>
          obtain ⟨t, r⟩ := p
          rw [hq] at hE
          have hlen := outS_len hq
          have hw1 : wrap64 (((s.length - r.length : Nat) : Int) + 1) = ((s.length - r.length + 1 : Nat) : Int) := by rw [w64 (by omega) (by omega)]; omega
          have hE' : Ev (fun k => spec_ldRead.f k (B s) (61 - (d : Int))) ((toL t).f0, (toL t).f1, (toL t).f2, ((s.length - r.length : Nat) : Int)) := Ev.of_eq hE (by
            show ((toL t).f0, (toL t).f1, (toL t).f2, (s.length : Int) - (r.length : Int)) = _
            congr 3; omega)
          have hsuf := crd_suffix 3 d s t r hq
          refine Ev.step (fun k => by rw [spec_ldRead.j0, if_neg hne, if_pos p0, if_neg b83, if_neg b75, if_neg b73, if_neg b120, if_pos b40, if_pos p1, ex1, hw]) (Ev.bind hE' (Ev.ite_neg (show ¬ ((s.length - r.length : Nat) : Int) = 0 by omega) ?_))
          cases r with
          | nil =>
            exact Ev.ite_pos (show wrap64 (((s.length - ([] : List UInt8).length : Nat) : Int) + 1) ≥ (((B (c :: s)).size : Nat) : Int) by rw [hw1, hsz', List.length_nil]; omega) (Ev.of_eq (bad _ _ _ _) (by rw [hT, hq]; rfl))
          | cons y r1 =>
            have hlr : (y :: r1).length = r1.length + 1 := rfl
            have hbt : bt (B (c :: s)) ((s.length - (y :: r1).length + 1 : Nat) : Int) = (y.toNat : Int) := by
              rw [bt_B _ _ (by rw [List.length_cons]; omega)]
              have : (c :: s)[s.length - (y :: r1).length + 1]'(by rw [List.length_cons]; omega) = y := by
                rw [List.getElem_cons_succ]
                exact suffix_get hsuf _
              rw [this]
            refine Ev.ite_neg (show ¬ wrap64 (((s.length - (y :: r1).length : Nat) : Int) + 1) ≥ (((B (c :: s)).size : Nat) : Int) by rw [hw1, hsz']; omega) (Ev.ite_pos (show 0 ≤ wrap64 (((s.length - (y :: r1).length : Nat) : Int) + 1) by rw [hw1]; omega) (Ev.ite_pos (show wrap64 (((s.length - (y :: r1).length : Nat) : Int) + 1) < (((B (c :: s)).size : Nat) : Int) by rw [hw1, hsz']; omega) ?_))
            show Ev (fun k => spec_ldRead.j2 k (B (c :: s)) (61 - ((d + 1 : Nat) : Int)) ((s.length - (y :: r1).length : Nat) : Int) (bt (B (c :: s)) (wrap64 (((s.length - (y :: r1).length : Nat) : Int) + 1)) != 32) (toL t).f0 (toL t).f1 (toL t).f2) _
            rw [hw1, hbt]
            by_cases h32 : y = 32
            · subst h32
              have e1 : (((32 : UInt8).toNat : Int) != 32) = false := rfl
              rw [e1]
              have hT2 : crd 3 (d + 1) (c :: s) = (crd 3 d r1).bind fun q => (eat 41 q.2).bind fun r3 => some (.bin 2 0 t q.1, r3) := by rw [hT, hq, Option.bind_some, eat_cons, Option.bind_some]
              have hw2 : wrap64 (((s.length - (32 :: r1 : List UInt8).length : Nat) : Int) + 2) = ((s.length - r1.length + 1 : Nat) : Int) := by rw [w64 (by omega) (by omega)]; omega
              have ex2 : (B (c :: s)).extract (s.length - r1.length + 1) (B (c :: s)).size = B r1 := by
                rw [ext_drop _ _ _ hsz]
                congr 1
                rw [List.drop_succ_cons]
                exact suffix_drop hsuf
              have hF := ih r1 (by omega) (by omega)
              have g1 : 0 ≤ ((s.length - r1.length + 1 : Nat) : Int) := by omega
              have g2 : ((s.length - r1.length + 1 : Nat) : Int) ≤ (((B (c :: s)).size : Nat) : Int) := by rw [hsz']; omega
              cases hq2 : crd 3 d r1 with
              | none =>
                rw [hq2] at hF
                refine Ev.step (fun k => by rw [spec_ldRead.j2, if_neg (by decide), hw2, if_pos g1, if_pos g2, Int.toNat_natCast, ex2, hw]) (Ev.bind hF (Ev.ite_pos rfl (Ev.of_eq (Ev.now _) ?_)))
                rw [hT2, hq2]; rfl
              | some p2 =>
                obtain ⟨u, r2⟩ := p2
                rw [hq2] at hF
                have hlen2 := outS_len hq2
                have hsuf2 := crd_suffix 3 d r1 u r2 hq2
                have hw3 : wrap64 (((s.length - r1.length + 1 : Nat) : Int) + ((r1.length - r2.length : Nat) : Int)) = ((s.length - r2.length + 1 : Nat) : Int) := by rw [w64 (by omega) (by omega)]; omega
                have hF' : Ev (fun k => spec_ldRead.f k (B r1) (61 - (d : Int))) ((toL u).f0, (toL u).f1, (toL u).f2, ((r1.length - r2.length : Nat) : Int)) := Ev.of_eq hF (by
                  show ((toL u).f0, (toL u).f1, (toL u).f2, (r1.length : Int) - (r2.length : Int)) = _
                  congr 3; omega)
                refine Ev.step (fun k => by rw [spec_ldRead.j2, if_neg (by decide), hw2, if_pos g1, if_pos g2, Int.toNat_natCast, ex2, hw]) (Ev.bind hF' (Ev.ite_neg (show ¬ ((r1.length - r2.length : Nat) : Int) = 0 by omega) ?_))
                cases r2 with
                | nil =>
                  exact Ev.ite_pos (show wrap64 (((s.length - r1.length + 1 : Nat) : Int) + ((r1.length - ([] : List UInt8).length : Nat) : Int)) ≥ (((B (c :: s)).size : Nat) : Int) by rw [hw3, hsz', List.length_nil]; omega) (Ev.of_eq (Ev.now _) (by rw [hT2, hq2]; rfl))
                | cons y2 r3 =>
                  have hlr2 : (y2 :: r3).length = r3.length + 1 := rfl
                  have hbt2 : bt (B (c :: s)) ((s.length - (y2 :: r3).length + 1 : Nat) : Int) = (y2.toNat : Int) := by
                    rw [bt_B _ _ (by rw [List.length_cons]; omega)]
                    have : (c :: s)[s.length - (y2 :: r3).length + 1]'(by rw [List.length_cons]; omega) = y2 := by
                      rw [List.getElem_cons_succ]
                      exact suffix_get (hsuf2.trans ((List.suffix_cons _ _).trans hsuf)) _
                    rw [this]
                  refine Ev.ite_neg (show ¬ wrap64 (((s.length - r1.length + 1 : Nat) : Int) + ((r1.length - (y2 :: r3).length : Nat) : Int)) ≥ (((B (c :: s)).size : Nat) : Int) by rw [hw3, hsz']; omega) (Ev.ite_pos (show 0 ≤ wrap64 (((s.length - r1.length + 1 : Nat) : Int) + ((r1.length - (y2 :: r3).length : Nat) : Int)) by rw [hw3]; omega) (Ev.ite_pos (show wrap64 (((s.length - r1.length + 1 : Nat) : Int) + ((r1.length - (y2 :: r3).length : Nat) : Int)) < (((B (c :: s)).size : Nat) : Int) by rw [hw3, hsz']; omega) ?_))
                  by_cases h41 : y2 = 41
                  · subst h41
                    refine Ev.ite_pos (show bt (B (c :: s)) (wrap64 (((s.length - r1.length + 1 : Nat) : Int) + ((r1.length - (41 :: r3 : List UInt8).length : Nat) : Int))) = 41 by rw [hw3, hbt2]; rfl) (Ev.of_eq (Ev.now _) ?_)
                    rw [hT2, hq2, Option.bind_some, eat_cons]
                    show ((2 : Int), (0 : Int), [(⟨(toL t).f0, (toL t).f1, (toL t).f2⟩ : S48), (⟨(toL u).f0, (toL u).f1, (toL u).f2⟩ : S48)], wrap64 (wrap64 (((s.length - r1.length + 1 : Nat) : Int) + ((r1.length - (41 :: r3 : List UInt8).length : Nat) : Int)) + 1)) = (2, 0, [toL t, toL u], (((c :: s).length : Nat) : Int) - (r3.length : Int))
                    rw [toL_eta, toL_eta, hw3, w64 (by omega) (by omega), List.length_cons]
                    congr 3; omega
                  · refine Ev.ite_neg (show ¬ bt (B (c :: s)) (wrap64 (((s.length - r1.length + 1 : Nat) : Int) + ((r1.length - (y2 :: r3).length : Nat) : Int))) = 41 by rw [hw3, hbt2]; exact bt_ne h41) (Ev.of_eq (Ev.now _) ?_)
                    have : eat 41 (y2 :: r3) = none := if_neg h41
                    rw [hT2, hq2, Option.bind_some, this]; rfl
            · have e1 : ((y.toNat : Int) != 32) = true := by
                rw [bne_iff_ne]; exact bt_ne h32
              have e2 : eat 32 (y :: r1) = none := if_neg h32
              rw [e1]
              exact Ev.of_eq (bad _ _ _ _) (by rw [hT, hq, Option.bind_some, e2]; rfl)
      · have b40 : ¬ bt (B (c :: s)) 0 = 40 := by rw [bt0]; exact bt_ne h40
        rw [crd, if_neg h83, if_neg h75, if_neg h73, if_neg h120, if_neg h40]
        exact Ev.step (f := fun _ => some ((0 : Int), (0 : Int), ([] : List S48), (0 : Int))) (fun k => by rw [spec_ldRead.j0, if_neg hne, if_pos p0, if_neg b83, if_neg b75, if_neg b73, if_neg b120, if_neg b40]) (Ev.now _)

theorem atoi_f (a : List UInt8) (h : a.length ≤ 2000000) : strconv_Atoi_63.f (B a) = some (atoiNum (B a), atoiErr (B a)) := if_pos (by rw [B_size]; omega)
theorem atoi_ds (ds : List UInt8) (h1 : ∀ c ∈ ds, isD c) (h2 : ds ≠ []) (hl : ds.length ≤ 10) : atoiNum (B ds) = ((valF 0 ds : Nat) : Int) ∧ atoiErr (B ds) = none := by
  have hv := val_le 10 ds h1 hl
  have ha := atoi_digits ds h1 h2 (Nat.le_trans (Nat.le_of_lt hv) (by decide))
  unfold atoiNum atoiErr
  rw [B_list, ha]
  exact ⟨rfl, rfl⟩
theorem digI (s : List UInt8) (hs : s.length ≤ 2000000) (hs1 : 1 ≤ s.length) : ∀ (e i n : Nat), i + e = 5 → 1 ≤ i → i ≤ s.length → n = i + (digs e (s.drop i)).length → Ev (fun k => impl_combRead.l0 k (B s) i) ((1 : Int), atoiNum (B ((s.take n).drop 1)), ([] : List S56), B (s.drop n), if (atoiErr (B ((s.take n).drop 1))).isNone = true then (bt (B s) 0 == 120) else false) := by
  have hsz : (B s).size = s.length := B_size s
  have hv : ∀ x : Int, impl_combVar.f x = some (1, x, []) := fun x => rfl
  have p0 : 0 < (((B s).size : Nat) : Int) := by rw [hsz]; omega
  have ex : ∀ i : Nat, (B s).extract 1 (i : Int).toNat = B ((s.take i).drop 1) := by
    intro i
    rw [Int.toNat_natCast]
    apply ByteArray.ext
    simp [B, List.drop_take]
  have leaf : ∀ i : Nat, 1 ≤ i → i ≤ s.length → (if 1 ≤ (i : Int) then (if (i : Int) ≤ (((B s).size : Nat) : Int) then ((strconv_Atoi_63.f ((B s).extract 1 (i : Int).toNat)).bind fun bt142 => ((impl_combVar.f bt142.1).bind fun bt144 => (if bt142.2.isNone = true then (if 0 < (((B s).size : Nat) : Int) then (some (bt144.1, bt144.2.1, bt144.2.2, (B s).extract (i : Int).toNat (B s).size, ((bt (B s) 0) == 120))) else (none)) else (some (bt144.1, bt144.2.1, bt144.2.2, (B s).extract (i : Int).toNat (B s).size, false))))) else (none)) else (none)) = some ((1 : Int), atoiNum (B ((s.take i).drop 1)), ([] : List S56), B (s.drop i), if (atoiErr (B ((s.take i).drop 1))).isNone = true then (bt (B s) 0 == 120) else false) := by
    intro i h1 hi
    rw [if_pos (by omega), if_pos (by rw [hsz]; omega), ex, Int.toNat_natCast, ext_drop _ _ _ hsz, atoi_f _ (by rw [List.length_drop, List.length_take]; omega), Option.bind_some, hv, Option.bind_some]
    by_cases hN : (atoiErr (B ((s.take i).drop 1))).isNone = true
    · rw [if_pos hN, if_pos p0, if_pos hN]
    · rw [if_neg hN, if_neg hN]
  have leaf2 : ∀ i : Nat, 1 ≤ i → i ≤ s.length → (if 1 ≤ (i : Int) then (if (i : Int) ≤ (((B s).size : Nat) : Int) then ((strconv_Atoi_63.f ((B s).extract 1 (i : Int).toNat)).bind fun bt142 => ((impl_combVar.f bt142.1).bind fun bt144 => (if 0 ≤ (i : Int) then (if bt142.2.isNone = true then (if 0 < (((B s).size : Nat) : Int) then (some (bt144.1, bt144.2.1, bt144.2.2, (B s).extract (i : Int).toNat (B s).size, ((bt (B s) 0) == 120))) else (none)) else (some (bt144.1, bt144.2.1, bt144.2.2, (B s).extract (i : Int).toNat (B s).size, false))) else (none)))) else (none)) else (none)) = some ((1 : Int), atoiNum (B ((s.take i).drop 1)), ([] : List S56), B (s.drop i), if (atoiErr (B ((s.take i).drop 1))).isNone = true then (bt (B s) 0 == 120) else false) := by
    intro i h1 hi
    rw [if_pos (by omega), if_pos (by rw [hsz]; omega), ex, Int.toNat_natCast, ext_drop _ _ _ hsz, atoi_f _ (by rw [List.length_drop, List.length_take]; omega), Option.bind_some, hv, Option.bind_some, if_pos (by omega)]
    by_cases hN : (atoiErr (B ((s.take i).drop 1))).isNone = true
    · rw [if_pos hN, if_pos p0, if_pos hN]
    · rw [if_neg hN, if_neg hN]
  intro e
  induction e with
  | zero =>
    intro i n hi h1 hl hn
    have hn' : n = i := by rw [hn]; simp [digs]
    subst hn'
    refine Ev.step (f := fun _ => some ((1 : Int), atoiNum (B ((s.take n).drop 1)), ([] : List S56), B (s.drop n), if (atoiErr (B ((s.take n).drop 1))).isNone = true then (bt (B s) 0 == 120) else false)) (fun k => ?_) (Ev.now _)
    by_cases c : (n : Int) < (((B s).size : Nat) : Int)
    · rw [impl_combRead.l0, if_pos c, if_neg (by omega), leaf2 n h1 hl]
    · rw [impl_combRead.l0, if_neg c, leaf2 n h1 hl]
  | succ e ih =>
    intro i n hi h1 hl hn
    by_cases c : (i : Int) < (((B s).size : Nat) : Int)
    · have hlt : i < s.length := by rw [hsz] at c; omega
      have hbt := bt_B s i hlt
      have c0 : 0 ≤ (i : Int) := by omega
      have c2 : (i : Int) < 5 := by omega
      have hw := NumL.next i s.length hlt (by omega)
      rw [List.drop_eq_getElem_cons hlt] at hn
      by_cases hD : isD s[i]
      · have h48 : bt (B s) (i : Int) ≥ 48 := by unfold isD at hD; omega
        have h57 : bt (B s) (i : Int) ≤ 57 := by unfold isD at hD; omega
        rw [digs, if_pos hD, List.length_cons] at hn
        exact Ev.step (fun k => by rw [impl_combRead.l0, if_pos c, if_pos c2, if_pos c0, if_pos h48, if_pos h57, hw]) (ih (i + 1) n (by omega) (by omega) (by omega) (by omega))
      · rw [digs, if_neg hD] at hn
        have hn' : n = i := hn
        subst hn'
        refine Ev.step (f := fun _ => some ((1 : Int), atoiNum (B ((s.take n).drop 1)), ([] : List S56), B (s.drop n), if (atoiErr (B ((s.take n).drop 1))).isNone = true then (bt (B s) 0 == 120) else false)) (fun k => ?_) (Ev.now _)
        by_cases h48 : bt (B s) (n : Int) ≥ 48
        · have h57 : ¬ bt (B s) (n : Int) ≤ 57 := by unfold isD at hD; omega
          rw [impl_combRead.l0, if_pos c, if_pos c2, if_pos c0, if_pos h48, if_neg h57, leaf n h1 hl]
        · rw [impl_combRead.l0, if_pos c, if_pos c2, if_pos c0, if_neg h48, leaf n h1 hl]
    · have hd : s.drop i = [] := List.drop_eq_nil_of_le (by rw [hsz] at c; omega)
      rw [hd, digs] at hn
      have hn' : n = i := hn
      subst hn'
      refine Ev.step (f := fun _ => some ((1 : Int), atoiNum (B ((s.take n).drop 1)), ([] : List S56), B (s.drop n), if (atoiErr (B ((s.take n).drop 1))).isNone = true then (bt (B s) 0 == 120) else false)) (fun k => ?_) (Ev.now _)
      rw [impl_combRead.l0, if_neg c, leaf2 n h1 hl]
theorem cutp (x : UInt8) (r : List UInt8) : strings_CutPrefix.f (B r) (B [x]) = some (B ((eat x r).getD r), (eat x r).isSome) := by
  unfold strings_CutPrefix.f
  rw [B_list, B_list]
  show some (B (Lib.trimPrefix r [x]), Lib.hasPrefix r [x]) = _
  rw [(trim_eat x r).1, (trim_eat x r).2]
theorem getD_len (x : UInt8) (r : List UInt8) : ((eat x r).getD r).length ≤ r.length := by
  cases h : eat x r with
  | none => exact Nat.le_refl _
  | some r' => rw [eat_some h]; simp
def OutI (o : Option (Tr × List UInt8)) (x : S56) (r : List UInt8) (b : Bool) : Prop := (o = none ∧ b = false) ∨ (∃ t, o = some (t, r) ∧ x = toS t ∧ b = true)
theorem combRead_ev : ∀ (d : Nat) (s : List UInt8), d ≤ 60 → s.length ≤ 1048576 → ∃ (x : S56) (r : List UInt8) (b : Bool), r.length ≤ s.length ∧ Ev (fun k => impl_combRead.f k (B s) (61 - (d : Int))) (x.f0, x.f1, x.f2, B r, b) ∧ OutI (crd 4 d s) x r b := by
  intro d
  have bad : ∀ (s : ByteArray) (a : Int), Ev (fun k => impl_combRead.j0 k s a true) ((0 : Int), (0 : Int), ([] : List S56), B [], false) := fun s a => Ev.step (f := fun _ => some (0, 0, ([] : List S56), (⟨#[]⟩ : ByteArray), false)) (fun k => by rw [impl_combRead.j0, if_pos rfl]) (Ev.now _)
  induction d with
  | zero =>
    intro s hd hs
    refine ⟨⟨0, 0, []⟩, [], false, Nat.zero_le _, ?_, .inl ⟨rfl, rfl⟩⟩
    by_cases hn : (B s).toList = []
    · exact Ev.step (fun k => by rw [impl_combRead.f, if_pos hn]) (bad _ _)
    · have hg : decide ((61 - ((0 : Nat) : Int)) > 60) = true := by decide
      exact Ev.step (fun k => by rw [impl_combRead.f, if_neg hn, hg]) (bad _ _)
  | succ d ih =>
    intro s hd hs
    have hsz : (B s).size = s.length := B_size s
    have hw : wrap64 ((61 - ((d + 1 : Nat) : Int)) + 1) = 61 - (d : Int) := by rw [w64 (by omega) (by omega)]; omega
    cases s with
    | nil =>
      refine ⟨⟨0, 0, []⟩, [], false, Nat.zero_le _, ?_, .inl ⟨rfl, rfl⟩⟩
      exact Ev.step (fun k => by rw [impl_combRead.f, if_pos (show (B ([] : List UInt8)).toList = [] from toList_B [])]) (bad _ _)
    | cons c s =>
      have hs' : s.length + 1 ≤ 1048576 := hs
      have hn : ¬ (B (c :: s)).toList = [] := by rw [toList_B]; simp
      have hg : decide ((61 - ((d + 1 : Nat) : Int)) > 60) = false := decide_eq_false (by omega)
      have p0 : 0 < (((B (c :: s)).size : Nat) : Int) := by rw [hsz, List.length_cons]; omega
      have p1 : 1 ≤ (((B (c :: s)).size : Nat) : Int) := by omega
      have ex1 : (B (c :: s)).extract 1 (B (c :: s)).size = B s := by rw [ext_drop _ _ _ hsz]; rfl
      have start : ∀ {r : Int × Int × List S56 × ByteArray × Bool}, Ev (fun k => impl_combRead.j0 k (B (c :: s)) (61 - ((d + 1 : Nat) : Int)) false) r → Ev (fun k => impl_combRead.f k (B (c :: s)) (61 - ((d + 1 : Nat) : Int))) r := fun h => Ev.step (fun k => by rw [impl_combRead.f, if_neg hn, hg]) h
      have one : ∀ (kd : Int), Ev (fun k => (impl_combOf.f kd).bind fun bt102 => (if 1 ≤ (((B (c :: s)).size : Nat) : Int) then (some (bt102.1, bt102.2.1, bt102.2.2, (B (c :: s)).extract 1 (B (c :: s)).size, true)) else (none))) (kd, 0, ([] : List S56), B s, true) := fun kd => Ev.bind (Ev.now (kd, (0 : Int), ([] : List S56))) (Ev.ite_pos p1 (Ev.of_eq (Ev.now _) (by rw [ex1])))
      by_cases h83 : c = 83
      · have b83 : bt (B (c :: s)) 0 = 83 := by rw [bt0, h83]; rfl
        exact ⟨⟨3, 0, []⟩, s, true, by rw [List.length_cons]; omega, start (Ev.step (fun k => by rw [impl_combRead.j0, if_neg (by decide), if_pos p0, if_pos b83]) (one 3)), .inr ⟨.leaf 3 0, by rw [crd, if_pos h83], rfl, rfl⟩⟩
      have b83 : ¬ bt (B (c :: s)) 0 = 83 := by rw [bt0]; exact bt_ne h83
      by_cases h75 : c = 75
      · have b75 : bt (B (c :: s)) 0 = 75 := by rw [bt0, h75]; rfl
        exact ⟨⟨4, 0, []⟩, s, true, by rw [List.length_cons]; omega, start (Ev.step (fun k => by rw [impl_combRead.j0, if_neg (by decide), if_pos p0, if_neg b83, if_pos b75]) (one 4)), .inr ⟨.leaf 4 0, by rw [crd, if_neg h83, if_pos h75], rfl, rfl⟩⟩
      have b75 : ¬ bt (B (c :: s)) 0 = 75 := by rw [bt0]; exact bt_ne h75
      by_cases h73 : c = 73
      · have b73 : bt (B (c :: s)) 0 = 73 := by rw [bt0, h73]; rfl
        exact ⟨⟨5, 0, []⟩, s, true, by rw [List.length_cons]; omega, start (Ev.step (fun k => by rw [impl_combRead.j0, if_neg (by decide), if_pos p0, if_neg b83, if_neg b75, if_pos b73]) (one 5)), .inr ⟨.leaf 5 0, by rw [crd, if_neg h83, if_neg h75, if_pos h73], rfl, rfl⟩⟩
      have b73 : ¬ bt (B (c :: s)) 0 = 73 := by rw [bt0]; exact bt_ne h73
      by_cases h40 : c = 40
      · have b40 : bt (B (c :: s)) 0 = 40 := by rw [bt0, h40]; rfl
        obtain ⟨x, r, b, hr, hE, hO⟩ := ih s (by omega) (by omega)
        have hl1 := getD_len 32 r
        obtain ⟨y, r2, b2, hr2, hE2, hO2⟩ := ih ((eat 32 r).getD r) (by omega) (by omega)
        have hl2 := getD_len 41 r2
        refine ⟨⟨2, 0, [x, y]⟩, (eat 41 r2).getD r2, b && (eat 32 r).isSome && b2 && (eat 41 r2).isSome, by rw [List.length_cons]; omega, start (Ev.step (fun k => by rw [impl_combRead.j0, if_neg (by decide), if_pos p0, if_neg b83, if_neg b75, if_neg b73, if_pos b40, if_pos p1, ex1, hw]) (Ev.bind hE ?_)), ?_⟩
        · refine Ev.bind (Ev.const (cutp 32 r)) (Ev.bind hE2 (Ev.bind (Ev.const (cutp 41 r2)) (Ev.bind (Ev.now ((2 : Int), (0 : Int), [(⟨x.f0, x.f1, x.f2⟩ : S56), (⟨y.f0, y.f1, y.f2⟩ : S56)])) ?_)))
          have ex : ([(⟨x.f0, x.f1, x.f2⟩ : S56), (⟨y.f0, y.f1, y.f2⟩ : S56)] : List S56) = [x, y] := by cases x; cases y; rfl
          rw [ex]
          cases b with
          | false => exact Ev.ite_neg Bool.false_ne_true (Ev.now _)
          | true =>
            refine Ev.ite_pos rfl ?_
            cases hs1 : (eat 32 r).isSome with
            | false => exact Ev.ite_neg Bool.false_ne_true (Ev.now _)
            | true =>
              refine Ev.ite_pos rfl ?_
              cases b2 with
              | false => exact Ev.ite_neg Bool.false_ne_true (Ev.now _)
              | true => exact Ev.ite_pos rfl (Ev.now _)
        · rw [crd, if_neg h83, if_neg h75, if_neg h73, if_neg (show ¬ c = 120 by rw [h40]; decide), if_pos h40]
          rcases hO with ⟨h1, h2⟩ | ⟨t, h1, h2, h3⟩
          · rw [h1, h2]; exact .inl ⟨rfl, rfl⟩
          rw [h1, h3, Option.bind_some]
          cases he : eat 32 r with
          | none => exact .inl ⟨rfl, rfl⟩
          | some r1 =>
            rw [he] at hO2
            rw [Option.bind_some]
            rcases hO2 with ⟨g1, g2⟩ | ⟨u, g1, g2, g3⟩
            · rw [show crd 4 d r1 = none from g1, g2]; exact .inl ⟨rfl, rfl⟩
            rw [show crd 4 d r1 = some (u, r2) from g1, g3, Option.bind_some]
            cases he2 : eat 41 r2 with
            | none => exact .inl ⟨rfl, rfl⟩
            | some r3 => exact .inr ⟨.bin 2 0 t u, rfl, by rw [h2, g2]; rfl, rfl⟩
      · have b40 : ¬ bt (B (c :: s)) 0 = 40 := by rw [bt0]; exact bt_ne h40
        have hdl := digs_len 4 s
        have hE := digI (c :: s) (by omega) (by simp) 4 1 (1 + (digs 4 s).length) rfl (by omega) (by simp) (by rfl)
        have htk : ((c :: s).take (1 + (digs 4 s).length)).drop 1 = digs 4 s := by
          rw [Nat.add_comm, List.take_succ_cons, List.drop_succ_cons, List.drop_zero]
          have := digs_pre 4 s
          conv => lhs; arg 2; rw [this]
          rw [List.take_left]
        have hdr : (c :: s).drop (1 + (digs 4 s).length) = s.drop (digs 4 s).length := by rw [Nat.add_comm, List.drop_succ_cons]
        rw [htk, hdr] at hE
        refine ⟨⟨1, atoiNum (B (digs 4 s)), []⟩, s.drop (digs 4 s).length, if (atoiErr (B (digs 4 s))).isNone = true then (bt (B (c :: s)) 0 == 120) else false, by rw [List.length_drop, List.length_cons]; omega, start (Ev.step (f := fun k => impl_combRead.l0 k (B (c :: s)) ((1 : Nat) : Int)) (fun k => by rw [impl_combRead.j0, if_neg (by decide), if_pos p0, if_neg b83, if_neg b75, if_neg b73, if_neg b40]; rfl) hE), ?_⟩
        by_cases h120 : c = 120
        · have b120 : (bt (B (c :: s)) 0 == 120) = true := by rw [bt0, h120]; rfl
          rw [b120, crd, if_neg h83, if_neg h75, if_neg h73, if_pos h120]
          by_cases hd0 : digs 4 s = []
          · rw [if_pos hd0, hd0]; exact .inl ⟨rfl, rfl⟩
          · rw [if_neg hd0]
            obtain ⟨q1, q2⟩ := atoi_ds _ (digs_all 4 s) hd0 (by omega)
            rw [q1, q2]
            exact .inr ⟨_, rfl, rfl, rfl⟩
        · have b120 : (bt (B (c :: s)) 0 == 120) = false := by rw [bt0, beq_eq_false_iff_ne]; exact bt_ne h120
          rw [b120, crd, if_neg h83, if_neg h75, if_neg h73, if_neg h120, if_neg h40]
          exact .inl ⟨rfl, by simp⟩

theorem form_mono {m m' : Nat} (h : m ≤ m') : ∀ {t : Tr}, CForm m t → CForm m' t
  | .leaf _ _, ht => by
    rcases ht with ⟨h1, h2, h3⟩ | ht
    · exact .inl ⟨h1, h2, by omega⟩
    · exact .inr ht
  | .un _ _ _, ht => ht.elim
  | .bin _ _ _ _, ht => ⟨ht.1, ht.2.1, form_mono h ht.2.2.1, form_mono h ht.2.2.2⟩
theorem form_wf {m : Nat} : ∀ {t : Tr}, CForm m t → t.wf ar
  | .leaf _ _, ht => by
    rcases ht with ⟨rfl, _⟩ | ⟨h, _⟩
    · exact ⟨⟨by decide, by decide⟩, rfl⟩
    · rcases h with rfl | rfl | rfl <;> exact ⟨⟨by decide, by decide⟩, rfl⟩
  | .un _ _ _, ht => ht.elim
  | .bin _ _ _ _, ht => by obtain ⟨rfl, _, h1, h2⟩ := ht; exact ⟨⟨⟨by decide, by decide⟩, rfl⟩, form_wf h1, form_wf h2⟩
theorem form_of {t : Tr} {m : Nat} (hf : CForm m t) : t.all numOk → CForm 1000 t := by
  induction t with
  | leaf k n =>
    intro h
    rcases hf with ⟨h1, h2, h3⟩ | hf
    · exact .inl ⟨h1, h2, by have := h.2.1; omega⟩
    · exact .inr hf
  | un k n a ih => exact hf.elim
  | bin k n a b iha ihb => intro h; exact ⟨hf.1, hf.2.1, iha hf.2.2.1 h.2.1, ihb hf.2.2.2 h.2.2⟩
theorem specRead (s : List UInt8) (h : s.length ≤ 1048576) : (∃ t, CForm 1000 t ∧ Good t ∧ s = ctxt t ∧ Ev (fun k => spec_ReadComb.f k (B s)) (tnodes t, true)) ∨ ((¬ ∃ t, CForm 1000 t ∧ Good t ∧ s = ctxt t) ∧ Ev (fun k => spec_ReadComb.f k (B s)) (([] : List S51), false)) := by
  have hE := ldRead_ev 60 s (by omega) h
  have hE1 : Ev (fun k => spec_ldRead.f k (B s) 1) (outS s (crd 3 60 s)) := hE
  have hsz : (B s).size = s.length := B_size s
  have back : ∀ t, CForm 1000 t → Good t → s = ctxt t → crd 3 60 s = some (t, []) := fun t h1 h2 h3 => by
    have := crd_text 3 (by omega) t 60 [] h1 h2.2.1 noD_nil
    rwa [List.append_nil, ← h3] at this
  unfold spec_ReadComb.f
  cases hq : crd 3 60 s with
  | none =>
    rw [hq] at hE1
    refine .inr ⟨?_, Ev.bind hE1 (Ev.ite_pos rfl (Ev.now _))⟩
    rintro ⟨t, h1, h2, h3⟩
    rw [back t h1 h2 h3] at hq; cases hq
  | some p =>
    obtain ⟨t, r⟩ := p
    rw [hq] at hE1
    have hlen := outS_len hq
    obtain ⟨f1, f2, f3, f4⟩ := crd_sound 3 60 s t r hq
    have nz : ¬ ((s.length : Int) - (r.length : Int)) = 0 := by omega
    cases r with
    | cons y r =>
      refine .inr ⟨?_, Ev.bind hE1 (Ev.ite_neg nz (Ev.ite_neg (show ¬ ((s.length : Int) - ((y :: r).length : Int)) = (((B s).size : Nat) : Int) by rw [hsz, List.length_cons]; omega) (Ev.now _)))⟩
      rintro ⟨t', h1, h2, h3⟩
      rw [back t' h1 h2 h3] at hq; cases hq
    | nil =>
      have hl : (ctxt t).length ≤ 9000000 := by rw [List.length_nil] at f2; omega
      obtain ⟨tE, _⟩ := text_ev t (form_mono (by decide) f1) hl
      obtain ⟨b, hb, hT⟩ := toldS t (form_wf f1)
      have hlen0 : ((s.length : Int) - (([] : List UInt8).length : Int)) = (((B s).size : Nat) : Int) := by rw [hsz, List.length_nil]; omega
      by_cases ht : ctxt t = s
      · have hT' : Ev (fun k => spec_ReadComb.f k (B s)) (if b = true then tnodes t else [], b) := by
          unfold spec_ReadComb.f
          exact Ev.bind hE1 (Ev.ite_neg nz (Ev.ite_pos hlen0 (Ev.bind tE (Ev.ite_pos (show (B (ctxt t)).toList = (B s).toList by rw [ht]) (Ev.bind hT (Ev.now _))))))
        by_cases hbt : b = true
        · rw [if_pos hbt, hbt] at hT'
          exact .inl ⟨t, form_of f1 (hb.mp hbt).2.2, hb.mp hbt, ht.symm, hT'⟩
        · rw [if_neg hbt, Bool.eq_false_iff.mpr hbt] at hT'
          refine .inr ⟨?_, hT'⟩
          rintro ⟨t', h1, h2, h3⟩
          rw [back t' h1 h2 h3] at hq
          injection hq with hq
          injection hq with hq _
          subst hq
          exact hbt (hb.mpr h2)
      · refine .inr ⟨?_, Ev.bind hE1 (Ev.ite_neg nz (Ev.ite_pos hlen0 (Ev.bind tE (Ev.ite_neg (show ¬ (B (ctxt t)).toList = (B s).toList by rw [toList_B, toList_B]; exact ht) (Ev.now _)))))⟩
        rintro ⟨t', h1, h2, h3⟩
        rw [back t' h1 h2 h3] at hq
        injection hq with hq
        injection hq with hq _
        subst hq
        exact ht h3.symm
theorem implRead (s : List UInt8) (h : s.length ≤ 1048576) : (∃ t, CForm 1000 t ∧ Good t ∧ s = ctxt t ∧ Ev (fun k => impl_ReadComb.f k (B s)) (tnodes t, true)) ∨ ((¬ ∃ t, CForm 1000 t ∧ Good t ∧ s = ctxt t) ∧ Ev (fun k => impl_ReadComb.f k (B s)) (([] : List S51), false)) := by
  have hsz : (B s).size = s.length := B_size s
  have back : ∀ t, CForm 1000 t → Good t → s = ctxt t → crd 4 60 s = some (t, []) := fun t h1 h2 h3 => by
    have := crd_text 4 (by omega) t 60 [] h1 h2.2.1 noD_nil
    rwa [List.append_nil, ← h3] at this
  by_cases hbig : (((B s).size : Nat) : Int) > 1000
  · refine .inr ⟨?_, Ev.congr (fun k => by unfold impl_ReadComb.f; rw [if_pos hbig]) (Ev.now _)⟩
    rintro ⟨t, h1, h2, h3⟩
    have := ctxt_len t h1
    have h4 := h2.1
    rw [hsz, h3] at hbig; omega
  obtain ⟨x, r, b, hr, hE, hO⟩ := combRead_ev 60 s (by omega) h
  have hE1 : Ev (fun k => impl_combRead.f k (B s) 1) (x.f0, x.f1, x.f2, B r, b) := hE
  have start : ∀ {o : List S51 × Bool}, Ev (fun k => (impl_combRead.f k (B s) 1).bind fun bt101 => (if bt101.2.2.2.2 = true then (if bt101.2.2.2.1.toList = ([] : List UInt8) then ((impl_comb_text.f k bt101.1 bt101.2.1 bt101.2.2.1).bind fun t109 => (if t109.toList = (B s).toList then ((impl_comb_goodNodes.f k bt101.1 bt101.2.1 bt101.2.2.1).bind fun bt110 => (some (bt110.1, bt110.2))) else (some (([] : List S51), false)))) else (some (([] : List S51), false))) else (some (([] : List S51), false)))) o → Ev (fun k => impl_ReadComb.f k (B s)) o := fun hh => Ev.congr (fun k => by unfold impl_ReadComb.f; rw [if_neg hbig]) hh
  rcases hO with ⟨h1, h2⟩ | ⟨t, h1, h2, h3⟩
  · subst h2
    refine .inr ⟨?_, start (Ev.bind hE1 (Ev.ite_neg Bool.false_ne_true (Ev.now _)))⟩
    rintro ⟨t, g1, g2, g3⟩
    rw [back t g1 g2 g3] at h1; cases h1
  · subst h3
    subst h2
    obtain ⟨f1, f2, f3, f4⟩ := crd_sound 4 60 s t r h1
    by_cases hr0 : r = []
    · subst hr0
      have hl : (ctxt t).length ≤ 9000000 := by rw [List.length_nil] at f2; omega
      have hs6 : t.size ≤ 4000 := by rw [hsz] at hbig; omega
      obtain ⟨_, tE⟩ := text_ev t (form_mono (by decide) f1) hl
      obtain ⟨bb, hb, hT⟩ := toldI t hs6
      by_cases ht : ctxt t = s
      · have hT' : Ev (fun k => impl_ReadComb.f k (B s)) (if bb = true then tnodes t else [], bb) :=
          start (Ev.bind hE1 (Ev.ite_pos rfl (Ev.ite_pos (show (B ([] : List UInt8)).toList = [] from toList_B []) (Ev.bind tE (Ev.ite_pos (show (B (ctxt t)).toList = (B s).toList by rw [ht]) (Ev.bind hT (Ev.now _)))))))
        by_cases hbt : bb = true
        · rw [if_pos hbt, hbt] at hT'
          exact .inl ⟨t, form_of f1 (hb.mp hbt).2.2, hb.mp hbt, ht.symm, hT'⟩
        · rw [if_neg hbt, Bool.eq_false_iff.mpr hbt] at hT'
          refine .inr ⟨?_, hT'⟩
          rintro ⟨t', g1, g2, g3⟩
          rw [back t' g1 g2 g3] at h1
          injection h1 with h1
          injection h1 with h1 _
          subst h1
          exact hbt (hb.mpr g2)
      · refine .inr ⟨?_, start (Ev.bind hE1 (Ev.ite_pos rfl (Ev.ite_pos (show (B ([] : List UInt8)).toList = [] from toList_B []) (Ev.bind tE (Ev.ite_neg (show ¬ (B (ctxt t)).toList = (B s).toList by rw [toList_B, toList_B]; exact ht) (Ev.now _))))))⟩
        rintro ⟨t', g1, g2, g3⟩
        rw [back t' g1 g2 g3] at h1
        injection h1 with h1
        injection h1 with h1 _
        subst h1
        exact ht g3.symm
    · refine .inr ⟨?_, start (Ev.bind hE1 (Ev.ite_pos rfl (Ev.ite_neg (show ¬ (B r).toList = [] by rw [toList_B]; exact hr0) (Ev.now _))))⟩
      rintro ⟨t', g1, g2, g3⟩
      rw [back t' g1 g2 g3] at h1
      injection h1 with h1
      injection h1 with _ h1
      exact hr0 h1.symm
theorem ctxt_inj {t u : Tr} (ht : CForm 1000 t) (gt : Good t) (hu : CForm 1000 u) (gu : Good u) (h : ctxt t = ctxt u) : t = u := by
  have h1 := crd_text 4 (by omega) t 60 [] ht gt.2.1 noD_nil
  have h2 := crd_text 4 (by omega) u 60 [] hu gu.2.1 noD_nil
  rw [h, h2] at h1
  injection h1 with h1
  injection h1 with h1 _
  exact h1.symm
theorem readBoth (s : List UInt8) (h : s.length ≤ 1048576) : ∃ (l : List S51) (b : Bool), l.length ≤ 200 ∧ Ev (fun k => spec_ReadComb.f k (B s)) (l, b) ∧ Ev (fun k => impl_ReadComb.f k (B s)) (l, b) := by
  rcases specRead s h with ⟨t, h1, h2, h3, hE⟩ | ⟨h1, hE⟩
  · rcases implRead s h with ⟨u, g1, g2, g3, gE⟩ | ⟨g1, gE⟩
    · obtain rfl := ctxt_inj h1 h2 g1 g2 (h3.symm.trans g3)
      exact ⟨tnodes t, true, by rw [tnodes_len]; exact h2.1, hE, gE⟩
    · exact absurd ⟨t, h1, h2, h3⟩ g1
  · rcases implRead s h with ⟨u, g1, g2, g3, gE⟩ | ⟨g1, gE⟩
    · exact absurd ⟨u, g1, g2, g3⟩ h1
    · exact ⟨[], false, by simp, hE, gE⟩
end Go.Proofs.YtcjhhdecckcibaaDoor.CombL

namespace Go.Proofs.YtcjhhdecckcibaaDoor.Pure
open Go.RowKit Go.Proofs.YtcjhhdecckcibaaDoor.G Go.Proofs.YtcjhhdecckcibaaDoor.EvL Go.Proofs.YtcjhhdecckcibaaDoor.CombL Go.Proofs.YtcjhhdecckcibaaDoor.TxtL Go.Proofs.YtcjhhdecckcibaaDoorW.PrintWords Go.Proofs.YtcjhhdecckcibaaDoorW.PrintLast
theorem FnExactReadComb : laws_FnExactReadComb.Pure := by
  intro a0 ha0
  refine Ev.rounds ?_
  unfold laws_FnExactReadComb.f
  by_cases hbig : ((a0.size : Nat) : Int) > 1048576
  · exact Ev.ite_pos hbig (Ev.now _)
  obtain ⟨l, b, hl, hS, hI⟩ := readBoth a0.data.toList (by rw [len]; omega)
  rw [B_of] at hS hI
  have hEq := eqCombs l (by omega)
  have hM := markCombs l (by omega)
  have hH := heldCombs l (by omega)
  have hb : (b != b) = false := by simp
  have hneg : ¬ (1 + 3 * (l.length : Int)) < 0 := by omega
  refine Ev.ite_neg hbig (Ev.bind hS (Ev.bind hI (Ev.bind hEq (Ev.ite_pos rfl (Ev.succ ?_)))))
  rw [hb]
  refine Ev.congr (f := fun k => (laws_markCombS.f k l 1).bind fun bt110 => (laws_heldCombS.f k bt110.2 1).bind fun t112 => if t112 < 0 then some false else if t112 = bt110.1 then (impl_ReadComb.f k a0).bind fun bt113 => (laws_eqCombS.f k bt113.1 l).bind fun t117 => if t117 = true then laws_FnExactReadComb.j1 k bt110.2 bt110.1 (bt113.2 != b) else laws_FnExactReadComb.j1 k bt110.2 bt110.1 true else some false) (fun k => by rw [laws_FnExactReadComb.j0, if_neg (by decide)]) ?_
  refine Ev.bind hM (Ev.bind hH (Ev.ite_neg hneg (Ev.ite_pos rfl (Ev.bind hI (Ev.bind hEq (Ev.ite_pos rfl (Ev.succ ?_)))))))
  refine Ev.congr (f := fun k => (laws_heldCombS.f k (markC l) 1).bind fun t118 => if t118 < 0 then some false else if t118 = 1 + 3 * (l.length : Int) then some true else some false) (fun k => by rw [hb, laws_FnExactReadComb.j1, if_neg (by decide)]) ?_
  exact Ev.bind hH (Ev.ite_neg hneg (Ev.ite_pos rfl (Ev.now _)))
end Go.Proofs.YtcjhhdecckcibaaDoor.Pure

namespace Go.Proofs.YtcjhhdecckcibaaDoor.fnExactReadComb
open Go.ChangeShapes Go.WideShapes Go.ChangeAt Go.RowKit Go.Proofs.YtcjhhdecckcibaaDoor.G Go.Proofs.YtcjhhdecckcibaaDoorW.PrintWords
open Go.ChangeMaps (open_string shut_string)
set_option linter.unusedVariables false
theorem own : ownKnob Tryd.prog.godebug = none := by kernel_rfl
theorem laidShaped {H : Type} {enc : TypeId × Value → H} {a : Assume} {C : Checked} {os : Os} {f : FuncId} {fn : Func} {s : ChangeSpec} {conds : List PathCond} {apart fresh handsOn again : Bool} {X : World → Array Value → Prop}
    (hX : ∀ (w w' : World) (args : Array Value), w.heap = w'.heap → X w args → X w' args)
    (own : ownKnob C.prog.godebug = none) (started : os.Started) (noInit : C.prog.inits.idxOf? f = none) (hfn : C.prog.funcs[f]? = some fn)
    (witness : ∃ (w : World) (tape : Tape) (i : Input), w.os = os ∧ (w.forCall tape i).Shaped C.prog ∧ i.vars = [] ∧ Input.okWide C.prog (w.forCall tape i) .any w.heap.size f i ∧
      ((s.pre enc C.prog fn conds apart (w.forCall tape i).memory i.args ∧ X (w.forCall tape i).memory i.args) ∧ sizedMet enc C.prog fn (OpenSpec.ofChange s) apart (w.forCall tape i).memory i.args) ∧ a.holds C.prog (lone (Frame.enter C.prog f i.args .normal) [] (w.forCall tape i)))
    (contract : ∀ (W : World) (base : Nat) (args : Array Value) (ds gs : List (DataW H)) (before : List MemPlace),
      (∀ (j : Nat) t v, fn.params[j]? = some t → args[j]? = some v → Value.okWide C.prog W .any base t v) →
      DataW.Whole enc C.prog fn.params.toList s.vars apart W args.toList ds gs before →
      conds.all (PathCond.test C.prog ⟨fn.params.toList, ds, s.plain.varTypes C.prog, gs⟩) = true →
      (DataW.weightsEach C.prog (fn.params.toList ++ s.plain.varTypes C.prog) (ds ++ gs)).all (· ≤ reachBytes) = true → X W args → W.ShapedOpen C.prog →
      Calls C.prog f args W fun e W' => ∃ v, e = .returned v ∧ s.post enc C.prog fn apart fresh handsOn again W args v W') :
    ReturnsInHanded a C os f .any (fun w args => (s.pre enc C.prog fn conds apart w args ∧ X w args) ∧ sizedMet enc C.prog fn (OpenSpec.ofChange s) apart w args) (s.post enc C.prog fn apart fresh handsOn again) := by
  refine returnsInHanded_of_calls own started noInit witness ?_
  intro w tape i _ hsh _ hok hpre _
  obtain ⟨_, _, _, fn', hfn', _, _, _, _, hval⟩ := hok
  obtain rfl : fn' = fn := Option.some.inj (hfn'.symm.trans hfn)
  obtain ⟨⟨⟨ds, gs, before, hw, hc⟩, hx⟩, hz⟩ := hpre
  refine (contract _ w.heap.size i.args ds gs before hval (DataW.Whole.of_heap (w' := w.forCall tape i) (by rfl) hw) hc (hz.weights hw) (hX _ _ _ (by rfl) hx) hsh).mono fun e W' h => ?_
  obtain ⟨v, rfl, hp⟩ := h
  exact ChangeSpec.post_blind hp
theorem tab_of {W : World} {rest : List (String × DataW Unit)} (h : laidMet Tryd.prog (("internal/strconv.uint64pow10", Rows.laid_internal_strconv_uint64pow10) :: rest) W) : Tab W :=
  Lib.tabIs_of_head (k := .u64) (zs := Lib.pow10Tab) (g := 2) (t := 151) (e := 136) (n := 20) (by kernel_rfl) (by kernel_rfl) (by kernel_rfl) (by kernel_rfl) (by kernel_rfl) (by kernel_rfl) h
theorem star : "*" ++ "errors.errorString" = "*errors.errorString" := by decide
theorem row_err (u : TypeId) (h : Tryd.prog.typeName? 3 u = some "*errors.errorString") : u = 158 :=
  typeName_ptr_named (nm := "errors.errorString") (by rw [star]; kernel_rfl) (by kernel_rfl) (by decide) u (by rw [star]; exact h)
theorem synOf {W : World} {rest : List (String × DataW Unit)} (h : laidMet Tryd.prog (("strconv.ErrSyntax", Rows.laid_strconv_ErrSyntax) :: rest) W) : ∃ tp p, W.var? Tryd.prog "strconv.ErrSyntax" = some #[.iface tp p] := by
  obtain ⟨a, s, hv, _⟩ := laid_sentinel h (g := 0) (ti := 107) (tp := 158) (te := 160) (ts := 9) (by kernel_rfl) (by kernel_rfl) Tryd.underlying107 row_err Tryd.underlying158 Tryd.underlying160 rfl rfl Tryd.underlying9 (by kernel_rfl) (by kernel_rfl)
  exact ⟨_, _, hv⟩
theorem rngOf {W : World} {rest : List (String × DataW Unit)} (h : laidMet Tryd.prog (("strconv.ErrRange", Rows.laid_strconv_ErrRange) :: rest) W) : ∃ tp p, W.var? Tryd.prog "strconv.ErrRange" = some #[.iface tp p] := by
  obtain ⟨a, s, hv, _⟩ := laid_sentinel h (g := 1) (ti := 107) (tp := 158) (te := 160) (ts := 9) (by kernel_rfl) (by kernel_rfl) Tryd.underlying107 row_err Tryd.underlying158 Tryd.underlying160 rfl rfl Tryd.underlying9 (by kernel_rfl) (by kernel_rfl)
  exact ⟨_, _, hv⟩
set_option maxRecDepth 100000 in
theorem lifted (os : Os) (started : os.Started) (H : Type) (enc : TypeId × Value → H) :
    ReturnsInHanded {} Tryd.checked os 5 .any (fun w args => (Rows.fnExactReadCombSpec.pre enc Tryd.prog Tryd.f5 Rows.fnExactReadCombRow.domain false w args ∧ laidMetH Tryd.prog Rows.fnExactReadCombRow.laid w) ∧ sizedMet enc Tryd.prog Tryd.f5 (OpenSpec.ofChange Rows.fnExactReadCombSpec) false w args) (Rows.fnExactReadCombSpec.post enc Tryd.prog Tryd.f5 false true false false) := by
  refine laidShaped (C := Tryd.checked) (X := fun w _ => laidMetH Tryd.prog Rows.fnExactReadCombRow.laid w) (fun _ _ _ hh h => h.of_heap hh) own started (by kernel_rfl) Tryd.func5
    (ChangeSpec.witness_shaped (enc := enc) (C := Tryd.checked) (os := os) (X := fun w _ => laidMetH Tryd.prog Rows.fnExactReadCombRow.laid w) false (World.laidAll Tryd.prog os Rows.fnExactReadCombRow.laid) #[.string ByteArray.empty] 8 (World.laidAll_os _ _ _)
      (World.shaped_of_ZipB (by kernel_rfl) (by kernel_rfl)) (by kernel_rfl) (by kernel_rfl) (by kernel_rfl)
      (by rw [MakeChecks.laidMetH_plain _ _ _ (by kernel_rfl)]; exact laidMet_laidAll _ (by kernel_rfl) (by kernel_rfl))) ?_
  intro W base args ds gs before hval0 hW hcnd hsz0 hX1 hsh
  have hsz : (DataW.weightsEach Tryd.prog (Tryd.f5.params.toList ++ Rows.fnExactReadCombSpec.plain.varTypes Tryd.prog) (ds ++ gs)).all (· ≤ reachBytes) = true := hsz0
  have hval : ∀ (j : Nat) t v, Tryd.f5.params[j]? = some t → args[j]? = some v → Value.okWide Tryd.prog W .any base t v := hval0
  have hW' := hW
  obtain ⟨p, q, hA0, hV, rfl, hfz, hnd⟩ := hW
  have hA : DataW.TrodAll enc Tryd.prog W 0 (fun _ => true) true Tryd.f5.params.toList args.toList ds p := hA0
  rw [Tryd.params5] at hA hval hsz
  obtain ⟨v0, vs0, d0, ds0, p0, q0, hargs, rfl, rfl, h0, r0⟩ := trodAll_cons hA
  obtain ⟨rfl, rfl, rfl⟩ := trodAll_nil r0
  obtain rfl : args = #[v0] := by cases args; simp_all
  obtain ⟨rfl, rfl⟩ := trodVars_none hV
  obtain ⟨a0, rfl, rfl, rfl, y0⟩ := open_string Tryd.underlying9 (hval 0 9 v0 rfl rfl) h0
  have w0 : a0.size ≤ 140737488351232 := by
    have z := sized_string hsz (j := 0) (t := 9) rfl rfl
    rw [Array.length_toList] at z
    exact z
  clear hA0 hval0 hsz0 hsz
  obtain ⟨k_, hk_⟩ := Pure.FnExactReadComb a0 w0
  have hL : laidMet Tryd.prog Rows.fnExactReadCombRow.laid W := by
    rw [← MakeChecks.laidMetH_plain _ _ _ (by kernel_rfl)]; exact hX1
  have hE : G.Met W := ⟨(tab_of (laidMet.tail (laidMet.tail hL))), ⟨(synOf (laidMet.tail (laidMet.tail (laidMet.tail (laidMet.tail hL))))), (rngOf (laidMet.tail (laidMet.tail (laidMet.tail hL))))⟩⟩
  refine (laws_FnExactReadComb.calls k_ a0 true W  hk_ hE).mono fun e W' ⟨he, bel0⟩ => ?_
  have bel : Below W.heap.size W W' := bel0
  subst he
  exact ⟨_, rfl, _, _, _, [], _, [], hW', trodAll_mk1 (shut_bool Tryd.underlying4 _), (trodAll_cons_mk (shut_string Tryd.underlying9 y0) trodAll_mk0), rfl, bel.frame _, fun h => by cases h⟩
theorem over : Rows.FnExactReadCombSaid :=
  OpenClaim.holds_of_wide 5 Tryd.f5 rfl rfl rfl rfl rfl rfl rfl ⟨rfl, rfl, rfl, rfl, rfl⟩ rfl rfl rfl rfl rfl (by kernel_rfl) Tryd.func5 (by kernel_rfl)
    (of_decide_eq_true (by kernel_rfl)) (by unfold Func.isWrapper; first | (rw [if_pos (by decide +kernel)]; kernel_rfl) | (rw [if_neg (by decide +kernel)]; exact ⟨rfl, rfl⟩))
    (fun os started H enc _ => lifted os started H enc)
theorem proved : Rows.FnExactReadCombCardSaid :=
  Claim7.holds_tied_plain_at .later [] [.data, .data, .data, .sentinel, .sentinel] true (true, "b2e2a58b97a697acf1a696e6eab1d943ef166cfcc3a0def1cd198d3ebdec561e") true
    over (fun _ h => by cases h) (by kernel_rfl) (fun _ h => by cases h) fnExactReadComb_row_tie rfl ⟨rfl, rfl⟩ (by kernel_rfl) rfl
    (fun f fn hf hfn => by
      obtain rfl : f = 5 := Option.some.inj ((show Tryd.prog.funcNamed "loop.example/g00201/laws.FnExactReadComb" = some 5 by kernel_rfl).symm.trans hf) |>.symm
      obtain rfl : fn = Tryd.f5 := (Option.some.inj (Tryd.func5.symm.trans hfn)).symm
      exact ⟨by kernel_rfl, fun j t ht => by
        rw [Tryd.params5] at ht
        have hm : t ∈ [9] := by simpa using Array.mem_of_getElem? ht
        have hall : ([9].all fun u => !Tryd.prog.wantsStandIn u) = true := by kernel_rfl
        exact (show Tryd.prog.wantsStandIn t = false by simpa using List.all_eq_true.1 hall t hm)⟩)
    (by kernel_rfl)
#print axioms proved
end Go.Proofs.YtcjhhdecckcibaaDoor.fnExactReadComb
namespace Go.Proofs.YtcjhhdecckcibaaDoor
theorem fnExactReadComb_holds : Rows.FnExactReadCombCardSaid := fnExactReadComb.proved
end Go.Proofs.YtcjhhdecckcibaaDoor
