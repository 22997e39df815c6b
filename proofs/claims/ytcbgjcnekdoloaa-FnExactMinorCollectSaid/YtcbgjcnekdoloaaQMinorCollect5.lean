/- Part 5 of 6 of the proof that the law FnExactMinorCollectSaid holds: for every input that can be read the call returns true and leaves its arguments as they were; no condition but those each theorem names. -/
import Derived.Test.YtcbgjcnekdoloaaQMinorCollectW1
import Derived.Test.YtcbgjcnekdoloaaQMinorCollect1
import Derived.Test.YtcbgjcnekdoloaaQMinorCollect2
import Derived.Test.YtcbgjcnekdoloaaQMinorCollect3
import Derived.Test.YtcbgjcnekdoloaaQMinorCollect4
namespace Go.Proofs.Ytcbgjcnekdoloaa.G
open Go.RowKit Go.Proofs.YtcbgjcnekdoloaaW.PrintWords Go.Proofs.YtcbgjcnekdoloaaW.PrintLast Go.Proofs.YtcbgjcnekdoloaaW.PrintMore
attribute [local go_sem] max2_int min2_int max_two min_two max_three min_three max_four min_four   -- for this text's walks alone
set_option linter.unusedVariables false
set_option linter.unusedSimpArgs false

open Go.Proofs.Ytcbgjcnekdoloaa.Short
/-! ### laws_FnExactMinorCollect: function 6 -/
mutual
def laws_FnExactMinorCollect.j0 : Nat → Bool → Bool → Bool → Int → List (S59) → List Int → Int → List (S44) → List Int → Int → List (S44) → List Int → Int → List (S44) → List Int → Option (Bool)
  | 0, _, _, _, _, _, _, _, _, _, _, _, _, _, _, _ => none
  | k + 1, x5, x8, x40, x102000, x102001, x102002, x119000, x119001, x119002, x127000, x127001, x127002, x136000, x136001, x136002 => if x40 = true then (some false) else ((laws_toHeap.f k x102000 x102001 x102002).bind fun bt137 => ((laws_eqHeap.f k x127000 x127001 x127002 bt137.1 bt137.2.1 bt137.2.2).bind fun t144 => (if t144 = true then ((laws_markHeap.f k x127000 x127001 x127002 1).bind fun bt145 => (if bt145.1 < 0 then (laws_FnExactMinorCollect.j1 k x5 true x102000 x102001 x102002 x119000 x119001 x119002 x136000 x136001 x136002) else ((laws_eqHeap.f k x136000 x136001 x136002 x119000 x119001 x119002).bind fun t148 => (if t148 = true then (laws_FnExactMinorCollect.j1 k x5 (x8 != x5) x102000 x102001 x102002 x119000 x119001 x119002 x136000 x136001 x136002) else (laws_FnExactMinorCollect.j1 k x5 true x102000 x102001 x102002 x119000 x119001 x119002 x136000 x136001 x136002))))) else (some false))))
def laws_FnExactMinorCollect.j1 : Nat → Bool → Bool → Int → List (S59) → List Int → Int → List (S44) → List Int → Int → List (S44) → List Int → Option (Bool)
  | 0, _, _, _, _, _, _, _, _, _, _, _ => none
  | k + 1, x5, x61, x102000, x102001, x102002, x119000, x119001, x119002, x136000, x136001, x136002 => if x61 = true then (some false) else ((laws_markHeap.f k x136000 x136001 x136002 1).bind fun bt149 => ((laws_heldHeap.f k x136000 bt149.2.1 bt149.2.2 1).bind fun t152 => (if t152 < 0 then (some false) else (if t152 = bt149.1 then ((laws_toHeap.f k x102000 x102001 x102002).bind fun bt153 => ((impl_MinorCollect.f k bt153.1 bt153.2.1 bt153.2.2).bind fun bt160 => ((laws_eqHeap.f k bt160.1 bt160.2.1 bt160.2.2.1 x119000 x119001 x119002).bind fun t169 => (if t169 = true then (laws_FnExactMinorCollect.j2 k bt149.1 (bt160.2.2.2 != x5) x136000 bt149.2.1 bt149.2.2) else (laws_FnExactMinorCollect.j2 k bt149.1 true x136000 bt149.2.1 bt149.2.2))))) else (some false)))))
def laws_FnExactMinorCollect.j2 : Nat → Int → Bool → Int → List (S44) → List Int → Option (Bool)
  | 0, _, _, _, _, _ => none
  | k + 1, x10, x87, x136000, x136001, x136002 => if x87 = true then (some false) else ((laws_heldHeap.f k x136000 x136001 x136002 1).bind fun t170 => (if t170 < 0 then (some false) else (if t170 = x10 then (some true) else (some false))))
end
def laws_FnExactMinorCollect.f (k : Nat) (a0_0 : Int) (l0_1 : List (S59)) (l0_2 : List Int) : Option (Bool) := (laws_szHeap.f a0_0 l0_1 l0_2 1048576).bind fun t102 => (if t102 < 0 then (some true) else ((laws_toHeap.f k a0_0 l0_1 l0_2).bind fun bt103 => ((spec_MinorCollect.f k bt103.1 bt103.2.1 bt103.2.2).bind fun bt110 => ((laws_toHeap.f k a0_0 l0_1 l0_2).bind fun bt119 => ((impl_MinorCollect.f k bt119.1 bt119.2.1 bt119.2.2).bind fun bt127 => ((laws_eqHeap.f k bt127.1 bt127.2.1 bt127.2.2.1 bt110.1 bt110.2.1 bt110.2.2.1).bind fun t136 => (if t136 = true then (laws_FnExactMinorCollect.j0 k bt110.2.2.2 bt127.2.2.2 (bt127.2.2.2 != bt110.2.2.2) a0_0 l0_1 l0_2 bt110.1 bt110.2.1 bt110.2.2.1 bt119.1 bt119.2.1 bt119.2.2 bt127.1 bt127.2.1 bt127.2.2.1) else (laws_FnExactMinorCollect.j0 k bt110.2.2.2 bt127.2.2.2 true a0_0 l0_1 l0_2 bt110.1 bt110.2.1 bt110.2.2.1 bt119.1 bt119.2.1 bt119.2.2 bt127.1 bt127.2.1 bt127.2.2.1))))))))
set_option maxHeartbeats 8000000 in
set_option maxRecDepth 100000 in
theorem laws_FnExactMinorCollect.calls (k : Nat) (a0_0 : Int) (A0_1 : Option Addr) (c0_1 : Nat) (l0_1 : List (S59)) (A0_2 : Option Addr) (c0_2 : Nat) (l0_2 : List Int) (r : Bool) (w : World) (hr0_1 : Kd.C k59 w A0_1 l0_1.length l0_1) (hc0_1 : l0_1.length ≤ c0_1) (hr0_2 : Kd.C (Kd.int .i64) w A0_2 l0_2.length l0_2) (hc0_2 : l0_2.length ≤ c0_2) (h : laws_FnExactMinorCollect.f k a0_0 l0_1 l0_2 = some r) :
    Calls Try.prog 6 #[.agg #[.int .i64 a0_0, .slice A0_1 l0_1.length c0_1, .slice A0_2 l0_2.length c0_2]] w fun e w' => e = .returned (.bool r) ∧ Below w.heap.size w w' := by
  have hu25 := Try.underlying25
  have hu30 := Try.underlying30
  have HR0_1 := aM hr0_1
  have HC0_1 := aM hc0_1
  clear hr0_1 hc0_1
  have HR0_2 := aM hr0_2
  have HC0_2 := aM hc0_2
  clear hr0_2 hc0_2
  have HB := aM (Below.refl w.heap.size w)
  have H : ((laws_szHeap.f a0_0 l0_1 l0_2 1048576).bind fun t102 => (if t102 < 0 then (some true) else ((laws_toHeap.f k a0_0 l0_1 l0_2).bind fun bt103 => ((spec_MinorCollect.f k bt103.1 bt103.2.1 bt103.2.2).bind fun bt110 => ((laws_toHeap.f k a0_0 l0_1 l0_2).bind fun bt119 => ((impl_MinorCollect.f k bt119.1 bt119.2.1 bt119.2.2).bind fun bt127 => ((laws_eqHeap.f k bt127.1 bt127.2.1 bt127.2.2.1 bt110.1 bt110.2.1 bt110.2.2.1).bind fun t136 => (if t136 = true then (laws_FnExactMinorCollect.j0 k bt110.2.2.2 bt127.2.2.2 (bt127.2.2.2 != bt110.2.2.2) a0_0 l0_1 l0_2 bt110.1 bt110.2.1 bt110.2.2.1 bt119.1 bt119.2.1 bt119.2.2 bt127.1 bt127.2.1 bt127.2.2.1) else (laws_FnExactMinorCollect.j0 k bt110.2.2.2 bt127.2.2.2 true a0_0 l0_1 l0_2 bt110.1 bt110.2.1 bt110.2.2.1 bt119.1 bt119.2.1 bt119.2.2 bt127.1 bt127.2.1 bt127.2.2.1))))))))) = some r := h
  clear h
  replace H := Option.bind_eq_some_iff.mp H
  obtain ⟨t102, A20, H⟩ := H
  replace H : (if t102 < 0 then (some true) else ((laws_toHeap.f k a0_0 l0_1 l0_2).bind fun bt103 => ((spec_MinorCollect.f k bt103.1 bt103.2.1 bt103.2.2).bind fun bt110 => ((laws_toHeap.f k a0_0 l0_1 l0_2).bind fun bt119 => ((impl_MinorCollect.f k bt119.1 bt119.2.1 bt119.2.2).bind fun bt127 => ((laws_eqHeap.f k bt127.1 bt127.2.1 bt127.2.2.1 bt110.1 bt110.2.1 bt110.2.2.1).bind fun t136 => (if t136 = true then (laws_FnExactMinorCollect.j0 k bt110.2.2.2 bt127.2.2.2 (bt127.2.2.2 != bt110.2.2.2) a0_0 l0_1 l0_2 bt110.1 bt110.2.1 bt110.2.2.1 bt119.1 bt119.2.1 bt119.2.2 bt127.1 bt127.2.1 bt127.2.2.1) else (laws_FnExactMinorCollect.j0 k bt110.2.2.2 bt127.2.2.2 true a0_0 l0_1 l0_2 bt110.1 bt110.2.1 bt110.2.2.1 bt119.1 bt119.2.1 bt119.2.2 bt127.1 bt127.2.1 bt127.2.2.1)))))))) = some r := H
  have A2 := aM A20
  clear A20
  by_cases c3 : t102 < 0
  · rw [if_pos c3] at H
    have c3b0 : decide (t102 < 0) = true := decide_eq_true c3
    clear c3
    obtain rfl := Option.some.inj H
    go_enter Try.func6, Try.ntmps6
    go_wp2_with (first | ((with_reducible refine gate_dst (N := 1) rfl ?_); refine box_event ?hg (N := 1) ?hd (cs := #[.int .i64 a0_0, .slice A0_1 l0_1.length c0_1, .slice A0_2 l0_2.length c0_2]) (t := 25) ?hr ?_; (case hd => rfl); (case hg => rfl); (case hr => first | (go_simp; done) | (go_simp; rfl)); intro gb101 hg w4 hbox hb; have n0_ := aM (below_step (by repeat (first | (with_reducible first | exact HB.out | apply below_alloc | apply pw_below_drewN | apply below_drew1) | exact HB.out)) hb); have n1_ := aM (hbox); have n2_ := aM ((by rw [hg]; exact (below_size (by repeat (first | (with_reducible first | exact HB.out | apply below_alloc | apply pw_below_drewN | apply below_drew1) | exact HB.out))) : w.heap.size ≤ gb101)); have n3_ := aM ((by rw [hg]; exact (below_size (by repeat (first | (with_reducible first | exact HB.out | apply below_alloc | apply pw_below_drewN | apply below_drew1) | exact HB.out))) : w.heap.size ≤ gb101)); clear HB; have HB := n0_; have BK101 := n1_; have GW101 := n2_; have GE101 := n3_; clear n0_ n1_ n2_ n3_; clear hb hbox hg; have hcz5_0 : w4.cell? ⟨gb101, 0, none⟩ = some (.int .i64 a0_0) := (blk_cell BK101.out 0).trans rfl; have hcz5_1 : w4.cell? ⟨gb101, 1, none⟩ = some (.slice A0_1 l0_1.length c0_1) := (blk_cell BK101.out 1).trans rfl; have hcz5_2 : w4.cell? ⟨gb101, 2, none⟩ = some (.slice A0_2 l0_2.length c0_2) := (blk_cell BK101.out 2).trans rfl; have hfz5_0 := blk_frozen BK101.out 0; have hfz5_1 := blk_frozen BK101.out 1; have hfz5_2 := blk_frozen BK101.out 2) | ((with_reducible refine gate_callee (f := 7) rfl ?_); refine goesL_ (some 16) rfl rfl Try.func7 (by kernel_rfl) rfl #[.agg #[.int .i64 a0_0, .slice A0_1 l0_1.length c0_1, .slice A0_2 l0_2.length c0_2], .int .i64 1048576] rfl (by (try simp only [List.map_toArray, List.map_cons, List.map_nil]); first | done | rfl | (simp only [List.length_drop, List.length_take]; rfl)) ?_; (with_reducible refine (laws_szHeap.calls a0_0 _ _ l0_1 _ _ l0_2 1048576 t102 _ ?side1 ?side2 ?side3 ?side4 A2.out).mono ?_); (case side1 => repeat (first | exact (Kd.C_below HR0_1.out HB.out) | (with_reducible refine Kd.C_alloc ?_ _) | (with_reducible refine Kd.C_drewN ?_ _) | (with_reducible refine Kd.C_drew ?_))); (case side2 => exact HC0_1.out); (case side3 => repeat (first | exact (Kd.C_below HR0_2.out HB.out) | (with_reducible refine Kd.C_alloc ?_ _) | (with_reducible refine Kd.C_drewN ?_ _) | (with_reducible refine Kd.C_drew ?_))); (case side4 => exact HC0_2.out); rintro e w6 ⟨rfl, hb⟩; refine ⟨_, rfl, ?_⟩; have n0_ := aM (blk_below (g := gb101) (o := .cells #[.int .i64 a0_0, .slice A0_1 l0_1.length c0_1, .slice A0_2 l0_2.length c0_2] 25 (0, 0)) (by (with_reducible repeat (first | refine bN ?_ _ | refine bD ?_ | refine bA ?_ _)); exact BK101.out) hb); have n1_ := aM (below_step (by repeat (first | (with_reducible first | exact HB.out | apply below_alloc | apply pw_below_drewN | apply below_drew1 | refine below_set ?_ GE101.out) | exact HB.out)) hb); clear BK101; clear HB; have BK101 := n0_; have HB := n1_; clear n0_ n1_; (try clear hb); (try clear hb2); (try clear hk); (try clear hi)))
    go_ret
    exact ⟨by first | rfl | (simp [errW_none, errW_some] <;> rfl) | (simp [*, errW_none, errW_some] <;> rfl), by repeat (first | (with_reducible first | exact HB.out | apply below_alloc | apply pw_below_drewN | apply below_drew1 | refine below_set ?_ GE101.out) | exact HB.out)⟩
  · rw [if_neg c3] at H
    have c3b0 : decide (t102 < 0) = false := decide_eq_false c3
    clear c3
    replace H := Option.bind_eq_some_iff.mp H
    obtain ⟨⟨t103, t104, t107⟩, A70, H⟩ := H
    replace H : ((spec_MinorCollect.f k t103 t104 t107).bind fun bt110 => ((laws_toHeap.f k a0_0 l0_1 l0_2).bind fun bt119 => ((impl_MinorCollect.f k bt119.1 bt119.2.1 bt119.2.2).bind fun bt127 => ((laws_eqHeap.f k bt127.1 bt127.2.1 bt127.2.2.1 bt110.1 bt110.2.1 bt110.2.2.1).bind fun t136 => (if t136 = true then (laws_FnExactMinorCollect.j0 k bt110.2.2.2 bt127.2.2.2 (bt127.2.2.2 != bt110.2.2.2) a0_0 l0_1 l0_2 bt110.1 bt110.2.1 bt110.2.2.1 bt119.1 bt119.2.1 bt119.2.2 bt127.1 bt127.2.1 bt127.2.2.1) else (laws_FnExactMinorCollect.j0 k bt110.2.2.2 bt127.2.2.2 true a0_0 l0_1 l0_2 bt110.1 bt110.2.1 bt110.2.2.1 bt119.1 bt119.2.1 bt119.2.2 bt127.1 bt127.2.1 bt127.2.2.1)))))) = some r := H
    have A7 := aM A70
    clear A70
    replace H := Option.bind_eq_some_iff.mp H
    obtain ⟨⟨t110, t111, t114, t117⟩, A80, H⟩ := H
    replace H : ((laws_toHeap.f k a0_0 l0_1 l0_2).bind fun bt119 => ((impl_MinorCollect.f k bt119.1 bt119.2.1 bt119.2.2).bind fun bt127 => ((laws_eqHeap.f k bt127.1 bt127.2.1 bt127.2.2.1 t110 t111 t114).bind fun t136 => (if t136 = true then (laws_FnExactMinorCollect.j0 k t117 bt127.2.2.2 (bt127.2.2.2 != t117) a0_0 l0_1 l0_2 t110 t111 t114 bt119.1 bt119.2.1 bt119.2.2 bt127.1 bt127.2.1 bt127.2.2.1) else (laws_FnExactMinorCollect.j0 k t117 bt127.2.2.2 true a0_0 l0_1 l0_2 t110 t111 t114 bt119.1 bt119.2.1 bt119.2.2 bt127.1 bt127.2.1 bt127.2.2.1))))) = some r := H
    have A8 := aM A80
    clear A80
    replace H := Option.bind_eq_some_iff.mp H
    obtain ⟨⟨t119, t120, t123⟩, A90, H⟩ := H
    replace H : ((impl_MinorCollect.f k t119 t120 t123).bind fun bt127 => ((laws_eqHeap.f k bt127.1 bt127.2.1 bt127.2.2.1 t110 t111 t114).bind fun t136 => (if t136 = true then (laws_FnExactMinorCollect.j0 k t117 bt127.2.2.2 (bt127.2.2.2 != t117) a0_0 l0_1 l0_2 t110 t111 t114 t119 t120 t123 bt127.1 bt127.2.1 bt127.2.2.1) else (laws_FnExactMinorCollect.j0 k t117 bt127.2.2.2 true a0_0 l0_1 l0_2 t110 t111 t114 t119 t120 t123 bt127.1 bt127.2.1 bt127.2.2.1)))) = some r := H
    have A9 := aM A90
    clear A90
    replace H := Option.bind_eq_some_iff.mp H
    obtain ⟨⟨t127, t128, t131, t134⟩, A100, H⟩ := H
    replace H : ((laws_eqHeap.f k t127 t128 t131 t110 t111 t114).bind fun t136 => (if t136 = true then (laws_FnExactMinorCollect.j0 k t117 t134 (t134 != t117) a0_0 l0_1 l0_2 t110 t111 t114 t119 t120 t123 t127 t128 t131) else (laws_FnExactMinorCollect.j0 k t117 t134 true a0_0 l0_1 l0_2 t110 t111 t114 t119 t120 t123 t127 t128 t131))) = some r := H
    have A10 := aM A100
    clear A100
    have HC11 := aM H
    clear H
    go_enter Try.func6, Try.ntmps6
    go_upto_region 8 with (first | ((with_reducible refine gate_dst (N := 1) rfl ?_); refine box_event ?hg (N := 1) ?hd (cs := #[.int .i64 a0_0, .slice A0_1 l0_1.length c0_1, .slice A0_2 l0_2.length c0_2]) (t := 25) ?hr ?_; (case hd => rfl); (case hg => rfl); (case hr => first | (go_simp; done) | (go_simp; rfl)); intro gb101 hg w12 hbox hb; have n0_ := aM (below_step (by repeat (first | (with_reducible first | exact HB.out | apply below_alloc | apply pw_below_drewN | apply below_drew1) | exact HB.out)) hb); have n1_ := aM (hbox); have n2_ := aM ((by rw [hg]; exact (below_size (by repeat (first | (with_reducible first | exact HB.out | apply below_alloc | apply pw_below_drewN | apply below_drew1) | exact HB.out))) : w.heap.size ≤ gb101)); have n3_ := aM ((by rw [hg]; exact (below_size (by repeat (first | (with_reducible first | exact HB.out | apply below_alloc | apply pw_below_drewN | apply below_drew1) | exact HB.out))) : w.heap.size ≤ gb101)); clear HB; have HB := n0_; have BK101 := n1_; have GW101 := n2_; have GE101 := n3_; clear n0_ n1_ n2_ n3_; clear hb hbox hg; have hcz13_0 : w12.cell? ⟨gb101, 0, none⟩ = some (.int .i64 a0_0) := (blk_cell BK101.out 0).trans rfl; have hcz13_1 : w12.cell? ⟨gb101, 1, none⟩ = some (.slice A0_1 l0_1.length c0_1) := (blk_cell BK101.out 1).trans rfl; have hcz13_2 : w12.cell? ⟨gb101, 2, none⟩ = some (.slice A0_2 l0_2.length c0_2) := (blk_cell BK101.out 2).trans rfl; have hfz13_0 := blk_frozen BK101.out 0; have hfz13_1 := blk_frozen BK101.out 1; have hfz13_2 := blk_frozen BK101.out 2) | ((with_reducible refine gate_callee (f := 7) rfl ?_); refine goesL_ (some 16) rfl rfl Try.func7 (by kernel_rfl) rfl #[.agg #[.int .i64 a0_0, .slice A0_1 l0_1.length c0_1, .slice A0_2 l0_2.length c0_2], .int .i64 1048576] rfl (by (try simp only [List.map_toArray, List.map_cons, List.map_nil]); first | done | rfl | (simp only [List.length_drop, List.length_take]; rfl)) ?_; (with_reducible refine (laws_szHeap.calls a0_0 _ _ l0_1 _ _ l0_2 1048576 t102 _ ?side1 ?side2 ?side3 ?side4 A2.out).mono ?_); (case side1 => repeat (first | exact (Kd.C_below HR0_1.out HB.out) | (with_reducible refine Kd.C_alloc ?_ _) | (with_reducible refine Kd.C_drewN ?_ _) | (with_reducible refine Kd.C_drew ?_))); (case side2 => exact HC0_1.out); (case side3 => repeat (first | exact (Kd.C_below HR0_2.out HB.out) | (with_reducible refine Kd.C_alloc ?_ _) | (with_reducible refine Kd.C_drewN ?_ _) | (with_reducible refine Kd.C_drew ?_))); (case side4 => exact HC0_2.out); rintro e w14 ⟨rfl, hb⟩; refine ⟨_, rfl, ?_⟩; have n0_ := aM (blk_below (g := gb101) (o := .cells #[.int .i64 a0_0, .slice A0_1 l0_1.length c0_1, .slice A0_2 l0_2.length c0_2] 25 (0, 0)) (by (with_reducible repeat (first | refine bN ?_ _ | refine bD ?_ | refine bA ?_ _)); exact BK101.out) hb); have n1_ := aM (below_step (by repeat (first | (with_reducible first | exact HB.out | apply below_alloc | apply pw_below_drewN | apply below_drew1 | refine below_set ?_ GE101.out) | exact HB.out)) hb); clear BK101; clear HB; have BK101 := n0_; have HB := n1_; clear n0_ n1_; (try clear hb); (try clear hb2); (try clear hk); (try clear hi); have hcz15_0 : w14.cell? ⟨gb101, 0, none⟩ = some (.int .i64 a0_0) := (blk_cell BK101.out 0).trans rfl; have hcz15_1 : w14.cell? ⟨gb101, 1, none⟩ = some (.slice A0_1 l0_1.length c0_1) := (blk_cell BK101.out 1).trans rfl; have hcz15_2 : w14.cell? ⟨gb101, 2, none⟩ = some (.slice A0_2 l0_2.length c0_2) := (blk_cell BK101.out 2).trans rfl; have hfz15_0 := blk_frozen BK101.out 0; have hfz15_1 := blk_frozen BK101.out 1; have hfz15_2 := blk_frozen BK101.out 2) | ((with_reducible refine gate_callee (f := 9) rfl ?_); refine goesL_ (some 21) rfl rfl Try.func9 (by kernel_rfl) rfl #[.agg #[.int .i64 a0_0, .slice A0_1 l0_1.length c0_1, .slice A0_2 l0_2.length c0_2]] rfl (by (try simp only [List.map_toArray, List.map_cons, List.map_nil]); first | done | rfl | (simp only [List.length_drop, List.length_take]; rfl)) ?_; (with_reducible refine (laws_toHeap.calls k a0_0 _ _ l0_1 _ _ l0_2 t103 t104 t107 _ ?side1 ?side2 ?side3 ?side4 A7.out).mono ?_); (case side1 => repeat (first | exact (Kd.C_below HR0_1.out HB.out) | (with_reducible refine Kd.C_alloc ?_ _) | (with_reducible refine Kd.C_drewN ?_ _) | (with_reducible refine Kd.C_drew ?_))); (case side2 => exact HC0_1.out); (case side3 => repeat (first | exact (Kd.C_below HR0_2.out HB.out) | (with_reducible refine Kd.C_alloc ?_ _) | (with_reducible refine Kd.C_drewN ?_ _) | (with_reducible refine Kd.C_drew ?_))); (case side4 => exact HC0_2.out); rintro e w16 ⟨v105, v108, rfl, ho0, ho1, hb⟩; refine ⟨_, rfl, ?_⟩; have n0_ := aM (Kd.R_lower ho0 (below_size (by repeat (first | (with_reducible first | exact HB.out | apply below_alloc | apply pw_below_drewN | apply below_drew1 | refine below_set ?_ GE101.out) | exact HB.out)))); have n1_ := aM (Kd.R_lower ho1 (below_size (by repeat (first | (with_reducible first | exact HB.out | apply below_alloc | apply pw_below_drewN | apply below_drew1 | refine below_set ?_ GE101.out) | exact HB.out)))); have n2_ := aM (blk_below (g := gb101) (o := .cells #[.int .i64 a0_0, .slice A0_1 l0_1.length c0_1, .slice A0_2 l0_2.length c0_2] 25 (0, 0)) (by (with_reducible repeat (first | refine bN ?_ _ | refine bD ?_ | refine bA ?_ _)); exact BK101.out) hb); have n3_ := aM (below_step (by repeat (first | (with_reducible first | exact HB.out | apply below_alloc | apply pw_below_drewN | apply below_drew1 | refine below_set ?_ GE101.out) | exact HB.out)) hb); clear BK101; clear HB; have HO106 := n0_; have HO109 := n1_; have BK101 := n2_; have HB := n3_; clear n0_ n1_ n2_ n3_; (try clear hb); (try clear hb2); (try clear hk); (try clear hi); (try clear ho0); (try clear ho1); obtain ⟨Ao17, co17, eo17⟩ := Kd.R_slice HO106.out; subst eo17; obtain ⟨Ao18, co18, eo18⟩ := Kd.R_slice HO109.out; subst eo18) | ((with_reducible refine gate_callee (f := 21) rfl ?_); refine goesL_ (some 22) rfl rfl Try.func21 (by kernel_rfl) rfl #[.agg #[.int .i64 t103, .slice Ao17 t104.length co17, .slice Ao18 t107.length co18]] rfl (by (try simp only [List.map_toArray, List.map_cons, List.map_nil]); first | done | rfl | (simp only [List.length_drop, List.length_take]; rfl)) ?_; (with_reducible refine (spec_MinorCollect.calls k t103 _ _ t104 _ _ t107 t110 t111 t114 t117 _ ?side1 ?side2 ?side3 ?side4 A8.out).mono ?_); (case side1 => repeat (first | exact (Kd.R_reads' HO106.out).2.2 | (with_reducible refine Kd.C_alloc ?_ _) | (with_reducible refine Kd.C_drewN ?_ _) | (with_reducible refine Kd.C_drew ?_))); (case side2 => exact (Kd.R_reads' HO106.out).2.1); (case side3 => repeat (first | exact (Kd.R_reads' HO109.out).2.2 | (with_reducible refine Kd.C_alloc ?_ _) | (with_reducible refine Kd.C_drewN ?_ _) | (with_reducible refine Kd.C_drew ?_))); (case side4 => exact (Kd.R_reads' HO109.out).2.1); rintro e w19 ⟨v112, v115, rfl, ho0, ho1, hb⟩; refine ⟨_, rfl, ?_⟩; have n0_ := aM (Kd.R_elder' (by (with_reducible repeat (first | apply rA | apply rN | apply rD)); exact HO106.out) (Kd.R_base ho0) hb); have n1_ := aM (Kd.R_elder' (by (with_reducible repeat (first | apply rA | apply rN | apply rD)); exact HO109.out) (Kd.R_base ho1) hb); have n2_ := aM (Kd.R_lower (Kd.R_new' ho0 (Kd.R_lt (by (with_reducible repeat (first | apply rA | apply rN | apply rD)); exact HO106.out))) (below_size (by repeat (first | (with_reducible first | exact HB.out | apply below_alloc | apply pw_below_drewN | apply below_drew1 | refine below_set ?_ GE101.out) | exact HB.out)))); have n3_ := aM (Kd.R_lower (Kd.R_new' ho1 (Kd.R_lt (by (with_reducible repeat (first | apply rA | apply rN | apply rD)); exact HO109.out))) (below_size (by repeat (first | (with_reducible first | exact HB.out | apply below_alloc | apply pw_below_drewN | apply below_drew1 | refine below_set ?_ GE101.out) | exact HB.out)))); have n4_ := aM (blk_below (g := gb101) (o := .cells #[.int .i64 a0_0, .slice A0_1 l0_1.length c0_1, .slice A0_2 l0_2.length c0_2] 25 (0, 0)) (by (with_reducible repeat (first | refine bN ?_ _ | refine bD ?_ | refine bA ?_ _)); exact BK101.out) hb); have n5_ := aM (below_step (by repeat (first | (with_reducible first | exact HB.out | apply below_alloc | apply pw_below_drewN | apply below_drew1 | refine below_set ?_ GE101.out) | exact HB.out)) hb); clear HO106; clear HO109; clear BK101; clear HB; have HO106 := n0_; have HO109 := n1_; have HO113 := n2_; have HO116 := n3_; have BK101 := n4_; have HB := n5_; clear n0_ n1_ n2_ n3_ n4_ n5_; (try clear hb); (try clear hb2); (try clear hk); (try clear hi); (try clear ho0); (try clear ho1)) | ((with_reducible refine gate_dst (N := 4) rfl ?_); refine box_event ?hg (N := 4) ?hd (cs := #[.int .i64 0, .slice none 0 0, .slice none 0 0]) (t := 30) ?hr ?_; (case hd => rfl); (case hg => rfl); (case hr => first | (go_simp; done) | (go_simp; rfl)); intro gb118 hg w20 hbox hb; have n0_ := aM (Kd.R_below (by (with_reducible repeat (first | apply rA | apply rN | apply rD)); exact HO106.out) hb); have n1_ := aM (Kd.R_below (by (with_reducible repeat (first | apply rA | apply rN | apply rD)); exact HO109.out) hb); have n2_ := aM (Kd.R_below (by (with_reducible repeat (first | apply rA | apply rN | apply rD)); exact HO113.out) hb); have n3_ := aM (Kd.R_below (by (with_reducible repeat (first | apply rA | apply rN | apply rD)); exact HO116.out) hb); have n4_ := aM (blk_below (g := gb101) (o := .cells #[.int .i64 a0_0, .slice A0_1 l0_1.length c0_1, .slice A0_2 l0_2.length c0_2] 25 (0, 0)) (by (with_reducible repeat (first | refine bN ?_ _ | refine bD ?_ | refine bA ?_ _)); exact BK101.out) hb); have n5_ := aM (below_step (by repeat (first | (with_reducible first | exact HB.out | apply below_alloc | apply pw_below_drewN | apply below_drew1 | refine below_set ?_ GE101.out) | exact HB.out)) hb); have n6_ := aM (hbox); have n7_ := aM ((by rw [hg]; exact (below_size (by repeat (first | (with_reducible first | exact HB.out | apply below_alloc | apply pw_below_drewN | apply below_drew1 | refine below_set ?_ GE101.out) | exact HB.out))) : w.heap.size ≤ gb118)); have n8_ := aM ((by rw [hg]; exact (below_size (by repeat (first | (with_reducible first | exact HB.out | apply below_alloc | apply pw_below_drewN | apply below_drew1 | refine below_set ?_ GE101.out) | exact HB.out))) : w.heap.size ≤ gb118)); have n9_ := aM ((by rw [hg]; exact Nat.ne_of_lt (blk_lt (g := gb101) (o := .cells #[.int .i64 a0_0, .slice A0_1 l0_1.length c0_1, .slice A0_2 l0_2.length c0_2] 25 (0, 0)) (by (with_reducible repeat (first | refine bN ?_ _ | refine bD ?_ | refine bA ?_ _)); exact BK101.out)) : gb101 ≠ gb118)); have n10_ := aM ((by rw [hg]; exact Nat.ne_of_gt (blk_lt (g := gb101) (o := .cells #[.int .i64 a0_0, .slice A0_1 l0_1.length c0_1, .slice A0_2 l0_2.length c0_2] 25 (0, 0)) (by (with_reducible repeat (first | refine bN ?_ _ | refine bD ?_ | refine bA ?_ _)); exact BK101.out)) : gb118 ≠ gb101)); clear HO106; clear HO109; clear HO113; clear HO116; clear BK101; clear HB; have HO106 := n0_; have HO109 := n1_; have HO113 := n2_; have HO116 := n3_; have BK101 := n4_; have HB := n5_; have BK118 := n6_; have GW118 := n7_; have GE118 := n8_; have NB101_118 := n9_; have NB118_101 := n10_; clear n0_ n1_ n2_ n3_ n4_ n5_ n6_ n7_ n8_ n9_ n10_; clear hb hbox hg; have hnb21 := NB118_101.out; have hnc21 := NB101_118.out; have hcz22_0 : w20.cell? ⟨gb118, 0, none⟩ = some (.int .i64 0) := (blk_cell BK118.out 0).trans rfl; have hcz22_1 : w20.cell? ⟨gb118, 1, none⟩ = some (.slice none 0 0) := (blk_cell BK118.out 1).trans rfl; have hcz22_2 : w20.cell? ⟨gb118, 2, none⟩ = some (.slice none 0 0) := (blk_cell BK118.out 2).trans rfl; have hfz22_0 := blk_frozen BK118.out 0; have hfz22_1 := blk_frozen BK118.out 1; have hfz22_2 := blk_frozen BK118.out 2; obtain ⟨Ao23, co23, eo23⟩ := Kd.R_slice HO113.out; subst eo23; obtain ⟨Ao24, co24, eo24⟩ := Kd.R_slice HO116.out; subst eo24; have hcz25_0 : w20.cell? ⟨gb101, 0, none⟩ = some (.int .i64 a0_0) := (blk_cell BK101.out 0).trans rfl; have hcz25_1 : w20.cell? ⟨gb101, 1, none⟩ = some (.slice A0_1 l0_1.length c0_1) := (blk_cell BK101.out 1).trans rfl; have hcz25_2 : w20.cell? ⟨gb101, 2, none⟩ = some (.slice A0_2 l0_2.length c0_2) := (blk_cell BK101.out 2).trans rfl; have hfz25_0 := blk_frozen BK101.out 0; have hfz25_1 := blk_frozen BK101.out 1; have hfz25_2 := blk_frozen BK101.out 2) | ((with_reducible refine gate_callee (f := 9) rfl ?_); refine goesL_ (some 26) rfl rfl Try.func9 (by kernel_rfl) rfl #[.agg #[.int .i64 a0_0, .slice A0_1 l0_1.length c0_1, .slice A0_2 l0_2.length c0_2]] rfl (by (try simp only [List.map_toArray, List.map_cons, List.map_nil]); first | done | rfl | (simp only [List.length_drop, List.length_take]; rfl)) ?_; (with_reducible refine (laws_toHeap.calls k a0_0 _ _ l0_1 _ _ l0_2 t119 t120 t123 _ ?side1 ?side2 ?side3 ?side4 A9.out).mono ?_); (case side1 => exact Kd.C_below HR0_1.out (by repeat (first | (with_reducible first | exact HB.out | apply below_alloc | apply pw_below_drewN | apply below_drew1 | refine below_set ?_ GE101.out | refine below_set ?_ GE118.out) | exact HB.out))); (case side2 => exact HC0_1.out); (case side3 => exact Kd.C_below HR0_2.out (by repeat (first | (with_reducible first | exact HB.out | apply below_alloc | apply pw_below_drewN | apply below_drew1 | refine below_set ?_ GE101.out | refine below_set ?_ GE118.out) | exact HB.out))); (case side4 => exact HC0_2.out); rintro e w26 ⟨v121, v124, rfl, ho0, ho1, hb⟩; refine ⟨_, rfl, ?_⟩; have n0_ := aM (Kd.R_elder' (by (with_reducible repeat (first | apply rA | apply rN | apply rD)); exact (Kd.R_mono (Kd.R_far (p := ⟨gb118, 2, none⟩) (Kd.R_far (p := ⟨gb118, 1, none⟩) (Kd.R_far (p := ⟨gb118, 0, none⟩) (Kd.R_types HO106.out BK118.out (by decide)) (fun _ hk => hk.2) (.int .i64 t110)) (fun _ hk => hk.2) (.slice Ao23 t111.length co23)) (fun _ hk => hk.2) (.slice Ao24 t114.length co24)) (fun _ h_ => h_.1))) (Kd.R_base ho0) hb); have n1_ := aM (Kd.R_elder' (by (with_reducible repeat (first | apply rA | apply rN | apply rD)); exact (Kd.R_mono (Kd.R_far (p := ⟨gb118, 2, none⟩) (Kd.R_far (p := ⟨gb118, 1, none⟩) (Kd.R_far (p := ⟨gb118, 0, none⟩) (Kd.R_types HO109.out BK118.out (by decide)) (fun _ hk => hk.2) (.int .i64 t110)) (fun _ hk => hk.2) (.slice Ao23 t111.length co23)) (fun _ hk => hk.2) (.slice Ao24 t114.length co24)) (fun _ h_ => h_.1))) (Kd.R_base ho1) hb); have n2_ := aM (Kd.R_elder' (by (with_reducible repeat (first | apply rA | apply rN | apply rD)); exact (Kd.R_mono (Kd.R_far (p := ⟨gb118, 2, none⟩) (Kd.R_far (p := ⟨gb118, 1, none⟩) (Kd.R_far (p := ⟨gb118, 0, none⟩) (Kd.R_types HO113.out BK118.out (by decide)) (fun _ hk => hk.2) (.int .i64 t110)) (fun _ hk => hk.2) (.slice Ao23 t111.length co23)) (fun _ hk => hk.2) (.slice Ao24 t114.length co24)) (fun _ h_ => h_.1))) (Kd.R_base ho0) hb); have n3_ := aM (Kd.R_elder' (by (with_reducible repeat (first | apply rA | apply rN | apply rD)); exact (Kd.R_mono (Kd.R_far (p := ⟨gb118, 2, none⟩) (Kd.R_far (p := ⟨gb118, 1, none⟩) (Kd.R_far (p := ⟨gb118, 0, none⟩) (Kd.R_types HO116.out BK118.out (by decide)) (fun _ hk => hk.2) (.int .i64 t110)) (fun _ hk => hk.2) (.slice Ao23 t111.length co23)) (fun _ hk => hk.2) (.slice Ao24 t114.length co24)) (fun _ h_ => h_.1))) (Kd.R_base ho1) hb); have n4_ := aM (Kd.R_lower (Kd.R_new' (Kd.R_new' ho0 (Kd.R_lt (by (with_reducible repeat (first | apply rA | apply rN | apply rD)); exact (Kd.R_mono (Kd.R_far (p := ⟨gb118, 2, none⟩) (Kd.R_far (p := ⟨gb118, 1, none⟩) (Kd.R_far (p := ⟨gb118, 0, none⟩) (Kd.R_types HO106.out BK118.out (by decide)) (fun _ hk => hk.2) (.int .i64 t110)) (fun _ hk => hk.2) (.slice Ao23 t111.length co23)) (fun _ hk => hk.2) (.slice Ao24 t114.length co24)) (fun _ h_ => h_.1))))) (Kd.R_lt (by (with_reducible repeat (first | apply rA | apply rN | apply rD)); exact (Kd.R_mono (Kd.R_far (p := ⟨gb118, 2, none⟩) (Kd.R_far (p := ⟨gb118, 1, none⟩) (Kd.R_far (p := ⟨gb118, 0, none⟩) (Kd.R_types HO113.out BK118.out (by decide)) (fun _ hk => hk.2) (.int .i64 t110)) (fun _ hk => hk.2) (.slice Ao23 t111.length co23)) (fun _ hk => hk.2) (.slice Ao24 t114.length co24)) (fun _ h_ => h_.1))))) (below_size (by repeat (first | (with_reducible first | exact HB.out | apply below_alloc | apply pw_below_drewN | apply below_drew1 | refine below_set ?_ GE101.out | refine below_set ?_ GE118.out) | exact HB.out)))); have n5_ := aM (Kd.R_lower (Kd.R_new' (Kd.R_new' ho1 (Kd.R_lt (by (with_reducible repeat (first | apply rA | apply rN | apply rD)); exact (Kd.R_mono (Kd.R_far (p := ⟨gb118, 2, none⟩) (Kd.R_far (p := ⟨gb118, 1, none⟩) (Kd.R_far (p := ⟨gb118, 0, none⟩) (Kd.R_types HO109.out BK118.out (by decide)) (fun _ hk => hk.2) (.int .i64 t110)) (fun _ hk => hk.2) (.slice Ao23 t111.length co23)) (fun _ hk => hk.2) (.slice Ao24 t114.length co24)) (fun _ h_ => h_.1))))) (Kd.R_lt (by (with_reducible repeat (first | apply rA | apply rN | apply rD)); exact (Kd.R_mono (Kd.R_far (p := ⟨gb118, 2, none⟩) (Kd.R_far (p := ⟨gb118, 1, none⟩) (Kd.R_far (p := ⟨gb118, 0, none⟩) (Kd.R_types HO116.out BK118.out (by decide)) (fun _ hk => hk.2) (.int .i64 t110)) (fun _ hk => hk.2) (.slice Ao23 t111.length co23)) (fun _ hk => hk.2) (.slice Ao24 t114.length co24)) (fun _ h_ => h_.1))))) (below_size (by repeat (first | (with_reducible first | exact HB.out | apply below_alloc | apply pw_below_drewN | apply below_drew1 | refine below_set ?_ GE101.out | refine below_set ?_ GE118.out) | exact HB.out)))); have n6_ := aM (blk_below (g := gb101) (o := .cells #[.int .i64 a0_0, .slice A0_1 l0_1.length c0_1, .slice A0_2 l0_2.length c0_2] 25 (0, 0)) (by (with_reducible repeat (first | refine bN ?_ _ | refine bD ?_ | refine bA ?_ _)); refine blk_far ?_ NB101_118.out _; (with_reducible repeat (first | refine bN ?_ _ | refine bD ?_ | refine bA ?_ _)); refine blk_far ?_ NB101_118.out _; (with_reducible repeat (first | refine bN ?_ _ | refine bD ?_ | refine bA ?_ _)); refine blk_far ?_ NB101_118.out _; (with_reducible repeat (first | refine bN ?_ _ | refine bD ?_ | refine bA ?_ _)); exact BK101.out) hb); have n7_ := aM (blk_below (g := gb118) (o := .cells #[.int .i64 t110, .slice Ao23 t111.length co23, .slice Ao24 t114.length co24] 30 (0, 0)) (by (with_reducible repeat (first | refine bN ?_ _ | refine bD ?_ | refine bA ?_ _)); refine blk_put (cs := #[.int .i64 t110, .slice Ao23 t111.length co23, .slice none 0 0]) ?_ 2 _ rfl; (with_reducible repeat (first | refine bN ?_ _ | refine bD ?_ | refine bA ?_ _)); refine blk_put (cs := #[.int .i64 t110, .slice none 0 0, .slice none 0 0]) ?_ 1 _ rfl; (with_reducible repeat (first | refine bN ?_ _ | refine bD ?_ | refine bA ?_ _)); refine blk_put (cs := #[.int .i64 0, .slice none 0 0, .slice none 0 0]) ?_ 0 _ rfl; (with_reducible repeat (first | refine bN ?_ _ | refine bD ?_ | refine bA ?_ _)); exact BK118.out) hb); have n8_ := aM (below_step (by repeat (first | (with_reducible first | exact HB.out | apply below_alloc | apply pw_below_drewN | apply below_drew1 | refine below_set ?_ GE101.out | refine below_set ?_ GE118.out) | exact HB.out)) hb); clear HO106; clear HO109; clear HO113; clear HO116; clear BK101; clear BK118; clear HB; have HO106 := n0_; have HO109 := n1_; have HO113 := n2_; have HO116 := n3_; have HO122 := n4_; have HO125 := n5_; have BK101 := n6_; have BK118 := n7_; have HB := n8_; clear n0_ n1_ n2_ n3_ n4_ n5_ n6_ n7_ n8_; (try clear hb); (try clear hb2); (try clear hk); (try clear hi); (try clear ho0); (try clear ho1)) | ((with_reducible refine gate_dst (N := 6) rfl ?_); refine box_event ?hg (N := 6) ?hd (cs := #[.int .i64 0, .slice none 0 0, .slice none 0 0]) (t := 30) ?hr ?_; (case hd => rfl); (case hg => rfl); (case hr => first | (go_simp; done) | (go_simp; rfl)); intro gb126 hg w27 hbox hb; have n0_ := aM (Kd.R_below (by (with_reducible repeat (first | apply rA | apply rN | apply rD)); exact HO106.out) hb); have n1_ := aM (Kd.R_below (by (with_reducible repeat (first | apply rA | apply rN | apply rD)); exact HO109.out) hb); have n2_ := aM (Kd.R_below (by (with_reducible repeat (first | apply rA | apply rN | apply rD)); exact HO113.out) hb); have n3_ := aM (Kd.R_below (by (with_reducible repeat (first | apply rA | apply rN | apply rD)); exact HO116.out) hb); have n4_ := aM (Kd.R_below (by (with_reducible repeat (first | apply rA | apply rN | apply rD)); exact HO122.out) hb); have n5_ := aM (Kd.R_below (by (with_reducible repeat (first | apply rA | apply rN | apply rD)); exact HO125.out) hb); have n6_ := aM (blk_below (g := gb101) (o := .cells #[.int .i64 a0_0, .slice A0_1 l0_1.length c0_1, .slice A0_2 l0_2.length c0_2] 25 (0, 0)) (by (with_reducible repeat (first | refine bN ?_ _ | refine bD ?_ | refine bA ?_ _)); exact BK101.out) hb); have n7_ := aM (blk_below (g := gb118) (o := .cells #[.int .i64 t110, .slice Ao23 t111.length co23, .slice Ao24 t114.length co24] 30 (0, 0)) (by (with_reducible repeat (first | refine bN ?_ _ | refine bD ?_ | refine bA ?_ _)); exact BK118.out) hb); have n8_ := aM (below_step (by repeat (first | (with_reducible first | exact HB.out | apply below_alloc | apply pw_below_drewN | apply below_drew1 | refine below_set ?_ GE101.out | refine below_set ?_ GE118.out) | exact HB.out)) hb); have n9_ := aM (hbox); have n10_ := aM ((by rw [hg]; exact (below_size (by repeat (first | (with_reducible first | exact HB.out | apply below_alloc | apply pw_below_drewN | apply below_drew1 | refine below_set ?_ GE101.out | refine below_set ?_ GE118.out) | exact HB.out))) : w.heap.size ≤ gb126)); have n11_ := aM ((by rw [hg]; exact (below_size (by repeat (first | (with_reducible first | exact HB.out | apply below_alloc | apply pw_below_drewN | apply below_drew1 | refine below_set ?_ GE101.out | refine below_set ?_ GE118.out) | exact HB.out))) : w.heap.size ≤ gb126)); have n12_ := aM ((by rw [hg]; exact Nat.ne_of_lt (blk_lt (g := gb101) (o := .cells #[.int .i64 a0_0, .slice A0_1 l0_1.length c0_1, .slice A0_2 l0_2.length c0_2] 25 (0, 0)) (by (with_reducible repeat (first | refine bN ?_ _ | refine bD ?_ | refine bA ?_ _)); exact BK101.out)) : gb101 ≠ gb126)); have n13_ := aM ((by rw [hg]; exact Nat.ne_of_gt (blk_lt (g := gb101) (o := .cells #[.int .i64 a0_0, .slice A0_1 l0_1.length c0_1, .slice A0_2 l0_2.length c0_2] 25 (0, 0)) (by (with_reducible repeat (first | refine bN ?_ _ | refine bD ?_ | refine bA ?_ _)); exact BK101.out)) : gb126 ≠ gb101)); have n14_ := aM ((by rw [hg]; exact Nat.ne_of_lt (blk_lt (g := gb118) (o := .cells #[.int .i64 t110, .slice Ao23 t111.length co23, .slice Ao24 t114.length co24] 30 (0, 0)) (by (with_reducible repeat (first | refine bN ?_ _ | refine bD ?_ | refine bA ?_ _)); exact BK118.out)) : gb118 ≠ gb126)); have n15_ := aM ((by rw [hg]; exact Nat.ne_of_gt (blk_lt (g := gb118) (o := .cells #[.int .i64 t110, .slice Ao23 t111.length co23, .slice Ao24 t114.length co24] 30 (0, 0)) (by (with_reducible repeat (first | refine bN ?_ _ | refine bD ?_ | refine bA ?_ _)); exact BK118.out)) : gb126 ≠ gb118)); clear HO106; clear HO109; clear HO113; clear HO116; clear HO122; clear HO125; clear BK101; clear BK118; clear HB; have HO106 := n0_; have HO109 := n1_; have HO113 := n2_; have HO116 := n3_; have HO122 := n4_; have HO125 := n5_; have BK101 := n6_; have BK118 := n7_; have HB := n8_; have BK126 := n9_; have GW126 := n10_; have GE126 := n11_; have NB101_126 := n12_; have NB126_101 := n13_; have NB118_126 := n14_; have NB126_118 := n15_; clear n0_ n1_ n2_ n3_ n4_ n5_ n6_ n7_ n8_ n9_ n10_ n11_ n12_ n13_ n14_ n15_; clear hb hbox hg; have hnb28 := NB126_101.out; have hnc28 := NB101_126.out; have hnb29 := NB126_118.out; have hnc29 := NB118_126.out; have hcz30_0 : w27.cell? ⟨gb126, 0, none⟩ = some (.int .i64 0) := (blk_cell BK126.out 0).trans rfl; have hcz30_1 : w27.cell? ⟨gb126, 1, none⟩ = some (.slice none 0 0) := (blk_cell BK126.out 1).trans rfl; have hcz30_2 : w27.cell? ⟨gb126, 2, none⟩ = some (.slice none 0 0) := (blk_cell BK126.out 2).trans rfl; have hfz30_0 := blk_frozen BK126.out 0; have hfz30_1 := blk_frozen BK126.out 1; have hfz30_2 := blk_frozen BK126.out 2; obtain ⟨Ao31, co31, eo31⟩ := Kd.R_slice HO122.out; subst eo31; obtain ⟨Ao32, co32, eo32⟩ := Kd.R_slice HO125.out; subst eo32) | ((with_reducible refine gate_callee (f := 22) rfl ?_); refine goesL_ (some 29) rfl rfl Try.func22 (by kernel_rfl) rfl #[.agg #[.int .i64 t119, .slice Ao31 t120.length co31, .slice Ao32 t123.length co32]] rfl (by (try simp only [List.map_toArray, List.map_cons, List.map_nil]); first | done | rfl | (simp only [List.length_drop, List.length_take]; rfl)) ?_; (with_reducible refine (impl_MinorCollect.calls k t119 _ _ t120 _ _ t123 t127 t128 t131 t134 _ ?side1 ?side2 ?side3 ?side4 A10.out).mono ?_); (case side1 => refine (Kd.R_reads' (e := 44) (base := w.heap.size) (ok := fun k_ => ((True ∧ some k_ ≠ (.slice Ao17 t104.length co17 : Value).ownBlock) ∧ some k_ ≠ (.slice Ao23 t111.length co23 : Value).ownBlock)) (n := t120.length) (c := co31) ?_).2.2; exact (by (with_reducible repeat (first | apply rA | apply rN | apply rD)); exact (Kd.R_mono (Kd.R_far (p := ⟨gb126, 2, none⟩) (Kd.R_far (p := ⟨gb126, 1, none⟩) (Kd.R_far (p := ⟨gb126, 0, none⟩) (Kd.R_types HO122.out BK126.out (by decide)) (fun _ hk => hk.2) (.int .i64 t119)) (fun _ hk => hk.2) (.slice Ao31 t120.length co31)) (fun _ hk => hk.2) (.slice Ao32 t123.length co32)) (fun _ h_ => h_.1)))); (case side2 => exact (Kd.R_reads' HO122.out).2.1); (case side3 => refine (Kd.R_reads' (e := 3) (base := w.heap.size) (ok := fun k_ => ((True ∧ some k_ ≠ (.slice Ao18 t107.length co18 : Value).ownBlock) ∧ some k_ ≠ (.slice Ao24 t114.length co24 : Value).ownBlock)) (n := t123.length) (c := co32) ?_).2.2; exact (by (with_reducible repeat (first | apply rA | apply rN | apply rD)); exact (Kd.R_mono (Kd.R_far (p := ⟨gb126, 2, none⟩) (Kd.R_far (p := ⟨gb126, 1, none⟩) (Kd.R_far (p := ⟨gb126, 0, none⟩) (Kd.R_types HO125.out BK126.out (by decide)) (fun _ hk => hk.2) (.int .i64 t119)) (fun _ hk => hk.2) (.slice Ao31 t120.length co31)) (fun _ hk => hk.2) (.slice Ao32 t123.length co32)) (fun _ h_ => h_.1)))); (case side4 => exact (Kd.R_reads' HO125.out).2.1); rintro e w33 ⟨v129, v132, rfl, ho0, ho1, hb⟩; refine ⟨_, rfl, ?_⟩; have n0_ := aM (Kd.R_elder' (by (with_reducible repeat (first | apply rA | apply rN | apply rD)); exact (Kd.R_mono (Kd.R_far (p := ⟨gb126, 2, none⟩) (Kd.R_far (p := ⟨gb126, 1, none⟩) (Kd.R_far (p := ⟨gb126, 0, none⟩) (Kd.R_types HO106.out BK126.out (by decide)) (fun _ hk => hk.2) (.int .i64 t119)) (fun _ hk => hk.2) (.slice Ao31 t120.length co31)) (fun _ hk => hk.2) (.slice Ao32 t123.length co32)) (fun _ h_ => h_.1))) (Kd.R_base ho0) hb); have n1_ := aM (Kd.R_elder' (by (with_reducible repeat (first | apply rA | apply rN | apply rD)); exact (Kd.R_mono (Kd.R_far (p := ⟨gb126, 2, none⟩) (Kd.R_far (p := ⟨gb126, 1, none⟩) (Kd.R_far (p := ⟨gb126, 0, none⟩) (Kd.R_types HO109.out BK126.out (by decide)) (fun _ hk => hk.2) (.int .i64 t119)) (fun _ hk => hk.2) (.slice Ao31 t120.length co31)) (fun _ hk => hk.2) (.slice Ao32 t123.length co32)) (fun _ h_ => h_.1))) (Kd.R_base ho1) hb); have n2_ := aM (Kd.R_elder' (by (with_reducible repeat (first | apply rA | apply rN | apply rD)); exact (Kd.R_mono (Kd.R_far (p := ⟨gb126, 2, none⟩) (Kd.R_far (p := ⟨gb126, 1, none⟩) (Kd.R_far (p := ⟨gb126, 0, none⟩) (Kd.R_types HO113.out BK126.out (by decide)) (fun _ hk => hk.2) (.int .i64 t119)) (fun _ hk => hk.2) (.slice Ao31 t120.length co31)) (fun _ hk => hk.2) (.slice Ao32 t123.length co32)) (fun _ h_ => h_.1))) (Kd.R_base ho0) hb); have n3_ := aM (Kd.R_elder' (by (with_reducible repeat (first | apply rA | apply rN | apply rD)); exact (Kd.R_mono (Kd.R_far (p := ⟨gb126, 2, none⟩) (Kd.R_far (p := ⟨gb126, 1, none⟩) (Kd.R_far (p := ⟨gb126, 0, none⟩) (Kd.R_types HO116.out BK126.out (by decide)) (fun _ hk => hk.2) (.int .i64 t119)) (fun _ hk => hk.2) (.slice Ao31 t120.length co31)) (fun _ hk => hk.2) (.slice Ao32 t123.length co32)) (fun _ h_ => h_.1))) (Kd.R_base ho1) hb); have n4_ := aM (Kd.R_elder' (by (with_reducible repeat (first | apply rA | apply rN | apply rD)); exact (Kd.R_mono (Kd.R_far (p := ⟨gb126, 2, none⟩) (Kd.R_far (p := ⟨gb126, 1, none⟩) (Kd.R_far (p := ⟨gb126, 0, none⟩) (Kd.R_types HO122.out BK126.out (by decide)) (fun _ hk => hk.2) (.int .i64 t119)) (fun _ hk => hk.2) (.slice Ao31 t120.length co31)) (fun _ hk => hk.2) (.slice Ao32 t123.length co32)) (fun _ h_ => h_.1))) (Kd.R_base ho0) hb); have n5_ := aM (Kd.R_elder' (by (with_reducible repeat (first | apply rA | apply rN | apply rD)); exact (Kd.R_mono (Kd.R_far (p := ⟨gb126, 2, none⟩) (Kd.R_far (p := ⟨gb126, 1, none⟩) (Kd.R_far (p := ⟨gb126, 0, none⟩) (Kd.R_types HO125.out BK126.out (by decide)) (fun _ hk => hk.2) (.int .i64 t119)) (fun _ hk => hk.2) (.slice Ao31 t120.length co31)) (fun _ hk => hk.2) (.slice Ao32 t123.length co32)) (fun _ h_ => h_.1))) (Kd.R_base ho1) hb); have n6_ := aM (Kd.R_lower (Kd.R_new' (Kd.R_new' (Kd.R_new' ho0 (Kd.R_lt (by (with_reducible repeat (first | apply rA | apply rN | apply rD)); exact (Kd.R_mono (Kd.R_far (p := ⟨gb126, 2, none⟩) (Kd.R_far (p := ⟨gb126, 1, none⟩) (Kd.R_far (p := ⟨gb126, 0, none⟩) (Kd.R_types HO106.out BK126.out (by decide)) (fun _ hk => hk.2) (.int .i64 t119)) (fun _ hk => hk.2) (.slice Ao31 t120.length co31)) (fun _ hk => hk.2) (.slice Ao32 t123.length co32)) (fun _ h_ => h_.1))))) (Kd.R_lt (by (with_reducible repeat (first | apply rA | apply rN | apply rD)); exact (Kd.R_mono (Kd.R_far (p := ⟨gb126, 2, none⟩) (Kd.R_far (p := ⟨gb126, 1, none⟩) (Kd.R_far (p := ⟨gb126, 0, none⟩) (Kd.R_types HO113.out BK126.out (by decide)) (fun _ hk => hk.2) (.int .i64 t119)) (fun _ hk => hk.2) (.slice Ao31 t120.length co31)) (fun _ hk => hk.2) (.slice Ao32 t123.length co32)) (fun _ h_ => h_.1))))) (Kd.R_lt (by (with_reducible repeat (first | apply rA | apply rN | apply rD)); exact (Kd.R_mono (Kd.R_far (p := ⟨gb126, 2, none⟩) (Kd.R_far (p := ⟨gb126, 1, none⟩) (Kd.R_far (p := ⟨gb126, 0, none⟩) (Kd.R_types HO122.out BK126.out (by decide)) (fun _ hk => hk.2) (.int .i64 t119)) (fun _ hk => hk.2) (.slice Ao31 t120.length co31)) (fun _ hk => hk.2) (.slice Ao32 t123.length co32)) (fun _ h_ => h_.1))))) (below_size (by repeat (first | (with_reducible first | exact HB.out | apply below_alloc | apply pw_below_drewN | apply below_drew1 | refine below_set ?_ GE101.out | refine below_set ?_ GE118.out | refine below_set ?_ GE126.out) | exact HB.out)))); have n7_ := aM (Kd.R_lower (Kd.R_new' (Kd.R_new' (Kd.R_new' ho1 (Kd.R_lt (by (with_reducible repeat (first | apply rA | apply rN | apply rD)); exact (Kd.R_mono (Kd.R_far (p := ⟨gb126, 2, none⟩) (Kd.R_far (p := ⟨gb126, 1, none⟩) (Kd.R_far (p := ⟨gb126, 0, none⟩) (Kd.R_types HO109.out BK126.out (by decide)) (fun _ hk => hk.2) (.int .i64 t119)) (fun _ hk => hk.2) (.slice Ao31 t120.length co31)) (fun _ hk => hk.2) (.slice Ao32 t123.length co32)) (fun _ h_ => h_.1))))) (Kd.R_lt (by (with_reducible repeat (first | apply rA | apply rN | apply rD)); exact (Kd.R_mono (Kd.R_far (p := ⟨gb126, 2, none⟩) (Kd.R_far (p := ⟨gb126, 1, none⟩) (Kd.R_far (p := ⟨gb126, 0, none⟩) (Kd.R_types HO116.out BK126.out (by decide)) (fun _ hk => hk.2) (.int .i64 t119)) (fun _ hk => hk.2) (.slice Ao31 t120.length co31)) (fun _ hk => hk.2) (.slice Ao32 t123.length co32)) (fun _ h_ => h_.1))))) (Kd.R_lt (by (with_reducible repeat (first | apply rA | apply rN | apply rD)); exact (Kd.R_mono (Kd.R_far (p := ⟨gb126, 2, none⟩) (Kd.R_far (p := ⟨gb126, 1, none⟩) (Kd.R_far (p := ⟨gb126, 0, none⟩) (Kd.R_types HO125.out BK126.out (by decide)) (fun _ hk => hk.2) (.int .i64 t119)) (fun _ hk => hk.2) (.slice Ao31 t120.length co31)) (fun _ hk => hk.2) (.slice Ao32 t123.length co32)) (fun _ h_ => h_.1))))) (below_size (by repeat (first | (with_reducible first | exact HB.out | apply below_alloc | apply pw_below_drewN | apply below_drew1 | refine below_set ?_ GE101.out | refine below_set ?_ GE118.out | refine below_set ?_ GE126.out) | exact HB.out)))); have n8_ := aM (blk_below (g := gb101) (o := .cells #[.int .i64 a0_0, .slice A0_1 l0_1.length c0_1, .slice A0_2 l0_2.length c0_2] 25 (0, 0)) (by (with_reducible repeat (first | refine bN ?_ _ | refine bD ?_ | refine bA ?_ _)); refine blk_far ?_ NB101_126.out _; (with_reducible repeat (first | refine bN ?_ _ | refine bD ?_ | refine bA ?_ _)); refine blk_far ?_ NB101_126.out _; (with_reducible repeat (first | refine bN ?_ _ | refine bD ?_ | refine bA ?_ _)); refine blk_far ?_ NB101_126.out _; (with_reducible repeat (first | refine bN ?_ _ | refine bD ?_ | refine bA ?_ _)); exact BK101.out) hb); have n9_ := aM (blk_below (g := gb118) (o := .cells #[.int .i64 t110, .slice Ao23 t111.length co23, .slice Ao24 t114.length co24] 30 (0, 0)) (by (with_reducible repeat (first | refine bN ?_ _ | refine bD ?_ | refine bA ?_ _)); refine blk_far ?_ NB118_126.out _; (with_reducible repeat (first | refine bN ?_ _ | refine bD ?_ | refine bA ?_ _)); refine blk_far ?_ NB118_126.out _; (with_reducible repeat (first | refine bN ?_ _ | refine bD ?_ | refine bA ?_ _)); refine blk_far ?_ NB118_126.out _; (with_reducible repeat (first | refine bN ?_ _ | refine bD ?_ | refine bA ?_ _)); exact BK118.out) hb); have n10_ := aM (blk_below (g := gb126) (o := .cells #[.int .i64 t119, .slice Ao31 t120.length co31, .slice Ao32 t123.length co32] 30 (0, 0)) (by (with_reducible repeat (first | refine bN ?_ _ | refine bD ?_ | refine bA ?_ _)); refine blk_put (cs := #[.int .i64 t119, .slice Ao31 t120.length co31, .slice none 0 0]) ?_ 2 _ rfl; (with_reducible repeat (first | refine bN ?_ _ | refine bD ?_ | refine bA ?_ _)); refine blk_put (cs := #[.int .i64 t119, .slice none 0 0, .slice none 0 0]) ?_ 1 _ rfl; (with_reducible repeat (first | refine bN ?_ _ | refine bD ?_ | refine bA ?_ _)); refine blk_put (cs := #[.int .i64 0, .slice none 0 0, .slice none 0 0]) ?_ 0 _ rfl; (with_reducible repeat (first | refine bN ?_ _ | refine bD ?_ | refine bA ?_ _)); exact BK126.out) hb); have n11_ := aM (below_step (by repeat (first | (with_reducible first | exact HB.out | apply below_alloc | apply pw_below_drewN | apply below_drew1 | refine below_set ?_ GE101.out | refine below_set ?_ GE118.out | refine below_set ?_ GE126.out) | exact HB.out)) hb); clear HO106; clear HO109; clear HO113; clear HO116; clear HO122; clear HO125; clear BK101; clear BK118; clear BK126; clear HB; have HO106 := n0_; have HO109 := n1_; have HO113 := n2_; have HO116 := n3_; have HO122 := n4_; have HO125 := n5_; have HO130 := n6_; have HO133 := n7_; have BK101 := n8_; have BK118 := n9_; have BK126 := n10_; have HB := n11_; clear n0_ n1_ n2_ n3_ n4_ n5_ n6_ n7_ n8_ n9_ n10_ n11_; (try clear hb); (try clear hb2); (try clear hk); (try clear hi); (try clear ho0); (try clear ho1)) | ((with_reducible refine gate_dst (N := 7) rfl ?_); refine box_event ?hg (N := 7) ?hd (cs := #[.int .i64 0, .slice none 0 0, .slice none 0 0]) (t := 30) ?hr ?_; (case hd => rfl); (case hg => rfl); (case hr => first | (go_simp; done) | (go_simp; rfl)); intro gb135 hg w34 hbox hb; have n0_ := aM (Kd.R_below (by (with_reducible repeat (first | apply rA | apply rN | apply rD)); exact HO106.out) hb); have n1_ := aM (Kd.R_below (by (with_reducible repeat (first | apply rA | apply rN | apply rD)); exact HO109.out) hb); have n2_ := aM (Kd.R_below (by (with_reducible repeat (first | apply rA | apply rN | apply rD)); exact HO113.out) hb); have n3_ := aM (Kd.R_below (by (with_reducible repeat (first | apply rA | apply rN | apply rD)); exact HO116.out) hb); have n4_ := aM (Kd.R_below (by (with_reducible repeat (first | apply rA | apply rN | apply rD)); exact HO122.out) hb); have n5_ := aM (Kd.R_below (by (with_reducible repeat (first | apply rA | apply rN | apply rD)); exact HO125.out) hb); have n6_ := aM (Kd.R_below (by (with_reducible repeat (first | apply rA | apply rN | apply rD)); exact HO130.out) hb); have n7_ := aM (Kd.R_below (by (with_reducible repeat (first | apply rA | apply rN | apply rD)); exact HO133.out) hb); have n8_ := aM (blk_below (g := gb101) (o := .cells #[.int .i64 a0_0, .slice A0_1 l0_1.length c0_1, .slice A0_2 l0_2.length c0_2] 25 (0, 0)) (by (with_reducible repeat (first | refine bN ?_ _ | refine bD ?_ | refine bA ?_ _)); exact BK101.out) hb); have n9_ := aM (blk_below (g := gb118) (o := .cells #[.int .i64 t110, .slice Ao23 t111.length co23, .slice Ao24 t114.length co24] 30 (0, 0)) (by (with_reducible repeat (first | refine bN ?_ _ | refine bD ?_ | refine bA ?_ _)); exact BK118.out) hb); have n10_ := aM (blk_below (g := gb126) (o := .cells #[.int .i64 t119, .slice Ao31 t120.length co31, .slice Ao32 t123.length co32] 30 (0, 0)) (by (with_reducible repeat (first | refine bN ?_ _ | refine bD ?_ | refine bA ?_ _)); exact BK126.out) hb); have n11_ := aM (below_step (by repeat (first | (with_reducible first | exact HB.out | apply below_alloc | apply pw_below_drewN | apply below_drew1 | refine below_set ?_ GE101.out | refine below_set ?_ GE118.out | refine below_set ?_ GE126.out) | exact HB.out)) hb); have n12_ := aM (hbox); have n13_ := aM ((by rw [hg]; exact (below_size (by repeat (first | (with_reducible first | exact HB.out | apply below_alloc | apply pw_below_drewN | apply below_drew1 | refine below_set ?_ GE101.out | refine below_set ?_ GE118.out | refine below_set ?_ GE126.out) | exact HB.out))) : w.heap.size ≤ gb135)); have n14_ := aM ((by rw [hg]; exact (below_size (by repeat (first | (with_reducible first | exact HB.out | apply below_alloc | apply pw_below_drewN | apply below_drew1 | refine below_set ?_ GE101.out | refine below_set ?_ GE118.out | refine below_set ?_ GE126.out) | exact HB.out))) : w.heap.size ≤ gb135)); have n15_ := aM ((by rw [hg]; exact Nat.ne_of_lt (blk_lt (g := gb101) (o := .cells #[.int .i64 a0_0, .slice A0_1 l0_1.length c0_1, .slice A0_2 l0_2.length c0_2] 25 (0, 0)) (by (with_reducible repeat (first | refine bN ?_ _ | refine bD ?_ | refine bA ?_ _)); exact BK101.out)) : gb101 ≠ gb135)); have n16_ := aM ((by rw [hg]; exact Nat.ne_of_gt (blk_lt (g := gb101) (o := .cells #[.int .i64 a0_0, .slice A0_1 l0_1.length c0_1, .slice A0_2 l0_2.length c0_2] 25 (0, 0)) (by (with_reducible repeat (first | refine bN ?_ _ | refine bD ?_ | refine bA ?_ _)); exact BK101.out)) : gb135 ≠ gb101)); have n17_ := aM ((by rw [hg]; exact Nat.ne_of_lt (blk_lt (g := gb118) (o := .cells #[.int .i64 t110, .slice Ao23 t111.length co23, .slice Ao24 t114.length co24] 30 (0, 0)) (by (with_reducible repeat (first | refine bN ?_ _ | refine bD ?_ | refine bA ?_ _)); exact BK118.out)) : gb118 ≠ gb135)); have n18_ := aM ((by rw [hg]; exact Nat.ne_of_gt (blk_lt (g := gb118) (o := .cells #[.int .i64 t110, .slice Ao23 t111.length co23, .slice Ao24 t114.length co24] 30 (0, 0)) (by (with_reducible repeat (first | refine bN ?_ _ | refine bD ?_ | refine bA ?_ _)); exact BK118.out)) : gb135 ≠ gb118)); have n19_ := aM ((by rw [hg]; exact Nat.ne_of_lt (blk_lt (g := gb126) (o := .cells #[.int .i64 t119, .slice Ao31 t120.length co31, .slice Ao32 t123.length co32] 30 (0, 0)) (by (with_reducible repeat (first | refine bN ?_ _ | refine bD ?_ | refine bA ?_ _)); exact BK126.out)) : gb126 ≠ gb135)); have n20_ := aM ((by rw [hg]; exact Nat.ne_of_gt (blk_lt (g := gb126) (o := .cells #[.int .i64 t119, .slice Ao31 t120.length co31, .slice Ao32 t123.length co32] 30 (0, 0)) (by (with_reducible repeat (first | refine bN ?_ _ | refine bD ?_ | refine bA ?_ _)); exact BK126.out)) : gb135 ≠ gb126)); clear HO106; clear HO109; clear HO113; clear HO116; clear HO122; clear HO125; clear HO130; clear HO133; clear BK101; clear BK118; clear BK126; clear HB; have HO106 := n0_; have HO109 := n1_; have HO113 := n2_; have HO116 := n3_; have HO122 := n4_; have HO125 := n5_; have HO130 := n6_; have HO133 := n7_; have BK101 := n8_; have BK118 := n9_; have BK126 := n10_; have HB := n11_; have BK135 := n12_; have GW135 := n13_; have GE135 := n14_; have NB101_135 := n15_; have NB135_101 := n16_; have NB118_135 := n17_; have NB135_118 := n18_; have NB126_135 := n19_; have NB135_126 := n20_; clear n0_ n1_ n2_ n3_ n4_ n5_ n6_ n7_ n8_ n9_ n10_ n11_ n12_ n13_ n14_ n15_ n16_ n17_ n18_ n19_ n20_; clear hb hbox hg; have hnb35 := NB135_101.out; have hnc35 := NB101_135.out; have hnb36 := NB135_118.out; have hnc36 := NB118_135.out; have hnb37 := NB135_126.out; have hnc37 := NB126_135.out; have hcz38_0 : w34.cell? ⟨gb135, 0, none⟩ = some (.int .i64 0) := (blk_cell BK135.out 0).trans rfl; have hcz38_1 : w34.cell? ⟨gb135, 1, none⟩ = some (.slice none 0 0) := (blk_cell BK135.out 1).trans rfl; have hcz38_2 : w34.cell? ⟨gb135, 2, none⟩ = some (.slice none 0 0) := (blk_cell BK135.out 2).trans rfl; have hfz38_0 := blk_frozen BK135.out 0; have hfz38_1 := blk_frozen BK135.out 1; have hfz38_2 := blk_frozen BK135.out 2; obtain ⟨Ao39, co39, eo39⟩ := Kd.R_slice HO130.out; subst eo39; obtain ⟨Ao40, co40, eo40⟩ := Kd.R_slice HO133.out; subst eo40))
    (try simp only [Act.put, List.setIfInBounds_toArray, List.set_cons_zero, List.set_cons_succ])
    go_cut [40] (fun v40 wc => ∃ (kq : Nat) (x40_10 : Bool), v40 = .bool x40_10 ∧ Aside0 (laws_FnExactMinorCollect.j0 kq t117 t134 x40_10 a0_0 l0_1 l0_2 t110 t111 t114 t119 t120 t123 t127 t128 t131 = some r) ∧ Aside0 (kq ≤ k) ∧ Aside0 (Kd.R k44 44 wc w.heap.size (fun k_ => some k_ ≠ ((.slice Ao31 t120.length co31) : Value).ownBlock ∧ some k_ ≠ ((.slice Ao39 t128.length co39) : Value).ownBlock) (.slice Ao23 t111.length co23) t111) ∧ Aside0 (Kd.R (Kd.int .i64) 3 wc w.heap.size (fun k_ => some k_ ≠ ((.slice Ao32 t123.length co32) : Value).ownBlock ∧ some k_ ≠ ((.slice Ao40 t131.length co40) : Value).ownBlock) (.slice Ao24 t114.length co24) t114) ∧ Aside0 (Kd.R k44 44 wc w.heap.size (fun k_ => some k_ ≠ ((.slice Ao23 t111.length co23) : Value).ownBlock ∧ some k_ ≠ ((.slice Ao39 t128.length co39) : Value).ownBlock) (.slice Ao31 t120.length co31) t120) ∧ Aside0 (Kd.R (Kd.int .i64) 3 wc w.heap.size (fun k_ => some k_ ≠ ((.slice Ao24 t114.length co24) : Value).ownBlock ∧ some k_ ≠ ((.slice Ao40 t131.length co40) : Value).ownBlock) (.slice Ao32 t123.length co32) t123) ∧ Aside0 (Kd.R k44 44 wc w.heap.size (fun k_ => some k_ ≠ ((.slice Ao23 t111.length co23) : Value).ownBlock ∧ some k_ ≠ ((.slice Ao31 t120.length co31) : Value).ownBlock) (.slice Ao39 t128.length co39) t128) ∧ Aside0 (Kd.R (Kd.int .i64) 3 wc w.heap.size (fun k_ => some k_ ≠ ((.slice Ao24 t114.length co24) : Value).ownBlock ∧ some k_ ≠ ((.slice Ao32 t123.length co32) : Value).ownBlock) (.slice Ao40 t131.length co40) t131) ∧ Aside0 (wc.heap[gb101]? = some (.cells #[.int .i64 a0_0, (.slice A0_1 l0_1.length c0_1), (.slice A0_2 l0_2.length c0_2)] 25 (0, 0))) ∧ Aside0 (wc.heap[gb118]? = some (.cells #[.int .i64 t110, (.slice Ao23 t111.length co23), (.slice Ao24 t114.length co24)] 30 (0, 0))) ∧ Aside0 (wc.heap[gb126]? = some (.cells #[.int .i64 t119, (.slice Ao31 t120.length co31), (.slice Ao32 t123.length co32)] 30 (0, 0))) ∧ Aside0 (wc.heap[gb135]? = some (.cells #[.int .i64 t127, (.slice Ao39 t128.length co39), (.slice Ao40 t131.length co40)] 30 (0, 0))) ∧ Aside0 (Below w.heap.size w wc))
    case first =>
      have H := HC11.out
      clear HC11
      replace H := Option.bind_eq_some_iff.mp H
      obtain ⟨t136, A410, H⟩ := H
      replace H : (if t136 = true then (laws_FnExactMinorCollect.j0 k t117 t134 (t134 != t117) a0_0 l0_1 l0_2 t110 t111 t114 t119 t120 t123 t127 t128 t131) else (laws_FnExactMinorCollect.j0 k t117 t134 true a0_0 l0_1 l0_2 t110 t111 t114 t119 t120 t123 t127 t128 t131)) = some r := H
      have A41 := aM A410
      clear A410
      by_cases c42 : t136 = true
      · subst c42
        have H1 : (laws_FnExactMinorCollect.j0 k t117 t134 (t134 != t117) a0_0 l0_1 l0_2 t110 t111 t114 t119 t120 t123 t127 t128 t131) = some r := by rw [if_pos rfl] at H; exact H
        clear H
        have H := H1
        clear H1
        have H' := aM H
        clear H
        have hnb43 := NB135_101.out
        have hnc43 := NB101_135.out
        have hnb44 := NB135_118.out
        have hnc44 := NB118_135.out
        have hnb45 := NB135_126.out
        have hnc45 := NB126_135.out
        have hcz46_0 : w34.cell? ⟨gb135, 0, none⟩ = some (.int .i64 0) := (blk_cell BK135.out 0).trans rfl
        have hcz46_1 : w34.cell? ⟨gb135, 1, none⟩ = some (.slice none 0 0) := (blk_cell BK135.out 1).trans rfl
        have hcz46_2 : w34.cell? ⟨gb135, 2, none⟩ = some (.slice none 0 0) := (blk_cell BK135.out 2).trans rfl
        have hfz46_0 := blk_frozen BK135.out 0
        have hfz46_1 := blk_frozen BK135.out 1
        have hfz46_2 := blk_frozen BK135.out 2
        have hnb47 := NB118_101.out
        have hnc47 := NB101_118.out
        have hnb48 := NB118_126.out
        have hnc48 := NB126_118.out
        have hcz49_0 : w34.cell? ⟨gb118, 0, none⟩ = some (.int .i64 t110) := (blk_cell BK118.out 0).trans rfl
        have hcz49_1 : w34.cell? ⟨gb118, 1, none⟩ = some (.slice Ao23 t111.length co23) := (blk_cell BK118.out 1).trans rfl
        have hcz49_2 : w34.cell? ⟨gb118, 2, none⟩ = some (.slice Ao24 t114.length co24) := (blk_cell BK118.out 2).trans rfl
        have hfz49_0 := blk_frozen BK118.out 0
        have hfz49_1 := blk_frozen BK118.out 1
        have hfz49_2 := blk_frozen BK118.out 2
        go_wp2_with (first | ((with_reducible refine gate_callee (f := 11) rfl ?_); refine goesL_ (some 34) rfl rfl Try.func11 (by kernel_rfl) rfl #[.agg #[.int .i64 t127, .slice Ao39 t128.length co39, .slice Ao40 t131.length co40], .agg #[.int .i64 t110, .slice Ao23 t111.length co23, .slice Ao24 t114.length co24]] rfl (by (try simp only [List.map_toArray, List.map_cons, List.map_nil]); first | done | rfl | (simp only [List.length_drop, List.length_take]; rfl)) ?_; (with_reducible refine (laws_eqHeap.calls k t127 _ _ t128 _ _ t131 t110 _ _ t111 _ _ t114 true _ ?side1 ?side2 ?side3 ?side4 ?side5 ?side6 ?side7 ?side8 A41.out).mono ?_); (case side1 => refine (Kd.R_reads' (e := 44) (base := w.heap.size) (ok := fun k_ => (((True ∧ some k_ ≠ (.slice Ao17 t104.length co17 : Value).ownBlock) ∧ some k_ ≠ (.slice Ao23 t111.length co23 : Value).ownBlock) ∧ some k_ ≠ (.slice Ao31 t120.length co31 : Value).ownBlock)) (n := t128.length) (c := co39) ?_).2.2; exact (by (with_reducible repeat (first | apply rA | apply rN | apply rD)); exact (Kd.R_mono (Kd.R_far (p := ⟨gb135, 2, none⟩) (Kd.R_far (p := ⟨gb135, 1, none⟩) (Kd.R_far (p := ⟨gb135, 0, none⟩) (Kd.R_types HO130.out BK135.out (by decide)) (fun _ hk => hk.2) (.int .i64 t127)) (fun _ hk => hk.2) (.slice Ao39 t128.length co39)) (fun _ hk => hk.2) (.slice Ao40 t131.length co40)) (fun _ h_ => h_.1)))); (case side2 => exact (Kd.R_reads' HO130.out).2.1); (case side3 => refine (Kd.R_reads' (e := 3) (base := w.heap.size) (ok := fun k_ => (((True ∧ some k_ ≠ (.slice Ao18 t107.length co18 : Value).ownBlock) ∧ some k_ ≠ (.slice Ao24 t114.length co24 : Value).ownBlock) ∧ some k_ ≠ (.slice Ao32 t123.length co32 : Value).ownBlock)) (n := t131.length) (c := co40) ?_).2.2; exact (by (with_reducible repeat (first | apply rA | apply rN | apply rD)); exact (Kd.R_mono (Kd.R_far (p := ⟨gb135, 2, none⟩) (Kd.R_far (p := ⟨gb135, 1, none⟩) (Kd.R_far (p := ⟨gb135, 0, none⟩) (Kd.R_types HO133.out BK135.out (by decide)) (fun _ hk => hk.2) (.int .i64 t127)) (fun _ hk => hk.2) (.slice Ao39 t128.length co39)) (fun _ hk => hk.2) (.slice Ao40 t131.length co40)) (fun _ h_ => h_.1)))); (case side4 => exact (Kd.R_reads' HO133.out).2.1); (case side5 => refine (Kd.R_reads' (e := 44) (base := w.heap.size) (ok := fun k_ => (((True ∧ some k_ ≠ (.slice Ao17 t104.length co17 : Value).ownBlock) ∧ some k_ ≠ (.slice Ao31 t120.length co31 : Value).ownBlock) ∧ some k_ ≠ (.slice Ao39 t128.length co39 : Value).ownBlock)) (n := t111.length) (c := co23) ?_).2.2; exact (by (with_reducible repeat (first | apply rA | apply rN | apply rD)); exact (Kd.R_mono (Kd.R_far (p := ⟨gb135, 2, none⟩) (Kd.R_far (p := ⟨gb135, 1, none⟩) (Kd.R_far (p := ⟨gb135, 0, none⟩) (Kd.R_types HO113.out BK135.out (by decide)) (fun _ hk => hk.2) (.int .i64 t127)) (fun _ hk => hk.2) (.slice Ao39 t128.length co39)) (fun _ hk => hk.2) (.slice Ao40 t131.length co40)) (fun _ h_ => h_.1)))); (case side6 => exact (Kd.R_reads' HO113.out).2.1); (case side7 => refine (Kd.R_reads' (e := 3) (base := w.heap.size) (ok := fun k_ => (((True ∧ some k_ ≠ (.slice Ao18 t107.length co18 : Value).ownBlock) ∧ some k_ ≠ (.slice Ao32 t123.length co32 : Value).ownBlock) ∧ some k_ ≠ (.slice Ao40 t131.length co40 : Value).ownBlock)) (n := t114.length) (c := co24) ?_).2.2; exact (by (with_reducible repeat (first | apply rA | apply rN | apply rD)); exact (Kd.R_mono (Kd.R_far (p := ⟨gb135, 2, none⟩) (Kd.R_far (p := ⟨gb135, 1, none⟩) (Kd.R_far (p := ⟨gb135, 0, none⟩) (Kd.R_types HO116.out BK135.out (by decide)) (fun _ hk => hk.2) (.int .i64 t127)) (fun _ hk => hk.2) (.slice Ao39 t128.length co39)) (fun _ hk => hk.2) (.slice Ao40 t131.length co40)) (fun _ h_ => h_.1)))); (case side8 => exact (Kd.R_reads' HO116.out).2.1); rintro e w50 ⟨rfl, hb⟩; refine ⟨_, rfl, ?_⟩; have n0_ := aM (Kd.R_below (by (with_reducible repeat (first | apply rA | apply rN | apply rD)); exact (Kd.R_mono (Kd.R_far (p := ⟨gb135, 2, none⟩) (Kd.R_far (p := ⟨gb135, 1, none⟩) (Kd.R_far (p := ⟨gb135, 0, none⟩) (Kd.R_types HO106.out BK135.out (by decide)) (fun _ hk => hk.2) (.int .i64 t127)) (fun _ hk => hk.2) (.slice Ao39 t128.length co39)) (fun _ hk => hk.2) (.slice Ao40 t131.length co40)) (fun _ h_ => h_.1))) hb); have n1_ := aM (Kd.R_below (by (with_reducible repeat (first | apply rA | apply rN | apply rD)); exact (Kd.R_mono (Kd.R_far (p := ⟨gb135, 2, none⟩) (Kd.R_far (p := ⟨gb135, 1, none⟩) (Kd.R_far (p := ⟨gb135, 0, none⟩) (Kd.R_types HO109.out BK135.out (by decide)) (fun _ hk => hk.2) (.int .i64 t127)) (fun _ hk => hk.2) (.slice Ao39 t128.length co39)) (fun _ hk => hk.2) (.slice Ao40 t131.length co40)) (fun _ h_ => h_.1))) hb); have n2_ := aM (Kd.R_below (by (with_reducible repeat (first | apply rA | apply rN | apply rD)); exact (Kd.R_mono (Kd.R_far (p := ⟨gb135, 2, none⟩) (Kd.R_far (p := ⟨gb135, 1, none⟩) (Kd.R_far (p := ⟨gb135, 0, none⟩) (Kd.R_types HO113.out BK135.out (by decide)) (fun _ hk => hk.2) (.int .i64 t127)) (fun _ hk => hk.2) (.slice Ao39 t128.length co39)) (fun _ hk => hk.2) (.slice Ao40 t131.length co40)) (fun _ h_ => h_.1))) hb); have n3_ := aM (Kd.R_below (by (with_reducible repeat (first | apply rA | apply rN | apply rD)); exact (Kd.R_mono (Kd.R_far (p := ⟨gb135, 2, none⟩) (Kd.R_far (p := ⟨gb135, 1, none⟩) (Kd.R_far (p := ⟨gb135, 0, none⟩) (Kd.R_types HO116.out BK135.out (by decide)) (fun _ hk => hk.2) (.int .i64 t127)) (fun _ hk => hk.2) (.slice Ao39 t128.length co39)) (fun _ hk => hk.2) (.slice Ao40 t131.length co40)) (fun _ h_ => h_.1))) hb); have n4_ := aM (Kd.R_below (by (with_reducible repeat (first | apply rA | apply rN | apply rD)); exact (Kd.R_mono (Kd.R_far (p := ⟨gb135, 2, none⟩) (Kd.R_far (p := ⟨gb135, 1, none⟩) (Kd.R_far (p := ⟨gb135, 0, none⟩) (Kd.R_types HO122.out BK135.out (by decide)) (fun _ hk => hk.2) (.int .i64 t127)) (fun _ hk => hk.2) (.slice Ao39 t128.length co39)) (fun _ hk => hk.2) (.slice Ao40 t131.length co40)) (fun _ h_ => h_.1))) hb); have n5_ := aM (Kd.R_below (by (with_reducible repeat (first | apply rA | apply rN | apply rD)); exact (Kd.R_mono (Kd.R_far (p := ⟨gb135, 2, none⟩) (Kd.R_far (p := ⟨gb135, 1, none⟩) (Kd.R_far (p := ⟨gb135, 0, none⟩) (Kd.R_types HO125.out BK135.out (by decide)) (fun _ hk => hk.2) (.int .i64 t127)) (fun _ hk => hk.2) (.slice Ao39 t128.length co39)) (fun _ hk => hk.2) (.slice Ao40 t131.length co40)) (fun _ h_ => h_.1))) hb); have n6_ := aM (Kd.R_below (by (with_reducible repeat (first | apply rA | apply rN | apply rD)); exact (Kd.R_mono (Kd.R_far (p := ⟨gb135, 2, none⟩) (Kd.R_far (p := ⟨gb135, 1, none⟩) (Kd.R_far (p := ⟨gb135, 0, none⟩) (Kd.R_types HO130.out BK135.out (by decide)) (fun _ hk => hk.2) (.int .i64 t127)) (fun _ hk => hk.2) (.slice Ao39 t128.length co39)) (fun _ hk => hk.2) (.slice Ao40 t131.length co40)) (fun _ h_ => h_.1))) hb); have n7_ := aM (Kd.R_below (by (with_reducible repeat (first | apply rA | apply rN | apply rD)); exact (Kd.R_mono (Kd.R_far (p := ⟨gb135, 2, none⟩) (Kd.R_far (p := ⟨gb135, 1, none⟩) (Kd.R_far (p := ⟨gb135, 0, none⟩) (Kd.R_types HO133.out BK135.out (by decide)) (fun _ hk => hk.2) (.int .i64 t127)) (fun _ hk => hk.2) (.slice Ao39 t128.length co39)) (fun _ hk => hk.2) (.slice Ao40 t131.length co40)) (fun _ h_ => h_.1))) hb); have n8_ := aM (blk_below (g := gb101) (o := .cells #[.int .i64 a0_0, .slice A0_1 l0_1.length c0_1, .slice A0_2 l0_2.length c0_2] 25 (0, 0)) (by (with_reducible repeat (first | refine bN ?_ _ | refine bD ?_ | refine bA ?_ _)); refine blk_far ?_ NB101_135.out _; (with_reducible repeat (first | refine bN ?_ _ | refine bD ?_ | refine bA ?_ _)); refine blk_far ?_ NB101_135.out _; (with_reducible repeat (first | refine bN ?_ _ | refine bD ?_ | refine bA ?_ _)); refine blk_far ?_ NB101_135.out _; (with_reducible repeat (first | refine bN ?_ _ | refine bD ?_ | refine bA ?_ _)); exact BK101.out) hb); have n9_ := aM (blk_below (g := gb118) (o := .cells #[.int .i64 t110, .slice Ao23 t111.length co23, .slice Ao24 t114.length co24] 30 (0, 0)) (by (with_reducible repeat (first | refine bN ?_ _ | refine bD ?_ | refine bA ?_ _)); refine blk_far ?_ NB118_135.out _; (with_reducible repeat (first | refine bN ?_ _ | refine bD ?_ | refine bA ?_ _)); refine blk_far ?_ NB118_135.out _; (with_reducible repeat (first | refine bN ?_ _ | refine bD ?_ | refine bA ?_ _)); refine blk_far ?_ NB118_135.out _; (with_reducible repeat (first | refine bN ?_ _ | refine bD ?_ | refine bA ?_ _)); exact BK118.out) hb); have n10_ := aM (blk_below (g := gb126) (o := .cells #[.int .i64 t119, .slice Ao31 t120.length co31, .slice Ao32 t123.length co32] 30 (0, 0)) (by (with_reducible repeat (first | refine bN ?_ _ | refine bD ?_ | refine bA ?_ _)); refine blk_far ?_ NB126_135.out _; (with_reducible repeat (first | refine bN ?_ _ | refine bD ?_ | refine bA ?_ _)); refine blk_far ?_ NB126_135.out _; (with_reducible repeat (first | refine bN ?_ _ | refine bD ?_ | refine bA ?_ _)); refine blk_far ?_ NB126_135.out _; (with_reducible repeat (first | refine bN ?_ _ | refine bD ?_ | refine bA ?_ _)); exact BK126.out) hb); have n11_ := aM (blk_below (g := gb135) (o := .cells #[.int .i64 t127, .slice Ao39 t128.length co39, .slice Ao40 t131.length co40] 30 (0, 0)) (by (with_reducible repeat (first | refine bN ?_ _ | refine bD ?_ | refine bA ?_ _)); refine blk_put (cs := #[.int .i64 t127, .slice Ao39 t128.length co39, .slice none 0 0]) ?_ 2 _ rfl; (with_reducible repeat (first | refine bN ?_ _ | refine bD ?_ | refine bA ?_ _)); refine blk_put (cs := #[.int .i64 t127, .slice none 0 0, .slice none 0 0]) ?_ 1 _ rfl; (with_reducible repeat (first | refine bN ?_ _ | refine bD ?_ | refine bA ?_ _)); refine blk_put (cs := #[.int .i64 0, .slice none 0 0, .slice none 0 0]) ?_ 0 _ rfl; (with_reducible repeat (first | refine bN ?_ _ | refine bD ?_ | refine bA ?_ _)); exact BK135.out) hb); have n12_ := aM (below_step (by repeat (first | (with_reducible first | exact HB.out | apply below_alloc | apply pw_below_drewN | apply below_drew1 | refine below_set ?_ GE101.out | refine below_set ?_ GE118.out | refine below_set ?_ GE126.out | refine below_set ?_ GE135.out) | exact HB.out)) hb); clear HO106; clear HO109; clear HO113; clear HO116; clear HO122; clear HO125; clear HO130; clear HO133; clear BK101; clear BK118; clear BK126; clear BK135; clear HB; have HO106 := n0_; have HO109 := n1_; have HO113 := n2_; have HO116 := n3_; have HO122 := n4_; have HO125 := n5_; have HO130 := n6_; have HO133 := n7_; have BK101 := n8_; have BK118 := n9_; have BK126 := n10_; have BK135 := n11_; have HB := n12_; clear n0_ n1_ n2_ n3_ n4_ n5_ n6_ n7_ n8_ n9_ n10_ n11_ n12_; (try clear hb); (try clear hb2); (try clear hk); (try clear hi)))
        go_meet
        case rel => exact ⟨_, ((t134 != t117)), (by first | rfl | (simp; done) | (simp [*]; done)), H', ⟨by first | omega | exact Nat.le_refl _⟩, ⟨by (with_reducible repeat (first | apply rA | apply rN | apply rD)); exact Kd.R_mono HO113.out (fun _ hk => ⟨hk.1.2, hk.2⟩)⟩, ⟨by (with_reducible repeat (first | apply rA | apply rN | apply rD)); exact Kd.R_mono HO116.out (fun _ hk => ⟨hk.1.2, hk.2⟩)⟩, ⟨by (with_reducible repeat (first | apply rA | apply rN | apply rD)); exact Kd.R_mono HO122.out (fun _ hk => ⟨hk.1.2, hk.2⟩)⟩, ⟨by (with_reducible repeat (first | apply rA | apply rN | apply rD)); exact Kd.R_mono HO125.out (fun _ hk => ⟨hk.1.2, hk.2⟩)⟩, ⟨by (with_reducible repeat (first | apply rA | apply rN | apply rD)); exact Kd.R_mono HO130.out (fun _ hk => ⟨hk.1.2, hk.2⟩)⟩, ⟨by (with_reducible repeat (first | apply rA | apply rN | apply rD)); exact Kd.R_mono HO133.out (fun _ hk => ⟨hk.1.2, hk.2⟩)⟩, ⟨by (with_reducible repeat (first | refine bN ?_ _ | refine bD ?_ | refine bA ?_ _)); exact BK101.out⟩, ⟨by (with_reducible repeat (first | refine bN ?_ _ | refine bD ?_ | refine bA ?_ _)); exact BK118.out⟩, ⟨by (with_reducible repeat (first | refine bN ?_ _ | refine bD ?_ | refine bA ?_ _)); exact BK126.out⟩, ⟨by (with_reducible repeat (first | refine bN ?_ _ | refine bD ?_ | refine bA ?_ _)); exact BK135.out⟩, ⟨by repeat (first | (with_reducible first | exact HB.out | apply below_alloc | apply pw_below_drewN | apply below_drew1 | refine below_set ?_ GE101.out | refine below_set ?_ GE118.out | refine below_set ?_ GE126.out | refine below_set ?_ GE135.out) | exact HB.out)⟩⟩
      · replace c42 := Bool.eq_false_iff.mpr c42
        subst c42
        have H1 : (laws_FnExactMinorCollect.j0 k t117 t134 true a0_0 l0_1 l0_2 t110 t111 t114 t119 t120 t123 t127 t128 t131) = some r := by rw [if_neg (show ¬ (false = true) by decide)] at H; exact H
        clear H
        have H := H1
        clear H1
        have H' := aM H
        clear H
        have hnb51 := NB135_101.out
        have hnc51 := NB101_135.out
        have hnb52 := NB135_118.out
        have hnc52 := NB118_135.out
        have hnb53 := NB135_126.out
        have hnc53 := NB126_135.out
        have hcz54_0 : w34.cell? ⟨gb135, 0, none⟩ = some (.int .i64 0) := (blk_cell BK135.out 0).trans rfl
        have hcz54_1 : w34.cell? ⟨gb135, 1, none⟩ = some (.slice none 0 0) := (blk_cell BK135.out 1).trans rfl
        have hcz54_2 : w34.cell? ⟨gb135, 2, none⟩ = some (.slice none 0 0) := (blk_cell BK135.out 2).trans rfl
        have hfz54_0 := blk_frozen BK135.out 0
        have hfz54_1 := blk_frozen BK135.out 1
        have hfz54_2 := blk_frozen BK135.out 2
        have hnb55 := NB118_101.out
        have hnc55 := NB101_118.out
        have hnb56 := NB118_126.out
        have hnc56 := NB126_118.out
        have hcz57_0 : w34.cell? ⟨gb118, 0, none⟩ = some (.int .i64 t110) := (blk_cell BK118.out 0).trans rfl
        have hcz57_1 : w34.cell? ⟨gb118, 1, none⟩ = some (.slice Ao23 t111.length co23) := (blk_cell BK118.out 1).trans rfl
        have hcz57_2 : w34.cell? ⟨gb118, 2, none⟩ = some (.slice Ao24 t114.length co24) := (blk_cell BK118.out 2).trans rfl
        have hfz57_0 := blk_frozen BK118.out 0
        have hfz57_1 := blk_frozen BK118.out 1
        have hfz57_2 := blk_frozen BK118.out 2
        go_wp2_with (first | ((with_reducible refine gate_callee (f := 11) rfl ?_); refine goesL_ (some 34) rfl rfl Try.func11 (by kernel_rfl) rfl #[.agg #[.int .i64 t127, .slice Ao39 t128.length co39, .slice Ao40 t131.length co40], .agg #[.int .i64 t110, .slice Ao23 t111.length co23, .slice Ao24 t114.length co24]] rfl (by (try simp only [List.map_toArray, List.map_cons, List.map_nil]); first | done | rfl | (simp only [List.length_drop, List.length_take]; rfl)) ?_; (with_reducible refine (laws_eqHeap.calls k t127 _ _ t128 _ _ t131 t110 _ _ t111 _ _ t114 false _ ?side1 ?side2 ?side3 ?side4 ?side5 ?side6 ?side7 ?side8 A41.out).mono ?_); (case side1 => refine (Kd.R_reads' (e := 44) (base := w.heap.size) (ok := fun k_ => (((True ∧ some k_ ≠ (.slice Ao17 t104.length co17 : Value).ownBlock) ∧ some k_ ≠ (.slice Ao23 t111.length co23 : Value).ownBlock) ∧ some k_ ≠ (.slice Ao31 t120.length co31 : Value).ownBlock)) (n := t128.length) (c := co39) ?_).2.2; exact (by (with_reducible repeat (first | apply rA | apply rN | apply rD)); exact (Kd.R_mono (Kd.R_far (p := ⟨gb135, 2, none⟩) (Kd.R_far (p := ⟨gb135, 1, none⟩) (Kd.R_far (p := ⟨gb135, 0, none⟩) (Kd.R_types HO130.out BK135.out (by decide)) (fun _ hk => hk.2) (.int .i64 t127)) (fun _ hk => hk.2) (.slice Ao39 t128.length co39)) (fun _ hk => hk.2) (.slice Ao40 t131.length co40)) (fun _ h_ => h_.1)))); (case side2 => exact (Kd.R_reads' HO130.out).2.1); (case side3 => refine (Kd.R_reads' (e := 3) (base := w.heap.size) (ok := fun k_ => (((True ∧ some k_ ≠ (.slice Ao18 t107.length co18 : Value).ownBlock) ∧ some k_ ≠ (.slice Ao24 t114.length co24 : Value).ownBlock) ∧ some k_ ≠ (.slice Ao32 t123.length co32 : Value).ownBlock)) (n := t131.length) (c := co40) ?_).2.2; exact (by (with_reducible repeat (first | apply rA | apply rN | apply rD)); exact (Kd.R_mono (Kd.R_far (p := ⟨gb135, 2, none⟩) (Kd.R_far (p := ⟨gb135, 1, none⟩) (Kd.R_far (p := ⟨gb135, 0, none⟩) (Kd.R_types HO133.out BK135.out (by decide)) (fun _ hk => hk.2) (.int .i64 t127)) (fun _ hk => hk.2) (.slice Ao39 t128.length co39)) (fun _ hk => hk.2) (.slice Ao40 t131.length co40)) (fun _ h_ => h_.1)))); (case side4 => exact (Kd.R_reads' HO133.out).2.1); (case side5 => refine (Kd.R_reads' (e := 44) (base := w.heap.size) (ok := fun k_ => (((True ∧ some k_ ≠ (.slice Ao17 t104.length co17 : Value).ownBlock) ∧ some k_ ≠ (.slice Ao31 t120.length co31 : Value).ownBlock) ∧ some k_ ≠ (.slice Ao39 t128.length co39 : Value).ownBlock)) (n := t111.length) (c := co23) ?_).2.2; exact (by (with_reducible repeat (first | apply rA | apply rN | apply rD)); exact (Kd.R_mono (Kd.R_far (p := ⟨gb135, 2, none⟩) (Kd.R_far (p := ⟨gb135, 1, none⟩) (Kd.R_far (p := ⟨gb135, 0, none⟩) (Kd.R_types HO113.out BK135.out (by decide)) (fun _ hk => hk.2) (.int .i64 t127)) (fun _ hk => hk.2) (.slice Ao39 t128.length co39)) (fun _ hk => hk.2) (.slice Ao40 t131.length co40)) (fun _ h_ => h_.1)))); (case side6 => exact (Kd.R_reads' HO113.out).2.1); (case side7 => refine (Kd.R_reads' (e := 3) (base := w.heap.size) (ok := fun k_ => (((True ∧ some k_ ≠ (.slice Ao18 t107.length co18 : Value).ownBlock) ∧ some k_ ≠ (.slice Ao32 t123.length co32 : Value).ownBlock) ∧ some k_ ≠ (.slice Ao40 t131.length co40 : Value).ownBlock)) (n := t114.length) (c := co24) ?_).2.2; exact (by (with_reducible repeat (first | apply rA | apply rN | apply rD)); exact (Kd.R_mono (Kd.R_far (p := ⟨gb135, 2, none⟩) (Kd.R_far (p := ⟨gb135, 1, none⟩) (Kd.R_far (p := ⟨gb135, 0, none⟩) (Kd.R_types HO116.out BK135.out (by decide)) (fun _ hk => hk.2) (.int .i64 t127)) (fun _ hk => hk.2) (.slice Ao39 t128.length co39)) (fun _ hk => hk.2) (.slice Ao40 t131.length co40)) (fun _ h_ => h_.1)))); (case side8 => exact (Kd.R_reads' HO116.out).2.1); rintro e w58 ⟨rfl, hb⟩; refine ⟨_, rfl, ?_⟩; have n0_ := aM (Kd.R_below (by (with_reducible repeat (first | apply rA | apply rN | apply rD)); exact (Kd.R_mono (Kd.R_far (p := ⟨gb135, 2, none⟩) (Kd.R_far (p := ⟨gb135, 1, none⟩) (Kd.R_far (p := ⟨gb135, 0, none⟩) (Kd.R_types HO106.out BK135.out (by decide)) (fun _ hk => hk.2) (.int .i64 t127)) (fun _ hk => hk.2) (.slice Ao39 t128.length co39)) (fun _ hk => hk.2) (.slice Ao40 t131.length co40)) (fun _ h_ => h_.1))) hb); have n1_ := aM (Kd.R_below (by (with_reducible repeat (first | apply rA | apply rN | apply rD)); exact (Kd.R_mono (Kd.R_far (p := ⟨gb135, 2, none⟩) (Kd.R_far (p := ⟨gb135, 1, none⟩) (Kd.R_far (p := ⟨gb135, 0, none⟩) (Kd.R_types HO109.out BK135.out (by decide)) (fun _ hk => hk.2) (.int .i64 t127)) (fun _ hk => hk.2) (.slice Ao39 t128.length co39)) (fun _ hk => hk.2) (.slice Ao40 t131.length co40)) (fun _ h_ => h_.1))) hb); have n2_ := aM (Kd.R_below (by (with_reducible repeat (first | apply rA | apply rN | apply rD)); exact (Kd.R_mono (Kd.R_far (p := ⟨gb135, 2, none⟩) (Kd.R_far (p := ⟨gb135, 1, none⟩) (Kd.R_far (p := ⟨gb135, 0, none⟩) (Kd.R_types HO113.out BK135.out (by decide)) (fun _ hk => hk.2) (.int .i64 t127)) (fun _ hk => hk.2) (.slice Ao39 t128.length co39)) (fun _ hk => hk.2) (.slice Ao40 t131.length co40)) (fun _ h_ => h_.1))) hb); have n3_ := aM (Kd.R_below (by (with_reducible repeat (first | apply rA | apply rN | apply rD)); exact (Kd.R_mono (Kd.R_far (p := ⟨gb135, 2, none⟩) (Kd.R_far (p := ⟨gb135, 1, none⟩) (Kd.R_far (p := ⟨gb135, 0, none⟩) (Kd.R_types HO116.out BK135.out (by decide)) (fun _ hk => hk.2) (.int .i64 t127)) (fun _ hk => hk.2) (.slice Ao39 t128.length co39)) (fun _ hk => hk.2) (.slice Ao40 t131.length co40)) (fun _ h_ => h_.1))) hb); have n4_ := aM (Kd.R_below (by (with_reducible repeat (first | apply rA | apply rN | apply rD)); exact (Kd.R_mono (Kd.R_far (p := ⟨gb135, 2, none⟩) (Kd.R_far (p := ⟨gb135, 1, none⟩) (Kd.R_far (p := ⟨gb135, 0, none⟩) (Kd.R_types HO122.out BK135.out (by decide)) (fun _ hk => hk.2) (.int .i64 t127)) (fun _ hk => hk.2) (.slice Ao39 t128.length co39)) (fun _ hk => hk.2) (.slice Ao40 t131.length co40)) (fun _ h_ => h_.1))) hb); have n5_ := aM (Kd.R_below (by (with_reducible repeat (first | apply rA | apply rN | apply rD)); exact (Kd.R_mono (Kd.R_far (p := ⟨gb135, 2, none⟩) (Kd.R_far (p := ⟨gb135, 1, none⟩) (Kd.R_far (p := ⟨gb135, 0, none⟩) (Kd.R_types HO125.out BK135.out (by decide)) (fun _ hk => hk.2) (.int .i64 t127)) (fun _ hk => hk.2) (.slice Ao39 t128.length co39)) (fun _ hk => hk.2) (.slice Ao40 t131.length co40)) (fun _ h_ => h_.1))) hb); have n6_ := aM (Kd.R_below (by (with_reducible repeat (first | apply rA | apply rN | apply rD)); exact (Kd.R_mono (Kd.R_far (p := ⟨gb135, 2, none⟩) (Kd.R_far (p := ⟨gb135, 1, none⟩) (Kd.R_far (p := ⟨gb135, 0, none⟩) (Kd.R_types HO130.out BK135.out (by decide)) (fun _ hk => hk.2) (.int .i64 t127)) (fun _ hk => hk.2) (.slice Ao39 t128.length co39)) (fun _ hk => hk.2) (.slice Ao40 t131.length co40)) (fun _ h_ => h_.1))) hb); have n7_ := aM (Kd.R_below (by (with_reducible repeat (first | apply rA | apply rN | apply rD)); exact (Kd.R_mono (Kd.R_far (p := ⟨gb135, 2, none⟩) (Kd.R_far (p := ⟨gb135, 1, none⟩) (Kd.R_far (p := ⟨gb135, 0, none⟩) (Kd.R_types HO133.out BK135.out (by decide)) (fun _ hk => hk.2) (.int .i64 t127)) (fun _ hk => hk.2) (.slice Ao39 t128.length co39)) (fun _ hk => hk.2) (.slice Ao40 t131.length co40)) (fun _ h_ => h_.1))) hb); have n8_ := aM (blk_below (g := gb101) (o := .cells #[.int .i64 a0_0, .slice A0_1 l0_1.length c0_1, .slice A0_2 l0_2.length c0_2] 25 (0, 0)) (by (with_reducible repeat (first | refine bN ?_ _ | refine bD ?_ | refine bA ?_ _)); refine blk_far ?_ NB101_135.out _; (with_reducible repeat (first | refine bN ?_ _ | refine bD ?_ | refine bA ?_ _)); refine blk_far ?_ NB101_135.out _; (with_reducible repeat (first | refine bN ?_ _ | refine bD ?_ | refine bA ?_ _)); refine blk_far ?_ NB101_135.out _; (with_reducible repeat (first | refine bN ?_ _ | refine bD ?_ | refine bA ?_ _)); exact BK101.out) hb); have n9_ := aM (blk_below (g := gb118) (o := .cells #[.int .i64 t110, .slice Ao23 t111.length co23, .slice Ao24 t114.length co24] 30 (0, 0)) (by (with_reducible repeat (first | refine bN ?_ _ | refine bD ?_ | refine bA ?_ _)); refine blk_far ?_ NB118_135.out _; (with_reducible repeat (first | refine bN ?_ _ | refine bD ?_ | refine bA ?_ _)); refine blk_far ?_ NB118_135.out _; (with_reducible repeat (first | refine bN ?_ _ | refine bD ?_ | refine bA ?_ _)); refine blk_far ?_ NB118_135.out _; (with_reducible repeat (first | refine bN ?_ _ | refine bD ?_ | refine bA ?_ _)); exact BK118.out) hb); have n10_ := aM (blk_below (g := gb126) (o := .cells #[.int .i64 t119, .slice Ao31 t120.length co31, .slice Ao32 t123.length co32] 30 (0, 0)) (by (with_reducible repeat (first | refine bN ?_ _ | refine bD ?_ | refine bA ?_ _)); refine blk_far ?_ NB126_135.out _; (with_reducible repeat (first | refine bN ?_ _ | refine bD ?_ | refine bA ?_ _)); refine blk_far ?_ NB126_135.out _; (with_reducible repeat (first | refine bN ?_ _ | refine bD ?_ | refine bA ?_ _)); refine blk_far ?_ NB126_135.out _; (with_reducible repeat (first | refine bN ?_ _ | refine bD ?_ | refine bA ?_ _)); exact BK126.out) hb); have n11_ := aM (blk_below (g := gb135) (o := .cells #[.int .i64 t127, .slice Ao39 t128.length co39, .slice Ao40 t131.length co40] 30 (0, 0)) (by (with_reducible repeat (first | refine bN ?_ _ | refine bD ?_ | refine bA ?_ _)); refine blk_put (cs := #[.int .i64 t127, .slice Ao39 t128.length co39, .slice none 0 0]) ?_ 2 _ rfl; (with_reducible repeat (first | refine bN ?_ _ | refine bD ?_ | refine bA ?_ _)); refine blk_put (cs := #[.int .i64 t127, .slice none 0 0, .slice none 0 0]) ?_ 1 _ rfl; (with_reducible repeat (first | refine bN ?_ _ | refine bD ?_ | refine bA ?_ _)); refine blk_put (cs := #[.int .i64 0, .slice none 0 0, .slice none 0 0]) ?_ 0 _ rfl; (with_reducible repeat (first | refine bN ?_ _ | refine bD ?_ | refine bA ?_ _)); exact BK135.out) hb); have n12_ := aM (below_step (by repeat (first | (with_reducible first | exact HB.out | apply below_alloc | apply pw_below_drewN | apply below_drew1 | refine below_set ?_ GE101.out | refine below_set ?_ GE118.out | refine below_set ?_ GE126.out | refine below_set ?_ GE135.out) | exact HB.out)) hb); clear HO106; clear HO109; clear HO113; clear HO116; clear HO122; clear HO125; clear HO130; clear HO133; clear BK101; clear BK118; clear BK126; clear BK135; clear HB; have HO106 := n0_; have HO109 := n1_; have HO113 := n2_; have HO116 := n3_; have HO122 := n4_; have HO125 := n5_; have HO130 := n6_; have HO133 := n7_; have BK101 := n8_; have BK118 := n9_; have BK126 := n10_; have BK135 := n11_; have HB := n12_; clear n0_ n1_ n2_ n3_ n4_ n5_ n6_ n7_ n8_ n9_ n10_ n11_ n12_; (try clear hb); (try clear hb2); (try clear hk); (try clear hi)))
        go_meet
        case rel => exact ⟨_, (true), (by first | rfl | (simp; done) | (simp [*]; done)), H', ⟨by first | omega | exact Nat.le_refl _⟩, ⟨by (with_reducible repeat (first | apply rA | apply rN | apply rD)); exact Kd.R_mono HO113.out (fun _ hk => ⟨hk.1.2, hk.2⟩)⟩, ⟨by (with_reducible repeat (first | apply rA | apply rN | apply rD)); exact Kd.R_mono HO116.out (fun _ hk => ⟨hk.1.2, hk.2⟩)⟩, ⟨by (with_reducible repeat (first | apply rA | apply rN | apply rD)); exact Kd.R_mono HO122.out (fun _ hk => ⟨hk.1.2, hk.2⟩)⟩, ⟨by (with_reducible repeat (first | apply rA | apply rN | apply rD)); exact Kd.R_mono HO125.out (fun _ hk => ⟨hk.1.2, hk.2⟩)⟩, ⟨by (with_reducible repeat (first | apply rA | apply rN | apply rD)); exact Kd.R_mono HO130.out (fun _ hk => ⟨hk.1.2, hk.2⟩)⟩, ⟨by (with_reducible repeat (first | apply rA | apply rN | apply rD)); exact Kd.R_mono HO133.out (fun _ hk => ⟨hk.1.2, hk.2⟩)⟩, ⟨by (with_reducible repeat (first | refine bN ?_ _ | refine bD ?_ | refine bA ?_ _)); exact BK101.out⟩, ⟨by (with_reducible repeat (first | refine bN ?_ _ | refine bD ?_ | refine bA ?_ _)); exact BK118.out⟩, ⟨by (with_reducible repeat (first | refine bN ?_ _ | refine bD ?_ | refine bA ?_ _)); exact BK126.out⟩, ⟨by (with_reducible repeat (first | refine bN ?_ _ | refine bD ?_ | refine bA ?_ _)); exact BK135.out⟩, ⟨by repeat (first | (with_reducible first | exact HB.out | apply below_alloc | apply pw_below_drewN | apply below_drew1 | refine below_set ?_ GE101.out | refine below_set ?_ GE118.out | refine below_set ?_ GE126.out | refine below_set ?_ GE135.out) | exact HB.out)⟩⟩
    case rest =>
      clear HC11
      try clear c1
      try clear c2
      try clear p2
      try clear c3
      try clear c3b0
      try clear c4
      try clear c5
      try clear c6
      try clear c7
      try clear c9
      try clear c11
      try clear c21
      try clear c22
      try clear c28
      try clear c29
      try clear c35
      try clear c36
      try clear c37
      try clear c42
      try clear c43
      try clear c44
      try clear c45
      try clear c47
      try clear c48
      try clear c51
      try clear c52
      try clear c53
      try clear c55
      try clear c56
      try clear hcz13_0
      try clear hcz13_1
      try clear hcz13_2
      try clear hcz15_0
      try clear hcz15_1
      try clear hcz15_2
      try clear hcz22_0
      try clear hcz22_1
      try clear hcz22_2
      try clear hcz25_0
      try clear hcz25_1
      try clear hcz25_2
      try clear hcz30_0
      try clear hcz30_1
      try clear hcz30_2
      try clear hcz38_0
      try clear hcz38_1
      try clear hcz38_2
      try clear hcz46_0
      try clear hcz46_1
      try clear hcz46_2
      try clear hcz49_0
      try clear hcz49_1
      try clear hcz49_2
      try clear hcz54_0
      try clear hcz54_1
      try clear hcz54_2
      try clear hcz57_0
      try clear hcz57_1
      try clear hcz57_2
      try clear hcz5_0
      try clear hcz5_1
      try clear hcz5_2
      try clear hfz13_0
      try clear hfz13_1
      try clear hfz13_2
      try clear hfz15_0
      try clear hfz15_1
      try clear hfz15_2
      try clear hfz22_0
      try clear hfz22_1
      try clear hfz22_2
      try clear hfz25_0
      try clear hfz25_1
      try clear hfz25_2
      try clear hfz30_0
      try clear hfz30_1
      try clear hfz30_2
      try clear hfz38_0
      try clear hfz38_1
      try clear hfz38_2
      try clear hfz46_0
      try clear hfz46_1
      try clear hfz46_2
      try clear hfz49_0
      try clear hfz49_1
      try clear hfz49_2
      try clear hfz54_0
      try clear hfz54_1
      try clear hfz54_2
      try clear hfz57_0
      try clear hfz57_1
      try clear hfz57_2
      try clear hfz5_0
      try clear hfz5_1
      try clear hfz5_2
      obtain ⟨kq, x40_10, rfl, HA, HJ10, HO_119001, HO_119002, HO_127001, HO_127002, HO_136001, HO_136002, BK101, BK118, BK126, BK135, HB⟩ := hcut
      cases kq with
      | zero => exact absurd HA.out (by simp [laws_FnExactMinorCollect.j0])
      | succ kj10 =>
        have H := HA.out
        clear HA
        simp only [laws_FnExactMinorCollect.j0] at H
        by_cases c59 : x40_10 = true
        · subst c59
          have H1 : (some false) = some r := by rw [if_pos rfl] at H; exact H
          clear H
          have H := H1
          clear H1
          obtain rfl := Option.some.inj H
          go_wp2
          go_ret
          exact ⟨by first | rfl | (simp [errW_none, errW_some] <;> rfl) | (simp [*, errW_none, errW_some] <;> rfl), by repeat (first | (with_reducible first | exact HB.out | apply below_alloc | apply pw_below_drewN | apply below_drew1 | refine below_set ?_ GE101.out | refine below_set ?_ GE118.out | refine below_set ?_ GE126.out | refine below_set ?_ GE135.out) | exact HB.out)⟩
        · replace c59 := Bool.eq_false_iff.mpr c59
          subst c59
          have H1 : ((laws_toHeap.f kj10 a0_0 l0_1 l0_2).bind fun bt137 => ((laws_eqHeap.f kj10 t119 t120 t123 bt137.1 bt137.2.1 bt137.2.2).bind fun t144 => (if t144 = true then ((laws_markHeap.f kj10 t119 t120 t123 1).bind fun bt145 => (if bt145.1 < 0 then (laws_FnExactMinorCollect.j1 kj10 t117 true a0_0 l0_1 l0_2 t110 t111 t114 t127 t128 t131) else ((laws_eqHeap.f kj10 t127 t128 t131 t110 t111 t114).bind fun t148 => (if t148 = true then (laws_FnExactMinorCollect.j1 kj10 t117 (t134 != t117) a0_0 l0_1 l0_2 t110 t111 t114 t127 t128 t131) else (laws_FnExactMinorCollect.j1 kj10 t117 true a0_0 l0_1 l0_2 t110 t111 t114 t127 t128 t131))))) else (some false)))) = some r := by rw [if_neg (show ¬ (false = true) by decide)] at H; exact H
          clear H
          have H := H1
          clear H1
          replace H := Option.bind_eq_some_iff.mp H
          obtain ⟨⟨t137, t138, t141⟩, A600, H⟩ := H
          replace H : ((laws_eqHeap.f kj10 t119 t120 t123 t137 t138 t141).bind fun t144 => (if t144 = true then ((laws_markHeap.f kj10 t119 t120 t123 1).bind fun bt145 => (if bt145.1 < 0 then (laws_FnExactMinorCollect.j1 kj10 t117 true a0_0 l0_1 l0_2 t110 t111 t114 t127 t128 t131) else ((laws_eqHeap.f kj10 t127 t128 t131 t110 t111 t114).bind fun t148 => (if t148 = true then (laws_FnExactMinorCollect.j1 kj10 t117 (t134 != t117) a0_0 l0_1 l0_2 t110 t111 t114 t127 t128 t131) else (laws_FnExactMinorCollect.j1 kj10 t117 true a0_0 l0_1 l0_2 t110 t111 t114 t127 t128 t131))))) else (some false))) = some r := H
          have A60 := aM A600
          clear A600
          replace H := Option.bind_eq_some_iff.mp H
          obtain ⟨t144, A610, H⟩ := H
          replace H : (if t144 = true then ((laws_markHeap.f kj10 t119 t120 t123 1).bind fun bt145 => (if bt145.1 < 0 then (laws_FnExactMinorCollect.j1 kj10 t117 true a0_0 l0_1 l0_2 t110 t111 t114 t127 t128 t131) else ((laws_eqHeap.f kj10 t127 t128 t131 t110 t111 t114).bind fun t148 => (if t148 = true then (laws_FnExactMinorCollect.j1 kj10 t117 (t134 != t117) a0_0 l0_1 l0_2 t110 t111 t114 t127 t128 t131) else (laws_FnExactMinorCollect.j1 kj10 t117 true a0_0 l0_1 l0_2 t110 t111 t114 t127 t128 t131))))) else (some false)) = some r := H
          have A61 := aM A610
          clear A610
          by_cases c62 : t144 = true
          · subst c62
            have H1 : ((laws_markHeap.f kj10 t119 t120 t123 1).bind fun bt145 => (if bt145.1 < 0 then (laws_FnExactMinorCollect.j1 kj10 t117 true a0_0 l0_1 l0_2 t110 t111 t114 t127 t128 t131) else ((laws_eqHeap.f kj10 t127 t128 t131 t110 t111 t114).bind fun t148 => (if t148 = true then (laws_FnExactMinorCollect.j1 kj10 t117 (t134 != t117) a0_0 l0_1 l0_2 t110 t111 t114 t127 t128 t131) else (laws_FnExactMinorCollect.j1 kj10 t117 true a0_0 l0_1 l0_2 t110 t111 t114 t127 t128 t131))))) = some r := by rw [if_pos rfl] at H; exact H
            clear H
            have H := H1
            clear H1
            replace H := Option.bind_eq_some_iff.mp H
            obtain ⟨⟨t145, t146, t147⟩, A630, H⟩ := H
            replace H : (if t145 < 0 then (laws_FnExactMinorCollect.j1 kj10 t117 true a0_0 l0_1 l0_2 t110 t111 t114 t127 t128 t131) else ((laws_eqHeap.f kj10 t127 t128 t131 t110 t111 t114).bind fun t148 => (if t148 = true then (laws_FnExactMinorCollect.j1 kj10 t117 (t134 != t117) a0_0 l0_1 l0_2 t110 t111 t114 t127 t128 t131) else (laws_FnExactMinorCollect.j1 kj10 t117 true a0_0 l0_1 l0_2 t110 t111 t114 t127 t128 t131)))) = some r := H
            have A63 := aM A630
            clear A630
            have HC64 := aM H
            clear H
            try go_wp2
            have n0_ := aM (Kd.R_drew HO_119001.out)
            have n1_ := aM (Kd.R_drew HO_119002.out)
            have n2_ := aM (Kd.R_drew HO_127001.out)
            have n3_ := aM (Kd.R_drew HO_127002.out)
            have n4_ := aM (Kd.R_drew HO_136001.out)
            have n5_ := aM (Kd.R_drew HO_136002.out)
            have n6_ := aM (blk_drew BK101.out)
            have n7_ := aM (blk_drew BK118.out)
            have n8_ := aM (blk_drew BK126.out)
            have n9_ := aM (blk_drew BK135.out)
            have n10_ := aM (below_drew1 HB.out)
            clear HO_119001
            clear HO_119002
            clear HO_127001
            clear HO_127002
            clear HO_136001
            clear HO_136002
            clear BK101
            clear BK118
            clear BK126
            clear BK135
            clear HB
            have HO_119001 := n0_
            have HO_119002 := n1_
            have HO_127001 := n2_
            have HO_127002 := n3_
            have HO_136001 := n4_
            have HO_136002 := n5_
            have BK101 := n6_
            have BK118 := n7_
            have BK126 := n8_
            have BK135 := n9_
            have HB := n10_
            clear n0_ n1_ n2_ n3_ n4_ n5_ n6_ n7_ n8_ n9_ n10_
            refine start_ (n := 5) (S := fun w' => w'.cell? ⟨gb126, 0, none⟩ = some (.int .i64 t119) ∧ w'.cell? ⟨gb126, 1, none⟩ = some (.slice Ao31 t120.length co31) ∧ w'.cell? ⟨gb126, 2, none⟩ = some (.slice Ao32 t123.length co32) ∧ w'.cell? ⟨gb101, 0, none⟩ = some (.int .i64 a0_0) ∧ w'.cell? ⟨gb101, 1, none⟩ = some (.slice A0_1 l0_1.length c0_1) ∧ w'.cell? ⟨gb101, 2, none⟩ = some (.slice A0_2 l0_2.length c0_2)) (ds := []) #[false, false, false, false, false] (by kernel_rfl) rfl rfl ⟨(blk_cell BK126.out 0).trans rfl, (blk_cell BK126.out 1).trans rfl, (blk_cell BK126.out 2).trans rfl, (blk_cell BK101.out 0).trans rfl, (blk_cell BK101.out 1).trans rfl, (blk_cell BK101.out 2).trans rfl⟩ (fun hHeld => ?_)
            generalize wc.drew = w65 at HO_119001 HO_119002 HO_127001 HO_127002 HO_136001 HO_136002 BK101 BK118 BK126 BK135 HB hHeld ⊢
            refine take_ (i := 0) (N := some 41) (v := ?_) (a' := ?_) #[true, false, false, false, false] rfl rfl (by kernel_rfl) (fun _ _ _ h => h) (Or.inl ⟨by rfl, ?_⟩) hHeld ?_ ?_
            rotate_left
            · rintro w' ⟨s0, s1, s2, s3, s4, s5⟩
              go_simp
              with_reducible rfl
            rotate_left
            · simp only [Act.put, List.setIfInBounds_toArray, List.set_cons_zero, List.set_cons_succ, i64_w, i32_w]
              rfl
            refine take_ (i := 1) (N := some 42) (v := ?_) (a' := ?_) #[true, true, false, false, false] rfl rfl (by kernel_rfl) (fun _ _ _ h => h) (Or.inl ⟨by rfl, ?_⟩) hHeld ?_ ?_
            rotate_left
            · rintro w' ⟨s0, s1, s2, s3, s4, s5⟩
              go_simp
              with_reducible rfl
            rotate_left
            · simp only [Act.put, List.setIfInBounds_toArray, List.set_cons_zero, List.set_cons_succ, i64_w, i32_w]
              rfl
            refine one_ (i := 2) (N := some 43) #[true, true, true, false, false] rfl rfl (by kernel_rfl) (by decide) (fun K hK => ?_)
            refine goes_ Try.func9 (by kernel_rfl) rfl #[.agg #[.int .i64 a0_0, .slice A0_1 l0_1.length c0_1, .slice A0_2 l0_2.length c0_2]] (by rfl) rfl rfl (by (try simp only [List.map_toArray, List.map_cons, List.map_nil]); first | done | rfl | (simp only [List.length_drop, List.length_take]; rfl)) ?_
            with_reducible refine (laws_toHeap.calls kj10 a0_0 _ _ l0_1 _ _ l0_2 t137 t138 t141 _ ?side1 ?side2 ?side3 ?side4 A60.out).mono ?_
            (case side1 => repeat (first | exact (Kd.C_below HR0_1.out HB.out) | (with_reducible refine Kd.C_alloc ?_ _) | (with_reducible refine Kd.C_drewN ?_ _) | (with_reducible refine Kd.C_drew ?_)))
            (case side2 => exact HC0_1.out)
            (case side3 => repeat (first | exact (Kd.C_below HR0_2.out HB.out) | (with_reducible refine Kd.C_alloc ?_ _) | (with_reducible refine Kd.C_drewN ?_ _) | (with_reducible refine Kd.C_drew ?_)))
            (case side4 => exact HC0_2.out)
            rintro e w66 ⟨v139, v142, rfl, ho0, ho1, hb⟩
            refine ⟨_, rfl, ?_⟩
            have n0_ := aM (Kd.R_elder' (by (with_reducible repeat (first | apply rA | apply rN | apply rD)); exact HO_119001.out) (Kd.R_base ho0) hb)
            have n1_ := aM (Kd.R_elder' (by (with_reducible repeat (first | apply rA | apply rN | apply rD)); exact HO_119002.out) (Kd.R_base ho1) hb)
            have n2_ := aM (Kd.R_elder' (by (with_reducible repeat (first | apply rA | apply rN | apply rD)); exact HO_127001.out) (Kd.R_base ho0) hb)
            have n3_ := aM (Kd.R_elder' (by (with_reducible repeat (first | apply rA | apply rN | apply rD)); exact HO_127002.out) (Kd.R_base ho1) hb)
            have n4_ := aM (Kd.R_elder' (by (with_reducible repeat (first | apply rA | apply rN | apply rD)); exact HO_136001.out) (Kd.R_base ho0) hb)
            have n5_ := aM (Kd.R_elder' (by (with_reducible repeat (first | apply rA | apply rN | apply rD)); exact HO_136002.out) (Kd.R_base ho1) hb)
            have n6_ := aM (Kd.R_lower (Kd.R_new' (Kd.R_new' (Kd.R_new' ho0 (Kd.R_lt (by (with_reducible repeat (first | apply rA | apply rN | apply rD)); exact HO_119001.out))) (Kd.R_lt (by (with_reducible repeat (first | apply rA | apply rN | apply rD)); exact HO_127001.out))) (Kd.R_lt (by (with_reducible repeat (first | apply rA | apply rN | apply rD)); exact HO_136001.out))) (below_size (by repeat (first | (with_reducible first | exact HB.out | apply below_alloc | apply pw_below_drewN | apply below_drew1 | refine below_set ?_ GE101.out | refine below_set ?_ GE118.out | refine below_set ?_ GE126.out | refine below_set ?_ GE135.out) | exact HB.out))))
            have n7_ := aM (Kd.R_lower (Kd.R_new' (Kd.R_new' (Kd.R_new' ho1 (Kd.R_lt (by (with_reducible repeat (first | apply rA | apply rN | apply rD)); exact HO_119002.out))) (Kd.R_lt (by (with_reducible repeat (first | apply rA | apply rN | apply rD)); exact HO_127002.out))) (Kd.R_lt (by (with_reducible repeat (first | apply rA | apply rN | apply rD)); exact HO_136002.out))) (below_size (by repeat (first | (with_reducible first | exact HB.out | apply below_alloc | apply pw_below_drewN | apply below_drew1 | refine below_set ?_ GE101.out | refine below_set ?_ GE118.out | refine below_set ?_ GE126.out | refine below_set ?_ GE135.out) | exact HB.out))))
            have n8_ := aM (blk_below (g := gb101) (o := .cells #[.int .i64 a0_0, .slice A0_1 l0_1.length c0_1, .slice A0_2 l0_2.length c0_2] 25 (0, 0)) (by (with_reducible repeat (first | refine bN ?_ _ | refine bD ?_ | refine bA ?_ _)); exact BK101.out) hb)
            have n9_ := aM (blk_below (g := gb118) (o := .cells #[.int .i64 t110, .slice Ao23 t111.length co23, .slice Ao24 t114.length co24] 30 (0, 0)) (by (with_reducible repeat (first | refine bN ?_ _ | refine bD ?_ | refine bA ?_ _)); exact BK118.out) hb)
            have n10_ := aM (blk_below (g := gb126) (o := .cells #[.int .i64 t119, .slice Ao31 t120.length co31, .slice Ao32 t123.length co32] 30 (0, 0)) (by (with_reducible repeat (first | refine bN ?_ _ | refine bD ?_ | refine bA ?_ _)); exact BK126.out) hb)
            have n11_ := aM (blk_below (g := gb135) (o := .cells #[.int .i64 t127, .slice Ao39 t128.length co39, .slice Ao40 t131.length co40] 30 (0, 0)) (by (with_reducible repeat (first | refine bN ?_ _ | refine bD ?_ | refine bA ?_ _)); exact BK135.out) hb)
            have n12_ := aM (below_step (by repeat (first | (with_reducible first | exact HB.out | apply below_alloc | apply pw_below_drewN | apply below_drew1 | refine below_set ?_ GE101.out | refine below_set ?_ GE118.out | refine below_set ?_ GE126.out | refine below_set ?_ GE135.out) | exact HB.out)) hb)
            clear HO_119001
            clear HO_119002
            clear HO_127001
            clear HO_127002
            clear HO_136001
            clear HO_136002
            clear BK101
            clear BK118
            clear BK126
            clear BK135
            clear HB
            have HO_119001 := n0_
            have HO_119002 := n1_
            have HO_127001 := n2_
            have HO_127002 := n3_
            have HO_136001 := n4_
            have HO_136002 := n5_
            have HO140 := n6_
            have HO143 := n7_
            have BK101 := n8_
            have BK118 := n9_
            have BK126 := n10_
            have BK135 := n11_
            have HB := n12_
            clear n0_ n1_ n2_ n3_ n4_ n5_ n6_ n7_ n8_ n9_ n10_ n11_ n12_
            (try clear hb)
            (try clear hb2)
            (try clear hk)
            (try clear hi)
            (try clear ho0)
            (try clear ho1)
            obtain ⟨Ao67, co67, eo67⟩ := Kd.R_slice HO140.out
            (first | subst eo67 | (injection eo67 with f1_ f2_ f3_; have f4_ := f1_.symm; have f5_ := f3_.symm; clear f1_ f2_ f3_; subst f4_; subst f5_))
            obtain ⟨Ao68, co68, eo68⟩ := Kd.R_slice HO143.out
            (first | subst eo68 | (injection eo68 with f1_ f2_ f3_; have f4_ := f1_.symm; have f5_ := f3_.symm; clear f1_ f2_ f3_; subst f4_; subst f5_))
            refine hK.out _ _ ⟨(blk_cell BK126.out 0).trans rfl, (blk_cell BK126.out 1).trans rfl, (blk_cell BK126.out 2).trans rfl, (blk_cell BK101.out 0).trans rfl, (blk_cell BK101.out 1).trans rfl, (blk_cell BK101.out 2).trans rfl⟩ (fun hHeld => ?_)
            clear hK K
            refine norm_ (a' := ?_) ?_ ?_
            rotate_left
            · show Act.put _ (some 43) _ = _
              simp only [Act.put, List.setIfInBounds_toArray, List.set_cons_zero, List.set_cons_succ, i64_w, i32_w]
              rfl
            refine one_ (i := 3) (N := some 44) #[true, true, true, true, false] rfl rfl (by kernel_rfl) (by decide) (fun K hK => ?_)
            refine goes_ Try.func11 (by kernel_rfl) rfl #[.agg #[.int .i64 t119, .slice Ao31 t120.length co31, .slice Ao32 t123.length co32], .agg #[.int .i64 t137, .slice Ao67 t138.length co67, .slice Ao68 t141.length co68]] (by rfl) rfl rfl (by (try simp only [List.map_toArray, List.map_cons, List.map_nil]); first | done | rfl | (simp only [List.length_drop, List.length_take]; rfl)) ?_
            with_reducible refine (laws_eqHeap.calls kj10 t119 _ _ t120 _ _ t123 t137 _ _ t138 _ _ t141 true _ ?side1 ?side2 ?side3 ?side4 ?side5 ?side6 ?side7 ?side8 A61.out).mono ?_
            (case side1 => repeat (first | exact (Kd.R_reads' HO_127001.out).2.2 | (with_reducible refine Kd.C_alloc ?_ _) | (with_reducible refine Kd.C_drewN ?_ _) | (with_reducible refine Kd.C_drew ?_)))
            (case side2 => exact (Kd.R_reads' HO_127001.out).2.1)
            (case side3 => repeat (first | exact (Kd.R_reads' HO_127002.out).2.2 | (with_reducible refine Kd.C_alloc ?_ _) | (with_reducible refine Kd.C_drewN ?_ _) | (with_reducible refine Kd.C_drew ?_)))
            (case side4 => exact (Kd.R_reads' HO_127002.out).2.1)
            (case side5 => repeat (first | exact (Kd.R_reads' HO140.out).2.2 | (with_reducible refine Kd.C_alloc ?_ _) | (with_reducible refine Kd.C_drewN ?_ _) | (with_reducible refine Kd.C_drew ?_)))
            (case side6 => exact (Kd.R_reads' HO140.out).2.1)
            (case side7 => repeat (first | exact (Kd.R_reads' HO143.out).2.2 | (with_reducible refine Kd.C_alloc ?_ _) | (with_reducible refine Kd.C_drewN ?_ _) | (with_reducible refine Kd.C_drew ?_)))
            (case side8 => exact (Kd.R_reads' HO143.out).2.1)
            rintro e w69 ⟨rfl, hb⟩
            refine ⟨_, rfl, ?_⟩
            have n0_ := aM (Kd.R_below (by (with_reducible repeat (first | apply rA | apply rN | apply rD)); exact HO_119001.out) hb)
            have n1_ := aM (Kd.R_below (by (with_reducible repeat (first | apply rA | apply rN | apply rD)); exact HO_119002.out) hb)
            have n2_ := aM (Kd.R_below (by (with_reducible repeat (first | apply rA | apply rN | apply rD)); exact HO_127001.out) hb)
            have n3_ := aM (Kd.R_below (by (with_reducible repeat (first | apply rA | apply rN | apply rD)); exact HO_127002.out) hb)
            have n4_ := aM (Kd.R_below (by (with_reducible repeat (first | apply rA | apply rN | apply rD)); exact HO_136001.out) hb)
            have n5_ := aM (Kd.R_below (by (with_reducible repeat (first | apply rA | apply rN | apply rD)); exact HO_136002.out) hb)
            have n6_ := aM (Kd.R_below (by (with_reducible repeat (first | apply rA | apply rN | apply rD)); exact HO140.out) hb)
            have n7_ := aM (Kd.R_below (by (with_reducible repeat (first | apply rA | apply rN | apply rD)); exact HO143.out) hb)
            have n8_ := aM (blk_below (g := gb101) (o := .cells #[.int .i64 a0_0, .slice A0_1 l0_1.length c0_1, .slice A0_2 l0_2.length c0_2] 25 (0, 0)) (by (with_reducible repeat (first | refine bN ?_ _ | refine bD ?_ | refine bA ?_ _)); exact BK101.out) hb)
            have n9_ := aM (blk_below (g := gb118) (o := .cells #[.int .i64 t110, .slice Ao23 t111.length co23, .slice Ao24 t114.length co24] 30 (0, 0)) (by (with_reducible repeat (first | refine bN ?_ _ | refine bD ?_ | refine bA ?_ _)); exact BK118.out) hb)
            have n10_ := aM (blk_below (g := gb126) (o := .cells #[.int .i64 t119, .slice Ao31 t120.length co31, .slice Ao32 t123.length co32] 30 (0, 0)) (by (with_reducible repeat (first | refine bN ?_ _ | refine bD ?_ | refine bA ?_ _)); exact BK126.out) hb)
            have n11_ := aM (blk_below (g := gb135) (o := .cells #[.int .i64 t127, .slice Ao39 t128.length co39, .slice Ao40 t131.length co40] 30 (0, 0)) (by (with_reducible repeat (first | refine bN ?_ _ | refine bD ?_ | refine bA ?_ _)); exact BK135.out) hb)
            have n12_ := aM (below_step (by repeat (first | (with_reducible first | exact HB.out | apply below_alloc | apply pw_below_drewN | apply below_drew1 | refine below_set ?_ GE101.out | refine below_set ?_ GE118.out | refine below_set ?_ GE126.out | refine below_set ?_ GE135.out) | exact HB.out)) hb)
            clear HO_119001
            clear HO_119002
            clear HO_127001
            clear HO_127002
            clear HO_136001
            clear HO_136002
            clear HO140
            clear HO143
            clear BK101
            clear BK118
            clear BK126
            clear BK135
            clear HB
            have HO_119001 := n0_
            have HO_119002 := n1_
            have HO_127001 := n2_
            have HO_127002 := n3_
            have HO_136001 := n4_
            have HO_136002 := n5_
            have HO140 := n6_
            have HO143 := n7_
            have BK101 := n8_
            have BK118 := n9_
            have BK126 := n10_
            have BK135 := n11_
            have HB := n12_
            clear n0_ n1_ n2_ n3_ n4_ n5_ n6_ n7_ n8_ n9_ n10_ n11_ n12_
            (try clear hb)
            (try clear hb2)
            (try clear hk)
            (try clear hi)
            refine hK.out _ _ ⟨(blk_cell BK126.out 0).trans rfl, (blk_cell BK126.out 1).trans rfl, (blk_cell BK126.out 2).trans rfl, (blk_cell BK101.out 0).trans rfl, (blk_cell BK101.out 1).trans rfl, (blk_cell BK101.out 2).trans rfl⟩ (fun hHeld => ?_)
            clear hK K
            refine norm_ (a' := ?_) ?_ ?_
            rotate_left
            · show Act.put _ (some 44) _ = _
              simp only [Act.put, List.setIfInBounds_toArray, List.set_cons_zero, List.set_cons_succ, i64_w, i32_w]
              rfl
            refine pure_ (i := 4) (N := some 45) (v := ?_) (a' := ?_) #[true, true, true, true, true] rfl rfl (by kernel_rfl) (fun _ _ _ h => h) (Or.inl ⟨by rfl, ?_⟩) ?_ ?_
            rotate_left
            · intro w'
              go_simp
              with_reducible rfl
            rotate_left
            · simp only [Act.put, List.setIfInBounds_toArray, List.set_cons_zero, List.set_cons_succ, i64_w, i32_w]
              rfl
            refine done_ (by kernel_rfl) ?_
            have hnb70 := NB126_101.out
            have hnc70 := NB101_126.out
            have hnb71 := NB126_118.out
            have hnc71 := NB118_126.out
            have hnb72 := NB126_135.out
            have hnc72 := NB135_126.out
            have hcz73_0 : w69.cell? ⟨gb126, 0, none⟩ = some (.int .i64 t119) := (blk_cell BK126.out 0).trans rfl
            have hcz73_1 : w69.cell? ⟨gb126, 1, none⟩ = some (.slice Ao31 t120.length co31) := (blk_cell BK126.out 1).trans rfl
            have hcz73_2 : w69.cell? ⟨gb126, 2, none⟩ = some (.slice Ao32 t123.length co32) := (blk_cell BK126.out 2).trans rfl
            have hfz73_0 := blk_frozen BK126.out 0
            have hfz73_1 := blk_frozen BK126.out 1
            have hfz73_2 := blk_frozen BK126.out 2
            go_upto_region 14 with (first | ((with_reducible refine gate_callee (f := 15) rfl ?_); refine goesL_ (some 48) rfl rfl Try.func15 (by kernel_rfl) rfl #[.agg #[.int .i64 t119, .slice Ao31 t120.length co31, .slice Ao32 t123.length co32], .int .i64 1] rfl (by (try simp only [List.map_toArray, List.map_cons, List.map_nil]); first | done | rfl | (simp only [List.length_drop, List.length_take]; rfl)) ?_; (with_reducible refine (laws_markHeap.calls kj10 t119 (fun k_ => some k_ = (.slice Ao31 t120.length co31 : Value).ownBlock) (.slice Ao31 t120.length co31) t120 (fun k_ => some k_ = (.slice Ao32 t123.length co32 : Value).ownBlock) (.slice Ao32 t123.length co32) t123 1 t145 t146 t147 w _ ?side1 ?side2 ?side3 A63.out).mono ?_); (case side1 => repeat (first | (with_reducible first | exact HB.out | apply below_alloc | apply pw_below_drewN | apply below_drew1 | refine below_set ?_ GE101.out | refine below_set ?_ GE118.out | refine below_set ?_ GE126.out | refine below_set ?_ GE135.out) | exact HB.out)); (case side2 => exact Kd.R_tight rfl HO_127001.out); (case side3 => exact Kd.R_tight rfl HO_127002.out); rintro e w74 ⟨rfl, hy0, hy1, hb, hkp⟩; refine ⟨_, rfl, ?_⟩; have n0_ := aM (Kd.R_mono (ok' := fun k_ => some k_ ≠ (.slice Ao31 t120.length co31 : Value).ownBlock ∧ some k_ ≠ (.slice Ao39 t128.length co39 : Value).ownBlock ∧ some k_ ≠ (.slice Ao67 t138.length co67 : Value).ownBlock) (Kd.R_keptB ((Kd.R_apart' HO_119001.out (Kd.R_typed HO_127002.out) (by decide))) hkp (fun k_ hk_ hs_ => Or.elim hs_ (fun e_ => (hk_.1.1.1) e_) (fun e_ => (hk_.2) e_))) (fun k_ hk_ => ⟨hk_.1.1.1.1, hk_.1.1.1.2, hk_.1.1.2⟩)); have n1_ := aM (Kd.R_mono (ok' := fun k_ => some k_ ≠ (.slice Ao32 t123.length co32 : Value).ownBlock ∧ some k_ ≠ (.slice Ao40 t131.length co40 : Value).ownBlock ∧ some k_ ≠ (.slice Ao68 t141.length co68 : Value).ownBlock) (Kd.R_keptB ((Kd.R_apart' HO_119002.out (Kd.R_typed HO_127001.out) (by decide))) hkp (fun k_ hk_ hs_ => Or.elim hs_ (fun e_ => (hk_.2) e_) (fun e_ => (hk_.1.1.1) e_))) (fun k_ hk_ => ⟨hk_.1.1.1.1, hk_.1.1.1.2, hk_.1.1.2⟩)); have n2_ := aM (Kd.R_reok rfl hy0 (fun k_ e_ => HO_127001.out.1 k_ e_)); have n3_ := aM (Kd.R_reok rfl hy1 (fun k_ e_ => HO_127002.out.1 k_ e_)); have n4_ := aM (Kd.R_mono (ok' := fun k_ => some k_ ≠ (.slice Ao23 t111.length co23 : Value).ownBlock ∧ some k_ ≠ (.slice Ao31 t120.length co31 : Value).ownBlock ∧ some k_ ≠ (.slice Ao67 t138.length co67 : Value).ownBlock) (Kd.R_keptB ((Kd.R_apart' HO_136001.out (Kd.R_typed HO_127002.out) (by decide))) hkp (fun k_ hk_ hs_ => Or.elim hs_ (fun e_ => (hk_.1.1.2) e_) (fun e_ => (hk_.2) e_))) (fun k_ hk_ => ⟨hk_.1.1.1.1, hk_.1.1.1.2, hk_.1.1.2⟩)); have n5_ := aM (Kd.R_mono (ok' := fun k_ => some k_ ≠ (.slice Ao24 t114.length co24 : Value).ownBlock ∧ some k_ ≠ (.slice Ao32 t123.length co32 : Value).ownBlock ∧ some k_ ≠ (.slice Ao68 t141.length co68 : Value).ownBlock) (Kd.R_keptB ((Kd.R_apart' HO_136002.out (Kd.R_typed HO_127001.out) (by decide))) hkp (fun k_ hk_ hs_ => Or.elim hs_ (fun e_ => (hk_.2) e_) (fun e_ => (hk_.1.1.2) e_))) (fun k_ hk_ => ⟨hk_.1.1.1.1, hk_.1.1.1.2, hk_.1.1.2⟩)); have n6_ := aM (blk_kept (by (with_reducible repeat (first | refine bN ?_ _ | refine bD ?_ | refine bA ?_ _)); exact BK101.out) hkp (fun hs_ => Or.elim hs_ (fun e_ => (fun e_ => (Kd.R_ne HO_127001.out BK101.out (by decide)) e_) e_) (fun e_ => (fun e_ => (Kd.R_ne HO_127002.out BK101.out (by decide)) e_) e_))); have n7_ := aM (blk_kept (by (with_reducible repeat (first | refine bN ?_ _ | refine bD ?_ | refine bA ?_ _)); exact BK118.out) hkp (fun hs_ => Or.elim hs_ (fun e_ => (fun e_ => (Kd.R_ne HO_127001.out BK118.out (by decide)) e_) e_) (fun e_ => (fun e_ => (Kd.R_ne HO_127002.out BK118.out (by decide)) e_) e_))); have n8_ := aM (blk_kept (by (with_reducible repeat (first | refine bN ?_ _ | refine bD ?_ | refine bA ?_ _)); exact BK126.out) hkp (fun hs_ => Or.elim hs_ (fun e_ => (fun e_ => (Kd.R_ne HO_127001.out BK126.out (by decide)) e_) e_) (fun e_ => (fun e_ => (Kd.R_ne HO_127002.out BK126.out (by decide)) e_) e_))); have n9_ := aM (blk_kept (by (with_reducible repeat (first | refine bN ?_ _ | refine bD ?_ | refine bA ?_ _)); exact BK135.out) hkp (fun hs_ => Or.elim hs_ (fun e_ => (fun e_ => (Kd.R_ne HO_127001.out BK135.out (by decide)) e_) e_) (fun e_ => (fun e_ => (Kd.R_ne HO_127002.out BK135.out (by decide)) e_) e_))); have n10_ := aM (Kd.R_mono (ok' := fun k_ => some k_ ≠ (.slice Ao23 t111.length co23 : Value).ownBlock ∧ some k_ ≠ (.slice Ao31 t120.length co31 : Value).ownBlock ∧ some k_ ≠ (.slice Ao39 t128.length co39 : Value).ownBlock) (Kd.R_keptB ((Kd.R_apart' HO140.out (Kd.R_typed HO_127002.out) (by decide))) hkp (fun k_ hk_ hs_ => Or.elim hs_ (fun e_ => (hk_.1.1.2) e_) (fun e_ => (hk_.2) e_))) (fun k_ hk_ => ⟨hk_.1.1.1.1.2, hk_.1.1.1.2, hk_.1.1.2⟩)); have n11_ := aM (Kd.R_mono (ok' := fun k_ => some k_ ≠ (.slice Ao24 t114.length co24 : Value).ownBlock ∧ some k_ ≠ (.slice Ao32 t123.length co32 : Value).ownBlock ∧ some k_ ≠ (.slice Ao40 t131.length co40 : Value).ownBlock) (Kd.R_keptB ((Kd.R_apart' HO143.out (Kd.R_typed HO_127001.out) (by decide))) hkp (fun k_ hk_ hs_ => Or.elim hs_ (fun e_ => (hk_.2) e_) (fun e_ => (hk_.1.1.2) e_))) (fun k_ hk_ => ⟨hk_.1.1.1.1.2, hk_.1.1.1.2, hk_.1.1.2⟩)); have n12_ := aM (hb); clear HO_119001; clear HO_119002; clear HO_127001; clear HO_127002; clear HO_136001; clear HO_136002; clear BK101; clear BK118; clear BK126; clear BK135; clear HO140; clear HO143; clear HB; have HO_119001 := n0_; have HO_119002 := n1_; have HO_127001 := n2_; have HO_127002 := n3_; have HO_136001 := n4_; have HO_136002 := n5_; have BK101 := n6_; have BK118 := n7_; have BK126 := n8_; have BK135 := n9_; have HO140 := n10_; have HO143 := n11_; have HB := n12_; clear n0_ n1_ n2_ n3_ n4_ n5_ n6_ n7_ n8_ n9_ n10_ n11_ n12_; (try clear hb); (try clear hkp); (try clear hy0); (try clear hy1)))
            (try simp only [Act.put, List.setIfInBounds_toArray, List.set_cons_zero, List.set_cons_succ])
            go_cut [61] (fun v61 wc => ∃ (kq : Nat) (x61_63 : Bool), v61 = .bool x61_63 ∧ Aside0 (laws_FnExactMinorCollect.j1 kq t117 x61_63 a0_0 l0_1 l0_2 t110 t111 t114 t127 t128 t131 = some r) ∧ Aside0 (kq ≤ kj10) ∧ Aside0 (Kd.R k44 44 wc w.heap.size (fun k_ => some k_ ≠ ((.slice Ao31 t120.length co31) : Value).ownBlock ∧ some k_ ≠ ((.slice Ao39 t128.length co39) : Value).ownBlock) (.slice Ao23 t111.length co23) t111) ∧ Aside0 (Kd.R (Kd.int .i64) 3 wc w.heap.size (fun k_ => some k_ ≠ ((.slice Ao32 t123.length co32) : Value).ownBlock ∧ some k_ ≠ ((.slice Ao40 t131.length co40) : Value).ownBlock) (.slice Ao24 t114.length co24) t114) ∧ Aside0 (Kd.R k44 44 wc w.heap.size (fun k_ => some k_ ≠ ((.slice Ao23 t111.length co23) : Value).ownBlock ∧ some k_ ≠ ((.slice Ao39 t128.length co39) : Value).ownBlock) (.slice Ao31 t120.length co31) t146) ∧ Aside0 (Kd.R (Kd.int .i64) 3 wc w.heap.size (fun k_ => some k_ ≠ ((.slice Ao24 t114.length co24) : Value).ownBlock ∧ some k_ ≠ ((.slice Ao40 t131.length co40) : Value).ownBlock) (.slice Ao32 t123.length co32) t147) ∧ Aside0 (Kd.R k44 44 wc w.heap.size (fun k_ => some k_ ≠ ((.slice Ao23 t111.length co23) : Value).ownBlock ∧ some k_ ≠ ((.slice Ao31 t120.length co31) : Value).ownBlock) (.slice Ao39 t128.length co39) t128) ∧ Aside0 (Kd.R (Kd.int .i64) 3 wc w.heap.size (fun k_ => some k_ ≠ ((.slice Ao24 t114.length co24) : Value).ownBlock ∧ some k_ ≠ ((.slice Ao32 t123.length co32) : Value).ownBlock) (.slice Ao40 t131.length co40) t131) ∧ Aside0 (wc.heap[gb101]? = some (.cells #[.int .i64 a0_0, (.slice A0_1 l0_1.length c0_1), (.slice A0_2 l0_2.length c0_2)] 25 (0, 0))) ∧ Aside0 (wc.heap[gb118]? = some (.cells #[.int .i64 t110, (.slice Ao23 t111.length co23), (.slice Ao24 t114.length co24)] 30 (0, 0))) ∧ Aside0 (wc.heap[gb126]? = some (.cells #[.int .i64 t119, (.slice Ao31 t120.length co31), (.slice Ao32 t123.length co32)] 30 (0, 0))) ∧ Aside0 (wc.heap[gb135]? = some (.cells #[.int .i64 t127, (.slice Ao39 t128.length co39), (.slice Ao40 t131.length co40)] 30 (0, 0))) ∧ Aside0 (Below w.heap.size w wc))
            case first =>
              have H := HC64.out
              clear HC64
              by_cases c75 : t145 < 0
              · rw [if_pos c75] at H
                have c75b0 : decide (t145 < 0) = true := decide_eq_true c75
                clear c75
                (first | rw [c75b0] | (simp only [i64_w, i32_w]; rw [c75b0]) | skip)
                have H' := aM H
                clear H
                go_wp2
                go_meet
                case rel => exact ⟨_, (true), (by first | rfl | (simp; done) | (simp [*]; done)), H', ⟨by have := HJ10.out; first | omega | exact Nat.le_refl _⟩, ⟨by (with_reducible repeat (first | apply rA | apply rN | apply rD)); exact Kd.R_mono HO_119001.out (fun _ hk => ⟨hk.1, hk.2.1⟩)⟩, ⟨by (with_reducible repeat (first | apply rA | apply rN | apply rD)); exact Kd.R_mono HO_119002.out (fun _ hk => ⟨hk.1, hk.2.1⟩)⟩, ⟨by (with_reducible repeat (first | apply rA | apply rN | apply rD)); exact Kd.R_mono HO_127001.out (fun _ hk => ⟨hk.1.1, hk.1.2⟩)⟩, ⟨by (with_reducible repeat (first | apply rA | apply rN | apply rD)); exact Kd.R_mono HO_127002.out (fun _ hk => ⟨hk.1.1, hk.1.2⟩)⟩, ⟨by (with_reducible repeat (first | apply rA | apply rN | apply rD)); exact Kd.R_mono HO_136001.out (fun _ hk => ⟨hk.1, hk.2.1⟩)⟩, ⟨by (with_reducible repeat (first | apply rA | apply rN | apply rD)); exact Kd.R_mono HO_136002.out (fun _ hk => ⟨hk.1, hk.2.1⟩)⟩, ⟨by (with_reducible repeat (first | refine bN ?_ _ | refine bD ?_ | refine bA ?_ _)); exact BK101.out⟩, ⟨by (with_reducible repeat (first | refine bN ?_ _ | refine bD ?_ | refine bA ?_ _)); exact BK118.out⟩, ⟨by (with_reducible repeat (first | refine bN ?_ _ | refine bD ?_ | refine bA ?_ _)); exact BK126.out⟩, ⟨by (with_reducible repeat (first | refine bN ?_ _ | refine bD ?_ | refine bA ?_ _)); exact BK135.out⟩, ⟨by repeat (first | (with_reducible first | exact HB.out | apply below_alloc | apply pw_below_drewN | apply below_drew1 | refine below_set ?_ GE101.out | refine below_set ?_ GE118.out | refine below_set ?_ GE126.out | refine below_set ?_ GE135.out) | exact HB.out)⟩⟩
              · rw [if_neg c75] at H
                have c75b0 : decide (t145 < 0) = false := decide_eq_false c75
                clear c75
                (first | rw [c75b0] | (simp only [i64_w, i32_w]; rw [c75b0]) | skip)
                replace H := Option.bind_eq_some_iff.mp H
                obtain ⟨t148, A760, H⟩ := H
                replace H : (if t148 = true then (laws_FnExactMinorCollect.j1 kj10 t117 (t134 != t117) a0_0 l0_1 l0_2 t110 t111 t114 t127 t128 t131) else (laws_FnExactMinorCollect.j1 kj10 t117 true a0_0 l0_1 l0_2 t110 t111 t114 t127 t128 t131)) = some r := H
                have A76 := aM A760
                clear A760
                by_cases c77 : t148 = true
                · subst c77
                  have H1 : (laws_FnExactMinorCollect.j1 kj10 t117 (t134 != t117) a0_0 l0_1 l0_2 t110 t111 t114 t127 t128 t131) = some r := by rw [if_pos rfl] at H; exact H
                  clear H
                  have H := H1
                  clear H1
                  have H' := aM H
                  clear H
                  have hnb78 := NB135_101.out
                  have hnc78 := NB101_135.out
                  have hnb79 := NB135_118.out
                  have hnc79 := NB118_135.out
                  have hnb80 := NB135_126.out
                  have hnc80 := NB126_135.out
                  have hcz81_0 : w74.cell? ⟨gb135, 0, none⟩ = some (.int .i64 t127) := (blk_cell BK135.out 0).trans rfl
                  have hcz81_1 : w74.cell? ⟨gb135, 1, none⟩ = some (.slice Ao39 t128.length co39) := (blk_cell BK135.out 1).trans rfl
                  have hcz81_2 : w74.cell? ⟨gb135, 2, none⟩ = some (.slice Ao40 t131.length co40) := (blk_cell BK135.out 2).trans rfl
                  have hfz81_0 := blk_frozen BK135.out 0
                  have hfz81_1 := blk_frozen BK135.out 1
                  have hfz81_2 := blk_frozen BK135.out 2
                  have hnb82 := NB118_101.out
                  have hnc82 := NB101_118.out
                  have hnb83 := NB118_126.out
                  have hnc83 := NB126_118.out
                  have hcz84_0 : w74.cell? ⟨gb118, 0, none⟩ = some (.int .i64 t110) := (blk_cell BK118.out 0).trans rfl
                  have hcz84_1 : w74.cell? ⟨gb118, 1, none⟩ = some (.slice Ao23 t111.length co23) := (blk_cell BK118.out 1).trans rfl
                  have hcz84_2 : w74.cell? ⟨gb118, 2, none⟩ = some (.slice Ao24 t114.length co24) := (blk_cell BK118.out 2).trans rfl
                  have hfz84_0 := blk_frozen BK118.out 0
                  have hfz84_1 := blk_frozen BK118.out 1
                  have hfz84_2 := blk_frozen BK118.out 2
                  go_wp2_with (first | (go_at_call 11; (with_reducible refine (laws_eqHeap.calls kj10 t127 _ _ t128 _ _ t131 t110 _ _ t111 _ _ t114 true _ ?side1 ?side2 ?side3 ?side4 ?side5 ?side6 ?side7 ?side8 A76.out).mono ?_); (case side1 => repeat (first | exact (Kd.R_reads' HO_136001.out).2.2 | (with_reducible refine Kd.C_alloc ?_ _) | (with_reducible refine Kd.C_drewN ?_ _) | (with_reducible refine Kd.C_drew ?_))); (case side2 => exact (Kd.R_reads' HO_136001.out).2.1); (case side3 => repeat (first | exact (Kd.R_reads' HO_136002.out).2.2 | (with_reducible refine Kd.C_alloc ?_ _) | (with_reducible refine Kd.C_drewN ?_ _) | (with_reducible refine Kd.C_drew ?_))); (case side4 => exact (Kd.R_reads' HO_136002.out).2.1); (case side5 => repeat (first | exact (Kd.R_reads' HO_119001.out).2.2 | (with_reducible refine Kd.C_alloc ?_ _) | (with_reducible refine Kd.C_drewN ?_ _) | (with_reducible refine Kd.C_drew ?_))); (case side6 => exact (Kd.R_reads' HO_119001.out).2.1); (case side7 => repeat (first | exact (Kd.R_reads' HO_119002.out).2.2 | (with_reducible refine Kd.C_alloc ?_ _) | (with_reducible refine Kd.C_drewN ?_ _) | (with_reducible refine Kd.C_drew ?_))); (case side8 => exact (Kd.R_reads' HO_119002.out).2.1); rintro e w85 ⟨rfl, hb⟩; have n0_ := aM (Kd.R_below (by (with_reducible repeat (first | apply rA | apply rN | apply rD)); exact HO_119001.out) hb); have n1_ := aM (Kd.R_below (by (with_reducible repeat (first | apply rA | apply rN | apply rD)); exact HO_119002.out) hb); have n2_ := aM (Kd.R_below (by (with_reducible repeat (first | apply rA | apply rN | apply rD)); exact HO_127001.out) hb); have n3_ := aM (Kd.R_below (by (with_reducible repeat (first | apply rA | apply rN | apply rD)); exact HO_127002.out) hb); have n4_ := aM (Kd.R_below (by (with_reducible repeat (first | apply rA | apply rN | apply rD)); exact HO_136001.out) hb); have n5_ := aM (Kd.R_below (by (with_reducible repeat (first | apply rA | apply rN | apply rD)); exact HO_136002.out) hb); have n6_ := aM (Kd.R_below (by (with_reducible repeat (first | apply rA | apply rN | apply rD)); exact HO140.out) hb); have n7_ := aM (Kd.R_below (by (with_reducible repeat (first | apply rA | apply rN | apply rD)); exact HO143.out) hb); have n8_ := aM (blk_below (g := gb101) (o := .cells #[.int .i64 a0_0, .slice A0_1 l0_1.length c0_1, .slice A0_2 l0_2.length c0_2] 25 (0, 0)) (by (with_reducible repeat (first | refine bN ?_ _ | refine bD ?_ | refine bA ?_ _)); exact BK101.out) hb); have n9_ := aM (blk_below (g := gb118) (o := .cells #[.int .i64 t110, .slice Ao23 t111.length co23, .slice Ao24 t114.length co24] 30 (0, 0)) (by (with_reducible repeat (first | refine bN ?_ _ | refine bD ?_ | refine bA ?_ _)); exact BK118.out) hb); have n10_ := aM (blk_below (g := gb126) (o := .cells #[.int .i64 t119, .slice Ao31 t120.length co31, .slice Ao32 t123.length co32] 30 (0, 0)) (by (with_reducible repeat (first | refine bN ?_ _ | refine bD ?_ | refine bA ?_ _)); exact BK126.out) hb); have n11_ := aM (blk_below (g := gb135) (o := .cells #[.int .i64 t127, .slice Ao39 t128.length co39, .slice Ao40 t131.length co40] 30 (0, 0)) (by (with_reducible repeat (first | refine bN ?_ _ | refine bD ?_ | refine bA ?_ _)); exact BK135.out) hb); have n12_ := aM (below_step (by repeat (first | (with_reducible first | exact HB.out | apply below_alloc | apply pw_below_drewN | apply below_drew1 | refine below_set ?_ GE101.out | refine below_set ?_ GE118.out | refine below_set ?_ GE126.out | refine below_set ?_ GE135.out) | exact HB.out)) hb); clear HO_119001; clear HO_119002; clear HO_127001; clear HO_127002; clear HO_136001; clear HO_136002; clear HO140; clear HO143; clear BK101; clear BK118; clear BK126; clear BK135; clear HB; have HO_119001 := n0_; have HO_119002 := n1_; have HO_127001 := n2_; have HO_127002 := n3_; have HO_136001 := n4_; have HO_136002 := n5_; have HO140 := n6_; have HO143 := n7_; have BK101 := n8_; have BK118 := n9_; have BK126 := n10_; have BK135 := n11_; have HB := n12_; clear n0_ n1_ n2_ n3_ n4_ n5_ n6_ n7_ n8_ n9_ n10_ n11_ n12_; (try clear hb); (try clear hb2); (try clear hk); (try clear hi)))
                  go_meet
                  case rel => exact ⟨_, ((t134 != t117)), (by first | rfl | (simp; done) | (simp [*]; done)), H', ⟨by have := HJ10.out; first | omega | exact Nat.le_refl _⟩, ⟨by (with_reducible repeat (first | apply rA | apply rN | apply rD)); exact Kd.R_mono HO_119001.out (fun _ hk => ⟨hk.1, hk.2.1⟩)⟩, ⟨by (with_reducible repeat (first | apply rA | apply rN | apply rD)); exact Kd.R_mono HO_119002.out (fun _ hk => ⟨hk.1, hk.2.1⟩)⟩, ⟨by (with_reducible repeat (first | apply rA | apply rN | apply rD)); exact Kd.R_mono HO_127001.out (fun _ hk => ⟨hk.1.1, hk.1.2⟩)⟩, ⟨by (with_reducible repeat (first | apply rA | apply rN | apply rD)); exact Kd.R_mono HO_127002.out (fun _ hk => ⟨hk.1.1, hk.1.2⟩)⟩, ⟨by (with_reducible repeat (first | apply rA | apply rN | apply rD)); exact Kd.R_mono HO_136001.out (fun _ hk => ⟨hk.1, hk.2.1⟩)⟩, ⟨by (with_reducible repeat (first | apply rA | apply rN | apply rD)); exact Kd.R_mono HO_136002.out (fun _ hk => ⟨hk.1, hk.2.1⟩)⟩, ⟨by (with_reducible repeat (first | refine bN ?_ _ | refine bD ?_ | refine bA ?_ _)); exact BK101.out⟩, ⟨by (with_reducible repeat (first | refine bN ?_ _ | refine bD ?_ | refine bA ?_ _)); exact BK118.out⟩, ⟨by (with_reducible repeat (first | refine bN ?_ _ | refine bD ?_ | refine bA ?_ _)); exact BK126.out⟩, ⟨by (with_reducible repeat (first | refine bN ?_ _ | refine bD ?_ | refine bA ?_ _)); exact BK135.out⟩, ⟨by repeat (first | (with_reducible first | exact HB.out | apply below_alloc | apply pw_below_drewN | apply below_drew1 | refine below_set ?_ GE101.out | refine below_set ?_ GE118.out | refine below_set ?_ GE126.out | refine below_set ?_ GE135.out) | exact HB.out)⟩⟩
                · replace c77 := Bool.eq_false_iff.mpr c77
                  subst c77
                  have H1 : (laws_FnExactMinorCollect.j1 kj10 t117 true a0_0 l0_1 l0_2 t110 t111 t114 t127 t128 t131) = some r := by rw [if_neg (show ¬ (false = true) by decide)] at H; exact H
                  clear H
                  have H := H1
                  clear H1
                  have H' := aM H
                  clear H
                  have hnb86 := NB135_101.out
                  have hnc86 := NB101_135.out
                  have hnb87 := NB135_118.out
                  have hnc87 := NB118_135.out
                  have hnb88 := NB135_126.out
                  have hnc88 := NB126_135.out
                  have hcz89_0 : w74.cell? ⟨gb135, 0, none⟩ = some (.int .i64 t127) := (blk_cell BK135.out 0).trans rfl
                  have hcz89_1 : w74.cell? ⟨gb135, 1, none⟩ = some (.slice Ao39 t128.length co39) := (blk_cell BK135.out 1).trans rfl
                  have hcz89_2 : w74.cell? ⟨gb135, 2, none⟩ = some (.slice Ao40 t131.length co40) := (blk_cell BK135.out 2).trans rfl
                  have hfz89_0 := blk_frozen BK135.out 0
                  have hfz89_1 := blk_frozen BK135.out 1
                  have hfz89_2 := blk_frozen BK135.out 2
                  have hnb90 := NB118_101.out
                  have hnc90 := NB101_118.out
                  have hnb91 := NB118_126.out
                  have hnc91 := NB126_118.out
                  have hcz92_0 : w74.cell? ⟨gb118, 0, none⟩ = some (.int .i64 t110) := (blk_cell BK118.out 0).trans rfl
                  have hcz92_1 : w74.cell? ⟨gb118, 1, none⟩ = some (.slice Ao23 t111.length co23) := (blk_cell BK118.out 1).trans rfl
                  have hcz92_2 : w74.cell? ⟨gb118, 2, none⟩ = some (.slice Ao24 t114.length co24) := (blk_cell BK118.out 2).trans rfl
                  have hfz92_0 := blk_frozen BK118.out 0
                  have hfz92_1 := blk_frozen BK118.out 1
                  have hfz92_2 := blk_frozen BK118.out 2
                  go_wp2_with (first | (go_at_call 11; (with_reducible refine (laws_eqHeap.calls kj10 t127 _ _ t128 _ _ t131 t110 _ _ t111 _ _ t114 false _ ?side1 ?side2 ?side3 ?side4 ?side5 ?side6 ?side7 ?side8 A76.out).mono ?_); (case side1 => repeat (first | exact (Kd.R_reads' HO_136001.out).2.2 | (with_reducible refine Kd.C_alloc ?_ _) | (with_reducible refine Kd.C_drewN ?_ _) | (with_reducible refine Kd.C_drew ?_))); (case side2 => exact (Kd.R_reads' HO_136001.out).2.1); (case side3 => repeat (first | exact (Kd.R_reads' HO_136002.out).2.2 | (with_reducible refine Kd.C_alloc ?_ _) | (with_reducible refine Kd.C_drewN ?_ _) | (with_reducible refine Kd.C_drew ?_))); (case side4 => exact (Kd.R_reads' HO_136002.out).2.1); (case side5 => repeat (first | exact (Kd.R_reads' HO_119001.out).2.2 | (with_reducible refine Kd.C_alloc ?_ _) | (with_reducible refine Kd.C_drewN ?_ _) | (with_reducible refine Kd.C_drew ?_))); (case side6 => exact (Kd.R_reads' HO_119001.out).2.1); (case side7 => repeat (first | exact (Kd.R_reads' HO_119002.out).2.2 | (with_reducible refine Kd.C_alloc ?_ _) | (with_reducible refine Kd.C_drewN ?_ _) | (with_reducible refine Kd.C_drew ?_))); (case side8 => exact (Kd.R_reads' HO_119002.out).2.1); rintro e w93 ⟨rfl, hb⟩; have n0_ := aM (Kd.R_below (by (with_reducible repeat (first | apply rA | apply rN | apply rD)); exact HO_119001.out) hb); have n1_ := aM (Kd.R_below (by (with_reducible repeat (first | apply rA | apply rN | apply rD)); exact HO_119002.out) hb); have n2_ := aM (Kd.R_below (by (with_reducible repeat (first | apply rA | apply rN | apply rD)); exact HO_127001.out) hb); have n3_ := aM (Kd.R_below (by (with_reducible repeat (first | apply rA | apply rN | apply rD)); exact HO_127002.out) hb); have n4_ := aM (Kd.R_below (by (with_reducible repeat (first | apply rA | apply rN | apply rD)); exact HO_136001.out) hb); have n5_ := aM (Kd.R_below (by (with_reducible repeat (first | apply rA | apply rN | apply rD)); exact HO_136002.out) hb); have n6_ := aM (Kd.R_below (by (with_reducible repeat (first | apply rA | apply rN | apply rD)); exact HO140.out) hb); have n7_ := aM (Kd.R_below (by (with_reducible repeat (first | apply rA | apply rN | apply rD)); exact HO143.out) hb); have n8_ := aM (blk_below (g := gb101) (o := .cells #[.int .i64 a0_0, .slice A0_1 l0_1.length c0_1, .slice A0_2 l0_2.length c0_2] 25 (0, 0)) (by (with_reducible repeat (first | refine bN ?_ _ | refine bD ?_ | refine bA ?_ _)); exact BK101.out) hb); have n9_ := aM (blk_below (g := gb118) (o := .cells #[.int .i64 t110, .slice Ao23 t111.length co23, .slice Ao24 t114.length co24] 30 (0, 0)) (by (with_reducible repeat (first | refine bN ?_ _ | refine bD ?_ | refine bA ?_ _)); exact BK118.out) hb); have n10_ := aM (blk_below (g := gb126) (o := .cells #[.int .i64 t119, .slice Ao31 t120.length co31, .slice Ao32 t123.length co32] 30 (0, 0)) (by (with_reducible repeat (first | refine bN ?_ _ | refine bD ?_ | refine bA ?_ _)); exact BK126.out) hb); have n11_ := aM (blk_below (g := gb135) (o := .cells #[.int .i64 t127, .slice Ao39 t128.length co39, .slice Ao40 t131.length co40] 30 (0, 0)) (by (with_reducible repeat (first | refine bN ?_ _ | refine bD ?_ | refine bA ?_ _)); exact BK135.out) hb); have n12_ := aM (below_step (by repeat (first | (with_reducible first | exact HB.out | apply below_alloc | apply pw_below_drewN | apply below_drew1 | refine below_set ?_ GE101.out | refine below_set ?_ GE118.out | refine below_set ?_ GE126.out | refine below_set ?_ GE135.out) | exact HB.out)) hb); clear HO_119001; clear HO_119002; clear HO_127001; clear HO_127002; clear HO_136001; clear HO_136002; clear HO140; clear HO143; clear BK101; clear BK118; clear BK126; clear BK135; clear HB; have HO_119001 := n0_; have HO_119002 := n1_; have HO_127001 := n2_; have HO_127002 := n3_; have HO_136001 := n4_; have HO_136002 := n5_; have HO140 := n6_; have HO143 := n7_; have BK101 := n8_; have BK118 := n9_; have BK126 := n10_; have BK135 := n11_; have HB := n12_; clear n0_ n1_ n2_ n3_ n4_ n5_ n6_ n7_ n8_ n9_ n10_ n11_ n12_; (try clear hb); (try clear hb2); (try clear hk); (try clear hi)))
                  go_meet
                  case rel => exact ⟨_, (true), (by first | rfl | (simp; done) | (simp [*]; done)), H', ⟨by have := HJ10.out; first | omega | exact Nat.le_refl _⟩, ⟨by (with_reducible repeat (first | apply rA | apply rN | apply rD)); exact Kd.R_mono HO_119001.out (fun _ hk => ⟨hk.1, hk.2.1⟩)⟩, ⟨by (with_reducible repeat (first | apply rA | apply rN | apply rD)); exact Kd.R_mono HO_119002.out (fun _ hk => ⟨hk.1, hk.2.1⟩)⟩, ⟨by (with_reducible repeat (first | apply rA | apply rN | apply rD)); exact Kd.R_mono HO_127001.out (fun _ hk => ⟨hk.1.1, hk.1.2⟩)⟩, ⟨by (with_reducible repeat (first | apply rA | apply rN | apply rD)); exact Kd.R_mono HO_127002.out (fun _ hk => ⟨hk.1.1, hk.1.2⟩)⟩, ⟨by (with_reducible repeat (first | apply rA | apply rN | apply rD)); exact Kd.R_mono HO_136001.out (fun _ hk => ⟨hk.1, hk.2.1⟩)⟩, ⟨by (with_reducible repeat (first | apply rA | apply rN | apply rD)); exact Kd.R_mono HO_136002.out (fun _ hk => ⟨hk.1, hk.2.1⟩)⟩, ⟨by (with_reducible repeat (first | refine bN ?_ _ | refine bD ?_ | refine bA ?_ _)); exact BK101.out⟩, ⟨by (with_reducible repeat (first | refine bN ?_ _ | refine bD ?_ | refine bA ?_ _)); exact BK118.out⟩, ⟨by (with_reducible repeat (first | refine bN ?_ _ | refine bD ?_ | refine bA ?_ _)); exact BK126.out⟩, ⟨by (with_reducible repeat (first | refine bN ?_ _ | refine bD ?_ | refine bA ?_ _)); exact BK135.out⟩, ⟨by repeat (first | (with_reducible first | exact HB.out | apply below_alloc | apply pw_below_drewN | apply below_drew1 | refine below_set ?_ GE101.out | refine below_set ?_ GE118.out | refine below_set ?_ GE126.out | refine below_set ?_ GE135.out) | exact HB.out)⟩⟩
            case rest =>
              clear HC64
              try clear c1
              try clear c2
              try clear p2
              try clear c3
              try clear c3b0
              try clear c4
              try clear c5
              try clear c6
              try clear c7
              try clear c8
              try clear c9
              try clear c11
              try clear c15
              try clear c21
              try clear c22
              try clear c28
              try clear c29
              try clear c35
              try clear c36
              try clear c37
              try clear c42
              try clear c43
              try clear c44
              try clear c45
              try clear c47
              try clear c48
              try clear c51
              try clear c52
              try clear c53
              try clear c55
              try clear c56
              try clear c59
              try clear c62
              try clear c70
              try clear c71
              try clear c72
              try clear c75
              try clear c75b0
              try clear c77
              try clear c78
              try clear c79
              try clear c80
              try clear c82
              try clear c83
              try clear c86
              try clear c87
              try clear c88
              try clear c90
              try clear c91
              try clear hcz13_0
              try clear hcz13_1
              try clear hcz13_2
              try clear hcz15_0
              try clear hcz15_1
              try clear hcz15_2
              try clear hcz22_0
              try clear hcz22_1
              try clear hcz22_2
              try clear hcz25_0
              try clear hcz25_1
              try clear hcz25_2
              try clear hcz30_0
              try clear hcz30_1
              try clear hcz30_2
              try clear hcz38_0
              try clear hcz38_1
              try clear hcz38_2
              try clear hcz46_0
              try clear hcz46_1
              try clear hcz46_2
              try clear hcz49_0
              try clear hcz49_1
              try clear hcz49_2
              try clear hcz54_0
              try clear hcz54_1
              try clear hcz54_2
              try clear hcz57_0
              try clear hcz57_1
              try clear hcz57_2
              try clear hcz5_0
              try clear hcz5_1
              try clear hcz5_2
              try clear hcz73_0
              try clear hcz73_1
              try clear hcz73_2
              try clear hcz81_0
              try clear hcz81_1
              try clear hcz81_2
              try clear hcz84_0
              try clear hcz84_1
              try clear hcz84_2
              try clear hcz89_0
              try clear hcz89_1
              try clear hcz89_2
              try clear hcz92_0
              try clear hcz92_1
              try clear hcz92_2
              try clear hfz13_0
              try clear hfz13_1
              try clear hfz13_2
              try clear hfz15_0
              try clear hfz15_1
              try clear hfz15_2
              try clear hfz22_0
              try clear hfz22_1
              try clear hfz22_2
              try clear hfz25_0
              try clear hfz25_1
              try clear hfz25_2
              try clear hfz30_0
              try clear hfz30_1
              try clear hfz30_2
              try clear hfz38_0
              try clear hfz38_1
              try clear hfz38_2
              try clear hfz46_0
              try clear hfz46_1
              try clear hfz46_2
              try clear hfz49_0
              try clear hfz49_1
              try clear hfz49_2
              try clear hfz54_0
              try clear hfz54_1
              try clear hfz54_2
              try clear hfz57_0
              try clear hfz57_1
              try clear hfz57_2
              try clear hfz5_0
              try clear hfz5_1
              try clear hfz5_2
              try clear hfz73_0
              try clear hfz73_1
              try clear hfz73_2
              try clear hfz81_0
              try clear hfz81_1
              try clear hfz81_2
              try clear hfz84_0
              try clear hfz84_1
              try clear hfz84_2
              try clear hfz89_0
              try clear hfz89_1
              try clear hfz89_2
              try clear hfz92_0
              try clear hfz92_1
              try clear hfz92_2
              try clear p2
              obtain ⟨kq, x61_63, rfl, HA, HJ63, HO_119001, HO_119002, HO_127001, HO_127002, HO_136001, HO_136002, BK101, BK118, BK126, BK135, HB⟩ := hcut
              have hl127001_63 := (Kd.R_reads' HO_127001.out).1
              rw [hl127001_63] at HO_127001
              (try simp only [hl127001_63])
              (try simp only [hl127001_63] at BK101)
              (try simp only [hl127001_63] at BK118)
              (try simp only [hl127001_63] at BK126)
              (try simp only [hl127001_63] at BK135)
              (try simp only [hl127001_63] at HO_119001)
              (try simp only [hl127001_63] at HO_119002)
              (try simp only [hl127001_63] at HO_127002)
              (try simp only [hl127001_63] at HO_136001)
              (try simp only [hl127001_63] at HO_136002)
              have hl127002_63 := (Kd.R_reads' HO_127002.out).1
              rw [hl127002_63] at HO_127002
              (try simp only [hl127002_63])
              (try simp only [hl127002_63] at BK101)
              (try simp only [hl127002_63] at BK118)
              (try simp only [hl127002_63] at BK126)
              (try simp only [hl127002_63] at BK135)
              (try simp only [hl127002_63] at HO_119001)
              (try simp only [hl127002_63] at HO_119002)
              (try simp only [hl127002_63] at HO_127001)
              (try simp only [hl127002_63] at HO_136001)
              (try simp only [hl127002_63] at HO_136002)
              cases kq with
              | zero => exact absurd HA.out (by simp [laws_FnExactMinorCollect.j1])
              | succ kj63 =>
                have H := HA.out
                clear HA
                simp only [laws_FnExactMinorCollect.j1] at H
                by_cases c94 : x61_63 = true
                · subst c94
                  have H1 : (some false) = some r := by rw [if_pos rfl] at H; exact H
                  clear H
                  have H := H1
                  clear H1
                  obtain rfl := Option.some.inj H
                  go_wp2
                  go_ret
                  exact ⟨by first | rfl | (simp [errW_none, errW_some] <;> rfl) | (simp [*, errW_none, errW_some] <;> rfl), by repeat (first | (with_reducible first | exact HB.out | apply below_alloc | apply pw_below_drewN | apply below_drew1 | refine below_set ?_ GE101.out | refine below_set ?_ GE118.out | refine below_set ?_ GE126.out | refine below_set ?_ GE135.out) | exact HB.out)⟩
                · replace c94 := Bool.eq_false_iff.mpr c94
                  subst c94
                  have H1 : ((laws_markHeap.f kj63 t127 t128 t131 1).bind fun bt149 => ((laws_heldHeap.f kj63 t127 bt149.2.1 bt149.2.2 1).bind fun t152 => (if t152 < 0 then (some false) else (if t152 = bt149.1 then ((laws_toHeap.f kj63 a0_0 l0_1 l0_2).bind fun bt153 => ((impl_MinorCollect.f kj63 bt153.1 bt153.2.1 bt153.2.2).bind fun bt160 => ((laws_eqHeap.f kj63 bt160.1 bt160.2.1 bt160.2.2.1 t110 t111 t114).bind fun t169 => (if t169 = true then (laws_FnExactMinorCollect.j2 kj63 bt149.1 (bt160.2.2.2 != t117) t127 bt149.2.1 bt149.2.2) else (laws_FnExactMinorCollect.j2 kj63 bt149.1 true t127 bt149.2.1 bt149.2.2))))) else (some false))))) = some r := by rw [if_neg (show ¬ (false = true) by decide)] at H; exact H
                  clear H
                  have H := H1
                  clear H1
                  replace H := Option.bind_eq_some_iff.mp H
                  obtain ⟨⟨t149, t150, t151⟩, A950, H⟩ := H
                  replace H : ((laws_heldHeap.f kj63 t127 t150 t151 1).bind fun t152 => (if t152 < 0 then (some false) else (if t152 = t149 then ((laws_toHeap.f kj63 a0_0 l0_1 l0_2).bind fun bt153 => ((impl_MinorCollect.f kj63 bt153.1 bt153.2.1 bt153.2.2).bind fun bt160 => ((laws_eqHeap.f kj63 bt160.1 bt160.2.1 bt160.2.2.1 t110 t111 t114).bind fun t169 => (if t169 = true then (laws_FnExactMinorCollect.j2 kj63 t149 (bt160.2.2.2 != t117) t127 t150 t151) else (laws_FnExactMinorCollect.j2 kj63 t149 true t127 t150 t151))))) else (some false)))) = some r := H
                  have A95 := aM A950
                  clear A950
                  replace H := Option.bind_eq_some_iff.mp H
                  obtain ⟨t152, A960, H⟩ := H
                  replace H : (if t152 < 0 then (some false) else (if t152 = t149 then ((laws_toHeap.f kj63 a0_0 l0_1 l0_2).bind fun bt153 => ((impl_MinorCollect.f kj63 bt153.1 bt153.2.1 bt153.2.2).bind fun bt160 => ((laws_eqHeap.f kj63 bt160.1 bt160.2.1 bt160.2.2.1 t110 t111 t114).bind fun t169 => (if t169 = true then (laws_FnExactMinorCollect.j2 kj63 t149 (bt160.2.2.2 != t117) t127 t150 t151) else (laws_FnExactMinorCollect.j2 kj63 t149 true t127 t150 t151))))) else (some false))) = some r := H
                  have A96 := aM A960
                  clear A960
                  by_cases c97 : t152 < 0
                  · rw [if_pos c97] at H
                    have c97b0 : decide (t152 < 0) = true := decide_eq_true c97
                    clear c97
                    obtain rfl := Option.some.inj H
                    have hnb98 := NB135_101.out
                    have hnc98 := NB101_135.out
                    have hnb99 := NB135_118.out
                    have hnc99 := NB118_135.out
                    have hnb100 := NB135_126.out
                    have hnc100 := NB126_135.out
                    have hcz101_0 : wc.cell? ⟨gb135, 0, none⟩ = some (.int .i64 t127) := (blk_cell BK135.out 0).trans rfl
                    have hcz101_1 : wc.cell? ⟨gb135, 1, none⟩ = some (.slice Ao39 t128.length co39) := (blk_cell BK135.out 1).trans rfl
                    have hcz101_2 : wc.cell? ⟨gb135, 2, none⟩ = some (.slice Ao40 t131.length co40) := (blk_cell BK135.out 2).trans rfl
                    have hfz101_0 := blk_frozen BK135.out 0
                    have hfz101_1 := blk_frozen BK135.out 1
                    have hfz101_2 := blk_frozen BK135.out 2
                    go_wp2_with (first | ((with_reducible refine gate_callee (f := 15) rfl ?_); refine goesL_ (some 64) rfl rfl Try.func15 (by kernel_rfl) rfl #[.agg #[.int .i64 t127, .slice Ao39 t128.length co39, .slice Ao40 t131.length co40], .int .i64 1] rfl (by (try simp only [List.map_toArray, List.map_cons, List.map_nil]); first | done | rfl | (simp only [List.length_drop, List.length_take]; rfl)) ?_; (with_reducible refine (laws_markHeap.calls kj63 t127 (fun k_ => some k_ = (.slice Ao39 t128.length co39 : Value).ownBlock) (.slice Ao39 t128.length co39) t128 (fun k_ => some k_ = (.slice Ao40 t131.length co40 : Value).ownBlock) (.slice Ao40 t131.length co40) t131 1 t149 t150 t151 w _ ?side1 ?side2 ?side3 A95.out).mono ?_); (case side1 => repeat (first | (with_reducible first | exact HB.out | apply below_alloc | apply pw_below_drewN | apply below_drew1 | refine below_set ?_ GE101.out | refine below_set ?_ GE118.out | refine below_set ?_ GE126.out | refine below_set ?_ GE135.out) | exact HB.out)); (case side2 => exact Kd.R_tight rfl HO_136001.out); (case side3 => exact Kd.R_tight rfl HO_136002.out); rintro e w102 ⟨rfl, hy0, hy1, hb, hkp⟩; refine ⟨_, rfl, ?_⟩; have n0_ := aM (Kd.R_mono (ok' := fun k_ => some k_ ≠ (.slice Ao31 t146.length co31 : Value).ownBlock ∧ some k_ ≠ (.slice Ao39 t128.length co39 : Value).ownBlock) (Kd.R_keptB ((Kd.R_apart' HO_119001.out (Kd.R_typed HO_136002.out) (by decide))) hkp (fun k_ hk_ hs_ => Or.elim hs_ (fun e_ => (hk_.1.2) e_) (fun e_ => (hk_.2) e_))) (fun k_ hk_ => ⟨hk_.1.1.1, hk_.1.1.2⟩)); have n1_ := aM (Kd.R_mono (ok' := fun k_ => some k_ ≠ (.slice Ao32 t147.length co32 : Value).ownBlock ∧ some k_ ≠ (.slice Ao40 t131.length co40 : Value).ownBlock) (Kd.R_keptB ((Kd.R_apart' HO_119002.out (Kd.R_typed HO_136001.out) (by decide))) hkp (fun k_ hk_ hs_ => Or.elim hs_ (fun e_ => (hk_.2) e_) (fun e_ => (hk_.1.2) e_))) (fun k_ hk_ => ⟨hk_.1.1.1, hk_.1.1.2⟩)); have n2_ := aM (Kd.R_mono (ok' := fun k_ => some k_ ≠ (.slice Ao23 t111.length co23 : Value).ownBlock ∧ some k_ ≠ (.slice Ao39 t128.length co39 : Value).ownBlock) (Kd.R_keptB ((Kd.R_apart' HO_127001.out (Kd.R_typed HO_136002.out) (by decide))) hkp (fun k_ hk_ hs_ => Or.elim hs_ (fun e_ => (hk_.1.2) e_) (fun e_ => (hk_.2) e_))) (fun k_ hk_ => ⟨hk_.1.1.1, hk_.1.1.2⟩)); have n3_ := aM (Kd.R_mono (ok' := fun k_ => some k_ ≠ (.slice Ao24 t114.length co24 : Value).ownBlock ∧ some k_ ≠ (.slice Ao40 t131.length co40 : Value).ownBlock) (Kd.R_keptB ((Kd.R_apart' HO_127002.out (Kd.R_typed HO_136001.out) (by decide))) hkp (fun k_ hk_ hs_ => Or.elim hs_ (fun e_ => (hk_.2) e_) (fun e_ => (hk_.1.2) e_))) (fun k_ hk_ => ⟨hk_.1.1.1, hk_.1.1.2⟩)); have n4_ := aM (Kd.R_reok rfl hy0 (fun k_ e_ => HO_136001.out.1 k_ e_)); have n5_ := aM (Kd.R_reok rfl hy1 (fun k_ e_ => HO_136002.out.1 k_ e_)); have n6_ := aM (blk_kept (by (with_reducible repeat (first | refine bN ?_ _ | refine bD ?_ | refine bA ?_ _)); exact BK101.out) hkp (fun hs_ => Or.elim hs_ (fun e_ => (fun e_ => (Kd.R_ne HO_136001.out BK101.out (by decide)) e_) e_) (fun e_ => (fun e_ => (Kd.R_ne HO_136002.out BK101.out (by decide)) e_) e_))); have n7_ := aM (blk_kept (by (with_reducible repeat (first | refine bN ?_ _ | refine bD ?_ | refine bA ?_ _)); exact BK118.out) hkp (fun hs_ => Or.elim hs_ (fun e_ => (fun e_ => (Kd.R_ne HO_136001.out BK118.out (by decide)) e_) e_) (fun e_ => (fun e_ => (Kd.R_ne HO_136002.out BK118.out (by decide)) e_) e_))); have n8_ := aM (blk_kept (by (with_reducible repeat (first | refine bN ?_ _ | refine bD ?_ | refine bA ?_ _)); exact BK126.out) hkp (fun hs_ => Or.elim hs_ (fun e_ => (fun e_ => (Kd.R_ne HO_136001.out BK126.out (by decide)) e_) e_) (fun e_ => (fun e_ => (Kd.R_ne HO_136002.out BK126.out (by decide)) e_) e_))); have n9_ := aM (blk_kept (by (with_reducible repeat (first | refine bN ?_ _ | refine bD ?_ | refine bA ?_ _)); exact BK135.out) hkp (fun hs_ => Or.elim hs_ (fun e_ => (fun e_ => (Kd.R_ne HO_136001.out BK135.out (by decide)) e_) e_) (fun e_ => (fun e_ => (Kd.R_ne HO_136002.out BK135.out (by decide)) e_) e_))); have n10_ := aM (hb); clear HO_119001; clear HO_119002; clear HO_127001; clear HO_127002; clear HO_136001; clear HO_136002; clear BK101; clear BK118; clear BK126; clear BK135; clear HB; have HO_119001 := n0_; have HO_119002 := n1_; have HO_127001 := n2_; have HO_127002 := n3_; have HO_136001 := n4_; have HO_136002 := n5_; have BK101 := n6_; have BK118 := n7_; have BK126 := n8_; have BK135 := n9_; have HB := n10_; clear n0_ n1_ n2_ n3_ n4_ n5_ n6_ n7_ n8_ n9_ n10_; (try clear hb); (try clear hkp); (try clear hy0); (try clear hy1); have hcz103_0 : w102.cell? ⟨gb135, 0, none⟩ = some (.int .i64 t127) := (blk_cell BK135.out 0).trans rfl; have hcz103_1 : w102.cell? ⟨gb135, 1, none⟩ = some (.slice Ao39 t128.length co39) := (blk_cell BK135.out 1).trans rfl; have hcz103_2 : w102.cell? ⟨gb135, 2, none⟩ = some (.slice Ao40 t131.length co40) := (blk_cell BK135.out 2).trans rfl; have hfz103_0 := blk_frozen BK135.out 0; have hfz103_1 := blk_frozen BK135.out 1; have hfz103_2 := blk_frozen BK135.out 2) | ((with_reducible refine gate_callee (f := 20) rfl ?_); refine goesL_ (some 67) rfl rfl Try.func20 (by kernel_rfl) rfl #[.agg #[.int .i64 t127, .slice Ao39 t150.length co39, .slice Ao40 t151.length co40], .int .i64 1] rfl (by (try simp only [List.map_toArray, List.map_cons, List.map_nil]); first | done | (rw [show t150.length = t128.length from (Kd.R_reads' HO_136001.out).1.symm, show t151.length = t131.length from (Kd.R_reads' HO_136002.out).1.symm] <;> rfl) | rfl | (simp only [List.length_drop, List.length_take]; rfl)) ?_; (with_reducible refine (laws_heldHeap.calls kj63 t127 _ _ t150 _ _ t151 1 t152 _ ?side1 ?side2 ?side3 ?side4 A96.out).mono ?_); (case side1 => repeat (first | exact (Kd.R_reads' HO_136001.out).2.2 | (with_reducible refine Kd.C_alloc ?_ _) | (with_reducible refine Kd.C_drewN ?_ _) | (with_reducible refine Kd.C_drew ?_))); (case side2 => rw [show t150.length = t128.length from (Kd.R_reads' HO_136001.out).1.symm]; exact (Kd.R_reads' HO_136001.out).2.1); (case side3 => repeat (first | exact (Kd.R_reads' HO_136002.out).2.2 | (with_reducible refine Kd.C_alloc ?_ _) | (with_reducible refine Kd.C_drewN ?_ _) | (with_reducible refine Kd.C_drew ?_))); (case side4 => rw [show t151.length = t131.length from (Kd.R_reads' HO_136002.out).1.symm]; exact (Kd.R_reads' HO_136002.out).2.1); rintro e w104 ⟨rfl, hb⟩; refine ⟨_, rfl, ?_⟩; have n0_ := aM (Kd.R_below (by (with_reducible repeat (first | apply rA | apply rN | apply rD)); exact HO_119001.out) hb); have n1_ := aM (Kd.R_below (by (with_reducible repeat (first | apply rA | apply rN | apply rD)); exact HO_119002.out) hb); have n2_ := aM (Kd.R_below (by (with_reducible repeat (first | apply rA | apply rN | apply rD)); exact HO_127001.out) hb); have n3_ := aM (Kd.R_below (by (with_reducible repeat (first | apply rA | apply rN | apply rD)); exact HO_127002.out) hb); have n4_ := aM (Kd.R_below (by (with_reducible repeat (first | apply rA | apply rN | apply rD)); exact HO_136001.out) hb); have n5_ := aM (Kd.R_below (by (with_reducible repeat (first | apply rA | apply rN | apply rD)); exact HO_136002.out) hb); have n6_ := aM (blk_below (g := gb101) (o := .cells #[.int .i64 a0_0, .slice A0_1 l0_1.length c0_1, .slice A0_2 l0_2.length c0_2] 25 (0, 0)) (by (with_reducible repeat (first | refine bN ?_ _ | refine bD ?_ | refine bA ?_ _)); exact BK101.out) hb); have n7_ := aM (blk_below (g := gb118) (o := .cells #[.int .i64 t110, .slice Ao23 t111.length co23, .slice Ao24 t114.length co24] 30 (0, 0)) (by (with_reducible repeat (first | refine bN ?_ _ | refine bD ?_ | refine bA ?_ _)); exact BK118.out) hb); have n8_ := aM (blk_below (g := gb126) (o := .cells #[.int .i64 t119, .slice Ao31 t146.length co31, .slice Ao32 t147.length co32] 30 (0, 0)) (by (with_reducible repeat (first | refine bN ?_ _ | refine bD ?_ | refine bA ?_ _)); exact BK126.out) hb); have n9_ := aM (blk_below (g := gb135) (o := .cells #[.int .i64 t127, .slice Ao39 t128.length co39, .slice Ao40 t131.length co40] 30 (0, 0)) (by (with_reducible repeat (first | refine bN ?_ _ | refine bD ?_ | refine bA ?_ _)); exact BK135.out) hb); have n10_ := aM (below_step (by repeat (first | (with_reducible first | exact HB.out | apply below_alloc | apply pw_below_drewN | apply below_drew1 | refine below_set ?_ GE101.out | refine below_set ?_ GE118.out | refine below_set ?_ GE126.out | refine below_set ?_ GE135.out) | exact HB.out)) hb); clear HO_119001; clear HO_119002; clear HO_127001; clear HO_127002; clear HO_136001; clear HO_136002; clear BK101; clear BK118; clear BK126; clear BK135; clear HB; have HO_119001 := n0_; have HO_119002 := n1_; have HO_127001 := n2_; have HO_127002 := n3_; have HO_136001 := n4_; have HO_136002 := n5_; have BK101 := n6_; have BK118 := n7_; have BK126 := n8_; have BK135 := n9_; have HB := n10_; clear n0_ n1_ n2_ n3_ n4_ n5_ n6_ n7_ n8_ n9_ n10_; (try clear hb); (try clear hb2); (try clear hk); (try clear hi)))
                    go_ret
                    exact ⟨by first | rfl | (simp [errW_none, errW_some] <;> rfl) | (simp [*, errW_none, errW_some] <;> rfl), by repeat (first | (with_reducible first | exact HB.out | apply below_alloc | apply pw_below_drewN | apply below_drew1 | refine below_set ?_ GE101.out | refine below_set ?_ GE118.out | refine below_set ?_ GE126.out | refine below_set ?_ GE135.out) | exact HB.out)⟩
                  · rw [if_neg c97] at H
                    have c97b0 : decide (t152 < 0) = false := decide_eq_false c97
                    clear c97
                    by_cases c105 : t152 = t149
                    · rw [if_pos c105] at H
                      have c105b0 : (t152 == t149) = true := beq_iff_eq.mpr c105
                      have c105b1 : (t152 != t149) = false := bne_eq_false_iff_eq.mpr c105
                      clear c105
                      replace H := Option.bind_eq_some_iff.mp H
                      obtain ⟨⟨t153, t154, t157⟩, A1060, H⟩ := H
                      replace H : ((impl_MinorCollect.f kj63 t153 t154 t157).bind fun bt160 => ((laws_eqHeap.f kj63 bt160.1 bt160.2.1 bt160.2.2.1 t110 t111 t114).bind fun t169 => (if t169 = true then (laws_FnExactMinorCollect.j2 kj63 t149 (bt160.2.2.2 != t117) t127 t150 t151) else (laws_FnExactMinorCollect.j2 kj63 t149 true t127 t150 t151)))) = some r := H
                      have A106 := aM A1060
                      clear A1060
                      replace H := Option.bind_eq_some_iff.mp H
                      obtain ⟨⟨t160, t161, t164, t167⟩, A1070, H⟩ := H
                      replace H : ((laws_eqHeap.f kj63 t160 t161 t164 t110 t111 t114).bind fun t169 => (if t169 = true then (laws_FnExactMinorCollect.j2 kj63 t149 (t167 != t117) t127 t150 t151) else (laws_FnExactMinorCollect.j2 kj63 t149 true t127 t150 t151))) = some r := H
                      have A107 := aM A1070
                      clear A1070
                      have HC108 := aM H
                      clear H
                      have hnb109 := NB135_101.out
                      have hnc109 := NB101_135.out
                      have hnb110 := NB135_118.out
                      have hnc110 := NB118_135.out
                      have hnb111 := NB135_126.out
                      have hnc111 := NB126_135.out
                      have hcz112_0 : wc.cell? ⟨gb135, 0, none⟩ = some (.int .i64 t127) := (blk_cell BK135.out 0).trans rfl
                      have hcz112_1 : wc.cell? ⟨gb135, 1, none⟩ = some (.slice Ao39 t128.length co39) := (blk_cell BK135.out 1).trans rfl
                      have hcz112_2 : wc.cell? ⟨gb135, 2, none⟩ = some (.slice Ao40 t131.length co40) := (blk_cell BK135.out 2).trans rfl
                      have hfz112_0 := blk_frozen BK135.out 0
                      have hfz112_1 := blk_frozen BK135.out 1
                      have hfz112_2 := blk_frozen BK135.out 2
                      go_upto_region 25 with (first | ((with_reducible refine gate_callee (f := 15) rfl ?_); refine goesL_ (some 64) rfl rfl Try.func15 (by kernel_rfl) rfl #[.agg #[.int .i64 t127, .slice Ao39 t128.length co39, .slice Ao40 t131.length co40], .int .i64 1] rfl (by (try simp only [List.map_toArray, List.map_cons, List.map_nil]); first | done | rfl | (simp only [List.length_drop, List.length_take]; rfl)) ?_; (with_reducible refine (laws_markHeap.calls kj63 t127 (fun k_ => some k_ = (.slice Ao39 t128.length co39 : Value).ownBlock) (.slice Ao39 t128.length co39) t128 (fun k_ => some k_ = (.slice Ao40 t131.length co40 : Value).ownBlock) (.slice Ao40 t131.length co40) t131 1 t149 t150 t151 w _ ?side1 ?side2 ?side3 A95.out).mono ?_); (case side1 => repeat (first | (with_reducible first | exact HB.out | apply below_alloc | apply pw_below_drewN | apply below_drew1 | refine below_set ?_ GE101.out | refine below_set ?_ GE118.out | refine below_set ?_ GE126.out | refine below_set ?_ GE135.out) | exact HB.out)); (case side2 => exact Kd.R_tight rfl HO_136001.out); (case side3 => exact Kd.R_tight rfl HO_136002.out); rintro e w113 ⟨rfl, hy0, hy1, hb, hkp⟩; refine ⟨_, rfl, ?_⟩; have n0_ := aM (Kd.R_mono (ok' := fun k_ => some k_ ≠ (.slice Ao31 t146.length co31 : Value).ownBlock ∧ some k_ ≠ (.slice Ao39 t128.length co39 : Value).ownBlock) (Kd.R_keptB ((Kd.R_apart' HO_119001.out (Kd.R_typed HO_136002.out) (by decide))) hkp (fun k_ hk_ hs_ => Or.elim hs_ (fun e_ => (hk_.1.2) e_) (fun e_ => (hk_.2) e_))) (fun k_ hk_ => ⟨hk_.1.1.1, hk_.1.1.2⟩)); have n1_ := aM (Kd.R_mono (ok' := fun k_ => some k_ ≠ (.slice Ao32 t147.length co32 : Value).ownBlock ∧ some k_ ≠ (.slice Ao40 t131.length co40 : Value).ownBlock) (Kd.R_keptB ((Kd.R_apart' HO_119002.out (Kd.R_typed HO_136001.out) (by decide))) hkp (fun k_ hk_ hs_ => Or.elim hs_ (fun e_ => (hk_.2) e_) (fun e_ => (hk_.1.2) e_))) (fun k_ hk_ => ⟨hk_.1.1.1, hk_.1.1.2⟩)); have n2_ := aM (Kd.R_mono (ok' := fun k_ => some k_ ≠ (.slice Ao23 t111.length co23 : Value).ownBlock ∧ some k_ ≠ (.slice Ao39 t128.length co39 : Value).ownBlock) (Kd.R_keptB ((Kd.R_apart' HO_127001.out (Kd.R_typed HO_136002.out) (by decide))) hkp (fun k_ hk_ hs_ => Or.elim hs_ (fun e_ => (hk_.1.2) e_) (fun e_ => (hk_.2) e_))) (fun k_ hk_ => ⟨hk_.1.1.1, hk_.1.1.2⟩)); have n3_ := aM (Kd.R_mono (ok' := fun k_ => some k_ ≠ (.slice Ao24 t114.length co24 : Value).ownBlock ∧ some k_ ≠ (.slice Ao40 t131.length co40 : Value).ownBlock) (Kd.R_keptB ((Kd.R_apart' HO_127002.out (Kd.R_typed HO_136001.out) (by decide))) hkp (fun k_ hk_ hs_ => Or.elim hs_ (fun e_ => (hk_.2) e_) (fun e_ => (hk_.1.2) e_))) (fun k_ hk_ => ⟨hk_.1.1.1, hk_.1.1.2⟩)); have n4_ := aM (Kd.R_reok rfl hy0 (fun k_ e_ => HO_136001.out.1 k_ e_)); have n5_ := aM (Kd.R_reok rfl hy1 (fun k_ e_ => HO_136002.out.1 k_ e_)); have n6_ := aM (blk_kept (by (with_reducible repeat (first | refine bN ?_ _ | refine bD ?_ | refine bA ?_ _)); exact BK101.out) hkp (fun hs_ => Or.elim hs_ (fun e_ => (fun e_ => (Kd.R_ne HO_136001.out BK101.out (by decide)) e_) e_) (fun e_ => (fun e_ => (Kd.R_ne HO_136002.out BK101.out (by decide)) e_) e_))); have n7_ := aM (blk_kept (by (with_reducible repeat (first | refine bN ?_ _ | refine bD ?_ | refine bA ?_ _)); exact BK118.out) hkp (fun hs_ => Or.elim hs_ (fun e_ => (fun e_ => (Kd.R_ne HO_136001.out BK118.out (by decide)) e_) e_) (fun e_ => (fun e_ => (Kd.R_ne HO_136002.out BK118.out (by decide)) e_) e_))); have n8_ := aM (blk_kept (by (with_reducible repeat (first | refine bN ?_ _ | refine bD ?_ | refine bA ?_ _)); exact BK126.out) hkp (fun hs_ => Or.elim hs_ (fun e_ => (fun e_ => (Kd.R_ne HO_136001.out BK126.out (by decide)) e_) e_) (fun e_ => (fun e_ => (Kd.R_ne HO_136002.out BK126.out (by decide)) e_) e_))); have n9_ := aM (blk_kept (by (with_reducible repeat (first | refine bN ?_ _ | refine bD ?_ | refine bA ?_ _)); exact BK135.out) hkp (fun hs_ => Or.elim hs_ (fun e_ => (fun e_ => (Kd.R_ne HO_136001.out BK135.out (by decide)) e_) e_) (fun e_ => (fun e_ => (Kd.R_ne HO_136002.out BK135.out (by decide)) e_) e_))); have n10_ := aM (hb); clear HO_119001; clear HO_119002; clear HO_127001; clear HO_127002; clear HO_136001; clear HO_136002; clear BK101; clear BK118; clear BK126; clear BK135; clear HB; have HO_119001 := n0_; have HO_119002 := n1_; have HO_127001 := n2_; have HO_127002 := n3_; have HO_136001 := n4_; have HO_136002 := n5_; have BK101 := n6_; have BK118 := n7_; have BK126 := n8_; have BK135 := n9_; have HB := n10_; clear n0_ n1_ n2_ n3_ n4_ n5_ n6_ n7_ n8_ n9_ n10_; (try clear hb); (try clear hkp); (try clear hy0); (try clear hy1); have hcz114_0 : w113.cell? ⟨gb135, 0, none⟩ = some (.int .i64 t127) := (blk_cell BK135.out 0).trans rfl; have hcz114_1 : w113.cell? ⟨gb135, 1, none⟩ = some (.slice Ao39 t128.length co39) := (blk_cell BK135.out 1).trans rfl; have hcz114_2 : w113.cell? ⟨gb135, 2, none⟩ = some (.slice Ao40 t131.length co40) := (blk_cell BK135.out 2).trans rfl; have hfz114_0 := blk_frozen BK135.out 0; have hfz114_1 := blk_frozen BK135.out 1; have hfz114_2 := blk_frozen BK135.out 2) | ((with_reducible refine gate_callee (f := 20) rfl ?_); refine goesL_ (some 67) rfl rfl Try.func20 (by kernel_rfl) rfl #[.agg #[.int .i64 t127, .slice Ao39 t150.length co39, .slice Ao40 t151.length co40], .int .i64 1] rfl (by (try simp only [List.map_toArray, List.map_cons, List.map_nil]); first | done | (rw [show t150.length = t128.length from (Kd.R_reads' HO_136001.out).1.symm, show t151.length = t131.length from (Kd.R_reads' HO_136002.out).1.symm] <;> rfl) | rfl | (simp only [List.length_drop, List.length_take]; rfl)) ?_; (with_reducible refine (laws_heldHeap.calls kj63 t127 _ _ t150 _ _ t151 1 t152 _ ?side1 ?side2 ?side3 ?side4 A96.out).mono ?_); (case side1 => repeat (first | exact (Kd.R_reads' HO_136001.out).2.2 | (with_reducible refine Kd.C_alloc ?_ _) | (with_reducible refine Kd.C_drewN ?_ _) | (with_reducible refine Kd.C_drew ?_))); (case side2 => rw [show t150.length = t128.length from (Kd.R_reads' HO_136001.out).1.symm]; exact (Kd.R_reads' HO_136001.out).2.1); (case side3 => repeat (first | exact (Kd.R_reads' HO_136002.out).2.2 | (with_reducible refine Kd.C_alloc ?_ _) | (with_reducible refine Kd.C_drewN ?_ _) | (with_reducible refine Kd.C_drew ?_))); (case side4 => rw [show t151.length = t131.length from (Kd.R_reads' HO_136002.out).1.symm]; exact (Kd.R_reads' HO_136002.out).2.1); rintro e w115 ⟨rfl, hb⟩; refine ⟨_, rfl, ?_⟩; have n0_ := aM (Kd.R_below (by (with_reducible repeat (first | apply rA | apply rN | apply rD)); exact HO_119001.out) hb); have n1_ := aM (Kd.R_below (by (with_reducible repeat (first | apply rA | apply rN | apply rD)); exact HO_119002.out) hb); have n2_ := aM (Kd.R_below (by (with_reducible repeat (first | apply rA | apply rN | apply rD)); exact HO_127001.out) hb); have n3_ := aM (Kd.R_below (by (with_reducible repeat (first | apply rA | apply rN | apply rD)); exact HO_127002.out) hb); have n4_ := aM (Kd.R_below (by (with_reducible repeat (first | apply rA | apply rN | apply rD)); exact HO_136001.out) hb); have n5_ := aM (Kd.R_below (by (with_reducible repeat (first | apply rA | apply rN | apply rD)); exact HO_136002.out) hb); have n6_ := aM (blk_below (g := gb101) (o := .cells #[.int .i64 a0_0, .slice A0_1 l0_1.length c0_1, .slice A0_2 l0_2.length c0_2] 25 (0, 0)) (by (with_reducible repeat (first | refine bN ?_ _ | refine bD ?_ | refine bA ?_ _)); exact BK101.out) hb); have n7_ := aM (blk_below (g := gb118) (o := .cells #[.int .i64 t110, .slice Ao23 t111.length co23, .slice Ao24 t114.length co24] 30 (0, 0)) (by (with_reducible repeat (first | refine bN ?_ _ | refine bD ?_ | refine bA ?_ _)); exact BK118.out) hb); have n8_ := aM (blk_below (g := gb126) (o := .cells #[.int .i64 t119, .slice Ao31 t146.length co31, .slice Ao32 t147.length co32] 30 (0, 0)) (by (with_reducible repeat (first | refine bN ?_ _ | refine bD ?_ | refine bA ?_ _)); exact BK126.out) hb); have n9_ := aM (blk_below (g := gb135) (o := .cells #[.int .i64 t127, .slice Ao39 t128.length co39, .slice Ao40 t131.length co40] 30 (0, 0)) (by (with_reducible repeat (first | refine bN ?_ _ | refine bD ?_ | refine bA ?_ _)); exact BK135.out) hb); have n10_ := aM (below_step (by repeat (first | (with_reducible first | exact HB.out | apply below_alloc | apply pw_below_drewN | apply below_drew1 | refine below_set ?_ GE101.out | refine below_set ?_ GE118.out | refine below_set ?_ GE126.out | refine below_set ?_ GE135.out) | exact HB.out)) hb); clear HO_119001; clear HO_119002; clear HO_127001; clear HO_127002; clear HO_136001; clear HO_136002; clear BK101; clear BK118; clear BK126; clear BK135; clear HB; have HO_119001 := n0_; have HO_119002 := n1_; have HO_127001 := n2_; have HO_127002 := n3_; have HO_136001 := n4_; have HO_136002 := n5_; have BK101 := n6_; have BK118 := n7_; have BK126 := n8_; have BK135 := n9_; have HB := n10_; clear n0_ n1_ n2_ n3_ n4_ n5_ n6_ n7_ n8_ n9_ n10_; (try clear hb); (try clear hb2); (try clear hk); (try clear hi); have hnb116 := NB101_118.out; have hnc116 := NB118_101.out; have hnb117 := NB101_126.out; have hnc117 := NB126_101.out; have hcz118_0 : w115.cell? ⟨gb101, 0, none⟩ = some (.int .i64 a0_0) := (blk_cell BK101.out 0).trans rfl; have hcz118_1 : w115.cell? ⟨gb101, 1, none⟩ = some (.slice A0_1 l0_1.length c0_1) := (blk_cell BK101.out 1).trans rfl; have hcz118_2 : w115.cell? ⟨gb101, 2, none⟩ = some (.slice A0_2 l0_2.length c0_2) := (blk_cell BK101.out 2).trans rfl; have hfz118_0 := blk_frozen BK101.out 0; have hfz118_1 := blk_frozen BK101.out 1; have hfz118_2 := blk_frozen BK101.out 2) | ((with_reducible refine gate_callee (f := 9) rfl ?_); refine goesL_ (some 75) rfl rfl Try.func9 (by kernel_rfl) rfl #[.agg #[.int .i64 a0_0, .slice A0_1 l0_1.length c0_1, .slice A0_2 l0_2.length c0_2]] rfl (by (try simp only [List.map_toArray, List.map_cons, List.map_nil]); first | done | rfl | (simp only [List.length_drop, List.length_take]; rfl)) ?_; (with_reducible refine (laws_toHeap.calls kj63 a0_0 _ _ l0_1 _ _ l0_2 t153 t154 t157 _ ?side1 ?side2 ?side3 ?side4 A106.out).mono ?_); (case side1 => repeat (first | exact (Kd.C_below HR0_1.out HB.out) | (with_reducible refine Kd.C_alloc ?_ _) | (with_reducible refine Kd.C_drewN ?_ _) | (with_reducible refine Kd.C_drew ?_))); (case side2 => exact HC0_1.out); (case side3 => repeat (first | exact (Kd.C_below HR0_2.out HB.out) | (with_reducible refine Kd.C_alloc ?_ _) | (with_reducible refine Kd.C_drewN ?_ _) | (with_reducible refine Kd.C_drew ?_))); (case side4 => exact HC0_2.out); rintro e w119 ⟨v155, v158, rfl, ho0, ho1, hb⟩; refine ⟨_, rfl, ?_⟩; have n0_ := aM (Kd.R_elder' (by (with_reducible repeat (first | apply rA | apply rN | apply rD)); exact HO_119001.out) (Kd.R_base ho0) hb); have n1_ := aM (Kd.R_elder' (by (with_reducible repeat (first | apply rA | apply rN | apply rD)); exact HO_119002.out) (Kd.R_base ho1) hb); have n2_ := aM (Kd.R_elder' (by (with_reducible repeat (first | apply rA | apply rN | apply rD)); exact HO_127001.out) (Kd.R_base ho0) hb); have n3_ := aM (Kd.R_elder' (by (with_reducible repeat (first | apply rA | apply rN | apply rD)); exact HO_127002.out) (Kd.R_base ho1) hb); have n4_ := aM (Kd.R_elder' (by (with_reducible repeat (first | apply rA | apply rN | apply rD)); exact HO_136001.out) (Kd.R_base ho0) hb); have n5_ := aM (Kd.R_elder' (by (with_reducible repeat (first | apply rA | apply rN | apply rD)); exact HO_136002.out) (Kd.R_base ho1) hb); have n6_ := aM (Kd.R_lower (Kd.R_new' (Kd.R_new' (Kd.R_new' ho0 (Kd.R_lt (by (with_reducible repeat (first | apply rA | apply rN | apply rD)); exact HO_119001.out))) (Kd.R_lt (by (with_reducible repeat (first | apply rA | apply rN | apply rD)); exact HO_127001.out))) (Kd.R_lt (by (with_reducible repeat (first | apply rA | apply rN | apply rD)); exact HO_136001.out))) (below_size (by repeat (first | (with_reducible first | exact HB.out | apply below_alloc | apply pw_below_drewN | apply below_drew1 | refine below_set ?_ GE101.out | refine below_set ?_ GE118.out | refine below_set ?_ GE126.out | refine below_set ?_ GE135.out) | exact HB.out)))); have n7_ := aM (Kd.R_lower (Kd.R_new' (Kd.R_new' (Kd.R_new' ho1 (Kd.R_lt (by (with_reducible repeat (first | apply rA | apply rN | apply rD)); exact HO_119002.out))) (Kd.R_lt (by (with_reducible repeat (first | apply rA | apply rN | apply rD)); exact HO_127002.out))) (Kd.R_lt (by (with_reducible repeat (first | apply rA | apply rN | apply rD)); exact HO_136002.out))) (below_size (by repeat (first | (with_reducible first | exact HB.out | apply below_alloc | apply pw_below_drewN | apply below_drew1 | refine below_set ?_ GE101.out | refine below_set ?_ GE118.out | refine below_set ?_ GE126.out | refine below_set ?_ GE135.out) | exact HB.out)))); have n8_ := aM (blk_below (g := gb101) (o := .cells #[.int .i64 a0_0, .slice A0_1 l0_1.length c0_1, .slice A0_2 l0_2.length c0_2] 25 (0, 0)) (by (with_reducible repeat (first | refine bN ?_ _ | refine bD ?_ | refine bA ?_ _)); exact BK101.out) hb); have n9_ := aM (blk_below (g := gb118) (o := .cells #[.int .i64 t110, .slice Ao23 t111.length co23, .slice Ao24 t114.length co24] 30 (0, 0)) (by (with_reducible repeat (first | refine bN ?_ _ | refine bD ?_ | refine bA ?_ _)); exact BK118.out) hb); have n10_ := aM (blk_below (g := gb126) (o := .cells #[.int .i64 t119, .slice Ao31 t146.length co31, .slice Ao32 t147.length co32] 30 (0, 0)) (by (with_reducible repeat (first | refine bN ?_ _ | refine bD ?_ | refine bA ?_ _)); exact BK126.out) hb); have n11_ := aM (blk_below (g := gb135) (o := .cells #[.int .i64 t127, .slice Ao39 t128.length co39, .slice Ao40 t131.length co40] 30 (0, 0)) (by (with_reducible repeat (first | refine bN ?_ _ | refine bD ?_ | refine bA ?_ _)); exact BK135.out) hb); have n12_ := aM (below_step (by repeat (first | (with_reducible first | exact HB.out | apply below_alloc | apply pw_below_drewN | apply below_drew1 | refine below_set ?_ GE101.out | refine below_set ?_ GE118.out | refine below_set ?_ GE126.out | refine below_set ?_ GE135.out) | exact HB.out)) hb); clear HO_119001; clear HO_119002; clear HO_127001; clear HO_127002; clear HO_136001; clear HO_136002; clear BK101; clear BK118; clear BK126; clear BK135; clear HB; have HO_119001 := n0_; have HO_119002 := n1_; have HO_127001 := n2_; have HO_127002 := n3_; have HO_136001 := n4_; have HO_136002 := n5_; have HO156 := n6_; have HO159 := n7_; have BK101 := n8_; have BK118 := n9_; have BK126 := n10_; have BK135 := n11_; have HB := n12_; clear n0_ n1_ n2_ n3_ n4_ n5_ n6_ n7_ n8_ n9_ n10_ n11_ n12_; (try clear hb); (try clear hb2); (try clear hk); (try clear hi); (try clear ho0); (try clear ho1); obtain ⟨Ao120, co120, eo120⟩ := Kd.R_slice HO156.out; subst eo120; obtain ⟨Ao121, co121, eo121⟩ := Kd.R_slice HO159.out; subst eo121) | ((with_reducible refine gate_callee (f := 22) rfl ?_); refine goesL_ (some 76) rfl rfl Try.func22 (by kernel_rfl) rfl #[.agg #[.int .i64 t153, .slice Ao120 t154.length co120, .slice Ao121 t157.length co121]] rfl (by (try simp only [List.map_toArray, List.map_cons, List.map_nil]); first | done | rfl | (simp only [List.length_drop, List.length_take]; rfl)) ?_; (with_reducible refine (impl_MinorCollect.calls kj63 t153 _ _ t154 _ _ t157 t160 t161 t164 t167 _ ?side1 ?side2 ?side3 ?side4 A107.out).mono ?_); (case side1 => repeat (first | exact (Kd.R_reads' HO156.out).2.2 | (with_reducible refine Kd.C_alloc ?_ _) | (with_reducible refine Kd.C_drewN ?_ _) | (with_reducible refine Kd.C_drew ?_))); (case side2 => exact (Kd.R_reads' HO156.out).2.1); (case side3 => repeat (first | exact (Kd.R_reads' HO159.out).2.2 | (with_reducible refine Kd.C_alloc ?_ _) | (with_reducible refine Kd.C_drewN ?_ _) | (with_reducible refine Kd.C_drew ?_))); (case side4 => exact (Kd.R_reads' HO159.out).2.1); rintro e w122 ⟨v162, v165, rfl, ho0, ho1, hb⟩; refine ⟨_, rfl, ?_⟩; have n0_ := aM (Kd.R_elder' (by (with_reducible repeat (first | apply rA | apply rN | apply rD)); exact HO_119001.out) (Kd.R_base ho0) hb); have n1_ := aM (Kd.R_elder' (by (with_reducible repeat (first | apply rA | apply rN | apply rD)); exact HO_119002.out) (Kd.R_base ho1) hb); have n2_ := aM (Kd.R_elder' (by (with_reducible repeat (first | apply rA | apply rN | apply rD)); exact HO_127001.out) (Kd.R_base ho0) hb); have n3_ := aM (Kd.R_elder' (by (with_reducible repeat (first | apply rA | apply rN | apply rD)); exact HO_127002.out) (Kd.R_base ho1) hb); have n4_ := aM (Kd.R_elder' (by (with_reducible repeat (first | apply rA | apply rN | apply rD)); exact HO_136001.out) (Kd.R_base ho0) hb); have n5_ := aM (Kd.R_elder' (by (with_reducible repeat (first | apply rA | apply rN | apply rD)); exact HO_136002.out) (Kd.R_base ho1) hb); have n6_ := aM (Kd.R_elder' (by (with_reducible repeat (first | apply rA | apply rN | apply rD)); exact HO156.out) (Kd.R_base ho0) hb); have n7_ := aM (Kd.R_elder' (by (with_reducible repeat (first | apply rA | apply rN | apply rD)); exact HO159.out) (Kd.R_base ho1) hb); have n8_ := aM (Kd.R_lower (Kd.R_new' (Kd.R_new' (Kd.R_new' (Kd.R_new' ho0 (Kd.R_lt (by (with_reducible repeat (first | apply rA | apply rN | apply rD)); exact HO_119001.out))) (Kd.R_lt (by (with_reducible repeat (first | apply rA | apply rN | apply rD)); exact HO_127001.out))) (Kd.R_lt (by (with_reducible repeat (first | apply rA | apply rN | apply rD)); exact HO_136001.out))) (Kd.R_lt (by (with_reducible repeat (first | apply rA | apply rN | apply rD)); exact HO156.out))) (below_size (by repeat (first | (with_reducible first | exact HB.out | apply below_alloc | apply pw_below_drewN | apply below_drew1 | refine below_set ?_ GE101.out | refine below_set ?_ GE118.out | refine below_set ?_ GE126.out | refine below_set ?_ GE135.out) | exact HB.out)))); have n9_ := aM (Kd.R_lower (Kd.R_new' (Kd.R_new' (Kd.R_new' (Kd.R_new' ho1 (Kd.R_lt (by (with_reducible repeat (first | apply rA | apply rN | apply rD)); exact HO_119002.out))) (Kd.R_lt (by (with_reducible repeat (first | apply rA | apply rN | apply rD)); exact HO_127002.out))) (Kd.R_lt (by (with_reducible repeat (first | apply rA | apply rN | apply rD)); exact HO_136002.out))) (Kd.R_lt (by (with_reducible repeat (first | apply rA | apply rN | apply rD)); exact HO159.out))) (below_size (by repeat (first | (with_reducible first | exact HB.out | apply below_alloc | apply pw_below_drewN | apply below_drew1 | refine below_set ?_ GE101.out | refine below_set ?_ GE118.out | refine below_set ?_ GE126.out | refine below_set ?_ GE135.out) | exact HB.out)))); have n10_ := aM (blk_below (g := gb101) (o := .cells #[.int .i64 a0_0, .slice A0_1 l0_1.length c0_1, .slice A0_2 l0_2.length c0_2] 25 (0, 0)) (by (with_reducible repeat (first | refine bN ?_ _ | refine bD ?_ | refine bA ?_ _)); exact BK101.out) hb); have n11_ := aM (blk_below (g := gb118) (o := .cells #[.int .i64 t110, .slice Ao23 t111.length co23, .slice Ao24 t114.length co24] 30 (0, 0)) (by (with_reducible repeat (first | refine bN ?_ _ | refine bD ?_ | refine bA ?_ _)); exact BK118.out) hb); have n12_ := aM (blk_below (g := gb126) (o := .cells #[.int .i64 t119, .slice Ao31 t146.length co31, .slice Ao32 t147.length co32] 30 (0, 0)) (by (with_reducible repeat (first | refine bN ?_ _ | refine bD ?_ | refine bA ?_ _)); exact BK126.out) hb); have n13_ := aM (blk_below (g := gb135) (o := .cells #[.int .i64 t127, .slice Ao39 t128.length co39, .slice Ao40 t131.length co40] 30 (0, 0)) (by (with_reducible repeat (first | refine bN ?_ _ | refine bD ?_ | refine bA ?_ _)); exact BK135.out) hb); have n14_ := aM (below_step (by repeat (first | (with_reducible first | exact HB.out | apply below_alloc | apply pw_below_drewN | apply below_drew1 | refine below_set ?_ GE101.out | refine below_set ?_ GE118.out | refine below_set ?_ GE126.out | refine below_set ?_ GE135.out) | exact HB.out)) hb); clear HO_119001; clear HO_119002; clear HO_127001; clear HO_127002; clear HO_136001; clear HO_136002; clear HO156; clear HO159; clear BK101; clear BK118; clear BK126; clear BK135; clear HB; have HO_119001 := n0_; have HO_119002 := n1_; have HO_127001 := n2_; have HO_127002 := n3_; have HO_136001 := n4_; have HO_136002 := n5_; have HO156 := n6_; have HO159 := n7_; have HO163 := n8_; have HO166 := n9_; have BK101 := n10_; have BK118 := n11_; have BK126 := n12_; have BK135 := n13_; have HB := n14_; clear n0_ n1_ n2_ n3_ n4_ n5_ n6_ n7_ n8_ n9_ n10_ n11_ n12_ n13_ n14_; (try clear hb); (try clear hb2); (try clear hk); (try clear hi); (try clear ho0); (try clear ho1)) | ((with_reducible refine gate_dst (N := 12) rfl ?_); refine box_event ?hg (N := 12) ?hd (cs := #[.int .i64 0, .slice none 0 0, .slice none 0 0]) (t := 30) ?hr ?_; (case hd => rfl); (case hg => rfl); (case hr => first | (go_simp; done) | (go_simp; rfl)); intro gb168 hg w123 hbox hb; have n0_ := aM (Kd.R_below (by (with_reducible repeat (first | apply rA | apply rN | apply rD)); exact HO_119001.out) hb); have n1_ := aM (Kd.R_below (by (with_reducible repeat (first | apply rA | apply rN | apply rD)); exact HO_119002.out) hb); have n2_ := aM (Kd.R_below (by (with_reducible repeat (first | apply rA | apply rN | apply rD)); exact HO_127001.out) hb); have n3_ := aM (Kd.R_below (by (with_reducible repeat (first | apply rA | apply rN | apply rD)); exact HO_127002.out) hb); have n4_ := aM (Kd.R_below (by (with_reducible repeat (first | apply rA | apply rN | apply rD)); exact HO_136001.out) hb); have n5_ := aM (Kd.R_below (by (with_reducible repeat (first | apply rA | apply rN | apply rD)); exact HO_136002.out) hb); have n6_ := aM (Kd.R_below (by (with_reducible repeat (first | apply rA | apply rN | apply rD)); exact HO156.out) hb); have n7_ := aM (Kd.R_below (by (with_reducible repeat (first | apply rA | apply rN | apply rD)); exact HO159.out) hb); have n8_ := aM (Kd.R_below (by (with_reducible repeat (first | apply rA | apply rN | apply rD)); exact HO163.out) hb); have n9_ := aM (Kd.R_below (by (with_reducible repeat (first | apply rA | apply rN | apply rD)); exact HO166.out) hb); have n10_ := aM (blk_below (g := gb101) (o := .cells #[.int .i64 a0_0, .slice A0_1 l0_1.length c0_1, .slice A0_2 l0_2.length c0_2] 25 (0, 0)) (by (with_reducible repeat (first | refine bN ?_ _ | refine bD ?_ | refine bA ?_ _)); exact BK101.out) hb); have n11_ := aM (blk_below (g := gb118) (o := .cells #[.int .i64 t110, .slice Ao23 t111.length co23, .slice Ao24 t114.length co24] 30 (0, 0)) (by (with_reducible repeat (first | refine bN ?_ _ | refine bD ?_ | refine bA ?_ _)); exact BK118.out) hb); have n12_ := aM (blk_below (g := gb126) (o := .cells #[.int .i64 t119, .slice Ao31 t146.length co31, .slice Ao32 t147.length co32] 30 (0, 0)) (by (with_reducible repeat (first | refine bN ?_ _ | refine bD ?_ | refine bA ?_ _)); exact BK126.out) hb); have n13_ := aM (blk_below (g := gb135) (o := .cells #[.int .i64 t127, .slice Ao39 t128.length co39, .slice Ao40 t131.length co40] 30 (0, 0)) (by (with_reducible repeat (first | refine bN ?_ _ | refine bD ?_ | refine bA ?_ _)); exact BK135.out) hb); have n14_ := aM (below_step (by repeat (first | (with_reducible first | exact HB.out | apply below_alloc | apply pw_below_drewN | apply below_drew1 | refine below_set ?_ GE101.out | refine below_set ?_ GE118.out | refine below_set ?_ GE126.out | refine below_set ?_ GE135.out) | exact HB.out)) hb); have n15_ := aM (hbox); have n16_ := aM ((by rw [hg]; exact (below_size (by repeat (first | (with_reducible first | exact HB.out | apply below_alloc | apply pw_below_drewN | apply below_drew1 | refine below_set ?_ GE101.out | refine below_set ?_ GE118.out | refine below_set ?_ GE126.out | refine below_set ?_ GE135.out) | exact HB.out))) : w.heap.size ≤ gb168)); have n17_ := aM ((by rw [hg]; exact (below_size (by repeat (first | (with_reducible first | exact HB.out | apply below_alloc | apply pw_below_drewN | apply below_drew1 | refine below_set ?_ GE101.out | refine below_set ?_ GE118.out | refine below_set ?_ GE126.out | refine below_set ?_ GE135.out) | exact HB.out))) : w.heap.size ≤ gb168)); have n18_ := aM ((by rw [hg]; exact Nat.ne_of_lt (blk_lt (g := gb101) (o := .cells #[.int .i64 a0_0, .slice A0_1 l0_1.length c0_1, .slice A0_2 l0_2.length c0_2] 25 (0, 0)) (by (with_reducible repeat (first | refine bN ?_ _ | refine bD ?_ | refine bA ?_ _)); exact BK101.out)) : gb101 ≠ gb168)); have n19_ := aM ((by rw [hg]; exact Nat.ne_of_gt (blk_lt (g := gb101) (o := .cells #[.int .i64 a0_0, .slice A0_1 l0_1.length c0_1, .slice A0_2 l0_2.length c0_2] 25 (0, 0)) (by (with_reducible repeat (first | refine bN ?_ _ | refine bD ?_ | refine bA ?_ _)); exact BK101.out)) : gb168 ≠ gb101)); have n20_ := aM ((by rw [hg]; exact Nat.ne_of_lt (blk_lt (g := gb118) (o := .cells #[.int .i64 t110, .slice Ao23 t111.length co23, .slice Ao24 t114.length co24] 30 (0, 0)) (by (with_reducible repeat (first | refine bN ?_ _ | refine bD ?_ | refine bA ?_ _)); exact BK118.out)) : gb118 ≠ gb168)); have n21_ := aM ((by rw [hg]; exact Nat.ne_of_gt (blk_lt (g := gb118) (o := .cells #[.int .i64 t110, .slice Ao23 t111.length co23, .slice Ao24 t114.length co24] 30 (0, 0)) (by (with_reducible repeat (first | refine bN ?_ _ | refine bD ?_ | refine bA ?_ _)); exact BK118.out)) : gb168 ≠ gb118)); have n22_ := aM ((by rw [hg]; exact Nat.ne_of_lt (blk_lt (g := gb126) (o := .cells #[.int .i64 t119, .slice Ao31 t146.length co31, .slice Ao32 t147.length co32] 30 (0, 0)) (by (with_reducible repeat (first | refine bN ?_ _ | refine bD ?_ | refine bA ?_ _)); exact BK126.out)) : gb126 ≠ gb168)); have n23_ := aM ((by rw [hg]; exact Nat.ne_of_gt (blk_lt (g := gb126) (o := .cells #[.int .i64 t119, .slice Ao31 t146.length co31, .slice Ao32 t147.length co32] 30 (0, 0)) (by (with_reducible repeat (first | refine bN ?_ _ | refine bD ?_ | refine bA ?_ _)); exact BK126.out)) : gb168 ≠ gb126)); have n24_ := aM ((by rw [hg]; exact Nat.ne_of_lt (blk_lt (g := gb135) (o := .cells #[.int .i64 t127, .slice Ao39 t128.length co39, .slice Ao40 t131.length co40] 30 (0, 0)) (by (with_reducible repeat (first | refine bN ?_ _ | refine bD ?_ | refine bA ?_ _)); exact BK135.out)) : gb135 ≠ gb168)); have n25_ := aM ((by rw [hg]; exact Nat.ne_of_gt (blk_lt (g := gb135) (o := .cells #[.int .i64 t127, .slice Ao39 t128.length co39, .slice Ao40 t131.length co40] 30 (0, 0)) (by (with_reducible repeat (first | refine bN ?_ _ | refine bD ?_ | refine bA ?_ _)); exact BK135.out)) : gb168 ≠ gb135)); clear HO_119001; clear HO_119002; clear HO_127001; clear HO_127002; clear HO_136001; clear HO_136002; clear HO156; clear HO159; clear HO163; clear HO166; clear BK101; clear BK118; clear BK126; clear BK135; clear HB; have HO_119001 := n0_; have HO_119002 := n1_; have HO_127001 := n2_; have HO_127002 := n3_; have HO_136001 := n4_; have HO_136002 := n5_; have HO156 := n6_; have HO159 := n7_; have HO163 := n8_; have HO166 := n9_; have BK101 := n10_; have BK118 := n11_; have BK126 := n12_; have BK135 := n13_; have HB := n14_; have BK168 := n15_; have GW168 := n16_; have GE168 := n17_; have NB101_168 := n18_; have NB168_101 := n19_; have NB118_168 := n20_; have NB168_118 := n21_; have NB126_168 := n22_; have NB168_126 := n23_; have NB135_168 := n24_; have NB168_135 := n25_; clear n0_ n1_ n2_ n3_ n4_ n5_ n6_ n7_ n8_ n9_ n10_ n11_ n12_ n13_ n14_ n15_ n16_ n17_ n18_ n19_ n20_ n21_ n22_ n23_ n24_ n25_; clear hb hbox hg; have hnb124 := NB168_101.out; have hnc124 := NB101_168.out; have hnb125 := NB168_118.out; have hnc125 := NB118_168.out; have hnb126 := NB168_126.out; have hnc126 := NB126_168.out; have hnb127 := NB168_135.out; have hnc127 := NB135_168.out; have hcz128_0 : w123.cell? ⟨gb168, 0, none⟩ = some (.int .i64 0) := (blk_cell BK168.out 0).trans rfl; have hcz128_1 : w123.cell? ⟨gb168, 1, none⟩ = some (.slice none 0 0) := (blk_cell BK168.out 1).trans rfl; have hcz128_2 : w123.cell? ⟨gb168, 2, none⟩ = some (.slice none 0 0) := (blk_cell BK168.out 2).trans rfl; have hfz128_0 := blk_frozen BK168.out 0; have hfz128_1 := blk_frozen BK168.out 1; have hfz128_2 := blk_frozen BK168.out 2; obtain ⟨Ao129, co129, eo129⟩ := Kd.R_slice HO163.out; subst eo129; obtain ⟨Ao130, co130, eo130⟩ := Kd.R_slice HO166.out; subst eo130))
                      (try simp only [Act.put, List.setIfInBounds_toArray, List.set_cons_zero, List.set_cons_succ])
                      go_cut [87] (fun v87 wc => ∃ (kq : Nat) (x87_107 : Bool), v87 = .bool x87_107 ∧ Aside0 (laws_FnExactMinorCollect.j2 kq t149 x87_107 t127 t150 t151 = some r) ∧ Aside0 (kq ≤ kj63) ∧ Aside0 (Kd.R k44 44 wc w.heap.size (fun k_ => some k_ ≠ ((.slice Ao31 t146.length co31) : Value).ownBlock ∧ some k_ ≠ ((.slice Ao39 t128.length co39) : Value).ownBlock ∧ some k_ ≠ ((.slice Ao129 t161.length co129) : Value).ownBlock) (.slice Ao23 t111.length co23) t111) ∧ Aside0 (Kd.R (Kd.int .i64) 3 wc w.heap.size (fun k_ => some k_ ≠ ((.slice Ao32 t147.length co32) : Value).ownBlock ∧ some k_ ≠ ((.slice Ao40 t131.length co40) : Value).ownBlock ∧ some k_ ≠ ((.slice Ao130 t164.length co130) : Value).ownBlock) (.slice Ao24 t114.length co24) t114) ∧ Aside0 (Kd.R k44 44 wc w.heap.size (fun k_ => some k_ ≠ ((.slice Ao23 t111.length co23) : Value).ownBlock ∧ some k_ ≠ ((.slice Ao39 t128.length co39) : Value).ownBlock ∧ some k_ ≠ ((.slice Ao129 t161.length co129) : Value).ownBlock) (.slice Ao31 t146.length co31) t146) ∧ Aside0 (Kd.R (Kd.int .i64) 3 wc w.heap.size (fun k_ => some k_ ≠ ((.slice Ao24 t114.length co24) : Value).ownBlock ∧ some k_ ≠ ((.slice Ao40 t131.length co40) : Value).ownBlock ∧ some k_ ≠ ((.slice Ao130 t164.length co130) : Value).ownBlock) (.slice Ao32 t147.length co32) t147) ∧ Aside0 (Kd.R k44 44 wc w.heap.size (fun k_ => some k_ ≠ ((.slice Ao23 t111.length co23) : Value).ownBlock ∧ some k_ ≠ ((.slice Ao31 t146.length co31) : Value).ownBlock ∧ some k_ ≠ ((.slice Ao129 t161.length co129) : Value).ownBlock) (.slice Ao39 t128.length co39) t150) ∧ Aside0 (Kd.R (Kd.int .i64) 3 wc w.heap.size (fun k_ => some k_ ≠ ((.slice Ao24 t114.length co24) : Value).ownBlock ∧ some k_ ≠ ((.slice Ao32 t147.length co32) : Value).ownBlock ∧ some k_ ≠ ((.slice Ao130 t164.length co130) : Value).ownBlock) (.slice Ao40 t131.length co40) t151) ∧ Aside0 (Kd.R k44 44 wc w.heap.size (fun k_ => some k_ ≠ ((.slice Ao23 t111.length co23) : Value).ownBlock ∧ some k_ ≠ ((.slice Ao31 t146.length co31) : Value).ownBlock ∧ some k_ ≠ ((.slice Ao39 t128.length co39) : Value).ownBlock) (.slice Ao129 t161.length co129) t161) ∧ Aside0 (Kd.R (Kd.int .i64) 3 wc w.heap.size (fun k_ => some k_ ≠ ((.slice Ao24 t114.length co24) : Value).ownBlock ∧ some k_ ≠ ((.slice Ao32 t147.length co32) : Value).ownBlock ∧ some k_ ≠ ((.slice Ao40 t131.length co40) : Value).ownBlock) (.slice Ao130 t164.length co130) t164) ∧ Aside0 (wc.heap[gb101]? = some (.cells #[.int .i64 a0_0, (.slice A0_1 l0_1.length c0_1), (.slice A0_2 l0_2.length c0_2)] 25 (0, 0))) ∧ Aside0 (wc.heap[gb118]? = some (.cells #[.int .i64 t110, (.slice Ao23 t111.length co23), (.slice Ao24 t114.length co24)] 30 (0, 0))) ∧ Aside0 (wc.heap[gb126]? = some (.cells #[.int .i64 t119, (.slice Ao31 t146.length co31), (.slice Ao32 t147.length co32)] 30 (0, 0))) ∧ Aside0 (wc.heap[gb135]? = some (.cells #[.int .i64 t127, (.slice Ao39 t128.length co39), (.slice Ao40 t131.length co40)] 30 (0, 0))) ∧ Aside0 (wc.heap[gb168]? = some (.cells #[.int .i64 t160, (.slice Ao129 t161.length co129), (.slice Ao130 t164.length co130)] 30 (0, 0))) ∧ Aside0 (Below w.heap.size w wc))
                      case first =>
                        have H := HC108.out
                        clear HC108
                        replace H := Option.bind_eq_some_iff.mp H
                        obtain ⟨t169, A1310, H⟩ := H
                        replace H : (if t169 = true then (laws_FnExactMinorCollect.j2 kj63 t149 (t167 != t117) t127 t150 t151) else (laws_FnExactMinorCollect.j2 kj63 t149 true t127 t150 t151)) = some r := H
                        have A131 := aM A1310
                        clear A1310
                        by_cases c132 : t169 = true
                        · subst c132
                          have H1 : (laws_FnExactMinorCollect.j2 kj63 t149 (t167 != t117) t127 t150 t151) = some r := by rw [if_pos rfl] at H; exact H
                          clear H
                          have H := H1
                          clear H1
                          have H' := aM H
                          clear H
                          have hnb133 := NB168_101.out
                          have hnc133 := NB101_168.out
                          have hnb134 := NB168_118.out
                          have hnc134 := NB118_168.out
                          have hnb135 := NB168_126.out
                          have hnc135 := NB126_168.out
                          have hnb136 := NB168_135.out
                          have hnc136 := NB135_168.out
                          have hcz137_0 : w123.cell? ⟨gb168, 0, none⟩ = some (.int .i64 0) := (blk_cell BK168.out 0).trans rfl
                          have hcz137_1 : w123.cell? ⟨gb168, 1, none⟩ = some (.slice none 0 0) := (blk_cell BK168.out 1).trans rfl
                          have hcz137_2 : w123.cell? ⟨gb168, 2, none⟩ = some (.slice none 0 0) := (blk_cell BK168.out 2).trans rfl
                          have hfz137_0 := blk_frozen BK168.out 0
                          have hfz137_1 := blk_frozen BK168.out 1
                          have hfz137_2 := blk_frozen BK168.out 2
                          have hnb138 := NB118_101.out
                          have hnc138 := NB101_118.out
                          have hnb139 := NB118_126.out
                          have hnc139 := NB126_118.out
                          have hnb140 := NB118_135.out
                          have hnc140 := NB135_118.out
                          have hcz141_0 : w123.cell? ⟨gb118, 0, none⟩ = some (.int .i64 t110) := (blk_cell BK118.out 0).trans rfl
                          have hcz141_1 : w123.cell? ⟨gb118, 1, none⟩ = some (.slice Ao23 t111.length co23) := (blk_cell BK118.out 1).trans rfl
                          have hcz141_2 : w123.cell? ⟨gb118, 2, none⟩ = some (.slice Ao24 t114.length co24) := (blk_cell BK118.out 2).trans rfl
                          have hfz141_0 := blk_frozen BK118.out 0
                          have hfz141_1 := blk_frozen BK118.out 1
                          have hfz141_2 := blk_frozen BK118.out 2
                          go_wp2_with (first | ((with_reducible refine gate_callee (f := 11) rfl ?_); refine goesL_ (some 81) rfl rfl Try.func11 (by kernel_rfl) rfl #[.agg #[.int .i64 t160, .slice Ao129 t161.length co129, .slice Ao130 t164.length co130], .agg #[.int .i64 t110, .slice Ao23 t111.length co23, .slice Ao24 t114.length co24]] rfl (by (try simp only [List.map_toArray, List.map_cons, List.map_nil]); first | done | rfl | (simp only [List.length_drop, List.length_take]; rfl)) ?_; (with_reducible refine (laws_eqHeap.calls kj63 t160 _ _ t161 _ _ t164 t110 _ _ t111 _ _ t114 true _ ?side1 ?side2 ?side3 ?side4 ?side5 ?side6 ?side7 ?side8 A131.out).mono ?_); (case side1 => refine (Kd.R_reads' (e := 44) (base := w.heap.size) (ok := fun k_ => ((((True ∧ some k_ ≠ (.slice Ao23 t111.length co23 : Value).ownBlock) ∧ some k_ ≠ (.slice Ao31 t146.length co31 : Value).ownBlock) ∧ some k_ ≠ (.slice Ao39 t128.length co39 : Value).ownBlock) ∧ some k_ ≠ (.slice Ao120 t154.length co120 : Value).ownBlock)) (n := t161.length) (c := co129) ?_).2.2; exact (by (with_reducible repeat (first | apply rA | apply rN | apply rD)); exact (Kd.R_mono (Kd.R_far (p := ⟨gb168, 2, none⟩) (Kd.R_far (p := ⟨gb168, 1, none⟩) (Kd.R_far (p := ⟨gb168, 0, none⟩) (Kd.R_types HO163.out BK168.out (by decide)) (fun _ hk => hk.2) (.int .i64 t160)) (fun _ hk => hk.2) (.slice Ao129 t161.length co129)) (fun _ hk => hk.2) (.slice Ao130 t164.length co130)) (fun _ h_ => h_.1)))); (case side2 => exact (Kd.R_reads' HO163.out).2.1); (case side3 => refine (Kd.R_reads' (e := 3) (base := w.heap.size) (ok := fun k_ => ((((True ∧ some k_ ≠ (.slice Ao24 t114.length co24 : Value).ownBlock) ∧ some k_ ≠ (.slice Ao32 t147.length co32 : Value).ownBlock) ∧ some k_ ≠ (.slice Ao40 t131.length co40 : Value).ownBlock) ∧ some k_ ≠ (.slice Ao121 t157.length co121 : Value).ownBlock)) (n := t164.length) (c := co130) ?_).2.2; exact (by (with_reducible repeat (first | apply rA | apply rN | apply rD)); exact (Kd.R_mono (Kd.R_far (p := ⟨gb168, 2, none⟩) (Kd.R_far (p := ⟨gb168, 1, none⟩) (Kd.R_far (p := ⟨gb168, 0, none⟩) (Kd.R_types HO166.out BK168.out (by decide)) (fun _ hk => hk.2) (.int .i64 t160)) (fun _ hk => hk.2) (.slice Ao129 t161.length co129)) (fun _ hk => hk.2) (.slice Ao130 t164.length co130)) (fun _ h_ => h_.1)))); (case side4 => exact (Kd.R_reads' HO166.out).2.1); (case side5 => refine (Kd.R_reads' (e := 44) (base := w.heap.size) (ok := fun k_ => (((some k_ ≠ (.slice Ao31 t146.length co31 : Value).ownBlock ∧ some k_ ≠ (.slice Ao39 t128.length co39 : Value).ownBlock) ∧ some k_ ≠ (.slice Ao120 t154.length co120 : Value).ownBlock) ∧ some k_ ≠ (.slice Ao129 t161.length co129 : Value).ownBlock)) (n := t111.length) (c := co23) ?_).2.2; exact (by (with_reducible repeat (first | apply rA | apply rN | apply rD)); exact (Kd.R_mono (Kd.R_far (p := ⟨gb168, 2, none⟩) (Kd.R_far (p := ⟨gb168, 1, none⟩) (Kd.R_far (p := ⟨gb168, 0, none⟩) (Kd.R_types HO_119001.out BK168.out (by decide)) (fun _ hk => hk.2) (.int .i64 t160)) (fun _ hk => hk.2) (.slice Ao129 t161.length co129)) (fun _ hk => hk.2) (.slice Ao130 t164.length co130)) (fun _ h_ => h_.1)))); (case side6 => exact (Kd.R_reads' HO_119001.out).2.1); (case side7 => refine (Kd.R_reads' (e := 3) (base := w.heap.size) (ok := fun k_ => (((some k_ ≠ (.slice Ao32 t147.length co32 : Value).ownBlock ∧ some k_ ≠ (.slice Ao40 t131.length co40 : Value).ownBlock) ∧ some k_ ≠ (.slice Ao121 t157.length co121 : Value).ownBlock) ∧ some k_ ≠ (.slice Ao130 t164.length co130 : Value).ownBlock)) (n := t114.length) (c := co24) ?_).2.2; exact (by (with_reducible repeat (first | apply rA | apply rN | apply rD)); exact (Kd.R_mono (Kd.R_far (p := ⟨gb168, 2, none⟩) (Kd.R_far (p := ⟨gb168, 1, none⟩) (Kd.R_far (p := ⟨gb168, 0, none⟩) (Kd.R_types HO_119002.out BK168.out (by decide)) (fun _ hk => hk.2) (.int .i64 t160)) (fun _ hk => hk.2) (.slice Ao129 t161.length co129)) (fun _ hk => hk.2) (.slice Ao130 t164.length co130)) (fun _ h_ => h_.1)))); (case side8 => exact (Kd.R_reads' HO_119002.out).2.1); rintro e w142 ⟨rfl, hb⟩; refine ⟨_, rfl, ?_⟩; have n0_ := aM (Kd.R_below (by (with_reducible repeat (first | apply rA | apply rN | apply rD)); exact (Kd.R_mono (Kd.R_far (p := ⟨gb168, 2, none⟩) (Kd.R_far (p := ⟨gb168, 1, none⟩) (Kd.R_far (p := ⟨gb168, 0, none⟩) (Kd.R_types HO_119001.out BK168.out (by decide)) (fun _ hk => hk.2) (.int .i64 t160)) (fun _ hk => hk.2) (.slice Ao129 t161.length co129)) (fun _ hk => hk.2) (.slice Ao130 t164.length co130)) (fun _ h_ => h_.1))) hb); have n1_ := aM (Kd.R_below (by (with_reducible repeat (first | apply rA | apply rN | apply rD)); exact (Kd.R_mono (Kd.R_far (p := ⟨gb168, 2, none⟩) (Kd.R_far (p := ⟨gb168, 1, none⟩) (Kd.R_far (p := ⟨gb168, 0, none⟩) (Kd.R_types HO_119002.out BK168.out (by decide)) (fun _ hk => hk.2) (.int .i64 t160)) (fun _ hk => hk.2) (.slice Ao129 t161.length co129)) (fun _ hk => hk.2) (.slice Ao130 t164.length co130)) (fun _ h_ => h_.1))) hb); have n2_ := aM (Kd.R_below (by (with_reducible repeat (first | apply rA | apply rN | apply rD)); exact (Kd.R_mono (Kd.R_far (p := ⟨gb168, 2, none⟩) (Kd.R_far (p := ⟨gb168, 1, none⟩) (Kd.R_far (p := ⟨gb168, 0, none⟩) (Kd.R_types HO_127001.out BK168.out (by decide)) (fun _ hk => hk.2) (.int .i64 t160)) (fun _ hk => hk.2) (.slice Ao129 t161.length co129)) (fun _ hk => hk.2) (.slice Ao130 t164.length co130)) (fun _ h_ => h_.1))) hb); have n3_ := aM (Kd.R_below (by (with_reducible repeat (first | apply rA | apply rN | apply rD)); exact (Kd.R_mono (Kd.R_far (p := ⟨gb168, 2, none⟩) (Kd.R_far (p := ⟨gb168, 1, none⟩) (Kd.R_far (p := ⟨gb168, 0, none⟩) (Kd.R_types HO_127002.out BK168.out (by decide)) (fun _ hk => hk.2) (.int .i64 t160)) (fun _ hk => hk.2) (.slice Ao129 t161.length co129)) (fun _ hk => hk.2) (.slice Ao130 t164.length co130)) (fun _ h_ => h_.1))) hb); have n4_ := aM (Kd.R_below (by (with_reducible repeat (first | apply rA | apply rN | apply rD)); exact (Kd.R_mono (Kd.R_far (p := ⟨gb168, 2, none⟩) (Kd.R_far (p := ⟨gb168, 1, none⟩) (Kd.R_far (p := ⟨gb168, 0, none⟩) (Kd.R_types HO_136001.out BK168.out (by decide)) (fun _ hk => hk.2) (.int .i64 t160)) (fun _ hk => hk.2) (.slice Ao129 t161.length co129)) (fun _ hk => hk.2) (.slice Ao130 t164.length co130)) (fun _ h_ => h_.1))) hb); have n5_ := aM (Kd.R_below (by (with_reducible repeat (first | apply rA | apply rN | apply rD)); exact (Kd.R_mono (Kd.R_far (p := ⟨gb168, 2, none⟩) (Kd.R_far (p := ⟨gb168, 1, none⟩) (Kd.R_far (p := ⟨gb168, 0, none⟩) (Kd.R_types HO_136002.out BK168.out (by decide)) (fun _ hk => hk.2) (.int .i64 t160)) (fun _ hk => hk.2) (.slice Ao129 t161.length co129)) (fun _ hk => hk.2) (.slice Ao130 t164.length co130)) (fun _ h_ => h_.1))) hb); have n6_ := aM (Kd.R_below (by (with_reducible repeat (first | apply rA | apply rN | apply rD)); exact (Kd.R_mono (Kd.R_far (p := ⟨gb168, 2, none⟩) (Kd.R_far (p := ⟨gb168, 1, none⟩) (Kd.R_far (p := ⟨gb168, 0, none⟩) (Kd.R_types HO156.out BK168.out (by decide)) (fun _ hk => hk.2) (.int .i64 t160)) (fun _ hk => hk.2) (.slice Ao129 t161.length co129)) (fun _ hk => hk.2) (.slice Ao130 t164.length co130)) (fun _ h_ => h_.1))) hb); have n7_ := aM (Kd.R_below (by (with_reducible repeat (first | apply rA | apply rN | apply rD)); exact (Kd.R_mono (Kd.R_far (p := ⟨gb168, 2, none⟩) (Kd.R_far (p := ⟨gb168, 1, none⟩) (Kd.R_far (p := ⟨gb168, 0, none⟩) (Kd.R_types HO159.out BK168.out (by decide)) (fun _ hk => hk.2) (.int .i64 t160)) (fun _ hk => hk.2) (.slice Ao129 t161.length co129)) (fun _ hk => hk.2) (.slice Ao130 t164.length co130)) (fun _ h_ => h_.1))) hb); have n8_ := aM (Kd.R_below (by (with_reducible repeat (first | apply rA | apply rN | apply rD)); exact (Kd.R_mono (Kd.R_far (p := ⟨gb168, 2, none⟩) (Kd.R_far (p := ⟨gb168, 1, none⟩) (Kd.R_far (p := ⟨gb168, 0, none⟩) (Kd.R_types HO163.out BK168.out (by decide)) (fun _ hk => hk.2) (.int .i64 t160)) (fun _ hk => hk.2) (.slice Ao129 t161.length co129)) (fun _ hk => hk.2) (.slice Ao130 t164.length co130)) (fun _ h_ => h_.1))) hb); have n9_ := aM (Kd.R_below (by (with_reducible repeat (first | apply rA | apply rN | apply rD)); exact (Kd.R_mono (Kd.R_far (p := ⟨gb168, 2, none⟩) (Kd.R_far (p := ⟨gb168, 1, none⟩) (Kd.R_far (p := ⟨gb168, 0, none⟩) (Kd.R_types HO166.out BK168.out (by decide)) (fun _ hk => hk.2) (.int .i64 t160)) (fun _ hk => hk.2) (.slice Ao129 t161.length co129)) (fun _ hk => hk.2) (.slice Ao130 t164.length co130)) (fun _ h_ => h_.1))) hb); have n10_ := aM (blk_below (g := gb101) (o := .cells #[.int .i64 a0_0, .slice A0_1 l0_1.length c0_1, .slice A0_2 l0_2.length c0_2] 25 (0, 0)) (by (with_reducible repeat (first | refine bN ?_ _ | refine bD ?_ | refine bA ?_ _)); refine blk_far ?_ NB101_168.out _; (with_reducible repeat (first | refine bN ?_ _ | refine bD ?_ | refine bA ?_ _)); refine blk_far ?_ NB101_168.out _; (with_reducible repeat (first | refine bN ?_ _ | refine bD ?_ | refine bA ?_ _)); refine blk_far ?_ NB101_168.out _; (with_reducible repeat (first | refine bN ?_ _ | refine bD ?_ | refine bA ?_ _)); exact BK101.out) hb); have n11_ := aM (blk_below (g := gb118) (o := .cells #[.int .i64 t110, .slice Ao23 t111.length co23, .slice Ao24 t114.length co24] 30 (0, 0)) (by (with_reducible repeat (first | refine bN ?_ _ | refine bD ?_ | refine bA ?_ _)); refine blk_far ?_ NB118_168.out _; (with_reducible repeat (first | refine bN ?_ _ | refine bD ?_ | refine bA ?_ _)); refine blk_far ?_ NB118_168.out _; (with_reducible repeat (first | refine bN ?_ _ | refine bD ?_ | refine bA ?_ _)); refine blk_far ?_ NB118_168.out _; (with_reducible repeat (first | refine bN ?_ _ | refine bD ?_ | refine bA ?_ _)); exact BK118.out) hb); have n12_ := aM (blk_below (g := gb126) (o := .cells #[.int .i64 t119, .slice Ao31 t146.length co31, .slice Ao32 t147.length co32] 30 (0, 0)) (by (with_reducible repeat (first | refine bN ?_ _ | refine bD ?_ | refine bA ?_ _)); refine blk_far ?_ NB126_168.out _; (with_reducible repeat (first | refine bN ?_ _ | refine bD ?_ | refine bA ?_ _)); refine blk_far ?_ NB126_168.out _; (with_reducible repeat (first | refine bN ?_ _ | refine bD ?_ | refine bA ?_ _)); refine blk_far ?_ NB126_168.out _; (with_reducible repeat (first | refine bN ?_ _ | refine bD ?_ | refine bA ?_ _)); exact BK126.out) hb); have n13_ := aM (blk_below (g := gb135) (o := .cells #[.int .i64 t127, .slice Ao39 t128.length co39, .slice Ao40 t131.length co40] 30 (0, 0)) (by (with_reducible repeat (first | refine bN ?_ _ | refine bD ?_ | refine bA ?_ _)); refine blk_far ?_ NB135_168.out _; (with_reducible repeat (first | refine bN ?_ _ | refine bD ?_ | refine bA ?_ _)); refine blk_far ?_ NB135_168.out _; (with_reducible repeat (first | refine bN ?_ _ | refine bD ?_ | refine bA ?_ _)); refine blk_far ?_ NB135_168.out _; (with_reducible repeat (first | refine bN ?_ _ | refine bD ?_ | refine bA ?_ _)); exact BK135.out) hb); have n14_ := aM (blk_below (g := gb168) (o := .cells #[.int .i64 t160, .slice Ao129 t161.length co129, .slice Ao130 t164.length co130] 30 (0, 0)) (by (with_reducible repeat (first | refine bN ?_ _ | refine bD ?_ | refine bA ?_ _)); refine blk_put (cs := #[.int .i64 t160, .slice Ao129 t161.length co129, .slice none 0 0]) ?_ 2 _ rfl; (with_reducible repeat (first | refine bN ?_ _ | refine bD ?_ | refine bA ?_ _)); refine blk_put (cs := #[.int .i64 t160, .slice none 0 0, .slice none 0 0]) ?_ 1 _ rfl; (with_reducible repeat (first | refine bN ?_ _ | refine bD ?_ | refine bA ?_ _)); refine blk_put (cs := #[.int .i64 0, .slice none 0 0, .slice none 0 0]) ?_ 0 _ rfl; (with_reducible repeat (first | refine bN ?_ _ | refine bD ?_ | refine bA ?_ _)); exact BK168.out) hb); have n15_ := aM (below_step (by repeat (first | (with_reducible first | exact HB.out | apply below_alloc | apply pw_below_drewN | apply below_drew1 | refine below_set ?_ GE101.out | refine below_set ?_ GE118.out | refine below_set ?_ GE126.out | refine below_set ?_ GE135.out | refine below_set ?_ GE168.out) | exact HB.out)) hb); clear HO_119001; clear HO_119002; clear HO_127001; clear HO_127002; clear HO_136001; clear HO_136002; clear HO156; clear HO159; clear HO163; clear HO166; clear BK101; clear BK118; clear BK126; clear BK135; clear BK168; clear HB; have HO_119001 := n0_; have HO_119002 := n1_; have HO_127001 := n2_; have HO_127002 := n3_; have HO_136001 := n4_; have HO_136002 := n5_; have HO156 := n6_; have HO159 := n7_; have HO163 := n8_; have HO166 := n9_; have BK101 := n10_; have BK118 := n11_; have BK126 := n12_; have BK135 := n13_; have BK168 := n14_; have HB := n15_; clear n0_ n1_ n2_ n3_ n4_ n5_ n6_ n7_ n8_ n9_ n10_ n11_ n12_ n13_ n14_ n15_; (try clear hb); (try clear hb2); (try clear hk); (try clear hi)))
                          go_meet
                          case rel => exact ⟨_, ((t167 != t117)), (by first | rfl | (simp; done) | (simp [*]; done)), H', ⟨by have := HJ10.out; have := HJ63.out; first | omega | exact Nat.le_refl _⟩, ⟨by (try simp only [hl127001_63]); (try simp only [hl127002_63]); (with_reducible repeat (first | apply rA | apply rN | apply rD)); exact Kd.R_mono HO_119001.out (fun _ hk => ⟨hk.1.1.1, ⟨hk.1.1.2, hk.2⟩⟩)⟩, ⟨by (try simp only [hl127001_63]); (try simp only [hl127002_63]); (with_reducible repeat (first | apply rA | apply rN | apply rD)); exact Kd.R_mono HO_119002.out (fun _ hk => ⟨hk.1.1.1, ⟨hk.1.1.2, hk.2⟩⟩)⟩, ⟨by (try simp only [hl127001_63]); (try simp only [hl127002_63]); (with_reducible repeat (first | apply rA | apply rN | apply rD)); exact Kd.R_mono HO_127001.out (fun _ hk => ⟨hk.1.1.1, ⟨hk.1.1.2, hk.2⟩⟩)⟩, ⟨by (try simp only [hl127001_63]); (try simp only [hl127002_63]); (with_reducible repeat (first | apply rA | apply rN | apply rD)); exact Kd.R_mono HO_127002.out (fun _ hk => ⟨hk.1.1.1, ⟨hk.1.1.2, hk.2⟩⟩)⟩, ⟨by (try simp only [hl127001_63]); (try simp only [hl127002_63]); (with_reducible repeat (first | apply rA | apply rN | apply rD)); exact Kd.R_mono HO_136001.out (fun _ hk => ⟨hk.1.1.1, ⟨hk.1.1.2, hk.2⟩⟩)⟩, ⟨by (try simp only [hl127001_63]); (try simp only [hl127002_63]); (with_reducible repeat (first | apply rA | apply rN | apply rD)); exact Kd.R_mono HO_136002.out (fun _ hk => ⟨hk.1.1.1, ⟨hk.1.1.2, hk.2⟩⟩)⟩, ⟨by (try simp only [hl127001_63]); (try simp only [hl127002_63]); (with_reducible repeat (first | apply rA | apply rN | apply rD)); exact Kd.R_mono HO163.out (fun _ hk => ⟨hk.1.1.1.2, ⟨hk.1.1.2, hk.1.2⟩⟩)⟩, ⟨by (try simp only [hl127001_63]); (try simp only [hl127002_63]); (with_reducible repeat (first | apply rA | apply rN | apply rD)); exact Kd.R_mono HO166.out (fun _ hk => ⟨hk.1.1.1.2, ⟨hk.1.1.2, hk.1.2⟩⟩)⟩, ⟨by (try simp only [hl127001_63]); (try simp only [hl127002_63]); (with_reducible repeat (first | refine bN ?_ _ | refine bD ?_ | refine bA ?_ _)); exact BK101.out⟩, ⟨by (try simp only [hl127001_63]); (try simp only [hl127002_63]); (with_reducible repeat (first | refine bN ?_ _ | refine bD ?_ | refine bA ?_ _)); exact BK118.out⟩, ⟨by (try simp only [hl127001_63]); (try simp only [hl127002_63]); (with_reducible repeat (first | refine bN ?_ _ | refine bD ?_ | refine bA ?_ _)); exact BK126.out⟩, ⟨by (try simp only [hl127001_63]); (try simp only [hl127002_63]); (with_reducible repeat (first | refine bN ?_ _ | refine bD ?_ | refine bA ?_ _)); exact BK135.out⟩, ⟨by (try simp only [hl127001_63]); (try simp only [hl127002_63]); (with_reducible repeat (first | refine bN ?_ _ | refine bD ?_ | refine bA ?_ _)); exact BK168.out⟩, ⟨by repeat (first | (with_reducible first | exact HB.out | apply below_alloc | apply pw_below_drewN | apply below_drew1 | refine below_set ?_ GE101.out | refine below_set ?_ GE118.out | refine below_set ?_ GE126.out | refine below_set ?_ GE135.out | refine below_set ?_ GE168.out) | exact HB.out)⟩⟩
                        · replace c132 := Bool.eq_false_iff.mpr c132
                          subst c132
                          have H1 : (laws_FnExactMinorCollect.j2 kj63 t149 true t127 t150 t151) = some r := by rw [if_neg (show ¬ (false = true) by decide)] at H; exact H
                          clear H
                          have H := H1
                          clear H1
                          have H' := aM H
                          clear H
                          have hnb143 := NB168_101.out
                          have hnc143 := NB101_168.out
                          have hnb144 := NB168_118.out
                          have hnc144 := NB118_168.out
                          have hnb145 := NB168_126.out
                          have hnc145 := NB126_168.out
                          have hnb146 := NB168_135.out
                          have hnc146 := NB135_168.out
                          have hcz147_0 : w123.cell? ⟨gb168, 0, none⟩ = some (.int .i64 0) := (blk_cell BK168.out 0).trans rfl
                          have hcz147_1 : w123.cell? ⟨gb168, 1, none⟩ = some (.slice none 0 0) := (blk_cell BK168.out 1).trans rfl
                          have hcz147_2 : w123.cell? ⟨gb168, 2, none⟩ = some (.slice none 0 0) := (blk_cell BK168.out 2).trans rfl
                          have hfz147_0 := blk_frozen BK168.out 0
                          have hfz147_1 := blk_frozen BK168.out 1
                          have hfz147_2 := blk_frozen BK168.out 2
                          have hnb148 := NB118_101.out
                          have hnc148 := NB101_118.out
                          have hnb149 := NB118_126.out
                          have hnc149 := NB126_118.out
                          have hnb150 := NB118_135.out
                          have hnc150 := NB135_118.out
                          have hcz151_0 : w123.cell? ⟨gb118, 0, none⟩ = some (.int .i64 t110) := (blk_cell BK118.out 0).trans rfl
                          have hcz151_1 : w123.cell? ⟨gb118, 1, none⟩ = some (.slice Ao23 t111.length co23) := (blk_cell BK118.out 1).trans rfl
                          have hcz151_2 : w123.cell? ⟨gb118, 2, none⟩ = some (.slice Ao24 t114.length co24) := (blk_cell BK118.out 2).trans rfl
                          have hfz151_0 := blk_frozen BK118.out 0
                          have hfz151_1 := blk_frozen BK118.out 1
                          have hfz151_2 := blk_frozen BK118.out 2
                          go_wp2_with (first | ((with_reducible refine gate_callee (f := 11) rfl ?_); refine goesL_ (some 81) rfl rfl Try.func11 (by kernel_rfl) rfl #[.agg #[.int .i64 t160, .slice Ao129 t161.length co129, .slice Ao130 t164.length co130], .agg #[.int .i64 t110, .slice Ao23 t111.length co23, .slice Ao24 t114.length co24]] rfl (by (try simp only [List.map_toArray, List.map_cons, List.map_nil]); first | done | rfl | (simp only [List.length_drop, List.length_take]; rfl)) ?_; (with_reducible refine (laws_eqHeap.calls kj63 t160 _ _ t161 _ _ t164 t110 _ _ t111 _ _ t114 false _ ?side1 ?side2 ?side3 ?side4 ?side5 ?side6 ?side7 ?side8 A131.out).mono ?_); (case side1 => refine (Kd.R_reads' (e := 44) (base := w.heap.size) (ok := fun k_ => ((((True ∧ some k_ ≠ (.slice Ao23 t111.length co23 : Value).ownBlock) ∧ some k_ ≠ (.slice Ao31 t146.length co31 : Value).ownBlock) ∧ some k_ ≠ (.slice Ao39 t128.length co39 : Value).ownBlock) ∧ some k_ ≠ (.slice Ao120 t154.length co120 : Value).ownBlock)) (n := t161.length) (c := co129) ?_).2.2; exact (by (with_reducible repeat (first | apply rA | apply rN | apply rD)); exact (Kd.R_mono (Kd.R_far (p := ⟨gb168, 2, none⟩) (Kd.R_far (p := ⟨gb168, 1, none⟩) (Kd.R_far (p := ⟨gb168, 0, none⟩) (Kd.R_types HO163.out BK168.out (by decide)) (fun _ hk => hk.2) (.int .i64 t160)) (fun _ hk => hk.2) (.slice Ao129 t161.length co129)) (fun _ hk => hk.2) (.slice Ao130 t164.length co130)) (fun _ h_ => h_.1)))); (case side2 => exact (Kd.R_reads' HO163.out).2.1); (case side3 => refine (Kd.R_reads' (e := 3) (base := w.heap.size) (ok := fun k_ => ((((True ∧ some k_ ≠ (.slice Ao24 t114.length co24 : Value).ownBlock) ∧ some k_ ≠ (.slice Ao32 t147.length co32 : Value).ownBlock) ∧ some k_ ≠ (.slice Ao40 t131.length co40 : Value).ownBlock) ∧ some k_ ≠ (.slice Ao121 t157.length co121 : Value).ownBlock)) (n := t164.length) (c := co130) ?_).2.2; exact (by (with_reducible repeat (first | apply rA | apply rN | apply rD)); exact (Kd.R_mono (Kd.R_far (p := ⟨gb168, 2, none⟩) (Kd.R_far (p := ⟨gb168, 1, none⟩) (Kd.R_far (p := ⟨gb168, 0, none⟩) (Kd.R_types HO166.out BK168.out (by decide)) (fun _ hk => hk.2) (.int .i64 t160)) (fun _ hk => hk.2) (.slice Ao129 t161.length co129)) (fun _ hk => hk.2) (.slice Ao130 t164.length co130)) (fun _ h_ => h_.1)))); (case side4 => exact (Kd.R_reads' HO166.out).2.1); (case side5 => refine (Kd.R_reads' (e := 44) (base := w.heap.size) (ok := fun k_ => (((some k_ ≠ (.slice Ao31 t146.length co31 : Value).ownBlock ∧ some k_ ≠ (.slice Ao39 t128.length co39 : Value).ownBlock) ∧ some k_ ≠ (.slice Ao120 t154.length co120 : Value).ownBlock) ∧ some k_ ≠ (.slice Ao129 t161.length co129 : Value).ownBlock)) (n := t111.length) (c := co23) ?_).2.2; exact (by (with_reducible repeat (first | apply rA | apply rN | apply rD)); exact (Kd.R_mono (Kd.R_far (p := ⟨gb168, 2, none⟩) (Kd.R_far (p := ⟨gb168, 1, none⟩) (Kd.R_far (p := ⟨gb168, 0, none⟩) (Kd.R_types HO_119001.out BK168.out (by decide)) (fun _ hk => hk.2) (.int .i64 t160)) (fun _ hk => hk.2) (.slice Ao129 t161.length co129)) (fun _ hk => hk.2) (.slice Ao130 t164.length co130)) (fun _ h_ => h_.1)))); (case side6 => exact (Kd.R_reads' HO_119001.out).2.1); (case side7 => refine (Kd.R_reads' (e := 3) (base := w.heap.size) (ok := fun k_ => (((some k_ ≠ (.slice Ao32 t147.length co32 : Value).ownBlock ∧ some k_ ≠ (.slice Ao40 t131.length co40 : Value).ownBlock) ∧ some k_ ≠ (.slice Ao121 t157.length co121 : Value).ownBlock) ∧ some k_ ≠ (.slice Ao130 t164.length co130 : Value).ownBlock)) (n := t114.length) (c := co24) ?_).2.2; exact (by (with_reducible repeat (first | apply rA | apply rN | apply rD)); exact (Kd.R_mono (Kd.R_far (p := ⟨gb168, 2, none⟩) (Kd.R_far (p := ⟨gb168, 1, none⟩) (Kd.R_far (p := ⟨gb168, 0, none⟩) (Kd.R_types HO_119002.out BK168.out (by decide)) (fun _ hk => hk.2) (.int .i64 t160)) (fun _ hk => hk.2) (.slice Ao129 t161.length co129)) (fun _ hk => hk.2) (.slice Ao130 t164.length co130)) (fun _ h_ => h_.1)))); (case side8 => exact (Kd.R_reads' HO_119002.out).2.1); rintro e w152 ⟨rfl, hb⟩; refine ⟨_, rfl, ?_⟩; have n0_ := aM (Kd.R_below (by (with_reducible repeat (first | apply rA | apply rN | apply rD)); exact (Kd.R_mono (Kd.R_far (p := ⟨gb168, 2, none⟩) (Kd.R_far (p := ⟨gb168, 1, none⟩) (Kd.R_far (p := ⟨gb168, 0, none⟩) (Kd.R_types HO_119001.out BK168.out (by decide)) (fun _ hk => hk.2) (.int .i64 t160)) (fun _ hk => hk.2) (.slice Ao129 t161.length co129)) (fun _ hk => hk.2) (.slice Ao130 t164.length co130)) (fun _ h_ => h_.1))) hb); have n1_ := aM (Kd.R_below (by (with_reducible repeat (first | apply rA | apply rN | apply rD)); exact (Kd.R_mono (Kd.R_far (p := ⟨gb168, 2, none⟩) (Kd.R_far (p := ⟨gb168, 1, none⟩) (Kd.R_far (p := ⟨gb168, 0, none⟩) (Kd.R_types HO_119002.out BK168.out (by decide)) (fun _ hk => hk.2) (.int .i64 t160)) (fun _ hk => hk.2) (.slice Ao129 t161.length co129)) (fun _ hk => hk.2) (.slice Ao130 t164.length co130)) (fun _ h_ => h_.1))) hb); have n2_ := aM (Kd.R_below (by (with_reducible repeat (first | apply rA | apply rN | apply rD)); exact (Kd.R_mono (Kd.R_far (p := ⟨gb168, 2, none⟩) (Kd.R_far (p := ⟨gb168, 1, none⟩) (Kd.R_far (p := ⟨gb168, 0, none⟩) (Kd.R_types HO_127001.out BK168.out (by decide)) (fun _ hk => hk.2) (.int .i64 t160)) (fun _ hk => hk.2) (.slice Ao129 t161.length co129)) (fun _ hk => hk.2) (.slice Ao130 t164.length co130)) (fun _ h_ => h_.1))) hb); have n3_ := aM (Kd.R_below (by (with_reducible repeat (first | apply rA | apply rN | apply rD)); exact (Kd.R_mono (Kd.R_far (p := ⟨gb168, 2, none⟩) (Kd.R_far (p := ⟨gb168, 1, none⟩) (Kd.R_far (p := ⟨gb168, 0, none⟩) (Kd.R_types HO_127002.out BK168.out (by decide)) (fun _ hk => hk.2) (.int .i64 t160)) (fun _ hk => hk.2) (.slice Ao129 t161.length co129)) (fun _ hk => hk.2) (.slice Ao130 t164.length co130)) (fun _ h_ => h_.1))) hb); have n4_ := aM (Kd.R_below (by (with_reducible repeat (first | apply rA | apply rN | apply rD)); exact (Kd.R_mono (Kd.R_far (p := ⟨gb168, 2, none⟩) (Kd.R_far (p := ⟨gb168, 1, none⟩) (Kd.R_far (p := ⟨gb168, 0, none⟩) (Kd.R_types HO_136001.out BK168.out (by decide)) (fun _ hk => hk.2) (.int .i64 t160)) (fun _ hk => hk.2) (.slice Ao129 t161.length co129)) (fun _ hk => hk.2) (.slice Ao130 t164.length co130)) (fun _ h_ => h_.1))) hb); have n5_ := aM (Kd.R_below (by (with_reducible repeat (first | apply rA | apply rN | apply rD)); exact (Kd.R_mono (Kd.R_far (p := ⟨gb168, 2, none⟩) (Kd.R_far (p := ⟨gb168, 1, none⟩) (Kd.R_far (p := ⟨gb168, 0, none⟩) (Kd.R_types HO_136002.out BK168.out (by decide)) (fun _ hk => hk.2) (.int .i64 t160)) (fun _ hk => hk.2) (.slice Ao129 t161.length co129)) (fun _ hk => hk.2) (.slice Ao130 t164.length co130)) (fun _ h_ => h_.1))) hb); have n6_ := aM (Kd.R_below (by (with_reducible repeat (first | apply rA | apply rN | apply rD)); exact (Kd.R_mono (Kd.R_far (p := ⟨gb168, 2, none⟩) (Kd.R_far (p := ⟨gb168, 1, none⟩) (Kd.R_far (p := ⟨gb168, 0, none⟩) (Kd.R_types HO156.out BK168.out (by decide)) (fun _ hk => hk.2) (.int .i64 t160)) (fun _ hk => hk.2) (.slice Ao129 t161.length co129)) (fun _ hk => hk.2) (.slice Ao130 t164.length co130)) (fun _ h_ => h_.1))) hb); have n7_ := aM (Kd.R_below (by (with_reducible repeat (first | apply rA | apply rN | apply rD)); exact (Kd.R_mono (Kd.R_far (p := ⟨gb168, 2, none⟩) (Kd.R_far (p := ⟨gb168, 1, none⟩) (Kd.R_far (p := ⟨gb168, 0, none⟩) (Kd.R_types HO159.out BK168.out (by decide)) (fun _ hk => hk.2) (.int .i64 t160)) (fun _ hk => hk.2) (.slice Ao129 t161.length co129)) (fun _ hk => hk.2) (.slice Ao130 t164.length co130)) (fun _ h_ => h_.1))) hb); have n8_ := aM (Kd.R_below (by (with_reducible repeat (first | apply rA | apply rN | apply rD)); exact (Kd.R_mono (Kd.R_far (p := ⟨gb168, 2, none⟩) (Kd.R_far (p := ⟨gb168, 1, none⟩) (Kd.R_far (p := ⟨gb168, 0, none⟩) (Kd.R_types HO163.out BK168.out (by decide)) (fun _ hk => hk.2) (.int .i64 t160)) (fun _ hk => hk.2) (.slice Ao129 t161.length co129)) (fun _ hk => hk.2) (.slice Ao130 t164.length co130)) (fun _ h_ => h_.1))) hb); have n9_ := aM (Kd.R_below (by (with_reducible repeat (first | apply rA | apply rN | apply rD)); exact (Kd.R_mono (Kd.R_far (p := ⟨gb168, 2, none⟩) (Kd.R_far (p := ⟨gb168, 1, none⟩) (Kd.R_far (p := ⟨gb168, 0, none⟩) (Kd.R_types HO166.out BK168.out (by decide)) (fun _ hk => hk.2) (.int .i64 t160)) (fun _ hk => hk.2) (.slice Ao129 t161.length co129)) (fun _ hk => hk.2) (.slice Ao130 t164.length co130)) (fun _ h_ => h_.1))) hb); have n10_ := aM (blk_below (g := gb101) (o := .cells #[.int .i64 a0_0, .slice A0_1 l0_1.length c0_1, .slice A0_2 l0_2.length c0_2] 25 (0, 0)) (by (with_reducible repeat (first | refine bN ?_ _ | refine bD ?_ | refine bA ?_ _)); refine blk_far ?_ NB101_168.out _; (with_reducible repeat (first | refine bN ?_ _ | refine bD ?_ | refine bA ?_ _)); refine blk_far ?_ NB101_168.out _; (with_reducible repeat (first | refine bN ?_ _ | refine bD ?_ | refine bA ?_ _)); refine blk_far ?_ NB101_168.out _; (with_reducible repeat (first | refine bN ?_ _ | refine bD ?_ | refine bA ?_ _)); exact BK101.out) hb); have n11_ := aM (blk_below (g := gb118) (o := .cells #[.int .i64 t110, .slice Ao23 t111.length co23, .slice Ao24 t114.length co24] 30 (0, 0)) (by (with_reducible repeat (first | refine bN ?_ _ | refine bD ?_ | refine bA ?_ _)); refine blk_far ?_ NB118_168.out _; (with_reducible repeat (first | refine bN ?_ _ | refine bD ?_ | refine bA ?_ _)); refine blk_far ?_ NB118_168.out _; (with_reducible repeat (first | refine bN ?_ _ | refine bD ?_ | refine bA ?_ _)); refine blk_far ?_ NB118_168.out _; (with_reducible repeat (first | refine bN ?_ _ | refine bD ?_ | refine bA ?_ _)); exact BK118.out) hb); have n12_ := aM (blk_below (g := gb126) (o := .cells #[.int .i64 t119, .slice Ao31 t146.length co31, .slice Ao32 t147.length co32] 30 (0, 0)) (by (with_reducible repeat (first | refine bN ?_ _ | refine bD ?_ | refine bA ?_ _)); refine blk_far ?_ NB126_168.out _; (with_reducible repeat (first | refine bN ?_ _ | refine bD ?_ | refine bA ?_ _)); refine blk_far ?_ NB126_168.out _; (with_reducible repeat (first | refine bN ?_ _ | refine bD ?_ | refine bA ?_ _)); refine blk_far ?_ NB126_168.out _; (with_reducible repeat (first | refine bN ?_ _ | refine bD ?_ | refine bA ?_ _)); exact BK126.out) hb); have n13_ := aM (blk_below (g := gb135) (o := .cells #[.int .i64 t127, .slice Ao39 t128.length co39, .slice Ao40 t131.length co40] 30 (0, 0)) (by (with_reducible repeat (first | refine bN ?_ _ | refine bD ?_ | refine bA ?_ _)); refine blk_far ?_ NB135_168.out _; (with_reducible repeat (first | refine bN ?_ _ | refine bD ?_ | refine bA ?_ _)); refine blk_far ?_ NB135_168.out _; (with_reducible repeat (first | refine bN ?_ _ | refine bD ?_ | refine bA ?_ _)); refine blk_far ?_ NB135_168.out _; (with_reducible repeat (first | refine bN ?_ _ | refine bD ?_ | refine bA ?_ _)); exact BK135.out) hb); have n14_ := aM (blk_below (g := gb168) (o := .cells #[.int .i64 t160, .slice Ao129 t161.length co129, .slice Ao130 t164.length co130] 30 (0, 0)) (by (with_reducible repeat (first | refine bN ?_ _ | refine bD ?_ | refine bA ?_ _)); refine blk_put (cs := #[.int .i64 t160, .slice Ao129 t161.length co129, .slice none 0 0]) ?_ 2 _ rfl; (with_reducible repeat (first | refine bN ?_ _ | refine bD ?_ | refine bA ?_ _)); refine blk_put (cs := #[.int .i64 t160, .slice none 0 0, .slice none 0 0]) ?_ 1 _ rfl; (with_reducible repeat (first | refine bN ?_ _ | refine bD ?_ | refine bA ?_ _)); refine blk_put (cs := #[.int .i64 0, .slice none 0 0, .slice none 0 0]) ?_ 0 _ rfl; (with_reducible repeat (first | refine bN ?_ _ | refine bD ?_ | refine bA ?_ _)); exact BK168.out) hb); have n15_ := aM (below_step (by repeat (first | (with_reducible first | exact HB.out | apply below_alloc | apply pw_below_drewN | apply below_drew1 | refine below_set ?_ GE101.out | refine below_set ?_ GE118.out | refine below_set ?_ GE126.out | refine below_set ?_ GE135.out | refine below_set ?_ GE168.out) | exact HB.out)) hb); clear HO_119001; clear HO_119002; clear HO_127001; clear HO_127002; clear HO_136001; clear HO_136002; clear HO156; clear HO159; clear HO163; clear HO166; clear BK101; clear BK118; clear BK126; clear BK135; clear BK168; clear HB; have HO_119001 := n0_; have HO_119002 := n1_; have HO_127001 := n2_; have HO_127002 := n3_; have HO_136001 := n4_; have HO_136002 := n5_; have HO156 := n6_; have HO159 := n7_; have HO163 := n8_; have HO166 := n9_; have BK101 := n10_; have BK118 := n11_; have BK126 := n12_; have BK135 := n13_; have BK168 := n14_; have HB := n15_; clear n0_ n1_ n2_ n3_ n4_ n5_ n6_ n7_ n8_ n9_ n10_ n11_ n12_ n13_ n14_ n15_; (try clear hb); (try clear hb2); (try clear hk); (try clear hi)))
                          go_meet
                          case rel => exact ⟨_, (true), (by first | rfl | (simp; done) | (simp [*]; done)), H', ⟨by have := HJ10.out; have := HJ63.out; first | omega | exact Nat.le_refl _⟩, ⟨by (try simp only [hl127001_63]); (try simp only [hl127002_63]); (with_reducible repeat (first | apply rA | apply rN | apply rD)); exact Kd.R_mono HO_119001.out (fun _ hk => ⟨hk.1.1.1, ⟨hk.1.1.2, hk.2⟩⟩)⟩, ⟨by (try simp only [hl127001_63]); (try simp only [hl127002_63]); (with_reducible repeat (first | apply rA | apply rN | apply rD)); exact Kd.R_mono HO_119002.out (fun _ hk => ⟨hk.1.1.1, ⟨hk.1.1.2, hk.2⟩⟩)⟩, ⟨by (try simp only [hl127001_63]); (try simp only [hl127002_63]); (with_reducible repeat (first | apply rA | apply rN | apply rD)); exact Kd.R_mono HO_127001.out (fun _ hk => ⟨hk.1.1.1, ⟨hk.1.1.2, hk.2⟩⟩)⟩, ⟨by (try simp only [hl127001_63]); (try simp only [hl127002_63]); (with_reducible repeat (first | apply rA | apply rN | apply rD)); exact Kd.R_mono HO_127002.out (fun _ hk => ⟨hk.1.1.1, ⟨hk.1.1.2, hk.2⟩⟩)⟩, ⟨by (try simp only [hl127001_63]); (try simp only [hl127002_63]); (with_reducible repeat (first | apply rA | apply rN | apply rD)); exact Kd.R_mono HO_136001.out (fun _ hk => ⟨hk.1.1.1, ⟨hk.1.1.2, hk.2⟩⟩)⟩, ⟨by (try simp only [hl127001_63]); (try simp only [hl127002_63]); (with_reducible repeat (first | apply rA | apply rN | apply rD)); exact Kd.R_mono HO_136002.out (fun _ hk => ⟨hk.1.1.1, ⟨hk.1.1.2, hk.2⟩⟩)⟩, ⟨by (try simp only [hl127001_63]); (try simp only [hl127002_63]); (with_reducible repeat (first | apply rA | apply rN | apply rD)); exact Kd.R_mono HO163.out (fun _ hk => ⟨hk.1.1.1.2, ⟨hk.1.1.2, hk.1.2⟩⟩)⟩, ⟨by (try simp only [hl127001_63]); (try simp only [hl127002_63]); (with_reducible repeat (first | apply rA | apply rN | apply rD)); exact Kd.R_mono HO166.out (fun _ hk => ⟨hk.1.1.1.2, ⟨hk.1.1.2, hk.1.2⟩⟩)⟩, ⟨by (try simp only [hl127001_63]); (try simp only [hl127002_63]); (with_reducible repeat (first | refine bN ?_ _ | refine bD ?_ | refine bA ?_ _)); exact BK101.out⟩, ⟨by (try simp only [hl127001_63]); (try simp only [hl127002_63]); (with_reducible repeat (first | refine bN ?_ _ | refine bD ?_ | refine bA ?_ _)); exact BK118.out⟩, ⟨by (try simp only [hl127001_63]); (try simp only [hl127002_63]); (with_reducible repeat (first | refine bN ?_ _ | refine bD ?_ | refine bA ?_ _)); exact BK126.out⟩, ⟨by (try simp only [hl127001_63]); (try simp only [hl127002_63]); (with_reducible repeat (first | refine bN ?_ _ | refine bD ?_ | refine bA ?_ _)); exact BK135.out⟩, ⟨by (try simp only [hl127001_63]); (try simp only [hl127002_63]); (with_reducible repeat (first | refine bN ?_ _ | refine bD ?_ | refine bA ?_ _)); exact BK168.out⟩, ⟨by repeat (first | (with_reducible first | exact HB.out | apply below_alloc | apply pw_below_drewN | apply below_drew1 | refine below_set ?_ GE101.out | refine below_set ?_ GE118.out | refine below_set ?_ GE126.out | refine below_set ?_ GE135.out | refine below_set ?_ GE168.out) | exact HB.out)⟩⟩
                      case rest =>
                        clear HC108
                        try clear c1
                        try clear c2
                        try clear p2
                        try clear c3
                        try clear c3b0
                        try clear c4
                        try clear c5
                        try clear c6
                        try clear c7
                        try clear c8
                        try clear c9
                        try clear c10
                        try clear c11
                        try clear c12
                        try clear c13
                        try clear c14
                        try clear c15
                        try clear c20
                        try clear c21
                        try clear c22
                        try clear c28
                        try clear c29
                        try clear c35
                        try clear c36
                        try clear c37
                        try clear c42
                        try clear c43
                        try clear c44
                        try clear c45
                        try clear c47
                        try clear c48
                        try clear c51
                        try clear c52
                        try clear c53
                        try clear c55
                        try clear c56
                        try clear c59
                        try clear c62
                        try clear c70
                        try clear c71
                        try clear c72
                        try clear c75
                        try clear c75b0
                        try clear c77
                        try clear c78
                        try clear c79
                        try clear c80
                        try clear c82
                        try clear c83
                        try clear c86
                        try clear c87
                        try clear c88
                        try clear c90
                        try clear c91
                        try clear c94
                        try clear c97
                        try clear c97b0
                        try clear c98
                        try clear c99
                        try clear c100
                        try clear c105
                        try clear c105b0
                        try clear c105b1
                        try clear c109
                        try clear c110
                        try clear c111
                        try clear c116
                        try clear c117
                        try clear c124
                        try clear c125
                        try clear c126
                        try clear c127
                        try clear c132
                        try clear c133
                        try clear c134
                        try clear c135
                        try clear c136
                        try clear c138
                        try clear c139
                        try clear c140
                        try clear c143
                        try clear c144
                        try clear c145
                        try clear c146
                        try clear c148
                        try clear c149
                        try clear c150
                        try clear hcz101_0
                        try clear hcz101_1
                        try clear hcz101_2
                        try clear hcz103_0
                        try clear hcz103_1
                        try clear hcz103_2
                        try clear hcz112_0
                        try clear hcz112_1
                        try clear hcz112_2
                        try clear hcz114_0
                        try clear hcz114_1
                        try clear hcz114_2
                        try clear hcz118_0
                        try clear hcz118_1
                        try clear hcz118_2
                        try clear hcz128_0
                        try clear hcz128_1
                        try clear hcz128_2
                        try clear hcz137_0
                        try clear hcz137_1
                        try clear hcz137_2
                        try clear hcz13_0
                        try clear hcz13_1
                        try clear hcz13_2
                        try clear hcz141_0
                        try clear hcz141_1
                        try clear hcz141_2
                        try clear hcz147_0
                        try clear hcz147_1
                        try clear hcz147_2
                        try clear hcz151_0
                        try clear hcz151_1
                        try clear hcz151_2
                        try clear hcz15_0
                        try clear hcz15_1
                        try clear hcz15_2
                        try clear hcz22_0
                        try clear hcz22_1
                        try clear hcz22_2
                        try clear hcz25_0
                        try clear hcz25_1
                        try clear hcz25_2
                        try clear hcz30_0
                        try clear hcz30_1
                        try clear hcz30_2
                        try clear hcz38_0
                        try clear hcz38_1
                        try clear hcz38_2
                        try clear hcz46_0
                        try clear hcz46_1
                        try clear hcz46_2
                        try clear hcz49_0
                        try clear hcz49_1
                        try clear hcz49_2
                        try clear hcz54_0
                        try clear hcz54_1
                        try clear hcz54_2
                        try clear hcz57_0
                        try clear hcz57_1
                        try clear hcz57_2
                        try clear hcz5_0
                        try clear hcz5_1
                        try clear hcz5_2
                        try clear hcz73_0
                        try clear hcz73_1
                        try clear hcz73_2
                        try clear hcz81_0
                        try clear hcz81_1
                        try clear hcz81_2
                        try clear hcz84_0
                        try clear hcz84_1
                        try clear hcz84_2
                        try clear hcz89_0
                        try clear hcz89_1
                        try clear hcz89_2
                        try clear hcz92_0
                        try clear hcz92_1
                        try clear hcz92_2
                        try clear hfz101_0
                        try clear hfz101_1
                        try clear hfz101_2
                        try clear hfz103_0
                        try clear hfz103_1
                        try clear hfz103_2
                        try clear hfz112_0
                        try clear hfz112_1
                        try clear hfz112_2
                        try clear hfz114_0
                        try clear hfz114_1
                        try clear hfz114_2
                        try clear hfz118_0
                        try clear hfz118_1
                        try clear hfz118_2
                        try clear hfz128_0
                        try clear hfz128_1
                        try clear hfz128_2
                        try clear hfz137_0
                        try clear hfz137_1
                        try clear hfz137_2
                        try clear hfz13_0
                        try clear hfz13_1
                        try clear hfz13_2
                        try clear hfz141_0
                        try clear hfz141_1
                        try clear hfz141_2
                        try clear hfz147_0
                        try clear hfz147_1
                        try clear hfz147_2
                        try clear hfz151_0
                        try clear hfz151_1
                        try clear hfz151_2
                        try clear hfz15_0
                        try clear hfz15_1
                        try clear hfz15_2
                        try clear hfz22_0
                        try clear hfz22_1
                        try clear hfz22_2
                        try clear hfz25_0
                        try clear hfz25_1
                        try clear hfz25_2
                        try clear hfz30_0
                        try clear hfz30_1
                        try clear hfz30_2
                        try clear hfz38_0
                        try clear hfz38_1
                        try clear hfz38_2
                        try clear hfz46_0
                        try clear hfz46_1
                        try clear hfz46_2
                        try clear hfz49_0
                        try clear hfz49_1
                        try clear hfz49_2
                        try clear hfz54_0
                        try clear hfz54_1
                        try clear hfz54_2
                        try clear hfz57_0
                        try clear hfz57_1
                        try clear hfz57_2
                        try clear hfz5_0
                        try clear hfz5_1
                        try clear hfz5_2
                        try clear hfz73_0
                        try clear hfz73_1
                        try clear hfz73_2
                        try clear hfz81_0
                        try clear hfz81_1
                        try clear hfz81_2
                        try clear hfz84_0
                        try clear hfz84_1
                        try clear hfz84_2
                        try clear hfz89_0
                        try clear hfz89_1
                        try clear hfz89_2
                        try clear hfz92_0
                        try clear hfz92_1
                        try clear hfz92_2
                        try clear p2
                        obtain ⟨kq, x87_107, rfl, HA, HJ107, HO_119001, HO_119002, HO_127001, HO_127002, HO_136001, HO_136002, HO_169001, HO_169002, BK101, BK118, BK126, BK135, BK168, HB⟩ := hcut
                        have hl136001_107 := (Kd.R_reads' HO_136001.out).1
                        rw [hl136001_107] at HO_136001
                        (try simp only [hl136001_107])
                        (try simp only [hl136001_107] at BK101)
                        (try simp only [hl136001_107] at BK118)
                        (try simp only [hl136001_107] at BK126)
                        (try simp only [hl136001_107] at BK135)
                        (try simp only [hl136001_107] at BK168)
                        (try simp only [hl136001_107] at HO_119001)
                        (try simp only [hl136001_107] at HO_119002)
                        (try simp only [hl136001_107] at HO_127001)
                        (try simp only [hl136001_107] at HO_127002)
                        (try simp only [hl136001_107] at HO_136002)
                        (try simp only [hl136001_107] at HO_169001)
                        (try simp only [hl136001_107] at HO_169002)
                        have hl136002_107 := (Kd.R_reads' HO_136002.out).1
                        rw [hl136002_107] at HO_136002
                        (try simp only [hl136002_107])
                        (try simp only [hl136002_107] at BK101)
                        (try simp only [hl136002_107] at BK118)
                        (try simp only [hl136002_107] at BK126)
                        (try simp only [hl136002_107] at BK135)
                        (try simp only [hl136002_107] at BK168)
                        (try simp only [hl136002_107] at HO_119001)
                        (try simp only [hl136002_107] at HO_119002)
                        (try simp only [hl136002_107] at HO_127001)
                        (try simp only [hl136002_107] at HO_127002)
                        (try simp only [hl136002_107] at HO_136001)
                        (try simp only [hl136002_107] at HO_169001)
                        (try simp only [hl136002_107] at HO_169002)
                        cases kq with
                        | zero => exact absurd HA.out (by simp [laws_FnExactMinorCollect.j2])
                        | succ kj107 =>
                          have H := HA.out
                          clear HA
                          simp only [laws_FnExactMinorCollect.j2] at H
                          by_cases c153 : x87_107 = true
                          · subst c153
                            have H1 : (some false) = some r := by rw [if_pos rfl] at H; exact H
                            clear H
                            have H := H1
                            clear H1
                            obtain rfl := Option.some.inj H
                            go_wp2
                            go_ret
                            exact ⟨by first | rfl | (simp [errW_none, errW_some] <;> rfl) | (simp [*, errW_none, errW_some] <;> rfl), by repeat (first | (with_reducible first | exact HB.out | apply below_alloc | apply pw_below_drewN | apply below_drew1 | refine below_set ?_ GE101.out | refine below_set ?_ GE118.out | refine below_set ?_ GE126.out | refine below_set ?_ GE135.out | refine below_set ?_ GE168.out) | exact HB.out)⟩
                          · replace c153 := Bool.eq_false_iff.mpr c153
                            subst c153
                            have H1 : ((laws_heldHeap.f kj107 t127 t150 t151 1).bind fun t170 => (if t170 < 0 then (some false) else (if t170 = t149 then (some true) else (some false)))) = some r := by rw [if_neg (show ¬ (false = true) by decide)] at H; exact H
                            clear H
                            have H := H1
                            clear H1
                            replace H := Option.bind_eq_some_iff.mp H
                            obtain ⟨t170, A1540, H⟩ := H
                            replace H : (if t170 < 0 then (some false) else (if t170 = t149 then (some true) else (some false))) = some r := H
                            have A154 := aM A1540
                            clear A1540
                            by_cases c155 : t170 < 0
                            · rw [if_pos c155] at H
                              have c155b0 : decide (t170 < 0) = true := decide_eq_true c155
                              clear c155
                              obtain rfl := Option.some.inj H
                              have hnb156 := NB135_101.out
                              have hnc156 := NB101_135.out
                              have hnb157 := NB135_118.out
                              have hnc157 := NB118_135.out
                              have hnb158 := NB135_126.out
                              have hnc158 := NB126_135.out
                              have hnb159 := NB135_168.out
                              have hnc159 := NB168_135.out
                              have hcz160_0 : wc.cell? ⟨gb135, 0, none⟩ = some (.int .i64 t127) := (blk_cell BK135.out 0).trans rfl
                              have hcz160_1 : wc.cell? ⟨gb135, 1, none⟩ = some (.slice Ao39 t150.length co39) := (blk_cell BK135.out 1).trans rfl
                              have hcz160_2 : wc.cell? ⟨gb135, 2, none⟩ = some (.slice Ao40 t151.length co40) := (blk_cell BK135.out 2).trans rfl
                              have hfz160_0 := blk_frozen BK135.out 0
                              have hfz160_1 := blk_frozen BK135.out 1
                              have hfz160_2 := blk_frozen BK135.out 2
                              go_wp2_with (first | ((with_reducible refine gate_callee (f := 20) rfl ?_); refine goesL_ (some 90) rfl rfl Try.func20 (by kernel_rfl) rfl #[.agg #[.int .i64 t127, .slice Ao39 t150.length co39, .slice Ao40 t151.length co40], .int .i64 1] rfl (by (try simp only [List.map_toArray, List.map_cons, List.map_nil]); first | done | rfl | (simp only [List.length_drop, List.length_take]; rfl)) ?_; (with_reducible refine (laws_heldHeap.calls kj107 t127 _ _ t150 _ _ t151 1 t170 _ ?side1 ?side2 ?side3 ?side4 A154.out).mono ?_); (case side1 => repeat (first | exact (Kd.R_reads' HO_136001.out).2.2 | (with_reducible refine Kd.C_alloc ?_ _) | (with_reducible refine Kd.C_drewN ?_ _) | (with_reducible refine Kd.C_drew ?_))); (case side2 => exact (Kd.R_reads' HO_136001.out).2.1); (case side3 => repeat (first | exact (Kd.R_reads' HO_136002.out).2.2 | (with_reducible refine Kd.C_alloc ?_ _) | (with_reducible refine Kd.C_drewN ?_ _) | (with_reducible refine Kd.C_drew ?_))); (case side4 => exact (Kd.R_reads' HO_136002.out).2.1); rintro e w161 ⟨rfl, hb⟩; refine ⟨_, rfl, ?_⟩; have n0_ := aM (Kd.R_below (by (with_reducible repeat (first | apply rA | apply rN | apply rD)); exact HO_119001.out) hb); have n1_ := aM (Kd.R_below (by (with_reducible repeat (first | apply rA | apply rN | apply rD)); exact HO_119002.out) hb); have n2_ := aM (Kd.R_below (by (with_reducible repeat (first | apply rA | apply rN | apply rD)); exact HO_127001.out) hb); have n3_ := aM (Kd.R_below (by (with_reducible repeat (first | apply rA | apply rN | apply rD)); exact HO_127002.out) hb); have n4_ := aM (Kd.R_below (by (with_reducible repeat (first | apply rA | apply rN | apply rD)); exact HO_136001.out) hb); have n5_ := aM (Kd.R_below (by (with_reducible repeat (first | apply rA | apply rN | apply rD)); exact HO_136002.out) hb); have n6_ := aM (Kd.R_below (by (with_reducible repeat (first | apply rA | apply rN | apply rD)); exact HO_169001.out) hb); have n7_ := aM (Kd.R_below (by (with_reducible repeat (first | apply rA | apply rN | apply rD)); exact HO_169002.out) hb); have n8_ := aM (blk_below (g := gb101) (o := .cells #[.int .i64 a0_0, .slice A0_1 l0_1.length c0_1, .slice A0_2 l0_2.length c0_2] 25 (0, 0)) (by (with_reducible repeat (first | refine bN ?_ _ | refine bD ?_ | refine bA ?_ _)); exact BK101.out) hb); have n9_ := aM (blk_below (g := gb118) (o := .cells #[.int .i64 t110, .slice Ao23 t111.length co23, .slice Ao24 t114.length co24] 30 (0, 0)) (by (with_reducible repeat (first | refine bN ?_ _ | refine bD ?_ | refine bA ?_ _)); exact BK118.out) hb); have n10_ := aM (blk_below (g := gb126) (o := .cells #[.int .i64 t119, .slice Ao31 t146.length co31, .slice Ao32 t147.length co32] 30 (0, 0)) (by (with_reducible repeat (first | refine bN ?_ _ | refine bD ?_ | refine bA ?_ _)); exact BK126.out) hb); have n11_ := aM (blk_below (g := gb135) (o := .cells #[.int .i64 t127, .slice Ao39 t150.length co39, .slice Ao40 t151.length co40] 30 (0, 0)) (by (with_reducible repeat (first | refine bN ?_ _ | refine bD ?_ | refine bA ?_ _)); exact BK135.out) hb); have n12_ := aM (blk_below (g := gb168) (o := .cells #[.int .i64 t160, .slice Ao129 t161.length co129, .slice Ao130 t164.length co130] 30 (0, 0)) (by (with_reducible repeat (first | refine bN ?_ _ | refine bD ?_ | refine bA ?_ _)); exact BK168.out) hb); have n13_ := aM (below_step (by repeat (first | (with_reducible first | exact HB.out | apply below_alloc | apply pw_below_drewN | apply below_drew1 | refine below_set ?_ GE101.out | refine below_set ?_ GE118.out | refine below_set ?_ GE126.out | refine below_set ?_ GE135.out | refine below_set ?_ GE168.out) | exact HB.out)) hb); clear HO_119001; clear HO_119002; clear HO_127001; clear HO_127002; clear HO_136001; clear HO_136002; clear HO_169001; clear HO_169002; clear BK101; clear BK118; clear BK126; clear BK135; clear BK168; clear HB; have HO_119001 := n0_; have HO_119002 := n1_; have HO_127001 := n2_; have HO_127002 := n3_; have HO_136001 := n4_; have HO_136002 := n5_; have HO_169001 := n6_; have HO_169002 := n7_; have BK101 := n8_; have BK118 := n9_; have BK126 := n10_; have BK135 := n11_; have BK168 := n12_; have HB := n13_; clear n0_ n1_ n2_ n3_ n4_ n5_ n6_ n7_ n8_ n9_ n10_ n11_ n12_ n13_; (try clear hb); (try clear hb2); (try clear hk); (try clear hi)))
                              go_ret
                              exact ⟨by first | rfl | (simp [errW_none, errW_some] <;> rfl) | (simp [*, errW_none, errW_some] <;> rfl), by repeat (first | (with_reducible first | exact HB.out | apply below_alloc | apply pw_below_drewN | apply below_drew1 | refine below_set ?_ GE101.out | refine below_set ?_ GE118.out | refine below_set ?_ GE126.out | refine below_set ?_ GE135.out | refine below_set ?_ GE168.out) | exact HB.out)⟩
                            · rw [if_neg c155] at H
                              have c155b0 : decide (t170 < 0) = false := decide_eq_false c155
                              clear c155
                              by_cases c162 : t170 = t149
                              · rw [if_pos c162] at H
                                have c162b0 : (t170 == t149) = true := beq_iff_eq.mpr c162
                                have c162b1 : (t170 != t149) = false := bne_eq_false_iff_eq.mpr c162
                                clear c162
                                obtain rfl := Option.some.inj H
                                have hnb163 := NB135_101.out
                                have hnc163 := NB101_135.out
                                have hnb164 := NB135_118.out
                                have hnc164 := NB118_135.out
                                have hnb165 := NB135_126.out
                                have hnc165 := NB126_135.out
                                have hnb166 := NB135_168.out
                                have hnc166 := NB168_135.out
                                have hcz167_0 : wc.cell? ⟨gb135, 0, none⟩ = some (.int .i64 t127) := (blk_cell BK135.out 0).trans rfl
                                have hcz167_1 : wc.cell? ⟨gb135, 1, none⟩ = some (.slice Ao39 t150.length co39) := (blk_cell BK135.out 1).trans rfl
                                have hcz167_2 : wc.cell? ⟨gb135, 2, none⟩ = some (.slice Ao40 t151.length co40) := (blk_cell BK135.out 2).trans rfl
                                have hfz167_0 := blk_frozen BK135.out 0
                                have hfz167_1 := blk_frozen BK135.out 1
                                have hfz167_2 := blk_frozen BK135.out 2
                                go_wp2_with (first | ((with_reducible refine gate_callee (f := 20) rfl ?_); refine goesL_ (some 90) rfl rfl Try.func20 (by kernel_rfl) rfl #[.agg #[.int .i64 t127, .slice Ao39 t150.length co39, .slice Ao40 t151.length co40], .int .i64 1] rfl (by (try simp only [List.map_toArray, List.map_cons, List.map_nil]); first | done | rfl | (simp only [List.length_drop, List.length_take]; rfl)) ?_; (with_reducible refine (laws_heldHeap.calls kj107 t127 _ _ t150 _ _ t151 1 t170 _ ?side1 ?side2 ?side3 ?side4 A154.out).mono ?_); (case side1 => repeat (first | exact (Kd.R_reads' HO_136001.out).2.2 | (with_reducible refine Kd.C_alloc ?_ _) | (with_reducible refine Kd.C_drewN ?_ _) | (with_reducible refine Kd.C_drew ?_))); (case side2 => exact (Kd.R_reads' HO_136001.out).2.1); (case side3 => repeat (first | exact (Kd.R_reads' HO_136002.out).2.2 | (with_reducible refine Kd.C_alloc ?_ _) | (with_reducible refine Kd.C_drewN ?_ _) | (with_reducible refine Kd.C_drew ?_))); (case side4 => exact (Kd.R_reads' HO_136002.out).2.1); rintro e w168 ⟨rfl, hb⟩; refine ⟨_, rfl, ?_⟩; have n0_ := aM (Kd.R_below (by (with_reducible repeat (first | apply rA | apply rN | apply rD)); exact HO_119001.out) hb); have n1_ := aM (Kd.R_below (by (with_reducible repeat (first | apply rA | apply rN | apply rD)); exact HO_119002.out) hb); have n2_ := aM (Kd.R_below (by (with_reducible repeat (first | apply rA | apply rN | apply rD)); exact HO_127001.out) hb); have n3_ := aM (Kd.R_below (by (with_reducible repeat (first | apply rA | apply rN | apply rD)); exact HO_127002.out) hb); have n4_ := aM (Kd.R_below (by (with_reducible repeat (first | apply rA | apply rN | apply rD)); exact HO_136001.out) hb); have n5_ := aM (Kd.R_below (by (with_reducible repeat (first | apply rA | apply rN | apply rD)); exact HO_136002.out) hb); have n6_ := aM (Kd.R_below (by (with_reducible repeat (first | apply rA | apply rN | apply rD)); exact HO_169001.out) hb); have n7_ := aM (Kd.R_below (by (with_reducible repeat (first | apply rA | apply rN | apply rD)); exact HO_169002.out) hb); have n8_ := aM (blk_below (g := gb101) (o := .cells #[.int .i64 a0_0, .slice A0_1 l0_1.length c0_1, .slice A0_2 l0_2.length c0_2] 25 (0, 0)) (by (with_reducible repeat (first | refine bN ?_ _ | refine bD ?_ | refine bA ?_ _)); exact BK101.out) hb); have n9_ := aM (blk_below (g := gb118) (o := .cells #[.int .i64 t110, .slice Ao23 t111.length co23, .slice Ao24 t114.length co24] 30 (0, 0)) (by (with_reducible repeat (first | refine bN ?_ _ | refine bD ?_ | refine bA ?_ _)); exact BK118.out) hb); have n10_ := aM (blk_below (g := gb126) (o := .cells #[.int .i64 t119, .slice Ao31 t146.length co31, .slice Ao32 t147.length co32] 30 (0, 0)) (by (with_reducible repeat (first | refine bN ?_ _ | refine bD ?_ | refine bA ?_ _)); exact BK126.out) hb); have n11_ := aM (blk_below (g := gb135) (o := .cells #[.int .i64 t127, .slice Ao39 t150.length co39, .slice Ao40 t151.length co40] 30 (0, 0)) (by (with_reducible repeat (first | refine bN ?_ _ | refine bD ?_ | refine bA ?_ _)); exact BK135.out) hb); have n12_ := aM (blk_below (g := gb168) (o := .cells #[.int .i64 t160, .slice Ao129 t161.length co129, .slice Ao130 t164.length co130] 30 (0, 0)) (by (with_reducible repeat (first | refine bN ?_ _ | refine bD ?_ | refine bA ?_ _)); exact BK168.out) hb); have n13_ := aM (below_step (by repeat (first | (with_reducible first | exact HB.out | apply below_alloc | apply pw_below_drewN | apply below_drew1 | refine below_set ?_ GE101.out | refine below_set ?_ GE118.out | refine below_set ?_ GE126.out | refine below_set ?_ GE135.out | refine below_set ?_ GE168.out) | exact HB.out)) hb); clear HO_119001; clear HO_119002; clear HO_127001; clear HO_127002; clear HO_136001; clear HO_136002; clear HO_169001; clear HO_169002; clear BK101; clear BK118; clear BK126; clear BK135; clear BK168; clear HB; have HO_119001 := n0_; have HO_119002 := n1_; have HO_127001 := n2_; have HO_127002 := n3_; have HO_136001 := n4_; have HO_136002 := n5_; have HO_169001 := n6_; have HO_169002 := n7_; have BK101 := n8_; have BK118 := n9_; have BK126 := n10_; have BK135 := n11_; have BK168 := n12_; have HB := n13_; clear n0_ n1_ n2_ n3_ n4_ n5_ n6_ n7_ n8_ n9_ n10_ n11_ n12_ n13_; (try clear hb); (try clear hb2); (try clear hk); (try clear hi)))
                                go_ret
                                exact ⟨by first | rfl | (simp [errW_none, errW_some] <;> rfl) | (simp [*, errW_none, errW_some] <;> rfl), by repeat (first | (with_reducible first | exact HB.out | apply below_alloc | apply pw_below_drewN | apply below_drew1 | refine below_set ?_ GE101.out | refine below_set ?_ GE118.out | refine below_set ?_ GE126.out | refine below_set ?_ GE135.out | refine below_set ?_ GE168.out) | exact HB.out)⟩
                              · rw [if_neg c162] at H
                                have c162b0 : (t170 == t149) = false := beq_eq_false_iff_ne.mpr c162
                                have c162b1 : (t170 != t149) = true := bne_iff_ne.mpr c162
                                obtain rfl := Option.some.inj H
                                have hnb169 := NB135_101.out
                                have hnc169 := NB101_135.out
                                have hnb170 := NB135_118.out
                                have hnc170 := NB118_135.out
                                have hnb171 := NB135_126.out
                                have hnc171 := NB126_135.out
                                have hnb172 := NB135_168.out
                                have hnc172 := NB168_135.out
                                have hcz173_0 : wc.cell? ⟨gb135, 0, none⟩ = some (.int .i64 t127) := (blk_cell BK135.out 0).trans rfl
                                have hcz173_1 : wc.cell? ⟨gb135, 1, none⟩ = some (.slice Ao39 t150.length co39) := (blk_cell BK135.out 1).trans rfl
                                have hcz173_2 : wc.cell? ⟨gb135, 2, none⟩ = some (.slice Ao40 t151.length co40) := (blk_cell BK135.out 2).trans rfl
                                have hfz173_0 := blk_frozen BK135.out 0
                                have hfz173_1 := blk_frozen BK135.out 1
                                have hfz173_2 := blk_frozen BK135.out 2
                                go_wp2_with (first | ((with_reducible refine gate_callee (f := 20) rfl ?_); refine goesL_ (some 90) rfl rfl Try.func20 (by kernel_rfl) rfl #[.agg #[.int .i64 t127, .slice Ao39 t150.length co39, .slice Ao40 t151.length co40], .int .i64 1] rfl (by (try simp only [List.map_toArray, List.map_cons, List.map_nil]); first | done | rfl | (simp only [List.length_drop, List.length_take]; rfl)) ?_; (with_reducible refine (laws_heldHeap.calls kj107 t127 _ _ t150 _ _ t151 1 t170 _ ?side1 ?side2 ?side3 ?side4 A154.out).mono ?_); (case side1 => repeat (first | exact (Kd.R_reads' HO_136001.out).2.2 | (with_reducible refine Kd.C_alloc ?_ _) | (with_reducible refine Kd.C_drewN ?_ _) | (with_reducible refine Kd.C_drew ?_))); (case side2 => exact (Kd.R_reads' HO_136001.out).2.1); (case side3 => repeat (first | exact (Kd.R_reads' HO_136002.out).2.2 | (with_reducible refine Kd.C_alloc ?_ _) | (with_reducible refine Kd.C_drewN ?_ _) | (with_reducible refine Kd.C_drew ?_))); (case side4 => exact (Kd.R_reads' HO_136002.out).2.1); rintro e w174 ⟨rfl, hb⟩; refine ⟨_, rfl, ?_⟩; have n0_ := aM (Kd.R_below (by (with_reducible repeat (first | apply rA | apply rN | apply rD)); exact HO_119001.out) hb); have n1_ := aM (Kd.R_below (by (with_reducible repeat (first | apply rA | apply rN | apply rD)); exact HO_119002.out) hb); have n2_ := aM (Kd.R_below (by (with_reducible repeat (first | apply rA | apply rN | apply rD)); exact HO_127001.out) hb); have n3_ := aM (Kd.R_below (by (with_reducible repeat (first | apply rA | apply rN | apply rD)); exact HO_127002.out) hb); have n4_ := aM (Kd.R_below (by (with_reducible repeat (first | apply rA | apply rN | apply rD)); exact HO_136001.out) hb); have n5_ := aM (Kd.R_below (by (with_reducible repeat (first | apply rA | apply rN | apply rD)); exact HO_136002.out) hb); have n6_ := aM (Kd.R_below (by (with_reducible repeat (first | apply rA | apply rN | apply rD)); exact HO_169001.out) hb); have n7_ := aM (Kd.R_below (by (with_reducible repeat (first | apply rA | apply rN | apply rD)); exact HO_169002.out) hb); have n8_ := aM (blk_below (g := gb101) (o := .cells #[.int .i64 a0_0, .slice A0_1 l0_1.length c0_1, .slice A0_2 l0_2.length c0_2] 25 (0, 0)) (by (with_reducible repeat (first | refine bN ?_ _ | refine bD ?_ | refine bA ?_ _)); exact BK101.out) hb); have n9_ := aM (blk_below (g := gb118) (o := .cells #[.int .i64 t110, .slice Ao23 t111.length co23, .slice Ao24 t114.length co24] 30 (0, 0)) (by (with_reducible repeat (first | refine bN ?_ _ | refine bD ?_ | refine bA ?_ _)); exact BK118.out) hb); have n10_ := aM (blk_below (g := gb126) (o := .cells #[.int .i64 t119, .slice Ao31 t146.length co31, .slice Ao32 t147.length co32] 30 (0, 0)) (by (with_reducible repeat (first | refine bN ?_ _ | refine bD ?_ | refine bA ?_ _)); exact BK126.out) hb); have n11_ := aM (blk_below (g := gb135) (o := .cells #[.int .i64 t127, .slice Ao39 t150.length co39, .slice Ao40 t151.length co40] 30 (0, 0)) (by (with_reducible repeat (first | refine bN ?_ _ | refine bD ?_ | refine bA ?_ _)); exact BK135.out) hb); have n12_ := aM (blk_below (g := gb168) (o := .cells #[.int .i64 t160, .slice Ao129 t161.length co129, .slice Ao130 t164.length co130] 30 (0, 0)) (by (with_reducible repeat (first | refine bN ?_ _ | refine bD ?_ | refine bA ?_ _)); exact BK168.out) hb); have n13_ := aM (below_step (by repeat (first | (with_reducible first | exact HB.out | apply below_alloc | apply pw_below_drewN | apply below_drew1 | refine below_set ?_ GE101.out | refine below_set ?_ GE118.out | refine below_set ?_ GE126.out | refine below_set ?_ GE135.out | refine below_set ?_ GE168.out) | exact HB.out)) hb); clear HO_119001; clear HO_119002; clear HO_127001; clear HO_127002; clear HO_136001; clear HO_136002; clear HO_169001; clear HO_169002; clear BK101; clear BK118; clear BK126; clear BK135; clear BK168; clear HB; have HO_119001 := n0_; have HO_119002 := n1_; have HO_127001 := n2_; have HO_127002 := n3_; have HO_136001 := n4_; have HO_136002 := n5_; have HO_169001 := n6_; have HO_169002 := n7_; have BK101 := n8_; have BK118 := n9_; have BK126 := n10_; have BK135 := n11_; have BK168 := n12_; have HB := n13_; clear n0_ n1_ n2_ n3_ n4_ n5_ n6_ n7_ n8_ n9_ n10_ n11_ n12_ n13_; (try clear hb); (try clear hb2); (try clear hk); (try clear hi)))
                                go_ret
                                exact ⟨by first | rfl | (simp [errW_none, errW_some] <;> rfl) | (simp [*, errW_none, errW_some] <;> rfl), by repeat (first | (with_reducible first | exact HB.out | apply below_alloc | apply pw_below_drewN | apply below_drew1 | refine below_set ?_ GE101.out | refine below_set ?_ GE118.out | refine below_set ?_ GE126.out | refine below_set ?_ GE135.out | refine below_set ?_ GE168.out) | exact HB.out)⟩
                    · rw [if_neg c105] at H
                      have c105b0 : (t152 == t149) = false := beq_eq_false_iff_ne.mpr c105
                      have c105b1 : (t152 != t149) = true := bne_iff_ne.mpr c105
                      obtain rfl := Option.some.inj H
                      have hnb175 := NB135_101.out
                      have hnc175 := NB101_135.out
                      have hnb176 := NB135_118.out
                      have hnc176 := NB118_135.out
                      have hnb177 := NB135_126.out
                      have hnc177 := NB126_135.out
                      have hcz178_0 : wc.cell? ⟨gb135, 0, none⟩ = some (.int .i64 t127) := (blk_cell BK135.out 0).trans rfl
                      have hcz178_1 : wc.cell? ⟨gb135, 1, none⟩ = some (.slice Ao39 t128.length co39) := (blk_cell BK135.out 1).trans rfl
                      have hcz178_2 : wc.cell? ⟨gb135, 2, none⟩ = some (.slice Ao40 t131.length co40) := (blk_cell BK135.out 2).trans rfl
                      have hfz178_0 := blk_frozen BK135.out 0
                      have hfz178_1 := blk_frozen BK135.out 1
                      have hfz178_2 := blk_frozen BK135.out 2
                      go_wp2_with (first | ((with_reducible refine gate_callee (f := 15) rfl ?_); refine goesL_ (some 64) rfl rfl Try.func15 (by kernel_rfl) rfl #[.agg #[.int .i64 t127, .slice Ao39 t128.length co39, .slice Ao40 t131.length co40], .int .i64 1] rfl (by (try simp only [List.map_toArray, List.map_cons, List.map_nil]); first | done | rfl | (simp only [List.length_drop, List.length_take]; rfl)) ?_; (with_reducible refine (laws_markHeap.calls kj63 t127 (fun k_ => some k_ = (.slice Ao39 t128.length co39 : Value).ownBlock) (.slice Ao39 t128.length co39) t128 (fun k_ => some k_ = (.slice Ao40 t131.length co40 : Value).ownBlock) (.slice Ao40 t131.length co40) t131 1 t149 t150 t151 w _ ?side1 ?side2 ?side3 A95.out).mono ?_); (case side1 => repeat (first | (with_reducible first | exact HB.out | apply below_alloc | apply pw_below_drewN | apply below_drew1 | refine below_set ?_ GE101.out | refine below_set ?_ GE118.out | refine below_set ?_ GE126.out | refine below_set ?_ GE135.out) | exact HB.out)); (case side2 => exact Kd.R_tight rfl HO_136001.out); (case side3 => exact Kd.R_tight rfl HO_136002.out); rintro e w179 ⟨rfl, hy0, hy1, hb, hkp⟩; refine ⟨_, rfl, ?_⟩; have n0_ := aM (Kd.R_mono (ok' := fun k_ => some k_ ≠ (.slice Ao31 t146.length co31 : Value).ownBlock ∧ some k_ ≠ (.slice Ao39 t128.length co39 : Value).ownBlock) (Kd.R_keptB ((Kd.R_apart' HO_119001.out (Kd.R_typed HO_136002.out) (by decide))) hkp (fun k_ hk_ hs_ => Or.elim hs_ (fun e_ => (hk_.1.2) e_) (fun e_ => (hk_.2) e_))) (fun k_ hk_ => ⟨hk_.1.1.1, hk_.1.1.2⟩)); have n1_ := aM (Kd.R_mono (ok' := fun k_ => some k_ ≠ (.slice Ao32 t147.length co32 : Value).ownBlock ∧ some k_ ≠ (.slice Ao40 t131.length co40 : Value).ownBlock) (Kd.R_keptB ((Kd.R_apart' HO_119002.out (Kd.R_typed HO_136001.out) (by decide))) hkp (fun k_ hk_ hs_ => Or.elim hs_ (fun e_ => (hk_.2) e_) (fun e_ => (hk_.1.2) e_))) (fun k_ hk_ => ⟨hk_.1.1.1, hk_.1.1.2⟩)); have n2_ := aM (Kd.R_mono (ok' := fun k_ => some k_ ≠ (.slice Ao23 t111.length co23 : Value).ownBlock ∧ some k_ ≠ (.slice Ao39 t128.length co39 : Value).ownBlock) (Kd.R_keptB ((Kd.R_apart' HO_127001.out (Kd.R_typed HO_136002.out) (by decide))) hkp (fun k_ hk_ hs_ => Or.elim hs_ (fun e_ => (hk_.1.2) e_) (fun e_ => (hk_.2) e_))) (fun k_ hk_ => ⟨hk_.1.1.1, hk_.1.1.2⟩)); have n3_ := aM (Kd.R_mono (ok' := fun k_ => some k_ ≠ (.slice Ao24 t114.length co24 : Value).ownBlock ∧ some k_ ≠ (.slice Ao40 t131.length co40 : Value).ownBlock) (Kd.R_keptB ((Kd.R_apart' HO_127002.out (Kd.R_typed HO_136001.out) (by decide))) hkp (fun k_ hk_ hs_ => Or.elim hs_ (fun e_ => (hk_.2) e_) (fun e_ => (hk_.1.2) e_))) (fun k_ hk_ => ⟨hk_.1.1.1, hk_.1.1.2⟩)); have n4_ := aM (Kd.R_reok rfl hy0 (fun k_ e_ => HO_136001.out.1 k_ e_)); have n5_ := aM (Kd.R_reok rfl hy1 (fun k_ e_ => HO_136002.out.1 k_ e_)); have n6_ := aM (blk_kept (by (with_reducible repeat (first | refine bN ?_ _ | refine bD ?_ | refine bA ?_ _)); exact BK101.out) hkp (fun hs_ => Or.elim hs_ (fun e_ => (fun e_ => (Kd.R_ne HO_136001.out BK101.out (by decide)) e_) e_) (fun e_ => (fun e_ => (Kd.R_ne HO_136002.out BK101.out (by decide)) e_) e_))); have n7_ := aM (blk_kept (by (with_reducible repeat (first | refine bN ?_ _ | refine bD ?_ | refine bA ?_ _)); exact BK118.out) hkp (fun hs_ => Or.elim hs_ (fun e_ => (fun e_ => (Kd.R_ne HO_136001.out BK118.out (by decide)) e_) e_) (fun e_ => (fun e_ => (Kd.R_ne HO_136002.out BK118.out (by decide)) e_) e_))); have n8_ := aM (blk_kept (by (with_reducible repeat (first | refine bN ?_ _ | refine bD ?_ | refine bA ?_ _)); exact BK126.out) hkp (fun hs_ => Or.elim hs_ (fun e_ => (fun e_ => (Kd.R_ne HO_136001.out BK126.out (by decide)) e_) e_) (fun e_ => (fun e_ => (Kd.R_ne HO_136002.out BK126.out (by decide)) e_) e_))); have n9_ := aM (blk_kept (by (with_reducible repeat (first | refine bN ?_ _ | refine bD ?_ | refine bA ?_ _)); exact BK135.out) hkp (fun hs_ => Or.elim hs_ (fun e_ => (fun e_ => (Kd.R_ne HO_136001.out BK135.out (by decide)) e_) e_) (fun e_ => (fun e_ => (Kd.R_ne HO_136002.out BK135.out (by decide)) e_) e_))); have n10_ := aM (hb); clear HO_119001; clear HO_119002; clear HO_127001; clear HO_127002; clear HO_136001; clear HO_136002; clear BK101; clear BK118; clear BK126; clear BK135; clear HB; have HO_119001 := n0_; have HO_119002 := n1_; have HO_127001 := n2_; have HO_127002 := n3_; have HO_136001 := n4_; have HO_136002 := n5_; have BK101 := n6_; have BK118 := n7_; have BK126 := n8_; have BK135 := n9_; have HB := n10_; clear n0_ n1_ n2_ n3_ n4_ n5_ n6_ n7_ n8_ n9_ n10_; (try clear hb); (try clear hkp); (try clear hy0); (try clear hy1); have hcz180_0 : w179.cell? ⟨gb135, 0, none⟩ = some (.int .i64 t127) := (blk_cell BK135.out 0).trans rfl; have hcz180_1 : w179.cell? ⟨gb135, 1, none⟩ = some (.slice Ao39 t128.length co39) := (blk_cell BK135.out 1).trans rfl; have hcz180_2 : w179.cell? ⟨gb135, 2, none⟩ = some (.slice Ao40 t131.length co40) := (blk_cell BK135.out 2).trans rfl; have hfz180_0 := blk_frozen BK135.out 0; have hfz180_1 := blk_frozen BK135.out 1; have hfz180_2 := blk_frozen BK135.out 2) | ((with_reducible refine gate_callee (f := 20) rfl ?_); refine goesL_ (some 67) rfl rfl Try.func20 (by kernel_rfl) rfl #[.agg #[.int .i64 t127, .slice Ao39 t150.length co39, .slice Ao40 t151.length co40], .int .i64 1] rfl (by (try simp only [List.map_toArray, List.map_cons, List.map_nil]); first | done | (rw [show t150.length = t128.length from (Kd.R_reads' HO_136001.out).1.symm, show t151.length = t131.length from (Kd.R_reads' HO_136002.out).1.symm] <;> rfl) | rfl | (simp only [List.length_drop, List.length_take]; rfl)) ?_; (with_reducible refine (laws_heldHeap.calls kj63 t127 _ _ t150 _ _ t151 1 t152 _ ?side1 ?side2 ?side3 ?side4 A96.out).mono ?_); (case side1 => repeat (first | exact (Kd.R_reads' HO_136001.out).2.2 | (with_reducible refine Kd.C_alloc ?_ _) | (with_reducible refine Kd.C_drewN ?_ _) | (with_reducible refine Kd.C_drew ?_))); (case side2 => rw [show t150.length = t128.length from (Kd.R_reads' HO_136001.out).1.symm]; exact (Kd.R_reads' HO_136001.out).2.1); (case side3 => repeat (first | exact (Kd.R_reads' HO_136002.out).2.2 | (with_reducible refine Kd.C_alloc ?_ _) | (with_reducible refine Kd.C_drewN ?_ _) | (with_reducible refine Kd.C_drew ?_))); (case side4 => rw [show t151.length = t131.length from (Kd.R_reads' HO_136002.out).1.symm]; exact (Kd.R_reads' HO_136002.out).2.1); rintro e w181 ⟨rfl, hb⟩; refine ⟨_, rfl, ?_⟩; have n0_ := aM (Kd.R_below (by (with_reducible repeat (first | apply rA | apply rN | apply rD)); exact HO_119001.out) hb); have n1_ := aM (Kd.R_below (by (with_reducible repeat (first | apply rA | apply rN | apply rD)); exact HO_119002.out) hb); have n2_ := aM (Kd.R_below (by (with_reducible repeat (first | apply rA | apply rN | apply rD)); exact HO_127001.out) hb); have n3_ := aM (Kd.R_below (by (with_reducible repeat (first | apply rA | apply rN | apply rD)); exact HO_127002.out) hb); have n4_ := aM (Kd.R_below (by (with_reducible repeat (first | apply rA | apply rN | apply rD)); exact HO_136001.out) hb); have n5_ := aM (Kd.R_below (by (with_reducible repeat (first | apply rA | apply rN | apply rD)); exact HO_136002.out) hb); have n6_ := aM (blk_below (g := gb101) (o := .cells #[.int .i64 a0_0, .slice A0_1 l0_1.length c0_1, .slice A0_2 l0_2.length c0_2] 25 (0, 0)) (by (with_reducible repeat (first | refine bN ?_ _ | refine bD ?_ | refine bA ?_ _)); exact BK101.out) hb); have n7_ := aM (blk_below (g := gb118) (o := .cells #[.int .i64 t110, .slice Ao23 t111.length co23, .slice Ao24 t114.length co24] 30 (0, 0)) (by (with_reducible repeat (first | refine bN ?_ _ | refine bD ?_ | refine bA ?_ _)); exact BK118.out) hb); have n8_ := aM (blk_below (g := gb126) (o := .cells #[.int .i64 t119, .slice Ao31 t146.length co31, .slice Ao32 t147.length co32] 30 (0, 0)) (by (with_reducible repeat (first | refine bN ?_ _ | refine bD ?_ | refine bA ?_ _)); exact BK126.out) hb); have n9_ := aM (blk_below (g := gb135) (o := .cells #[.int .i64 t127, .slice Ao39 t128.length co39, .slice Ao40 t131.length co40] 30 (0, 0)) (by (with_reducible repeat (first | refine bN ?_ _ | refine bD ?_ | refine bA ?_ _)); exact BK135.out) hb); have n10_ := aM (below_step (by repeat (first | (with_reducible first | exact HB.out | apply below_alloc | apply pw_below_drewN | apply below_drew1 | refine below_set ?_ GE101.out | refine below_set ?_ GE118.out | refine below_set ?_ GE126.out | refine below_set ?_ GE135.out) | exact HB.out)) hb); clear HO_119001; clear HO_119002; clear HO_127001; clear HO_127002; clear HO_136001; clear HO_136002; clear BK101; clear BK118; clear BK126; clear BK135; clear HB; have HO_119001 := n0_; have HO_119002 := n1_; have HO_127001 := n2_; have HO_127002 := n3_; have HO_136001 := n4_; have HO_136002 := n5_; have BK101 := n6_; have BK118 := n7_; have BK126 := n8_; have BK135 := n9_; have HB := n10_; clear n0_ n1_ n2_ n3_ n4_ n5_ n6_ n7_ n8_ n9_ n10_; (try clear hb); (try clear hb2); (try clear hk); (try clear hi)))
                      go_ret
                      exact ⟨by first | rfl | (simp [errW_none, errW_some] <;> rfl) | (simp [*, errW_none, errW_some] <;> rfl), by repeat (first | (with_reducible first | exact HB.out | apply below_alloc | apply pw_below_drewN | apply below_drew1 | refine below_set ?_ GE101.out | refine below_set ?_ GE118.out | refine below_set ?_ GE126.out | refine below_set ?_ GE135.out) | exact HB.out)⟩
          · replace c62 := Bool.eq_false_iff.mpr c62
            subst c62
            have H1 : (some false) = some r := by rw [if_neg (show ¬ (false = true) by decide)] at H; exact H
            clear H
            have H := H1
            clear H1
            obtain rfl := Option.some.inj H
            try go_wp2
            have n0_ := aM (Kd.R_drew HO_119001.out)
            have n1_ := aM (Kd.R_drew HO_119002.out)
            have n2_ := aM (Kd.R_drew HO_127001.out)
            have n3_ := aM (Kd.R_drew HO_127002.out)
            have n4_ := aM (Kd.R_drew HO_136001.out)
            have n5_ := aM (Kd.R_drew HO_136002.out)
            have n6_ := aM (blk_drew BK101.out)
            have n7_ := aM (blk_drew BK118.out)
            have n8_ := aM (blk_drew BK126.out)
            have n9_ := aM (blk_drew BK135.out)
            have n10_ := aM (below_drew1 HB.out)
            clear HO_119001
            clear HO_119002
            clear HO_127001
            clear HO_127002
            clear HO_136001
            clear HO_136002
            clear BK101
            clear BK118
            clear BK126
            clear BK135
            clear HB
            have HO_119001 := n0_
            have HO_119002 := n1_
            have HO_127001 := n2_
            have HO_127002 := n3_
            have HO_136001 := n4_
            have HO_136002 := n5_
            have BK101 := n6_
            have BK118 := n7_
            have BK126 := n8_
            have BK135 := n9_
            have HB := n10_
            clear n0_ n1_ n2_ n3_ n4_ n5_ n6_ n7_ n8_ n9_ n10_
            refine start_ (n := 5) (S := fun w' => w'.cell? ⟨gb126, 0, none⟩ = some (.int .i64 t119) ∧ w'.cell? ⟨gb126, 1, none⟩ = some (.slice Ao31 t120.length co31) ∧ w'.cell? ⟨gb126, 2, none⟩ = some (.slice Ao32 t123.length co32) ∧ w'.cell? ⟨gb101, 0, none⟩ = some (.int .i64 a0_0) ∧ w'.cell? ⟨gb101, 1, none⟩ = some (.slice A0_1 l0_1.length c0_1) ∧ w'.cell? ⟨gb101, 2, none⟩ = some (.slice A0_2 l0_2.length c0_2)) (ds := []) #[false, false, false, false, false] (by kernel_rfl) rfl rfl ⟨(blk_cell BK126.out 0).trans rfl, (blk_cell BK126.out 1).trans rfl, (blk_cell BK126.out 2).trans rfl, (blk_cell BK101.out 0).trans rfl, (blk_cell BK101.out 1).trans rfl, (blk_cell BK101.out 2).trans rfl⟩ (fun hHeld => ?_)
            generalize wc.drew = w182 at HO_119001 HO_119002 HO_127001 HO_127002 HO_136001 HO_136002 BK101 BK118 BK126 BK135 HB hHeld ⊢
            refine take_ (i := 0) (N := some 41) (v := ?_) (a' := ?_) #[true, false, false, false, false] rfl rfl (by kernel_rfl) (fun _ _ _ h => h) (Or.inl ⟨by rfl, ?_⟩) hHeld ?_ ?_
            rotate_left
            · rintro w' ⟨s0, s1, s2, s3, s4, s5⟩
              go_simp
              with_reducible rfl
            rotate_left
            · simp only [Act.put, List.setIfInBounds_toArray, List.set_cons_zero, List.set_cons_succ, i64_w, i32_w]
              rfl
            refine take_ (i := 1) (N := some 42) (v := ?_) (a' := ?_) #[true, true, false, false, false] rfl rfl (by kernel_rfl) (fun _ _ _ h => h) (Or.inl ⟨by rfl, ?_⟩) hHeld ?_ ?_
            rotate_left
            · rintro w' ⟨s0, s1, s2, s3, s4, s5⟩
              go_simp
              with_reducible rfl
            rotate_left
            · simp only [Act.put, List.setIfInBounds_toArray, List.set_cons_zero, List.set_cons_succ, i64_w, i32_w]
              rfl
            refine one_ (i := 2) (N := some 43) #[true, true, true, false, false] rfl rfl (by kernel_rfl) (by decide) (fun K hK => ?_)
            refine goes_ Try.func9 (by kernel_rfl) rfl #[.agg #[.int .i64 a0_0, .slice A0_1 l0_1.length c0_1, .slice A0_2 l0_2.length c0_2]] (by rfl) rfl rfl (by (try simp only [List.map_toArray, List.map_cons, List.map_nil]); first | done | rfl | (simp only [List.length_drop, List.length_take]; rfl)) ?_
            with_reducible refine (laws_toHeap.calls kj10 a0_0 _ _ l0_1 _ _ l0_2 t137 t138 t141 _ ?side1 ?side2 ?side3 ?side4 A60.out).mono ?_
            (case side1 => repeat (first | exact (Kd.C_below HR0_1.out HB.out) | (with_reducible refine Kd.C_alloc ?_ _) | (with_reducible refine Kd.C_drewN ?_ _) | (with_reducible refine Kd.C_drew ?_)))
            (case side2 => exact HC0_1.out)
            (case side3 => repeat (first | exact (Kd.C_below HR0_2.out HB.out) | (with_reducible refine Kd.C_alloc ?_ _) | (with_reducible refine Kd.C_drewN ?_ _) | (with_reducible refine Kd.C_drew ?_)))
            (case side4 => exact HC0_2.out)
            rintro e w183 ⟨v139, v142, rfl, ho0, ho1, hb⟩
            refine ⟨_, rfl, ?_⟩
            have n0_ := aM (Kd.R_elder' (by (with_reducible repeat (first | apply rA | apply rN | apply rD)); exact HO_119001.out) (Kd.R_base ho0) hb)
            have n1_ := aM (Kd.R_elder' (by (with_reducible repeat (first | apply rA | apply rN | apply rD)); exact HO_119002.out) (Kd.R_base ho1) hb)
            have n2_ := aM (Kd.R_elder' (by (with_reducible repeat (first | apply rA | apply rN | apply rD)); exact HO_127001.out) (Kd.R_base ho0) hb)
            have n3_ := aM (Kd.R_elder' (by (with_reducible repeat (first | apply rA | apply rN | apply rD)); exact HO_127002.out) (Kd.R_base ho1) hb)
            have n4_ := aM (Kd.R_elder' (by (with_reducible repeat (first | apply rA | apply rN | apply rD)); exact HO_136001.out) (Kd.R_base ho0) hb)
            have n5_ := aM (Kd.R_elder' (by (with_reducible repeat (first | apply rA | apply rN | apply rD)); exact HO_136002.out) (Kd.R_base ho1) hb)
            have n6_ := aM (Kd.R_lower (Kd.R_new' (Kd.R_new' (Kd.R_new' ho0 (Kd.R_lt (by (with_reducible repeat (first | apply rA | apply rN | apply rD)); exact HO_119001.out))) (Kd.R_lt (by (with_reducible repeat (first | apply rA | apply rN | apply rD)); exact HO_127001.out))) (Kd.R_lt (by (with_reducible repeat (first | apply rA | apply rN | apply rD)); exact HO_136001.out))) (below_size (by repeat (first | (with_reducible first | exact HB.out | apply below_alloc | apply pw_below_drewN | apply below_drew1 | refine below_set ?_ GE101.out | refine below_set ?_ GE118.out | refine below_set ?_ GE126.out | refine below_set ?_ GE135.out) | exact HB.out))))
            have n7_ := aM (Kd.R_lower (Kd.R_new' (Kd.R_new' (Kd.R_new' ho1 (Kd.R_lt (by (with_reducible repeat (first | apply rA | apply rN | apply rD)); exact HO_119002.out))) (Kd.R_lt (by (with_reducible repeat (first | apply rA | apply rN | apply rD)); exact HO_127002.out))) (Kd.R_lt (by (with_reducible repeat (first | apply rA | apply rN | apply rD)); exact HO_136002.out))) (below_size (by repeat (first | (with_reducible first | exact HB.out | apply below_alloc | apply pw_below_drewN | apply below_drew1 | refine below_set ?_ GE101.out | refine below_set ?_ GE118.out | refine below_set ?_ GE126.out | refine below_set ?_ GE135.out) | exact HB.out))))
            have n8_ := aM (blk_below (g := gb101) (o := .cells #[.int .i64 a0_0, .slice A0_1 l0_1.length c0_1, .slice A0_2 l0_2.length c0_2] 25 (0, 0)) (by (with_reducible repeat (first | refine bN ?_ _ | refine bD ?_ | refine bA ?_ _)); exact BK101.out) hb)
            have n9_ := aM (blk_below (g := gb118) (o := .cells #[.int .i64 t110, .slice Ao23 t111.length co23, .slice Ao24 t114.length co24] 30 (0, 0)) (by (with_reducible repeat (first | refine bN ?_ _ | refine bD ?_ | refine bA ?_ _)); exact BK118.out) hb)
            have n10_ := aM (blk_below (g := gb126) (o := .cells #[.int .i64 t119, .slice Ao31 t120.length co31, .slice Ao32 t123.length co32] 30 (0, 0)) (by (with_reducible repeat (first | refine bN ?_ _ | refine bD ?_ | refine bA ?_ _)); exact BK126.out) hb)
            have n11_ := aM (blk_below (g := gb135) (o := .cells #[.int .i64 t127, .slice Ao39 t128.length co39, .slice Ao40 t131.length co40] 30 (0, 0)) (by (with_reducible repeat (first | refine bN ?_ _ | refine bD ?_ | refine bA ?_ _)); exact BK135.out) hb)
            have n12_ := aM (below_step (by repeat (first | (with_reducible first | exact HB.out | apply below_alloc | apply pw_below_drewN | apply below_drew1 | refine below_set ?_ GE101.out | refine below_set ?_ GE118.out | refine below_set ?_ GE126.out | refine below_set ?_ GE135.out) | exact HB.out)) hb)
            clear HO_119001
            clear HO_119002
            clear HO_127001
            clear HO_127002
            clear HO_136001
            clear HO_136002
            clear BK101
            clear BK118
            clear BK126
            clear BK135
            clear HB
            have HO_119001 := n0_
            have HO_119002 := n1_
            have HO_127001 := n2_
            have HO_127002 := n3_
            have HO_136001 := n4_
            have HO_136002 := n5_
            have HO140 := n6_
            have HO143 := n7_
            have BK101 := n8_
            have BK118 := n9_
            have BK126 := n10_
            have BK135 := n11_
            have HB := n12_
            clear n0_ n1_ n2_ n3_ n4_ n5_ n6_ n7_ n8_ n9_ n10_ n11_ n12_
            (try clear hb)
            (try clear hb2)
            (try clear hk)
            (try clear hi)
            (try clear ho0)
            (try clear ho1)
            obtain ⟨Ao184, co184, eo184⟩ := Kd.R_slice HO140.out
            (first | subst eo184 | (injection eo184 with f1_ f2_ f3_; have f4_ := f1_.symm; have f5_ := f3_.symm; clear f1_ f2_ f3_; subst f4_; subst f5_))
            obtain ⟨Ao185, co185, eo185⟩ := Kd.R_slice HO143.out
            (first | subst eo185 | (injection eo185 with f1_ f2_ f3_; have f4_ := f1_.symm; have f5_ := f3_.symm; clear f1_ f2_ f3_; subst f4_; subst f5_))
            refine hK.out _ _ ⟨(blk_cell BK126.out 0).trans rfl, (blk_cell BK126.out 1).trans rfl, (blk_cell BK126.out 2).trans rfl, (blk_cell BK101.out 0).trans rfl, (blk_cell BK101.out 1).trans rfl, (blk_cell BK101.out 2).trans rfl⟩ (fun hHeld => ?_)
            clear hK K
            refine norm_ (a' := ?_) ?_ ?_
            rotate_left
            · show Act.put _ (some 43) _ = _
              simp only [Act.put, List.setIfInBounds_toArray, List.set_cons_zero, List.set_cons_succ, i64_w, i32_w]
              rfl
            refine one_ (i := 3) (N := some 44) #[true, true, true, true, false] rfl rfl (by kernel_rfl) (by decide) (fun K hK => ?_)
            refine goes_ Try.func11 (by kernel_rfl) rfl #[.agg #[.int .i64 t119, .slice Ao31 t120.length co31, .slice Ao32 t123.length co32], .agg #[.int .i64 t137, .slice Ao184 t138.length co184, .slice Ao185 t141.length co185]] (by rfl) rfl rfl (by (try simp only [List.map_toArray, List.map_cons, List.map_nil]); first | done | rfl | (simp only [List.length_drop, List.length_take]; rfl)) ?_
            with_reducible refine (laws_eqHeap.calls kj10 t119 _ _ t120 _ _ t123 t137 _ _ t138 _ _ t141 false _ ?side1 ?side2 ?side3 ?side4 ?side5 ?side6 ?side7 ?side8 A61.out).mono ?_
            (case side1 => repeat (first | exact (Kd.R_reads' HO_127001.out).2.2 | (with_reducible refine Kd.C_alloc ?_ _) | (with_reducible refine Kd.C_drewN ?_ _) | (with_reducible refine Kd.C_drew ?_)))
            (case side2 => exact (Kd.R_reads' HO_127001.out).2.1)
            (case side3 => repeat (first | exact (Kd.R_reads' HO_127002.out).2.2 | (with_reducible refine Kd.C_alloc ?_ _) | (with_reducible refine Kd.C_drewN ?_ _) | (with_reducible refine Kd.C_drew ?_)))
            (case side4 => exact (Kd.R_reads' HO_127002.out).2.1)
            (case side5 => repeat (first | exact (Kd.R_reads' HO140.out).2.2 | (with_reducible refine Kd.C_alloc ?_ _) | (with_reducible refine Kd.C_drewN ?_ _) | (with_reducible refine Kd.C_drew ?_)))
            (case side6 => exact (Kd.R_reads' HO140.out).2.1)
            (case side7 => repeat (first | exact (Kd.R_reads' HO143.out).2.2 | (with_reducible refine Kd.C_alloc ?_ _) | (with_reducible refine Kd.C_drewN ?_ _) | (with_reducible refine Kd.C_drew ?_)))
            (case side8 => exact (Kd.R_reads' HO143.out).2.1)
            rintro e w186 ⟨rfl, hb⟩
            refine ⟨_, rfl, ?_⟩
            have n0_ := aM (Kd.R_below (by (with_reducible repeat (first | apply rA | apply rN | apply rD)); exact HO_119001.out) hb)
            have n1_ := aM (Kd.R_below (by (with_reducible repeat (first | apply rA | apply rN | apply rD)); exact HO_119002.out) hb)
            have n2_ := aM (Kd.R_below (by (with_reducible repeat (first | apply rA | apply rN | apply rD)); exact HO_127001.out) hb)
            have n3_ := aM (Kd.R_below (by (with_reducible repeat (first | apply rA | apply rN | apply rD)); exact HO_127002.out) hb)
            have n4_ := aM (Kd.R_below (by (with_reducible repeat (first | apply rA | apply rN | apply rD)); exact HO_136001.out) hb)
            have n5_ := aM (Kd.R_below (by (with_reducible repeat (first | apply rA | apply rN | apply rD)); exact HO_136002.out) hb)
            have n6_ := aM (Kd.R_below (by (with_reducible repeat (first | apply rA | apply rN | apply rD)); exact HO140.out) hb)
            have n7_ := aM (Kd.R_below (by (with_reducible repeat (first | apply rA | apply rN | apply rD)); exact HO143.out) hb)
            have n8_ := aM (blk_below (g := gb101) (o := .cells #[.int .i64 a0_0, .slice A0_1 l0_1.length c0_1, .slice A0_2 l0_2.length c0_2] 25 (0, 0)) (by (with_reducible repeat (first | refine bN ?_ _ | refine bD ?_ | refine bA ?_ _)); exact BK101.out) hb)
            have n9_ := aM (blk_below (g := gb118) (o := .cells #[.int .i64 t110, .slice Ao23 t111.length co23, .slice Ao24 t114.length co24] 30 (0, 0)) (by (with_reducible repeat (first | refine bN ?_ _ | refine bD ?_ | refine bA ?_ _)); exact BK118.out) hb)
            have n10_ := aM (blk_below (g := gb126) (o := .cells #[.int .i64 t119, .slice Ao31 t120.length co31, .slice Ao32 t123.length co32] 30 (0, 0)) (by (with_reducible repeat (first | refine bN ?_ _ | refine bD ?_ | refine bA ?_ _)); exact BK126.out) hb)
            have n11_ := aM (blk_below (g := gb135) (o := .cells #[.int .i64 t127, .slice Ao39 t128.length co39, .slice Ao40 t131.length co40] 30 (0, 0)) (by (with_reducible repeat (first | refine bN ?_ _ | refine bD ?_ | refine bA ?_ _)); exact BK135.out) hb)
            have n12_ := aM (below_step (by repeat (first | (with_reducible first | exact HB.out | apply below_alloc | apply pw_below_drewN | apply below_drew1 | refine below_set ?_ GE101.out | refine below_set ?_ GE118.out | refine below_set ?_ GE126.out | refine below_set ?_ GE135.out) | exact HB.out)) hb)
            clear HO_119001
            clear HO_119002
            clear HO_127001
            clear HO_127002
            clear HO_136001
            clear HO_136002
            clear HO140
            clear HO143
            clear BK101
            clear BK118
            clear BK126
            clear BK135
            clear HB
            have HO_119001 := n0_
            have HO_119002 := n1_
            have HO_127001 := n2_
            have HO_127002 := n3_
            have HO_136001 := n4_
            have HO_136002 := n5_
            have HO140 := n6_
            have HO143 := n7_
            have BK101 := n8_
            have BK118 := n9_
            have BK126 := n10_
            have BK135 := n11_
            have HB := n12_
            clear n0_ n1_ n2_ n3_ n4_ n5_ n6_ n7_ n8_ n9_ n10_ n11_ n12_
            (try clear hb)
            (try clear hb2)
            (try clear hk)
            (try clear hi)
            refine hK.out _ _ ⟨(blk_cell BK126.out 0).trans rfl, (blk_cell BK126.out 1).trans rfl, (blk_cell BK126.out 2).trans rfl, (blk_cell BK101.out 0).trans rfl, (blk_cell BK101.out 1).trans rfl, (blk_cell BK101.out 2).trans rfl⟩ (fun hHeld => ?_)
            clear hK K
            refine norm_ (a' := ?_) ?_ ?_
            rotate_left
            · show Act.put _ (some 44) _ = _
              simp only [Act.put, List.setIfInBounds_toArray, List.set_cons_zero, List.set_cons_succ, i64_w, i32_w]
              rfl
            refine pure_ (i := 4) (N := some 45) (v := ?_) (a' := ?_) #[true, true, true, true, true] rfl rfl (by kernel_rfl) (fun _ _ _ h => h) (Or.inl ⟨by rfl, ?_⟩) ?_ ?_
            rotate_left
            · intro w'
              go_simp
              with_reducible rfl
            rotate_left
            · simp only [Act.put, List.setIfInBounds_toArray, List.set_cons_zero, List.set_cons_succ, i64_w, i32_w]
              rfl
            refine done_ (by kernel_rfl) ?_
            try go_wp2
            go_ret
            exact ⟨by first | rfl | (simp [errW_none, errW_some] <;> rfl) | (simp [*, errW_none, errW_some] <;> rfl), by repeat (first | (with_reducible first | exact HB.out | apply below_alloc | apply pw_below_drewN | apply below_drew1 | refine below_set ?_ GE101.out | refine below_set ?_ GE118.out | refine below_set ?_ GE126.out | refine below_set ?_ GE135.out) | exact HB.out)⟩

/-- The pure statement of laws_FnExactMinorCollect. -/
def laws_FnExactMinorCollect.Pure : Prop := ∀ (a0_0 : Int) (l0_1 : List (S59)) (l0_2 : List Int), (Lit.int .i64 a0_0).wf = true → (l0_1.length ≤ 9223372036854775807 ∧ ∀ x_ ∈ l0_1, (True ∧ (Lit.int .i64 x_.f1).wf = true ∧ (Lit.int .i64 x_.f2).wf = true ∧ (Lit.int .i64 x_.f3).wf = true)) → (l0_2.length ≤ 9223372036854775807 ∧ ∀ x_ ∈ l0_2, (Lit.int .i64 x_).wf = true) → ∃ k, laws_FnExactMinorCollect.f k a0_0 l0_1 l0_2 = some true

end Go.Proofs.Ytcbgjcnekdoloaa.G
