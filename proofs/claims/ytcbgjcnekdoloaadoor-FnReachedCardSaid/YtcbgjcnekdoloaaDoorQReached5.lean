/- Part 5 of 5 of the proof that the law FnReachedCardSaid holds: for every input that can be read the call returns true and leaves its arguments as they were; no condition but those each theorem names. -/
import Derived.ChangeArms
import Derived.WideShapes
import Derived.DataElems
import Derived.DataReads
import Derived.Test.YtcbgjcnekdoloaaDoorRows
import Derived.Test.YtcbgjcnekdoloaaDoorCards
import Derived.Test.YtcbgjcnekdoloaaDoorTie
import Derived.WalkKit
import Derived.ProofKit
import Derived.OpenShut
import Derived.ShutString
import Derived.ChangeOld
import Derived.Below
import Derived.SizedLaws
import Derived.LaidMore
import Derived.Lib.LaidTab
import Derived.Stop.LaidErr
import Derived.MakeChecks
import Derived.HandedShaped
import Derived.LaidLaws
import Derived.Lay
import Derived.SevenTiedAt
import Derived.Stop.Joined
import Derived.Test.YtcbgjcnekdoloaaDoorQReachedW1
import Derived.Test.YtcbgjcnekdoloaaDoorQReached1
import Derived.Test.YtcbgjcnekdoloaaDoorQReached2
import Derived.Test.YtcbgjcnekdoloaaDoorQReached3
import Derived.Test.YtcbgjcnekdoloaaDoorQReached4
namespace Go.Proofs.YtcbgjcnekdoloaaDoor.G
open Go.RowKit Go.Proofs.YtcbgjcnekdoloaaDoorW.PrintWords Go.Proofs.YtcbgjcnekdoloaaDoorW.PrintLast Go.Proofs.YtcbgjcnekdoloaaDoorW.PrintMore
attribute [local go_sem] max2_int min2_int max_two min_two max_three min_three max_four min_four   -- for this text's walks alone
set_option linter.unusedVariables false
set_option linter.unusedSimpArgs false

open Go.Proofs.YtcbgjcnekdoloaaDoor.Short
mutual
def laws_FnReached.j0 : Nat → Bool → Bool → Int → List (S61) → List Int → Int → List (S61) → List Int → Option (Bool)
 | 0, _, _, _, _, _, _, _, _ => none
 | k + 1, x5, x56, x109000, x109001, x109002, x118000, x118001, x118002 => if x56 = true then (some false) else (if x5 = true then ((impl_ReachIn.f k x109000 x109001 x109002).bind fun bt128 => ((impl_CollectHeap.f k x118000 x118001 x118002).bind fun bt132 => ((impl_MinorCollect.f k x109000 x109001 x109002).bind fun bt141 => (if bt128.2 = true then (if bt132.2.2.2 = true then (if bt141.2.2.2 = true then (if (bt128.1.length : Int) = (x118001.length : Int) then (if (bt132.2.1.length : Int) = (x118001.length : Int) then (if (bt141.2.1.length : Int) < (x118001.length : Int) then (laws_FnReached.j1 k true x109000 x109001 x109002 x118000 x118001 x118002 bt141.1 bt141.2.1 bt141.2.2.1) else ((impl_GoodHeap.f k x118000 x118001 x118002).bind fun t150 => (if t150 = true then ((impl_GoodHeap.f k bt141.1 bt141.2.1 bt141.2.2.1).bind fun t151 => (laws_FnReached.j1 k (!t151) x109000 x109001 x109002 x118000 x118001 x118002 bt141.1 bt141.2.1 bt141.2.2.1)) else (laws_FnReached.j1 k true x109000 x109001 x109002 x118000 x118001 x118002 bt141.1 bt141.2.1 bt141.2.2.1)))) else (laws_FnReached.j1 k true x109000 x109001 x109002 x118000 x118001 x118002 bt141.1 bt141.2.1 bt141.2.2.1)) else (laws_FnReached.j1 k true x109000 x109001 x109002 x118000 x118001 x118002 bt141.1 bt141.2.1 bt141.2.2.1)) else (laws_FnReached.j1 k true x109000 x109001 x109002 x118000 x118001 x118002 bt141.1 bt141.2.1 bt141.2.2.1)) else (laws_FnReached.j1 k true x109000 x109001 x109002 x118000 x118001 x118002 bt141.1 bt141.2.1 bt141.2.2.1)) else (laws_FnReached.j1 k true x109000 x109001 x109002 x118000 x118001 x118002 bt141.1 bt141.2.1 bt141.2.2.1))))) else (some ((x118001.length : Int) == 0)))
def laws_FnReached.j1 : Nat → Bool → Int → List (S61) → List Int → Int → List (S61) → List Int → Int → List (S61) → List Int → Option (Bool)
 | 0, _, _, _, _, _, _, _, _, _, _ => none
 | k + 1, x123, x109000, x109001, x109002, x118000, x118001, x118002, x150000, x150001, x150002 => if x123 = true then (some false) else (laws_FnReached.l0 k x109002 (x109002.length : Int) 0 x109000 x109001 x109002 x118000 x118001 x118002 x150000 x150001 x150002)
def laws_FnReached.l0 : Nat → List Int → Int → Int → Int → List (S61) → List Int → Int → List (S61) → List Int → Int → List (S61) → List Int → Option (Bool)
 | 0, _, _, _, _, _, _, _, _, _, _, _, _ => none
 | k + 1, x125, x126, x127, x109000, x109001, x109002, x118000, x118001, x118002, x150000, x150001, x150002 => if x127 < x126 then (if 0 ≤ x127 then (if x127 < (x125.length : Int) then ((impl_ShowCell.f k x109000 x109001 x109002 (rd x125 x127)).bind fun bt153 => (if x127 < (x118002.length : Int) then ((impl_ShowCell.f k x118000 x118001 x118002 (rd x118002 x127)).bind fun bt156 => (if x127 < (x150002.length : Int) then ((impl_ShowCell.f k x150000 x150001 x150002 (rd x150002 x127)).bind fun bt159 => (if (bt153.2 != bt156.2) = true then (some false) else (if (bt153.2 != bt159.2) = true then (some false) else (if bt153.1.toList = bt156.1.toList then (if bt153.1.toList = bt159.1.toList then (laws_FnReached.l0 k x125 x126 (wrap64 (x127 + 1)) x109000 x109001 x109002 x118000 x118001 x118002 x150000 x150001 x150002) else (some false)) else (some false))))) else (none))) else (none))) else (none)) else (none)) else (some true)
end
def laws_FnReached.f (k : Nat) (l0 : List Int) : Option (Bool) := if (l0.length : Int) > 1048576 then (some true) else ((spec_DrawCollectHeap.f k l0).bind fun bt101 => ((impl_CollectHeap.f k bt101.1 bt101.2.1 bt101.2.2).bind fun bt109 => ((spec_CollectHeap.f k bt101.1 bt101.2.1 bt101.2.2).bind fun bt118 => (if (bt109.2.2.2 != bt118.2.2.2) = true then (laws_FnReached.j0 k bt109.2.2.2 true bt101.1 bt101.2.1 bt101.2.2 bt109.1 bt109.2.1 bt109.2.2.1) else (if (bt109.2.1.length : Int) = (bt118.2.1.length : Int) then ((laws_sameInts.f k bt109.2.2.1 bt118.2.2.1).bind fun t127 => (laws_FnReached.j0 k bt109.2.2.2 (!t127) bt101.1 bt101.2.1 bt101.2.2 bt109.1 bt109.2.1 bt109.2.2.1)) else (laws_FnReached.j0 k bt109.2.2.2 true bt101.1 bt101.2.1 bt101.2.2 bt109.1 bt109.2.1 bt109.2.2.1))))))
def laws_FnReached.T19 : Bool × List (List Nat × List Nat) := (true, [([], []), ([], []), ([1], [1]), ([], []), ([2, 3], [2, 3]), ([4], [4]), ([0, 5], [0, 5]), ([6], [6]), ([7], [7]), ([7], [7]), ([8, 6, 0, 1, 2, 3, 4, 5, 6, 7, 8], [8]), ([9, 10, 0, 1, 2, 3, 4, 5, 6, 7, 8, 9, 10], [9])])
def laws_FnReached.B19 : List Nat := [0, 0, 2, 0, 14, 30, 63, 127, 255, 255, 511, 2047]
theorem laws_FnReached.tab19 : rtab .any (opsOf Tryd.f4 19) = laws_FnReached.T19 := by kernel_rfl
theorem laws_FnReached.bits19 : waitsOk laws_FnReached.T19.2 laws_FnReached.B19 = true := by kernel_rfl
def laws_FnReached.T20 : Bool × List (List Nat × List Nat) := (true, [([], []), ([], []), ([1], [1]), ([], []), ([2, 3], [2, 3]), ([4], [4]), ([0, 5], [0, 5]), ([6], [6]), ([7], [7]), ([7], [7]), ([8, 6, 0, 1, 2, 3, 4, 5, 6, 7, 8], [8]), ([9, 10, 0, 1, 2, 3, 4, 5, 6, 7, 8, 9, 10], [9])])
def laws_FnReached.B20 : List Nat := [0, 0, 2, 0, 14, 30, 63, 127, 255, 255, 511, 2047]
theorem laws_FnReached.tab20 : rtab .any (opsOf Tryd.f4 20) = laws_FnReached.T20 := by kernel_rfl
theorem laws_FnReached.bits20 : waitsOk laws_FnReached.T20.2 laws_FnReached.B20 = true := by kernel_rfl
set_option maxHeartbeats 8000000 in
set_option maxRecDepth 100000 in
theorem laws_FnReached.calls (k : Nat) (A0 : Option Addr) (c0 : Nat) (l0 : List Int) (r : Bool) (w : World) (hr0 : Kd.C (Kd.int .u8) w A0 l0.length l0) (hc0 : l0.length ≤ c0) (h : laws_FnReached.f k l0 = some r) (hE : Met w) :
  Calls Tryd.prog 4 #[.slice A0 l0.length c0] w fun e w' => e = .returned (.bool r) ∧ Below w.heap.size w w' := by
 have hu31 := Tryd.underlying31
 have HR0 := aM hr0
 have HC0 := aM hc0
 clear hr0 hc0
 have HB := aM (Below.refl w.heap.size w)
 have HE := aK hE
 clear hE
 have H : (if (l0.length : Int) > 1048576 then (some true) else ((spec_DrawCollectHeap.f k l0).bind fun bt101 => ((impl_CollectHeap.f k bt101.1 bt101.2.1 bt101.2.2).bind fun bt109 => ((spec_CollectHeap.f k bt101.1 bt101.2.1 bt101.2.2).bind fun bt118 => (if (bt109.2.2.2 != bt118.2.2.2) = true then (laws_FnReached.j0 k bt109.2.2.2 true bt101.1 bt101.2.1 bt101.2.2 bt109.1 bt109.2.1 bt109.2.2.1) else (if (bt109.2.1.length : Int) = (bt118.2.1.length : Int) then ((laws_sameInts.f k bt109.2.2.1 bt118.2.2.1).bind fun t127 => (laws_FnReached.j0 k bt109.2.2.2 (!t127) bt101.1 bt101.2.1 bt101.2.2 bt109.1 bt109.2.1 bt109.2.2.1)) else (laws_FnReached.j0 k bt109.2.2.2 true bt101.1 bt101.2.1 bt101.2.2 bt109.1 bt109.2.1 bt109.2.2.1))))))) = some r := h
 clear h
 by_cases c2 : (l0.length : Int) > 1048576
 ·rw [if_pos c2] at H
  have c2b0 : decide (1048576 < (l0.length : Int)) = true := decide_eq_true c2
  have c2b1 : decide (1048576 < l0.length) = true := decide_eq_true (by omega)
  clear c2
  obtain rfl := Option.some.inj H
  go_enter Tryd.func4, Tryd.ntmps4
  go_wp2
  go_ret
  exact ⟨eW, pH HB⟩
 ·rw [if_neg c2] at H
  have c2b0 : decide (1048576 < (l0.length : Int)) = false := decide_eq_false c2
  have c2b1 : decide (1048576 < l0.length) = false := decide_eq_false (by omega)
  clear c2
  replace H := Option.bind_eq_some_iff.mp H
  obtain ⟨⟨t101, t102, t105⟩, A30, H⟩ := H
  try dsimp only at H
  have A3 := aM A30
  clear A30
  replace H := Option.bind_eq_some_iff.mp H
  obtain ⟨⟨t109, t110, t113, t116⟩, A40, H⟩ := H
  try dsimp only at H
  have A4 := aM A40
  clear A40
  replace H := Option.bind_eq_some_iff.mp H
  obtain ⟨⟨t118, t119, t122, t125⟩, A50, H⟩ := H
  try dsimp only at H
  have A5 := aM A50
  clear A50
  have HC6 := aM H
  clear H
  go_enter Tryd.func4, Tryd.ntmps4
  go_upto_region 6 with (first | ((with_reducible refine gate_callee (f := 10) rfl ?_); refine goesL_ (some 26) rfl rfl Tryd.func10 (by kernel_rfl) rfl #[.slice A0 l0.length c0] rfl tA ?_; (with_reducible refine (spec_DrawCollectHeap.calls k _ _ l0 t101 t102 t105 _ ?side1 ?side2 A3.out).mono ?_); (case side1 => exact sC HR0.out); (case side2 => exact HC0.out); rintro e w7 ⟨v103, v106, rfl, ho0, ho1, hb⟩; refine ⟨_, rfl, ?_⟩; have HO104 := aK (Kd.R_lower ho0 (below_size HB.out)); have HO107 := aK (Kd.R_lower ho1 (below_size HB.out)); replace HB := qs HB hb; (try clear hb); (try clear ho0); (try clear ho1)) | ((with_reducible refine gate_dst (N := 3) rfl ?_); (try (refine gate_guard (by rfl) ?_; dsimp only)); refine bE (N := 3) (cs := #[.int .i64 0, .slice none 0 0, .slice none 0 0]) (t := 31) ?_; intro gb108 hg w8 hbox hb; have n0_ := aK (Kd.R_below HO104.out hb); have n1_ := aK (Kd.R_below HO107.out hb); have GW108 := qw HB hg; have GE108 := qw HB hg; have BK108 := aK hbox; clear HO104; have HO104 := n0_; clear n0_; clear HO107; have HO107 := n1_; clear n1_; replace HB := qs HB hb; clear hb hbox hg; obtain ⟨hcz9_0, hcz9_1, hcz9_2, hfz9_0, hfz9_1, hfz9_2⟩ := cA3 BK108; obtain ⟨Ao10, co10, eo10⟩ := Kd.R_slice HO104.out; subst eo10; obtain ⟨Ao11, co11, eo11⟩ := Kd.R_slice HO107.out; subst eo11) | ((with_reducible refine gate_callee (f := 11) rfl ?_); refine goesL_ (some 29) rfl rfl Tryd.func11 (by kernel_rfl) rfl #[.agg #[.int .i64 t101, .slice Ao10 t102.length co10, .slice Ao11 t105.length co11]] rfl tA ?_; (with_reducible refine (impl_CollectHeap.calls k t101 _ _ t102 _ _ t105 t109 t110 t113 t116 _ ?side1 ?side2 ?side3 ?side4 A4.out).mono ?_); (case side1 => refine (Kd.R_reads' (e := 61) (base := w.heap.size) (ok := fun k_ => True) (n := t102.length) (c := co10) ?_).2.2; exact (by (with_reducible repeat (first | apply rA | apply rN | apply rD)); exact (Kd.R_mono (Kd.R_far (p := ⟨gb108, 2, none⟩) (Kd.R_far (p := ⟨gb108, 1, none⟩) (Kd.R_far (p := ⟨gb108, 0, none⟩) (Kd.R_types HO104.out BK108.out (by decide)) (fun _ hk => hk.2) (.int .i64 t101)) (fun _ hk => hk.2) (.slice Ao10 t102.length co10)) (fun _ hk => hk.2) (.slice Ao11 t105.length co11)) (fun _ h_ => h_.1)))); (case side2 => exact (Kd.R_reads' HO104.out).2.1); (case side3 => refine (Kd.R_reads' (e := 3) (base := w.heap.size) (ok := fun k_ => True) (n := t105.length) (c := co11) ?_).2.2; exact (by (with_reducible repeat (first | apply rA | apply rN | apply rD)); exact (Kd.R_mono (Kd.R_far (p := ⟨gb108, 2, none⟩) (Kd.R_far (p := ⟨gb108, 1, none⟩) (Kd.R_far (p := ⟨gb108, 0, none⟩) (Kd.R_types HO107.out BK108.out (by decide)) (fun _ hk => hk.2) (.int .i64 t101)) (fun _ hk => hk.2) (.slice Ao10 t102.length co10)) (fun _ hk => hk.2) (.slice Ao11 t105.length co11)) (fun _ h_ => h_.1)))); (case side4 => exact (Kd.R_reads' HO107.out).2.1); rintro e w12 ⟨v111, v114, rfl, ho0, ho1, hb⟩; refine ⟨_, rfl, ?_⟩; have n_ := aJ (aM (Kd.R_elder' (by (with_reducible repeat (first | apply rA | apply rN | apply rD)); exact (Kd.R_mono (Kd.R_far (p := ⟨gb108, 2, none⟩) (Kd.R_far (p := ⟨gb108, 1, none⟩) (Kd.R_far (p := ⟨gb108, 0, none⟩) (Kd.R_types HO104.out BK108.out (by decide)) (fun _ hk => hk.2) (.int .i64 t101)) (fun _ hk => hk.2) (.slice Ao10 t102.length co10)) (fun _ hk => hk.2) (.slice Ao11 t105.length co11)) (fun _ h_ => h_.1))) (Kd.R_base ho0) hb)) (aJ (aM (Kd.R_elder' (by (with_reducible repeat (first | apply rA | apply rN | apply rD)); exact (Kd.R_mono (Kd.R_far (p := ⟨gb108, 2, none⟩) (Kd.R_far (p := ⟨gb108, 1, none⟩) (Kd.R_far (p := ⟨gb108, 0, none⟩) (Kd.R_types HO107.out BK108.out (by decide)) (fun _ hk => hk.2) (.int .i64 t101)) (fun _ hk => hk.2) (.slice Ao10 t102.length co10)) (fun _ hk => hk.2) (.slice Ao11 t105.length co11)) (fun _ h_ => h_.1))) (Kd.R_base ho1) hb)) (aJ (aM (Kd.R_lower (Kd.R_new' ho0 (Kd.R_lt (by (with_reducible repeat (first | apply rA | apply rN | apply rD)); exact (Kd.R_mono (Kd.R_far (p := ⟨gb108, 2, none⟩) (Kd.R_far (p := ⟨gb108, 1, none⟩) (Kd.R_far (p := ⟨gb108, 0, none⟩) (Kd.R_types HO104.out BK108.out (by decide)) (fun _ hk => hk.2) (.int .i64 t101)) (fun _ hk => hk.2) (.slice Ao10 t102.length co10)) (fun _ hk => hk.2) (.slice Ao11 t105.length co11)) (fun _ h_ => h_.1))))) (below_size (pH HB)))) (aJ (aM (Kd.R_lower (Kd.R_new' ho1 (Kd.R_lt (by (with_reducible repeat (first | apply rA | apply rN | apply rD)); exact (Kd.R_mono (Kd.R_far (p := ⟨gb108, 2, none⟩) (Kd.R_far (p := ⟨gb108, 1, none⟩) (Kd.R_far (p := ⟨gb108, 0, none⟩) (Kd.R_types HO107.out BK108.out (by decide)) (fun _ hk => hk.2) (.int .i64 t101)) (fun _ hk => hk.2) (.slice Ao10 t102.length co10)) (fun _ hk => hk.2) (.slice Ao11 t105.length co11)) (fun _ h_ => h_.1))))) (below_size (pH HB)))) (aJ (aM (blk_below (g := gb108) (o := .cells #[.int .i64 t101, .slice Ao10 t102.length co10, .slice Ao11 t105.length co11] 31 (0, 0)) (p3 BK108) hb)) (aM (below_step (pH HB) hb)))))); clear HO104 HO107 BK108 HB; obtain ⟨HO104, HO107, HO112, HO115, BK108, HB⟩ := n_; (try clear hb); (try clear ho0); (try clear ho1)) | ((with_reducible refine gate_dst (N := 4) rfl ?_); (try (refine gate_guard (by rfl) ?_; dsimp only)); refine bE (N := 4) (cs := #[.int .i64 0, .slice none 0 0, .slice none 0 0]) (t := 31) ?_; intro gb117 hg w13 hbox hb; have n0_ := aK (Kd.R_below HO104.out hb); have n1_ := aK (Kd.R_below HO107.out hb); have n2_ := aK (Kd.R_below HO112.out hb); have n3_ := aK (Kd.R_below HO115.out hb); have GW117 := qw HB hg; have GE117 := qw HB hg; have NB108_117 := ql BK108 hg; have NB117_108 := qg BK108 hg; replace BK108 := qb BK108 hb; have BK117 := aK hbox; clear HO104; have HO104 := n0_; clear n0_; clear HO107; have HO107 := n1_; clear n1_; clear HO112; have HO112 := n2_; clear n2_; clear HO115; have HO115 := n3_; clear n3_; replace HB := qs HB hb; clear hb hbox hg; have hnb14 := NB117_108.out; have hnc14 := NB108_117.out; obtain ⟨hcz15_0, hcz15_1, hcz15_2, hfz15_0, hfz15_1, hfz15_2⟩ := cA3 BK117; obtain ⟨Ao16, co16, eo16⟩ := Kd.R_slice HO112.out; subst eo16; obtain ⟨Ao17, co17, eo17⟩ := Kd.R_slice HO115.out; subst eo17; obtain ⟨hcz18_0, hcz18_1, hcz18_2, hfz18_0, hfz18_1, hfz18_2⟩ := cA3 BK108) | ((with_reducible refine gate_callee (f := 12) rfl ?_); refine goesL_ (some 34) rfl rfl Tryd.func12 (by kernel_rfl) rfl #[.agg #[.int .i64 t101, .slice Ao10 t102.length co10, .slice Ao11 t105.length co11]] rfl tA ?_; (with_reducible refine (spec_CollectHeap.calls k t101 _ _ t102 _ _ t105 t118 t119 t122 t125 _ ?side1 ?side2 ?side3 ?side4 A5.out).mono ?_); (case side1 => refine (Kd.R_reads' (e := 61) (base := w.heap.size) (ok := fun k_ => (True ∧ some k_ ≠ (.slice Ao16 t110.length co16 : Value).ownBlock)) (n := t102.length) (c := co10) ?_).2.2; exact (by (with_reducible repeat (first | apply rA | apply rN | apply rD)); exact (Kd.R_mono (Kd.R_far (p := ⟨gb117, 2, none⟩) (Kd.R_far (p := ⟨gb117, 1, none⟩) (Kd.R_far (p := ⟨gb117, 0, none⟩) (Kd.R_types HO104.out BK117.out (by decide)) (fun _ hk => hk.2) (.int .i64 t109)) (fun _ hk => hk.2) (.slice Ao16 t110.length co16)) (fun _ hk => hk.2) (.slice Ao17 t113.length co17)) (fun _ h_ => h_.1)))); (case side2 => exact (Kd.R_reads' HO104.out).2.1); (case side3 => refine (Kd.R_reads' (e := 3) (base := w.heap.size) (ok := fun k_ => (True ∧ some k_ ≠ (.slice Ao17 t113.length co17 : Value).ownBlock)) (n := t105.length) (c := co11) ?_).2.2; exact (by (with_reducible repeat (first | apply rA | apply rN | apply rD)); exact (Kd.R_mono (Kd.R_far (p := ⟨gb117, 2, none⟩) (Kd.R_far (p := ⟨gb117, 1, none⟩) (Kd.R_far (p := ⟨gb117, 0, none⟩) (Kd.R_types HO107.out BK117.out (by decide)) (fun _ hk => hk.2) (.int .i64 t109)) (fun _ hk => hk.2) (.slice Ao16 t110.length co16)) (fun _ hk => hk.2) (.slice Ao17 t113.length co17)) (fun _ h_ => h_.1)))); (case side4 => exact (Kd.R_reads' HO107.out).2.1); rintro e w19 ⟨v120, v123, rfl, ho0, ho1, hb⟩; refine ⟨_, rfl, ?_⟩; have n_ := aJ (aM (Kd.R_elder' (by (with_reducible repeat (first | apply rA | apply rN | apply rD)); exact (Kd.R_mono (Kd.R_far (p := ⟨gb117, 2, none⟩) (Kd.R_far (p := ⟨gb117, 1, none⟩) (Kd.R_far (p := ⟨gb117, 0, none⟩) (Kd.R_types HO104.out BK117.out (by decide)) (fun _ hk => hk.2) (.int .i64 t109)) (fun _ hk => hk.2) (.slice Ao16 t110.length co16)) (fun _ hk => hk.2) (.slice Ao17 t113.length co17)) (fun _ h_ => h_.1))) (Kd.R_base ho0) hb)) (aJ (aM (Kd.R_elder' (by (with_reducible repeat (first | apply rA | apply rN | apply rD)); exact (Kd.R_mono (Kd.R_far (p := ⟨gb117, 2, none⟩) (Kd.R_far (p := ⟨gb117, 1, none⟩) (Kd.R_far (p := ⟨gb117, 0, none⟩) (Kd.R_types HO107.out BK117.out (by decide)) (fun _ hk => hk.2) (.int .i64 t109)) (fun _ hk => hk.2) (.slice Ao16 t110.length co16)) (fun _ hk => hk.2) (.slice Ao17 t113.length co17)) (fun _ h_ => h_.1))) (Kd.R_base ho1) hb)) (aJ (aM (Kd.R_elder' (by (with_reducible repeat (first | apply rA | apply rN | apply rD)); exact (Kd.R_mono (Kd.R_far (p := ⟨gb117, 2, none⟩) (Kd.R_far (p := ⟨gb117, 1, none⟩) (Kd.R_far (p := ⟨gb117, 0, none⟩) (Kd.R_types HO112.out BK117.out (by decide)) (fun _ hk => hk.2) (.int .i64 t109)) (fun _ hk => hk.2) (.slice Ao16 t110.length co16)) (fun _ hk => hk.2) (.slice Ao17 t113.length co17)) (fun _ h_ => h_.1))) (Kd.R_base ho0) hb)) (aJ (aM (Kd.R_elder' (by (with_reducible repeat (first | apply rA | apply rN | apply rD)); exact (Kd.R_mono (Kd.R_far (p := ⟨gb117, 2, none⟩) (Kd.R_far (p := ⟨gb117, 1, none⟩) (Kd.R_far (p := ⟨gb117, 0, none⟩) (Kd.R_types HO115.out BK117.out (by decide)) (fun _ hk => hk.2) (.int .i64 t109)) (fun _ hk => hk.2) (.slice Ao16 t110.length co16)) (fun _ hk => hk.2) (.slice Ao17 t113.length co17)) (fun _ h_ => h_.1))) (Kd.R_base ho1) hb)) (aJ (aM (Kd.R_lower (Kd.R_new' (Kd.R_new' ho0 (Kd.R_lt (by (with_reducible repeat (first | apply rA | apply rN | apply rD)); exact (Kd.R_mono (Kd.R_far (p := ⟨gb117, 2, none⟩) (Kd.R_far (p := ⟨gb117, 1, none⟩) (Kd.R_far (p := ⟨gb117, 0, none⟩) (Kd.R_types HO104.out BK117.out (by decide)) (fun _ hk => hk.2) (.int .i64 t109)) (fun _ hk => hk.2) (.slice Ao16 t110.length co16)) (fun _ hk => hk.2) (.slice Ao17 t113.length co17)) (fun _ h_ => h_.1))))) (Kd.R_lt (by (with_reducible repeat (first | apply rA | apply rN | apply rD)); exact (Kd.R_mono (Kd.R_far (p := ⟨gb117, 2, none⟩) (Kd.R_far (p := ⟨gb117, 1, none⟩) (Kd.R_far (p := ⟨gb117, 0, none⟩) (Kd.R_types HO112.out BK117.out (by decide)) (fun _ hk => hk.2) (.int .i64 t109)) (fun _ hk => hk.2) (.slice Ao16 t110.length co16)) (fun _ hk => hk.2) (.slice Ao17 t113.length co17)) (fun _ h_ => h_.1))))) (below_size (pH HB)))) (aJ (aM (Kd.R_lower (Kd.R_new' (Kd.R_new' ho1 (Kd.R_lt (by (with_reducible repeat (first | apply rA | apply rN | apply rD)); exact (Kd.R_mono (Kd.R_far (p := ⟨gb117, 2, none⟩) (Kd.R_far (p := ⟨gb117, 1, none⟩) (Kd.R_far (p := ⟨gb117, 0, none⟩) (Kd.R_types HO107.out BK117.out (by decide)) (fun _ hk => hk.2) (.int .i64 t109)) (fun _ hk => hk.2) (.slice Ao16 t110.length co16)) (fun _ hk => hk.2) (.slice Ao17 t113.length co17)) (fun _ h_ => h_.1))))) (Kd.R_lt (by (with_reducible repeat (first | apply rA | apply rN | apply rD)); exact (Kd.R_mono (Kd.R_far (p := ⟨gb117, 2, none⟩) (Kd.R_far (p := ⟨gb117, 1, none⟩) (Kd.R_far (p := ⟨gb117, 0, none⟩) (Kd.R_types HO115.out BK117.out (by decide)) (fun _ hk => hk.2) (.int .i64 t109)) (fun _ hk => hk.2) (.slice Ao16 t110.length co16)) (fun _ hk => hk.2) (.slice Ao17 t113.length co17)) (fun _ h_ => h_.1))))) (below_size (pH HB)))) (aJ (aM (blk_below (g := gb108) (o := .cells #[.int .i64 t101, .slice Ao10 t102.length co10, .slice Ao11 t105.length co11] 31 (0, 0)) (by (repeat first | with_reducible apply zN | with_reducible apply zD | with_reducible apply zA | refine blk_far ?_ NB108_117.out _); exact BK108.out) hb)) (aJ (aM (blk_below (g := gb117) (o := .cells #[.int .i64 t109, .slice Ao16 t110.length co16, .slice Ao17 t113.length co17] 31 (0, 0)) (p3 BK117) hb)) (aM (below_step (pH HB) hb))))))))); clear HO104 HO107 HO112 HO115 BK108 BK117 HB; obtain ⟨HO104, HO107, HO112, HO115, HO121, HO124, BK108, BK117, HB⟩ := n_; (try clear hb); (try clear ho0); (try clear ho1)) | ((with_reducible refine gate_dst (N := 6) rfl ?_); (try (refine gate_guard (by rfl) ?_; dsimp only)); refine bE (N := 6) (cs := #[.int .i64 0, .slice none 0 0, .slice none 0 0]) (t := 31) ?_; intro gb126 hg w20 hbox hb; have n0_ := aK (Kd.R_below HO104.out hb); have n1_ := aK (Kd.R_below HO107.out hb); have n2_ := aK (Kd.R_below HO112.out hb); have n3_ := aK (Kd.R_below HO115.out hb); have n4_ := aK (Kd.R_below HO121.out hb); have n5_ := aK (Kd.R_below HO124.out hb); have GW126 := qw HB hg; have GE126 := qw HB hg; have NB108_126 := ql BK108 hg; have NB126_108 := qg BK108 hg; have NB117_126 := ql BK117 hg; have NB126_117 := qg BK117 hg; replace BK108 := qb BK108 hb; replace BK117 := qb BK117 hb; have BK126 := aK hbox; clear HO104; have HO104 := n0_; clear n0_; clear HO107; have HO107 := n1_; clear n1_; clear HO112; have HO112 := n2_; clear n2_; clear HO115; have HO115 := n3_; clear n3_; clear HO121; have HO121 := n4_; clear n4_; clear HO124; have HO124 := n5_; clear n5_; replace HB := qs HB hb; clear hb hbox hg; have hnb21 := NB126_108.out; have hnc21 := NB108_126.out; have hnb22 := NB126_117.out; have hnc22 := NB117_126.out; obtain ⟨hcz23_0, hcz23_1, hcz23_2, hfz23_0, hfz23_1, hfz23_2⟩ := cA3 BK126; obtain ⟨Ao24, co24, eo24⟩ := Kd.R_slice HO121.out; subst eo24; obtain ⟨Ao25, co25, eo25⟩ := Kd.R_slice HO124.out; subst eo25))
  (try simp only [Act.put, List.setIfInBounds_toArray, List.set_cons_zero, List.set_cons_succ])
  go_cut [56] (fun v56 wc => ∃ (kq : Nat) (x56_5 : Bool), v56 = .bool x56_5 ∧ Aside0 (laws_FnReached.j0 kq t116 x56_5 t101 t102 t105 t109 t110 t113 = some r) ∧ Aside0 (kq ≤ k) ∧ Aside0 (Kd.R k61 61 wc w.heap.size (fun k_ => some k_ ≠ ((.slice Ao16 t110.length co16) : Value).ownBlock ∧ some k_ ≠ ((.slice Ao24 t119.length co24) : Value).ownBlock) (.slice Ao10 t102.length co10) t102) ∧ Aside0 (Kd.R (Kd.int .i64) 3 wc w.heap.size (fun k_ => some k_ ≠ ((.slice Ao17 t113.length co17) : Value).ownBlock ∧ some k_ ≠ ((.slice Ao25 t122.length co25) : Value).ownBlock) (.slice Ao11 t105.length co11) t105) ∧ Aside0 (Kd.R k61 61 wc w.heap.size (fun k_ => some k_ ≠ ((.slice Ao10 t102.length co10) : Value).ownBlock ∧ some k_ ≠ ((.slice Ao24 t119.length co24) : Value).ownBlock) (.slice Ao16 t110.length co16) t110) ∧ Aside0 (Kd.R (Kd.int .i64) 3 wc w.heap.size (fun k_ => some k_ ≠ ((.slice Ao11 t105.length co11) : Value).ownBlock ∧ some k_ ≠ ((.slice Ao25 t122.length co25) : Value).ownBlock) (.slice Ao17 t113.length co17) t113) ∧ Aside0 (Kd.R k61 61 wc w.heap.size (fun k_ => some k_ ≠ ((.slice Ao10 t102.length co10) : Value).ownBlock ∧ some k_ ≠ ((.slice Ao16 t110.length co16) : Value).ownBlock) (.slice Ao24 t119.length co24) t119) ∧ Aside0 (Kd.R (Kd.int .i64) 3 wc w.heap.size (fun k_ => some k_ ≠ ((.slice Ao11 t105.length co11) : Value).ownBlock ∧ some k_ ≠ ((.slice Ao17 t113.length co17) : Value).ownBlock) (.slice Ao25 t122.length co25) t122) ∧ Aside0 (wc.heap[gb108]? = some (.cells #[.int .i64 t101, (.slice Ao10 t102.length co10), (.slice Ao11 t105.length co11)] 31 (0, 0))) ∧ Aside0 (wc.heap[gb117]? = some (.cells #[.int .i64 t109, (.slice Ao16 t110.length co16), (.slice Ao17 t113.length co17)] 31 (0, 0))) ∧ Aside0 (wc.heap[gb126]? = some (.cells #[.int .i64 t118, (.slice Ao24 t119.length co24), (.slice Ao25 t122.length co25)] 31 (0, 0))) ∧ Aside0 (Below w.heap.size w wc))
  case first =>
   have H := HC6.out
   clear HC6
   by_cases c26 : (t116 != t125) = true
   ·rw [if_pos c26] at H
    have c26b0 : (t116 != t125) = true := c26
    (try (have c26b1 : decide (t116 = t125) = false := by simpa using c26))
    (try (have c26b2 : (t116 == t125) = false := by simpa using c26))
    (try (have c26b3 : ¬ (t116 = t125) := by simpa using c26))
    clear c26
    (first | rw [c26b0] | (simp only [i64_w, i32_w]; rw [c26b0]) | skip)
    have H' := aM H
    clear H
    go_wp2
    go_meet
    case rel => exact ⟨_, (true), rS, H', ⟨by first | omega | exact Nat.le_refl _⟩, ⟨by (with_reducible repeat (first | apply rA | apply rN | apply rD)); exact Kd.R_mono (Kd.R_far (p := ⟨gb126, 2, none⟩) (Kd.R_far (p := ⟨gb126, 1, none⟩) (Kd.R_far (p := ⟨gb126, 0, none⟩) (Kd.R_types HO104.out BK126.out (by decide)) (fun _ hk => hk.2) (.int .i64 t118)) (fun _ hk => hk.2) (.slice Ao24 t119.length co24)) (fun _ hk => hk.2) (.slice Ao25 t122.length co25)) (fun _ hk => ⟨hk.1.1.2, hk.1.2⟩)⟩, ⟨by (with_reducible repeat (first | apply rA | apply rN | apply rD)); exact Kd.R_mono (Kd.R_far (p := ⟨gb126, 2, none⟩) (Kd.R_far (p := ⟨gb126, 1, none⟩) (Kd.R_far (p := ⟨gb126, 0, none⟩) (Kd.R_types HO107.out BK126.out (by decide)) (fun _ hk => hk.2) (.int .i64 t118)) (fun _ hk => hk.2) (.slice Ao24 t119.length co24)) (fun _ hk => hk.2) (.slice Ao25 t122.length co25)) (fun _ hk => ⟨hk.1.1.2, hk.1.2⟩)⟩, ⟨by (with_reducible repeat (first | apply rA | apply rN | apply rD)); exact Kd.R_mono (Kd.R_far (p := ⟨gb126, 2, none⟩) (Kd.R_far (p := ⟨gb126, 1, none⟩) (Kd.R_far (p := ⟨gb126, 0, none⟩) (Kd.R_types HO112.out BK126.out (by decide)) (fun _ hk => hk.2) (.int .i64 t118)) (fun _ hk => hk.2) (.slice Ao24 t119.length co24)) (fun _ hk => hk.2) (.slice Ao25 t122.length co25)) (fun _ hk => ⟨hk.1.1.2, hk.1.2⟩)⟩, ⟨by (with_reducible repeat (first | apply rA | apply rN | apply rD)); exact Kd.R_mono (Kd.R_far (p := ⟨gb126, 2, none⟩) (Kd.R_far (p := ⟨gb126, 1, none⟩) (Kd.R_far (p := ⟨gb126, 0, none⟩) (Kd.R_types HO115.out BK126.out (by decide)) (fun _ hk => hk.2) (.int .i64 t118)) (fun _ hk => hk.2) (.slice Ao24 t119.length co24)) (fun _ hk => hk.2) (.slice Ao25 t122.length co25)) (fun _ hk => ⟨hk.1.1.2, hk.1.2⟩)⟩, ⟨by (with_reducible repeat (first | apply rA | apply rN | apply rD)); exact Kd.R_mono (Kd.R_far (p := ⟨gb126, 2, none⟩) (Kd.R_far (p := ⟨gb126, 1, none⟩) (Kd.R_far (p := ⟨gb126, 0, none⟩) (Kd.R_types HO121.out BK126.out (by decide)) (fun _ hk => hk.2) (.int .i64 t118)) (fun _ hk => hk.2) (.slice Ao24 t119.length co24)) (fun _ hk => hk.2) (.slice Ao25 t122.length co25)) (fun _ hk => ⟨hk.1.1.2, hk.1.2⟩)⟩, ⟨by (with_reducible repeat (first | apply rA | apply rN | apply rD)); exact Kd.R_mono (Kd.R_far (p := ⟨gb126, 2, none⟩) (Kd.R_far (p := ⟨gb126, 1, none⟩) (Kd.R_far (p := ⟨gb126, 0, none⟩) (Kd.R_types HO124.out BK126.out (by decide)) (fun _ hk => hk.2) (.int .i64 t118)) (fun _ hk => hk.2) (.slice Ao24 t119.length co24)) (fun _ hk => hk.2) (.slice Ao25 t122.length co25)) (fun _ hk => ⟨hk.1.1.2, hk.1.2⟩)⟩, ⟨by (repeat first | with_reducible apply zN | with_reducible apply zD | with_reducible apply zA | refine blk_far ?_ NB108_126.out _); exact BK108.out⟩, ⟨by (repeat first | with_reducible apply zN | with_reducible apply zD | with_reducible apply zA | refine blk_far ?_ NB117_126.out _); exact BK117.out⟩, ⟨p3 BK126⟩, ⟨pH HB⟩⟩
   ·rw [if_neg c26] at H
    have c26b0 : (t116 != t125) = false := by simpa using c26
    (try (have c26b1 : decide (t116 = t125) = true := by simpa using c26))
    (try (have c26b2 : (t116 == t125) = true := by simpa using c26))
    clear c26
    (first | rw [c26b0] | (simp only [i64_w, i32_w]; rw [c26b0]) | skip)
    by_cases c27 : (t110.length : Int) = (t119.length : Int)
    ·rw [if_pos c27] at H
     have c27b0 : ((t110.length : Int) == (t119.length : Int)) = true := beq_iff_eq.mpr c27
     have c27b1 : ((t110.length : Int) != (t119.length : Int)) = false := bne_eq_false_iff_eq.mpr c27
     have c27b2 : (t110.length == t119.length) = true := by first | simpa using c27 | (simp at c27 ⊢; omega)
     clear c27
     replace H := Option.bind_eq_some_iff.mp H
     obtain ⟨t127, A280, H⟩ := H
     try dsimp only at H
     have A28 := aM A280
     clear A280
     have H' := aM H
     clear H
     have hnb29 := NB117_108.out
     have hnc29 := NB108_117.out
     have hnb30 := NB117_126.out
     have hnc30 := NB126_117.out
     obtain ⟨hcz31_0, hcz31_1, hcz31_2, hfz31_0, hfz31_1, hfz31_2⟩ := cA3 BK117
     have hnb32 := NB126_108.out
     have hnc32 := NB108_126.out
     obtain ⟨hcz33_0, hcz33_1, hcz33_2, hfz33_0, hfz33_1, hfz33_2⟩ := cA3 BK126
     go_wp2_with (first | (go_at_call 13; (with_reducible refine (laws_sameInts.calls k _ _ t113 _ _ t122 t127 _ ?side1 ?side2 ?side3 ?side4 A28.out).mono ?_); (case side1 => refine (Kd.R_reads' (e := 3) (base := w.heap.size) (ok := fun k_ => ((True ∧ some k_ ≠ (.slice Ao11 t105.length co11 : Value).ownBlock) ∧ some k_ ≠ (.slice Ao25 t122.length co25 : Value).ownBlock)) (n := t113.length) (c := co17) ?_).2.2; exact (by (with_reducible repeat (first | apply rA | apply rN | apply rD)); exact (Kd.R_mono (Kd.R_far (p := ⟨gb126, 2, none⟩) (Kd.R_far (p := ⟨gb126, 1, none⟩) (Kd.R_far (p := ⟨gb126, 0, none⟩) (Kd.R_types HO115.out BK126.out (by decide)) (fun _ hk => hk.2) (.int .i64 t118)) (fun _ hk => hk.2) (.slice Ao24 t119.length co24)) (fun _ hk => hk.2) (.slice Ao25 t122.length co25)) (fun _ h_ => h_.1)))); (case side2 => exact (Kd.R_reads' HO115.out).2.1); (case side3 => refine (Kd.R_reads' (e := 3) (base := w.heap.size) (ok := fun k_ => ((True ∧ some k_ ≠ (.slice Ao11 t105.length co11 : Value).ownBlock) ∧ some k_ ≠ (.slice Ao17 t113.length co17 : Value).ownBlock)) (n := t122.length) (c := co25) ?_).2.2; exact (by (with_reducible repeat (first | apply rA | apply rN | apply rD)); exact (Kd.R_mono (Kd.R_far (p := ⟨gb126, 2, none⟩) (Kd.R_far (p := ⟨gb126, 1, none⟩) (Kd.R_far (p := ⟨gb126, 0, none⟩) (Kd.R_types HO124.out BK126.out (by decide)) (fun _ hk => hk.2) (.int .i64 t118)) (fun _ hk => hk.2) (.slice Ao24 t119.length co24)) (fun _ hk => hk.2) (.slice Ao25 t122.length co25)) (fun _ h_ => h_.1)))); (case side4 => exact (Kd.R_reads' HO124.out).2.1); rintro e w' ⟨rfl, ⟨nd, rfl⟩⟩))
     go_meet
     case rel => exact ⟨_, (!t127), rS, H', ⟨by first | omega | exact Nat.le_refl _⟩, ⟨by (with_reducible repeat (first | apply rA | apply rN | apply rD)); exact Kd.R_mono (Kd.R_far (p := ⟨gb126, 2, none⟩) (Kd.R_far (p := ⟨gb126, 1, none⟩) (Kd.R_far (p := ⟨gb126, 0, none⟩) (Kd.R_types HO104.out BK126.out (by decide)) (fun _ hk => hk.2) (.int .i64 t118)) (fun _ hk => hk.2) (.slice Ao24 t119.length co24)) (fun _ hk => hk.2) (.slice Ao25 t122.length co25)) (fun _ hk => ⟨hk.1.1.2, hk.1.2⟩)⟩, ⟨by (with_reducible repeat (first | apply rA | apply rN | apply rD)); exact Kd.R_mono (Kd.R_far (p := ⟨gb126, 2, none⟩) (Kd.R_far (p := ⟨gb126, 1, none⟩) (Kd.R_far (p := ⟨gb126, 0, none⟩) (Kd.R_types HO107.out BK126.out (by decide)) (fun _ hk => hk.2) (.int .i64 t118)) (fun _ hk => hk.2) (.slice Ao24 t119.length co24)) (fun _ hk => hk.2) (.slice Ao25 t122.length co25)) (fun _ hk => ⟨hk.1.1.2, hk.1.2⟩)⟩, ⟨by (with_reducible repeat (first | apply rA | apply rN | apply rD)); exact Kd.R_mono (Kd.R_far (p := ⟨gb126, 2, none⟩) (Kd.R_far (p := ⟨gb126, 1, none⟩) (Kd.R_far (p := ⟨gb126, 0, none⟩) (Kd.R_types HO112.out BK126.out (by decide)) (fun _ hk => hk.2) (.int .i64 t118)) (fun _ hk => hk.2) (.slice Ao24 t119.length co24)) (fun _ hk => hk.2) (.slice Ao25 t122.length co25)) (fun _ hk => ⟨hk.1.1.2, hk.1.2⟩)⟩, ⟨by (with_reducible repeat (first | apply rA | apply rN | apply rD)); exact Kd.R_mono (Kd.R_far (p := ⟨gb126, 2, none⟩) (Kd.R_far (p := ⟨gb126, 1, none⟩) (Kd.R_far (p := ⟨gb126, 0, none⟩) (Kd.R_types HO115.out BK126.out (by decide)) (fun _ hk => hk.2) (.int .i64 t118)) (fun _ hk => hk.2) (.slice Ao24 t119.length co24)) (fun _ hk => hk.2) (.slice Ao25 t122.length co25)) (fun _ hk => ⟨hk.1.1.2, hk.1.2⟩)⟩, ⟨by (with_reducible repeat (first | apply rA | apply rN | apply rD)); exact Kd.R_mono (Kd.R_far (p := ⟨gb126, 2, none⟩) (Kd.R_far (p := ⟨gb126, 1, none⟩) (Kd.R_far (p := ⟨gb126, 0, none⟩) (Kd.R_types HO121.out BK126.out (by decide)) (fun _ hk => hk.2) (.int .i64 t118)) (fun _ hk => hk.2) (.slice Ao24 t119.length co24)) (fun _ hk => hk.2) (.slice Ao25 t122.length co25)) (fun _ hk => ⟨hk.1.1.2, hk.1.2⟩)⟩, ⟨by (with_reducible repeat (first | apply rA | apply rN | apply rD)); exact Kd.R_mono (Kd.R_far (p := ⟨gb126, 2, none⟩) (Kd.R_far (p := ⟨gb126, 1, none⟩) (Kd.R_far (p := ⟨gb126, 0, none⟩) (Kd.R_types HO124.out BK126.out (by decide)) (fun _ hk => hk.2) (.int .i64 t118)) (fun _ hk => hk.2) (.slice Ao24 t119.length co24)) (fun _ hk => hk.2) (.slice Ao25 t122.length co25)) (fun _ hk => ⟨hk.1.1.2, hk.1.2⟩)⟩, ⟨by (repeat first | with_reducible apply zN | with_reducible apply zD | with_reducible apply zA | refine blk_far ?_ NB108_126.out _); exact BK108.out⟩, ⟨by (repeat first | with_reducible apply zN | with_reducible apply zD | with_reducible apply zA | refine blk_far ?_ NB117_126.out _); exact BK117.out⟩, ⟨p3 BK126⟩, ⟨pH HB⟩⟩
    ·rw [if_neg c27] at H
     have c27b0 : ((t110.length : Int) == (t119.length : Int)) = false := beq_eq_false_iff_ne.mpr c27
     have c27b1 : ((t110.length : Int) != (t119.length : Int)) = true := bne_iff_ne.mpr c27
     have c27b2 : (t110.length == t119.length) = false := by first | simpa using c27 | (simp at c27 ⊢; omega)
     have H' := aM H
     clear H
     have hnb34 := NB117_108.out
     have hnc34 := NB108_117.out
     have hnb35 := NB117_126.out
     have hnc35 := NB126_117.out
     obtain ⟨hcz36_0, hcz36_1, hcz36_2, hfz36_0, hfz36_1, hfz36_2⟩ := cA3 BK117
     have hnb37 := NB126_108.out
     have hnc37 := NB108_126.out
     obtain ⟨hcz38_0, hcz38_1, hcz38_2, hfz38_0, hfz38_1, hfz38_2⟩ := cA3 BK126
     go_wp2
     go_meet
     case rel => exact ⟨_, (true), rS, H', ⟨by first | omega | exact Nat.le_refl _⟩, ⟨by (with_reducible repeat (first | apply rA | apply rN | apply rD)); exact Kd.R_mono (Kd.R_far (p := ⟨gb126, 2, none⟩) (Kd.R_far (p := ⟨gb126, 1, none⟩) (Kd.R_far (p := ⟨gb126, 0, none⟩) (Kd.R_types HO104.out BK126.out (by decide)) (fun _ hk => hk.2) (.int .i64 t118)) (fun _ hk => hk.2) (.slice Ao24 t119.length co24)) (fun _ hk => hk.2) (.slice Ao25 t122.length co25)) (fun _ hk => ⟨hk.1.1.2, hk.1.2⟩)⟩, ⟨by (with_reducible repeat (first | apply rA | apply rN | apply rD)); exact Kd.R_mono (Kd.R_far (p := ⟨gb126, 2, none⟩) (Kd.R_far (p := ⟨gb126, 1, none⟩) (Kd.R_far (p := ⟨gb126, 0, none⟩) (Kd.R_types HO107.out BK126.out (by decide)) (fun _ hk => hk.2) (.int .i64 t118)) (fun _ hk => hk.2) (.slice Ao24 t119.length co24)) (fun _ hk => hk.2) (.slice Ao25 t122.length co25)) (fun _ hk => ⟨hk.1.1.2, hk.1.2⟩)⟩, ⟨by (with_reducible repeat (first | apply rA | apply rN | apply rD)); exact Kd.R_mono (Kd.R_far (p := ⟨gb126, 2, none⟩) (Kd.R_far (p := ⟨gb126, 1, none⟩) (Kd.R_far (p := ⟨gb126, 0, none⟩) (Kd.R_types HO112.out BK126.out (by decide)) (fun _ hk => hk.2) (.int .i64 t118)) (fun _ hk => hk.2) (.slice Ao24 t119.length co24)) (fun _ hk => hk.2) (.slice Ao25 t122.length co25)) (fun _ hk => ⟨hk.1.1.2, hk.1.2⟩)⟩, ⟨by (with_reducible repeat (first | apply rA | apply rN | apply rD)); exact Kd.R_mono (Kd.R_far (p := ⟨gb126, 2, none⟩) (Kd.R_far (p := ⟨gb126, 1, none⟩) (Kd.R_far (p := ⟨gb126, 0, none⟩) (Kd.R_types HO115.out BK126.out (by decide)) (fun _ hk => hk.2) (.int .i64 t118)) (fun _ hk => hk.2) (.slice Ao24 t119.length co24)) (fun _ hk => hk.2) (.slice Ao25 t122.length co25)) (fun _ hk => ⟨hk.1.1.2, hk.1.2⟩)⟩, ⟨by (with_reducible repeat (first | apply rA | apply rN | apply rD)); exact Kd.R_mono (Kd.R_far (p := ⟨gb126, 2, none⟩) (Kd.R_far (p := ⟨gb126, 1, none⟩) (Kd.R_far (p := ⟨gb126, 0, none⟩) (Kd.R_types HO121.out BK126.out (by decide)) (fun _ hk => hk.2) (.int .i64 t118)) (fun _ hk => hk.2) (.slice Ao24 t119.length co24)) (fun _ hk => hk.2) (.slice Ao25 t122.length co25)) (fun _ hk => ⟨hk.1.1.2, hk.1.2⟩)⟩, ⟨by (with_reducible repeat (first | apply rA | apply rN | apply rD)); exact Kd.R_mono (Kd.R_far (p := ⟨gb126, 2, none⟩) (Kd.R_far (p := ⟨gb126, 1, none⟩) (Kd.R_far (p := ⟨gb126, 0, none⟩) (Kd.R_types HO124.out BK126.out (by decide)) (fun _ hk => hk.2) (.int .i64 t118)) (fun _ hk => hk.2) (.slice Ao24 t119.length co24)) (fun _ hk => hk.2) (.slice Ao25 t122.length co25)) (fun _ hk => ⟨hk.1.1.2, hk.1.2⟩)⟩, ⟨by (repeat first | with_reducible apply zN | with_reducible apply zD | with_reducible apply zA | refine blk_far ?_ NB108_126.out _); exact BK108.out⟩, ⟨by (repeat first | with_reducible apply zN | with_reducible apply zD | with_reducible apply zA | refine blk_far ?_ NB117_126.out _); exact BK117.out⟩, ⟨p3 BK126⟩, ⟨pH HB⟩⟩
  case rest =>
   as_aux_lemma =>
    clear HC6
    try clear c1; try clear c2; try clear c2b0; try clear c2b1; try clear p2; try clear c3; try clear c4; try clear c10; try clear c11; try clear c12; try clear c14; try clear c21; try clear c22; try clear c26; try clear c26b0; try clear c26b1; try clear c26b2; try clear c27; try clear c27b0; try clear c27b1; try clear c27b2; try clear c29; try clear c30; try clear c32; try clear c34; try clear c35; try clear c37; try clear hcz15_0 hcz15_1 hcz15_2 hfz15_0 hfz15_1 hfz15_2; try clear hcz18_0 hcz18_1 hcz18_2 hfz18_0 hfz18_1 hfz18_2; try clear hcz23_0 hcz23_1 hcz23_2 hfz23_0 hfz23_1 hfz23_2; try clear hcz31_0 hcz31_1 hcz31_2 hfz31_0 hfz31_1 hfz31_2; try clear hcz33_0 hcz33_1 hcz33_2 hfz33_0 hfz33_1 hfz33_2; try clear hcz36_0 hcz36_1 hcz36_2 hfz36_0 hfz36_1 hfz36_2; try clear hcz38_0 hcz38_1 hcz38_2 hfz38_0 hfz38_1 hfz38_2; try clear hcz9_0 hcz9_1 hcz9_2 hfz9_0 hfz9_1 hfz9_2
    obtain ⟨kq, x56_5, rfl, HA, HJ5, HO_109001, HO_109002, HO_118001, HO_118002, HO_127001, HO_127002, BK108, BK117, BK126, HB⟩ := hcut
    cases kq with
    | zero => exact absurd HA.out (by simp [laws_FnReached.j0])
    | succ kj5 =>
     have H := HA.out
     clear HA
     simp only [laws_FnReached.j0] at H
     by_cases c39 : x56_5 = true
     ·subst c39
      rw [if_pos rfl] at H
      obtain rfl := Option.some.inj H
      go_wp2
      go_ret
      exact ⟨eW, pH HB⟩
     ·replace c39 := Bool.eq_false_iff.mpr c39
      subst c39
      rw [if_neg (show ¬ (false = true) by decide)] at H
      by_cases c40 : t116 = true
      ·subst c40
       rw [if_pos rfl] at H
       replace H := Option.bind_eq_some_iff.mp H
       obtain ⟨⟨t128, t131⟩, A410, H⟩ := H
       try dsimp only at H
       have A41 := aM A410
       clear A410
       replace H := Option.bind_eq_some_iff.mp H
       obtain ⟨⟨t132, t133, t136, t139⟩, A420, H⟩ := H
       try dsimp only at H
       have A42 := aM A420
       clear A420
       replace H := Option.bind_eq_some_iff.mp H
       obtain ⟨⟨t141, t142, t145, t148⟩, A430, H⟩ := H
       try dsimp only at H
       have A43 := aM A430
       clear A430
       have HC44 := aM H
       clear H
       have hnb45 := NB108_117.out
       have hnc45 := NB117_108.out
       have hnb46 := NB108_126.out
       have hnc46 := NB126_108.out
       obtain ⟨hcz47_0, hcz47_1, hcz47_2, hfz47_0, hfz47_1, hfz47_2⟩ := cA3 BK108
       go_upto_region 13 with (first | ((with_reducible refine gate_callee (f := 14) rfl ?_); refine goesL_ (some 65) rfl rfl Tryd.func14 (by kernel_rfl) rfl #[.agg #[.int .i64 t101, .slice Ao10 t102.length co10, .slice Ao11 t105.length co11]] rfl tA ?_; (with_reducible refine (impl_ReachIn.calls kj5 t101 _ _ t102 _ _ t105 t128 t131 _ ?side1 ?side2 ?side3 ?side4 A41.out).mono ?_); (case side1 => exact sC ((Kd.R_reads' HO_109001.out).2.2)); (case side2 => exact (Kd.R_reads' HO_109001.out).2.1); (case side3 => exact sC ((Kd.R_reads' HO_109002.out).2.2)); (case side4 => exact (Kd.R_reads' HO_109002.out).2.1); rintro e w48 ⟨v129, rfl, ho0, hb⟩; refine ⟨_, rfl, ?_⟩; have n0_ := aK (Kd.R_below HO_109001.out hb); have n1_ := aK (Kd.R_elder' HO_109002.out (Kd.R_base ho0) hb); have n2_ := aK (Kd.R_below HO_118001.out hb); have n3_ := aK (Kd.R_elder' HO_118002.out (Kd.R_base ho0) hb); have n4_ := aK (Kd.R_below HO_127001.out hb); have n5_ := aK (Kd.R_elder' HO_127002.out (Kd.R_base ho0) hb); have HO130 := aK (Kd.R_lower (Kd.R_new' (Kd.R_new' (Kd.R_new' ho0 (Kd.R_lt HO_109002.out)) (Kd.R_lt HO_118002.out)) (Kd.R_lt HO_127002.out)) (below_size HB.out)); replace BK108 := qb BK108 hb; replace BK117 := qb BK117 hb; replace BK126 := qb BK126 hb; clear HO_109001; have HO_109001 := n0_; clear n0_; clear HO_109002; have HO_109002 := n1_; clear n1_; clear HO_118001; have HO_118001 := n2_; clear n2_; clear HO_118002; have HO_118002 := n3_; clear n3_; clear HO_127001; have HO_127001 := n4_; clear n4_; clear HO_127002; have HO_127002 := n5_; clear n5_; replace HB := qs HB hb; (try clear hb); (try clear ho0); have hnb49 := NB117_126.out; have hnc49 := NB126_117.out; obtain ⟨hcz50_0, hcz50_1, hcz50_2, hfz50_0, hfz50_1, hfz50_2⟩ := cA3 BK117) | ((with_reducible refine gate_callee (f := 11) rfl ?_); refine goesL_ (some 70) rfl rfl Tryd.func11 (by kernel_rfl) rfl #[.agg #[.int .i64 t109, .slice Ao16 t110.length co16, .slice Ao17 t113.length co17]] rfl tA ?_; (with_reducible refine (impl_CollectHeap.calls kj5 t109 _ _ t110 _ _ t113 t132 t133 t136 t139 _ ?side1 ?side2 ?side3 ?side4 A42.out).mono ?_); (case side1 => exact sC ((Kd.R_reads' HO_118001.out).2.2)); (case side2 => exact (Kd.R_reads' HO_118001.out).2.1); (case side3 => exact sC ((Kd.R_reads' HO_118002.out).2.2)); (case side4 => exact (Kd.R_reads' HO_118002.out).2.1); rintro e w51 ⟨v134, v137, rfl, ho0, ho1, hb⟩; refine ⟨_, rfl, ?_⟩; have n0_ := aK (Kd.R_elder' HO_109001.out (Kd.R_base ho0) hb); have n1_ := aK (Kd.R_elder' HO_109002.out (Kd.R_base ho1) hb); have n2_ := aK (Kd.R_elder' HO_118001.out (Kd.R_base ho0) hb); have n3_ := aK (Kd.R_elder' HO_118002.out (Kd.R_base ho1) hb); have n4_ := aK (Kd.R_elder' HO_127001.out (Kd.R_base ho0) hb); have n5_ := aK (Kd.R_elder' HO_127002.out (Kd.R_base ho1) hb); have n6_ := aK (Kd.R_elder' HO130.out (Kd.R_base ho1) hb); have HO135 := aK (Kd.R_lower (Kd.R_new' (Kd.R_new' (Kd.R_new' ho0 (Kd.R_lt HO_109001.out)) (Kd.R_lt HO_118001.out)) (Kd.R_lt HO_127001.out)) (below_size HB.out)); have HO138 := aK (Kd.R_lower (Kd.R_new' (Kd.R_new' (Kd.R_new' (Kd.R_new' ho1 (Kd.R_lt HO_109002.out)) (Kd.R_lt HO_118002.out)) (Kd.R_lt HO_127002.out)) (Kd.R_lt HO130.out)) (below_size HB.out)); replace BK108 := qb BK108 hb; replace BK117 := qb BK117 hb; replace BK126 := qb BK126 hb; clear HO_109001; have HO_109001 := n0_; clear n0_; clear HO_109002; have HO_109002 := n1_; clear n1_; clear HO_118001; have HO_118001 := n2_; clear n2_; clear HO_118002; have HO_118002 := n3_; clear n3_; clear HO_127001; have HO_127001 := n4_; clear n4_; clear HO_127002; have HO_127002 := n5_; clear n5_; clear HO130; have HO130 := n6_; clear n6_; replace HB := qs HB hb; (try clear hb); (try clear ho0); (try clear ho1)) | ((with_reducible refine gate_dst (N := 10) rfl ?_); (try (refine gate_guard (by rfl) ?_; dsimp only)); refine bE (N := 10) (cs := #[.int .i64 0, .slice none 0 0, .slice none 0 0]) (t := 31) ?_; intro gb140 hg w52 hbox hb; have n0_ := aK (Kd.R_below HO_109001.out hb); have n1_ := aK (Kd.R_below HO_109002.out hb); have n2_ := aK (Kd.R_below HO_118001.out hb); have n3_ := aK (Kd.R_below HO_118002.out hb); have n4_ := aK (Kd.R_below HO_127001.out hb); have n5_ := aK (Kd.R_below HO_127002.out hb); have n6_ := aK (Kd.R_below HO130.out hb); have n7_ := aK (Kd.R_below HO135.out hb); have n8_ := aK (Kd.R_below HO138.out hb); have GW140 := qw HB hg; have GE140 := qw HB hg; have NB108_140 := ql BK108 hg; have NB140_108 := qg BK108 hg; have NB117_140 := ql BK117 hg; have NB140_117 := qg BK117 hg; have NB126_140 := ql BK126 hg; have NB140_126 := qg BK126 hg; replace BK108 := qb BK108 hb; replace BK117 := qb BK117 hb; replace BK126 := qb BK126 hb; have BK140 := aK hbox; clear HO_109001; have HO_109001 := n0_; clear n0_; clear HO_109002; have HO_109002 := n1_; clear n1_; clear HO_118001; have HO_118001 := n2_; clear n2_; clear HO_118002; have HO_118002 := n3_; clear n3_; clear HO_127001; have HO_127001 := n4_; clear n4_; clear HO_127002; have HO_127002 := n5_; clear n5_; clear HO130; have HO130 := n6_; clear n6_; clear HO135; have HO135 := n7_; clear n7_; clear HO138; have HO138 := n8_; clear n8_; replace HB := qs HB hb; clear hb hbox hg; have hnb53 := NB140_108.out; have hnc53 := NB108_140.out; have hnb54 := NB140_117.out; have hnc54 := NB117_140.out; have hnb55 := NB140_126.out; have hnc55 := NB126_140.out; obtain ⟨hcz56_0, hcz56_1, hcz56_2, hfz56_0, hfz56_1, hfz56_2⟩ := cA3 BK140; obtain ⟨Ao57, co57, eo57⟩ := Kd.R_slice HO135.out; subst eo57; obtain ⟨Ao58, co58, eo58⟩ := Kd.R_slice HO138.out; subst eo58; obtain ⟨hcz59_0, hcz59_1, hcz59_2, hfz59_0, hfz59_1, hfz59_2⟩ := cA3 BK108) | ((with_reducible refine gate_callee (f := 15) rfl ?_); refine goesL_ (some 75) rfl rfl Tryd.func15 (by kernel_rfl) rfl #[.agg #[.int .i64 t101, .slice Ao10 t102.length co10, .slice Ao11 t105.length co11]] rfl tA ?_; (with_reducible refine (impl_MinorCollect.calls kj5 t101 _ _ t102 _ _ t105 t141 t142 t145 t148 _ ?side1 ?side2 ?side3 ?side4 A43.out).mono ?_); (case side1 => refine (Kd.R_reads' (e := 61) (base := w.heap.size) (ok := fun k_ => ((some k_ ≠ (.slice Ao16 t110.length co16 : Value).ownBlock ∧ some k_ ≠ (.slice Ao24 t119.length co24 : Value).ownBlock) ∧ some k_ ≠ (.slice Ao57 t133.length co57 : Value).ownBlock)) (n := t102.length) (c := co10) ?_).2.2; exact (by (with_reducible repeat (first | apply rA | apply rN | apply rD)); exact (Kd.R_mono (Kd.R_far (p := ⟨gb140, 2, none⟩) (Kd.R_far (p := ⟨gb140, 1, none⟩) (Kd.R_far (p := ⟨gb140, 0, none⟩) (Kd.R_types HO_109001.out BK140.out (by decide)) (fun _ hk => hk.2) (.int .i64 t132)) (fun _ hk => hk.2) (.slice Ao57 t133.length co57)) (fun _ hk => hk.2) (.slice Ao58 t136.length co58)) (fun _ h_ => h_.1)))); (case side2 => exact (Kd.R_reads' HO_109001.out).2.1); (case side3 => refine (Kd.R_reads' (e := 3) (base := w.heap.size) (ok := fun k_ => (((some k_ ≠ (.slice Ao17 t113.length co17 : Value).ownBlock ∧ some k_ ≠ (.slice Ao25 t122.length co25 : Value).ownBlock) ∧ some k_ ≠ (v129 : Value).ownBlock) ∧ some k_ ≠ (.slice Ao58 t136.length co58 : Value).ownBlock)) (n := t105.length) (c := co11) ?_).2.2; exact (by (with_reducible repeat (first | apply rA | apply rN | apply rD)); exact (Kd.R_mono (Kd.R_far (p := ⟨gb140, 2, none⟩) (Kd.R_far (p := ⟨gb140, 1, none⟩) (Kd.R_far (p := ⟨gb140, 0, none⟩) (Kd.R_types HO_109002.out BK140.out (by decide)) (fun _ hk => hk.2) (.int .i64 t132)) (fun _ hk => hk.2) (.slice Ao57 t133.length co57)) (fun _ hk => hk.2) (.slice Ao58 t136.length co58)) (fun _ h_ => h_.1)))); (case side4 => exact (Kd.R_reads' HO_109002.out).2.1); rintro e w60 ⟨v143, v146, rfl, ho0, ho1, hb⟩; refine ⟨_, rfl, ?_⟩; have n_ := aJ (aM (Kd.R_elder' (by (with_reducible repeat (first | apply rA | apply rN | apply rD)); exact (Kd.R_mono (Kd.R_far (p := ⟨gb140, 2, none⟩) (Kd.R_far (p := ⟨gb140, 1, none⟩) (Kd.R_far (p := ⟨gb140, 0, none⟩) (Kd.R_types HO_109001.out BK140.out (by decide)) (fun _ hk => hk.2) (.int .i64 t132)) (fun _ hk => hk.2) (.slice Ao57 t133.length co57)) (fun _ hk => hk.2) (.slice Ao58 t136.length co58)) (fun _ h_ => h_.1))) (Kd.R_base ho0) hb)) (aJ (aM (Kd.R_elder' (by (with_reducible repeat (first | apply rA | apply rN | apply rD)); exact (Kd.R_mono (Kd.R_far (p := ⟨gb140, 2, none⟩) (Kd.R_far (p := ⟨gb140, 1, none⟩) (Kd.R_far (p := ⟨gb140, 0, none⟩) (Kd.R_types HO_109002.out BK140.out (by decide)) (fun _ hk => hk.2) (.int .i64 t132)) (fun _ hk => hk.2) (.slice Ao57 t133.length co57)) (fun _ hk => hk.2) (.slice Ao58 t136.length co58)) (fun _ h_ => h_.1))) (Kd.R_base ho1) hb)) (aJ (aM (Kd.R_elder' (by (with_reducible repeat (first | apply rA | apply rN | apply rD)); exact (Kd.R_mono (Kd.R_far (p := ⟨gb140, 2, none⟩) (Kd.R_far (p := ⟨gb140, 1, none⟩) (Kd.R_far (p := ⟨gb140, 0, none⟩) (Kd.R_types HO_118001.out BK140.out (by decide)) (fun _ hk => hk.2) (.int .i64 t132)) (fun _ hk => hk.2) (.slice Ao57 t133.length co57)) (fun _ hk => hk.2) (.slice Ao58 t136.length co58)) (fun _ h_ => h_.1))) (Kd.R_base ho0) hb)) (aJ (aM (Kd.R_elder' (by (with_reducible repeat (first | apply rA | apply rN | apply rD)); exact (Kd.R_mono (Kd.R_far (p := ⟨gb140, 2, none⟩) (Kd.R_far (p := ⟨gb140, 1, none⟩) (Kd.R_far (p := ⟨gb140, 0, none⟩) (Kd.R_types HO_118002.out BK140.out (by decide)) (fun _ hk => hk.2) (.int .i64 t132)) (fun _ hk => hk.2) (.slice Ao57 t133.length co57)) (fun _ hk => hk.2) (.slice Ao58 t136.length co58)) (fun _ h_ => h_.1))) (Kd.R_base ho1) hb)) (aJ (aM (Kd.R_elder' (by (with_reducible repeat (first | apply rA | apply rN | apply rD)); exact (Kd.R_mono (Kd.R_far (p := ⟨gb140, 2, none⟩) (Kd.R_far (p := ⟨gb140, 1, none⟩) (Kd.R_far (p := ⟨gb140, 0, none⟩) (Kd.R_types HO_127001.out BK140.out (by decide)) (fun _ hk => hk.2) (.int .i64 t132)) (fun _ hk => hk.2) (.slice Ao57 t133.length co57)) (fun _ hk => hk.2) (.slice Ao58 t136.length co58)) (fun _ h_ => h_.1))) (Kd.R_base ho0) hb)) (aJ (aM (Kd.R_elder' (by (with_reducible repeat (first | apply rA | apply rN | apply rD)); exact (Kd.R_mono (Kd.R_far (p := ⟨gb140, 2, none⟩) (Kd.R_far (p := ⟨gb140, 1, none⟩) (Kd.R_far (p := ⟨gb140, 0, none⟩) (Kd.R_types HO_127002.out BK140.out (by decide)) (fun _ hk => hk.2) (.int .i64 t132)) (fun _ hk => hk.2) (.slice Ao57 t133.length co57)) (fun _ hk => hk.2) (.slice Ao58 t136.length co58)) (fun _ h_ => h_.1))) (Kd.R_base ho1) hb)) (aJ (aM (Kd.R_elder' (by (with_reducible repeat (first | apply rA | apply rN | apply rD)); exact (Kd.R_mono (Kd.R_far (p := ⟨gb140, 2, none⟩) (Kd.R_far (p := ⟨gb140, 1, none⟩) (Kd.R_far (p := ⟨gb140, 0, none⟩) (Kd.R_types HO130.out BK140.out (by decide)) (fun _ hk => hk.2) (.int .i64 t132)) (fun _ hk => hk.2) (.slice Ao57 t133.length co57)) (fun _ hk => hk.2) (.slice Ao58 t136.length co58)) (fun _ h_ => h_.1))) (Kd.R_base ho1) hb)) (aJ (aM (Kd.R_elder' (by (with_reducible repeat (first | apply rA | apply rN | apply rD)); exact (Kd.R_mono (Kd.R_far (p := ⟨gb140, 2, none⟩) (Kd.R_far (p := ⟨gb140, 1, none⟩) (Kd.R_far (p := ⟨gb140, 0, none⟩) (Kd.R_types HO135.out BK140.out (by decide)) (fun _ hk => hk.2) (.int .i64 t132)) (fun _ hk => hk.2) (.slice Ao57 t133.length co57)) (fun _ hk => hk.2) (.slice Ao58 t136.length co58)) (fun _ h_ => h_.1))) (Kd.R_base ho0) hb)) (aJ (aM (Kd.R_elder' (by (with_reducible repeat (first | apply rA | apply rN | apply rD)); exact (Kd.R_mono (Kd.R_far (p := ⟨gb140, 2, none⟩) (Kd.R_far (p := ⟨gb140, 1, none⟩) (Kd.R_far (p := ⟨gb140, 0, none⟩) (Kd.R_types HO138.out BK140.out (by decide)) (fun _ hk => hk.2) (.int .i64 t132)) (fun _ hk => hk.2) (.slice Ao57 t133.length co57)) (fun _ hk => hk.2) (.slice Ao58 t136.length co58)) (fun _ h_ => h_.1))) (Kd.R_base ho1) hb)) (aJ (aM (Kd.R_lower (Kd.R_new' (Kd.R_new' (Kd.R_new' (Kd.R_new' ho0 (Kd.R_lt (by (with_reducible repeat (first | apply rA | apply rN | apply rD)); exact (Kd.R_mono (Kd.R_far (p := ⟨gb140, 2, none⟩) (Kd.R_far (p := ⟨gb140, 1, none⟩) (Kd.R_far (p := ⟨gb140, 0, none⟩) (Kd.R_types HO_109001.out BK140.out (by decide)) (fun _ hk => hk.2) (.int .i64 t132)) (fun _ hk => hk.2) (.slice Ao57 t133.length co57)) (fun _ hk => hk.2) (.slice Ao58 t136.length co58)) (fun _ h_ => h_.1))))) (Kd.R_lt (by (with_reducible repeat (first | apply rA | apply rN | apply rD)); exact (Kd.R_mono (Kd.R_far (p := ⟨gb140, 2, none⟩) (Kd.R_far (p := ⟨gb140, 1, none⟩) (Kd.R_far (p := ⟨gb140, 0, none⟩) (Kd.R_types HO_118001.out BK140.out (by decide)) (fun _ hk => hk.2) (.int .i64 t132)) (fun _ hk => hk.2) (.slice Ao57 t133.length co57)) (fun _ hk => hk.2) (.slice Ao58 t136.length co58)) (fun _ h_ => h_.1))))) (Kd.R_lt (by (with_reducible repeat (first | apply rA | apply rN | apply rD)); exact (Kd.R_mono (Kd.R_far (p := ⟨gb140, 2, none⟩) (Kd.R_far (p := ⟨gb140, 1, none⟩) (Kd.R_far (p := ⟨gb140, 0, none⟩) (Kd.R_types HO_127001.out BK140.out (by decide)) (fun _ hk => hk.2) (.int .i64 t132)) (fun _ hk => hk.2) (.slice Ao57 t133.length co57)) (fun _ hk => hk.2) (.slice Ao58 t136.length co58)) (fun _ h_ => h_.1))))) (Kd.R_lt (by (with_reducible repeat (first | apply rA | apply rN | apply rD)); exact (Kd.R_mono (Kd.R_far (p := ⟨gb140, 2, none⟩) (Kd.R_far (p := ⟨gb140, 1, none⟩) (Kd.R_far (p := ⟨gb140, 0, none⟩) (Kd.R_types HO135.out BK140.out (by decide)) (fun _ hk => hk.2) (.int .i64 t132)) (fun _ hk => hk.2) (.slice Ao57 t133.length co57)) (fun _ hk => hk.2) (.slice Ao58 t136.length co58)) (fun _ h_ => h_.1))))) (below_size (pH HB)))) (aJ (aM (Kd.R_lower (Kd.R_new' (Kd.R_new' (Kd.R_new' (Kd.R_new' (Kd.R_new' ho1 (Kd.R_lt (by (with_reducible repeat (first | apply rA | apply rN | apply rD)); exact (Kd.R_mono (Kd.R_far (p := ⟨gb140, 2, none⟩) (Kd.R_far (p := ⟨gb140, 1, none⟩) (Kd.R_far (p := ⟨gb140, 0, none⟩) (Kd.R_types HO_109002.out BK140.out (by decide)) (fun _ hk => hk.2) (.int .i64 t132)) (fun _ hk => hk.2) (.slice Ao57 t133.length co57)) (fun _ hk => hk.2) (.slice Ao58 t136.length co58)) (fun _ h_ => h_.1))))) (Kd.R_lt (by (with_reducible repeat (first | apply rA | apply rN | apply rD)); exact (Kd.R_mono (Kd.R_far (p := ⟨gb140, 2, none⟩) (Kd.R_far (p := ⟨gb140, 1, none⟩) (Kd.R_far (p := ⟨gb140, 0, none⟩) (Kd.R_types HO_118002.out BK140.out (by decide)) (fun _ hk => hk.2) (.int .i64 t132)) (fun _ hk => hk.2) (.slice Ao57 t133.length co57)) (fun _ hk => hk.2) (.slice Ao58 t136.length co58)) (fun _ h_ => h_.1))))) (Kd.R_lt (by (with_reducible repeat (first | apply rA | apply rN | apply rD)); exact (Kd.R_mono (Kd.R_far (p := ⟨gb140, 2, none⟩) (Kd.R_far (p := ⟨gb140, 1, none⟩) (Kd.R_far (p := ⟨gb140, 0, none⟩) (Kd.R_types HO_127002.out BK140.out (by decide)) (fun _ hk => hk.2) (.int .i64 t132)) (fun _ hk => hk.2) (.slice Ao57 t133.length co57)) (fun _ hk => hk.2) (.slice Ao58 t136.length co58)) (fun _ h_ => h_.1))))) (Kd.R_lt (by (with_reducible repeat (first | apply rA | apply rN | apply rD)); exact (Kd.R_mono (Kd.R_far (p := ⟨gb140, 2, none⟩) (Kd.R_far (p := ⟨gb140, 1, none⟩) (Kd.R_far (p := ⟨gb140, 0, none⟩) (Kd.R_types HO130.out BK140.out (by decide)) (fun _ hk => hk.2) (.int .i64 t132)) (fun _ hk => hk.2) (.slice Ao57 t133.length co57)) (fun _ hk => hk.2) (.slice Ao58 t136.length co58)) (fun _ h_ => h_.1))))) (Kd.R_lt (by (with_reducible repeat (first | apply rA | apply rN | apply rD)); exact (Kd.R_mono (Kd.R_far (p := ⟨gb140, 2, none⟩) (Kd.R_far (p := ⟨gb140, 1, none⟩) (Kd.R_far (p := ⟨gb140, 0, none⟩) (Kd.R_types HO138.out BK140.out (by decide)) (fun _ hk => hk.2) (.int .i64 t132)) (fun _ hk => hk.2) (.slice Ao57 t133.length co57)) (fun _ hk => hk.2) (.slice Ao58 t136.length co58)) (fun _ h_ => h_.1))))) (below_size (pH HB)))) (aJ (aM (blk_below (g := gb108) (o := .cells #[.int .i64 t101, .slice Ao10 t102.length co10, .slice Ao11 t105.length co11] 31 (0, 0)) (by (repeat first | with_reducible apply zN | with_reducible apply zD | with_reducible apply zA | refine blk_far ?_ NB108_140.out _); exact BK108.out) hb)) (aJ (aM (blk_below (g := gb117) (o := .cells #[.int .i64 t109, .slice Ao16 t110.length co16, .slice Ao17 t113.length co17] 31 (0, 0)) (by (repeat first | with_reducible apply zN | with_reducible apply zD | with_reducible apply zA | refine blk_far ?_ NB117_140.out _); exact BK117.out) hb)) (aJ (aM (blk_below (g := gb126) (o := .cells #[.int .i64 t118, .slice Ao24 t119.length co24, .slice Ao25 t122.length co25] 31 (0, 0)) (by (repeat first | with_reducible apply zN | with_reducible apply zD | with_reducible apply zA | refine blk_far ?_ NB126_140.out _); exact BK126.out) hb)) (aJ (aM (blk_below (g := gb140) (o := .cells #[.int .i64 t132, .slice Ao57 t133.length co57, .slice Ao58 t136.length co58] 31 (0, 0)) (p3 BK140) hb)) (aM (below_step (pH HB) hb)))))))))))))))); clear HO_109001 HO_109002 HO_118001 HO_118002 HO_127001 HO_127002 HO130 HO135 HO138 BK108 BK117 BK126 BK140 HB; obtain ⟨HO_109001, HO_109002, HO_118001, HO_118002, HO_127001, HO_127002, HO130, HO135, HO138, HO144, HO147, BK108, BK117, BK126, BK140, HB⟩ := n_; (try clear hb); (try clear ho0); (try clear ho1)) | ((with_reducible refine gate_dst (N := 12) rfl ?_); (try (refine gate_guard (by rfl) ?_; dsimp only)); refine bE (N := 12) (cs := #[.int .i64 0, .slice none 0 0, .slice none 0 0]) (t := 31) ?_; intro gb149 hg w61 hbox hb; have n0_ := aK (Kd.R_below HO_109001.out hb); have n1_ := aK (Kd.R_below HO_109002.out hb); have n2_ := aK (Kd.R_below HO_118001.out hb); have n3_ := aK (Kd.R_below HO_118002.out hb); have n4_ := aK (Kd.R_below HO_127001.out hb); have n5_ := aK (Kd.R_below HO_127002.out hb); have n6_ := aK (Kd.R_below HO130.out hb); have n7_ := aK (Kd.R_below HO135.out hb); have n8_ := aK (Kd.R_below HO138.out hb); have n9_ := aK (Kd.R_below HO144.out hb); have n10_ := aK (Kd.R_below HO147.out hb); have GW149 := qw HB hg; have GE149 := qw HB hg; have NB108_149 := ql BK108 hg; have NB149_108 := qg BK108 hg; have NB117_149 := ql BK117 hg; have NB149_117 := qg BK117 hg; have NB126_149 := ql BK126 hg; have NB149_126 := qg BK126 hg; have NB140_149 := ql BK140 hg; have NB149_140 := qg BK140 hg; replace BK108 := qb BK108 hb; replace BK117 := qb BK117 hb; replace BK126 := qb BK126 hb; replace BK140 := qb BK140 hb; have BK149 := aK hbox; clear HO_109001; have HO_109001 := n0_; clear n0_; clear HO_109002; have HO_109002 := n1_; clear n1_; clear HO_118001; have HO_118001 := n2_; clear n2_; clear HO_118002; have HO_118002 := n3_; clear n3_; clear HO_127001; have HO_127001 := n4_; clear n4_; clear HO_127002; have HO_127002 := n5_; clear n5_; clear HO130; have HO130 := n6_; clear n6_; clear HO135; have HO135 := n7_; clear n7_; clear HO138; have HO138 := n8_; clear n8_; clear HO144; have HO144 := n9_; clear n9_; clear HO147; have HO147 := n10_; clear n10_; replace HB := qs HB hb; clear hb hbox hg; have hnb62 := NB149_108.out; have hnc62 := NB108_149.out; have hnb63 := NB149_117.out; have hnc63 := NB117_149.out; have hnb64 := NB149_126.out; have hnc64 := NB126_149.out; have hnb65 := NB149_140.out; have hnc65 := NB140_149.out; obtain ⟨hcz66_0, hcz66_1, hcz66_2, hfz66_0, hfz66_1, hfz66_2⟩ := cA3 BK149; obtain ⟨Ao67, co67, eo67⟩ := Kd.R_slice HO144.out; subst eo67; obtain ⟨Ao68, co68, eo68⟩ := Kd.R_slice HO147.out; subst eo68))
       (try simp only [Act.put, List.setIfInBounds_toArray, List.set_cons_zero, List.set_cons_succ])
       go_cut [123] (fun v123 wc => ∃ (kq : Nat) (x123_43 : Bool), v123 = .bool x123_43 ∧ Aside0 (laws_FnReached.j1 kq x123_43 t101 t102 t105 t109 t110 t113 t141 t142 t145 = some r) ∧ Aside0 (kq ≤ kj5) ∧ Aside0 (Kd.R k61 61 wc w.heap.size (fun k_ => some k_ ≠ ((.slice Ao16 t110.length co16) : Value).ownBlock ∧ some k_ ≠ ((.slice Ao24 t119.length co24) : Value).ownBlock ∧ some k_ ≠ ((.slice Ao57 t133.length co57) : Value).ownBlock ∧ some k_ ≠ ((.slice Ao67 t142.length co67) : Value).ownBlock) (.slice Ao10 t102.length co10) t102) ∧ Aside0 (Kd.R (Kd.int .i64) 3 wc w.heap.size (fun k_ => some k_ ≠ ((.slice Ao17 t113.length co17) : Value).ownBlock ∧ some k_ ≠ ((.slice Ao25 t122.length co25) : Value).ownBlock ∧ some k_ ≠ ((.slice Ao58 t136.length co58) : Value).ownBlock ∧ some k_ ≠ ((.slice Ao68 t145.length co68) : Value).ownBlock) (.slice Ao11 t105.length co11) t105) ∧ Aside0 (Kd.R k61 61 wc w.heap.size (fun k_ => some k_ ≠ ((.slice Ao10 t102.length co10) : Value).ownBlock ∧ some k_ ≠ ((.slice Ao24 t119.length co24) : Value).ownBlock ∧ some k_ ≠ ((.slice Ao57 t133.length co57) : Value).ownBlock ∧ some k_ ≠ ((.slice Ao67 t142.length co67) : Value).ownBlock) (.slice Ao16 t110.length co16) t110) ∧ Aside0 (Kd.R (Kd.int .i64) 3 wc w.heap.size (fun k_ => some k_ ≠ ((.slice Ao11 t105.length co11) : Value).ownBlock ∧ some k_ ≠ ((.slice Ao25 t122.length co25) : Value).ownBlock ∧ some k_ ≠ ((.slice Ao58 t136.length co58) : Value).ownBlock ∧ some k_ ≠ ((.slice Ao68 t145.length co68) : Value).ownBlock) (.slice Ao17 t113.length co17) t113) ∧ Aside0 (Kd.R k61 61 wc w.heap.size (fun k_ => some k_ ≠ ((.slice Ao10 t102.length co10) : Value).ownBlock ∧ some k_ ≠ ((.slice Ao16 t110.length co16) : Value).ownBlock ∧ some k_ ≠ ((.slice Ao57 t133.length co57) : Value).ownBlock ∧ some k_ ≠ ((.slice Ao67 t142.length co67) : Value).ownBlock) (.slice Ao24 t119.length co24) t119) ∧ Aside0 (Kd.R (Kd.int .i64) 3 wc w.heap.size (fun k_ => some k_ ≠ ((.slice Ao11 t105.length co11) : Value).ownBlock ∧ some k_ ≠ ((.slice Ao17 t113.length co17) : Value).ownBlock ∧ some k_ ≠ ((.slice Ao58 t136.length co58) : Value).ownBlock ∧ some k_ ≠ ((.slice Ao68 t145.length co68) : Value).ownBlock) (.slice Ao25 t122.length co25) t122) ∧ Aside0 (Kd.R k61 61 wc w.heap.size (fun k_ => some k_ ≠ ((.slice Ao10 t102.length co10) : Value).ownBlock ∧ some k_ ≠ ((.slice Ao16 t110.length co16) : Value).ownBlock ∧ some k_ ≠ ((.slice Ao24 t119.length co24) : Value).ownBlock ∧ some k_ ≠ ((.slice Ao67 t142.length co67) : Value).ownBlock) (.slice Ao57 t133.length co57) t133) ∧ Aside0 (Kd.R (Kd.int .i64) 3 wc w.heap.size (fun k_ => some k_ ≠ ((.slice Ao11 t105.length co11) : Value).ownBlock ∧ some k_ ≠ ((.slice Ao17 t113.length co17) : Value).ownBlock ∧ some k_ ≠ ((.slice Ao25 t122.length co25) : Value).ownBlock ∧ some k_ ≠ ((.slice Ao68 t145.length co68) : Value).ownBlock) (.slice Ao58 t136.length co58) t136) ∧ Aside0 (Kd.R k61 61 wc w.heap.size (fun k_ => some k_ ≠ ((.slice Ao10 t102.length co10) : Value).ownBlock ∧ some k_ ≠ ((.slice Ao16 t110.length co16) : Value).ownBlock ∧ some k_ ≠ ((.slice Ao24 t119.length co24) : Value).ownBlock ∧ some k_ ≠ ((.slice Ao57 t133.length co57) : Value).ownBlock) (.slice Ao67 t142.length co67) t142) ∧ Aside0 (Kd.R (Kd.int .i64) 3 wc w.heap.size (fun k_ => some k_ ≠ ((.slice Ao11 t105.length co11) : Value).ownBlock ∧ some k_ ≠ ((.slice Ao17 t113.length co17) : Value).ownBlock ∧ some k_ ≠ ((.slice Ao25 t122.length co25) : Value).ownBlock ∧ some k_ ≠ ((.slice Ao58 t136.length co58) : Value).ownBlock) (.slice Ao68 t145.length co68) t145) ∧ Aside0 (wc.heap[gb108]? = some (.cells #[.int .i64 t101, (.slice Ao10 t102.length co10), (.slice Ao11 t105.length co11)] 31 (0, 0))) ∧ Aside0 (wc.heap[gb117]? = some (.cells #[.int .i64 t109, (.slice Ao16 t110.length co16), (.slice Ao17 t113.length co17)] 31 (0, 0))) ∧ Aside0 (wc.heap[gb126]? = some (.cells #[.int .i64 t118, (.slice Ao24 t119.length co24), (.slice Ao25 t122.length co25)] 31 (0, 0))) ∧ Aside0 (wc.heap[gb140]? = some (.cells #[.int .i64 t132, (.slice Ao57 t133.length co57), (.slice Ao58 t136.length co58)] 31 (0, 0))) ∧ Aside0 (wc.heap[gb149]? = some (.cells #[.int .i64 t141, (.slice Ao67 t142.length co67), (.slice Ao68 t145.length co68)] 31 (0, 0))) ∧ Aside0 (Below w.heap.size w wc))
       case first =>
        have H := HC44.out
        clear HC44
        by_cases c69 : t131 = true
        ·subst c69
         rw [if_pos rfl] at H
         by_cases c70 : t139 = true
         ·subst c70
          rw [if_pos rfl] at H
          by_cases c71 : t148 = true
          ·subst c71
           rw [if_pos rfl] at H
           by_cases c72 : (t128.length : Int) = (t110.length : Int)
           ·rw [if_pos c72] at H
            have c72b0 : ((t128.length : Int) == (t110.length : Int)) = true := beq_iff_eq.mpr c72
            have c72b1 : ((t128.length : Int) != (t110.length : Int)) = false := bne_eq_false_iff_eq.mpr c72
            have c72b2 : (t128.length == t110.length) = true := by first | simpa using c72 | (simp at c72 ⊢; omega)
            clear c72
            (first | rw [c72b0] | (simp only [i64_w, i32_w]; rw [c72b0]) | skip)
            by_cases c73 : (t133.length : Int) = (t110.length : Int)
            ·rw [if_pos c73] at H
             have c73b0 : ((t133.length : Int) == (t110.length : Int)) = true := beq_iff_eq.mpr c73
             have c73b1 : ((t133.length : Int) != (t110.length : Int)) = false := bne_eq_false_iff_eq.mpr c73
             have c73b2 : (t133.length == t110.length) = true := by first | simpa using c73 | (simp at c73 ⊢; omega)
             clear c73
             by_cases c74 : (t142.length : Int) < (t110.length : Int)
             ·rw [if_pos c74] at H
              have c74b0 : decide ((t142.length : Int) < (t110.length : Int)) = true := decide_eq_true c74
              have c74b1 : decide (t142.length < t110.length) = true := decide_eq_true (Int.ofNat_lt.mp c74)
              clear c74
              have H' := aM H
              clear H
              obtain ⟨Ao75, co75, eo75⟩ := Kd.R_slice HO130.out
              subst eo75
              have hnb76 := NB117_108.out
              have hnc76 := NB108_117.out
              have hnb77 := NB117_126.out
              have hnc77 := NB126_117.out
              have hnb78 := NB117_140.out
              have hnc78 := NB140_117.out
              have hnb79 := NB117_149.out
              have hnc79 := NB149_117.out
              obtain ⟨hcz80_0, hcz80_1, hcz80_2, hfz80_0, hfz80_1, hfz80_2⟩ := cA3 BK117
              have hnb81 := NB140_108.out
              have hnc81 := NB108_140.out
              have hnb82 := NB140_126.out
              have hnc82 := NB126_140.out
              have hnb83 := NB140_149.out
              have hnc83 := NB149_140.out
              obtain ⟨hcz84_0, hcz84_1, hcz84_2, hfz84_0, hfz84_1, hfz84_2⟩ := cA3 BK140
              have hnb85 := NB149_108.out
              have hnc85 := NB108_149.out
              have hnb86 := NB149_126.out
              have hnc86 := NB126_149.out
              obtain ⟨hcz87_0, hcz87_1, hcz87_2, hfz87_0, hfz87_1, hfz87_2⟩ := cA3 BK149
              go_wp2
              go_meet
              case rel => exact ⟨_, (true), rS, H', ⟨by have := HJ5.out; first | omega | exact Nat.le_refl _⟩, ⟨by (with_reducible repeat (first | apply rA | apply rN | apply rD)); exact Kd.R_mono (Kd.R_far (p := ⟨gb149, 2, none⟩) (Kd.R_far (p := ⟨gb149, 1, none⟩) (Kd.R_far (p := ⟨gb149, 0, none⟩) (Kd.R_types HO_109001.out BK149.out (by decide)) (fun _ hk => hk.2) (.int .i64 t141)) (fun _ hk => hk.2) (.slice Ao67 t142.length co67)) (fun _ hk => hk.2) (.slice Ao68 t145.length co68)) (fun _ hk => ⟨hk.1.1.1.1, ⟨hk.1.1.1.2, ⟨hk.1.1.2, hk.1.2⟩⟩⟩)⟩, ⟨by (with_reducible repeat (first | apply rA | apply rN | apply rD)); exact Kd.R_mono (Kd.R_far (p := ⟨gb149, 2, none⟩) (Kd.R_far (p := ⟨gb149, 1, none⟩) (Kd.R_far (p := ⟨gb149, 0, none⟩) (Kd.R_types HO_109002.out BK149.out (by decide)) (fun _ hk => hk.2) (.int .i64 t141)) (fun _ hk => hk.2) (.slice Ao67 t142.length co67)) (fun _ hk => hk.2) (.slice Ao68 t145.length co68)) (fun _ hk => ⟨hk.1.1.1.1.1, ⟨hk.1.1.1.1.2, ⟨hk.1.1.2, hk.1.2⟩⟩⟩)⟩, ⟨by (with_reducible repeat (first | apply rA | apply rN | apply rD)); exact Kd.R_mono (Kd.R_far (p := ⟨gb149, 2, none⟩) (Kd.R_far (p := ⟨gb149, 1, none⟩) (Kd.R_far (p := ⟨gb149, 0, none⟩) (Kd.R_types HO_118001.out BK149.out (by decide)) (fun _ hk => hk.2) (.int .i64 t141)) (fun _ hk => hk.2) (.slice Ao67 t142.length co67)) (fun _ hk => hk.2) (.slice Ao68 t145.length co68)) (fun _ hk => ⟨hk.1.1.1.1, ⟨hk.1.1.1.2, ⟨hk.1.1.2, hk.1.2⟩⟩⟩)⟩, ⟨by (with_reducible repeat (first | apply rA | apply rN | apply rD)); exact Kd.R_mono (Kd.R_far (p := ⟨gb149, 2, none⟩) (Kd.R_far (p := ⟨gb149, 1, none⟩) (Kd.R_far (p := ⟨gb149, 0, none⟩) (Kd.R_types HO_118002.out BK149.out (by decide)) (fun _ hk => hk.2) (.int .i64 t141)) (fun _ hk => hk.2) (.slice Ao67 t142.length co67)) (fun _ hk => hk.2) (.slice Ao68 t145.length co68)) (fun _ hk => ⟨hk.1.1.1.1.1, ⟨hk.1.1.1.1.2, ⟨hk.1.1.2, hk.1.2⟩⟩⟩)⟩, ⟨by (with_reducible repeat (first | apply rA | apply rN | apply rD)); exact Kd.R_mono (Kd.R_far (p := ⟨gb149, 2, none⟩) (Kd.R_far (p := ⟨gb149, 1, none⟩) (Kd.R_far (p := ⟨gb149, 0, none⟩) (Kd.R_types HO_127001.out BK149.out (by decide)) (fun _ hk => hk.2) (.int .i64 t141)) (fun _ hk => hk.2) (.slice Ao67 t142.length co67)) (fun _ hk => hk.2) (.slice Ao68 t145.length co68)) (fun _ hk => ⟨hk.1.1.1.1, ⟨hk.1.1.1.2, ⟨hk.1.1.2, hk.1.2⟩⟩⟩)⟩, ⟨by (with_reducible repeat (first | apply rA | apply rN | apply rD)); exact Kd.R_mono (Kd.R_far (p := ⟨gb149, 2, none⟩) (Kd.R_far (p := ⟨gb149, 1, none⟩) (Kd.R_far (p := ⟨gb149, 0, none⟩) (Kd.R_types HO_127002.out BK149.out (by decide)) (fun _ hk => hk.2) (.int .i64 t141)) (fun _ hk => hk.2) (.slice Ao67 t142.length co67)) (fun _ hk => hk.2) (.slice Ao68 t145.length co68)) (fun _ hk => ⟨hk.1.1.1.1.1, ⟨hk.1.1.1.1.2, ⟨hk.1.1.2, hk.1.2⟩⟩⟩)⟩, ⟨by (with_reducible repeat (first | apply rA | apply rN | apply rD)); exact Kd.R_mono (Kd.R_far (p := ⟨gb149, 2, none⟩) (Kd.R_far (p := ⟨gb149, 1, none⟩) (Kd.R_far (p := ⟨gb149, 0, none⟩) (Kd.R_types HO135.out BK149.out (by decide)) (fun _ hk => hk.2) (.int .i64 t141)) (fun _ hk => hk.2) (.slice Ao67 t142.length co67)) (fun _ hk => hk.2) (.slice Ao68 t145.length co68)) (fun _ hk => ⟨hk.1.1.1.1.2, ⟨hk.1.1.1.2, ⟨hk.1.1.2, hk.1.2⟩⟩⟩)⟩, ⟨by (with_reducible repeat (first | apply rA | apply rN | apply rD)); exact Kd.R_mono (Kd.R_far (p := ⟨gb149, 2, none⟩) (Kd.R_far (p := ⟨gb149, 1, none⟩) (Kd.R_far (p := ⟨gb149, 0, none⟩) (Kd.R_types HO138.out BK149.out (by decide)) (fun _ hk => hk.2) (.int .i64 t141)) (fun _ hk => hk.2) (.slice Ao67 t142.length co67)) (fun _ hk => hk.2) (.slice Ao68 t145.length co68)) (fun _ hk => ⟨hk.1.1.1.1.1.2, ⟨hk.1.1.1.1.2, ⟨hk.1.1.1.2, hk.1.2⟩⟩⟩)⟩, ⟨by (with_reducible repeat (first | apply rA | apply rN | apply rD)); exact Kd.R_mono (Kd.R_far (p := ⟨gb149, 2, none⟩) (Kd.R_far (p := ⟨gb149, 1, none⟩) (Kd.R_far (p := ⟨gb149, 0, none⟩) (Kd.R_types HO144.out BK149.out (by decide)) (fun _ hk => hk.2) (.int .i64 t141)) (fun _ hk => hk.2) (.slice Ao67 t142.length co67)) (fun _ hk => hk.2) (.slice Ao68 t145.length co68)) (fun _ hk => ⟨hk.1.1.1.1.2, ⟨hk.1.1.1.2, ⟨hk.1.1.2, hk.1.2⟩⟩⟩)⟩, ⟨by (with_reducible repeat (first | apply rA | apply rN | apply rD)); exact Kd.R_mono (Kd.R_far (p := ⟨gb149, 2, none⟩) (Kd.R_far (p := ⟨gb149, 1, none⟩) (Kd.R_far (p := ⟨gb149, 0, none⟩) (Kd.R_types HO147.out BK149.out (by decide)) (fun _ hk => hk.2) (.int .i64 t141)) (fun _ hk => hk.2) (.slice Ao67 t142.length co67)) (fun _ hk => hk.2) (.slice Ao68 t145.length co68)) (fun _ hk => ⟨hk.1.1.1.1.1.2, ⟨hk.1.1.1.1.2, ⟨hk.1.1.1.2, hk.1.2⟩⟩⟩)⟩, ⟨by (repeat first | with_reducible apply zN | with_reducible apply zD | with_reducible apply zA | refine blk_far ?_ NB108_149.out _); exact BK108.out⟩, ⟨by (repeat first | with_reducible apply zN | with_reducible apply zD | with_reducible apply zA | refine blk_far ?_ NB117_149.out _); exact BK117.out⟩, ⟨by (repeat first | with_reducible apply zN | with_reducible apply zD | with_reducible apply zA | refine blk_far ?_ NB126_149.out _); exact BK126.out⟩, ⟨by (repeat first | with_reducible apply zN | with_reducible apply zD | with_reducible apply zA | refine blk_far ?_ NB140_149.out _); exact BK140.out⟩, ⟨p3 BK149⟩, ⟨pH HB⟩⟩
             ·rw [if_neg c74] at H
              have c74b0 : decide ((t142.length : Int) < (t110.length : Int)) = false := decide_eq_false c74
              have c74b1 : decide (t142.length < t110.length) = false := decide_eq_false (fun h => c74 (Int.ofNat_lt.mpr h))
              clear c74
              replace H := Option.bind_eq_some_iff.mp H
              obtain ⟨t150, A880, H⟩ := H
              try dsimp only at H
              have A88 := aM A880
              clear A880
              by_cases c89 : t150 = true
              ·subst c89
               rw [if_pos rfl] at H
               replace H := Option.bind_eq_some_iff.mp H
               obtain ⟨t151, A900, H⟩ := H
               try dsimp only at H
               have A90 := aM A900
               clear A900
               have H' := aM H
               clear H
               obtain ⟨Ao91, co91, eo91⟩ := Kd.R_slice HO130.out
               subst eo91
               have hnb92 := NB117_108.out
               have hnc92 := NB108_117.out
               have hnb93 := NB117_126.out
               have hnc93 := NB126_117.out
               have hnb94 := NB117_140.out
               have hnc94 := NB140_117.out
               have hnb95 := NB117_149.out
               have hnc95 := NB149_117.out
               obtain ⟨hcz96_0, hcz96_1, hcz96_2, hfz96_0, hfz96_1, hfz96_2⟩ := cA3 BK117
               have hnb97 := NB140_108.out
               have hnc97 := NB108_140.out
               have hnb98 := NB140_126.out
               have hnc98 := NB126_140.out
               have hnb99 := NB140_149.out
               have hnc99 := NB149_140.out
               obtain ⟨hcz100_0, hcz100_1, hcz100_2, hfz100_0, hfz100_1, hfz100_2⟩ := cA3 BK140
               have hnb101 := NB149_108.out
               have hnc101 := NB108_149.out
               have hnb102 := NB149_126.out
               have hnc102 := NB126_149.out
               obtain ⟨hcz103_0, hcz103_1, hcz103_2, hfz103_0, hfz103_1, hfz103_2⟩ := cA3 BK149
               go_wp2_with (first | (go_at_call 16; (with_reducible refine (impl_GoodHeap.calls kj5 t109 _ _ t110 _ _ t113 true _ ?side1 ?side2 ?side3 ?side4 A88.out).mono ?_); (case side1 => refine (Kd.R_reads' (e := 61) (base := w.heap.size) (ok := fun k_ => (((some k_ ≠ (.slice Ao10 t102.length co10 : Value).ownBlock ∧ some k_ ≠ (.slice Ao24 t119.length co24 : Value).ownBlock) ∧ some k_ ≠ (.slice Ao57 t133.length co57 : Value).ownBlock) ∧ some k_ ≠ (.slice Ao67 t142.length co67 : Value).ownBlock)) (n := t110.length) (c := co16) ?_).2.2; exact (by (with_reducible repeat (first | apply rA | apply rN | apply rD)); exact (Kd.R_mono (Kd.R_far (p := ⟨gb149, 2, none⟩) (Kd.R_far (p := ⟨gb149, 1, none⟩) (Kd.R_far (p := ⟨gb149, 0, none⟩) (Kd.R_types HO_118001.out BK149.out (by decide)) (fun _ hk => hk.2) (.int .i64 t141)) (fun _ hk => hk.2) (.slice Ao67 t142.length co67)) (fun _ hk => hk.2) (.slice Ao68 t145.length co68)) (fun _ h_ => h_.1)))); (case side2 => exact (Kd.R_reads' HO_118001.out).2.1); (case side3 => refine (Kd.R_reads' (e := 3) (base := w.heap.size) (ok := fun k_ => ((((some k_ ≠ (.slice Ao11 t105.length co11 : Value).ownBlock ∧ some k_ ≠ (.slice Ao25 t122.length co25 : Value).ownBlock) ∧ some k_ ≠ (.slice Ao91 t128.length co91 : Value).ownBlock) ∧ some k_ ≠ (.slice Ao58 t136.length co58 : Value).ownBlock) ∧ some k_ ≠ (.slice Ao68 t145.length co68 : Value).ownBlock)) (n := t113.length) (c := co17) ?_).2.2; exact (by (with_reducible repeat (first | apply rA | apply rN | apply rD)); exact (Kd.R_mono (Kd.R_far (p := ⟨gb149, 2, none⟩) (Kd.R_far (p := ⟨gb149, 1, none⟩) (Kd.R_far (p := ⟨gb149, 0, none⟩) (Kd.R_types HO_118002.out BK149.out (by decide)) (fun _ hk => hk.2) (.int .i64 t141)) (fun _ hk => hk.2) (.slice Ao67 t142.length co67)) (fun _ hk => hk.2) (.slice Ao68 t145.length co68)) (fun _ h_ => h_.1)))); (case side4 => exact (Kd.R_reads' HO_118002.out).2.1); rintro e w104 ⟨rfl, hb⟩; have n_ := aJ (aM (Kd.R_below (by (with_reducible repeat (first | apply rA | apply rN | apply rD)); exact (Kd.R_mono (Kd.R_far (p := ⟨gb149, 2, none⟩) (Kd.R_far (p := ⟨gb149, 1, none⟩) (Kd.R_far (p := ⟨gb149, 0, none⟩) (Kd.R_types HO_109001.out BK149.out (by decide)) (fun _ hk => hk.2) (.int .i64 t141)) (fun _ hk => hk.2) (.slice Ao67 t142.length co67)) (fun _ hk => hk.2) (.slice Ao68 t145.length co68)) (fun _ h_ => h_.1))) hb)) (aJ (aM (Kd.R_below (by (with_reducible repeat (first | apply rA | apply rN | apply rD)); exact (Kd.R_mono (Kd.R_far (p := ⟨gb149, 2, none⟩) (Kd.R_far (p := ⟨gb149, 1, none⟩) (Kd.R_far (p := ⟨gb149, 0, none⟩) (Kd.R_types HO_109002.out BK149.out (by decide)) (fun _ hk => hk.2) (.int .i64 t141)) (fun _ hk => hk.2) (.slice Ao67 t142.length co67)) (fun _ hk => hk.2) (.slice Ao68 t145.length co68)) (fun _ h_ => h_.1))) hb)) (aJ (aM (Kd.R_below (by (with_reducible repeat (first | apply rA | apply rN | apply rD)); exact (Kd.R_mono (Kd.R_far (p := ⟨gb149, 2, none⟩) (Kd.R_far (p := ⟨gb149, 1, none⟩) (Kd.R_far (p := ⟨gb149, 0, none⟩) (Kd.R_types HO_118001.out BK149.out (by decide)) (fun _ hk => hk.2) (.int .i64 t141)) (fun _ hk => hk.2) (.slice Ao67 t142.length co67)) (fun _ hk => hk.2) (.slice Ao68 t145.length co68)) (fun _ h_ => h_.1))) hb)) (aJ (aM (Kd.R_below (by (with_reducible repeat (first | apply rA | apply rN | apply rD)); exact (Kd.R_mono (Kd.R_far (p := ⟨gb149, 2, none⟩) (Kd.R_far (p := ⟨gb149, 1, none⟩) (Kd.R_far (p := ⟨gb149, 0, none⟩) (Kd.R_types HO_118002.out BK149.out (by decide)) (fun _ hk => hk.2) (.int .i64 t141)) (fun _ hk => hk.2) (.slice Ao67 t142.length co67)) (fun _ hk => hk.2) (.slice Ao68 t145.length co68)) (fun _ h_ => h_.1))) hb)) (aJ (aM (Kd.R_below (by (with_reducible repeat (first | apply rA | apply rN | apply rD)); exact (Kd.R_mono (Kd.R_far (p := ⟨gb149, 2, none⟩) (Kd.R_far (p := ⟨gb149, 1, none⟩) (Kd.R_far (p := ⟨gb149, 0, none⟩) (Kd.R_types HO_127001.out BK149.out (by decide)) (fun _ hk => hk.2) (.int .i64 t141)) (fun _ hk => hk.2) (.slice Ao67 t142.length co67)) (fun _ hk => hk.2) (.slice Ao68 t145.length co68)) (fun _ h_ => h_.1))) hb)) (aJ (aM (Kd.R_below (by (with_reducible repeat (first | apply rA | apply rN | apply rD)); exact (Kd.R_mono (Kd.R_far (p := ⟨gb149, 2, none⟩) (Kd.R_far (p := ⟨gb149, 1, none⟩) (Kd.R_far (p := ⟨gb149, 0, none⟩) (Kd.R_types HO_127002.out BK149.out (by decide)) (fun _ hk => hk.2) (.int .i64 t141)) (fun _ hk => hk.2) (.slice Ao67 t142.length co67)) (fun _ hk => hk.2) (.slice Ao68 t145.length co68)) (fun _ h_ => h_.1))) hb)) (aJ (aM (Kd.R_below (by (with_reducible repeat (first | apply rA | apply rN | apply rD)); exact (Kd.R_mono (Kd.R_far (p := ⟨gb149, 2, none⟩) (Kd.R_far (p := ⟨gb149, 1, none⟩) (Kd.R_far (p := ⟨gb149, 0, none⟩) (Kd.R_types HO130.out BK149.out (by decide)) (fun _ hk => hk.2) (.int .i64 t141)) (fun _ hk => hk.2) (.slice Ao67 t142.length co67)) (fun _ hk => hk.2) (.slice Ao68 t145.length co68)) (fun _ h_ => h_.1))) hb)) (aJ (aM (Kd.R_below (by (with_reducible repeat (first | apply rA | apply rN | apply rD)); exact (Kd.R_mono (Kd.R_far (p := ⟨gb149, 2, none⟩) (Kd.R_far (p := ⟨gb149, 1, none⟩) (Kd.R_far (p := ⟨gb149, 0, none⟩) (Kd.R_types HO135.out BK149.out (by decide)) (fun _ hk => hk.2) (.int .i64 t141)) (fun _ hk => hk.2) (.slice Ao67 t142.length co67)) (fun _ hk => hk.2) (.slice Ao68 t145.length co68)) (fun _ h_ => h_.1))) hb)) (aJ (aM (Kd.R_below (by (with_reducible repeat (first | apply rA | apply rN | apply rD)); exact (Kd.R_mono (Kd.R_far (p := ⟨gb149, 2, none⟩) (Kd.R_far (p := ⟨gb149, 1, none⟩) (Kd.R_far (p := ⟨gb149, 0, none⟩) (Kd.R_types HO138.out BK149.out (by decide)) (fun _ hk => hk.2) (.int .i64 t141)) (fun _ hk => hk.2) (.slice Ao67 t142.length co67)) (fun _ hk => hk.2) (.slice Ao68 t145.length co68)) (fun _ h_ => h_.1))) hb)) (aJ (aM (Kd.R_below (by (with_reducible repeat (first | apply rA | apply rN | apply rD)); exact (Kd.R_mono (Kd.R_far (p := ⟨gb149, 2, none⟩) (Kd.R_far (p := ⟨gb149, 1, none⟩) (Kd.R_far (p := ⟨gb149, 0, none⟩) (Kd.R_types HO144.out BK149.out (by decide)) (fun _ hk => hk.2) (.int .i64 t141)) (fun _ hk => hk.2) (.slice Ao67 t142.length co67)) (fun _ hk => hk.2) (.slice Ao68 t145.length co68)) (fun _ h_ => h_.1))) hb)) (aJ (aM (Kd.R_below (by (with_reducible repeat (first | apply rA | apply rN | apply rD)); exact (Kd.R_mono (Kd.R_far (p := ⟨gb149, 2, none⟩) (Kd.R_far (p := ⟨gb149, 1, none⟩) (Kd.R_far (p := ⟨gb149, 0, none⟩) (Kd.R_types HO147.out BK149.out (by decide)) (fun _ hk => hk.2) (.int .i64 t141)) (fun _ hk => hk.2) (.slice Ao67 t142.length co67)) (fun _ hk => hk.2) (.slice Ao68 t145.length co68)) (fun _ h_ => h_.1))) hb)) (aJ (aM (blk_below (g := gb108) (o := .cells #[.int .i64 t101, .slice Ao10 t102.length co10, .slice Ao11 t105.length co11] 31 (0, 0)) (by (repeat first | with_reducible apply zN | with_reducible apply zD | with_reducible apply zA | refine blk_far ?_ NB108_149.out _); exact BK108.out) hb)) (aJ (aM (blk_below (g := gb117) (o := .cells #[.int .i64 t109, .slice Ao16 t110.length co16, .slice Ao17 t113.length co17] 31 (0, 0)) (by (repeat first | with_reducible apply zN | with_reducible apply zD | with_reducible apply zA | refine blk_far ?_ NB117_149.out _); exact BK117.out) hb)) (aJ (aM (blk_below (g := gb126) (o := .cells #[.int .i64 t118, .slice Ao24 t119.length co24, .slice Ao25 t122.length co25] 31 (0, 0)) (by (repeat first | with_reducible apply zN | with_reducible apply zD | with_reducible apply zA | refine blk_far ?_ NB126_149.out _); exact BK126.out) hb)) (aJ (aM (blk_below (g := gb140) (o := .cells #[.int .i64 t132, .slice Ao57 t133.length co57, .slice Ao58 t136.length co58] 31 (0, 0)) (by (repeat first | with_reducible apply zN | with_reducible apply zD | with_reducible apply zA | refine blk_far ?_ NB140_149.out _); exact BK140.out) hb)) (aJ (aM (blk_below (g := gb149) (o := .cells #[.int .i64 t141, .slice Ao67 t142.length co67, .slice Ao68 t145.length co68] 31 (0, 0)) (p3 BK149) hb)) (aM (below_step (pH HB) hb))))))))))))))))); clear HO_109001 HO_109002 HO_118001 HO_118002 HO_127001 HO_127002 HO130 HO135 HO138 HO144 HO147 BK108 BK117 BK126 BK140 BK149 HB; obtain ⟨HO_109001, HO_109002, HO_118001, HO_118002, HO_127001, HO_127002, HO130, HO135, HO138, HO144, HO147, BK108, BK117, BK126, BK140, BK149, HB⟩ := n_; (try clear hb); obtain ⟨hcz105_0, hcz105_1, hcz105_2, hfz105_0, hfz105_1, hfz105_2⟩ := cA3 BK149) | (go_at_call 16; (with_reducible refine (impl_GoodHeap.calls kj5 t141 _ _ t142 _ _ t145 t151 _ ?side1 ?side2 ?side3 ?side4 A90.out).mono ?_); (case side1 => exact sC ((Kd.R_reads' HO144.out).2.2)); (case side2 => exact (Kd.R_reads' HO144.out).2.1); (case side3 => exact sC ((Kd.R_reads' HO147.out).2.2)); (case side4 => exact (Kd.R_reads' HO147.out).2.1); rintro e w106 ⟨rfl, hb⟩; have n0_ := aK (Kd.R_below HO_109001.out hb); have n1_ := aK (Kd.R_below HO_109002.out hb); have n2_ := aK (Kd.R_below HO_118001.out hb); have n3_ := aK (Kd.R_below HO_118002.out hb); have n4_ := aK (Kd.R_below HO_127001.out hb); have n5_ := aK (Kd.R_below HO_127002.out hb); have n6_ := aK (Kd.R_below HO130.out hb); have n7_ := aK (Kd.R_below HO135.out hb); have n8_ := aK (Kd.R_below HO138.out hb); have n9_ := aK (Kd.R_below HO144.out hb); have n10_ := aK (Kd.R_below HO147.out hb); replace BK108 := qb BK108 hb; replace BK117 := qb BK117 hb; replace BK126 := qb BK126 hb; replace BK140 := qb BK140 hb; replace BK149 := qb BK149 hb; clear HO_109001; have HO_109001 := n0_; clear n0_; clear HO_109002; have HO_109002 := n1_; clear n1_; clear HO_118001; have HO_118001 := n2_; clear n2_; clear HO_118002; have HO_118002 := n3_; clear n3_; clear HO_127001; have HO_127001 := n4_; clear n4_; clear HO_127002; have HO_127002 := n5_; clear n5_; clear HO130; have HO130 := n6_; clear n6_; clear HO135; have HO135 := n7_; clear n7_; clear HO138; have HO138 := n8_; clear n8_; clear HO144; have HO144 := n9_; clear n9_; clear HO147; have HO147 := n10_; clear n10_; replace HB := qs HB hb; (try clear hb)))
               go_meet
               case rel => exact ⟨_, (!t151), rS, H', ⟨by have := HJ5.out; first | omega | exact Nat.le_refl _⟩, ⟨by (with_reducible repeat (first | apply rA | apply rN | apply rD)); exact Kd.R_mono HO_109001.out (fun _ hk => ⟨hk.1.1.1, ⟨hk.1.1.2, ⟨hk.1.2, hk.2⟩⟩⟩)⟩, ⟨by (with_reducible repeat (first | apply rA | apply rN | apply rD)); exact Kd.R_mono HO_109002.out (fun _ hk => ⟨hk.1.1.1.1, ⟨hk.1.1.1.2, ⟨hk.1.2, hk.2⟩⟩⟩)⟩, ⟨by (with_reducible repeat (first | apply rA | apply rN | apply rD)); exact Kd.R_mono HO_118001.out (fun _ hk => ⟨hk.1.1.1, ⟨hk.1.1.2, ⟨hk.1.2, hk.2⟩⟩⟩)⟩, ⟨by (with_reducible repeat (first | apply rA | apply rN | apply rD)); exact Kd.R_mono HO_118002.out (fun _ hk => ⟨hk.1.1.1.1, ⟨hk.1.1.1.2, ⟨hk.1.2, hk.2⟩⟩⟩)⟩, ⟨by (with_reducible repeat (first | apply rA | apply rN | apply rD)); exact Kd.R_mono HO_127001.out (fun _ hk => ⟨hk.1.1.1, ⟨hk.1.1.2, ⟨hk.1.2, hk.2⟩⟩⟩)⟩, ⟨by (with_reducible repeat (first | apply rA | apply rN | apply rD)); exact Kd.R_mono HO_127002.out (fun _ hk => ⟨hk.1.1.1.1, ⟨hk.1.1.1.2, ⟨hk.1.2, hk.2⟩⟩⟩)⟩, ⟨by (with_reducible repeat (first | apply rA | apply rN | apply rD)); exact Kd.R_mono HO135.out (fun _ hk => ⟨hk.1.1.1.2, ⟨hk.1.1.2, ⟨hk.1.2, hk.2⟩⟩⟩)⟩, ⟨by (with_reducible repeat (first | apply rA | apply rN | apply rD)); exact Kd.R_mono HO138.out (fun _ hk => ⟨hk.1.1.1.1.2, ⟨hk.1.1.1.2, ⟨hk.1.1.2, hk.2⟩⟩⟩)⟩, ⟨by (with_reducible repeat (first | apply rA | apply rN | apply rD)); exact Kd.R_mono HO144.out (fun _ hk => ⟨hk.1.1.1.2, ⟨hk.1.1.2, ⟨hk.1.2, hk.2⟩⟩⟩)⟩, ⟨by (with_reducible repeat (first | apply rA | apply rN | apply rD)); exact Kd.R_mono HO147.out (fun _ hk => ⟨hk.1.1.1.1.2, ⟨hk.1.1.1.2, ⟨hk.1.1.2, hk.2⟩⟩⟩)⟩, ⟨pB BK108⟩, ⟨pB BK117⟩, ⟨pB BK126⟩, ⟨pB BK140⟩, ⟨pB BK149⟩, ⟨pH HB⟩⟩
              ·replace c89 := Bool.eq_false_iff.mpr c89
               subst c89
               rw [if_neg (show ¬ (false = true) by decide)] at H
               have H' := aM H
               clear H
               obtain ⟨Ao107, co107, eo107⟩ := Kd.R_slice HO130.out
               subst eo107
               have hnb108 := NB117_108.out
               have hnc108 := NB108_117.out
               have hnb109 := NB117_126.out
               have hnc109 := NB126_117.out
               have hnb110 := NB117_140.out
               have hnc110 := NB140_117.out
               have hnb111 := NB117_149.out
               have hnc111 := NB149_117.out
               obtain ⟨hcz112_0, hcz112_1, hcz112_2, hfz112_0, hfz112_1, hfz112_2⟩ := cA3 BK117
               have hnb113 := NB140_108.out
               have hnc113 := NB108_140.out
               have hnb114 := NB140_126.out
               have hnc114 := NB126_140.out
               have hnb115 := NB140_149.out
               have hnc115 := NB149_140.out
               obtain ⟨hcz116_0, hcz116_1, hcz116_2, hfz116_0, hfz116_1, hfz116_2⟩ := cA3 BK140
               have hnb117 := NB149_108.out
               have hnc117 := NB108_149.out
               have hnb118 := NB149_126.out
               have hnc118 := NB126_149.out
               obtain ⟨hcz119_0, hcz119_1, hcz119_2, hfz119_0, hfz119_1, hfz119_2⟩ := cA3 BK149
               go_wp2_with (first | (go_at_call 16; (with_reducible refine (impl_GoodHeap.calls kj5 t109 _ _ t110 _ _ t113 false _ ?side1 ?side2 ?side3 ?side4 A88.out).mono ?_); (case side1 => refine (Kd.R_reads' (e := 61) (base := w.heap.size) (ok := fun k_ => (((some k_ ≠ (.slice Ao10 t102.length co10 : Value).ownBlock ∧ some k_ ≠ (.slice Ao24 t119.length co24 : Value).ownBlock) ∧ some k_ ≠ (.slice Ao57 t133.length co57 : Value).ownBlock) ∧ some k_ ≠ (.slice Ao67 t142.length co67 : Value).ownBlock)) (n := t110.length) (c := co16) ?_).2.2; exact (by (with_reducible repeat (first | apply rA | apply rN | apply rD)); exact (Kd.R_mono (Kd.R_far (p := ⟨gb149, 2, none⟩) (Kd.R_far (p := ⟨gb149, 1, none⟩) (Kd.R_far (p := ⟨gb149, 0, none⟩) (Kd.R_types HO_118001.out BK149.out (by decide)) (fun _ hk => hk.2) (.int .i64 t141)) (fun _ hk => hk.2) (.slice Ao67 t142.length co67)) (fun _ hk => hk.2) (.slice Ao68 t145.length co68)) (fun _ h_ => h_.1)))); (case side2 => exact (Kd.R_reads' HO_118001.out).2.1); (case side3 => refine (Kd.R_reads' (e := 3) (base := w.heap.size) (ok := fun k_ => ((((some k_ ≠ (.slice Ao11 t105.length co11 : Value).ownBlock ∧ some k_ ≠ (.slice Ao25 t122.length co25 : Value).ownBlock) ∧ some k_ ≠ (.slice Ao107 t128.length co107 : Value).ownBlock) ∧ some k_ ≠ (.slice Ao58 t136.length co58 : Value).ownBlock) ∧ some k_ ≠ (.slice Ao68 t145.length co68 : Value).ownBlock)) (n := t113.length) (c := co17) ?_).2.2; exact (by (with_reducible repeat (first | apply rA | apply rN | apply rD)); exact (Kd.R_mono (Kd.R_far (p := ⟨gb149, 2, none⟩) (Kd.R_far (p := ⟨gb149, 1, none⟩) (Kd.R_far (p := ⟨gb149, 0, none⟩) (Kd.R_types HO_118002.out BK149.out (by decide)) (fun _ hk => hk.2) (.int .i64 t141)) (fun _ hk => hk.2) (.slice Ao67 t142.length co67)) (fun _ hk => hk.2) (.slice Ao68 t145.length co68)) (fun _ h_ => h_.1)))); (case side4 => exact (Kd.R_reads' HO_118002.out).2.1); rintro e w120 ⟨rfl, hb⟩; have n_ := aJ (aM (Kd.R_below (by (with_reducible repeat (first | apply rA | apply rN | apply rD)); exact (Kd.R_mono (Kd.R_far (p := ⟨gb149, 2, none⟩) (Kd.R_far (p := ⟨gb149, 1, none⟩) (Kd.R_far (p := ⟨gb149, 0, none⟩) (Kd.R_types HO_109001.out BK149.out (by decide)) (fun _ hk => hk.2) (.int .i64 t141)) (fun _ hk => hk.2) (.slice Ao67 t142.length co67)) (fun _ hk => hk.2) (.slice Ao68 t145.length co68)) (fun _ h_ => h_.1))) hb)) (aJ (aM (Kd.R_below (by (with_reducible repeat (first | apply rA | apply rN | apply rD)); exact (Kd.R_mono (Kd.R_far (p := ⟨gb149, 2, none⟩) (Kd.R_far (p := ⟨gb149, 1, none⟩) (Kd.R_far (p := ⟨gb149, 0, none⟩) (Kd.R_types HO_109002.out BK149.out (by decide)) (fun _ hk => hk.2) (.int .i64 t141)) (fun _ hk => hk.2) (.slice Ao67 t142.length co67)) (fun _ hk => hk.2) (.slice Ao68 t145.length co68)) (fun _ h_ => h_.1))) hb)) (aJ (aM (Kd.R_below (by (with_reducible repeat (first | apply rA | apply rN | apply rD)); exact (Kd.R_mono (Kd.R_far (p := ⟨gb149, 2, none⟩) (Kd.R_far (p := ⟨gb149, 1, none⟩) (Kd.R_far (p := ⟨gb149, 0, none⟩) (Kd.R_types HO_118001.out BK149.out (by decide)) (fun _ hk => hk.2) (.int .i64 t141)) (fun _ hk => hk.2) (.slice Ao67 t142.length co67)) (fun _ hk => hk.2) (.slice Ao68 t145.length co68)) (fun _ h_ => h_.1))) hb)) (aJ (aM (Kd.R_below (by (with_reducible repeat (first | apply rA | apply rN | apply rD)); exact (Kd.R_mono (Kd.R_far (p := ⟨gb149, 2, none⟩) (Kd.R_far (p := ⟨gb149, 1, none⟩) (Kd.R_far (p := ⟨gb149, 0, none⟩) (Kd.R_types HO_118002.out BK149.out (by decide)) (fun _ hk => hk.2) (.int .i64 t141)) (fun _ hk => hk.2) (.slice Ao67 t142.length co67)) (fun _ hk => hk.2) (.slice Ao68 t145.length co68)) (fun _ h_ => h_.1))) hb)) (aJ (aM (Kd.R_below (by (with_reducible repeat (first | apply rA | apply rN | apply rD)); exact (Kd.R_mono (Kd.R_far (p := ⟨gb149, 2, none⟩) (Kd.R_far (p := ⟨gb149, 1, none⟩) (Kd.R_far (p := ⟨gb149, 0, none⟩) (Kd.R_types HO_127001.out BK149.out (by decide)) (fun _ hk => hk.2) (.int .i64 t141)) (fun _ hk => hk.2) (.slice Ao67 t142.length co67)) (fun _ hk => hk.2) (.slice Ao68 t145.length co68)) (fun _ h_ => h_.1))) hb)) (aJ (aM (Kd.R_below (by (with_reducible repeat (first | apply rA | apply rN | apply rD)); exact (Kd.R_mono (Kd.R_far (p := ⟨gb149, 2, none⟩) (Kd.R_far (p := ⟨gb149, 1, none⟩) (Kd.R_far (p := ⟨gb149, 0, none⟩) (Kd.R_types HO_127002.out BK149.out (by decide)) (fun _ hk => hk.2) (.int .i64 t141)) (fun _ hk => hk.2) (.slice Ao67 t142.length co67)) (fun _ hk => hk.2) (.slice Ao68 t145.length co68)) (fun _ h_ => h_.1))) hb)) (aJ (aM (Kd.R_below (by (with_reducible repeat (first | apply rA | apply rN | apply rD)); exact (Kd.R_mono (Kd.R_far (p := ⟨gb149, 2, none⟩) (Kd.R_far (p := ⟨gb149, 1, none⟩) (Kd.R_far (p := ⟨gb149, 0, none⟩) (Kd.R_types HO130.out BK149.out (by decide)) (fun _ hk => hk.2) (.int .i64 t141)) (fun _ hk => hk.2) (.slice Ao67 t142.length co67)) (fun _ hk => hk.2) (.slice Ao68 t145.length co68)) (fun _ h_ => h_.1))) hb)) (aJ (aM (Kd.R_below (by (with_reducible repeat (first | apply rA | apply rN | apply rD)); exact (Kd.R_mono (Kd.R_far (p := ⟨gb149, 2, none⟩) (Kd.R_far (p := ⟨gb149, 1, none⟩) (Kd.R_far (p := ⟨gb149, 0, none⟩) (Kd.R_types HO135.out BK149.out (by decide)) (fun _ hk => hk.2) (.int .i64 t141)) (fun _ hk => hk.2) (.slice Ao67 t142.length co67)) (fun _ hk => hk.2) (.slice Ao68 t145.length co68)) (fun _ h_ => h_.1))) hb)) (aJ (aM (Kd.R_below (by (with_reducible repeat (first | apply rA | apply rN | apply rD)); exact (Kd.R_mono (Kd.R_far (p := ⟨gb149, 2, none⟩) (Kd.R_far (p := ⟨gb149, 1, none⟩) (Kd.R_far (p := ⟨gb149, 0, none⟩) (Kd.R_types HO138.out BK149.out (by decide)) (fun _ hk => hk.2) (.int .i64 t141)) (fun _ hk => hk.2) (.slice Ao67 t142.length co67)) (fun _ hk => hk.2) (.slice Ao68 t145.length co68)) (fun _ h_ => h_.1))) hb)) (aJ (aM (Kd.R_below (by (with_reducible repeat (first | apply rA | apply rN | apply rD)); exact (Kd.R_mono (Kd.R_far (p := ⟨gb149, 2, none⟩) (Kd.R_far (p := ⟨gb149, 1, none⟩) (Kd.R_far (p := ⟨gb149, 0, none⟩) (Kd.R_types HO144.out BK149.out (by decide)) (fun _ hk => hk.2) (.int .i64 t141)) (fun _ hk => hk.2) (.slice Ao67 t142.length co67)) (fun _ hk => hk.2) (.slice Ao68 t145.length co68)) (fun _ h_ => h_.1))) hb)) (aJ (aM (Kd.R_below (by (with_reducible repeat (first | apply rA | apply rN | apply rD)); exact (Kd.R_mono (Kd.R_far (p := ⟨gb149, 2, none⟩) (Kd.R_far (p := ⟨gb149, 1, none⟩) (Kd.R_far (p := ⟨gb149, 0, none⟩) (Kd.R_types HO147.out BK149.out (by decide)) (fun _ hk => hk.2) (.int .i64 t141)) (fun _ hk => hk.2) (.slice Ao67 t142.length co67)) (fun _ hk => hk.2) (.slice Ao68 t145.length co68)) (fun _ h_ => h_.1))) hb)) (aJ (aM (blk_below (g := gb108) (o := .cells #[.int .i64 t101, .slice Ao10 t102.length co10, .slice Ao11 t105.length co11] 31 (0, 0)) (by (repeat first | with_reducible apply zN | with_reducible apply zD | with_reducible apply zA | refine blk_far ?_ NB108_149.out _); exact BK108.out) hb)) (aJ (aM (blk_below (g := gb117) (o := .cells #[.int .i64 t109, .slice Ao16 t110.length co16, .slice Ao17 t113.length co17] 31 (0, 0)) (by (repeat first | with_reducible apply zN | with_reducible apply zD | with_reducible apply zA | refine blk_far ?_ NB117_149.out _); exact BK117.out) hb)) (aJ (aM (blk_below (g := gb126) (o := .cells #[.int .i64 t118, .slice Ao24 t119.length co24, .slice Ao25 t122.length co25] 31 (0, 0)) (by (repeat first | with_reducible apply zN | with_reducible apply zD | with_reducible apply zA | refine blk_far ?_ NB126_149.out _); exact BK126.out) hb)) (aJ (aM (blk_below (g := gb140) (o := .cells #[.int .i64 t132, .slice Ao57 t133.length co57, .slice Ao58 t136.length co58] 31 (0, 0)) (by (repeat first | with_reducible apply zN | with_reducible apply zD | with_reducible apply zA | refine blk_far ?_ NB140_149.out _); exact BK140.out) hb)) (aJ (aM (blk_below (g := gb149) (o := .cells #[.int .i64 t141, .slice Ao67 t142.length co67, .slice Ao68 t145.length co68] 31 (0, 0)) (p3 BK149) hb)) (aM (below_step (pH HB) hb))))))))))))))))); clear HO_109001 HO_109002 HO_118001 HO_118002 HO_127001 HO_127002 HO130 HO135 HO138 HO144 HO147 BK108 BK117 BK126 BK140 BK149 HB; obtain ⟨HO_109001, HO_109002, HO_118001, HO_118002, HO_127001, HO_127002, HO130, HO135, HO138, HO144, HO147, BK108, BK117, BK126, BK140, BK149, HB⟩ := n_; (try clear hb)))
               go_meet
               case rel => exact ⟨_, (true), rS, H', ⟨by have := HJ5.out; first | omega | exact Nat.le_refl _⟩, ⟨by (with_reducible repeat (first | apply rA | apply rN | apply rD)); exact Kd.R_mono HO_109001.out (fun _ hk => ⟨hk.1.1.1, ⟨hk.1.1.2, ⟨hk.1.2, hk.2⟩⟩⟩)⟩, ⟨by (with_reducible repeat (first | apply rA | apply rN | apply rD)); exact Kd.R_mono HO_109002.out (fun _ hk => ⟨hk.1.1.1.1, ⟨hk.1.1.1.2, ⟨hk.1.2, hk.2⟩⟩⟩)⟩, ⟨by (with_reducible repeat (first | apply rA | apply rN | apply rD)); exact Kd.R_mono HO_118001.out (fun _ hk => ⟨hk.1.1.1, ⟨hk.1.1.2, ⟨hk.1.2, hk.2⟩⟩⟩)⟩, ⟨by (with_reducible repeat (first | apply rA | apply rN | apply rD)); exact Kd.R_mono HO_118002.out (fun _ hk => ⟨hk.1.1.1.1, ⟨hk.1.1.1.2, ⟨hk.1.2, hk.2⟩⟩⟩)⟩, ⟨by (with_reducible repeat (first | apply rA | apply rN | apply rD)); exact Kd.R_mono HO_127001.out (fun _ hk => ⟨hk.1.1.1, ⟨hk.1.1.2, ⟨hk.1.2, hk.2⟩⟩⟩)⟩, ⟨by (with_reducible repeat (first | apply rA | apply rN | apply rD)); exact Kd.R_mono HO_127002.out (fun _ hk => ⟨hk.1.1.1.1, ⟨hk.1.1.1.2, ⟨hk.1.2, hk.2⟩⟩⟩)⟩, ⟨by (with_reducible repeat (first | apply rA | apply rN | apply rD)); exact Kd.R_mono HO135.out (fun _ hk => ⟨hk.1.1.1.2, ⟨hk.1.1.2, ⟨hk.1.2, hk.2⟩⟩⟩)⟩, ⟨by (with_reducible repeat (first | apply rA | apply rN | apply rD)); exact Kd.R_mono HO138.out (fun _ hk => ⟨hk.1.1.1.1.2, ⟨hk.1.1.1.2, ⟨hk.1.1.2, hk.2⟩⟩⟩)⟩, ⟨by (with_reducible repeat (first | apply rA | apply rN | apply rD)); exact Kd.R_mono HO144.out (fun _ hk => ⟨hk.1.1.1.2, ⟨hk.1.1.2, ⟨hk.1.2, hk.2⟩⟩⟩)⟩, ⟨by (with_reducible repeat (first | apply rA | apply rN | apply rD)); exact Kd.R_mono HO147.out (fun _ hk => ⟨hk.1.1.1.1.2, ⟨hk.1.1.1.2, ⟨hk.1.1.2, hk.2⟩⟩⟩)⟩, ⟨pB BK108⟩, ⟨pB BK117⟩, ⟨pB BK126⟩, ⟨pB BK140⟩, ⟨pB BK149⟩, ⟨pH HB⟩⟩
            ·rw [if_neg c73] at H
             have c73b0 : ((t133.length : Int) == (t110.length : Int)) = false := beq_eq_false_iff_ne.mpr c73
             have c73b1 : ((t133.length : Int) != (t110.length : Int)) = true := bne_iff_ne.mpr c73
             have c73b2 : (t133.length == t110.length) = false := by first | simpa using c73 | (simp at c73 ⊢; omega)
             have H' := aM H
             clear H
             obtain ⟨Ao121, co121, eo121⟩ := Kd.R_slice HO130.out
             subst eo121
             have hnb122 := NB117_108.out
             have hnc122 := NB108_117.out
             have hnb123 := NB117_126.out
             have hnc123 := NB126_117.out
             have hnb124 := NB117_140.out
             have hnc124 := NB140_117.out
             have hnb125 := NB117_149.out
             have hnc125 := NB149_117.out
             obtain ⟨hcz126_0, hcz126_1, hcz126_2, hfz126_0, hfz126_1, hfz126_2⟩ := cA3 BK117
             have hnb127 := NB140_108.out
             have hnc127 := NB108_140.out
             have hnb128 := NB140_126.out
             have hnc128 := NB126_140.out
             have hnb129 := NB140_149.out
             have hnc129 := NB149_140.out
             obtain ⟨hcz130_0, hcz130_1, hcz130_2, hfz130_0, hfz130_1, hfz130_2⟩ := cA3 BK140
             go_wp2
             go_meet
             case rel => exact ⟨_, (true), rS, H', ⟨by have := HJ5.out; first | omega | exact Nat.le_refl _⟩, ⟨by (with_reducible repeat (first | apply rA | apply rN | apply rD)); exact Kd.R_mono (Kd.R_far (p := ⟨gb149, 2, none⟩) (Kd.R_far (p := ⟨gb149, 1, none⟩) (Kd.R_far (p := ⟨gb149, 0, none⟩) (Kd.R_types HO_109001.out BK149.out (by decide)) (fun _ hk => hk.2) (.int .i64 t141)) (fun _ hk => hk.2) (.slice Ao67 t142.length co67)) (fun _ hk => hk.2) (.slice Ao68 t145.length co68)) (fun _ hk => ⟨hk.1.1.1.1, ⟨hk.1.1.1.2, ⟨hk.1.1.2, hk.1.2⟩⟩⟩)⟩, ⟨by (with_reducible repeat (first | apply rA | apply rN | apply rD)); exact Kd.R_mono (Kd.R_far (p := ⟨gb149, 2, none⟩) (Kd.R_far (p := ⟨gb149, 1, none⟩) (Kd.R_far (p := ⟨gb149, 0, none⟩) (Kd.R_types HO_109002.out BK149.out (by decide)) (fun _ hk => hk.2) (.int .i64 t141)) (fun _ hk => hk.2) (.slice Ao67 t142.length co67)) (fun _ hk => hk.2) (.slice Ao68 t145.length co68)) (fun _ hk => ⟨hk.1.1.1.1.1, ⟨hk.1.1.1.1.2, ⟨hk.1.1.2, hk.1.2⟩⟩⟩)⟩, ⟨by (with_reducible repeat (first | apply rA | apply rN | apply rD)); exact Kd.R_mono (Kd.R_far (p := ⟨gb149, 2, none⟩) (Kd.R_far (p := ⟨gb149, 1, none⟩) (Kd.R_far (p := ⟨gb149, 0, none⟩) (Kd.R_types HO_118001.out BK149.out (by decide)) (fun _ hk => hk.2) (.int .i64 t141)) (fun _ hk => hk.2) (.slice Ao67 t142.length co67)) (fun _ hk => hk.2) (.slice Ao68 t145.length co68)) (fun _ hk => ⟨hk.1.1.1.1, ⟨hk.1.1.1.2, ⟨hk.1.1.2, hk.1.2⟩⟩⟩)⟩, ⟨by (with_reducible repeat (first | apply rA | apply rN | apply rD)); exact Kd.R_mono (Kd.R_far (p := ⟨gb149, 2, none⟩) (Kd.R_far (p := ⟨gb149, 1, none⟩) (Kd.R_far (p := ⟨gb149, 0, none⟩) (Kd.R_types HO_118002.out BK149.out (by decide)) (fun _ hk => hk.2) (.int .i64 t141)) (fun _ hk => hk.2) (.slice Ao67 t142.length co67)) (fun _ hk => hk.2) (.slice Ao68 t145.length co68)) (fun _ hk => ⟨hk.1.1.1.1.1, ⟨hk.1.1.1.1.2, ⟨hk.1.1.2, hk.1.2⟩⟩⟩)⟩, ⟨by (with_reducible repeat (first | apply rA | apply rN | apply rD)); exact Kd.R_mono (Kd.R_far (p := ⟨gb149, 2, none⟩) (Kd.R_far (p := ⟨gb149, 1, none⟩) (Kd.R_far (p := ⟨gb149, 0, none⟩) (Kd.R_types HO_127001.out BK149.out (by decide)) (fun _ hk => hk.2) (.int .i64 t141)) (fun _ hk => hk.2) (.slice Ao67 t142.length co67)) (fun _ hk => hk.2) (.slice Ao68 t145.length co68)) (fun _ hk => ⟨hk.1.1.1.1, ⟨hk.1.1.1.2, ⟨hk.1.1.2, hk.1.2⟩⟩⟩)⟩, ⟨by (with_reducible repeat (first | apply rA | apply rN | apply rD)); exact Kd.R_mono (Kd.R_far (p := ⟨gb149, 2, none⟩) (Kd.R_far (p := ⟨gb149, 1, none⟩) (Kd.R_far (p := ⟨gb149, 0, none⟩) (Kd.R_types HO_127002.out BK149.out (by decide)) (fun _ hk => hk.2) (.int .i64 t141)) (fun _ hk => hk.2) (.slice Ao67 t142.length co67)) (fun _ hk => hk.2) (.slice Ao68 t145.length co68)) (fun _ hk => ⟨hk.1.1.1.1.1, ⟨hk.1.1.1.1.2, ⟨hk.1.1.2, hk.1.2⟩⟩⟩)⟩, ⟨by (with_reducible repeat (first | apply rA | apply rN | apply rD)); exact Kd.R_mono (Kd.R_far (p := ⟨gb149, 2, none⟩) (Kd.R_far (p := ⟨gb149, 1, none⟩) (Kd.R_far (p := ⟨gb149, 0, none⟩) (Kd.R_types HO135.out BK149.out (by decide)) (fun _ hk => hk.2) (.int .i64 t141)) (fun _ hk => hk.2) (.slice Ao67 t142.length co67)) (fun _ hk => hk.2) (.slice Ao68 t145.length co68)) (fun _ hk => ⟨hk.1.1.1.1.2, ⟨hk.1.1.1.2, ⟨hk.1.1.2, hk.1.2⟩⟩⟩)⟩, ⟨by (with_reducible repeat (first | apply rA | apply rN | apply rD)); exact Kd.R_mono (Kd.R_far (p := ⟨gb149, 2, none⟩) (Kd.R_far (p := ⟨gb149, 1, none⟩) (Kd.R_far (p := ⟨gb149, 0, none⟩) (Kd.R_types HO138.out BK149.out (by decide)) (fun _ hk => hk.2) (.int .i64 t141)) (fun _ hk => hk.2) (.slice Ao67 t142.length co67)) (fun _ hk => hk.2) (.slice Ao68 t145.length co68)) (fun _ hk => ⟨hk.1.1.1.1.1.2, ⟨hk.1.1.1.1.2, ⟨hk.1.1.1.2, hk.1.2⟩⟩⟩)⟩, ⟨by (with_reducible repeat (first | apply rA | apply rN | apply rD)); exact Kd.R_mono (Kd.R_far (p := ⟨gb149, 2, none⟩) (Kd.R_far (p := ⟨gb149, 1, none⟩) (Kd.R_far (p := ⟨gb149, 0, none⟩) (Kd.R_types HO144.out BK149.out (by decide)) (fun _ hk => hk.2) (.int .i64 t141)) (fun _ hk => hk.2) (.slice Ao67 t142.length co67)) (fun _ hk => hk.2) (.slice Ao68 t145.length co68)) (fun _ hk => ⟨hk.1.1.1.1.2, ⟨hk.1.1.1.2, ⟨hk.1.1.2, hk.1.2⟩⟩⟩)⟩, ⟨by (with_reducible repeat (first | apply rA | apply rN | apply rD)); exact Kd.R_mono (Kd.R_far (p := ⟨gb149, 2, none⟩) (Kd.R_far (p := ⟨gb149, 1, none⟩) (Kd.R_far (p := ⟨gb149, 0, none⟩) (Kd.R_types HO147.out BK149.out (by decide)) (fun _ hk => hk.2) (.int .i64 t141)) (fun _ hk => hk.2) (.slice Ao67 t142.length co67)) (fun _ hk => hk.2) (.slice Ao68 t145.length co68)) (fun _ hk => ⟨hk.1.1.1.1.1.2, ⟨hk.1.1.1.1.2, ⟨hk.1.1.1.2, hk.1.2⟩⟩⟩)⟩, ⟨by (repeat first | with_reducible apply zN | with_reducible apply zD | with_reducible apply zA | refine blk_far ?_ NB108_149.out _); exact BK108.out⟩, ⟨by (repeat first | with_reducible apply zN | with_reducible apply zD | with_reducible apply zA | refine blk_far ?_ NB117_149.out _); exact BK117.out⟩, ⟨by (repeat first | with_reducible apply zN | with_reducible apply zD | with_reducible apply zA | refine blk_far ?_ NB126_149.out _); exact BK126.out⟩, ⟨by (repeat first | with_reducible apply zN | with_reducible apply zD | with_reducible apply zA | refine blk_far ?_ NB140_149.out _); exact BK140.out⟩, ⟨p3 BK149⟩, ⟨pH HB⟩⟩
           ·rw [if_neg c72] at H
            have c72b0 : ((t128.length : Int) == (t110.length : Int)) = false := beq_eq_false_iff_ne.mpr c72
            have c72b1 : ((t128.length : Int) != (t110.length : Int)) = true := bne_iff_ne.mpr c72
            have c72b2 : (t128.length == t110.length) = false := by first | simpa using c72 | (simp at c72 ⊢; omega)
            (first | rw [c72b0] | (simp only [i64_w, i32_w]; rw [c72b0]) | skip)
            have H' := aM H
            clear H
            obtain ⟨Ao131, co131, eo131⟩ := Kd.R_slice HO130.out
            subst eo131
            have hnb132 := NB117_108.out
            have hnc132 := NB108_117.out
            have hnb133 := NB117_126.out
            have hnc133 := NB126_117.out
            have hnb134 := NB117_140.out
            have hnc134 := NB140_117.out
            have hnb135 := NB117_149.out
            have hnc135 := NB149_117.out
            obtain ⟨hcz136_0, hcz136_1, hcz136_2, hfz136_0, hfz136_1, hfz136_2⟩ := cA3 BK117
            go_wp2
            go_meet
            case rel => exact ⟨_, (true), rS, H', ⟨by have := HJ5.out; first | omega | exact Nat.le_refl _⟩, ⟨by (with_reducible repeat (first | apply rA | apply rN | apply rD)); exact Kd.R_mono (Kd.R_far (p := ⟨gb149, 2, none⟩) (Kd.R_far (p := ⟨gb149, 1, none⟩) (Kd.R_far (p := ⟨gb149, 0, none⟩) (Kd.R_types HO_109001.out BK149.out (by decide)) (fun _ hk => hk.2) (.int .i64 t141)) (fun _ hk => hk.2) (.slice Ao67 t142.length co67)) (fun _ hk => hk.2) (.slice Ao68 t145.length co68)) (fun _ hk => ⟨hk.1.1.1.1, ⟨hk.1.1.1.2, ⟨hk.1.1.2, hk.1.2⟩⟩⟩)⟩, ⟨by (with_reducible repeat (first | apply rA | apply rN | apply rD)); exact Kd.R_mono (Kd.R_far (p := ⟨gb149, 2, none⟩) (Kd.R_far (p := ⟨gb149, 1, none⟩) (Kd.R_far (p := ⟨gb149, 0, none⟩) (Kd.R_types HO_109002.out BK149.out (by decide)) (fun _ hk => hk.2) (.int .i64 t141)) (fun _ hk => hk.2) (.slice Ao67 t142.length co67)) (fun _ hk => hk.2) (.slice Ao68 t145.length co68)) (fun _ hk => ⟨hk.1.1.1.1.1, ⟨hk.1.1.1.1.2, ⟨hk.1.1.2, hk.1.2⟩⟩⟩)⟩, ⟨by (with_reducible repeat (first | apply rA | apply rN | apply rD)); exact Kd.R_mono (Kd.R_far (p := ⟨gb149, 2, none⟩) (Kd.R_far (p := ⟨gb149, 1, none⟩) (Kd.R_far (p := ⟨gb149, 0, none⟩) (Kd.R_types HO_118001.out BK149.out (by decide)) (fun _ hk => hk.2) (.int .i64 t141)) (fun _ hk => hk.2) (.slice Ao67 t142.length co67)) (fun _ hk => hk.2) (.slice Ao68 t145.length co68)) (fun _ hk => ⟨hk.1.1.1.1, ⟨hk.1.1.1.2, ⟨hk.1.1.2, hk.1.2⟩⟩⟩)⟩, ⟨by (with_reducible repeat (first | apply rA | apply rN | apply rD)); exact Kd.R_mono (Kd.R_far (p := ⟨gb149, 2, none⟩) (Kd.R_far (p := ⟨gb149, 1, none⟩) (Kd.R_far (p := ⟨gb149, 0, none⟩) (Kd.R_types HO_118002.out BK149.out (by decide)) (fun _ hk => hk.2) (.int .i64 t141)) (fun _ hk => hk.2) (.slice Ao67 t142.length co67)) (fun _ hk => hk.2) (.slice Ao68 t145.length co68)) (fun _ hk => ⟨hk.1.1.1.1.1, ⟨hk.1.1.1.1.2, ⟨hk.1.1.2, hk.1.2⟩⟩⟩)⟩, ⟨by (with_reducible repeat (first | apply rA | apply rN | apply rD)); exact Kd.R_mono (Kd.R_far (p := ⟨gb149, 2, none⟩) (Kd.R_far (p := ⟨gb149, 1, none⟩) (Kd.R_far (p := ⟨gb149, 0, none⟩) (Kd.R_types HO_127001.out BK149.out (by decide)) (fun _ hk => hk.2) (.int .i64 t141)) (fun _ hk => hk.2) (.slice Ao67 t142.length co67)) (fun _ hk => hk.2) (.slice Ao68 t145.length co68)) (fun _ hk => ⟨hk.1.1.1.1, ⟨hk.1.1.1.2, ⟨hk.1.1.2, hk.1.2⟩⟩⟩)⟩, ⟨by (with_reducible repeat (first | apply rA | apply rN | apply rD)); exact Kd.R_mono (Kd.R_far (p := ⟨gb149, 2, none⟩) (Kd.R_far (p := ⟨gb149, 1, none⟩) (Kd.R_far (p := ⟨gb149, 0, none⟩) (Kd.R_types HO_127002.out BK149.out (by decide)) (fun _ hk => hk.2) (.int .i64 t141)) (fun _ hk => hk.2) (.slice Ao67 t142.length co67)) (fun _ hk => hk.2) (.slice Ao68 t145.length co68)) (fun _ hk => ⟨hk.1.1.1.1.1, ⟨hk.1.1.1.1.2, ⟨hk.1.1.2, hk.1.2⟩⟩⟩)⟩, ⟨by (with_reducible repeat (first | apply rA | apply rN | apply rD)); exact Kd.R_mono (Kd.R_far (p := ⟨gb149, 2, none⟩) (Kd.R_far (p := ⟨gb149, 1, none⟩) (Kd.R_far (p := ⟨gb149, 0, none⟩) (Kd.R_types HO135.out BK149.out (by decide)) (fun _ hk => hk.2) (.int .i64 t141)) (fun _ hk => hk.2) (.slice Ao67 t142.length co67)) (fun _ hk => hk.2) (.slice Ao68 t145.length co68)) (fun _ hk => ⟨hk.1.1.1.1.2, ⟨hk.1.1.1.2, ⟨hk.1.1.2, hk.1.2⟩⟩⟩)⟩, ⟨by (with_reducible repeat (first | apply rA | apply rN | apply rD)); exact Kd.R_mono (Kd.R_far (p := ⟨gb149, 2, none⟩) (Kd.R_far (p := ⟨gb149, 1, none⟩) (Kd.R_far (p := ⟨gb149, 0, none⟩) (Kd.R_types HO138.out BK149.out (by decide)) (fun _ hk => hk.2) (.int .i64 t141)) (fun _ hk => hk.2) (.slice Ao67 t142.length co67)) (fun _ hk => hk.2) (.slice Ao68 t145.length co68)) (fun _ hk => ⟨hk.1.1.1.1.1.2, ⟨hk.1.1.1.1.2, ⟨hk.1.1.1.2, hk.1.2⟩⟩⟩)⟩, ⟨by (with_reducible repeat (first | apply rA | apply rN | apply rD)); exact Kd.R_mono (Kd.R_far (p := ⟨gb149, 2, none⟩) (Kd.R_far (p := ⟨gb149, 1, none⟩) (Kd.R_far (p := ⟨gb149, 0, none⟩) (Kd.R_types HO144.out BK149.out (by decide)) (fun _ hk => hk.2) (.int .i64 t141)) (fun _ hk => hk.2) (.slice Ao67 t142.length co67)) (fun _ hk => hk.2) (.slice Ao68 t145.length co68)) (fun _ hk => ⟨hk.1.1.1.1.2, ⟨hk.1.1.1.2, ⟨hk.1.1.2, hk.1.2⟩⟩⟩)⟩, ⟨by (with_reducible repeat (first | apply rA | apply rN | apply rD)); exact Kd.R_mono (Kd.R_far (p := ⟨gb149, 2, none⟩) (Kd.R_far (p := ⟨gb149, 1, none⟩) (Kd.R_far (p := ⟨gb149, 0, none⟩) (Kd.R_types HO147.out BK149.out (by decide)) (fun _ hk => hk.2) (.int .i64 t141)) (fun _ hk => hk.2) (.slice Ao67 t142.length co67)) (fun _ hk => hk.2) (.slice Ao68 t145.length co68)) (fun _ hk => ⟨hk.1.1.1.1.1.2, ⟨hk.1.1.1.1.2, ⟨hk.1.1.1.2, hk.1.2⟩⟩⟩)⟩, ⟨by (repeat first | with_reducible apply zN | with_reducible apply zD | with_reducible apply zA | refine blk_far ?_ NB108_149.out _); exact BK108.out⟩, ⟨by (repeat first | with_reducible apply zN | with_reducible apply zD | with_reducible apply zA | refine blk_far ?_ NB117_149.out _); exact BK117.out⟩, ⟨by (repeat first | with_reducible apply zN | with_reducible apply zD | with_reducible apply zA | refine blk_far ?_ NB126_149.out _); exact BK126.out⟩, ⟨by (repeat first | with_reducible apply zN | with_reducible apply zD | with_reducible apply zA | refine blk_far ?_ NB140_149.out _); exact BK140.out⟩, ⟨p3 BK149⟩, ⟨pH HB⟩⟩
          ·replace c71 := Bool.eq_false_iff.mpr c71
           subst c71
           rw [if_neg (show ¬ (false = true) by decide)] at H
           have H' := aM H
           clear H
           go_wp2
           go_meet
           case rel => exact ⟨_, (true), rS, H', ⟨by have := HJ5.out; first | omega | exact Nat.le_refl _⟩, ⟨by (with_reducible repeat (first | apply rA | apply rN | apply rD)); exact Kd.R_mono (Kd.R_far (p := ⟨gb149, 2, none⟩) (Kd.R_far (p := ⟨gb149, 1, none⟩) (Kd.R_far (p := ⟨gb149, 0, none⟩) (Kd.R_types HO_109001.out BK149.out (by decide)) (fun _ hk => hk.2) (.int .i64 t141)) (fun _ hk => hk.2) (.slice Ao67 t142.length co67)) (fun _ hk => hk.2) (.slice Ao68 t145.length co68)) (fun _ hk => ⟨hk.1.1.1.1, ⟨hk.1.1.1.2, ⟨hk.1.1.2, hk.1.2⟩⟩⟩)⟩, ⟨by (with_reducible repeat (first | apply rA | apply rN | apply rD)); exact Kd.R_mono (Kd.R_far (p := ⟨gb149, 2, none⟩) (Kd.R_far (p := ⟨gb149, 1, none⟩) (Kd.R_far (p := ⟨gb149, 0, none⟩) (Kd.R_types HO_109002.out BK149.out (by decide)) (fun _ hk => hk.2) (.int .i64 t141)) (fun _ hk => hk.2) (.slice Ao67 t142.length co67)) (fun _ hk => hk.2) (.slice Ao68 t145.length co68)) (fun _ hk => ⟨hk.1.1.1.1.1, ⟨hk.1.1.1.1.2, ⟨hk.1.1.2, hk.1.2⟩⟩⟩)⟩, ⟨by (with_reducible repeat (first | apply rA | apply rN | apply rD)); exact Kd.R_mono (Kd.R_far (p := ⟨gb149, 2, none⟩) (Kd.R_far (p := ⟨gb149, 1, none⟩) (Kd.R_far (p := ⟨gb149, 0, none⟩) (Kd.R_types HO_118001.out BK149.out (by decide)) (fun _ hk => hk.2) (.int .i64 t141)) (fun _ hk => hk.2) (.slice Ao67 t142.length co67)) (fun _ hk => hk.2) (.slice Ao68 t145.length co68)) (fun _ hk => ⟨hk.1.1.1.1, ⟨hk.1.1.1.2, ⟨hk.1.1.2, hk.1.2⟩⟩⟩)⟩, ⟨by (with_reducible repeat (first | apply rA | apply rN | apply rD)); exact Kd.R_mono (Kd.R_far (p := ⟨gb149, 2, none⟩) (Kd.R_far (p := ⟨gb149, 1, none⟩) (Kd.R_far (p := ⟨gb149, 0, none⟩) (Kd.R_types HO_118002.out BK149.out (by decide)) (fun _ hk => hk.2) (.int .i64 t141)) (fun _ hk => hk.2) (.slice Ao67 t142.length co67)) (fun _ hk => hk.2) (.slice Ao68 t145.length co68)) (fun _ hk => ⟨hk.1.1.1.1.1, ⟨hk.1.1.1.1.2, ⟨hk.1.1.2, hk.1.2⟩⟩⟩)⟩, ⟨by (with_reducible repeat (first | apply rA | apply rN | apply rD)); exact Kd.R_mono (Kd.R_far (p := ⟨gb149, 2, none⟩) (Kd.R_far (p := ⟨gb149, 1, none⟩) (Kd.R_far (p := ⟨gb149, 0, none⟩) (Kd.R_types HO_127001.out BK149.out (by decide)) (fun _ hk => hk.2) (.int .i64 t141)) (fun _ hk => hk.2) (.slice Ao67 t142.length co67)) (fun _ hk => hk.2) (.slice Ao68 t145.length co68)) (fun _ hk => ⟨hk.1.1.1.1, ⟨hk.1.1.1.2, ⟨hk.1.1.2, hk.1.2⟩⟩⟩)⟩, ⟨by (with_reducible repeat (first | apply rA | apply rN | apply rD)); exact Kd.R_mono (Kd.R_far (p := ⟨gb149, 2, none⟩) (Kd.R_far (p := ⟨gb149, 1, none⟩) (Kd.R_far (p := ⟨gb149, 0, none⟩) (Kd.R_types HO_127002.out BK149.out (by decide)) (fun _ hk => hk.2) (.int .i64 t141)) (fun _ hk => hk.2) (.slice Ao67 t142.length co67)) (fun _ hk => hk.2) (.slice Ao68 t145.length co68)) (fun _ hk => ⟨hk.1.1.1.1.1, ⟨hk.1.1.1.1.2, ⟨hk.1.1.2, hk.1.2⟩⟩⟩)⟩, ⟨by (with_reducible repeat (first | apply rA | apply rN | apply rD)); exact Kd.R_mono (Kd.R_far (p := ⟨gb149, 2, none⟩) (Kd.R_far (p := ⟨gb149, 1, none⟩) (Kd.R_far (p := ⟨gb149, 0, none⟩) (Kd.R_types HO135.out BK149.out (by decide)) (fun _ hk => hk.2) (.int .i64 t141)) (fun _ hk => hk.2) (.slice Ao67 t142.length co67)) (fun _ hk => hk.2) (.slice Ao68 t145.length co68)) (fun _ hk => ⟨hk.1.1.1.1.2, ⟨hk.1.1.1.2, ⟨hk.1.1.2, hk.1.2⟩⟩⟩)⟩, ⟨by (with_reducible repeat (first | apply rA | apply rN | apply rD)); exact Kd.R_mono (Kd.R_far (p := ⟨gb149, 2, none⟩) (Kd.R_far (p := ⟨gb149, 1, none⟩) (Kd.R_far (p := ⟨gb149, 0, none⟩) (Kd.R_types HO138.out BK149.out (by decide)) (fun _ hk => hk.2) (.int .i64 t141)) (fun _ hk => hk.2) (.slice Ao67 t142.length co67)) (fun _ hk => hk.2) (.slice Ao68 t145.length co68)) (fun _ hk => ⟨hk.1.1.1.1.1.2, ⟨hk.1.1.1.1.2, ⟨hk.1.1.1.2, hk.1.2⟩⟩⟩)⟩, ⟨by (with_reducible repeat (first | apply rA | apply rN | apply rD)); exact Kd.R_mono (Kd.R_far (p := ⟨gb149, 2, none⟩) (Kd.R_far (p := ⟨gb149, 1, none⟩) (Kd.R_far (p := ⟨gb149, 0, none⟩) (Kd.R_types HO144.out BK149.out (by decide)) (fun _ hk => hk.2) (.int .i64 t141)) (fun _ hk => hk.2) (.slice Ao67 t142.length co67)) (fun _ hk => hk.2) (.slice Ao68 t145.length co68)) (fun _ hk => ⟨hk.1.1.1.1.2, ⟨hk.1.1.1.2, ⟨hk.1.1.2, hk.1.2⟩⟩⟩)⟩, ⟨by (with_reducible repeat (first | apply rA | apply rN | apply rD)); exact Kd.R_mono (Kd.R_far (p := ⟨gb149, 2, none⟩) (Kd.R_far (p := ⟨gb149, 1, none⟩) (Kd.R_far (p := ⟨gb149, 0, none⟩) (Kd.R_types HO147.out BK149.out (by decide)) (fun _ hk => hk.2) (.int .i64 t141)) (fun _ hk => hk.2) (.slice Ao67 t142.length co67)) (fun _ hk => hk.2) (.slice Ao68 t145.length co68)) (fun _ hk => ⟨hk.1.1.1.1.1.2, ⟨hk.1.1.1.1.2, ⟨hk.1.1.1.2, hk.1.2⟩⟩⟩)⟩, ⟨by (repeat first | with_reducible apply zN | with_reducible apply zD | with_reducible apply zA | refine blk_far ?_ NB108_149.out _); exact BK108.out⟩, ⟨by (repeat first | with_reducible apply zN | with_reducible apply zD | with_reducible apply zA | refine blk_far ?_ NB117_149.out _); exact BK117.out⟩, ⟨by (repeat first | with_reducible apply zN | with_reducible apply zD | with_reducible apply zA | refine blk_far ?_ NB126_149.out _); exact BK126.out⟩, ⟨by (repeat first | with_reducible apply zN | with_reducible apply zD | with_reducible apply zA | refine blk_far ?_ NB140_149.out _); exact BK140.out⟩, ⟨p3 BK149⟩, ⟨pH HB⟩⟩
         ·replace c70 := Bool.eq_false_iff.mpr c70
          subst c70
          rw [if_neg (show ¬ (false = true) by decide)] at H
          have H' := aM H
          clear H
          go_wp2
          go_meet
          case rel => exact ⟨_, (true), rS, H', ⟨by have := HJ5.out; first | omega | exact Nat.le_refl _⟩, ⟨by (with_reducible repeat (first | apply rA | apply rN | apply rD)); exact Kd.R_mono (Kd.R_far (p := ⟨gb149, 2, none⟩) (Kd.R_far (p := ⟨gb149, 1, none⟩) (Kd.R_far (p := ⟨gb149, 0, none⟩) (Kd.R_types HO_109001.out BK149.out (by decide)) (fun _ hk => hk.2) (.int .i64 t141)) (fun _ hk => hk.2) (.slice Ao67 t142.length co67)) (fun _ hk => hk.2) (.slice Ao68 t145.length co68)) (fun _ hk => ⟨hk.1.1.1.1, ⟨hk.1.1.1.2, ⟨hk.1.1.2, hk.1.2⟩⟩⟩)⟩, ⟨by (with_reducible repeat (first | apply rA | apply rN | apply rD)); exact Kd.R_mono (Kd.R_far (p := ⟨gb149, 2, none⟩) (Kd.R_far (p := ⟨gb149, 1, none⟩) (Kd.R_far (p := ⟨gb149, 0, none⟩) (Kd.R_types HO_109002.out BK149.out (by decide)) (fun _ hk => hk.2) (.int .i64 t141)) (fun _ hk => hk.2) (.slice Ao67 t142.length co67)) (fun _ hk => hk.2) (.slice Ao68 t145.length co68)) (fun _ hk => ⟨hk.1.1.1.1.1, ⟨hk.1.1.1.1.2, ⟨hk.1.1.2, hk.1.2⟩⟩⟩)⟩, ⟨by (with_reducible repeat (first | apply rA | apply rN | apply rD)); exact Kd.R_mono (Kd.R_far (p := ⟨gb149, 2, none⟩) (Kd.R_far (p := ⟨gb149, 1, none⟩) (Kd.R_far (p := ⟨gb149, 0, none⟩) (Kd.R_types HO_118001.out BK149.out (by decide)) (fun _ hk => hk.2) (.int .i64 t141)) (fun _ hk => hk.2) (.slice Ao67 t142.length co67)) (fun _ hk => hk.2) (.slice Ao68 t145.length co68)) (fun _ hk => ⟨hk.1.1.1.1, ⟨hk.1.1.1.2, ⟨hk.1.1.2, hk.1.2⟩⟩⟩)⟩, ⟨by (with_reducible repeat (first | apply rA | apply rN | apply rD)); exact Kd.R_mono (Kd.R_far (p := ⟨gb149, 2, none⟩) (Kd.R_far (p := ⟨gb149, 1, none⟩) (Kd.R_far (p := ⟨gb149, 0, none⟩) (Kd.R_types HO_118002.out BK149.out (by decide)) (fun _ hk => hk.2) (.int .i64 t141)) (fun _ hk => hk.2) (.slice Ao67 t142.length co67)) (fun _ hk => hk.2) (.slice Ao68 t145.length co68)) (fun _ hk => ⟨hk.1.1.1.1.1, ⟨hk.1.1.1.1.2, ⟨hk.1.1.2, hk.1.2⟩⟩⟩)⟩, ⟨by (with_reducible repeat (first | apply rA | apply rN | apply rD)); exact Kd.R_mono (Kd.R_far (p := ⟨gb149, 2, none⟩) (Kd.R_far (p := ⟨gb149, 1, none⟩) (Kd.R_far (p := ⟨gb149, 0, none⟩) (Kd.R_types HO_127001.out BK149.out (by decide)) (fun _ hk => hk.2) (.int .i64 t141)) (fun _ hk => hk.2) (.slice Ao67 t142.length co67)) (fun _ hk => hk.2) (.slice Ao68 t145.length co68)) (fun _ hk => ⟨hk.1.1.1.1, ⟨hk.1.1.1.2, ⟨hk.1.1.2, hk.1.2⟩⟩⟩)⟩, ⟨by (with_reducible repeat (first | apply rA | apply rN | apply rD)); exact Kd.R_mono (Kd.R_far (p := ⟨gb149, 2, none⟩) (Kd.R_far (p := ⟨gb149, 1, none⟩) (Kd.R_far (p := ⟨gb149, 0, none⟩) (Kd.R_types HO_127002.out BK149.out (by decide)) (fun _ hk => hk.2) (.int .i64 t141)) (fun _ hk => hk.2) (.slice Ao67 t142.length co67)) (fun _ hk => hk.2) (.slice Ao68 t145.length co68)) (fun _ hk => ⟨hk.1.1.1.1.1, ⟨hk.1.1.1.1.2, ⟨hk.1.1.2, hk.1.2⟩⟩⟩)⟩, ⟨by (with_reducible repeat (first | apply rA | apply rN | apply rD)); exact Kd.R_mono (Kd.R_far (p := ⟨gb149, 2, none⟩) (Kd.R_far (p := ⟨gb149, 1, none⟩) (Kd.R_far (p := ⟨gb149, 0, none⟩) (Kd.R_types HO135.out BK149.out (by decide)) (fun _ hk => hk.2) (.int .i64 t141)) (fun _ hk => hk.2) (.slice Ao67 t142.length co67)) (fun _ hk => hk.2) (.slice Ao68 t145.length co68)) (fun _ hk => ⟨hk.1.1.1.1.2, ⟨hk.1.1.1.2, ⟨hk.1.1.2, hk.1.2⟩⟩⟩)⟩, ⟨by (with_reducible repeat (first | apply rA | apply rN | apply rD)); exact Kd.R_mono (Kd.R_far (p := ⟨gb149, 2, none⟩) (Kd.R_far (p := ⟨gb149, 1, none⟩) (Kd.R_far (p := ⟨gb149, 0, none⟩) (Kd.R_types HO138.out BK149.out (by decide)) (fun _ hk => hk.2) (.int .i64 t141)) (fun _ hk => hk.2) (.slice Ao67 t142.length co67)) (fun _ hk => hk.2) (.slice Ao68 t145.length co68)) (fun _ hk => ⟨hk.1.1.1.1.1.2, ⟨hk.1.1.1.1.2, ⟨hk.1.1.1.2, hk.1.2⟩⟩⟩)⟩, ⟨by (with_reducible repeat (first | apply rA | apply rN | apply rD)); exact Kd.R_mono (Kd.R_far (p := ⟨gb149, 2, none⟩) (Kd.R_far (p := ⟨gb149, 1, none⟩) (Kd.R_far (p := ⟨gb149, 0, none⟩) (Kd.R_types HO144.out BK149.out (by decide)) (fun _ hk => hk.2) (.int .i64 t141)) (fun _ hk => hk.2) (.slice Ao67 t142.length co67)) (fun _ hk => hk.2) (.slice Ao68 t145.length co68)) (fun _ hk => ⟨hk.1.1.1.1.2, ⟨hk.1.1.1.2, ⟨hk.1.1.2, hk.1.2⟩⟩⟩)⟩, ⟨by (with_reducible repeat (first | apply rA | apply rN | apply rD)); exact Kd.R_mono (Kd.R_far (p := ⟨gb149, 2, none⟩) (Kd.R_far (p := ⟨gb149, 1, none⟩) (Kd.R_far (p := ⟨gb149, 0, none⟩) (Kd.R_types HO147.out BK149.out (by decide)) (fun _ hk => hk.2) (.int .i64 t141)) (fun _ hk => hk.2) (.slice Ao67 t142.length co67)) (fun _ hk => hk.2) (.slice Ao68 t145.length co68)) (fun _ hk => ⟨hk.1.1.1.1.1.2, ⟨hk.1.1.1.1.2, ⟨hk.1.1.1.2, hk.1.2⟩⟩⟩)⟩, ⟨by (repeat first | with_reducible apply zN | with_reducible apply zD | with_reducible apply zA | refine blk_far ?_ NB108_149.out _); exact BK108.out⟩, ⟨by (repeat first | with_reducible apply zN | with_reducible apply zD | with_reducible apply zA | refine blk_far ?_ NB117_149.out _); exact BK117.out⟩, ⟨by (repeat first | with_reducible apply zN | with_reducible apply zD | with_reducible apply zA | refine blk_far ?_ NB126_149.out _); exact BK126.out⟩, ⟨by (repeat first | with_reducible apply zN | with_reducible apply zD | with_reducible apply zA | refine blk_far ?_ NB140_149.out _); exact BK140.out⟩, ⟨p3 BK149⟩, ⟨pH HB⟩⟩
        ·replace c69 := Bool.eq_false_iff.mpr c69
         subst c69
         rw [if_neg (show ¬ (false = true) by decide)] at H
         have H' := aM H
         clear H
         go_wp2
         go_meet
         case rel => exact ⟨_, (true), rS, H', ⟨by have := HJ5.out; first | omega | exact Nat.le_refl _⟩, ⟨by (with_reducible repeat (first | apply rA | apply rN | apply rD)); exact Kd.R_mono (Kd.R_far (p := ⟨gb149, 2, none⟩) (Kd.R_far (p := ⟨gb149, 1, none⟩) (Kd.R_far (p := ⟨gb149, 0, none⟩) (Kd.R_types HO_109001.out BK149.out (by decide)) (fun _ hk => hk.2) (.int .i64 t141)) (fun _ hk => hk.2) (.slice Ao67 t142.length co67)) (fun _ hk => hk.2) (.slice Ao68 t145.length co68)) (fun _ hk => ⟨hk.1.1.1.1, ⟨hk.1.1.1.2, ⟨hk.1.1.2, hk.1.2⟩⟩⟩)⟩, ⟨by (with_reducible repeat (first | apply rA | apply rN | apply rD)); exact Kd.R_mono (Kd.R_far (p := ⟨gb149, 2, none⟩) (Kd.R_far (p := ⟨gb149, 1, none⟩) (Kd.R_far (p := ⟨gb149, 0, none⟩) (Kd.R_types HO_109002.out BK149.out (by decide)) (fun _ hk => hk.2) (.int .i64 t141)) (fun _ hk => hk.2) (.slice Ao67 t142.length co67)) (fun _ hk => hk.2) (.slice Ao68 t145.length co68)) (fun _ hk => ⟨hk.1.1.1.1.1, ⟨hk.1.1.1.1.2, ⟨hk.1.1.2, hk.1.2⟩⟩⟩)⟩, ⟨by (with_reducible repeat (first | apply rA | apply rN | apply rD)); exact Kd.R_mono (Kd.R_far (p := ⟨gb149, 2, none⟩) (Kd.R_far (p := ⟨gb149, 1, none⟩) (Kd.R_far (p := ⟨gb149, 0, none⟩) (Kd.R_types HO_118001.out BK149.out (by decide)) (fun _ hk => hk.2) (.int .i64 t141)) (fun _ hk => hk.2) (.slice Ao67 t142.length co67)) (fun _ hk => hk.2) (.slice Ao68 t145.length co68)) (fun _ hk => ⟨hk.1.1.1.1, ⟨hk.1.1.1.2, ⟨hk.1.1.2, hk.1.2⟩⟩⟩)⟩, ⟨by (with_reducible repeat (first | apply rA | apply rN | apply rD)); exact Kd.R_mono (Kd.R_far (p := ⟨gb149, 2, none⟩) (Kd.R_far (p := ⟨gb149, 1, none⟩) (Kd.R_far (p := ⟨gb149, 0, none⟩) (Kd.R_types HO_118002.out BK149.out (by decide)) (fun _ hk => hk.2) (.int .i64 t141)) (fun _ hk => hk.2) (.slice Ao67 t142.length co67)) (fun _ hk => hk.2) (.slice Ao68 t145.length co68)) (fun _ hk => ⟨hk.1.1.1.1.1, ⟨hk.1.1.1.1.2, ⟨hk.1.1.2, hk.1.2⟩⟩⟩)⟩, ⟨by (with_reducible repeat (first | apply rA | apply rN | apply rD)); exact Kd.R_mono (Kd.R_far (p := ⟨gb149, 2, none⟩) (Kd.R_far (p := ⟨gb149, 1, none⟩) (Kd.R_far (p := ⟨gb149, 0, none⟩) (Kd.R_types HO_127001.out BK149.out (by decide)) (fun _ hk => hk.2) (.int .i64 t141)) (fun _ hk => hk.2) (.slice Ao67 t142.length co67)) (fun _ hk => hk.2) (.slice Ao68 t145.length co68)) (fun _ hk => ⟨hk.1.1.1.1, ⟨hk.1.1.1.2, ⟨hk.1.1.2, hk.1.2⟩⟩⟩)⟩, ⟨by (with_reducible repeat (first | apply rA | apply rN | apply rD)); exact Kd.R_mono (Kd.R_far (p := ⟨gb149, 2, none⟩) (Kd.R_far (p := ⟨gb149, 1, none⟩) (Kd.R_far (p := ⟨gb149, 0, none⟩) (Kd.R_types HO_127002.out BK149.out (by decide)) (fun _ hk => hk.2) (.int .i64 t141)) (fun _ hk => hk.2) (.slice Ao67 t142.length co67)) (fun _ hk => hk.2) (.slice Ao68 t145.length co68)) (fun _ hk => ⟨hk.1.1.1.1.1, ⟨hk.1.1.1.1.2, ⟨hk.1.1.2, hk.1.2⟩⟩⟩)⟩, ⟨by (with_reducible repeat (first | apply rA | apply rN | apply rD)); exact Kd.R_mono (Kd.R_far (p := ⟨gb149, 2, none⟩) (Kd.R_far (p := ⟨gb149, 1, none⟩) (Kd.R_far (p := ⟨gb149, 0, none⟩) (Kd.R_types HO135.out BK149.out (by decide)) (fun _ hk => hk.2) (.int .i64 t141)) (fun _ hk => hk.2) (.slice Ao67 t142.length co67)) (fun _ hk => hk.2) (.slice Ao68 t145.length co68)) (fun _ hk => ⟨hk.1.1.1.1.2, ⟨hk.1.1.1.2, ⟨hk.1.1.2, hk.1.2⟩⟩⟩)⟩, ⟨by (with_reducible repeat (first | apply rA | apply rN | apply rD)); exact Kd.R_mono (Kd.R_far (p := ⟨gb149, 2, none⟩) (Kd.R_far (p := ⟨gb149, 1, none⟩) (Kd.R_far (p := ⟨gb149, 0, none⟩) (Kd.R_types HO138.out BK149.out (by decide)) (fun _ hk => hk.2) (.int .i64 t141)) (fun _ hk => hk.2) (.slice Ao67 t142.length co67)) (fun _ hk => hk.2) (.slice Ao68 t145.length co68)) (fun _ hk => ⟨hk.1.1.1.1.1.2, ⟨hk.1.1.1.1.2, ⟨hk.1.1.1.2, hk.1.2⟩⟩⟩)⟩, ⟨by (with_reducible repeat (first | apply rA | apply rN | apply rD)); exact Kd.R_mono (Kd.R_far (p := ⟨gb149, 2, none⟩) (Kd.R_far (p := ⟨gb149, 1, none⟩) (Kd.R_far (p := ⟨gb149, 0, none⟩) (Kd.R_types HO144.out BK149.out (by decide)) (fun _ hk => hk.2) (.int .i64 t141)) (fun _ hk => hk.2) (.slice Ao67 t142.length co67)) (fun _ hk => hk.2) (.slice Ao68 t145.length co68)) (fun _ hk => ⟨hk.1.1.1.1.2, ⟨hk.1.1.1.2, ⟨hk.1.1.2, hk.1.2⟩⟩⟩)⟩, ⟨by (with_reducible repeat (first | apply rA | apply rN | apply rD)); exact Kd.R_mono (Kd.R_far (p := ⟨gb149, 2, none⟩) (Kd.R_far (p := ⟨gb149, 1, none⟩) (Kd.R_far (p := ⟨gb149, 0, none⟩) (Kd.R_types HO147.out BK149.out (by decide)) (fun _ hk => hk.2) (.int .i64 t141)) (fun _ hk => hk.2) (.slice Ao67 t142.length co67)) (fun _ hk => hk.2) (.slice Ao68 t145.length co68)) (fun _ hk => ⟨hk.1.1.1.1.1.2, ⟨hk.1.1.1.1.2, ⟨hk.1.1.1.2, hk.1.2⟩⟩⟩)⟩, ⟨by (repeat first | with_reducible apply zN | with_reducible apply zD | with_reducible apply zA | refine blk_far ?_ NB108_149.out _); exact BK108.out⟩, ⟨by (repeat first | with_reducible apply zN | with_reducible apply zD | with_reducible apply zA | refine blk_far ?_ NB117_149.out _); exact BK117.out⟩, ⟨by (repeat first | with_reducible apply zN | with_reducible apply zD | with_reducible apply zA | refine blk_far ?_ NB126_149.out _); exact BK126.out⟩, ⟨by (repeat first | with_reducible apply zN | with_reducible apply zD | with_reducible apply zA | refine blk_far ?_ NB140_149.out _); exact BK140.out⟩, ⟨p3 BK149⟩, ⟨pH HB⟩⟩
       case rest =>
        as_aux_lemma =>
         clear HC44
         try clear c1; try clear c2; try clear c2b0; try clear c2b1; try clear p2; try clear c3; try clear c4; try clear c5; try clear c6; try clear c7; try clear c8; try clear c9; try clear c10; try clear c11; try clear c12; try clear c13; try clear c14; try clear c15; try clear c21; try clear c22; try clear c26; try clear c26b0; try clear c26b1; try clear c26b2; try clear c27; try clear c27b0; try clear c27b1; try clear c27b2; try clear c29; try clear c30; try clear c32; try clear c34; try clear c35; try clear c37; try clear c39; try clear c40; try clear c45; try clear c46; try clear c49; try clear c53; try clear c54; try clear c55; try clear c62; try clear c63; try clear c64; try clear c65; try clear c69; try clear c70; try clear c71; try clear c72; try clear c72b0; try clear c72b1; try clear c72b2; try clear c73; try clear c73b0; try clear c73b1; try clear c73b2; try clear c74; try clear c74b0; try clear c74b1; try clear c76; try clear c77; try clear c78; try clear c79; try clear c81; try clear c82; try clear c83; try clear c85; try clear c86; try clear c89; try clear c92; try clear c93; try clear c94; try clear c95; try clear c97; try clear c98; try clear c99; try clear c101; try clear c102; try clear c108; try clear c109; try clear c110; try clear c111; try clear c113; try clear c114; try clear c115; try clear c117; try clear c118; try clear c122; try clear c123; try clear c124; try clear c125; try clear c127; try clear c128; try clear c129; try clear c132; try clear c133; try clear c134; try clear c135; try clear p2; try clear hcz100_0 hcz100_1 hcz100_2 hfz100_0 hfz100_1 hfz100_2; try clear hcz103_0 hcz103_1 hcz103_2 hfz103_0 hfz103_1 hfz103_2; try clear hcz105_0 hcz105_1 hcz105_2 hfz105_0 hfz105_1 hfz105_2; try clear hcz112_0 hcz112_1 hcz112_2 hfz112_0 hfz112_1 hfz112_2; try clear hcz116_0 hcz116_1 hcz116_2 hfz116_0 hfz116_1 hfz116_2; try clear hcz119_0 hcz119_1 hcz119_2 hfz119_0 hfz119_1 hfz119_2; try clear hcz126_0 hcz126_1 hcz126_2 hfz126_0 hfz126_1 hfz126_2; try clear hcz130_0 hcz130_1 hcz130_2 hfz130_0 hfz130_1 hfz130_2; try clear hcz136_0 hcz136_1 hcz136_2 hfz136_0 hfz136_1 hfz136_2; try clear hcz15_0 hcz15_1 hcz15_2 hfz15_0 hfz15_1 hfz15_2; try clear hcz18_0 hcz18_1 hcz18_2 hfz18_0 hfz18_1 hfz18_2; try clear hcz23_0 hcz23_1 hcz23_2 hfz23_0 hfz23_1 hfz23_2; try clear hcz31_0 hcz31_1 hcz31_2 hfz31_0 hfz31_1 hfz31_2; try clear hcz33_0 hcz33_1 hcz33_2 hfz33_0 hfz33_1 hfz33_2; try clear hcz36_0 hcz36_1 hcz36_2 hfz36_0 hfz36_1 hfz36_2; try clear hcz38_0 hcz38_1 hcz38_2 hfz38_0 hfz38_1 hfz38_2; try clear hcz47_0 hcz47_1 hcz47_2 hfz47_0 hfz47_1 hfz47_2; try clear hcz50_0 hcz50_1 hcz50_2 hfz50_0 hfz50_1 hfz50_2; try clear hcz56_0 hcz56_1 hcz56_2 hfz56_0 hfz56_1 hfz56_2; try clear hcz59_0 hcz59_1 hcz59_2 hfz59_0 hfz59_1 hfz59_2; try clear hcz66_0 hcz66_1 hcz66_2 hfz66_0 hfz66_1 hfz66_2; try clear hcz80_0 hcz80_1 hcz80_2 hfz80_0 hfz80_1 hfz80_2; try clear hcz84_0 hcz84_1 hcz84_2 hfz84_0 hfz84_1 hfz84_2; try clear hcz87_0 hcz87_1 hcz87_2 hfz87_0 hfz87_1 hfz87_2; try clear hcz96_0 hcz96_1 hcz96_2 hfz96_0 hfz96_1 hfz96_2; try clear hcz9_0 hcz9_1 hcz9_2 hfz9_0 hfz9_1 hfz9_2
         obtain ⟨kq, x123_43, rfl, HA, HJ43, HO_109001, HO_109002, HO_118001, HO_118002, HO_127001, HO_127002, HO_141001, HO_141002, HO_150001, HO_150002, BK108, BK117, BK126, BK140, BK149, HB⟩ := hcut
         cases kq with
         | zero => exact absurd HA.out (by simp [laws_FnReached.j1])
         | succ kj43 =>
          have H := HA.out
          clear HA
          simp only [laws_FnReached.j1] at H
          by_cases c137 : x123_43 = true
          ·subst c137
           rw [if_pos rfl] at H
           obtain rfl := Option.some.inj H
           go_wp2
           go_ret
           exact ⟨eW, pH HB⟩
          ·replace c137 := Bool.eq_false_iff.mpr c137
           subst c137
           rw [if_neg (show ¬ (false = true) by decide)] at H
           have H' := aM H
           clear H
           have hnb138 := NB108_117.out
           have hnc138 := NB117_108.out
           have hnb139 := NB108_126.out
           have hnc139 := NB126_108.out
           have hnb140 := NB108_140.out
           have hnc140 := NB140_108.out
           have hnb141 := NB108_149.out
           have hnc141 := NB149_108.out
           obtain ⟨hcz142_0, hcz142_1, hcz142_2, hfz142_0, hfz142_1, hfz142_2⟩ := cA3 BK108
           go_wp2
           go_loopg [127] kj43 (fun kq v127 w' => ∃ (x127_3 : Int), v127 = .int .i64 x127_3 ∧ Aside0 (laws_FnReached.l0 kq t105 (t105.length : Int) x127_3 t101 t102 t105 t109 t110 t113 t141 t142 t145 = some r) ∧ Aside0 (kq ≤ kj43) ∧ Aside0 (Kd.R (Kd.int .i64) 3 w' w.heap.size (fun k_ => some k_ ≠ ((.slice Ao17 t113.length co17) : Value).ownBlock ∧ some k_ ≠ ((.slice Ao25 t122.length co25) : Value).ownBlock ∧ some k_ ≠ ((.slice Ao58 t136.length co58) : Value).ownBlock ∧ some k_ ≠ ((.slice Ao68 t145.length co68) : Value).ownBlock) (.slice Ao11 t105.length co11) t105) ∧ Aside0 (Kd.R k61 61 w' w.heap.size (fun k_ => some k_ ≠ ((.slice Ao16 t110.length co16) : Value).ownBlock ∧ some k_ ≠ ((.slice Ao24 t119.length co24) : Value).ownBlock ∧ some k_ ≠ ((.slice Ao57 t133.length co57) : Value).ownBlock ∧ some k_ ≠ ((.slice Ao67 t142.length co67) : Value).ownBlock) (.slice Ao10 t102.length co10) t102) ∧ Aside0 (Kd.R (Kd.int .i64) 3 w' w.heap.size (fun k_ => some k_ ≠ ((.slice Ao17 t113.length co17) : Value).ownBlock ∧ some k_ ≠ ((.slice Ao25 t122.length co25) : Value).ownBlock ∧ some k_ ≠ ((.slice Ao58 t136.length co58) : Value).ownBlock ∧ some k_ ≠ ((.slice Ao68 t145.length co68) : Value).ownBlock) (.slice Ao11 t105.length co11) t105) ∧ Aside0 (Kd.R k61 61 w' w.heap.size (fun k_ => some k_ ≠ ((.slice Ao10 t102.length co10) : Value).ownBlock ∧ some k_ ≠ ((.slice Ao24 t119.length co24) : Value).ownBlock ∧ some k_ ≠ ((.slice Ao57 t133.length co57) : Value).ownBlock ∧ some k_ ≠ ((.slice Ao67 t142.length co67) : Value).ownBlock) (.slice Ao16 t110.length co16) t110) ∧ Aside0 (Kd.R (Kd.int .i64) 3 w' w.heap.size (fun k_ => some k_ ≠ ((.slice Ao11 t105.length co11) : Value).ownBlock ∧ some k_ ≠ ((.slice Ao11 t105.length co11) : Value).ownBlock ∧ some k_ ≠ ((.slice Ao25 t122.length co25) : Value).ownBlock ∧ some k_ ≠ ((.slice Ao58 t136.length co58) : Value).ownBlock ∧ some k_ ≠ ((.slice Ao68 t145.length co68) : Value).ownBlock) (.slice Ao17 t113.length co17) t113) ∧ Aside0 (Kd.R k61 61 w' w.heap.size (fun k_ => some k_ ≠ ((.slice Ao10 t102.length co10) : Value).ownBlock ∧ some k_ ≠ ((.slice Ao16 t110.length co16) : Value).ownBlock ∧ some k_ ≠ ((.slice Ao57 t133.length co57) : Value).ownBlock ∧ some k_ ≠ ((.slice Ao67 t142.length co67) : Value).ownBlock) (.slice Ao24 t119.length co24) t119) ∧ Aside0 (Kd.R (Kd.int .i64) 3 w' w.heap.size (fun k_ => some k_ ≠ ((.slice Ao11 t105.length co11) : Value).ownBlock ∧ some k_ ≠ ((.slice Ao11 t105.length co11) : Value).ownBlock ∧ some k_ ≠ ((.slice Ao17 t113.length co17) : Value).ownBlock ∧ some k_ ≠ ((.slice Ao58 t136.length co58) : Value).ownBlock ∧ some k_ ≠ ((.slice Ao68 t145.length co68) : Value).ownBlock) (.slice Ao25 t122.length co25) t122) ∧ Aside0 (Kd.R k61 61 w' w.heap.size (fun k_ => some k_ ≠ ((.slice Ao10 t102.length co10) : Value).ownBlock ∧ some k_ ≠ ((.slice Ao16 t110.length co16) : Value).ownBlock ∧ some k_ ≠ ((.slice Ao24 t119.length co24) : Value).ownBlock ∧ some k_ ≠ ((.slice Ao67 t142.length co67) : Value).ownBlock) (.slice Ao57 t133.length co57) t133) ∧ Aside0 (Kd.R (Kd.int .i64) 3 w' w.heap.size (fun k_ => some k_ ≠ ((.slice Ao11 t105.length co11) : Value).ownBlock ∧ some k_ ≠ ((.slice Ao11 t105.length co11) : Value).ownBlock ∧ some k_ ≠ ((.slice Ao17 t113.length co17) : Value).ownBlock ∧ some k_ ≠ ((.slice Ao25 t122.length co25) : Value).ownBlock ∧ some k_ ≠ ((.slice Ao68 t145.length co68) : Value).ownBlock) (.slice Ao58 t136.length co58) t136) ∧ Aside0 (Kd.R k61 61 w' w.heap.size (fun k_ => some k_ ≠ ((.slice Ao10 t102.length co10) : Value).ownBlock ∧ some k_ ≠ ((.slice Ao16 t110.length co16) : Value).ownBlock ∧ some k_ ≠ ((.slice Ao24 t119.length co24) : Value).ownBlock ∧ some k_ ≠ ((.slice Ao57 t133.length co57) : Value).ownBlock) (.slice Ao67 t142.length co67) t142) ∧ Aside0 (Kd.R (Kd.int .i64) 3 w' w.heap.size (fun k_ => some k_ ≠ ((.slice Ao11 t105.length co11) : Value).ownBlock ∧ some k_ ≠ ((.slice Ao11 t105.length co11) : Value).ownBlock ∧ some k_ ≠ ((.slice Ao17 t113.length co17) : Value).ownBlock ∧ some k_ ≠ ((.slice Ao25 t122.length co25) : Value).ownBlock ∧ some k_ ≠ ((.slice Ao58 t136.length co58) : Value).ownBlock) (.slice Ao68 t145.length co68) t145) ∧ Aside0 (w'.heap[gb108]? = some (.cells #[.int .i64 t101, (.slice Ao10 t102.length co10), (.slice Ao11 t105.length co11)] 31 (0, 0))) ∧ Aside0 (w'.heap[gb117]? = some (.cells #[.int .i64 t109, (.slice Ao16 t110.length co16), (.slice Ao17 t113.length co17)] 31 (0, 0))) ∧ Aside0 (w'.heap[gb126]? = some (.cells #[.int .i64 t118, (.slice Ao24 t119.length co24), (.slice Ao25 t122.length co25)] 31 (0, 0))) ∧ Aside0 (w'.heap[gb140]? = some (.cells #[.int .i64 t132, (.slice Ao57 t133.length co57), (.slice Ao58 t136.length co58)] 31 (0, 0))) ∧ Aside0 (w'.heap[gb149]? = some (.cells #[.int .i64 t141, (.slice Ao67 t142.length co67), (.slice Ao68 t145.length co68)] 31 (0, 0))) ∧ Aside0 (Below w.heap.size w w'))
           case atStart => exact ⟨(0), rS, H', ⟨Nat.le_refl _⟩, ⟨by (with_reducible repeat (first | apply rA | apply rN | apply rD)); exact HO_109002.out⟩, ⟨by (with_reducible repeat (first | apply rA | apply rN | apply rD)); exact HO_109001.out⟩, ⟨by (with_reducible repeat (first | apply rA | apply rN | apply rD)); exact HO_109002.out⟩, ⟨by (with_reducible repeat (first | apply rA | apply rN | apply rD)); exact HO_118001.out⟩, ⟨by (with_reducible repeat (first | apply rA | apply rN | apply rD)); exact Kd.R_mono HO_118002.out (fun _ hk => ⟨hk.1, ⟨hk.1, ⟨hk.2.1, ⟨hk.2.2.1, hk.2.2.2⟩⟩⟩⟩)⟩, ⟨by (with_reducible repeat (first | apply rA | apply rN | apply rD)); exact HO_127001.out⟩, ⟨by (with_reducible repeat (first | apply rA | apply rN | apply rD)); exact Kd.R_mono HO_127002.out (fun _ hk => ⟨hk.1, ⟨hk.1, ⟨hk.2.1, ⟨hk.2.2.1, hk.2.2.2⟩⟩⟩⟩)⟩, ⟨by (with_reducible repeat (first | apply rA | apply rN | apply rD)); exact HO_141001.out⟩, ⟨by (with_reducible repeat (first | apply rA | apply rN | apply rD)); exact Kd.R_mono HO_141002.out (fun _ hk => ⟨hk.1, ⟨hk.1, ⟨hk.2.1, ⟨hk.2.2.1, hk.2.2.2⟩⟩⟩⟩)⟩, ⟨by (with_reducible repeat (first | apply rA | apply rN | apply rD)); exact HO_150001.out⟩, ⟨by (with_reducible repeat (first | apply rA | apply rN | apply rD)); exact Kd.R_mono HO_150002.out (fun _ hk => ⟨hk.1, ⟨hk.1, ⟨hk.2.1, ⟨hk.2.2.1, hk.2.2.2⟩⟩⟩⟩)⟩, ⟨pB BK108⟩, ⟨pB BK117⟩, ⟨pB BK126⟩, ⟨pB BK140⟩, ⟨pB BK149⟩, ⟨pH HB⟩⟩
           case round =>
            as_aux_lemma =>
             clear H'
             try clear c1; try clear c2; try clear c2b0; try clear c2b1; try clear p2; try clear c3; try clear c4; try clear c5; try clear c6; try clear c7; try clear c8; try clear c9; try clear c10; try clear c11; try clear c12; try clear c13; try clear c14; try clear c15; try clear c21; try clear c22; try clear c26; try clear c26b0; try clear c26b1; try clear c26b2; try clear c27; try clear c27b0; try clear c27b1; try clear c27b2; try clear c29; try clear c30; try clear c32; try clear c34; try clear c35; try clear c37; try clear c39; try clear c40; try clear c45; try clear c46; try clear c49; try clear c53; try clear c54; try clear c55; try clear c62; try clear c63; try clear c64; try clear c65; try clear c69; try clear c70; try clear c71; try clear c72; try clear c72b0; try clear c72b1; try clear c72b2; try clear c73; try clear c73b0; try clear c73b1; try clear c73b2; try clear c74; try clear c74b0; try clear c74b1; try clear c76; try clear c77; try clear c78; try clear c79; try clear c81; try clear c82; try clear c83; try clear c85; try clear c86; try clear c89; try clear c92; try clear c93; try clear c94; try clear c95; try clear c97; try clear c98; try clear c99; try clear c101; try clear c102; try clear c108; try clear c109; try clear c110; try clear c111; try clear c113; try clear c114; try clear c115; try clear c117; try clear c118; try clear c122; try clear c123; try clear c124; try clear c125; try clear c127; try clear c128; try clear c129; try clear c132; try clear c133; try clear c134; try clear c135; try clear c137; try clear c138; try clear c139; try clear c140; try clear c141; try clear p2; try clear hcz100_0 hcz100_1 hcz100_2 hfz100_0 hfz100_1 hfz100_2; try clear hcz103_0 hcz103_1 hcz103_2 hfz103_0 hfz103_1 hfz103_2; try clear hcz105_0 hcz105_1 hcz105_2 hfz105_0 hfz105_1 hfz105_2; try clear hcz112_0 hcz112_1 hcz112_2 hfz112_0 hfz112_1 hfz112_2; try clear hcz116_0 hcz116_1 hcz116_2 hfz116_0 hfz116_1 hfz116_2; try clear hcz119_0 hcz119_1 hcz119_2 hfz119_0 hfz119_1 hfz119_2; try clear hcz126_0 hcz126_1 hcz126_2 hfz126_0 hfz126_1 hfz126_2; try clear hcz130_0 hcz130_1 hcz130_2 hfz130_0 hfz130_1 hfz130_2; try clear hcz136_0 hcz136_1 hcz136_2 hfz136_0 hfz136_1 hfz136_2; try clear hcz142_0 hcz142_1 hcz142_2 hfz142_0 hfz142_1 hfz142_2; try clear hcz15_0 hcz15_1 hcz15_2 hfz15_0 hfz15_1 hfz15_2; try clear hcz18_0 hcz18_1 hcz18_2 hfz18_0 hfz18_1 hfz18_2; try clear hcz23_0 hcz23_1 hcz23_2 hfz23_0 hfz23_1 hfz23_2; try clear hcz31_0 hcz31_1 hcz31_2 hfz31_0 hfz31_1 hfz31_2; try clear hcz33_0 hcz33_1 hcz33_2 hfz33_0 hfz33_1 hfz33_2; try clear hcz36_0 hcz36_1 hcz36_2 hfz36_0 hfz36_1 hfz36_2; try clear hcz38_0 hcz38_1 hcz38_2 hfz38_0 hfz38_1 hfz38_2; try clear hcz47_0 hcz47_1 hcz47_2 hfz47_0 hfz47_1 hfz47_2; try clear hcz50_0 hcz50_1 hcz50_2 hfz50_0 hfz50_1 hfz50_2; try clear hcz56_0 hcz56_1 hcz56_2 hfz56_0 hfz56_1 hfz56_2; try clear hcz59_0 hcz59_1 hcz59_2 hfz59_0 hfz59_1 hfz59_2; try clear hcz66_0 hcz66_1 hcz66_2 hfz66_0 hfz66_1 hfz66_2; try clear hcz80_0 hcz80_1 hcz80_2 hfz80_0 hfz80_1 hfz80_2; try clear hcz84_0 hcz84_1 hcz84_2 hfz84_0 hfz84_1 hfz84_2; try clear hcz87_0 hcz87_1 hcz87_2 hfz87_0 hfz87_1 hfz87_2; try clear hcz96_0 hcz96_1 hcz96_2 hfz96_0 hfz96_1 hfz96_2; try clear hcz9_0 hcz9_1 hcz9_2 hfz9_0 hfz9_1 hfz9_2
             obtain ⟨x127_3, rfl, HA, HK3, HO_125, HO_109001, HO_109002, HO_118001, HO_118002, HO_127001, HO_127002, HO_141001, HO_141002, HO_150001, HO_150002, BK108, BK117, BK126, BK140, BK149, HB⟩ := hrel
             cases gk with
             | zero => exact absurd HA.out (by simp [laws_FnReached.l0])
             | succ k3 =>
              have H := HA.out
              clear HA
              simp only [laws_FnReached.l0] at H
              by_cases c143 : x127_3 < (t105.length : Int)
              ·rw [if_pos c143] at H
               have c143b0 : decide (x127_3 < (t105.length : Int)) = true := decide_eq_true c143
               clear c143
               by_cases c144 : 0 ≤ x127_3
               ·rw [if_pos c144] at H
                have c144b0 : decide (0 ≤ x127_3) = true := decide_eq_true c144
                clear c144
                by_cases c145 : x127_3 < (t105.length : Int)
                ·rw [if_pos c145] at H
                 have c145b0 : decide (x127_3 < (t105.length : Int)) = true := decide_eq_true c145
                 clear c145
                 replace H := Option.bind_eq_some_iff.mp H
                 obtain ⟨⟨t153, t154⟩, A1460, H⟩ := H
                 try dsimp only at H
                 have A146 := aM A1460
                 clear A1460
                 by_cases c147 : x127_3 < (t113.length : Int)
                 ·rw [if_pos c147] at H
                  have c147b0 : decide (x127_3 < (t113.length : Int)) = true := decide_eq_true c147
                  clear c147
                  replace H := Option.bind_eq_some_iff.mp H
                  obtain ⟨⟨t156, t157⟩, A1480, H⟩ := H
                  try dsimp only at H
                  have A148 := aM A1480
                  clear A1480
                  by_cases c149 : x127_3 < (t145.length : Int)
                  ·rw [if_pos c149] at H
                   have c149b0 : decide (x127_3 < (t145.length : Int)) = true := decide_eq_true c149
                   clear c149
                   replace H := Option.bind_eq_some_iff.mp H
                   obtain ⟨⟨t159, t160⟩, A1500, H⟩ := H
                   try dsimp only at H
                   have A150 := aM A1500
                   clear A1500
                   by_cases c151 : (t154 != t157) = true
                   ·rw [if_pos c151] at H
                    have c151b0 : (t154 != t157) = true := c151
                    (try (have c151b1 : decide (t154 = t157) = false := by simpa using c151))
                    (try (have c151b2 : (t154 == t157) = false := by simpa using c151))
                    (try (have c151b3 : ¬ (t154 = t157) := by simpa using c151))
                    clear c151
                    obtain rfl := Option.some.inj H
                    have p152 : 0 ≤ (x127_3 : Int) := dA
                    have q152 : x127_3 < (t105.length : Int) := dA
                    obtain ⟨ad152, e152, hx152_0⟩ := Kd.at_int (Kd.R_reads' HO_125.out).2.2 x127_3 p152 q152
                    cases e152
                    replace p152 := eq_true p152
                    replace q152 := eq_true q152
                    have hnb152 := NB108_117.out
                    have hnc152 := NB117_108.out
                    have hnb153 := NB108_126.out
                    have hnc153 := NB126_108.out
                    have hnb154 := NB108_140.out
                    have hnc154 := NB140_108.out
                    have hnb155 := NB108_149.out
                    have hnc155 := NB149_108.out
                    obtain ⟨hcz156_0, hcz156_1, hcz156_2, hfz156_0, hfz156_1, hfz156_2⟩ := cA3 BK108
                    try go_wp2_with (first | ((with_reducible refine gate_callee (f := 8) rfl ?_); refine goesL_ (some 135) rfl rfl Tryd.func8 (by kernel_rfl) rfl #[.agg #[.int .i64 t101, .slice Ao10 t102.length co10, .slice (some ad152) t105.length co11], .int .i64 (rd t105 x127_3)] rfl tA ?_; (with_reducible refine (impl_ShowCell.calls k3 t101 _ _ t102 _ _ t105 (rd t105 x127_3) t153 t154 _ ?side1 ?side2 ?side3 ?side4 A146.out (HE.out.below (pH HB))).mono ?_); (case side1 => exact sC ((Kd.R_reads' HO_109001.out).2.2)); (case side2 => exact (Kd.R_reads' HO_109001.out).2.1); (case side3 => exact sC ((Kd.R_reads' HO_109002.out).2.2)); (case side4 => exact (Kd.R_reads' HO_109002.out).2.1); rintro e w157 ⟨rfl, hb⟩; refine ⟨_, rfl, ?_⟩; have n0_ := aK (Kd.R_below HO_125.out hb); have n1_ := aK (Kd.R_below HO_109001.out hb); have n2_ := aK (Kd.R_below HO_109002.out hb); have n3_ := aK (Kd.R_below HO_118001.out hb); have n4_ := aK (Kd.R_below HO_118002.out hb); have n5_ := aK (Kd.R_below HO_127001.out hb); have n6_ := aK (Kd.R_below HO_127002.out hb); have n7_ := aK (Kd.R_below HO_141001.out hb); have n8_ := aK (Kd.R_below HO_141002.out hb); have n9_ := aK (Kd.R_below HO_150001.out hb); have n10_ := aK (Kd.R_below HO_150002.out hb); replace BK108 := qb BK108 hb; replace BK117 := qb BK117 hb; replace BK126 := qb BK126 hb; replace BK140 := qb BK140 hb; replace BK149 := qb BK149 hb; clear HO_125; have HO_125 := n0_; clear n0_; clear HO_109001; have HO_109001 := n1_; clear n1_; clear HO_109002; have HO_109002 := n2_; clear n2_; clear HO_118001; have HO_118001 := n3_; clear n3_; clear HO_118002; have HO_118002 := n4_; clear n4_; clear HO_127001; have HO_127001 := n5_; clear n5_; clear HO_127002; have HO_127002 := n6_; clear n6_; clear HO_141001; have HO_141001 := n7_; clear n7_; clear HO_141002; have HO_141002 := n8_; clear n8_; clear HO_150001; have HO_150001 := n9_; clear n9_; clear HO_150002; have HO_150002 := n10_; clear n10_; replace HB := qs HB hb; (try clear hb)))
                    have n_ := aJ (aM (Kd.R_drew HO_125.out)) (aJ (aM (Kd.R_drew HO_109001.out)) (aJ (aM (Kd.R_drew HO_109002.out)) (aJ (aM (Kd.R_drew HO_118001.out)) (aJ (aM (Kd.R_drew HO_118002.out)) (aJ (aM (Kd.R_drew HO_127001.out)) (aJ (aM (Kd.R_drew HO_127002.out)) (aJ (aM (Kd.R_drew HO_141001.out)) (aJ (aM (Kd.R_drew HO_141002.out)) (aJ (aM (Kd.R_drew HO_150001.out)) (aJ (aM (Kd.R_drew HO_150002.out)) (aJ (aM (blk_drew BK108.out)) (aJ (aM (blk_drew BK117.out)) (aJ (aM (blk_drew BK126.out)) (aJ (aM (blk_drew BK140.out)) (aJ (aM (blk_drew BK149.out)) (aM (below_drew1 HB.out)))))))))))))))))
                    clear HO_125 HO_109001 HO_109002 HO_118001 HO_118002 HO_127001 HO_127002 HO_141001 HO_141002 HO_150001 HO_150002 BK108 BK117 BK126 BK140 BK149 HB
                    obtain ⟨HO_125, HO_109001, HO_109002, HO_118001, HO_118002, HO_127001, HO_127002, HO_141001, HO_141002, HO_150001, HO_150002, BK108, BK117, BK126, BK140, BK149, HB⟩ := n_
                    have p155 : 0 ≤ (x127_3 : Int) := dA
                    have q155 : x127_3 < (t113.length : Int) := dA
                    obtain ⟨ad155, e155, hx155_0⟩ := Kd.at_int (Kd.R_reads' HO_118002.out).2.2 x127_3 p155 q155
                    cases e155
                    replace p155 := eq_true p155
                    replace q155 := eq_true q155
                    refine start_ (n := 12) (S := fun w' => w'.cell? ⟨gb117, 0, none⟩ = some (.int .i64 t109) ∧ w'.cell? ⟨gb117, 1, none⟩ = some (.slice Ao16 t110.length co16) ∧ w'.cell? ⟨gb117, 2, none⟩ = some (.slice (some ad155) t113.length co17) ∧ w'.cell? (ad155.add (x127_3).toNat) = some (.int .i64 (rd t113 x127_3))) (ds := []) (bs 0 12) (by kernel_rfl) rfl rfl ⟨(blk_cell BK117.out 0).trans rfl, (blk_cell BK117.out 1).trans rfl, (blk_cell BK117.out 2).trans rfl, hx155_0⟩ (fun hHeld => ?_); refine with_tabW laws_FnReached.tab19 laws_FnReached.bits19 (fun HT_ HW_ => ?_)
                    generalize w157.drew = w158 at HO_125 HO_109001 HO_109002 HO_118001 HO_118002 HO_127001 HO_127002 HO_141001 HO_141002 HO_150001 HO_150002 BK108 BK117 BK126 BK140 BK149 HB hx155_0 hHeld ⊢
                    refine pS (i := 1) (N := some 140) #[false, true, false, false, false, false, false, false, false, false, false, false] (aO HT_) ?_
                    refine pS (i := 3) (N := some 142) #[false, true, false, true, false, false, false, false, false, false, false, false] (aO HT_) ?_
                    refine take_ (i := 0) (N := some 139) (v := ?_) (a' := ?_) #[true, true, false, true, false, false, false, false, false, false, false, false] rfl rfl (take_ofW HT_.out HW_.out (by kernel_rfl)) (fun _ _ _ h => h) (Or.inl ⟨by rfl, ?_⟩) hHeld ?_ ?_
                    rotate_left
                    ·rintro w' ⟨s0, s1, s2, s3⟩
                     go_simp
                     with_reducible rfl
                    rotate_left
                    ·simp only [sP, i64_w, i32_w]
                     rfl
                    refine take_ (i := 2) (N := some 141) (v := ?_) (a' := ?_) (bs 4 8) rfl rfl (take_ofW HT_.out HW_.out (by kernel_rfl)) (fun _ _ _ h => h) (Or.inl ⟨by rfl, ?_⟩) hHeld ?_ ?_
                    rotate_left
                    ·rintro w' ⟨s0, s1, s2, s3⟩
                     go_simp
                     with_reducible rfl
                    rotate_left
                    ·simp only [sP, i64_w, i32_w]
                     rfl
                    refine pS (i := 4) (N := some 143) (bs 5 7) (aO HT_) ?_
                    refine take_ (i := 5) (N := some 144) (v := ?_) (a' := ?_) (bs 6 6) rfl rfl (take_ofW HT_.out HW_.out (by kernel_rfl)) (fun _ _ _ h => h) (Or.inl ⟨by rfl, ?_⟩) hHeld ?_ ?_
                    rotate_left
                    ·rintro w' ⟨s0, s1, s2, s3⟩
                     go_simp
                     with_reducible rfl
                    rotate_left
                    ·simp only [sP, i64_w, i32_w]
                     rfl
                    refine one_ (i := 6) (N := some 145) (bs 7 5) rfl rfl (one_of HT_.out (by kernel_rfl)) (by decide) (fun K hK => ?_)
                    refine goes_ Tryd.func8 (by kernel_rfl) rfl #[.agg #[.int .i64 t109, .slice Ao16 t110.length co16, .slice (some ad155) t113.length co17], .int .i64 (rd t113 x127_3)] (by rfl) rfl rfl tA ?_
                    with_reducible refine (impl_ShowCell.calls k3 t109 _ _ t110 _ _ t113 (rd t113 x127_3) t156 t157 _ ?side1 ?side2 ?side3 ?side4 A148.out (HE.out.below HB.out)).mono ?_
                    (case side1 => exact sC ((Kd.R_reads' HO_118001.out).2.2))
                    (case side2 => exact (Kd.R_reads' HO_118001.out).2.1)
                    (case side3 => exact sC ((Kd.R_reads' HO_118002.out).2.2))
                    (case side4 => exact (Kd.R_reads' HO_118002.out).2.1)
                    rintro e w159 ⟨rfl, hb⟩
                    have HS3_ := (hb.cell (World.block_lt_of_cell? _ _ (hHeld.2.2.2))).trans (hHeld.2.2.2)
                    refine ⟨_, rfl, ?_⟩
                    have n_ := aJ (aM (Kd.R_below HO_125.out hb)) (aJ (aM (Kd.R_below HO_109001.out hb)) (aJ (aM (Kd.R_below HO_109002.out hb)) (aJ (aM (Kd.R_below HO_118001.out hb)) (aJ (aM (Kd.R_below HO_118002.out hb)) (aJ (aM (Kd.R_below HO_127001.out hb)) (aJ (aM (Kd.R_below HO_127002.out hb)) (aJ (aM (Kd.R_below HO_141001.out hb)) (aJ (aM (Kd.R_below HO_141002.out hb)) (aJ (aM (Kd.R_below HO_150001.out hb)) (aJ (aM (Kd.R_below HO_150002.out hb)) (aJ (aM (blk_below BK108.out hb)) (aJ (aM (blk_below BK117.out hb)) (aJ (aM (blk_below BK126.out hb)) (aJ (aM (blk_below BK140.out hb)) (aJ (aM (blk_below BK149.out hb)) (aM (below_step (pH HB) hb)))))))))))))))))
                    clear HO_125 HO_109001 HO_109002 HO_118001 HO_118002 HO_127001 HO_127002 HO_141001 HO_141002 HO_150001 HO_150002 BK108 BK117 BK126 BK140 BK149 HB
                    obtain ⟨HO_125, HO_109001, HO_109002, HO_118001, HO_118002, HO_127001, HO_127002, HO_141001, HO_141002, HO_150001, HO_150002, BK108, BK117, BK126, BK140, BK149, HB⟩ := n_
                    (try clear hb)
                    (try clear hb2)
                    (try clear hk)
                    (try clear hi)
                    refine hK.out _ _ ⟨(blk_cell BK117.out 0).trans rfl, (blk_cell BK117.out 1).trans rfl, (blk_cell BK117.out 2).trans rfl, HS3_⟩ (fun hHeld => ?_)
                    clear hK K
                    refine norm_ (a' := ?_) ?_ ?_
                    rotate_left
                    ·show Act.put _ (some 145) _ = _
                     simp only [sP, i64_w, i32_w]
                     rfl
                    refine pS (i := 7) (N := some 138) (bs 8 4) (aO HT_) ?_
                    refine pS (i := 8) (N := some 146) (bs 9 3) (aO HT_) ?_
                    refine pS (i := 9) (N := some 147) (bs 10 2) (aO HT_) ?_
                    refine pS (i := 10) (N := some 18) (bs 11 1) (aO HT_) ?_
                    refine pS (i := 11) (N := some 19) (bs 12 0) (aO HT_) ?_
                    refine done_ (done_of HT_.out (by kernel_rfl)) ?_
                    try go_wp2
                    have n_ := aJ (aM (Kd.R_drew HO_125.out)) (aJ (aM (Kd.R_drew HO_109001.out)) (aJ (aM (Kd.R_drew HO_109002.out)) (aJ (aM (Kd.R_drew HO_118001.out)) (aJ (aM (Kd.R_drew HO_118002.out)) (aJ (aM (Kd.R_drew HO_127001.out)) (aJ (aM (Kd.R_drew HO_127002.out)) (aJ (aM (Kd.R_drew HO_141001.out)) (aJ (aM (Kd.R_drew HO_141002.out)) (aJ (aM (Kd.R_drew HO_150001.out)) (aJ (aM (Kd.R_drew HO_150002.out)) (aJ (aM (blk_drew BK108.out)) (aJ (aM (blk_drew BK117.out)) (aJ (aM (blk_drew BK126.out)) (aJ (aM (blk_drew BK140.out)) (aJ (aM (blk_drew BK149.out)) (aM (below_drew1 HB.out)))))))))))))))))
                    clear HO_125 HO_109001 HO_109002 HO_118001 HO_118002 HO_127001 HO_127002 HO_141001 HO_141002 HO_150001 HO_150002 BK108 BK117 BK126 BK140 BK149 HB
                    obtain ⟨HO_125, HO_109001, HO_109002, HO_118001, HO_118002, HO_127001, HO_127002, HO_141001, HO_141002, HO_150001, HO_150002, BK108, BK117, BK126, BK140, BK149, HB⟩ := n_
                    have p158 : 0 ≤ (x127_3 : Int) := dA
                    have q158 : x127_3 < (t145.length : Int) := dA
                    obtain ⟨ad158, e158, hx158_0⟩ := Kd.at_int (Kd.R_reads' HO_150002.out).2.2 x127_3 p158 q158
                    cases e158
                    replace p158 := eq_true p158
                    replace q158 := eq_true q158
                    refine start_ (n := 12) (S := fun w' => w'.cell? ⟨gb149, 0, none⟩ = some (.int .i64 t141) ∧ w'.cell? ⟨gb149, 1, none⟩ = some (.slice Ao67 t142.length co67) ∧ w'.cell? ⟨gb149, 2, none⟩ = some (.slice (some ad158) t145.length co68) ∧ w'.cell? (ad158.add (x127_3).toNat) = some (.int .i64 (rd t145 x127_3))) (ds := []) (bs 0 12) (by kernel_rfl) rfl rfl ⟨(blk_cell BK149.out 0).trans rfl, (blk_cell BK149.out 1).trans rfl, (blk_cell BK149.out 2).trans rfl, hx158_0⟩ (fun hHeld => ?_); refine with_tabW laws_FnReached.tab20 laws_FnReached.bits20 (fun HT_ HW_ => ?_)
                    generalize w159.drew = w160 at HO_125 HO_109001 HO_109002 HO_118001 HO_118002 HO_127001 HO_127002 HO_141001 HO_141002 HO_150001 HO_150002 BK108 BK117 BK126 BK140 BK149 HB hx158_0 hHeld ⊢
                    refine pS (i := 1) (N := some 150) #[false, true, false, false, false, false, false, false, false, false, false, false] (aO HT_) ?_
                    refine pS (i := 3) (N := some 152) #[false, true, false, true, false, false, false, false, false, false, false, false] (aO HT_) ?_
                    refine take_ (i := 0) (N := some 149) (v := ?_) (a' := ?_) #[true, true, false, true, false, false, false, false, false, false, false, false] rfl rfl (take_ofW HT_.out HW_.out (by kernel_rfl)) (fun _ _ _ h => h) (Or.inl ⟨by rfl, ?_⟩) hHeld ?_ ?_
                    rotate_left
                    ·rintro w' ⟨s0, s1, s2, s3⟩
                     go_simp
                     with_reducible rfl
                    rotate_left
                    ·simp only [sP, i64_w, i32_w]
                     rfl
                    refine take_ (i := 2) (N := some 151) (v := ?_) (a' := ?_) (bs 4 8) rfl rfl (take_ofW HT_.out HW_.out (by kernel_rfl)) (fun _ _ _ h => h) (Or.inl ⟨by rfl, ?_⟩) hHeld ?_ ?_
                    rotate_left
                    ·rintro w' ⟨s0, s1, s2, s3⟩
                     go_simp
                     with_reducible rfl
                    rotate_left
                    ·simp only [sP, i64_w, i32_w]
                     rfl
                    refine pS (i := 4) (N := some 153) (bs 5 7) (aO HT_) ?_
                    refine take_ (i := 5) (N := some 154) (v := ?_) (a' := ?_) (bs 6 6) rfl rfl (take_ofW HT_.out HW_.out (by kernel_rfl)) (fun _ _ _ h => h) (Or.inl ⟨by rfl, ?_⟩) hHeld ?_ ?_
                    rotate_left
                    ·rintro w' ⟨s0, s1, s2, s3⟩
                     go_simp
                     with_reducible rfl
                    rotate_left
                    ·simp only [sP, i64_w, i32_w]
                     rfl
                    refine one_ (i := 6) (N := some 155) (bs 7 5) rfl rfl (one_of HT_.out (by kernel_rfl)) (by decide) (fun K hK => ?_)
                    refine goes_ Tryd.func8 (by kernel_rfl) rfl #[.agg #[.int .i64 t141, .slice Ao67 t142.length co67, .slice (some ad158) t145.length co68], .int .i64 (rd t145 x127_3)] (by rfl) rfl rfl tA ?_
                    with_reducible refine (impl_ShowCell.calls k3 t141 _ _ t142 _ _ t145 (rd t145 x127_3) t159 t160 _ ?side1 ?side2 ?side3 ?side4 A150.out (HE.out.below HB.out)).mono ?_
                    (case side1 => exact sC ((Kd.R_reads' HO_150001.out).2.2))
                    (case side2 => exact (Kd.R_reads' HO_150001.out).2.1)
                    (case side3 => exact sC ((Kd.R_reads' HO_150002.out).2.2))
                    (case side4 => exact (Kd.R_reads' HO_150002.out).2.1)
                    rintro e w161 ⟨rfl, hb⟩
                    have HS3_ := (hb.cell (World.block_lt_of_cell? _ _ (hHeld.2.2.2))).trans (hHeld.2.2.2)
                    refine ⟨_, rfl, ?_⟩
                    have n_ := aJ (aM (Kd.R_below HO_125.out hb)) (aJ (aM (Kd.R_below HO_109001.out hb)) (aJ (aM (Kd.R_below HO_109002.out hb)) (aJ (aM (Kd.R_below HO_118001.out hb)) (aJ (aM (Kd.R_below HO_118002.out hb)) (aJ (aM (Kd.R_below HO_127001.out hb)) (aJ (aM (Kd.R_below HO_127002.out hb)) (aJ (aM (Kd.R_below HO_141001.out hb)) (aJ (aM (Kd.R_below HO_141002.out hb)) (aJ (aM (Kd.R_below HO_150001.out hb)) (aJ (aM (Kd.R_below HO_150002.out hb)) (aJ (aM (blk_below BK108.out hb)) (aJ (aM (blk_below BK117.out hb)) (aJ (aM (blk_below BK126.out hb)) (aJ (aM (blk_below BK140.out hb)) (aJ (aM (blk_below BK149.out hb)) (aM (below_step (pH HB) hb)))))))))))))))))
                    clear HO_125 HO_109001 HO_109002 HO_118001 HO_118002 HO_127001 HO_127002 HO_141001 HO_141002 HO_150001 HO_150002 BK108 BK117 BK126 BK140 BK149 HB
                    obtain ⟨HO_125, HO_109001, HO_109002, HO_118001, HO_118002, HO_127001, HO_127002, HO_141001, HO_141002, HO_150001, HO_150002, BK108, BK117, BK126, BK140, BK149, HB⟩ := n_
                    (try clear hb)
                    (try clear hb2)
                    (try clear hk)
                    (try clear hi)
                    refine hK.out _ _ ⟨(blk_cell BK149.out 0).trans rfl, (blk_cell BK149.out 1).trans rfl, (blk_cell BK149.out 2).trans rfl, HS3_⟩ (fun hHeld => ?_)
                    clear hK K
                    refine norm_ (a' := ?_) ?_ ?_
                    rotate_left
                    ·show Act.put _ (some 155) _ = _
                     simp only [sP, i64_w, i32_w]
                     rfl
                    refine pS (i := 7) (N := some 148) (bs 8 4) (aO HT_) ?_
                    refine pS (i := 8) (N := some 156) (bs 9 3) (aO HT_) ?_
                    refine pS (i := 9) (N := some 157) (bs 10 2) (aO HT_) ?_
                    refine pS (i := 10) (N := some 20) (bs 11 1) (aO HT_) ?_
                    refine pS (i := 11) (N := some 21) (bs 12 0) (aO HT_) ?_
                    refine done_ (done_of HT_.out (by kernel_rfl)) ?_
                    try go_wp2
                    go_ret
                    exact ⟨eW, pH HB⟩
                   ·rw [if_neg c151] at H
                    have c151b0 : (t154 != t157) = false := by simpa using c151
                    (try (have c151b1 : decide (t154 = t157) = true := by simpa using c151))
                    (try (have c151b2 : (t154 == t157) = true := by simpa using c151))
                    clear c151
                    by_cases c162 : (t154 != t160) = true
                    ·rw [if_pos c162] at H
                     have c162b0 : (t154 != t160) = true := c162
                     (try (have c162b1 : decide (t154 = t160) = false := by simpa using c162))
                     (try (have c162b2 : (t154 == t160) = false := by simpa using c162))
                     (try (have c162b3 : ¬ (t154 = t160) := by simpa using c162))
                     clear c162
                     obtain rfl := Option.some.inj H
                     have p152 : 0 ≤ (x127_3 : Int) := dA
                     have q152 : x127_3 < (t105.length : Int) := dA
                     obtain ⟨ad152, e152, hx152_0⟩ := Kd.at_int (Kd.R_reads' HO_125.out).2.2 x127_3 p152 q152
                     cases e152
                     replace p152 := eq_true p152
                     replace q152 := eq_true q152
                     have hnb163 := NB108_117.out
                     have hnc163 := NB117_108.out
                     have hnb164 := NB108_126.out
                     have hnc164 := NB126_108.out
                     have hnb165 := NB108_140.out
                     have hnc165 := NB140_108.out
                     have hnb166 := NB108_149.out
                     have hnc166 := NB149_108.out
                     obtain ⟨hcz167_0, hcz167_1, hcz167_2, hfz167_0, hfz167_1, hfz167_2⟩ := cA3 BK108
                     try go_wp2_with (first | ((with_reducible refine gate_callee (f := 8) rfl ?_); refine goesL_ (some 135) rfl rfl Tryd.func8 (by kernel_rfl) rfl #[.agg #[.int .i64 t101, .slice Ao10 t102.length co10, .slice (some ad152) t105.length co11], .int .i64 (rd t105 x127_3)] rfl tA ?_; (with_reducible refine (impl_ShowCell.calls k3 t101 _ _ t102 _ _ t105 (rd t105 x127_3) t153 t154 _ ?side1 ?side2 ?side3 ?side4 A146.out (HE.out.below (pH HB))).mono ?_); (case side1 => exact sC ((Kd.R_reads' HO_109001.out).2.2)); (case side2 => exact (Kd.R_reads' HO_109001.out).2.1); (case side3 => exact sC ((Kd.R_reads' HO_109002.out).2.2)); (case side4 => exact (Kd.R_reads' HO_109002.out).2.1); rintro e w168 ⟨rfl, hb⟩; refine ⟨_, rfl, ?_⟩; have n0_ := aK (Kd.R_below HO_125.out hb); have n1_ := aK (Kd.R_below HO_109001.out hb); have n2_ := aK (Kd.R_below HO_109002.out hb); have n3_ := aK (Kd.R_below HO_118001.out hb); have n4_ := aK (Kd.R_below HO_118002.out hb); have n5_ := aK (Kd.R_below HO_127001.out hb); have n6_ := aK (Kd.R_below HO_127002.out hb); have n7_ := aK (Kd.R_below HO_141001.out hb); have n8_ := aK (Kd.R_below HO_141002.out hb); have n9_ := aK (Kd.R_below HO_150001.out hb); have n10_ := aK (Kd.R_below HO_150002.out hb); replace BK108 := qb BK108 hb; replace BK117 := qb BK117 hb; replace BK126 := qb BK126 hb; replace BK140 := qb BK140 hb; replace BK149 := qb BK149 hb; clear HO_125; have HO_125 := n0_; clear n0_; clear HO_109001; have HO_109001 := n1_; clear n1_; clear HO_109002; have HO_109002 := n2_; clear n2_; clear HO_118001; have HO_118001 := n3_; clear n3_; clear HO_118002; have HO_118002 := n4_; clear n4_; clear HO_127001; have HO_127001 := n5_; clear n5_; clear HO_127002; have HO_127002 := n6_; clear n6_; clear HO_141001; have HO_141001 := n7_; clear n7_; clear HO_141002; have HO_141002 := n8_; clear n8_; clear HO_150001; have HO_150001 := n9_; clear n9_; clear HO_150002; have HO_150002 := n10_; clear n10_; replace HB := qs HB hb; (try clear hb)))
                     have n_ := aJ (aM (Kd.R_drew HO_125.out)) (aJ (aM (Kd.R_drew HO_109001.out)) (aJ (aM (Kd.R_drew HO_109002.out)) (aJ (aM (Kd.R_drew HO_118001.out)) (aJ (aM (Kd.R_drew HO_118002.out)) (aJ (aM (Kd.R_drew HO_127001.out)) (aJ (aM (Kd.R_drew HO_127002.out)) (aJ (aM (Kd.R_drew HO_141001.out)) (aJ (aM (Kd.R_drew HO_141002.out)) (aJ (aM (Kd.R_drew HO_150001.out)) (aJ (aM (Kd.R_drew HO_150002.out)) (aJ (aM (blk_drew BK108.out)) (aJ (aM (blk_drew BK117.out)) (aJ (aM (blk_drew BK126.out)) (aJ (aM (blk_drew BK140.out)) (aJ (aM (blk_drew BK149.out)) (aM (below_drew1 HB.out)))))))))))))))))
                     clear HO_125 HO_109001 HO_109002 HO_118001 HO_118002 HO_127001 HO_127002 HO_141001 HO_141002 HO_150001 HO_150002 BK108 BK117 BK126 BK140 BK149 HB
                     obtain ⟨HO_125, HO_109001, HO_109002, HO_118001, HO_118002, HO_127001, HO_127002, HO_141001, HO_141002, HO_150001, HO_150002, BK108, BK117, BK126, BK140, BK149, HB⟩ := n_
                     have p155 : 0 ≤ (x127_3 : Int) := dA
                     have q155 : x127_3 < (t113.length : Int) := dA
                     obtain ⟨ad155, e155, hx155_0⟩ := Kd.at_int (Kd.R_reads' HO_118002.out).2.2 x127_3 p155 q155
                     cases e155
                     replace p155 := eq_true p155
                     replace q155 := eq_true q155
                     refine start_ (n := 12) (S := fun w' => w'.cell? ⟨gb117, 0, none⟩ = some (.int .i64 t109) ∧ w'.cell? ⟨gb117, 1, none⟩ = some (.slice Ao16 t110.length co16) ∧ w'.cell? ⟨gb117, 2, none⟩ = some (.slice (some ad155) t113.length co17) ∧ w'.cell? (ad155.add (x127_3).toNat) = some (.int .i64 (rd t113 x127_3))) (ds := []) (bs 0 12) (by kernel_rfl) rfl rfl ⟨(blk_cell BK117.out 0).trans rfl, (blk_cell BK117.out 1).trans rfl, (blk_cell BK117.out 2).trans rfl, hx155_0⟩ (fun hHeld => ?_); refine with_tabW laws_FnReached.tab19 laws_FnReached.bits19 (fun HT_ HW_ => ?_)
                     generalize w168.drew = w169 at HO_125 HO_109001 HO_109002 HO_118001 HO_118002 HO_127001 HO_127002 HO_141001 HO_141002 HO_150001 HO_150002 BK108 BK117 BK126 BK140 BK149 HB hx155_0 hHeld ⊢
                     refine pS (i := 1) (N := some 140) #[false, true, false, false, false, false, false, false, false, false, false, false] (aO HT_) ?_
                     refine pS (i := 3) (N := some 142) #[false, true, false, true, false, false, false, false, false, false, false, false] (aO HT_) ?_
                     refine take_ (i := 0) (N := some 139) (v := ?_) (a' := ?_) #[true, true, false, true, false, false, false, false, false, false, false, false] rfl rfl (take_ofW HT_.out HW_.out (by kernel_rfl)) (fun _ _ _ h => h) (Or.inl ⟨by rfl, ?_⟩) hHeld ?_ ?_
                     rotate_left
                     ·rintro w' ⟨s0, s1, s2, s3⟩
                      go_simp
                      with_reducible rfl
                     rotate_left
                     ·simp only [sP, i64_w, i32_w]
                      rfl
                     refine take_ (i := 2) (N := some 141) (v := ?_) (a' := ?_) (bs 4 8) rfl rfl (take_ofW HT_.out HW_.out (by kernel_rfl)) (fun _ _ _ h => h) (Or.inl ⟨by rfl, ?_⟩) hHeld ?_ ?_
                     rotate_left
                     ·rintro w' ⟨s0, s1, s2, s3⟩
                      go_simp
                      with_reducible rfl
                     rotate_left
                     ·simp only [sP, i64_w, i32_w]
                      rfl
                     refine pS (i := 4) (N := some 143) (bs 5 7) (aO HT_) ?_
                     refine take_ (i := 5) (N := some 144) (v := ?_) (a' := ?_) (bs 6 6) rfl rfl (take_ofW HT_.out HW_.out (by kernel_rfl)) (fun _ _ _ h => h) (Or.inl ⟨by rfl, ?_⟩) hHeld ?_ ?_
                     rotate_left
                     ·rintro w' ⟨s0, s1, s2, s3⟩
                      go_simp
                      with_reducible rfl
                     rotate_left
                     ·simp only [sP, i64_w, i32_w]
                      rfl
                     refine one_ (i := 6) (N := some 145) (bs 7 5) rfl rfl (one_of HT_.out (by kernel_rfl)) (by decide) (fun K hK => ?_)
                     refine goes_ Tryd.func8 (by kernel_rfl) rfl #[.agg #[.int .i64 t109, .slice Ao16 t110.length co16, .slice (some ad155) t113.length co17], .int .i64 (rd t113 x127_3)] (by rfl) rfl rfl tA ?_
                     with_reducible refine (impl_ShowCell.calls k3 t109 _ _ t110 _ _ t113 (rd t113 x127_3) t156 t157 _ ?side1 ?side2 ?side3 ?side4 A148.out (HE.out.below HB.out)).mono ?_
                     (case side1 => exact sC ((Kd.R_reads' HO_118001.out).2.2))
                     (case side2 => exact (Kd.R_reads' HO_118001.out).2.1)
                     (case side3 => exact sC ((Kd.R_reads' HO_118002.out).2.2))
                     (case side4 => exact (Kd.R_reads' HO_118002.out).2.1)
                     rintro e w170 ⟨rfl, hb⟩
                     have HS3_ := (hb.cell (World.block_lt_of_cell? _ _ (hHeld.2.2.2))).trans (hHeld.2.2.2)
                     refine ⟨_, rfl, ?_⟩
                     have n_ := aJ (aM (Kd.R_below HO_125.out hb)) (aJ (aM (Kd.R_below HO_109001.out hb)) (aJ (aM (Kd.R_below HO_109002.out hb)) (aJ (aM (Kd.R_below HO_118001.out hb)) (aJ (aM (Kd.R_below HO_118002.out hb)) (aJ (aM (Kd.R_below HO_127001.out hb)) (aJ (aM (Kd.R_below HO_127002.out hb)) (aJ (aM (Kd.R_below HO_141001.out hb)) (aJ (aM (Kd.R_below HO_141002.out hb)) (aJ (aM (Kd.R_below HO_150001.out hb)) (aJ (aM (Kd.R_below HO_150002.out hb)) (aJ (aM (blk_below BK108.out hb)) (aJ (aM (blk_below BK117.out hb)) (aJ (aM (blk_below BK126.out hb)) (aJ (aM (blk_below BK140.out hb)) (aJ (aM (blk_below BK149.out hb)) (aM (below_step (pH HB) hb)))))))))))))))))
                     clear HO_125 HO_109001 HO_109002 HO_118001 HO_118002 HO_127001 HO_127002 HO_141001 HO_141002 HO_150001 HO_150002 BK108 BK117 BK126 BK140 BK149 HB
                     obtain ⟨HO_125, HO_109001, HO_109002, HO_118001, HO_118002, HO_127001, HO_127002, HO_141001, HO_141002, HO_150001, HO_150002, BK108, BK117, BK126, BK140, BK149, HB⟩ := n_
                     (try clear hb)
                     (try clear hb2)
                     (try clear hk)
                     (try clear hi)
                     refine hK.out _ _ ⟨(blk_cell BK117.out 0).trans rfl, (blk_cell BK117.out 1).trans rfl, (blk_cell BK117.out 2).trans rfl, HS3_⟩ (fun hHeld => ?_)
                     clear hK K
                     refine norm_ (a' := ?_) ?_ ?_
                     rotate_left
                     ·show Act.put _ (some 145) _ = _
                      simp only [sP, i64_w, i32_w]
                      rfl
                     refine pS (i := 7) (N := some 138) (bs 8 4) (aO HT_) ?_
                     refine pS (i := 8) (N := some 146) (bs 9 3) (aO HT_) ?_
                     refine pS (i := 9) (N := some 147) (bs 10 2) (aO HT_) ?_
                     refine pS (i := 10) (N := some 18) (bs 11 1) (aO HT_) ?_
                     refine pS (i := 11) (N := some 19) (bs 12 0) (aO HT_) ?_
                     refine done_ (done_of HT_.out (by kernel_rfl)) ?_
                     try go_wp2
                     have n_ := aJ (aM (Kd.R_drew HO_125.out)) (aJ (aM (Kd.R_drew HO_109001.out)) (aJ (aM (Kd.R_drew HO_109002.out)) (aJ (aM (Kd.R_drew HO_118001.out)) (aJ (aM (Kd.R_drew HO_118002.out)) (aJ (aM (Kd.R_drew HO_127001.out)) (aJ (aM (Kd.R_drew HO_127002.out)) (aJ (aM (Kd.R_drew HO_141001.out)) (aJ (aM (Kd.R_drew HO_141002.out)) (aJ (aM (Kd.R_drew HO_150001.out)) (aJ (aM (Kd.R_drew HO_150002.out)) (aJ (aM (blk_drew BK108.out)) (aJ (aM (blk_drew BK117.out)) (aJ (aM (blk_drew BK126.out)) (aJ (aM (blk_drew BK140.out)) (aJ (aM (blk_drew BK149.out)) (aM (below_drew1 HB.out)))))))))))))))))
                     clear HO_125 HO_109001 HO_109002 HO_118001 HO_118002 HO_127001 HO_127002 HO_141001 HO_141002 HO_150001 HO_150002 BK108 BK117 BK126 BK140 BK149 HB
                     obtain ⟨HO_125, HO_109001, HO_109002, HO_118001, HO_118002, HO_127001, HO_127002, HO_141001, HO_141002, HO_150001, HO_150002, BK108, BK117, BK126, BK140, BK149, HB⟩ := n_
                     have p158 : 0 ≤ (x127_3 : Int) := dA
                     have q158 : x127_3 < (t145.length : Int) := dA
                     obtain ⟨ad158, e158, hx158_0⟩ := Kd.at_int (Kd.R_reads' HO_150002.out).2.2 x127_3 p158 q158
                     cases e158
                     replace p158 := eq_true p158
                     replace q158 := eq_true q158
                     refine start_ (n := 12) (S := fun w' => w'.cell? ⟨gb149, 0, none⟩ = some (.int .i64 t141) ∧ w'.cell? ⟨gb149, 1, none⟩ = some (.slice Ao67 t142.length co67) ∧ w'.cell? ⟨gb149, 2, none⟩ = some (.slice (some ad158) t145.length co68) ∧ w'.cell? (ad158.add (x127_3).toNat) = some (.int .i64 (rd t145 x127_3))) (ds := []) (bs 0 12) (by kernel_rfl) rfl rfl ⟨(blk_cell BK149.out 0).trans rfl, (blk_cell BK149.out 1).trans rfl, (blk_cell BK149.out 2).trans rfl, hx158_0⟩ (fun hHeld => ?_); refine with_tabW laws_FnReached.tab20 laws_FnReached.bits20 (fun HT_ HW_ => ?_)
                     generalize w170.drew = w171 at HO_125 HO_109001 HO_109002 HO_118001 HO_118002 HO_127001 HO_127002 HO_141001 HO_141002 HO_150001 HO_150002 BK108 BK117 BK126 BK140 BK149 HB hx158_0 hHeld ⊢
                     refine pS (i := 1) (N := some 150) #[false, true, false, false, false, false, false, false, false, false, false, false] (aO HT_) ?_
                     refine pS (i := 3) (N := some 152) #[false, true, false, true, false, false, false, false, false, false, false, false] (aO HT_) ?_
                     refine take_ (i := 0) (N := some 149) (v := ?_) (a' := ?_) #[true, true, false, true, false, false, false, false, false, false, false, false] rfl rfl (take_ofW HT_.out HW_.out (by kernel_rfl)) (fun _ _ _ h => h) (Or.inl ⟨by rfl, ?_⟩) hHeld ?_ ?_
                     rotate_left
                     ·rintro w' ⟨s0, s1, s2, s3⟩
                      go_simp
                      with_reducible rfl
                     rotate_left
                     ·simp only [sP, i64_w, i32_w]
                      rfl
                     refine take_ (i := 2) (N := some 151) (v := ?_) (a' := ?_) (bs 4 8) rfl rfl (take_ofW HT_.out HW_.out (by kernel_rfl)) (fun _ _ _ h => h) (Or.inl ⟨by rfl, ?_⟩) hHeld ?_ ?_
                     rotate_left
                     ·rintro w' ⟨s0, s1, s2, s3⟩
                      go_simp
                      with_reducible rfl
                     rotate_left
                     ·simp only [sP, i64_w, i32_w]
                      rfl
                     refine pS (i := 4) (N := some 153) (bs 5 7) (aO HT_) ?_
                     refine take_ (i := 5) (N := some 154) (v := ?_) (a' := ?_) (bs 6 6) rfl rfl (take_ofW HT_.out HW_.out (by kernel_rfl)) (fun _ _ _ h => h) (Or.inl ⟨by rfl, ?_⟩) hHeld ?_ ?_
                     rotate_left
                     ·rintro w' ⟨s0, s1, s2, s3⟩
                      go_simp
                      with_reducible rfl
                     rotate_left
                     ·simp only [sP, i64_w, i32_w]
                      rfl
                     refine one_ (i := 6) (N := some 155) (bs 7 5) rfl rfl (one_of HT_.out (by kernel_rfl)) (by decide) (fun K hK => ?_)
                     refine goes_ Tryd.func8 (by kernel_rfl) rfl #[.agg #[.int .i64 t141, .slice Ao67 t142.length co67, .slice (some ad158) t145.length co68], .int .i64 (rd t145 x127_3)] (by rfl) rfl rfl tA ?_
                     with_reducible refine (impl_ShowCell.calls k3 t141 _ _ t142 _ _ t145 (rd t145 x127_3) t159 t160 _ ?side1 ?side2 ?side3 ?side4 A150.out (HE.out.below HB.out)).mono ?_
                     (case side1 => exact sC ((Kd.R_reads' HO_150001.out).2.2))
                     (case side2 => exact (Kd.R_reads' HO_150001.out).2.1)
                     (case side3 => exact sC ((Kd.R_reads' HO_150002.out).2.2))
                     (case side4 => exact (Kd.R_reads' HO_150002.out).2.1)
                     rintro e w172 ⟨rfl, hb⟩
                     have HS3_ := (hb.cell (World.block_lt_of_cell? _ _ (hHeld.2.2.2))).trans (hHeld.2.2.2)
                     refine ⟨_, rfl, ?_⟩
                     have n_ := aJ (aM (Kd.R_below HO_125.out hb)) (aJ (aM (Kd.R_below HO_109001.out hb)) (aJ (aM (Kd.R_below HO_109002.out hb)) (aJ (aM (Kd.R_below HO_118001.out hb)) (aJ (aM (Kd.R_below HO_118002.out hb)) (aJ (aM (Kd.R_below HO_127001.out hb)) (aJ (aM (Kd.R_below HO_127002.out hb)) (aJ (aM (Kd.R_below HO_141001.out hb)) (aJ (aM (Kd.R_below HO_141002.out hb)) (aJ (aM (Kd.R_below HO_150001.out hb)) (aJ (aM (Kd.R_below HO_150002.out hb)) (aJ (aM (blk_below BK108.out hb)) (aJ (aM (blk_below BK117.out hb)) (aJ (aM (blk_below BK126.out hb)) (aJ (aM (blk_below BK140.out hb)) (aJ (aM (blk_below BK149.out hb)) (aM (below_step (pH HB) hb)))))))))))))))))
                     clear HO_125 HO_109001 HO_109002 HO_118001 HO_118002 HO_127001 HO_127002 HO_141001 HO_141002 HO_150001 HO_150002 BK108 BK117 BK126 BK140 BK149 HB
                     obtain ⟨HO_125, HO_109001, HO_109002, HO_118001, HO_118002, HO_127001, HO_127002, HO_141001, HO_141002, HO_150001, HO_150002, BK108, BK117, BK126, BK140, BK149, HB⟩ := n_
                     (try clear hb)
                     (try clear hb2)
                     (try clear hk)
                     (try clear hi)
                     refine hK.out _ _ ⟨(blk_cell BK149.out 0).trans rfl, (blk_cell BK149.out 1).trans rfl, (blk_cell BK149.out 2).trans rfl, HS3_⟩ (fun hHeld => ?_)
                     clear hK K
                     refine norm_ (a' := ?_) ?_ ?_
                     rotate_left
                     ·show Act.put _ (some 155) _ = _
                      simp only [sP, i64_w, i32_w]
                      rfl
                     refine pS (i := 7) (N := some 148) (bs 8 4) (aO HT_) ?_
                     refine pS (i := 8) (N := some 156) (bs 9 3) (aO HT_) ?_
                     refine pS (i := 9) (N := some 157) (bs 10 2) (aO HT_) ?_
                     refine pS (i := 10) (N := some 20) (bs 11 1) (aO HT_) ?_
                     refine pS (i := 11) (N := some 21) (bs 12 0) (aO HT_) ?_
                     refine done_ (done_of HT_.out (by kernel_rfl)) ?_
                     try go_wp2
                     go_ret
                     exact ⟨eW, pH HB⟩
                    ·rw [if_neg c162] at H
                     have c162b0 : (t154 != t160) = false := by simpa using c162
                     (try (have c162b1 : decide (t154 = t160) = true := by simpa using c162))
                     (try (have c162b2 : (t154 == t160) = true := by simpa using c162))
                     clear c162
                     by_cases c173 : t153.toList = t156.toList
                     ·rw [if_pos c173] at H
                      have c173b0 : (t153.toList == t156.toList) = true := beq_iff_eq.mpr c173
                      have c173b1 : (t153.toList != t156.toList) = false := bne_eq_false_iff_eq.mpr c173
                      clear c173
                      by_cases c174 : t153.toList = t159.toList
                      ·rw [if_pos c174] at H
                       have c174b0 : (t153.toList == t159.toList) = true := beq_iff_eq.mpr c174
                       have c174b1 : (t153.toList != t159.toList) = false := bne_eq_false_iff_eq.mpr c174
                       clear c174
                       have H' := aM H
                       clear H
                       have p152 : 0 ≤ (x127_3 : Int) := dA
                       have q152 : x127_3 < (t105.length : Int) := dA
                       obtain ⟨ad152, e152, hx152_0⟩ := Kd.at_int (Kd.R_reads' HO_125.out).2.2 x127_3 p152 q152
                       cases e152
                       replace p152 := eq_true p152
                       replace q152 := eq_true q152
                       have hnb175 := NB108_117.out
                       have hnc175 := NB117_108.out
                       have hnb176 := NB108_126.out
                       have hnc176 := NB126_108.out
                       have hnb177 := NB108_140.out
                       have hnc177 := NB140_108.out
                       have hnb178 := NB108_149.out
                       have hnc178 := NB149_108.out
                       obtain ⟨hcz179_0, hcz179_1, hcz179_2, hfz179_0, hfz179_1, hfz179_2⟩ := cA3 BK108
                       try go_wp2_with (first | ((with_reducible refine gate_callee (f := 8) rfl ?_); refine goesL_ (some 135) rfl rfl Tryd.func8 (by kernel_rfl) rfl #[.agg #[.int .i64 t101, .slice Ao10 t102.length co10, .slice (some ad152) t105.length co11], .int .i64 (rd t105 x127_3)] rfl tA ?_; (with_reducible refine (impl_ShowCell.calls k3 t101 _ _ t102 _ _ t105 (rd t105 x127_3) t153 t154 _ ?side1 ?side2 ?side3 ?side4 A146.out (HE.out.below (pH HB))).mono ?_); (case side1 => exact sC ((Kd.R_reads' HO_109001.out).2.2)); (case side2 => exact (Kd.R_reads' HO_109001.out).2.1); (case side3 => exact sC ((Kd.R_reads' HO_109002.out).2.2)); (case side4 => exact (Kd.R_reads' HO_109002.out).2.1); rintro e w180 ⟨rfl, hb⟩; refine ⟨_, rfl, ?_⟩; have n0_ := aK (Kd.R_below HO_125.out hb); have n1_ := aK (Kd.R_below HO_109001.out hb); have n2_ := aK (Kd.R_below HO_109002.out hb); have n3_ := aK (Kd.R_below HO_118001.out hb); have n4_ := aK (Kd.R_below HO_118002.out hb); have n5_ := aK (Kd.R_below HO_127001.out hb); have n6_ := aK (Kd.R_below HO_127002.out hb); have n7_ := aK (Kd.R_below HO_141001.out hb); have n8_ := aK (Kd.R_below HO_141002.out hb); have n9_ := aK (Kd.R_below HO_150001.out hb); have n10_ := aK (Kd.R_below HO_150002.out hb); replace BK108 := qb BK108 hb; replace BK117 := qb BK117 hb; replace BK126 := qb BK126 hb; replace BK140 := qb BK140 hb; replace BK149 := qb BK149 hb; clear HO_125; have HO_125 := n0_; clear n0_; clear HO_109001; have HO_109001 := n1_; clear n1_; clear HO_109002; have HO_109002 := n2_; clear n2_; clear HO_118001; have HO_118001 := n3_; clear n3_; clear HO_118002; have HO_118002 := n4_; clear n4_; clear HO_127001; have HO_127001 := n5_; clear n5_; clear HO_127002; have HO_127002 := n6_; clear n6_; clear HO_141001; have HO_141001 := n7_; clear n7_; clear HO_141002; have HO_141002 := n8_; clear n8_; clear HO_150001; have HO_150001 := n9_; clear n9_; clear HO_150002; have HO_150002 := n10_; clear n10_; replace HB := qs HB hb; (try clear hb)))
                       have n_ := aJ (aM (Kd.R_drew HO_125.out)) (aJ (aM (Kd.R_drew HO_109001.out)) (aJ (aM (Kd.R_drew HO_109002.out)) (aJ (aM (Kd.R_drew HO_118001.out)) (aJ (aM (Kd.R_drew HO_118002.out)) (aJ (aM (Kd.R_drew HO_127001.out)) (aJ (aM (Kd.R_drew HO_127002.out)) (aJ (aM (Kd.R_drew HO_141001.out)) (aJ (aM (Kd.R_drew HO_141002.out)) (aJ (aM (Kd.R_drew HO_150001.out)) (aJ (aM (Kd.R_drew HO_150002.out)) (aJ (aM (blk_drew BK108.out)) (aJ (aM (blk_drew BK117.out)) (aJ (aM (blk_drew BK126.out)) (aJ (aM (blk_drew BK140.out)) (aJ (aM (blk_drew BK149.out)) (aM (below_drew1 HB.out)))))))))))))))))
                       clear HO_125 HO_109001 HO_109002 HO_118001 HO_118002 HO_127001 HO_127002 HO_141001 HO_141002 HO_150001 HO_150002 BK108 BK117 BK126 BK140 BK149 HB
                       obtain ⟨HO_125, HO_109001, HO_109002, HO_118001, HO_118002, HO_127001, HO_127002, HO_141001, HO_141002, HO_150001, HO_150002, BK108, BK117, BK126, BK140, BK149, HB⟩ := n_
                       have p155 : 0 ≤ (x127_3 : Int) := dA
                       have q155 : x127_3 < (t113.length : Int) := dA
                       obtain ⟨ad155, e155, hx155_0⟩ := Kd.at_int (Kd.R_reads' HO_118002.out).2.2 x127_3 p155 q155
                       cases e155
                       replace p155 := eq_true p155
                       replace q155 := eq_true q155
                       refine start_ (n := 12) (S := fun w' => w'.cell? ⟨gb117, 0, none⟩ = some (.int .i64 t109) ∧ w'.cell? ⟨gb117, 1, none⟩ = some (.slice Ao16 t110.length co16) ∧ w'.cell? ⟨gb117, 2, none⟩ = some (.slice (some ad155) t113.length co17) ∧ w'.cell? (ad155.add (x127_3).toNat) = some (.int .i64 (rd t113 x127_3))) (ds := []) (bs 0 12) (by kernel_rfl) rfl rfl ⟨(blk_cell BK117.out 0).trans rfl, (blk_cell BK117.out 1).trans rfl, (blk_cell BK117.out 2).trans rfl, hx155_0⟩ (fun hHeld => ?_); refine with_tabW laws_FnReached.tab19 laws_FnReached.bits19 (fun HT_ HW_ => ?_)
                       generalize w180.drew = w181 at HO_125 HO_109001 HO_109002 HO_118001 HO_118002 HO_127001 HO_127002 HO_141001 HO_141002 HO_150001 HO_150002 BK108 BK117 BK126 BK140 BK149 HB hx155_0 hHeld ⊢
                       refine pS (i := 1) (N := some 140) #[false, true, false, false, false, false, false, false, false, false, false, false] (aO HT_) ?_
                       refine pS (i := 3) (N := some 142) #[false, true, false, true, false, false, false, false, false, false, false, false] (aO HT_) ?_
                       refine take_ (i := 0) (N := some 139) (v := ?_) (a' := ?_) #[true, true, false, true, false, false, false, false, false, false, false, false] rfl rfl (take_ofW HT_.out HW_.out (by kernel_rfl)) (fun _ _ _ h => h) (Or.inl ⟨by rfl, ?_⟩) hHeld ?_ ?_
                       rotate_left
                       ·rintro w' ⟨s0, s1, s2, s3⟩
                        go_simp
                        with_reducible rfl
                       rotate_left
                       ·simp only [sP, i64_w, i32_w]
                        rfl
                       refine take_ (i := 2) (N := some 141) (v := ?_) (a' := ?_) (bs 4 8) rfl rfl (take_ofW HT_.out HW_.out (by kernel_rfl)) (fun _ _ _ h => h) (Or.inl ⟨by rfl, ?_⟩) hHeld ?_ ?_
                       rotate_left
                       ·rintro w' ⟨s0, s1, s2, s3⟩
                        go_simp
                        with_reducible rfl
                       rotate_left
                       ·simp only [sP, i64_w, i32_w]
                        rfl
                       refine pS (i := 4) (N := some 143) (bs 5 7) (aO HT_) ?_
                       refine take_ (i := 5) (N := some 144) (v := ?_) (a' := ?_) (bs 6 6) rfl rfl (take_ofW HT_.out HW_.out (by kernel_rfl)) (fun _ _ _ h => h) (Or.inl ⟨by rfl, ?_⟩) hHeld ?_ ?_
                       rotate_left
                       ·rintro w' ⟨s0, s1, s2, s3⟩
                        go_simp
                        with_reducible rfl
                       rotate_left
                       ·simp only [sP, i64_w, i32_w]
                        rfl
                       refine one_ (i := 6) (N := some 145) (bs 7 5) rfl rfl (one_of HT_.out (by kernel_rfl)) (by decide) (fun K hK => ?_)
                       refine goes_ Tryd.func8 (by kernel_rfl) rfl #[.agg #[.int .i64 t109, .slice Ao16 t110.length co16, .slice (some ad155) t113.length co17], .int .i64 (rd t113 x127_3)] (by rfl) rfl rfl tA ?_
                       with_reducible refine (impl_ShowCell.calls k3 t109 _ _ t110 _ _ t113 (rd t113 x127_3) t156 t157 _ ?side1 ?side2 ?side3 ?side4 A148.out (HE.out.below HB.out)).mono ?_
                       (case side1 => exact sC ((Kd.R_reads' HO_118001.out).2.2))
                       (case side2 => exact (Kd.R_reads' HO_118001.out).2.1)
                       (case side3 => exact sC ((Kd.R_reads' HO_118002.out).2.2))
                       (case side4 => exact (Kd.R_reads' HO_118002.out).2.1)
                       rintro e w182 ⟨rfl, hb⟩
                       have HS3_ := (hb.cell (World.block_lt_of_cell? _ _ (hHeld.2.2.2))).trans (hHeld.2.2.2)
                       refine ⟨_, rfl, ?_⟩
                       have n_ := aJ (aM (Kd.R_below HO_125.out hb)) (aJ (aM (Kd.R_below HO_109001.out hb)) (aJ (aM (Kd.R_below HO_109002.out hb)) (aJ (aM (Kd.R_below HO_118001.out hb)) (aJ (aM (Kd.R_below HO_118002.out hb)) (aJ (aM (Kd.R_below HO_127001.out hb)) (aJ (aM (Kd.R_below HO_127002.out hb)) (aJ (aM (Kd.R_below HO_141001.out hb)) (aJ (aM (Kd.R_below HO_141002.out hb)) (aJ (aM (Kd.R_below HO_150001.out hb)) (aJ (aM (Kd.R_below HO_150002.out hb)) (aJ (aM (blk_below BK108.out hb)) (aJ (aM (blk_below BK117.out hb)) (aJ (aM (blk_below BK126.out hb)) (aJ (aM (blk_below BK140.out hb)) (aJ (aM (blk_below BK149.out hb)) (aM (below_step (pH HB) hb)))))))))))))))))
                       clear HO_125 HO_109001 HO_109002 HO_118001 HO_118002 HO_127001 HO_127002 HO_141001 HO_141002 HO_150001 HO_150002 BK108 BK117 BK126 BK140 BK149 HB
                       obtain ⟨HO_125, HO_109001, HO_109002, HO_118001, HO_118002, HO_127001, HO_127002, HO_141001, HO_141002, HO_150001, HO_150002, BK108, BK117, BK126, BK140, BK149, HB⟩ := n_
                       (try clear hb)
                       (try clear hb2)
                       (try clear hk)
                       (try clear hi)
                       refine hK.out _ _ ⟨(blk_cell BK117.out 0).trans rfl, (blk_cell BK117.out 1).trans rfl, (blk_cell BK117.out 2).trans rfl, HS3_⟩ (fun hHeld => ?_)
                       clear hK K
                       refine norm_ (a' := ?_) ?_ ?_
                       rotate_left
                       ·show Act.put _ (some 145) _ = _
                        simp only [sP, i64_w, i32_w]
                        rfl
                       refine pS (i := 7) (N := some 138) (bs 8 4) (aO HT_) ?_
                       refine pS (i := 8) (N := some 146) (bs 9 3) (aO HT_) ?_
                       refine pS (i := 9) (N := some 147) (bs 10 2) (aO HT_) ?_
                       refine pS (i := 10) (N := some 18) (bs 11 1) (aO HT_) ?_
                       refine pS (i := 11) (N := some 19) (bs 12 0) (aO HT_) ?_
                       refine done_ (done_of HT_.out (by kernel_rfl)) ?_
                       try go_wp2
                       have n_ := aJ (aM (Kd.R_drew HO_125.out)) (aJ (aM (Kd.R_drew HO_109001.out)) (aJ (aM (Kd.R_drew HO_109002.out)) (aJ (aM (Kd.R_drew HO_118001.out)) (aJ (aM (Kd.R_drew HO_118002.out)) (aJ (aM (Kd.R_drew HO_127001.out)) (aJ (aM (Kd.R_drew HO_127002.out)) (aJ (aM (Kd.R_drew HO_141001.out)) (aJ (aM (Kd.R_drew HO_141002.out)) (aJ (aM (Kd.R_drew HO_150001.out)) (aJ (aM (Kd.R_drew HO_150002.out)) (aJ (aM (blk_drew BK108.out)) (aJ (aM (blk_drew BK117.out)) (aJ (aM (blk_drew BK126.out)) (aJ (aM (blk_drew BK140.out)) (aJ (aM (blk_drew BK149.out)) (aM (below_drew1 HB.out)))))))))))))))))
                       clear HO_125 HO_109001 HO_109002 HO_118001 HO_118002 HO_127001 HO_127002 HO_141001 HO_141002 HO_150001 HO_150002 BK108 BK117 BK126 BK140 BK149 HB
                       obtain ⟨HO_125, HO_109001, HO_109002, HO_118001, HO_118002, HO_127001, HO_127002, HO_141001, HO_141002, HO_150001, HO_150002, BK108, BK117, BK126, BK140, BK149, HB⟩ := n_
                       have p158 : 0 ≤ (x127_3 : Int) := dA
                       have q158 : x127_3 < (t145.length : Int) := dA
                       obtain ⟨ad158, e158, hx158_0⟩ := Kd.at_int (Kd.R_reads' HO_150002.out).2.2 x127_3 p158 q158
                       cases e158
                       replace p158 := eq_true p158
                       replace q158 := eq_true q158
                       refine start_ (n := 12) (S := fun w' => w'.cell? ⟨gb149, 0, none⟩ = some (.int .i64 t141) ∧ w'.cell? ⟨gb149, 1, none⟩ = some (.slice Ao67 t142.length co67) ∧ w'.cell? ⟨gb149, 2, none⟩ = some (.slice (some ad158) t145.length co68) ∧ w'.cell? (ad158.add (x127_3).toNat) = some (.int .i64 (rd t145 x127_3))) (ds := []) (bs 0 12) (by kernel_rfl) rfl rfl ⟨(blk_cell BK149.out 0).trans rfl, (blk_cell BK149.out 1).trans rfl, (blk_cell BK149.out 2).trans rfl, hx158_0⟩ (fun hHeld => ?_); refine with_tabW laws_FnReached.tab20 laws_FnReached.bits20 (fun HT_ HW_ => ?_)
                       generalize w182.drew = w183 at HO_125 HO_109001 HO_109002 HO_118001 HO_118002 HO_127001 HO_127002 HO_141001 HO_141002 HO_150001 HO_150002 BK108 BK117 BK126 BK140 BK149 HB hx158_0 hHeld ⊢
                       refine pS (i := 1) (N := some 150) #[false, true, false, false, false, false, false, false, false, false, false, false] (aO HT_) ?_
                       refine pS (i := 3) (N := some 152) #[false, true, false, true, false, false, false, false, false, false, false, false] (aO HT_) ?_
                       refine take_ (i := 0) (N := some 149) (v := ?_) (a' := ?_) #[true, true, false, true, false, false, false, false, false, false, false, false] rfl rfl (take_ofW HT_.out HW_.out (by kernel_rfl)) (fun _ _ _ h => h) (Or.inl ⟨by rfl, ?_⟩) hHeld ?_ ?_
                       rotate_left
                       ·rintro w' ⟨s0, s1, s2, s3⟩
                        go_simp
                        with_reducible rfl
                       rotate_left
                       ·simp only [sP, i64_w, i32_w]
                        rfl
                       refine take_ (i := 2) (N := some 151) (v := ?_) (a' := ?_) (bs 4 8) rfl rfl (take_ofW HT_.out HW_.out (by kernel_rfl)) (fun _ _ _ h => h) (Or.inl ⟨by rfl, ?_⟩) hHeld ?_ ?_
                       rotate_left
                       ·rintro w' ⟨s0, s1, s2, s3⟩
                        go_simp
                        with_reducible rfl
                       rotate_left
                       ·simp only [sP, i64_w, i32_w]
                        rfl
                       refine pS (i := 4) (N := some 153) (bs 5 7) (aO HT_) ?_
                       refine take_ (i := 5) (N := some 154) (v := ?_) (a' := ?_) (bs 6 6) rfl rfl (take_ofW HT_.out HW_.out (by kernel_rfl)) (fun _ _ _ h => h) (Or.inl ⟨by rfl, ?_⟩) hHeld ?_ ?_
                       rotate_left
                       ·rintro w' ⟨s0, s1, s2, s3⟩
                        go_simp
                        with_reducible rfl
                       rotate_left
                       ·simp only [sP, i64_w, i32_w]
                        rfl
                       refine one_ (i := 6) (N := some 155) (bs 7 5) rfl rfl (one_of HT_.out (by kernel_rfl)) (by decide) (fun K hK => ?_)
                       refine goes_ Tryd.func8 (by kernel_rfl) rfl #[.agg #[.int .i64 t141, .slice Ao67 t142.length co67, .slice (some ad158) t145.length co68], .int .i64 (rd t145 x127_3)] (by rfl) rfl rfl tA ?_
                       with_reducible refine (impl_ShowCell.calls k3 t141 _ _ t142 _ _ t145 (rd t145 x127_3) t159 t160 _ ?side1 ?side2 ?side3 ?side4 A150.out (HE.out.below HB.out)).mono ?_
                       (case side1 => exact sC ((Kd.R_reads' HO_150001.out).2.2))
                       (case side2 => exact (Kd.R_reads' HO_150001.out).2.1)
                       (case side3 => exact sC ((Kd.R_reads' HO_150002.out).2.2))
                       (case side4 => exact (Kd.R_reads' HO_150002.out).2.1)
                       rintro e w184 ⟨rfl, hb⟩
                       have HS3_ := (hb.cell (World.block_lt_of_cell? _ _ (hHeld.2.2.2))).trans (hHeld.2.2.2)
                       refine ⟨_, rfl, ?_⟩
                       have n_ := aJ (aM (Kd.R_below HO_125.out hb)) (aJ (aM (Kd.R_below HO_109001.out hb)) (aJ (aM (Kd.R_below HO_109002.out hb)) (aJ (aM (Kd.R_below HO_118001.out hb)) (aJ (aM (Kd.R_below HO_118002.out hb)) (aJ (aM (Kd.R_below HO_127001.out hb)) (aJ (aM (Kd.R_below HO_127002.out hb)) (aJ (aM (Kd.R_below HO_141001.out hb)) (aJ (aM (Kd.R_below HO_141002.out hb)) (aJ (aM (Kd.R_below HO_150001.out hb)) (aJ (aM (Kd.R_below HO_150002.out hb)) (aJ (aM (blk_below BK108.out hb)) (aJ (aM (blk_below BK117.out hb)) (aJ (aM (blk_below BK126.out hb)) (aJ (aM (blk_below BK140.out hb)) (aJ (aM (blk_below BK149.out hb)) (aM (below_step (pH HB) hb)))))))))))))))))
                       clear HO_125 HO_109001 HO_109002 HO_118001 HO_118002 HO_127001 HO_127002 HO_141001 HO_141002 HO_150001 HO_150002 BK108 BK117 BK126 BK140 BK149 HB
                       obtain ⟨HO_125, HO_109001, HO_109002, HO_118001, HO_118002, HO_127001, HO_127002, HO_141001, HO_141002, HO_150001, HO_150002, BK108, BK117, BK126, BK140, BK149, HB⟩ := n_
                       (try clear hb)
                       (try clear hb2)
                       (try clear hk)
                       (try clear hi)
                       refine hK.out _ _ ⟨(blk_cell BK149.out 0).trans rfl, (blk_cell BK149.out 1).trans rfl, (blk_cell BK149.out 2).trans rfl, HS3_⟩ (fun hHeld => ?_)
                       clear hK K
                       refine norm_ (a' := ?_) ?_ ?_
                       rotate_left
                       ·show Act.put _ (some 155) _ = _
                        simp only [sP, i64_w, i32_w]
                        rfl
                       refine pS (i := 7) (N := some 148) (bs 8 4) (aO HT_) ?_
                       refine pS (i := 8) (N := some 156) (bs 9 3) (aO HT_) ?_
                       refine pS (i := 9) (N := some 157) (bs 10 2) (aO HT_) ?_
                       refine pS (i := 10) (N := some 20) (bs 11 1) (aO HT_) ?_
                       refine pS (i := 11) (N := some 21) (bs 12 0) (aO HT_) ?_
                       refine done_ (done_of HT_.out (by kernel_rfl)) ?_
                       try go_wp2
                       go_roundg k3
                       case measure => have := HJ5.out; have := HJ43.out; have := HK3.out; omega
                       case rel => exact ⟨(wrap64 (x127_3 + 1)), rS, H', ⟨by have := HJ5.out; have := HJ43.out; have := HK3.out; omega⟩, ⟨by (with_reducible repeat (first | apply rA | apply rN | apply rD)); exact HO_125.out⟩, ⟨by (with_reducible repeat (first | apply rA | apply rN | apply rD)); exact HO_109001.out⟩, ⟨by (with_reducible repeat (first | apply rA | apply rN | apply rD)); exact HO_109002.out⟩, ⟨by (with_reducible repeat (first | apply rA | apply rN | apply rD)); exact HO_118001.out⟩, ⟨by (with_reducible repeat (first | apply rA | apply rN | apply rD)); exact HO_118002.out⟩, ⟨by (with_reducible repeat (first | apply rA | apply rN | apply rD)); exact HO_127001.out⟩, ⟨by (with_reducible repeat (first | apply rA | apply rN | apply rD)); exact HO_127002.out⟩, ⟨by (with_reducible repeat (first | apply rA | apply rN | apply rD)); exact HO_141001.out⟩, ⟨by (with_reducible repeat (first | apply rA | apply rN | apply rD)); exact HO_141002.out⟩, ⟨by (with_reducible repeat (first | apply rA | apply rN | apply rD)); exact HO_150001.out⟩, ⟨by (with_reducible repeat (first | apply rA | apply rN | apply rD)); exact HO_150002.out⟩, ⟨pB BK108⟩, ⟨pB BK117⟩, ⟨pB BK126⟩, ⟨pB BK140⟩, ⟨pB BK149⟩, ⟨pH HB⟩⟩
                      ·rw [if_neg c174] at H
                       have c174b0 : (t153.toList == t159.toList) = false := beq_eq_false_iff_ne.mpr c174
                       have c174b1 : (t153.toList != t159.toList) = true := bne_iff_ne.mpr c174
                       obtain rfl := Option.some.inj H
                       have p152 : 0 ≤ (x127_3 : Int) := dA
                       have q152 : x127_3 < (t105.length : Int) := dA
                       obtain ⟨ad152, e152, hx152_0⟩ := Kd.at_int (Kd.R_reads' HO_125.out).2.2 x127_3 p152 q152
                       cases e152
                       replace p152 := eq_true p152
                       replace q152 := eq_true q152
                       have hnb185 := NB108_117.out
                       have hnc185 := NB117_108.out
                       have hnb186 := NB108_126.out
                       have hnc186 := NB126_108.out
                       have hnb187 := NB108_140.out
                       have hnc187 := NB140_108.out
                       have hnb188 := NB108_149.out
                       have hnc188 := NB149_108.out
                       obtain ⟨hcz189_0, hcz189_1, hcz189_2, hfz189_0, hfz189_1, hfz189_2⟩ := cA3 BK108
                       try go_wp2_with (first | ((with_reducible refine gate_callee (f := 8) rfl ?_); refine goesL_ (some 135) rfl rfl Tryd.func8 (by kernel_rfl) rfl #[.agg #[.int .i64 t101, .slice Ao10 t102.length co10, .slice (some ad152) t105.length co11], .int .i64 (rd t105 x127_3)] rfl tA ?_; (with_reducible refine (impl_ShowCell.calls k3 t101 _ _ t102 _ _ t105 (rd t105 x127_3) t153 t154 _ ?side1 ?side2 ?side3 ?side4 A146.out (HE.out.below (pH HB))).mono ?_); (case side1 => exact sC ((Kd.R_reads' HO_109001.out).2.2)); (case side2 => exact (Kd.R_reads' HO_109001.out).2.1); (case side3 => exact sC ((Kd.R_reads' HO_109002.out).2.2)); (case side4 => exact (Kd.R_reads' HO_109002.out).2.1); rintro e w190 ⟨rfl, hb⟩; refine ⟨_, rfl, ?_⟩; have n0_ := aK (Kd.R_below HO_125.out hb); have n1_ := aK (Kd.R_below HO_109001.out hb); have n2_ := aK (Kd.R_below HO_109002.out hb); have n3_ := aK (Kd.R_below HO_118001.out hb); have n4_ := aK (Kd.R_below HO_118002.out hb); have n5_ := aK (Kd.R_below HO_127001.out hb); have n6_ := aK (Kd.R_below HO_127002.out hb); have n7_ := aK (Kd.R_below HO_141001.out hb); have n8_ := aK (Kd.R_below HO_141002.out hb); have n9_ := aK (Kd.R_below HO_150001.out hb); have n10_ := aK (Kd.R_below HO_150002.out hb); replace BK108 := qb BK108 hb; replace BK117 := qb BK117 hb; replace BK126 := qb BK126 hb; replace BK140 := qb BK140 hb; replace BK149 := qb BK149 hb; clear HO_125; have HO_125 := n0_; clear n0_; clear HO_109001; have HO_109001 := n1_; clear n1_; clear HO_109002; have HO_109002 := n2_; clear n2_; clear HO_118001; have HO_118001 := n3_; clear n3_; clear HO_118002; have HO_118002 := n4_; clear n4_; clear HO_127001; have HO_127001 := n5_; clear n5_; clear HO_127002; have HO_127002 := n6_; clear n6_; clear HO_141001; have HO_141001 := n7_; clear n7_; clear HO_141002; have HO_141002 := n8_; clear n8_; clear HO_150001; have HO_150001 := n9_; clear n9_; clear HO_150002; have HO_150002 := n10_; clear n10_; replace HB := qs HB hb; (try clear hb)))
                       have n_ := aJ (aM (Kd.R_drew HO_125.out)) (aJ (aM (Kd.R_drew HO_109001.out)) (aJ (aM (Kd.R_drew HO_109002.out)) (aJ (aM (Kd.R_drew HO_118001.out)) (aJ (aM (Kd.R_drew HO_118002.out)) (aJ (aM (Kd.R_drew HO_127001.out)) (aJ (aM (Kd.R_drew HO_127002.out)) (aJ (aM (Kd.R_drew HO_141001.out)) (aJ (aM (Kd.R_drew HO_141002.out)) (aJ (aM (Kd.R_drew HO_150001.out)) (aJ (aM (Kd.R_drew HO_150002.out)) (aJ (aM (blk_drew BK108.out)) (aJ (aM (blk_drew BK117.out)) (aJ (aM (blk_drew BK126.out)) (aJ (aM (blk_drew BK140.out)) (aJ (aM (blk_drew BK149.out)) (aM (below_drew1 HB.out)))))))))))))))))
                       clear HO_125 HO_109001 HO_109002 HO_118001 HO_118002 HO_127001 HO_127002 HO_141001 HO_141002 HO_150001 HO_150002 BK108 BK117 BK126 BK140 BK149 HB
                       obtain ⟨HO_125, HO_109001, HO_109002, HO_118001, HO_118002, HO_127001, HO_127002, HO_141001, HO_141002, HO_150001, HO_150002, BK108, BK117, BK126, BK140, BK149, HB⟩ := n_
                       have p155 : 0 ≤ (x127_3 : Int) := dA
                       have q155 : x127_3 < (t113.length : Int) := dA
                       obtain ⟨ad155, e155, hx155_0⟩ := Kd.at_int (Kd.R_reads' HO_118002.out).2.2 x127_3 p155 q155
                       cases e155
                       replace p155 := eq_true p155
                       replace q155 := eq_true q155
                       refine start_ (n := 12) (S := fun w' => w'.cell? ⟨gb117, 0, none⟩ = some (.int .i64 t109) ∧ w'.cell? ⟨gb117, 1, none⟩ = some (.slice Ao16 t110.length co16) ∧ w'.cell? ⟨gb117, 2, none⟩ = some (.slice (some ad155) t113.length co17) ∧ w'.cell? (ad155.add (x127_3).toNat) = some (.int .i64 (rd t113 x127_3))) (ds := []) (bs 0 12) (by kernel_rfl) rfl rfl ⟨(blk_cell BK117.out 0).trans rfl, (blk_cell BK117.out 1).trans rfl, (blk_cell BK117.out 2).trans rfl, hx155_0⟩ (fun hHeld => ?_); refine with_tabW laws_FnReached.tab19 laws_FnReached.bits19 (fun HT_ HW_ => ?_)
                       generalize w190.drew = w191 at HO_125 HO_109001 HO_109002 HO_118001 HO_118002 HO_127001 HO_127002 HO_141001 HO_141002 HO_150001 HO_150002 BK108 BK117 BK126 BK140 BK149 HB hx155_0 hHeld ⊢
                       refine pS (i := 1) (N := some 140) #[false, true, false, false, false, false, false, false, false, false, false, false] (aO HT_) ?_
                       refine pS (i := 3) (N := some 142) #[false, true, false, true, false, false, false, false, false, false, false, false] (aO HT_) ?_
                       refine take_ (i := 0) (N := some 139) (v := ?_) (a' := ?_) #[true, true, false, true, false, false, false, false, false, false, false, false] rfl rfl (take_ofW HT_.out HW_.out (by kernel_rfl)) (fun _ _ _ h => h) (Or.inl ⟨by rfl, ?_⟩) hHeld ?_ ?_
                       rotate_left
                       ·rintro w' ⟨s0, s1, s2, s3⟩
                        go_simp
                        with_reducible rfl
                       rotate_left
                       ·simp only [sP, i64_w, i32_w]
                        rfl
                       refine take_ (i := 2) (N := some 141) (v := ?_) (a' := ?_) (bs 4 8) rfl rfl (take_ofW HT_.out HW_.out (by kernel_rfl)) (fun _ _ _ h => h) (Or.inl ⟨by rfl, ?_⟩) hHeld ?_ ?_
                       rotate_left
                       ·rintro w' ⟨s0, s1, s2, s3⟩
                        go_simp
                        with_reducible rfl
                       rotate_left
                       ·simp only [sP, i64_w, i32_w]
                        rfl
                       refine pS (i := 4) (N := some 143) (bs 5 7) (aO HT_) ?_
                       refine take_ (i := 5) (N := some 144) (v := ?_) (a' := ?_) (bs 6 6) rfl rfl (take_ofW HT_.out HW_.out (by kernel_rfl)) (fun _ _ _ h => h) (Or.inl ⟨by rfl, ?_⟩) hHeld ?_ ?_
                       rotate_left
                       ·rintro w' ⟨s0, s1, s2, s3⟩
                        go_simp
                        with_reducible rfl
                       rotate_left
                       ·simp only [sP, i64_w, i32_w]
                        rfl
                       refine one_ (i := 6) (N := some 145) (bs 7 5) rfl rfl (one_of HT_.out (by kernel_rfl)) (by decide) (fun K hK => ?_)
                       refine goes_ Tryd.func8 (by kernel_rfl) rfl #[.agg #[.int .i64 t109, .slice Ao16 t110.length co16, .slice (some ad155) t113.length co17], .int .i64 (rd t113 x127_3)] (by rfl) rfl rfl tA ?_
                       with_reducible refine (impl_ShowCell.calls k3 t109 _ _ t110 _ _ t113 (rd t113 x127_3) t156 t157 _ ?side1 ?side2 ?side3 ?side4 A148.out (HE.out.below HB.out)).mono ?_
                       (case side1 => exact sC ((Kd.R_reads' HO_118001.out).2.2))
                       (case side2 => exact (Kd.R_reads' HO_118001.out).2.1)
                       (case side3 => exact sC ((Kd.R_reads' HO_118002.out).2.2))
                       (case side4 => exact (Kd.R_reads' HO_118002.out).2.1)
                       rintro e w192 ⟨rfl, hb⟩
                       have HS3_ := (hb.cell (World.block_lt_of_cell? _ _ (hHeld.2.2.2))).trans (hHeld.2.2.2)
                       refine ⟨_, rfl, ?_⟩
                       have n_ := aJ (aM (Kd.R_below HO_125.out hb)) (aJ (aM (Kd.R_below HO_109001.out hb)) (aJ (aM (Kd.R_below HO_109002.out hb)) (aJ (aM (Kd.R_below HO_118001.out hb)) (aJ (aM (Kd.R_below HO_118002.out hb)) (aJ (aM (Kd.R_below HO_127001.out hb)) (aJ (aM (Kd.R_below HO_127002.out hb)) (aJ (aM (Kd.R_below HO_141001.out hb)) (aJ (aM (Kd.R_below HO_141002.out hb)) (aJ (aM (Kd.R_below HO_150001.out hb)) (aJ (aM (Kd.R_below HO_150002.out hb)) (aJ (aM (blk_below BK108.out hb)) (aJ (aM (blk_below BK117.out hb)) (aJ (aM (blk_below BK126.out hb)) (aJ (aM (blk_below BK140.out hb)) (aJ (aM (blk_below BK149.out hb)) (aM (below_step (pH HB) hb)))))))))))))))))
                       clear HO_125 HO_109001 HO_109002 HO_118001 HO_118002 HO_127001 HO_127002 HO_141001 HO_141002 HO_150001 HO_150002 BK108 BK117 BK126 BK140 BK149 HB
                       obtain ⟨HO_125, HO_109001, HO_109002, HO_118001, HO_118002, HO_127001, HO_127002, HO_141001, HO_141002, HO_150001, HO_150002, BK108, BK117, BK126, BK140, BK149, HB⟩ := n_
                       (try clear hb)
                       (try clear hb2)
                       (try clear hk)
                       (try clear hi)
                       refine hK.out _ _ ⟨(blk_cell BK117.out 0).trans rfl, (blk_cell BK117.out 1).trans rfl, (blk_cell BK117.out 2).trans rfl, HS3_⟩ (fun hHeld => ?_)
                       clear hK K
                       refine norm_ (a' := ?_) ?_ ?_
                       rotate_left
                       ·show Act.put _ (some 145) _ = _
                        simp only [sP, i64_w, i32_w]
                        rfl
                       refine pS (i := 7) (N := some 138) (bs 8 4) (aO HT_) ?_
                       refine pS (i := 8) (N := some 146) (bs 9 3) (aO HT_) ?_
                       refine pS (i := 9) (N := some 147) (bs 10 2) (aO HT_) ?_
                       refine pS (i := 10) (N := some 18) (bs 11 1) (aO HT_) ?_
                       refine pS (i := 11) (N := some 19) (bs 12 0) (aO HT_) ?_
                       refine done_ (done_of HT_.out (by kernel_rfl)) ?_
                       try go_wp2
                       have n_ := aJ (aM (Kd.R_drew HO_125.out)) (aJ (aM (Kd.R_drew HO_109001.out)) (aJ (aM (Kd.R_drew HO_109002.out)) (aJ (aM (Kd.R_drew HO_118001.out)) (aJ (aM (Kd.R_drew HO_118002.out)) (aJ (aM (Kd.R_drew HO_127001.out)) (aJ (aM (Kd.R_drew HO_127002.out)) (aJ (aM (Kd.R_drew HO_141001.out)) (aJ (aM (Kd.R_drew HO_141002.out)) (aJ (aM (Kd.R_drew HO_150001.out)) (aJ (aM (Kd.R_drew HO_150002.out)) (aJ (aM (blk_drew BK108.out)) (aJ (aM (blk_drew BK117.out)) (aJ (aM (blk_drew BK126.out)) (aJ (aM (blk_drew BK140.out)) (aJ (aM (blk_drew BK149.out)) (aM (below_drew1 HB.out)))))))))))))))))
                       clear HO_125 HO_109001 HO_109002 HO_118001 HO_118002 HO_127001 HO_127002 HO_141001 HO_141002 HO_150001 HO_150002 BK108 BK117 BK126 BK140 BK149 HB
                       obtain ⟨HO_125, HO_109001, HO_109002, HO_118001, HO_118002, HO_127001, HO_127002, HO_141001, HO_141002, HO_150001, HO_150002, BK108, BK117, BK126, BK140, BK149, HB⟩ := n_
                       have p158 : 0 ≤ (x127_3 : Int) := dA
                       have q158 : x127_3 < (t145.length : Int) := dA
                       obtain ⟨ad158, e158, hx158_0⟩ := Kd.at_int (Kd.R_reads' HO_150002.out).2.2 x127_3 p158 q158
                       cases e158
                       replace p158 := eq_true p158
                       replace q158 := eq_true q158
                       refine start_ (n := 12) (S := fun w' => w'.cell? ⟨gb149, 0, none⟩ = some (.int .i64 t141) ∧ w'.cell? ⟨gb149, 1, none⟩ = some (.slice Ao67 t142.length co67) ∧ w'.cell? ⟨gb149, 2, none⟩ = some (.slice (some ad158) t145.length co68) ∧ w'.cell? (ad158.add (x127_3).toNat) = some (.int .i64 (rd t145 x127_3))) (ds := []) (bs 0 12) (by kernel_rfl) rfl rfl ⟨(blk_cell BK149.out 0).trans rfl, (blk_cell BK149.out 1).trans rfl, (blk_cell BK149.out 2).trans rfl, hx158_0⟩ (fun hHeld => ?_); refine with_tabW laws_FnReached.tab20 laws_FnReached.bits20 (fun HT_ HW_ => ?_)
                       generalize w192.drew = w193 at HO_125 HO_109001 HO_109002 HO_118001 HO_118002 HO_127001 HO_127002 HO_141001 HO_141002 HO_150001 HO_150002 BK108 BK117 BK126 BK140 BK149 HB hx158_0 hHeld ⊢
                       refine pS (i := 1) (N := some 150) #[false, true, false, false, false, false, false, false, false, false, false, false] (aO HT_) ?_
                       refine pS (i := 3) (N := some 152) #[false, true, false, true, false, false, false, false, false, false, false, false] (aO HT_) ?_
                       refine take_ (i := 0) (N := some 149) (v := ?_) (a' := ?_) #[true, true, false, true, false, false, false, false, false, false, false, false] rfl rfl (take_ofW HT_.out HW_.out (by kernel_rfl)) (fun _ _ _ h => h) (Or.inl ⟨by rfl, ?_⟩) hHeld ?_ ?_
                       rotate_left
                       ·rintro w' ⟨s0, s1, s2, s3⟩
                        go_simp
                        with_reducible rfl
                       rotate_left
                       ·simp only [sP, i64_w, i32_w]
                        rfl
                       refine take_ (i := 2) (N := some 151) (v := ?_) (a' := ?_) (bs 4 8) rfl rfl (take_ofW HT_.out HW_.out (by kernel_rfl)) (fun _ _ _ h => h) (Or.inl ⟨by rfl, ?_⟩) hHeld ?_ ?_
                       rotate_left
                       ·rintro w' ⟨s0, s1, s2, s3⟩
                        go_simp
                        with_reducible rfl
                       rotate_left
                       ·simp only [sP, i64_w, i32_w]
                        rfl
                       refine pS (i := 4) (N := some 153) (bs 5 7) (aO HT_) ?_
                       refine take_ (i := 5) (N := some 154) (v := ?_) (a' := ?_) (bs 6 6) rfl rfl (take_ofW HT_.out HW_.out (by kernel_rfl)) (fun _ _ _ h => h) (Or.inl ⟨by rfl, ?_⟩) hHeld ?_ ?_
                       rotate_left
                       ·rintro w' ⟨s0, s1, s2, s3⟩
                        go_simp
                        with_reducible rfl
                       rotate_left
                       ·simp only [sP, i64_w, i32_w]
                        rfl
                       refine one_ (i := 6) (N := some 155) (bs 7 5) rfl rfl (one_of HT_.out (by kernel_rfl)) (by decide) (fun K hK => ?_)
                       refine goes_ Tryd.func8 (by kernel_rfl) rfl #[.agg #[.int .i64 t141, .slice Ao67 t142.length co67, .slice (some ad158) t145.length co68], .int .i64 (rd t145 x127_3)] (by rfl) rfl rfl tA ?_
                       with_reducible refine (impl_ShowCell.calls k3 t141 _ _ t142 _ _ t145 (rd t145 x127_3) t159 t160 _ ?side1 ?side2 ?side3 ?side4 A150.out (HE.out.below HB.out)).mono ?_
                       (case side1 => exact sC ((Kd.R_reads' HO_150001.out).2.2))
                       (case side2 => exact (Kd.R_reads' HO_150001.out).2.1)
                       (case side3 => exact sC ((Kd.R_reads' HO_150002.out).2.2))
                       (case side4 => exact (Kd.R_reads' HO_150002.out).2.1)
                       rintro e w194 ⟨rfl, hb⟩
                       have HS3_ := (hb.cell (World.block_lt_of_cell? _ _ (hHeld.2.2.2))).trans (hHeld.2.2.2)
                       refine ⟨_, rfl, ?_⟩
                       have n_ := aJ (aM (Kd.R_below HO_125.out hb)) (aJ (aM (Kd.R_below HO_109001.out hb)) (aJ (aM (Kd.R_below HO_109002.out hb)) (aJ (aM (Kd.R_below HO_118001.out hb)) (aJ (aM (Kd.R_below HO_118002.out hb)) (aJ (aM (Kd.R_below HO_127001.out hb)) (aJ (aM (Kd.R_below HO_127002.out hb)) (aJ (aM (Kd.R_below HO_141001.out hb)) (aJ (aM (Kd.R_below HO_141002.out hb)) (aJ (aM (Kd.R_below HO_150001.out hb)) (aJ (aM (Kd.R_below HO_150002.out hb)) (aJ (aM (blk_below BK108.out hb)) (aJ (aM (blk_below BK117.out hb)) (aJ (aM (blk_below BK126.out hb)) (aJ (aM (blk_below BK140.out hb)) (aJ (aM (blk_below BK149.out hb)) (aM (below_step (pH HB) hb)))))))))))))))))
                       clear HO_125 HO_109001 HO_109002 HO_118001 HO_118002 HO_127001 HO_127002 HO_141001 HO_141002 HO_150001 HO_150002 BK108 BK117 BK126 BK140 BK149 HB
                       obtain ⟨HO_125, HO_109001, HO_109002, HO_118001, HO_118002, HO_127001, HO_127002, HO_141001, HO_141002, HO_150001, HO_150002, BK108, BK117, BK126, BK140, BK149, HB⟩ := n_
                       (try clear hb)
                       (try clear hb2)
                       (try clear hk)
                       (try clear hi)
                       refine hK.out _ _ ⟨(blk_cell BK149.out 0).trans rfl, (blk_cell BK149.out 1).trans rfl, (blk_cell BK149.out 2).trans rfl, HS3_⟩ (fun hHeld => ?_)
                       clear hK K
                       refine norm_ (a' := ?_) ?_ ?_
                       rotate_left
                       ·show Act.put _ (some 155) _ = _
                        simp only [sP, i64_w, i32_w]
                        rfl
                       refine pS (i := 7) (N := some 148) (bs 8 4) (aO HT_) ?_
                       refine pS (i := 8) (N := some 156) (bs 9 3) (aO HT_) ?_
                       refine pS (i := 9) (N := some 157) (bs 10 2) (aO HT_) ?_
                       refine pS (i := 10) (N := some 20) (bs 11 1) (aO HT_) ?_
                       refine pS (i := 11) (N := some 21) (bs 12 0) (aO HT_) ?_
                       refine done_ (done_of HT_.out (by kernel_rfl)) ?_
                       try go_wp2
                       go_ret
                       exact ⟨eW, pH HB⟩
                     ·rw [if_neg c173] at H
                      have c173b0 : (t153.toList == t156.toList) = false := beq_eq_false_iff_ne.mpr c173
                      have c173b1 : (t153.toList != t156.toList) = true := bne_iff_ne.mpr c173
                      obtain rfl := Option.some.inj H
                      have p152 : 0 ≤ (x127_3 : Int) := dA
                      have q152 : x127_3 < (t105.length : Int) := dA
                      obtain ⟨ad152, e152, hx152_0⟩ := Kd.at_int (Kd.R_reads' HO_125.out).2.2 x127_3 p152 q152
                      cases e152
                      replace p152 := eq_true p152
                      replace q152 := eq_true q152
                      have hnb195 := NB108_117.out
                      have hnc195 := NB117_108.out
                      have hnb196 := NB108_126.out
                      have hnc196 := NB126_108.out
                      have hnb197 := NB108_140.out
                      have hnc197 := NB140_108.out
                      have hnb198 := NB108_149.out
                      have hnc198 := NB149_108.out
                      obtain ⟨hcz199_0, hcz199_1, hcz199_2, hfz199_0, hfz199_1, hfz199_2⟩ := cA3 BK108
                      try go_wp2_with (first | ((with_reducible refine gate_callee (f := 8) rfl ?_); refine goesL_ (some 135) rfl rfl Tryd.func8 (by kernel_rfl) rfl #[.agg #[.int .i64 t101, .slice Ao10 t102.length co10, .slice (some ad152) t105.length co11], .int .i64 (rd t105 x127_3)] rfl tA ?_; (with_reducible refine (impl_ShowCell.calls k3 t101 _ _ t102 _ _ t105 (rd t105 x127_3) t153 t154 _ ?side1 ?side2 ?side3 ?side4 A146.out (HE.out.below (pH HB))).mono ?_); (case side1 => exact sC ((Kd.R_reads' HO_109001.out).2.2)); (case side2 => exact (Kd.R_reads' HO_109001.out).2.1); (case side3 => exact sC ((Kd.R_reads' HO_109002.out).2.2)); (case side4 => exact (Kd.R_reads' HO_109002.out).2.1); rintro e w200 ⟨rfl, hb⟩; refine ⟨_, rfl, ?_⟩; have n0_ := aK (Kd.R_below HO_125.out hb); have n1_ := aK (Kd.R_below HO_109001.out hb); have n2_ := aK (Kd.R_below HO_109002.out hb); have n3_ := aK (Kd.R_below HO_118001.out hb); have n4_ := aK (Kd.R_below HO_118002.out hb); have n5_ := aK (Kd.R_below HO_127001.out hb); have n6_ := aK (Kd.R_below HO_127002.out hb); have n7_ := aK (Kd.R_below HO_141001.out hb); have n8_ := aK (Kd.R_below HO_141002.out hb); have n9_ := aK (Kd.R_below HO_150001.out hb); have n10_ := aK (Kd.R_below HO_150002.out hb); replace BK108 := qb BK108 hb; replace BK117 := qb BK117 hb; replace BK126 := qb BK126 hb; replace BK140 := qb BK140 hb; replace BK149 := qb BK149 hb; clear HO_125; have HO_125 := n0_; clear n0_; clear HO_109001; have HO_109001 := n1_; clear n1_; clear HO_109002; have HO_109002 := n2_; clear n2_; clear HO_118001; have HO_118001 := n3_; clear n3_; clear HO_118002; have HO_118002 := n4_; clear n4_; clear HO_127001; have HO_127001 := n5_; clear n5_; clear HO_127002; have HO_127002 := n6_; clear n6_; clear HO_141001; have HO_141001 := n7_; clear n7_; clear HO_141002; have HO_141002 := n8_; clear n8_; clear HO_150001; have HO_150001 := n9_; clear n9_; clear HO_150002; have HO_150002 := n10_; clear n10_; replace HB := qs HB hb; (try clear hb)))
                      have n_ := aJ (aM (Kd.R_drew HO_125.out)) (aJ (aM (Kd.R_drew HO_109001.out)) (aJ (aM (Kd.R_drew HO_109002.out)) (aJ (aM (Kd.R_drew HO_118001.out)) (aJ (aM (Kd.R_drew HO_118002.out)) (aJ (aM (Kd.R_drew HO_127001.out)) (aJ (aM (Kd.R_drew HO_127002.out)) (aJ (aM (Kd.R_drew HO_141001.out)) (aJ (aM (Kd.R_drew HO_141002.out)) (aJ (aM (Kd.R_drew HO_150001.out)) (aJ (aM (Kd.R_drew HO_150002.out)) (aJ (aM (blk_drew BK108.out)) (aJ (aM (blk_drew BK117.out)) (aJ (aM (blk_drew BK126.out)) (aJ (aM (blk_drew BK140.out)) (aJ (aM (blk_drew BK149.out)) (aM (below_drew1 HB.out)))))))))))))))))
                      clear HO_125 HO_109001 HO_109002 HO_118001 HO_118002 HO_127001 HO_127002 HO_141001 HO_141002 HO_150001 HO_150002 BK108 BK117 BK126 BK140 BK149 HB
                      obtain ⟨HO_125, HO_109001, HO_109002, HO_118001, HO_118002, HO_127001, HO_127002, HO_141001, HO_141002, HO_150001, HO_150002, BK108, BK117, BK126, BK140, BK149, HB⟩ := n_
                      have p155 : 0 ≤ (x127_3 : Int) := dA
                      have q155 : x127_3 < (t113.length : Int) := dA
                      obtain ⟨ad155, e155, hx155_0⟩ := Kd.at_int (Kd.R_reads' HO_118002.out).2.2 x127_3 p155 q155
                      cases e155
                      replace p155 := eq_true p155
                      replace q155 := eq_true q155
                      refine start_ (n := 12) (S := fun w' => w'.cell? ⟨gb117, 0, none⟩ = some (.int .i64 t109) ∧ w'.cell? ⟨gb117, 1, none⟩ = some (.slice Ao16 t110.length co16) ∧ w'.cell? ⟨gb117, 2, none⟩ = some (.slice (some ad155) t113.length co17) ∧ w'.cell? (ad155.add (x127_3).toNat) = some (.int .i64 (rd t113 x127_3))) (ds := []) (bs 0 12) (by kernel_rfl) rfl rfl ⟨(blk_cell BK117.out 0).trans rfl, (blk_cell BK117.out 1).trans rfl, (blk_cell BK117.out 2).trans rfl, hx155_0⟩ (fun hHeld => ?_); refine with_tabW laws_FnReached.tab19 laws_FnReached.bits19 (fun HT_ HW_ => ?_)
                      generalize w200.drew = w201 at HO_125 HO_109001 HO_109002 HO_118001 HO_118002 HO_127001 HO_127002 HO_141001 HO_141002 HO_150001 HO_150002 BK108 BK117 BK126 BK140 BK149 HB hx155_0 hHeld ⊢
                      refine pS (i := 1) (N := some 140) #[false, true, false, false, false, false, false, false, false, false, false, false] (aO HT_) ?_
                      refine pS (i := 3) (N := some 142) #[false, true, false, true, false, false, false, false, false, false, false, false] (aO HT_) ?_
                      refine take_ (i := 0) (N := some 139) (v := ?_) (a' := ?_) #[true, true, false, true, false, false, false, false, false, false, false, false] rfl rfl (take_ofW HT_.out HW_.out (by kernel_rfl)) (fun _ _ _ h => h) (Or.inl ⟨by rfl, ?_⟩) hHeld ?_ ?_
                      rotate_left
                      ·rintro w' ⟨s0, s1, s2, s3⟩
                       go_simp
                       with_reducible rfl
                      rotate_left
                      ·simp only [sP, i64_w, i32_w]
                       rfl
                      refine take_ (i := 2) (N := some 141) (v := ?_) (a' := ?_) (bs 4 8) rfl rfl (take_ofW HT_.out HW_.out (by kernel_rfl)) (fun _ _ _ h => h) (Or.inl ⟨by rfl, ?_⟩) hHeld ?_ ?_
                      rotate_left
                      ·rintro w' ⟨s0, s1, s2, s3⟩
                       go_simp
                       with_reducible rfl
                      rotate_left
                      ·simp only [sP, i64_w, i32_w]
                       rfl
                      refine pS (i := 4) (N := some 143) (bs 5 7) (aO HT_) ?_
                      refine take_ (i := 5) (N := some 144) (v := ?_) (a' := ?_) (bs 6 6) rfl rfl (take_ofW HT_.out HW_.out (by kernel_rfl)) (fun _ _ _ h => h) (Or.inl ⟨by rfl, ?_⟩) hHeld ?_ ?_
                      rotate_left
                      ·rintro w' ⟨s0, s1, s2, s3⟩
                       go_simp
                       with_reducible rfl
                      rotate_left
                      ·simp only [sP, i64_w, i32_w]
                       rfl
                      refine one_ (i := 6) (N := some 145) (bs 7 5) rfl rfl (one_of HT_.out (by kernel_rfl)) (by decide) (fun K hK => ?_)
                      refine goes_ Tryd.func8 (by kernel_rfl) rfl #[.agg #[.int .i64 t109, .slice Ao16 t110.length co16, .slice (some ad155) t113.length co17], .int .i64 (rd t113 x127_3)] (by rfl) rfl rfl tA ?_
                      with_reducible refine (impl_ShowCell.calls k3 t109 _ _ t110 _ _ t113 (rd t113 x127_3) t156 t157 _ ?side1 ?side2 ?side3 ?side4 A148.out (HE.out.below HB.out)).mono ?_
                      (case side1 => exact sC ((Kd.R_reads' HO_118001.out).2.2))
                      (case side2 => exact (Kd.R_reads' HO_118001.out).2.1)
                      (case side3 => exact sC ((Kd.R_reads' HO_118002.out).2.2))
                      (case side4 => exact (Kd.R_reads' HO_118002.out).2.1)
                      rintro e w202 ⟨rfl, hb⟩
                      have HS3_ := (hb.cell (World.block_lt_of_cell? _ _ (hHeld.2.2.2))).trans (hHeld.2.2.2)
                      refine ⟨_, rfl, ?_⟩
                      have n_ := aJ (aM (Kd.R_below HO_125.out hb)) (aJ (aM (Kd.R_below HO_109001.out hb)) (aJ (aM (Kd.R_below HO_109002.out hb)) (aJ (aM (Kd.R_below HO_118001.out hb)) (aJ (aM (Kd.R_below HO_118002.out hb)) (aJ (aM (Kd.R_below HO_127001.out hb)) (aJ (aM (Kd.R_below HO_127002.out hb)) (aJ (aM (Kd.R_below HO_141001.out hb)) (aJ (aM (Kd.R_below HO_141002.out hb)) (aJ (aM (Kd.R_below HO_150001.out hb)) (aJ (aM (Kd.R_below HO_150002.out hb)) (aJ (aM (blk_below BK108.out hb)) (aJ (aM (blk_below BK117.out hb)) (aJ (aM (blk_below BK126.out hb)) (aJ (aM (blk_below BK140.out hb)) (aJ (aM (blk_below BK149.out hb)) (aM (below_step (pH HB) hb)))))))))))))))))
                      clear HO_125 HO_109001 HO_109002 HO_118001 HO_118002 HO_127001 HO_127002 HO_141001 HO_141002 HO_150001 HO_150002 BK108 BK117 BK126 BK140 BK149 HB
                      obtain ⟨HO_125, HO_109001, HO_109002, HO_118001, HO_118002, HO_127001, HO_127002, HO_141001, HO_141002, HO_150001, HO_150002, BK108, BK117, BK126, BK140, BK149, HB⟩ := n_
                      (try clear hb)
                      (try clear hb2)
                      (try clear hk)
                      (try clear hi)
                      refine hK.out _ _ ⟨(blk_cell BK117.out 0).trans rfl, (blk_cell BK117.out 1).trans rfl, (blk_cell BK117.out 2).trans rfl, HS3_⟩ (fun hHeld => ?_)
                      clear hK K
                      refine norm_ (a' := ?_) ?_ ?_
                      rotate_left
                      ·show Act.put _ (some 145) _ = _
                       simp only [sP, i64_w, i32_w]
                       rfl
                      refine pS (i := 7) (N := some 138) (bs 8 4) (aO HT_) ?_
                      refine pS (i := 8) (N := some 146) (bs 9 3) (aO HT_) ?_
                      refine pS (i := 9) (N := some 147) (bs 10 2) (aO HT_) ?_
                      refine pS (i := 10) (N := some 18) (bs 11 1) (aO HT_) ?_
                      refine pS (i := 11) (N := some 19) (bs 12 0) (aO HT_) ?_
                      refine done_ (done_of HT_.out (by kernel_rfl)) ?_
                      try go_wp2
                      have n_ := aJ (aM (Kd.R_drew HO_125.out)) (aJ (aM (Kd.R_drew HO_109001.out)) (aJ (aM (Kd.R_drew HO_109002.out)) (aJ (aM (Kd.R_drew HO_118001.out)) (aJ (aM (Kd.R_drew HO_118002.out)) (aJ (aM (Kd.R_drew HO_127001.out)) (aJ (aM (Kd.R_drew HO_127002.out)) (aJ (aM (Kd.R_drew HO_141001.out)) (aJ (aM (Kd.R_drew HO_141002.out)) (aJ (aM (Kd.R_drew HO_150001.out)) (aJ (aM (Kd.R_drew HO_150002.out)) (aJ (aM (blk_drew BK108.out)) (aJ (aM (blk_drew BK117.out)) (aJ (aM (blk_drew BK126.out)) (aJ (aM (blk_drew BK140.out)) (aJ (aM (blk_drew BK149.out)) (aM (below_drew1 HB.out)))))))))))))))))
                      clear HO_125 HO_109001 HO_109002 HO_118001 HO_118002 HO_127001 HO_127002 HO_141001 HO_141002 HO_150001 HO_150002 BK108 BK117 BK126 BK140 BK149 HB
                      obtain ⟨HO_125, HO_109001, HO_109002, HO_118001, HO_118002, HO_127001, HO_127002, HO_141001, HO_141002, HO_150001, HO_150002, BK108, BK117, BK126, BK140, BK149, HB⟩ := n_
                      have p158 : 0 ≤ (x127_3 : Int) := dA
                      have q158 : x127_3 < (t145.length : Int) := dA
                      obtain ⟨ad158, e158, hx158_0⟩ := Kd.at_int (Kd.R_reads' HO_150002.out).2.2 x127_3 p158 q158
                      cases e158
                      replace p158 := eq_true p158
                      replace q158 := eq_true q158
                      refine start_ (n := 12) (S := fun w' => w'.cell? ⟨gb149, 0, none⟩ = some (.int .i64 t141) ∧ w'.cell? ⟨gb149, 1, none⟩ = some (.slice Ao67 t142.length co67) ∧ w'.cell? ⟨gb149, 2, none⟩ = some (.slice (some ad158) t145.length co68) ∧ w'.cell? (ad158.add (x127_3).toNat) = some (.int .i64 (rd t145 x127_3))) (ds := []) (bs 0 12) (by kernel_rfl) rfl rfl ⟨(blk_cell BK149.out 0).trans rfl, (blk_cell BK149.out 1).trans rfl, (blk_cell BK149.out 2).trans rfl, hx158_0⟩ (fun hHeld => ?_); refine with_tabW laws_FnReached.tab20 laws_FnReached.bits20 (fun HT_ HW_ => ?_)
                      generalize w202.drew = w203 at HO_125 HO_109001 HO_109002 HO_118001 HO_118002 HO_127001 HO_127002 HO_141001 HO_141002 HO_150001 HO_150002 BK108 BK117 BK126 BK140 BK149 HB hx158_0 hHeld ⊢
                      refine pS (i := 1) (N := some 150) #[false, true, false, false, false, false, false, false, false, false, false, false] (aO HT_) ?_
                      refine pS (i := 3) (N := some 152) #[false, true, false, true, false, false, false, false, false, false, false, false] (aO HT_) ?_
                      refine take_ (i := 0) (N := some 149) (v := ?_) (a' := ?_) #[true, true, false, true, false, false, false, false, false, false, false, false] rfl rfl (take_ofW HT_.out HW_.out (by kernel_rfl)) (fun _ _ _ h => h) (Or.inl ⟨by rfl, ?_⟩) hHeld ?_ ?_
                      rotate_left
                      ·rintro w' ⟨s0, s1, s2, s3⟩
                       go_simp
                       with_reducible rfl
                      rotate_left
                      ·simp only [sP, i64_w, i32_w]
                       rfl
                      refine take_ (i := 2) (N := some 151) (v := ?_) (a' := ?_) (bs 4 8) rfl rfl (take_ofW HT_.out HW_.out (by kernel_rfl)) (fun _ _ _ h => h) (Or.inl ⟨by rfl, ?_⟩) hHeld ?_ ?_
                      rotate_left
                      ·rintro w' ⟨s0, s1, s2, s3⟩
                       go_simp
                       with_reducible rfl
                      rotate_left
                      ·simp only [sP, i64_w, i32_w]
                       rfl
                      refine pS (i := 4) (N := some 153) (bs 5 7) (aO HT_) ?_
                      refine take_ (i := 5) (N := some 154) (v := ?_) (a' := ?_) (bs 6 6) rfl rfl (take_ofW HT_.out HW_.out (by kernel_rfl)) (fun _ _ _ h => h) (Or.inl ⟨by rfl, ?_⟩) hHeld ?_ ?_
                      rotate_left
                      ·rintro w' ⟨s0, s1, s2, s3⟩
                       go_simp
                       with_reducible rfl
                      rotate_left
                      ·simp only [sP, i64_w, i32_w]
                       rfl
                      refine one_ (i := 6) (N := some 155) (bs 7 5) rfl rfl (one_of HT_.out (by kernel_rfl)) (by decide) (fun K hK => ?_)
                      refine goes_ Tryd.func8 (by kernel_rfl) rfl #[.agg #[.int .i64 t141, .slice Ao67 t142.length co67, .slice (some ad158) t145.length co68], .int .i64 (rd t145 x127_3)] (by rfl) rfl rfl tA ?_
                      with_reducible refine (impl_ShowCell.calls k3 t141 _ _ t142 _ _ t145 (rd t145 x127_3) t159 t160 _ ?side1 ?side2 ?side3 ?side4 A150.out (HE.out.below HB.out)).mono ?_
                      (case side1 => exact sC ((Kd.R_reads' HO_150001.out).2.2))
                      (case side2 => exact (Kd.R_reads' HO_150001.out).2.1)
                      (case side3 => exact sC ((Kd.R_reads' HO_150002.out).2.2))
                      (case side4 => exact (Kd.R_reads' HO_150002.out).2.1)
                      rintro e w204 ⟨rfl, hb⟩
                      have HS3_ := (hb.cell (World.block_lt_of_cell? _ _ (hHeld.2.2.2))).trans (hHeld.2.2.2)
                      refine ⟨_, rfl, ?_⟩
                      have n_ := aJ (aM (Kd.R_below HO_125.out hb)) (aJ (aM (Kd.R_below HO_109001.out hb)) (aJ (aM (Kd.R_below HO_109002.out hb)) (aJ (aM (Kd.R_below HO_118001.out hb)) (aJ (aM (Kd.R_below HO_118002.out hb)) (aJ (aM (Kd.R_below HO_127001.out hb)) (aJ (aM (Kd.R_below HO_127002.out hb)) (aJ (aM (Kd.R_below HO_141001.out hb)) (aJ (aM (Kd.R_below HO_141002.out hb)) (aJ (aM (Kd.R_below HO_150001.out hb)) (aJ (aM (Kd.R_below HO_150002.out hb)) (aJ (aM (blk_below BK108.out hb)) (aJ (aM (blk_below BK117.out hb)) (aJ (aM (blk_below BK126.out hb)) (aJ (aM (blk_below BK140.out hb)) (aJ (aM (blk_below BK149.out hb)) (aM (below_step (pH HB) hb)))))))))))))))))
                      clear HO_125 HO_109001 HO_109002 HO_118001 HO_118002 HO_127001 HO_127002 HO_141001 HO_141002 HO_150001 HO_150002 BK108 BK117 BK126 BK140 BK149 HB
                      obtain ⟨HO_125, HO_109001, HO_109002, HO_118001, HO_118002, HO_127001, HO_127002, HO_141001, HO_141002, HO_150001, HO_150002, BK108, BK117, BK126, BK140, BK149, HB⟩ := n_
                      (try clear hb)
                      (try clear hb2)
                      (try clear hk)
                      (try clear hi)
                      refine hK.out _ _ ⟨(blk_cell BK149.out 0).trans rfl, (blk_cell BK149.out 1).trans rfl, (blk_cell BK149.out 2).trans rfl, HS3_⟩ (fun hHeld => ?_)
                      clear hK K
                      refine norm_ (a' := ?_) ?_ ?_
                      rotate_left
                      ·show Act.put _ (some 155) _ = _
                       simp only [sP, i64_w, i32_w]
                       rfl
                      refine pS (i := 7) (N := some 148) (bs 8 4) (aO HT_) ?_
                      refine pS (i := 8) (N := some 156) (bs 9 3) (aO HT_) ?_
                      refine pS (i := 9) (N := some 157) (bs 10 2) (aO HT_) ?_
                      refine pS (i := 10) (N := some 20) (bs 11 1) (aO HT_) ?_
                      refine pS (i := 11) (N := some 21) (bs 12 0) (aO HT_) ?_
                      refine done_ (done_of HT_.out (by kernel_rfl)) ?_
                      try go_wp2
                      go_ret
                      exact ⟨eW, pH HB⟩
                  ·rw [if_neg c149] at H
                   exact absurd H (by simp)
                 ·rw [if_neg c147] at H
                  exact absurd H (by simp)
                ·rw [if_neg c145] at H
                 exact absurd H (by simp)
               ·rw [if_neg c144] at H
                exact absurd H (by simp)
              ·rw [if_neg c143] at H
               have c143b0 : decide (x127_3 < (t105.length : Int)) = false := decide_eq_false c143
               clear c143
               obtain rfl := Option.some.inj H
               go_wp2
               go_ret
               exact ⟨eW, pH HB⟩
      ·replace c40 := Bool.eq_false_iff.mpr c40
       subst c40
       rw [if_neg (show ¬ (false = true) by decide)] at H
       obtain rfl := Option.some.inj H
       have hnb205 := NB117_108.out
       have hnc205 := NB108_117.out
       have hnb206 := NB117_126.out
       have hnc206 := NB126_117.out
       obtain ⟨hcz207_0, hcz207_1, hcz207_2, hfz207_0, hfz207_1, hfz207_2⟩ := cA3 BK117
       go_wp2
       go_ret
       exact ⟨eW, pH HB⟩

def laws_FnReached.Pure : Prop := ∀ (l0 : List Int), l0.length * 1 ≤ 140737488351232 → (l0.length ≤ 9223372036854775807 ∧ ∀ x_ ∈ l0, (Lit.int .u8 x_).wf = true) → ∃ k, laws_FnReached.f k l0 = some true

end Go.Proofs.YtcbgjcnekdoloaaDoor.G

namespace Go.Proofs.YtcbgjcnekdoloaaDoor.Open
open Go.RowKit Go.Proofs.YtcbgjcnekdoloaaDoorW.PrintWords
open Go.WideShapes
set_option linter.unusedVariables false

def Opens {α : Type} (H : Type) (enc : TypeId × Value → H) (P : Program) (t : TypeId) (d : Kd α) (good : α → Prop) : Prop :=
  ∀ (w : World) (base : Nat) (spare : Nat → Bool) (held : Bool) (fuel : Nat) (cs : List Value) (x : DataW H × List MemPlace),
    DataW.trod enc P w base spare held fuel t cs = some x → ∃ v, d.K w v cs ∧ good v

section
variable {H : Type} {enc : TypeId × Value → H} {P : Program}

theorem opens_int {t : TypeId} {k : IntKind} (ht : P.underlying t = some (.int k)) : Opens H enc P t (Kd.int k) (fun n => (Lit.int k n).wf = true) := by
  intro w base spare held fuel cs x h
  obtain ⟨n, rfl, _, hw⟩ := DataW.trod_int ht h
  exact ⟨n, rfl, hw⟩

theorem choose_list {α : Type} (p : Nat → α → Prop) : ∀ n : Nat, (∀ i, i < n → ∃ a, p i a) → ∃ l : List α, l.length = n ∧ ∀ i a, l[i]? = some a → p i a
  | 0, _ => ⟨[], rfl, fun i a h => by simp at h⟩
  | n + 1, h => by
    obtain ⟨l, hl, hp⟩ := choose_list p n (fun i hi => h i (by omega))
    obtain ⟨a, ha⟩ := h n (by omega)
    refine ⟨l ++ [a], by simp [hl], fun i b hb => ?_⟩
    by_cases hi : i < n
    · exact hp i b (by rwa [List.getElem?_append_left (by omega)] at hb)
    · rw [List.getElem?_append_right (by omega)] at hb
      have : i - l.length = 0 := by
        by_cases h0 : i - l.length = 0
        · exact h0
        · rw [List.getElem?_eq_none (by simp; omega)] at hb; simp at hb
      rw [this] at hb
      obtain rfl : a = b := by simpa using hb
      obtain rfl : i = n := by omega
      exact ha

theorem opens_slice {α : Type} {t e : TypeId} {d : Kd α} {good : α → Prop} (ht : P.underlying t = some (.slice e)) (he : Opens H enc P e d good) (hc : P.cellsOf e = d.sz) :
    Opens H enc P t (Kd.slice e d) (fun l => l.length ≤ 9223372036854775807 ∧ ∀ x ∈ l, good x) := by
  intro w base spare held fuel cs x h
  rcases DataW.trod_slice ht h with ⟨rfl, _⟩ | ⟨a, len, cap, elems, rest, n, _, rfl, _, hb, hl, hm, hel, hg, _, _⟩
  · exact ⟨[], ⟨none, 0, rfl, Nat.le_refl _, ⟨rfl, by simp, fun h => by simp at h⟩⟩, by simp, by simp⟩
  · have hm' : cap ≤ 9223372036854775807 := hm
    have key : ∀ i, i < len → ∃ v : α, good v ∧ ∃ c : List Value, c.length = d.sz ∧ d.K w v c ∧ ∀ j u, c[j]? = some u → w.cell? (a.add (i * d.sz + j)) = some u := by
      intro i hi
      have hgi := hg i hi
      have hsome : ∃ y, elems[i]? = some y := ⟨elems[i]'(by omega), List.getElem?_eq_getElem (by omega)⟩
      obtain ⟨y, hy⟩ := hsome
      rw [hy] at hgi
      obtain ⟨c, hc1, hc2⟩ := Option.bind_eq_some_iff.mp hgi
      obtain ⟨v, hK, hgood⟩ := he w base spare held n c y hc2
      obtain ⟨_, hlen, hcell⟩ := World.cells?_some hc1
      refine ⟨v, hgood, c, d.K_len hK, hK, fun j u hu => ?_⟩
      have hj : j < c.length := by
        by_cases hj : j < c.length
        · exact hj
        · rw [List.getElem?_eq_none (by omega)] at hu; simp at hu
      have := hcell j (by omega)
      rw [Addr.add_add, hc, hu] at this
      exact this
    obtain ⟨l, hl0, hl1⟩ := choose_list (fun i v => good v ∧ ∃ c : List Value, c.length = d.sz ∧ d.K w v c ∧ ∀ j u, c[j]? = some u → w.cell? (a.add (i * d.sz + j)) = some u) len key
    refine ⟨l, ⟨some a, cap, by rw [hl0], by omega, ⟨rfl, by omega, fun _ => ⟨a, rfl, fun j p hp => (hl1 j p hp).2⟩⟩⟩, by omega, fun v hv => ?_⟩
    obtain ⟨i, hi⟩ := List.mem_iff_getElem?.mp hv
    exact (hl1 i v hi).1

theorem slice_in {α : Type} {t e : TypeId} {d : Kd α} {good : List α → Prop} (ht : P.underlying t = some (.slice e)) (hs : Opens H enc P t (Kd.slice e d) good) {W : World} {r : Reach} {b base : Nat} {spare : Nat → Bool} {held : Bool} {v : Value} {dd : DataW H} {p : List MemPlace}
    (hv : Value.okWide P W r b t v) (h : DataW.Trod enc P W base spare held t v dd p) : ∃ (A : Option Addr) (l : List α) (c : Nat), v = .slice A l.length c ∧ l.length ≤ c ∧ d.C W A l.length l ∧ good l := by
  obtain ⟨a, len, cap, rfl⟩ := okWide_slice ht hv
  obtain ⟨fuel, hf⟩ := h
  obtain ⟨l, ⟨A, c, hcs, hlc, hC⟩, hg⟩ := hs W base spare held fuel _ _ hf
  simp [Value.cells] at hcs
  obtain ⟨rfl, rfl, rfl⟩ := hcs
  exact ⟨a, l, cap, rfl, hlc, hC, hg⟩

end
end Go.Proofs.YtcbgjcnekdoloaaDoor.Open

namespace Go.Proofs.YtcbgjcnekdoloaaDoor.LawL
open Go.RowKit Go.Proofs.YtcbgjcnekdoloaaDoor.G Go.Proofs.YtcbgjcnekdoloaaDoor.EvL Go.Proofs.YtcbgjcnekdoloaaDoor.TxtL Go.Proofs.YtcbgjcnekdoloaaDoor.ShowL Go.Proofs.YtcbgjcnekdoloaaDoor.HeapL Go.Proofs.YtcbgjcnekdoloaaDoorW.PrintWords Go.Proofs.YtcbgjcnekdoloaaDoorW.PrintLast
set_option linter.unusedVariables false

theorem same (a : List Int) (ha : a.length ≤ 9223372036854775807) : Ev (fun k => laws_sameInts.f k a a) true := by
  unfold laws_sameInts.f
  refine Ev.ite_pos rfl ?_
  refine Ev.of_eq (ev_all (fun k i => laws_sameInts.l0 k a a a.length i) a.length (fun _ => true) ?_ ?_ a.length 0 (by omega)) (by simp)
  · intro k i hi
    simp only [laws_sameInts.l0]
    rw [if_pos (by omega), if_pos (by omega), if_pos (by omega), if_pos (by omega), if_pos trivial, w64 (by omega) (by omega)]
    rfl
  · intro k
    simp only [laws_sameInts.l0]
    rw [if_neg (by omega)]
theorem shows {old : Int} {c : List S61} {r : List Int} {S S2 : Nat → Prop} {m m2 : List Bool} (hg : goodH old c r = true) (hC : Cells c) (hm : Least c S m) (hm2 : Least c S2 m2)
    (hrm : ∀ x ∈ r, getB m x.toNat = true) (hrm2 : ∀ x ∈ r, getB m2 x.toNat = true) (hx : goodH (told c m r).1 (told c m r).2.1 (told c m r).2.2 = true) (hz : goodH (told c m2 r).1 (told c m2 r).2.1 (told c m2 r).2.2 = true)
    (hK : Cells (kcells c m)) (hK2 : Cells (kcells c m2)) : ∀ (d i : Nat), i + d = r.length →
    Ev (fun k => laws_FnReached.l0 k r r.length i old c r (told c m r).1 (told c m r).2.1 (told c m r).2.2 (told c m2 r).1 (told c m2 r).2.1 (told c m2 r).2.2) true
  | 0, i, hi => by
    refine Ev.succ ?_
    simp only [laws_FnReached.l0]
    exact Ev.ite_neg (by omega) (Ev.now _)
  | d + 1, i, hi => by
    obtain ⟨hn, hr, ho, hc, hro⟩ := good_parts hg
    have ih := shows hg hC hm hm2 hrm hrm2 hx hz hK hK2 d (i + 1) (by omega)
    have hmem : r[i]'(by omega) ∈ r := List.getElem_mem _
    have hri := of_decide_eq_true (List.all_eq_true.mp hro _ hmem)
    have h1 := hrm _ hmem
    have h2 := hrm2 _ hmem
    generalize hv : (r[i]'(by omega)) = v at hri h1 h2
    obtain ⟨j, rfl⟩ : ∃ j : Nat, v = (j : Int) := ⟨v.toNat, by omega⟩
    rw [Int.toNat_natCast] at h1 h2
    have rd0 : rd r (i : Int) = (j : Int) := by
      unfold rd; rw [Int.toNat_natCast, List.getD_eq_getElem?_getD, List.getElem?_eq_getElem (by omega)]; exact hv
    have rdn : ∀ mm : List Bool, rd (newRoots mm r) (i : Int) = (rank mm j : Int) := fun mm => by
      unfold rd newRoots
      rw [Int.toNat_natCast, List.getD_eq_getElem?_getD, List.getElem?_map, List.getElem?_eq_getElem (by omega), hv]; rfl
    have ln : ∀ mm : List Bool, (newRoots mm r).length = r.length := fun mm => by unfold newRoots; rw [List.length_map]
    have s0 := showI (r := r) hg hC (i := j) (by omega)
    have s1 := showI hx hK (i := rank m j) (kcells_lt hm.len h1)
    have s2 := showI hz hK2 (i := rank m2 j) (kcells_lt hm2.len h2)
    have e1 : shown (told c m r).2.1 (rank m j) = shown c j := by
      have := text_kept hm hC hK (j + 1) j (by omega) h1
      show shown (kcells c m) (rank m j) = _
      unfold shown; rw [this]
    have e2 : shown (told c m2 r).2.1 (rank m2 j) = shown c j := by
      have := text_kept hm2 hC hK2 (j + 1) j (by omega) h2
      show shown (kcells c m2) (rank m2 j) = _
      unfold shown; rw [this]
    rw [e1] at s1
    rw [e2] at s2
    have w1 : wrap64 ((i : Int) + 1) = ((i + 1 : Nat) : Int) := by rw [w64 (by omega) (by omega)]; omega
    refine Ev.succ ?_
    simp only [laws_FnReached.l0, rd0, w1]
    refine Ev.ite_pos (by omega) (Ev.ite_pos (by omega) (Ev.ite_pos (by omega) (Ev.bind s0 (Ev.ite_pos (by show (i : Int) < ((newRoots m r).length : Int); rw [ln]; omega) ?_))))
    have r1 : rd (told c m r).2.2 (i : Int) = (rank m j : Int) := rdn m
    have r2 : rd (told c m2 r).2.2 (i : Int) = (rank m2 j : Int) := rdn m2
    rw [r1, r2]
    refine Ev.bind s1 (Ev.ite_pos (by show (i : Int) < ((newRoots m2 r).length : Int); rw [ln]; omega) (Ev.bind s2 ?_))
    exact Ev.ite_neg (by simp) (Ev.ite_neg (by simp) (Ev.ite_pos rfl (Ev.ite_pos rfl ih)))
theorem law_of {l0 : List Int} (hlen : ¬ (l0.length : Int) > 1048576) {old : Int} {c : List S61} {r : List Int} (hd : Ev (fun k => spec_DrawCollectHeap.f k l0) (old, c, r)) (hnum : ∀ x ∈ c, -9223372036854775808 ≤ x.f1 ∧ x.f1 ≤ 9223372036854775807) : Ev (fun k => laws_FnReached.f k l0) true := by
  unfold laws_FnReached.f
  refine Ev.ite_neg hlen (Ev.bind hd ?_)
  have hs := specGood old c r
  have hi := implGood old c r
  by_cases hg : goodH old c r = true
  case neg =>
    rw [Bool.eq_false_iff.mpr hg] at hs hi
    have a : Ev (fun k => impl_CollectHeap.f k old c r) (0, [], [], false) := Ev.bind hi (Ev.ite_neg (by simp) (Ev.now _))
    have b : Ev (fun k => spec_CollectHeap.f k old c r) (0, [], [], false) := Ev.bind hs (Ev.ite_neg (by simp) (Ev.now _))
    refine Ev.bind a (Ev.bind b (Ev.ite_neg (by simp) (Ev.ite_pos rfl (Ev.bind (same [] (by simp)) (Ev.succ ?_)))))
    simp only [laws_FnReached.j0]
    exact Ev.ite_neg (by simp) (Ev.ite_neg (by simp) (Ev.now _))
  rw [hg] at hs hi
  obtain ⟨hn, hr, ho, hc, hro⟩ := good_parts hg
  have hro' : ∀ x ∈ r, 0 ≤ x ∧ x < (c.length : Int) := fun x hx => of_decide_eq_true (List.all_eq_true.mp hro x hx)
  obtain ⟨m, hm, hsp, him⟩ := collectBoth old c r hg
  obtain ⟨m2, hm2, _, him2⟩ := minorBoth old c r hg
  obtain ⟨m3, hm3, hev3⟩ := implReached c r hc hn (by omega) hro
  obtain rfl : m3 = m := Least.eq hm3 hm
  have hnat : ∀ x ∈ r, ((x.toNat : Nat) : Int) = x := fun x hx => by have := hro' x hx; omega
  have hrm : ∀ x ∈ r, getB m3 x.toNat = true := fun x hx => hm.base x.toNat (by have := hro' x hx; omega) (by rw [hnat x hx]; exact hx)
  have hrm2 : ∀ x ∈ r, getB m2 x.toNat = true := fun x hx => hm2.base x.toNat (by have := hro' x hx; omega) (.inr (by rw [hnat x hx]; exact hx))
  have hx := told_good hg hm hrm
  have hz := told_good hg hm2 hrm2
  have hC := cells_of hg hnum
  have hK : Cells (kcells c m3) := cells_of hx (kcells_num hm hnum)
  have hK2 : Cells (kcells c m2) := cells_of hz (kcells_num hm2 hnum)
  obtain ⟨m4, hm4, _, him4⟩ := collectBoth _ _ _ hx
  have gx := implGood (told c m3 r).1 (told c m3 r).2.1 (told c m3 r).2.2
  have gz := implGood (told c m2 r).1 (told c m2 r).2.1 (told c m2 r).2.2
  rw [hx] at gx
  rw [hz] at gz
  have a : Ev (fun k => impl_CollectHeap.f k old c r) ((told c m3 r).1, (told c m3 r).2.1, (told c m3 r).2.2, true) := Ev.bind hi (Ev.ite_pos rfl (Ev.bind him (Ev.now _)))
  have b : Ev (fun k => spec_CollectHeap.f k old c r) ((told c m3 r).1, (told c m3 r).2.1, (told c m3 r).2.2, true) := Ev.bind hs (Ev.ite_pos rfl (Ev.bind hsp (Ev.now _)))
  have e : Ev (fun k => impl_ReachIn.f k old c r) (idxFrom m3 0 m3.length, true) := Ev.bind hi (Ev.ite_pos rfl (Ev.bind hev3 (Ev.bind (implMarked m3 (by rw [hm.len]; exact hn)) (Ev.now _))))
  have y : Ev (fun k => impl_CollectHeap.f k (told c m3 r).1 (told c m3 r).2.1 (told c m3 r).2.2) ((told (told c m3 r).2.1 m4 (told c m3 r).2.2).1, (told (told c m3 r).2.1 m4 (told c m3 r).2.2).2.1, (told (told c m3 r).2.1 m4 (told c m3 r).2.2).2.2, true) := Ev.bind gx (Ev.ite_pos rfl (Ev.bind him4 (Ev.now _)))
  have z : Ev (fun k => impl_MinorCollect.f k old c r) ((told c m2 r).1, (told c m2 r).2.1, (told c m2 r).2.2, true) := Ev.bind hi (Ev.ite_pos rfl (Ev.bind him2 (Ev.now _)))
  have l1 : (idxFrom m3 0 m3.length).length = (kcells c m3).length := by
    have := pick_len (fun j => (j : Int)) m3 m3.length 0 (by omega)
    have h0 : rank m3 0 = 0 := rfl
    rw [kcells_len hm.len, ← hm.len, ← Nat.zero_add m3.length, ← this, h0]
    simp only [Nat.zero_add]; rfl
  have l2 : (kcells (kcells c m3) m4).length = (kcells c m3).length := by
    have hm4' : Least (kcells c m3) (fun j => (j : Int) ∈ newRoots m3 r) m4 := hm4
    rw [kcells_len hm4'.len]
    exact again hc hro' hm hm4'
  have l3 : (kcells c m3).length ≤ (kcells c m2).length := by
    rw [kcells_len hm.len, kcells_len hm2.len]
    exact rank_sub hm hm2 (fun j _ hj => .inr hj)
  have lr : (told c m3 r).2.2.length ≤ 60 := by show (newRoots m3 r).length ≤ 60; unfold newRoots; rw [List.length_map]; exact hr
  refine Ev.bind a (Ev.bind b (Ev.ite_neg (by simp) (Ev.ite_pos rfl (Ev.bind (same (told c m3 r).2.2 (Nat.le_trans lr (by decide))) (Ev.succ ?_)))))
  simp only [laws_FnReached.j0]
  refine Ev.ite_neg (by simp) (Ev.ite_pos trivial (Ev.bind e (Ev.bind y (Ev.bind z (Ev.ite_pos rfl (Ev.ite_pos rfl (Ev.ite_pos rfl ?_)))))))
  refine Ev.ite_pos (by show ((idxFrom m3 0 m3.length).length : Int) = ((kcells c m3).length : Int); rw [l1]) (Ev.ite_pos (by show ((kcells (kcells c m3) m4).length : Int) = ((kcells c m3).length : Int); rw [l2]) (Ev.ite_neg (by show ¬ ((kcells c m2).length : Int) < ((kcells c m3).length : Int); omega) (Ev.bind gx (Ev.ite_pos rfl (Ev.bind gz (Ev.succ ?_))))))
  simp only [laws_FnReached.j1]
  exact Ev.ite_neg (by simp) (shows hg hC hm hm2 hrm hrm2 hx hz hK hK2 r.length 0 (by omega))
end Go.Proofs.YtcbgjcnekdoloaaDoor.LawL
namespace Go.Proofs.YtcbgjcnekdoloaaDoor.Pure
open Go.RowKit Go.Proofs.YtcbgjcnekdoloaaDoor.G Go.Proofs.YtcbgjcnekdoloaaDoor.EvL Go.Proofs.YtcbgjcnekdoloaaDoor.LawL Go.Proofs.YtcbgjcnekdoloaaDoorW.PrintWords Go.Proofs.YtcbgjcnekdoloaaDoorW.PrintLast
theorem FnReached : laws_FnReached.Pure := by
  intro l0 _ hl
  refine Ev.rounds ?_
  by_cases h : (l0.length : Int) > 1048576
  · unfold laws_FnReached.f
    exact Ev.ite_pos h (Ev.now _)
  have hb : DrawL.Bytes l0 := ⟨by omega, fun x hx => DrawL.wf8 (hl.2 x hx)⟩
  obtain ⟨old, cs, rs, a', s', hd, hn⟩ := DrawL.heap_ev hb 0 0 (by omega) (by omega)
  have hdraw : Ev (fun k => spec_DrawCollectHeap.f k l0) (old, cs, rs) := by
    unfold spec_DrawCollectHeap.f
    exact Ev.bind hd (Ev.now _)
  exact law_of h hdraw hn
end Go.Proofs.YtcbgjcnekdoloaaDoor.Pure

namespace Go.Proofs.YtcbgjcnekdoloaaDoor.fnReached
open Go.ChangeShapes Go.WideShapes Go.ChangeAt Go.RowKit Go.Proofs.YtcbgjcnekdoloaaDoor.Open Go.Proofs.YtcbgjcnekdoloaaDoor.G Go.Proofs.YtcbgjcnekdoloaaDoorW.PrintWords
open Go.ChangeMaps (open_string shut_string)
set_option linter.unusedVariables false
theorem own : ownKnob Tryd.prog.godebug = none := by kernel_rfl
theorem laidOut : laidOutB Tryd.prog = true := by kernel_rfl
theorem laidShaped {H : Type} {enc : TypeId × Value → H} {a : Assume} {C : Checked} {os : Os} {f : FuncId} {fn : Func} {s : ChangeSpec} {conds : List PathCond} {apart fresh handsOn again : Bool} {X : World → Array Value → Prop}
    (hX : ∀ (w w' : World) (args : Array Value), w.heap = w'.heap → X w args → X w' args)
    (own : ownKnob C.prog.godebug = none) (started : os.Started) (noInit : C.prog.inits.idxOf? f = none) (hfn : C.prog.funcs[f]? = some fn)
    (witness : ∃ (w : World) (tape : Tape) (i : Input), w.os = os ∧ (w.forCall tape i).Shaped C.prog ∧ i.vars = [] ∧ Input.okWide C.prog (w.forCall tape i) .any w.heap.size f i ∧
      ((s.pre enc C.prog fn conds apart (w.forCall tape i).memory i.args ∧ X (w.forCall tape i).memory i.args) ∧ sizedMet enc C.prog fn (OpenSpec.ofChange s) apart (w.forCall tape i).memory i.args) ∧ a.holds C.prog (lone (Frame.enter C.prog f i.args .normal) [] (w.forCall tape i)))
    (contract : ∀ (W : World) (base : Nat) (args : Array Value) (ds gs : List (DataW H)) (before : List MemPlace),
      (∀ (j : Nat) t v, fn.params[j]? = some t → args[j]? = some v → Value.okWide C.prog W .any base t v) →
      DataW.Whole enc C.prog fn.params.toList s.vars apart W args.toList ds gs before →
      conds.all (PathCond.test C.prog ⟨fn.params.toList, ds, s.plain.varTypes C.prog, gs⟩) = true →
      (DataW.weightsEach C.prog (fn.params.toList ++ s.plain.varTypes C.prog) (ds ++ gs)).all (· ≤ reachBytes) = true → X W args → W.ShapedOpen C.prog →
      Calls C.prog f args W fun e W' => ∃ v, e = .returned v ∧ s.post enc C.prog fn apart fresh handsOn again W args v W') :
    ReturnsInHanded a C os f .any (fun w args => (s.pre enc C.prog fn conds apart w args ∧ X w args) ∧ sizedMet enc C.prog fn (OpenSpec.ofChange s) apart w args) (s.post enc C.prog fn apart fresh handsOn again) := by
  refine returnsInHanded_of_calls own started noInit witness ?_
  intro w tape i _ hsh _ hok hpre _
  obtain ⟨_, _, _, fn', hfn', _, _, _, _, hval⟩ := hok
  obtain rfl : fn' = fn := Option.some.inj (hfn'.symm.trans hfn)
  obtain ⟨⟨⟨ds, gs, before, hw, hc⟩, hx⟩, hz⟩ := hpre
  refine (contract _ w.heap.size i.args ds gs before hval (DataW.Whole.of_heap (w' := w.forCall tape i) (by rfl) hw) hc (hz.weights hw) (hX _ _ _ (by rfl) hx) hsh).mono fun e W' h => ?_
  obtain ⟨v, rfl, hp⟩ := h
  exact ChangeSpec.post_blind hp
theorem tab_of {W : World} {rest : List (String × DataW Unit)} (h : laidMet Tryd.prog (("internal/strconv.uint64pow10", Rows.laid_internal_strconv_uint64pow10) :: rest) W) : Tab W :=
  Lib.tabIs_of_head (k := .u64) (zs := Lib.pow10Tab) (g := 2) (t := 118) (e := 74) (n := 20) (by kernel_rfl) (by kernel_rfl) (by kernel_rfl) (by kernel_rfl) (by kernel_rfl) (by kernel_rfl) h
theorem star : "*" ++ "errors.errorString" = "*errors.errorString" := by decide
theorem row_err (u : TypeId) (h : Tryd.prog.typeName? 3 u = some "*errors.errorString") : u = 125 :=
  typeName_ptr_named (nm := "errors.errorString") (by rw [star]; kernel_rfl) (by kernel_rfl) (by decide) u (by rw [star]; exact h)
theorem synOf {W : World} {rest : List (String × DataW Unit)} (h : laidMet Tryd.prog (("strconv.ErrSyntax", Rows.laid_strconv_ErrSyntax) :: rest) W) : ∃ tp p, W.var? Tryd.prog "strconv.ErrSyntax" = some #[.iface tp p] := by
  obtain ⟨a, s, hv, _⟩ := laid_sentinel h (g := 0) (ti := 68) (tp := 125) (te := 127) (ts := 9) (by kernel_rfl) (by kernel_rfl) Tryd.underlying68 row_err Tryd.underlying125 Tryd.underlying127 rfl rfl Tryd.underlying9 (by kernel_rfl) (by kernel_rfl)
  exact ⟨_, _, hv⟩
theorem rngOf {W : World} {rest : List (String × DataW Unit)} (h : laidMet Tryd.prog (("strconv.ErrRange", Rows.laid_strconv_ErrRange) :: rest) W) : ∃ tp p, W.var? Tryd.prog "strconv.ErrRange" = some #[.iface tp p] := by
  obtain ⟨a, s, hv, _⟩ := laid_sentinel h (g := 1) (ti := 68) (tp := 125) (te := 127) (ts := 9) (by kernel_rfl) (by kernel_rfl) Tryd.underlying68 row_err Tryd.underlying125 Tryd.underlying127 rfl rfl Tryd.underlying9 (by kernel_rfl) (by kernel_rfl)
  exact ⟨_, _, hv⟩
set_option maxRecDepth 100000 in
theorem lifted (os : Os) (started : os.Started) (H : Type) (enc : TypeId × Value → H) :
    ReturnsInHanded {} Tryd.checked os 4 .any (fun w args => (Rows.fnReachedSpec.pre enc Tryd.prog Tryd.f4 Rows.fnReachedRow.domain false w args ∧ laidMetH Tryd.prog Rows.fnReachedRow.laid w) ∧ sizedMet enc Tryd.prog Tryd.f4 (OpenSpec.ofChange Rows.fnReachedSpec) false w args) (Rows.fnReachedSpec.post enc Tryd.prog Tryd.f4 false true false false) := by
  refine laidShaped (C := Tryd.checked) (X := fun w _ => laidMetH Tryd.prog Rows.fnReachedRow.laid w) (fun _ _ _ hh h => h.of_heap hh) own started (by kernel_rfl) Tryd.func4
    (ChangeSpec.witness_shaped (enc := enc) (C := Tryd.checked) (os := os) (X := fun w _ => laidMetH Tryd.prog Rows.fnReachedRow.laid w) false (World.laidAll Tryd.prog os Rows.fnReachedRow.laid) #[.slice none 0 0] 8 (World.laidAll_os _ _ _)
      (World.shaped_of_ZipB (by kernel_rfl) (by kernel_rfl)) (by kernel_rfl) (by kernel_rfl) (by kernel_rfl)
      (by rw [MakeChecks.laidMetH_plain _ _ _ (by kernel_rfl)]; exact laidMet_laidAll _ (by kernel_rfl) (by kernel_rfl))) ?_
  intro W base args ds gs before hval0 hW hcnd hsz0 hX1 hsh
  have hsz : (DataW.weightsEach Tryd.prog (Tryd.f4.params.toList ++ Rows.fnReachedSpec.plain.varTypes Tryd.prog) (ds ++ gs)).all (· ≤ reachBytes) = true := hsz0
  have hval : ∀ (j : Nat) t v, Tryd.f4.params[j]? = some t → args[j]? = some v → Value.okWide Tryd.prog W .any base t v := hval0
  have hW' := hW
  obtain ⟨p, q, hA0, hV, rfl, hfz, hnd⟩ := hW
  have hA : DataW.TrodAll enc Tryd.prog W 0 (fun _ => true) true Tryd.f4.params.toList args.toList ds p := hA0
  rw [Tryd.params4] at hA hval hsz
  obtain ⟨v0, vs0, d0, ds0, p0, q0, hargs, rfl, rfl, h0, r0⟩ := trodAll_cons hA
  obtain ⟨rfl, rfl, rfl⟩ := trodAll_nil r0
  obtain rfl : args = #[v0] := by cases args; simp_all
  obtain ⟨rfl, rfl⟩ := trodVars_none hV
  have k0 := h0
  have lt0 : ∀ x ∈ p0, x.block < W.heap.size := by obtain ⟨m, hm⟩ := k0; exact DataW.trod_lt m _ _ _ hm
  have y0 := fun a len cap (e : v0 = .slice a len cap) => Go.Proofs.YtcbgjcnekdoloaaDoorW.PrintWords.sized_ints (B := 1) hsz (j := 0) (t := 35) rfl rfl Tryd.underlying35 Tryd.underlying5 (by kernel_rfl) (by kernel_rfl) (e ▸ h0)
  obtain ⟨A0, l0, c0, rfl, hc0, hr0, hg0⟩ := slice_in Tryd.underlying35 (opens_slice Tryd.underlying35 (opens_int Tryd.underlying5) (by kernel_rfl)) (hval 0 35 v0 rfl rfl) h0
  clear hA0 hval0 hsz0 hsz
  obtain ⟨k_, hk_⟩ := Pure.FnReached l0 (y0 _ _ _ rfl) hg0
  have hL : laidMet Tryd.prog Rows.fnReachedRow.laid W := by
    rw [← MakeChecks.laidMetH_plain _ _ _ (by kernel_rfl)]; exact hX1
  have hE : G.Met W := ⟨(tab_of (laidMet.tail (laidMet.tail hL))), ⟨(synOf (laidMet.tail (laidMet.tail (laidMet.tail (laidMet.tail hL))))), (rngOf (laidMet.tail (laidMet.tail (laidMet.tail hL))))⟩⟩
  refine (laws_FnReached.calls k_ A0 c0 l0 true W hr0 hc0 hk_ hE).mono fun e W' ⟨he, bel0⟩ => ?_
  have bel : Below W.heap.size W W' := bel0
  subst he
  exact ⟨_, rfl, _, _, _, [], _, [], hW', trodAll_mk1 (shut_bool Tryd.underlying4 _), (trodAll_cons_mk (Below.trod laidOut (by kernel_rfl) (of_decide_eq_true (by kernel_rfl)) k0 bel lt0) trodAll_mk0), rfl, bel.frame _, fun h => by cases h⟩
theorem over : Rows.FnReachedSaid :=
  OpenClaim.holds_of_wide 4 Tryd.f4 rfl rfl rfl rfl rfl rfl rfl ⟨rfl, rfl, rfl, rfl, rfl⟩ rfl rfl rfl rfl rfl (by kernel_rfl) Tryd.func4 (by kernel_rfl)
    (of_decide_eq_true (by kernel_rfl)) (by unfold Func.isWrapper; first | (rw [if_pos (by decide +kernel)]; kernel_rfl) | (rw [if_neg (by decide +kernel)]; exact ⟨rfl, rfl⟩))
    (fun os started H enc _ => lifted os started H enc)
theorem proved : Rows.FnReachedCardSaid :=
  Claim7.holds_tied_plain_at .later [] [.data, .data, .data, .sentinel, .sentinel] true (true, "3333216e7fb27bcc4f673d684bdc2840305900deaaf1dc7545aed9852e35d396") true
    over (fun _ h => by cases h) (by kernel_rfl) (fun _ h => by cases h) fnReached_row_tie rfl ⟨rfl, rfl⟩ (by kernel_rfl) rfl
    (fun f fn hf hfn => by
      obtain rfl : f = 4 := Option.some.inj ((show Tryd.prog.funcNamed "loop.example/g00201/laws.FnReached" = some 4 by kernel_rfl).symm.trans hf) |>.symm
      obtain rfl : fn = Tryd.f4 := (Option.some.inj (Tryd.func4.symm.trans hfn)).symm
      exact ⟨by kernel_rfl, fun j t ht => by
        rw [Tryd.params4] at ht
        have hm : t ∈ [35] := by simpa using Array.mem_of_getElem? ht
        have hall : ([35].all fun u => !Tryd.prog.wantsStandIn u) = true := by kernel_rfl
        exact (show Tryd.prog.wantsStandIn t = false by simpa using List.all_eq_true.1 hall t hm)⟩)
    (by kernel_rfl)
#print axioms proved
end Go.Proofs.YtcbgjcnekdoloaaDoor.fnReached
namespace Go.Proofs.YtcbgjcnekdoloaaDoor
theorem fnReached_holds : Rows.FnReachedCardSaid := fnReached.proved
end Go.Proofs.YtcbgjcnekdoloaaDoor
