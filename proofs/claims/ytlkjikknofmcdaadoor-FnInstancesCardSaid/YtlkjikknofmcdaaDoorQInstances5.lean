/- Part 5 of 5 of the proof that the law FnInstancesCardSaid holds: for every input that can be read the call returns true and leaves its arguments as they were; no condition but those each theorem names. -/
import Derived.Laws.Bits64b
import Derived.ChangeArms
import Derived.WideShapes
import Derived.DataElems
import Derived.DataReads
import Derived.Test.YtlkjikknofmcdaaDoorRows
import Derived.Test.YtlkjikknofmcdaaDoorCards
import Derived.Test.YtlkjikknofmcdaaDoorTie
import Derived.WalkKit
import Derived.ProofKit
import Derived.OpenShut
import Derived.ShutString
import Derived.ChangeOld
import Derived.Below
import Derived.SizedLaws
import Derived.LaidMore
import Derived.Lib.LaidTab
import Derived.Stop.LaidErr
import Derived.MakeChecks
import Derived.HandedShaped
import Derived.LaidLaws
import Derived.Lay
import Derived.SevenTiedAt
import Derived.Stop.Joined
import Derived.Test.YtlkjikknofmcdaaDoorQInstancesW1
import Derived.Test.YtlkjikknofmcdaaDoorQInstances1
import Derived.Test.YtlkjikknofmcdaaDoorQInstances2
import Derived.Test.YtlkjikknofmcdaaDoorQInstances3
import Derived.Test.YtlkjikknofmcdaaDoorQInstances4
namespace Go.Proofs.YtlkjikknofmcdaaDoor.G
open Go.RowKit Go.Proofs.YtlkjikknofmcdaaDoorW.PrintWords Go.Proofs.YtlkjikknofmcdaaDoorW.PrintLast Go.Proofs.YtlkjikknofmcdaaDoorW.PrintMore Go.Proofs.YtlkjikknofmcdaaDoor.Short
attribute [local go_sem] max2_int min2_int max_two min_two max_three min_three max_four min_four   -- for this text's walks alone
set_option linter.unusedVariables false
set_option linter.unusedSimpArgs false

def spec_ApplyType.j0 : Nat → Bool → List Int → List (S56) → Int → List (S56) → Option (ByteArray × Bool)
  | 0, _, _, _, _, _ => none
  | k + 1, x25, x109000, x109001, x115000, x115001 => if x25 = true then (some ((⟨#[]⟩ : ByteArray), false)) else ((spec_leApply.f k x109000 x109001 x115000 x115001).bind fun bt115 => ((spec_leFine.f k bt115.1 bt115.2).bind fun t119 => (if t119 = true then ((spec_leText.f k bt115.1 bt115.2).bind fun t120 => (some (t120, true))) else (some ((⟨#[]⟩ : ByteArray), false)))))
def spec_ApplyType.f (k : Nat) (l0 : List (S47)) (a1 : ByteArray) : Option (ByteArray × Bool) := (spec_leBinds.f k l0).bind fun bt101 => ((spec_leOf.f k a1).bind fun bt109 => (if bt101.2.2 = true then (spec_ApplyType.j0 k (!bt109.2.2) bt101.1 bt101.2.1 bt109.1 bt109.2.1) else (spec_ApplyType.j0 k true bt101.1 bt101.2.1 bt109.1 bt109.2.1)))
set_option maxHeartbeats 8000000 in
set_option maxRecDepth 100000 in
theorem spec_ApplyType.calls (k : Nat) (A0 : Option Addr) (c0 : Nat) (l0 : List (S47)) (a1 : ByteArray) (r1 : ByteArray) (r2 : Bool) (w : World) (hr0 : Kd.C k47 w A0 l0.length l0) (hc0 : l0.length ≤ c0) (h : spec_ApplyType.f k l0 a1 = some (r1, r2)) :
    Calls Tryd.prog 6 #[.slice A0 l0.length c0, .string a1] w fun e w' => e = .returned (.tuple #[.string r1, .bool r2]) ∧ Below w.heap.size w w' := by
  have hu52 := Tryd.underlying52
  have hu56 := Tryd.underlying56
  have HR0 := aM hr0
  have HC0 := aM hc0
  clear hr0 hc0
  have HB := aM (Below.refl w.heap.size w)
  have H : ((spec_leBinds.f k l0).bind fun bt101 => ((spec_leOf.f k a1).bind fun bt109 => (if bt101.2.2 = true then (spec_ApplyType.j0 k (!bt109.2.2) bt101.1 bt101.2.1 bt109.1 bt109.2.1) else (spec_ApplyType.j0 k true bt101.1 bt101.2.1 bt109.1 bt109.2.1)))) = some (r1, r2) := h
  clear h
  replace H := Option.bind_eq_some_iff.mp H
  obtain ⟨⟨t101, t104, t107⟩, A30, H⟩ := H
  replace H : ((spec_leOf.f k a1).bind fun bt109 => (if t107 = true then (spec_ApplyType.j0 k (!bt109.2.2) t101 t104 bt109.1 bt109.2.1) else (spec_ApplyType.j0 k true t101 t104 bt109.1 bt109.2.1))) = some (r1, r2) := H
  have A3 := aM A30
  clear A30
  replace H := Option.bind_eq_some_iff.mp H
  obtain ⟨⟨t109, t110, t113⟩, A40, H⟩ := H
  replace H : (if t107 = true then (spec_ApplyType.j0 k (!t113) t101 t104 t109 t110) else (spec_ApplyType.j0 k true t101 t104 t109 t110)) = some (r1, r2) := H
  have A4 := aM A40
  clear A40
  have HC5 := aM H
  clear H
  go_enter Tryd.func6, Tryd.ntmps6
  go_upto_region 3 with (first | ((with_reducible refine gate_callee (f := 17) rfl ?_); refine goesL_ (some 12) rfl rfl Tryd.func17 (by kernel_rfl) rfl #[.slice A0 l0.length c0] rfl (by (try simp only [List.map_toArray, List.map_cons, List.map_nil]); first | done | rfl | (simp only [List.length_drop, List.length_take]; rfl)) ?_; (with_reducible refine (spec_leBinds.calls k _ _ l0 t101 t104 t107 _ ?side1 ?side2 A3.out).mono ?_); (case side1 => repeat (first | exact HR0.out | (with_reducible refine Kd.C_alloc ?_ _) | (with_reducible refine Kd.C_drewN ?_ _) | (with_reducible refine Kd.C_drew ?_))); (case side2 => exact HC0.out); rintro e w6 ⟨v102, v105, rfl, ho0, ho1, hb⟩; refine ⟨_, rfl, ?_⟩; have n0_ := aM (Kd.R_lower ho0 (below_size (by repeat (first | (with_reducible first | exact HB.out | apply below_alloc | apply pw_below_drewN | apply below_drew1) | exact HB.out)))); have n1_ := aM (Kd.R_lower ho1 (below_size (by repeat (first | (with_reducible first | exact HB.out | apply below_alloc | apply pw_below_drewN | apply below_drew1) | exact HB.out)))); have n2_ := aM (below_step (by repeat (first | (with_reducible first | exact HB.out | apply below_alloc | apply pw_below_drewN | apply below_drew1) | exact HB.out)) hb); clear HB; have HO103 := n0_; have HO106 := n1_; have HB := n2_; clear n0_ n1_ n2_; (try clear hb); (try clear hb2); (try clear hk); (try clear hi); (try clear ho0); (try clear ho1)) | ((with_reducible refine gate_dst (N := 6) rfl ?_); refine box_event ?hg (N := 6) ?hd (cs := #[.slice none 0 0, .slice none 0 0]) (t := 52) ?hr ?_; (case hd => rfl); (case hg => rfl); (case hr => first | (go_simp; done) | (go_simp; rfl)); intro gb108 hg w7 hbox hb; have n0_ := aM (Kd.R_below (by (with_reducible repeat (first | apply rA | apply rN | apply rD)); exact HO103.out) hb); have n1_ := aM (Kd.R_below (by (with_reducible repeat (first | apply rA | apply rN | apply rD)); exact HO106.out) hb); have n2_ := aM (below_step (by repeat (first | (with_reducible first | exact HB.out | apply below_alloc | apply pw_below_drewN | apply below_drew1) | exact HB.out)) hb); have n3_ := aM (hbox); have n4_ := aM ((by rw [hg]; exact (below_size (by repeat (first | (with_reducible first | exact HB.out | apply below_alloc | apply pw_below_drewN | apply below_drew1) | exact HB.out))) : w.heap.size ≤ gb108)); have n5_ := aM ((by rw [hg]; exact (below_size (by repeat (first | (with_reducible first | exact HB.out | apply below_alloc | apply pw_below_drewN | apply below_drew1) | exact HB.out))) : w.heap.size ≤ gb108)); clear HO103; clear HO106; clear HB; have HO103 := n0_; have HO106 := n1_; have HB := n2_; have BK108 := n3_; have GW108 := n4_; have GE108 := n5_; clear n0_ n1_ n2_ n3_ n4_ n5_; clear hb hbox hg; obtain ⟨Ao8, co8, eo8⟩ := Kd.R_slice HO103.out; subst eo8; have hcz9_0 : w7.cell? ⟨gb108, 0, none⟩ = some (.slice none 0 0) := (blk_cell BK108.out 0).trans rfl; have hcz9_1 : w7.cell? ⟨gb108, 1, none⟩ = some (.slice none 0 0) := (blk_cell BK108.out 1).trans rfl; have hfz9_0 := blk_frozen BK108.out 0; have hfz9_1 := blk_frozen BK108.out 1; obtain ⟨Ao10, co10, eo10⟩ := Kd.R_slice HO106.out; subst eo10) | ((with_reducible refine gate_callee (f := 18) rfl ?_); refine goesL_ (some 17) rfl rfl Tryd.func18 (by kernel_rfl) rfl #[.string a1] rfl (by (try simp only [List.map_toArray, List.map_cons, List.map_nil]); first | done | rfl | (simp only [List.length_drop, List.length_take]; rfl)) ?_; (with_reducible refine (spec_leOf.calls k a1 t109 t110 t113 _ A4.out).mono ?_); rintro e w11 ⟨v111, rfl, ho0, hb⟩; refine ⟨_, rfl, ?_⟩; have n0_ := aM (Kd.R_below (by (with_reducible repeat (first | apply rA | apply rN | apply rD)); exact (Kd.R_mono (Kd.R_far (p := ⟨gb108, 1, none⟩) (Kd.R_far (p := ⟨gb108, 0, none⟩) (Kd.R_types HO103.out BK108.out (by decide)) (fun _ hk => hk.2) (.slice Ao8 t101.length co8)) (fun _ hk => hk.2) (.slice Ao10 t104.length co10)) (fun _ h_ => h_.1))) hb); have n1_ := aM (Kd.R_elder' (by (with_reducible repeat (first | apply rA | apply rN | apply rD)); exact (Kd.R_mono (Kd.R_far (p := ⟨gb108, 1, none⟩) (Kd.R_far (p := ⟨gb108, 0, none⟩) (Kd.R_types HO106.out BK108.out (by decide)) (fun _ hk => hk.2) (.slice Ao8 t101.length co8)) (fun _ hk => hk.2) (.slice Ao10 t104.length co10)) (fun _ h_ => h_.1))) (Kd.R_base ho0) hb); have n2_ := aM (Kd.R_lower (Kd.R_new' ho0 (Kd.R_lt (by (with_reducible repeat (first | apply rA | apply rN | apply rD)); exact (Kd.R_mono (Kd.R_far (p := ⟨gb108, 1, none⟩) (Kd.R_far (p := ⟨gb108, 0, none⟩) (Kd.R_types HO106.out BK108.out (by decide)) (fun _ hk => hk.2) (.slice Ao8 t101.length co8)) (fun _ hk => hk.2) (.slice Ao10 t104.length co10)) (fun _ h_ => h_.1))))) (below_size (by repeat (first | (with_reducible first | exact HB.out | apply below_alloc | apply pw_below_drewN | apply below_drew1 | refine below_set ?_ GE108.out) | exact HB.out)))); have n3_ := aM (blk_below (g := gb108) (o := .cells #[.slice Ao8 t101.length co8, .slice Ao10 t104.length co10] 52 (0, 0)) (by (with_reducible repeat (first | refine bN ?_ _ | refine bD ?_ | refine bA ?_ _)); refine blk_put (cs := #[.slice Ao8 t101.length co8, .slice none 0 0]) ?_ 1 _ rfl; (with_reducible repeat (first | refine bN ?_ _ | refine bD ?_ | refine bA ?_ _)); refine blk_put (cs := #[.slice none 0 0, .slice none 0 0]) ?_ 0 _ rfl; (with_reducible repeat (first | refine bN ?_ _ | refine bD ?_ | refine bA ?_ _)); exact BK108.out) hb); have n4_ := aM (below_step (by repeat (first | (with_reducible first | exact HB.out | apply below_alloc | apply pw_below_drewN | apply below_drew1 | refine below_set ?_ GE108.out) | exact HB.out)) hb); clear HO103; clear HO106; clear BK108; clear HB; have HO103 := n0_; have HO106 := n1_; have HO112 := n2_; have BK108 := n3_; have HB := n4_; clear n0_ n1_ n2_ n3_ n4_; (try clear hb); (try clear hb2); (try clear hk); (try clear hi); (try clear ho0)) | ((with_reducible refine gate_dst (N := 8) rfl ?_); refine box_event ?hg (N := 8) ?hd (cs := #[.int .i64 0, .slice none 0 0]) (t := 56) ?hr ?_; (case hd => rfl); (case hg => rfl); (case hr => first | (go_simp; done) | (go_simp; rfl)); intro gb114 hg w12 hbox hb; have n0_ := aM (Kd.R_below (by (with_reducible repeat (first | apply rA | apply rN | apply rD)); exact HO103.out) hb); have n1_ := aM (Kd.R_below (Kd.R_elderB (by (with_reducible repeat (first | apply rA | apply rN | apply rD)); exact HO106.out) gb114 (Nat.le_of_eq hg.symm)) hb); have n2_ := aM (Kd.R_below (Kd.R_elderB (by (with_reducible repeat (first | apply rA | apply rN | apply rD)); exact HO112.out) gb114 (Nat.le_of_eq hg.symm)) hb); have n3_ := aM (blk_below (g := gb108) (o := .cells #[.slice Ao8 t101.length co8, .slice Ao10 t104.length co10] 52 (0, 0)) (by (with_reducible repeat (first | refine bN ?_ _ | refine bD ?_ | refine bA ?_ _)); exact BK108.out) hb); have n4_ := aM (below_step (by repeat (first | (with_reducible first | exact HB.out | apply below_alloc | apply pw_below_drewN | apply below_drew1 | refine below_set ?_ GE108.out) | exact HB.out)) hb); have n5_ := aM (hbox); have n6_ := aM ((by rw [hg]; exact (below_size (by repeat (first | (with_reducible first | exact HB.out | apply below_alloc | apply pw_below_drewN | apply below_drew1 | refine below_set ?_ GE108.out) | exact HB.out))) : w.heap.size ≤ gb114)); have n7_ := aM ((by rw [hg]; exact (below_size (by repeat (first | (with_reducible first | exact HB.out | apply below_alloc | apply pw_below_drewN | apply below_drew1 | refine below_set ?_ GE108.out) | exact HB.out))) : w.heap.size ≤ gb114)); have n8_ := aM ((by rw [hg]; exact Nat.ne_of_lt (blk_lt (g := gb108) (o := .cells #[.slice Ao8 t101.length co8, .slice Ao10 t104.length co10] 52 (0, 0)) (by (with_reducible repeat (first | refine bN ?_ _ | refine bD ?_ | refine bA ?_ _)); exact BK108.out)) : gb108 ≠ gb114)); have n9_ := aM ((by rw [hg]; exact Nat.ne_of_gt (blk_lt (g := gb108) (o := .cells #[.slice Ao8 t101.length co8, .slice Ao10 t104.length co10] 52 (0, 0)) (by (with_reducible repeat (first | refine bN ?_ _ | refine bD ?_ | refine bA ?_ _)); exact BK108.out)) : gb114 ≠ gb108)); clear HO103; clear HO106; clear HO112; clear BK108; clear HB; have HO103 := n0_; have HO106 := n1_; have HO112 := n2_; have BK108 := n3_; have HB := n4_; have BK114 := n5_; have GW114 := n6_; have GE114 := n7_; have NB108_114 := n8_; have NB114_108 := n9_; clear n0_ n1_ n2_ n3_ n4_ n5_ n6_ n7_ n8_ n9_; clear hb hbox hg; have hnb13 := NB114_108.out; have hnc13 := NB108_114.out; have hcz14_0 : w12.cell? ⟨gb114, 0, none⟩ = some (.int .i64 0) := (blk_cell BK114.out 0).trans rfl; have hcz14_1 : w12.cell? ⟨gb114, 1, none⟩ = some (.slice none 0 0) := (blk_cell BK114.out 1).trans rfl; have hfz14_0 := blk_frozen BK114.out 0; have hfz14_1 := blk_frozen BK114.out 1; obtain ⟨Ao15, co15, eo15⟩ := Kd.R_slice HO112.out; subst eo15))
  (try simp only [Act.put, List.setIfInBounds_toArray, List.set_cons_zero, List.set_cons_succ])
  go_cut [25] (fun v25 wc => ∃ (kq : Nat) (x25_4 : Bool), v25 = .bool x25_4 ∧ Aside0 (spec_ApplyType.j0 kq x25_4 t101 t104 t109 t110 = some (r1, r2)) ∧ Aside0 (kq ≤ k) ∧ Aside0 (Kd.R (Kd.int .i64) 3 wc w.heap.size (fun _ => True) (.slice Ao8 t101.length co8) t101) ∧ Aside0 (Kd.R k56 56 wc w.heap.size (fun k_ => some k_ ≠ ((.slice Ao15 t110.length co15) : Value).ownBlock ∧ k_ ≠ gb114) (.slice Ao10 t104.length co10) t104) ∧ Aside0 (Kd.R k56 56 wc w.heap.size (fun k_ => some k_ ≠ ((.slice Ao10 t104.length co10) : Value).ownBlock ∧ k_ ≠ gb114) (.slice Ao15 t110.length co15) t110) ∧ Aside0 (wc.heap[gb108]? = some (.cells #[(.slice Ao8 t101.length co8), (.slice Ao10 t104.length co10)] 52 (0, 0))) ∧ Aside0 (wc.heap[gb114]? = some (.cells #[.int .i64 t109, (.slice Ao15 t110.length co15)] 56 (0, 0))) ∧ Aside0 (Below w.heap.size w wc))
  case first =>
    have H := HC5.out
    clear HC5
    by_cases c16 : t107 = true
    · subst c16
      have H1 : (spec_ApplyType.j0 k (!t113) t101 t104 t109 t110) = some (r1, r2) := by rw [if_pos rfl] at H; exact H
      clear H
      have H := H1
      clear H1
      have H' := aM H
      clear H
      go_wp2
      go_meet
      case rel => exact ⟨_, (!t113), (by first | rfl | (simp; done) | (simp [*]; done)), H', ⟨by first | omega | exact Nat.le_refl _⟩, ⟨by (with_reducible repeat (first | apply rA | apply rN | apply rD)); exact Kd.R_mono (Kd.R_far (p := ⟨gb114, 1, none⟩) (Kd.R_far (p := ⟨gb114, 0, none⟩) (Kd.R_types HO103.out BK114.out (by decide)) (fun _ hk => hk.2) (.int .i64 t109)) (fun _ hk => hk.2) (.slice Ao15 t110.length co15)) (fun _ hk => trivial)⟩, ⟨by (with_reducible repeat (first | apply rA | apply rN | apply rD)); exact Kd.R_mono (Kd.R_far (p := ⟨gb114, 1, none⟩) (Kd.R_far (p := ⟨gb114, 0, none⟩) (Kd.R_mono HO106.out (fun k_ hk => (⟨hk, hk.2⟩ : _ ∧ k_ ≠ gb114))) (fun _ hk => hk.2) (.int .i64 t109)) (fun _ hk => hk.2) (.slice Ao15 t110.length co15)) (fun _ hk => ⟨hk.1.1.2, hk.1.2⟩)⟩, ⟨by (with_reducible repeat (first | apply rA | apply rN | apply rD)); exact Kd.R_mono (Kd.R_far (p := ⟨gb114, 1, none⟩) (Kd.R_far (p := ⟨gb114, 0, none⟩) (Kd.R_mono HO112.out (fun k_ hk => (⟨hk, hk.2⟩ : _ ∧ k_ ≠ gb114))) (fun _ hk => hk.2) (.int .i64 t109)) (fun _ hk => hk.2) (.slice Ao15 t110.length co15)) (fun _ hk => ⟨hk.1.1.2, hk.1.2⟩)⟩, ⟨by (with_reducible repeat (first | refine bN ?_ _ | refine bD ?_ | refine bA ?_ _)); refine blk_far ?_ NB108_114.out _; (with_reducible repeat (first | refine bN ?_ _ | refine bD ?_ | refine bA ?_ _)); refine blk_far ?_ NB108_114.out _; (with_reducible repeat (first | refine bN ?_ _ | refine bD ?_ | refine bA ?_ _)); exact BK108.out⟩, ⟨by (with_reducible repeat (first | refine bN ?_ _ | refine bD ?_ | refine bA ?_ _)); refine blk_put (cs := #[.int .i64 t109, .slice none 0 0]) ?_ 1 _ rfl; (with_reducible repeat (first | refine bN ?_ _ | refine bD ?_ | refine bA ?_ _)); refine blk_put (cs := #[.int .i64 0, .slice none 0 0]) ?_ 0 _ rfl; (with_reducible repeat (first | refine bN ?_ _ | refine bD ?_ | refine bA ?_ _)); exact BK114.out⟩, ⟨by repeat (first | (with_reducible first | exact HB.out | apply below_alloc | apply pw_below_drewN | apply below_drew1 | refine below_set ?_ GE108.out | refine below_set ?_ GE114.out) | exact HB.out)⟩⟩
    · replace c16 := Bool.eq_false_iff.mpr c16
      subst c16
      have H1 : (spec_ApplyType.j0 k true t101 t104 t109 t110) = some (r1, r2) := by rw [if_neg (show ¬ (false = true) by decide)] at H; exact H
      clear H
      have H := H1
      clear H1
      have H' := aM H
      clear H
      go_wp2
      go_meet
      case rel => exact ⟨_, (true), (by first | rfl | (simp; done) | (simp [*]; done)), H', ⟨by first | omega | exact Nat.le_refl _⟩, ⟨by (with_reducible repeat (first | apply rA | apply rN | apply rD)); exact Kd.R_mono (Kd.R_far (p := ⟨gb114, 1, none⟩) (Kd.R_far (p := ⟨gb114, 0, none⟩) (Kd.R_types HO103.out BK114.out (by decide)) (fun _ hk => hk.2) (.int .i64 t109)) (fun _ hk => hk.2) (.slice Ao15 t110.length co15)) (fun _ hk => trivial)⟩, ⟨by (with_reducible repeat (first | apply rA | apply rN | apply rD)); exact Kd.R_mono (Kd.R_far (p := ⟨gb114, 1, none⟩) (Kd.R_far (p := ⟨gb114, 0, none⟩) (Kd.R_mono HO106.out (fun k_ hk => (⟨hk, hk.2⟩ : _ ∧ k_ ≠ gb114))) (fun _ hk => hk.2) (.int .i64 t109)) (fun _ hk => hk.2) (.slice Ao15 t110.length co15)) (fun _ hk => ⟨hk.1.1.2, hk.1.2⟩)⟩, ⟨by (with_reducible repeat (first | apply rA | apply rN | apply rD)); exact Kd.R_mono (Kd.R_far (p := ⟨gb114, 1, none⟩) (Kd.R_far (p := ⟨gb114, 0, none⟩) (Kd.R_mono HO112.out (fun k_ hk => (⟨hk, hk.2⟩ : _ ∧ k_ ≠ gb114))) (fun _ hk => hk.2) (.int .i64 t109)) (fun _ hk => hk.2) (.slice Ao15 t110.length co15)) (fun _ hk => ⟨hk.1.1.2, hk.1.2⟩)⟩, ⟨by (with_reducible repeat (first | refine bN ?_ _ | refine bD ?_ | refine bA ?_ _)); refine blk_far ?_ NB108_114.out _; (with_reducible repeat (first | refine bN ?_ _ | refine bD ?_ | refine bA ?_ _)); refine blk_far ?_ NB108_114.out _; (with_reducible repeat (first | refine bN ?_ _ | refine bD ?_ | refine bA ?_ _)); exact BK108.out⟩, ⟨by (with_reducible repeat (first | refine bN ?_ _ | refine bD ?_ | refine bA ?_ _)); refine blk_put (cs := #[.int .i64 t109, .slice none 0 0]) ?_ 1 _ rfl; (with_reducible repeat (first | refine bN ?_ _ | refine bD ?_ | refine bA ?_ _)); refine blk_put (cs := #[.int .i64 0, .slice none 0 0]) ?_ 0 _ rfl; (with_reducible repeat (first | refine bN ?_ _ | refine bD ?_ | refine bA ?_ _)); exact BK114.out⟩, ⟨by repeat (first | (with_reducible first | exact HB.out | apply below_alloc | apply pw_below_drewN | apply below_drew1 | refine below_set ?_ GE108.out | refine below_set ?_ GE114.out) | exact HB.out)⟩⟩
  case rest =>
    clear HC5
    try clear c1
    try clear p2
    try clear c6
    try clear c13
    try clear c16
    try clear hcz14_0
    try clear hcz14_1
    try clear hcz9_0
    try clear hcz9_1
    try clear hfz14_0
    try clear hfz14_1
    try clear hfz9_0
    try clear hfz9_1
    obtain ⟨kq, x25_4, rfl, HA, HJ4, HO_109000, HO_109001, HO_115001, BK108, BK114, HB⟩ := hcut
    cases kq with
    | zero => exact absurd HA.out (by simp [spec_ApplyType.j0])
    | succ kj4 =>
      have H := HA.out
      clear HA
      simp only [spec_ApplyType.j0] at H
      by_cases c17 : x25_4 = true
      · subst c17
        have H1 : (some ((⟨#[]⟩ : ByteArray), false)) = some (r1, r2) := by rw [if_pos rfl] at H; exact H
        clear H
        have H := H1
        clear H1
        simp only [Option.some.injEq, Prod.mk.injEq] at H
        obtain ⟨rfl, rfl⟩ := H
        go_wp2
        go_ret2
        exact ⟨by first | rfl | (simp [errW_none, errW_some] <;> rfl) | (simp [*, errW_none, errW_some] <;> rfl), by repeat (first | (with_reducible first | exact HB.out | apply below_alloc | apply pw_below_drewN | apply below_drew1 | refine below_set ?_ GE108.out | refine below_set ?_ GE114.out) | exact HB.out)⟩
      · replace c17 := Bool.eq_false_iff.mpr c17
        subst c17
        have H1 : ((spec_leApply.f kj4 t101 t104 t109 t110).bind fun bt115 => ((spec_leFine.f kj4 bt115.1 bt115.2).bind fun t119 => (if t119 = true then ((spec_leText.f kj4 bt115.1 bt115.2).bind fun t120 => (some (t120, true))) else (some ((⟨#[]⟩ : ByteArray), false))))) = some (r1, r2) := by rw [if_neg (show ¬ (false = true) by decide)] at H; exact H
        clear H
        have H := H1
        clear H1
        replace H := Option.bind_eq_some_iff.mp H
        obtain ⟨⟨t115, t116⟩, A180, H⟩ := H
        replace H : ((spec_leFine.f kj4 t115 t116).bind fun t119 => (if t119 = true then ((spec_leText.f kj4 t115 t116).bind fun t120 => (some (t120, true))) else (some ((⟨#[]⟩ : ByteArray), false)))) = some (r1, r2) := H
        have A18 := aM A180
        clear A180
        replace H := Option.bind_eq_some_iff.mp H
        obtain ⟨t119, A190, H⟩ := H
        replace H : (if t119 = true then ((spec_leText.f kj4 t115 t116).bind fun t120 => (some (t120, true))) else (some ((⟨#[]⟩ : ByteArray), false))) = some (r1, r2) := H
        have A19 := aM A190
        clear A190
        by_cases c20 : t119 = true
        · subst c20
          have H1 : ((spec_leText.f kj4 t115 t116).bind fun t120 => (some (t120, true))) = some (r1, r2) := by rw [if_pos rfl] at H; exact H
          clear H
          have H := H1
          clear H1
          replace H := Option.bind_eq_some_iff.mp H
          obtain ⟨t120, A210, H⟩ := H
          replace H : (some (t120, true)) = some (r1, r2) := H
          have A21 := aM A210
          clear A210
          simp only [Option.some.injEq, Prod.mk.injEq] at H
          obtain ⟨rfl, rfl⟩ := H
          have hnb22 := NB108_114.out
          have hnc22 := NB114_108.out
          have hcz23_0 : wc.cell? ⟨gb108, 0, none⟩ = some (.slice Ao8 t101.length co8) := (blk_cell BK108.out 0).trans rfl
          have hcz23_1 : wc.cell? ⟨gb108, 1, none⟩ = some (.slice Ao10 t104.length co10) := (blk_cell BK108.out 1).trans rfl
          have hfz23_0 := blk_frozen BK108.out 0
          have hfz23_1 := blk_frozen BK108.out 1
          have hcz24_0 : wc.cell? ⟨gb114, 0, none⟩ = some (.int .i64 t109) := (blk_cell BK114.out 0).trans rfl
          have hcz24_1 : wc.cell? ⟨gb114, 1, none⟩ = some (.slice Ao15 t110.length co15) := (blk_cell BK114.out 1).trans rfl
          have hfz24_0 := blk_frozen BK114.out 0
          have hfz24_1 := blk_frozen BK114.out 1
          go_wp2_with (first | ((with_reducible refine gate_callee (f := 19) rfl ?_); refine goesL_ (some 28) rfl rfl Tryd.func19 (by kernel_rfl) rfl #[.agg #[.slice Ao8 t101.length co8, .slice Ao10 t104.length co10], .agg #[.int .i64 t109, .slice Ao15 t110.length co15]] rfl (by (try simp only [List.map_toArray, List.map_cons, List.map_nil]); first | done | rfl | (simp only [List.length_drop, List.length_take]; rfl)) ?_; (with_reducible refine (spec_leApply.calls kj4 _ _ t101 (fun k_ => (((some k_ ≠ (.slice Ao15 t110.length co15 : Value).ownBlock ∧ k_ ≠ gb114) ∧ some k_ ≠ (.slice Ao8 t101.length co8 : Value).ownBlock) ∧ k_ ≠ gb108)) _ _ t104 t109 (fun k_ => (((some k_ ≠ (.slice Ao10 t104.length co10 : Value).ownBlock ∧ k_ ≠ gb114) ∧ some k_ ≠ (.slice Ao8 t101.length co8 : Value).ownBlock) ∧ k_ ≠ gb108)) _ _ t110 t115 t116 _ ?side1 ?side2 ?side3 ?side4 A18.out).mono ?_); (case side1 => repeat (first | exact (Kd.R_reads' HO_109000.out).2.2 | (with_reducible refine Kd.C_alloc ?_ _) | (with_reducible refine Kd.C_drewN ?_ _) | (with_reducible refine Kd.C_drew ?_))); (case side2 => exact (Kd.R_reads' HO_109000.out).2.1); (case side3 => exact Kd.R_V (Kd.R_types (Kd.R_apart' (HO_109001.out) (Kd.R_typed HO_109000.out) (by decide)) BK108.out (by decide))); (case side4 => exact Kd.R_V (Kd.R_types (Kd.R_apart' (HO_115001.out) (Kd.R_typed HO_109000.out) (by decide)) BK108.out (by decide))); rintro e w25 ⟨v117, rfl, ho0, hb⟩; refine ⟨_, rfl, ?_⟩; have n0_ := aM (Kd.R_below (by (with_reducible repeat (first | apply rA | apply rN | apply rD)); exact HO_109000.out) hb); have n1_ := aM (Kd.R_below (by (with_reducible repeat (first | apply rA | apply rN | apply rD)); exact HO_109001.out) hb); have n2_ := aM (Kd.R_below (by (with_reducible repeat (first | apply rA | apply rN | apply rD)); exact HO_115001.out) hb); have n3_ := aM (Kd.V_lower (Kd.V_mono (ok' := fun k_ => some k_ ≠ (.slice Ao8 t101.length co8 : Value).ownBlock ∧ k_ ≠ gb108 ∧ k_ ≠ gb114) ho0 (fun k_ hk_ => ⟨Or.elim hk_ (fun hs_ => Or.elim hs_ (fun hs_ => hs_.1.2) (fun hs_ => hs_.1.2)) (fun hn_ => (Kd.fresh' (Kd.R_lt (by (with_reducible repeat (first | apply rA | apply rN | apply rD)); exact HO_109000.out)) k_ hn_)), Or.elim hk_ (fun hs_ => Or.elim hs_ (fun hs_ => hs_.2) (fun hs_ => hs_.2)) (fun hn_ => (Kd.freshB (g := gb108) (o := .cells #[.slice Ao8 t101.length co8, .slice Ao10 t104.length co10] 52 (0, 0)) (by (with_reducible repeat (first | refine bN ?_ _ | refine bD ?_ | refine bA ?_ _)); exact BK108.out) k_ hn_)), Or.elim hk_ (fun hs_ => Or.elim hs_ (fun hs_ => hs_.1.1.2) (fun hs_ => hs_.1.1.2)) (fun hn_ => (Kd.freshB (g := gb114) (o := .cells #[.int .i64 t109, .slice Ao15 t110.length co15] 56 (0, 0)) (by (with_reducible repeat (first | refine bN ?_ _ | refine bD ?_ | refine bA ?_ _)); exact BK114.out) k_ hn_))⟩)) (below_size (by repeat (first | (with_reducible first | exact HB.out | apply below_alloc | apply pw_below_drewN | apply below_drew1 | refine below_set ?_ GE108.out | refine below_set ?_ GE114.out) | exact HB.out)))); have n4_ := aM (blk_below (g := gb108) (o := .cells #[.slice Ao8 t101.length co8, .slice Ao10 t104.length co10] 52 (0, 0)) (by (with_reducible repeat (first | refine bN ?_ _ | refine bD ?_ | refine bA ?_ _)); exact BK108.out) hb); have n5_ := aM (blk_below (g := gb114) (o := .cells #[.int .i64 t109, .slice Ao15 t110.length co15] 56 (0, 0)) (by (with_reducible repeat (first | refine bN ?_ _ | refine bD ?_ | refine bA ?_ _)); exact BK114.out) hb); have n6_ := aM (below_step (by repeat (first | (with_reducible first | exact HB.out | apply below_alloc | apply pw_below_drewN | apply below_drew1 | refine below_set ?_ GE108.out | refine below_set ?_ GE114.out) | exact HB.out)) hb); clear HO_109000; clear HO_109001; clear HO_115001; clear BK108; clear BK114; clear HB; have HO_109000 := n0_; have HO_109001 := n1_; have HO_115001 := n2_; have HO118 := n3_; have BK108 := n4_; have BK114 := n5_; have HB := n6_; clear n0_ n1_ n2_ n3_ n4_ n5_ n6_; (try clear hb); (try clear hb2); (try clear hk); (try clear hi); (try clear ho0); have hcz26_0 : w25.cell? ⟨gb114, 0, none⟩ = some (.int .i64 t109) := (blk_cell BK114.out 0).trans rfl; have hcz26_1 : w25.cell? ⟨gb114, 1, none⟩ = some (.slice Ao15 t110.length co15) := (blk_cell BK114.out 1).trans rfl; have hfz26_0 := blk_frozen BK114.out 0; have hfz26_1 := blk_frozen BK114.out 1; obtain ⟨Ao27, co27, eo27⟩ := Kd.V_slice HO118.out; subst eo27) | ((with_reducible refine gate_callee (f := 20) rfl ?_); refine goesL_ (some 30) rfl rfl Tryd.func20 (by kernel_rfl) rfl #[.agg #[.int .i64 t115, .slice Ao27 t116.length co27]] rfl (by (try simp only [List.map_toArray, List.map_cons, List.map_nil]); first | done | rfl | (simp only [List.length_drop, List.length_take]; rfl)) ?_; (with_reducible refine (spec_leFine.calls kj4 t115 _ _ t116 true _ ?side1 ?side2 A19.out).mono ?_); (case side1 => refine (Kd.V_reads' (e := 56) (base := w.heap.size) (ok := fun k_ => (some k_ ≠ (.slice Ao8 t101.length co8 : Value).ownBlock ∧ (k_ ≠ gb108 ∧ k_ ≠ gb114))) (n := t116.length) (c := co27) ?_).2.2; exact (by (with_reducible repeat (first | apply Kd.V_alloc | apply Kd.V_drewN | apply Kd.V_drew)); exact (Kd.V_mono (Kd.V_far (p := ⟨gb114, 1, none⟩) (Kd.V_far (p := ⟨gb114, 0, none⟩) (Kd.V_mono HO118.out (fun k_ hk => (⟨hk, hk.2.2⟩ : _ ∧ k_ ≠ gb114))) (fun _ hk => hk.2) (.int .i64 t115)) (fun _ hk => hk.2) (.slice Ao27 t116.length co27)) (fun _ h_ => h_.1)))); (case side2 => exact (Kd.V_reads' HO118.out).2.1); rintro e w28 ⟨rfl, hb⟩; refine ⟨_, rfl, ?_⟩; have n0_ := aM (Kd.R_below (by (with_reducible repeat (first | apply rA | apply rN | apply rD)); exact (Kd.R_mono (Kd.R_far (p := ⟨gb114, 1, none⟩) (Kd.R_far (p := ⟨gb114, 0, none⟩) (Kd.R_types HO_109000.out BK114.out (by decide)) (fun _ hk => hk.2) (.int .i64 t115)) (fun _ hk => hk.2) (.slice Ao27 t116.length co27)) (fun _ h_ => h_.1))) hb); have n1_ := aM (Kd.R_below (by (with_reducible repeat (first | apply rA | apply rN | apply rD)); exact (Kd.R_mono (Kd.R_far (p := ⟨gb114, 1, none⟩) (Kd.R_far (p := ⟨gb114, 0, none⟩) (Kd.R_mono HO_109001.out (fun k_ hk => (⟨hk, hk.2⟩ : _ ∧ k_ ≠ gb114))) (fun _ hk => hk.2) (.int .i64 t115)) (fun _ hk => hk.2) (.slice Ao27 t116.length co27)) (fun _ h_ => h_.1))) hb); have n2_ := aM (Kd.R_below (by (with_reducible repeat (first | apply rA | apply rN | apply rD)); exact (Kd.R_mono (Kd.R_far (p := ⟨gb114, 1, none⟩) (Kd.R_far (p := ⟨gb114, 0, none⟩) (Kd.R_mono HO_115001.out (fun k_ hk => (⟨hk, hk.2⟩ : _ ∧ k_ ≠ gb114))) (fun _ hk => hk.2) (.int .i64 t115)) (fun _ hk => hk.2) (.slice Ao27 t116.length co27)) (fun _ h_ => h_.1))) hb); have n3_ := aM (Kd.V_below (by (with_reducible repeat (first | apply Kd.V_alloc | apply Kd.V_drewN | apply Kd.V_drew)); exact (Kd.V_mono (Kd.V_far (p := ⟨gb114, 1, none⟩) (Kd.V_far (p := ⟨gb114, 0, none⟩) (Kd.V_mono HO118.out (fun k_ hk => (⟨hk, hk.2.2⟩ : _ ∧ k_ ≠ gb114))) (fun _ hk => hk.2) (.int .i64 t115)) (fun _ hk => hk.2) (.slice Ao27 t116.length co27)) (fun _ h_ => h_.1))) hb); have n4_ := aM (blk_below (g := gb108) (o := .cells #[.slice Ao8 t101.length co8, .slice Ao10 t104.length co10] 52 (0, 0)) (by (with_reducible repeat (first | refine bN ?_ _ | refine bD ?_ | refine bA ?_ _)); refine blk_far ?_ NB108_114.out _; (with_reducible repeat (first | refine bN ?_ _ | refine bD ?_ | refine bA ?_ _)); refine blk_far ?_ NB108_114.out _; (with_reducible repeat (first | refine bN ?_ _ | refine bD ?_ | refine bA ?_ _)); exact BK108.out) hb); have n5_ := aM (blk_below (g := gb114) (o := .cells #[.int .i64 t115, .slice Ao27 t116.length co27] 56 (0, 0)) (by (with_reducible repeat (first | refine bN ?_ _ | refine bD ?_ | refine bA ?_ _)); refine blk_put (cs := #[.int .i64 t115, .slice Ao15 t110.length co15]) ?_ 1 _ rfl; (with_reducible repeat (first | refine bN ?_ _ | refine bD ?_ | refine bA ?_ _)); refine blk_put (cs := #[.int .i64 t109, .slice Ao15 t110.length co15]) ?_ 0 _ rfl; (with_reducible repeat (first | refine bN ?_ _ | refine bD ?_ | refine bA ?_ _)); exact BK114.out) hb); have n6_ := aM (below_step (by repeat (first | (with_reducible first | exact HB.out | apply below_alloc | apply pw_below_drewN | apply below_drew1 | refine below_set ?_ GE108.out | refine below_set ?_ GE114.out) | exact HB.out)) hb); clear HO_109000; clear HO_109001; clear HO_115001; clear HO118; clear BK108; clear BK114; clear HB; have HO_109000 := n0_; have HO_109001 := n1_; have HO_115001 := n2_; have HO118 := n3_; have BK108 := n4_; have BK114 := n5_; have HB := n6_; clear n0_ n1_ n2_ n3_ n4_ n5_ n6_; (try clear hb); (try clear hb2); (try clear hk); (try clear hi); have hcz29_0 : w28.cell? ⟨gb114, 0, none⟩ = some (.int .i64 t115) := (blk_cell BK114.out 0).trans rfl; have hcz29_1 : w28.cell? ⟨gb114, 1, none⟩ = some (.slice Ao27 t116.length co27) := (blk_cell BK114.out 1).trans rfl; have hfz29_0 := blk_frozen BK114.out 0; have hfz29_1 := blk_frozen BK114.out 1) | ((with_reducible refine gate_callee (f := 21) rfl ?_); refine goesL_ (some 33) rfl rfl Tryd.func21 (by kernel_rfl) rfl #[.agg #[.int .i64 t115, .slice Ao27 t116.length co27]] rfl (by (try simp only [List.map_toArray, List.map_cons, List.map_nil]); first | done | rfl | (simp only [List.length_drop, List.length_take]; rfl)) ?_; (with_reducible refine (spec_leText.calls kj4 t115 _ _ t116 t120 _ ?side1 ?side2 A21.out).mono ?_); (case side1 => repeat (first | exact (Kd.V_reads' HO118.out).2.2 | (with_reducible refine Kd.C_alloc ?_ _) | (with_reducible refine Kd.C_drewN ?_ _) | (with_reducible refine Kd.C_drew ?_))); (case side2 => exact (Kd.V_reads' HO118.out).2.1); rintro e w30 ⟨rfl, hb⟩; refine ⟨_, rfl, ?_⟩; have n0_ := aM (Kd.R_below (by (with_reducible repeat (first | apply rA | apply rN | apply rD)); exact HO_109000.out) hb); have n1_ := aM (Kd.R_below (by (with_reducible repeat (first | apply rA | apply rN | apply rD)); exact HO_109001.out) hb); have n2_ := aM (Kd.R_below (by (with_reducible repeat (first | apply rA | apply rN | apply rD)); exact HO_115001.out) hb); have n3_ := aM (Kd.V_below (by (with_reducible repeat (first | apply Kd.V_alloc | apply Kd.V_drewN | apply Kd.V_drew)); exact HO118.out) hb); have n4_ := aM (blk_below (g := gb108) (o := .cells #[.slice Ao8 t101.length co8, .slice Ao10 t104.length co10] 52 (0, 0)) (by (with_reducible repeat (first | refine bN ?_ _ | refine bD ?_ | refine bA ?_ _)); exact BK108.out) hb); have n5_ := aM (blk_below (g := gb114) (o := .cells #[.int .i64 t115, .slice Ao27 t116.length co27] 56 (0, 0)) (by (with_reducible repeat (first | refine bN ?_ _ | refine bD ?_ | refine bA ?_ _)); exact BK114.out) hb); have n6_ := aM (below_step (by repeat (first | (with_reducible first | exact HB.out | apply below_alloc | apply pw_below_drewN | apply below_drew1 | refine below_set ?_ GE108.out | refine below_set ?_ GE114.out) | exact HB.out)) hb); clear HO_109000; clear HO_109001; clear HO_115001; clear HO118; clear BK108; clear BK114; clear HB; have HO_109000 := n0_; have HO_109001 := n1_; have HO_115001 := n2_; have HO118 := n3_; have BK108 := n4_; have BK114 := n5_; have HB := n6_; clear n0_ n1_ n2_ n3_ n4_ n5_ n6_; (try clear hb); (try clear hb2); (try clear hk); (try clear hi)))
          go_ret2
          exact ⟨by first | rfl | (simp [errW_none, errW_some] <;> rfl) | (simp [*, errW_none, errW_some] <;> rfl), by repeat (first | (with_reducible first | exact HB.out | apply below_alloc | apply pw_below_drewN | apply below_drew1 | refine below_set ?_ GE108.out | refine below_set ?_ GE114.out) | exact HB.out)⟩
        · replace c20 := Bool.eq_false_iff.mpr c20
          subst c20
          have H1 : (some ((⟨#[]⟩ : ByteArray), false)) = some (r1, r2) := by rw [if_neg (show ¬ (false = true) by decide)] at H; exact H
          clear H
          have H := H1
          clear H1
          simp only [Option.some.injEq, Prod.mk.injEq] at H
          obtain ⟨rfl, rfl⟩ := H
          have hnb31 := NB108_114.out
          have hnc31 := NB114_108.out
          have hcz32_0 : wc.cell? ⟨gb108, 0, none⟩ = some (.slice Ao8 t101.length co8) := (blk_cell BK108.out 0).trans rfl
          have hcz32_1 : wc.cell? ⟨gb108, 1, none⟩ = some (.slice Ao10 t104.length co10) := (blk_cell BK108.out 1).trans rfl
          have hfz32_0 := blk_frozen BK108.out 0
          have hfz32_1 := blk_frozen BK108.out 1
          have hcz33_0 : wc.cell? ⟨gb114, 0, none⟩ = some (.int .i64 t109) := (blk_cell BK114.out 0).trans rfl
          have hcz33_1 : wc.cell? ⟨gb114, 1, none⟩ = some (.slice Ao15 t110.length co15) := (blk_cell BK114.out 1).trans rfl
          have hfz33_0 := blk_frozen BK114.out 0
          have hfz33_1 := blk_frozen BK114.out 1
          go_wp2_with (first | ((with_reducible refine gate_callee (f := 19) rfl ?_); refine goesL_ (some 28) rfl rfl Tryd.func19 (by kernel_rfl) rfl #[.agg #[.slice Ao8 t101.length co8, .slice Ao10 t104.length co10], .agg #[.int .i64 t109, .slice Ao15 t110.length co15]] rfl (by (try simp only [List.map_toArray, List.map_cons, List.map_nil]); first | done | rfl | (simp only [List.length_drop, List.length_take]; rfl)) ?_; (with_reducible refine (spec_leApply.calls kj4 _ _ t101 (fun k_ => (((some k_ ≠ (.slice Ao15 t110.length co15 : Value).ownBlock ∧ k_ ≠ gb114) ∧ some k_ ≠ (.slice Ao8 t101.length co8 : Value).ownBlock) ∧ k_ ≠ gb108)) _ _ t104 t109 (fun k_ => (((some k_ ≠ (.slice Ao10 t104.length co10 : Value).ownBlock ∧ k_ ≠ gb114) ∧ some k_ ≠ (.slice Ao8 t101.length co8 : Value).ownBlock) ∧ k_ ≠ gb108)) _ _ t110 t115 t116 _ ?side1 ?side2 ?side3 ?side4 A18.out).mono ?_); (case side1 => repeat (first | exact (Kd.R_reads' HO_109000.out).2.2 | (with_reducible refine Kd.C_alloc ?_ _) | (with_reducible refine Kd.C_drewN ?_ _) | (with_reducible refine Kd.C_drew ?_))); (case side2 => exact (Kd.R_reads' HO_109000.out).2.1); (case side3 => exact Kd.R_V (Kd.R_types (Kd.R_apart' (HO_109001.out) (Kd.R_typed HO_109000.out) (by decide)) BK108.out (by decide))); (case side4 => exact Kd.R_V (Kd.R_types (Kd.R_apart' (HO_115001.out) (Kd.R_typed HO_109000.out) (by decide)) BK108.out (by decide))); rintro e w34 ⟨v117, rfl, ho0, hb⟩; refine ⟨_, rfl, ?_⟩; have n0_ := aM (Kd.R_below (by (with_reducible repeat (first | apply rA | apply rN | apply rD)); exact HO_109000.out) hb); have n1_ := aM (Kd.R_below (by (with_reducible repeat (first | apply rA | apply rN | apply rD)); exact HO_109001.out) hb); have n2_ := aM (Kd.R_below (by (with_reducible repeat (first | apply rA | apply rN | apply rD)); exact HO_115001.out) hb); have n3_ := aM (Kd.V_lower (Kd.V_mono (ok' := fun k_ => some k_ ≠ (.slice Ao8 t101.length co8 : Value).ownBlock ∧ k_ ≠ gb108 ∧ k_ ≠ gb114) ho0 (fun k_ hk_ => ⟨Or.elim hk_ (fun hs_ => Or.elim hs_ (fun hs_ => hs_.1.2) (fun hs_ => hs_.1.2)) (fun hn_ => (Kd.fresh' (Kd.R_lt (by (with_reducible repeat (first | apply rA | apply rN | apply rD)); exact HO_109000.out)) k_ hn_)), Or.elim hk_ (fun hs_ => Or.elim hs_ (fun hs_ => hs_.2) (fun hs_ => hs_.2)) (fun hn_ => (Kd.freshB (g := gb108) (o := .cells #[.slice Ao8 t101.length co8, .slice Ao10 t104.length co10] 52 (0, 0)) (by (with_reducible repeat (first | refine bN ?_ _ | refine bD ?_ | refine bA ?_ _)); exact BK108.out) k_ hn_)), Or.elim hk_ (fun hs_ => Or.elim hs_ (fun hs_ => hs_.1.1.2) (fun hs_ => hs_.1.1.2)) (fun hn_ => (Kd.freshB (g := gb114) (o := .cells #[.int .i64 t109, .slice Ao15 t110.length co15] 56 (0, 0)) (by (with_reducible repeat (first | refine bN ?_ _ | refine bD ?_ | refine bA ?_ _)); exact BK114.out) k_ hn_))⟩)) (below_size (by repeat (first | (with_reducible first | exact HB.out | apply below_alloc | apply pw_below_drewN | apply below_drew1 | refine below_set ?_ GE108.out | refine below_set ?_ GE114.out) | exact HB.out)))); have n4_ := aM (blk_below (g := gb108) (o := .cells #[.slice Ao8 t101.length co8, .slice Ao10 t104.length co10] 52 (0, 0)) (by (with_reducible repeat (first | refine bN ?_ _ | refine bD ?_ | refine bA ?_ _)); exact BK108.out) hb); have n5_ := aM (blk_below (g := gb114) (o := .cells #[.int .i64 t109, .slice Ao15 t110.length co15] 56 (0, 0)) (by (with_reducible repeat (first | refine bN ?_ _ | refine bD ?_ | refine bA ?_ _)); exact BK114.out) hb); have n6_ := aM (below_step (by repeat (first | (with_reducible first | exact HB.out | apply below_alloc | apply pw_below_drewN | apply below_drew1 | refine below_set ?_ GE108.out | refine below_set ?_ GE114.out) | exact HB.out)) hb); clear HO_109000; clear HO_109001; clear HO_115001; clear BK108; clear BK114; clear HB; have HO_109000 := n0_; have HO_109001 := n1_; have HO_115001 := n2_; have HO118 := n3_; have BK108 := n4_; have BK114 := n5_; have HB := n6_; clear n0_ n1_ n2_ n3_ n4_ n5_ n6_; (try clear hb); (try clear hb2); (try clear hk); (try clear hi); (try clear ho0); have hcz35_0 : w34.cell? ⟨gb114, 0, none⟩ = some (.int .i64 t109) := (blk_cell BK114.out 0).trans rfl; have hcz35_1 : w34.cell? ⟨gb114, 1, none⟩ = some (.slice Ao15 t110.length co15) := (blk_cell BK114.out 1).trans rfl; have hfz35_0 := blk_frozen BK114.out 0; have hfz35_1 := blk_frozen BK114.out 1; obtain ⟨Ao36, co36, eo36⟩ := Kd.V_slice HO118.out; subst eo36) | ((with_reducible refine gate_callee (f := 20) rfl ?_); refine goesL_ (some 30) rfl rfl Tryd.func20 (by kernel_rfl) rfl #[.agg #[.int .i64 t115, .slice Ao36 t116.length co36]] rfl (by (try simp only [List.map_toArray, List.map_cons, List.map_nil]); first | done | rfl | (simp only [List.length_drop, List.length_take]; rfl)) ?_; (with_reducible refine (spec_leFine.calls kj4 t115 _ _ t116 false _ ?side1 ?side2 A19.out).mono ?_); (case side1 => refine (Kd.V_reads' (e := 56) (base := w.heap.size) (ok := fun k_ => (some k_ ≠ (.slice Ao8 t101.length co8 : Value).ownBlock ∧ (k_ ≠ gb108 ∧ k_ ≠ gb114))) (n := t116.length) (c := co36) ?_).2.2; exact (by (with_reducible repeat (first | apply Kd.V_alloc | apply Kd.V_drewN | apply Kd.V_drew)); exact (Kd.V_mono (Kd.V_far (p := ⟨gb114, 1, none⟩) (Kd.V_far (p := ⟨gb114, 0, none⟩) (Kd.V_mono HO118.out (fun k_ hk => (⟨hk, hk.2.2⟩ : _ ∧ k_ ≠ gb114))) (fun _ hk => hk.2) (.int .i64 t115)) (fun _ hk => hk.2) (.slice Ao36 t116.length co36)) (fun _ h_ => h_.1)))); (case side2 => exact (Kd.V_reads' HO118.out).2.1); rintro e w37 ⟨rfl, hb⟩; refine ⟨_, rfl, ?_⟩; have n0_ := aM (Kd.R_below (by (with_reducible repeat (first | apply rA | apply rN | apply rD)); exact (Kd.R_mono (Kd.R_far (p := ⟨gb114, 1, none⟩) (Kd.R_far (p := ⟨gb114, 0, none⟩) (Kd.R_types HO_109000.out BK114.out (by decide)) (fun _ hk => hk.2) (.int .i64 t115)) (fun _ hk => hk.2) (.slice Ao36 t116.length co36)) (fun _ h_ => h_.1))) hb); have n1_ := aM (Kd.R_below (by (with_reducible repeat (first | apply rA | apply rN | apply rD)); exact (Kd.R_mono (Kd.R_far (p := ⟨gb114, 1, none⟩) (Kd.R_far (p := ⟨gb114, 0, none⟩) (Kd.R_mono HO_109001.out (fun k_ hk => (⟨hk, hk.2⟩ : _ ∧ k_ ≠ gb114))) (fun _ hk => hk.2) (.int .i64 t115)) (fun _ hk => hk.2) (.slice Ao36 t116.length co36)) (fun _ h_ => h_.1))) hb); have n2_ := aM (Kd.R_below (by (with_reducible repeat (first | apply rA | apply rN | apply rD)); exact (Kd.R_mono (Kd.R_far (p := ⟨gb114, 1, none⟩) (Kd.R_far (p := ⟨gb114, 0, none⟩) (Kd.R_mono HO_115001.out (fun k_ hk => (⟨hk, hk.2⟩ : _ ∧ k_ ≠ gb114))) (fun _ hk => hk.2) (.int .i64 t115)) (fun _ hk => hk.2) (.slice Ao36 t116.length co36)) (fun _ h_ => h_.1))) hb); have n3_ := aM (Kd.V_below (by (with_reducible repeat (first | apply Kd.V_alloc | apply Kd.V_drewN | apply Kd.V_drew)); exact (Kd.V_mono (Kd.V_far (p := ⟨gb114, 1, none⟩) (Kd.V_far (p := ⟨gb114, 0, none⟩) (Kd.V_mono HO118.out (fun k_ hk => (⟨hk, hk.2.2⟩ : _ ∧ k_ ≠ gb114))) (fun _ hk => hk.2) (.int .i64 t115)) (fun _ hk => hk.2) (.slice Ao36 t116.length co36)) (fun _ h_ => h_.1))) hb); have n4_ := aM (blk_below (g := gb108) (o := .cells #[.slice Ao8 t101.length co8, .slice Ao10 t104.length co10] 52 (0, 0)) (by (with_reducible repeat (first | refine bN ?_ _ | refine bD ?_ | refine bA ?_ _)); refine blk_far ?_ NB108_114.out _; (with_reducible repeat (first | refine bN ?_ _ | refine bD ?_ | refine bA ?_ _)); refine blk_far ?_ NB108_114.out _; (with_reducible repeat (first | refine bN ?_ _ | refine bD ?_ | refine bA ?_ _)); exact BK108.out) hb); have n5_ := aM (blk_below (g := gb114) (o := .cells #[.int .i64 t115, .slice Ao36 t116.length co36] 56 (0, 0)) (by (with_reducible repeat (first | refine bN ?_ _ | refine bD ?_ | refine bA ?_ _)); refine blk_put (cs := #[.int .i64 t115, .slice Ao15 t110.length co15]) ?_ 1 _ rfl; (with_reducible repeat (first | refine bN ?_ _ | refine bD ?_ | refine bA ?_ _)); refine blk_put (cs := #[.int .i64 t109, .slice Ao15 t110.length co15]) ?_ 0 _ rfl; (with_reducible repeat (first | refine bN ?_ _ | refine bD ?_ | refine bA ?_ _)); exact BK114.out) hb); have n6_ := aM (below_step (by repeat (first | (with_reducible first | exact HB.out | apply below_alloc | apply pw_below_drewN | apply below_drew1 | refine below_set ?_ GE108.out | refine below_set ?_ GE114.out) | exact HB.out)) hb); clear HO_109000; clear HO_109001; clear HO_115001; clear HO118; clear BK108; clear BK114; clear HB; have HO_109000 := n0_; have HO_109001 := n1_; have HO_115001 := n2_; have HO118 := n3_; have BK108 := n4_; have BK114 := n5_; have HB := n6_; clear n0_ n1_ n2_ n3_ n4_ n5_ n6_; (try clear hb); (try clear hb2); (try clear hk); (try clear hi)))
          go_ret2
          exact ⟨by first | rfl | (simp [errW_none, errW_some] <;> rfl) | (simp [*, errW_none, errW_some] <;> rfl), by repeat (first | (with_reducible first | exact HB.out | apply below_alloc | apply pw_below_drewN | apply below_drew1 | refine below_set ?_ GE108.out | refine below_set ?_ GE114.out) | exact HB.out)⟩


def spec_GoodType.f (k : Nat) (a0 : ByteArray) : Option (Bool) := (spec_leOf.f k a0).bind fun bt101 => (some bt101.2.2)
set_option maxHeartbeats 8000000 in
set_option maxRecDepth 100000 in
theorem spec_GoodType.calls (k : Nat) (a0 : ByteArray) (r : Bool) (w : World) (h : spec_GoodType.f k a0 = some r) :
    Calls Tryd.prog 9 #[.string a0] w fun e w' => e = .returned (.bool r) ∧ Below w.heap.size w w' := by
  have hu56 := Tryd.underlying56
  have HB := aM (Below.refl w.heap.size w)
  have H : ((spec_leOf.f k a0).bind fun bt101 => (some bt101.2.2)) = some r := h
  clear h
  replace H := Option.bind_eq_some_iff.mp H
  obtain ⟨⟨t101, t102, t105⟩, A20, H⟩ := H
  replace H : (some t105) = some r := H
  have A2 := aM A20
  clear A20
  obtain rfl := Option.some.inj H
  go_enter Tryd.func9, Tryd.ntmps9
  go_wp2_with (first | ((with_reducible refine gate_callee (f := 18) rfl ?_); refine goesL_ (some 7) rfl rfl Tryd.func18 (by kernel_rfl) rfl #[.string a0] rfl (by (try simp only [List.map_toArray, List.map_cons, List.map_nil]); first | done | rfl | (simp only [List.length_drop, List.length_take]; rfl)) ?_; (with_reducible refine (spec_leOf.calls k a0 t101 t102 t105 _ A2.out).mono ?_); rintro e w3 ⟨v103, rfl, ho0, hb⟩; refine ⟨_, rfl, ?_⟩; have n0_ := aM (Kd.R_lower ho0 (below_size (by repeat (first | (with_reducible first | exact HB.out | apply below_alloc | apply pw_below_drewN | apply below_drew1) | exact HB.out)))); have n1_ := aM (below_step (by repeat (first | (with_reducible first | exact HB.out | apply below_alloc | apply pw_below_drewN | apply below_drew1) | exact HB.out)) hb); clear HB; have HO104 := n0_; have HB := n1_; clear n0_ n1_; (try clear hb); (try clear hb2); (try clear hk); (try clear hi); (try clear ho0)) | ((with_reducible refine gate_dst (N := 3) rfl ?_); refine box_event ?hg (N := 3) ?hd (cs := #[.int .i64 0, .slice none 0 0]) (t := 56) ?hr ?_; (case hd => rfl); (case hg => rfl); (case hr => first | (go_simp; done) | (go_simp; rfl)); intro gb106 hg w4 hbox hb; have n0_ := aM (Kd.R_below (Kd.R_elderB (by (with_reducible repeat (first | apply rA | apply rN | apply rD)); exact HO104.out) gb106 (Nat.le_of_eq hg.symm)) hb); have n1_ := aM (below_step (by repeat (first | (with_reducible first | exact HB.out | apply below_alloc | apply pw_below_drewN | apply below_drew1) | exact HB.out)) hb); have n2_ := aM (hbox); have n3_ := aM ((by rw [hg]; exact (below_size (by repeat (first | (with_reducible first | exact HB.out | apply below_alloc | apply pw_below_drewN | apply below_drew1) | exact HB.out))) : w.heap.size ≤ gb106)); have n4_ := aM ((by rw [hg]; exact (below_size (by repeat (first | (with_reducible first | exact HB.out | apply below_alloc | apply pw_below_drewN | apply below_drew1) | exact HB.out))) : w.heap.size ≤ gb106)); clear HO104; clear HB; have HO104 := n0_; have HB := n1_; have BK106 := n2_; have GW106 := n3_; have GE106 := n4_; clear n0_ n1_ n2_ n3_ n4_; clear hb hbox hg; have hcz5_0 : w4.cell? ⟨gb106, 0, none⟩ = some (.int .i64 0) := (blk_cell BK106.out 0).trans rfl; have hcz5_1 : w4.cell? ⟨gb106, 1, none⟩ = some (.slice none 0 0) := (blk_cell BK106.out 1).trans rfl; have hfz5_0 := blk_frozen BK106.out 0; have hfz5_1 := blk_frozen BK106.out 1; obtain ⟨Ao6, co6, eo6⟩ := Kd.R_slice HO104.out; subst eo6))
  go_ret
  exact ⟨by first | rfl | (simp [errW_none, errW_some] <;> rfl) | (simp [*, errW_none, errW_some] <;> rfl), by repeat (first | (with_reducible first | exact HB.out | apply below_alloc | apply pw_below_drewN | apply below_drew1 | refine below_set ?_ GE106.out) | exact HB.out)⟩


mutual
def laws_FnInstances.j0 : Nat → ByteArray → ByteArray → Bool → Bool → Option (Bool)
  | 0, _, _, _, _ => none
  | k + 1, x4, x5, x6, x48 => if x48 = true then (some false) else (if x6 = true then ((impl_InstanceOf.f k x4 x5).bind fun bt109 => (if bt109.2 = true then (if bt109.1 = true then (laws_FnInstances.j1 k x4) else (some false)) else (some false))) else (laws_FnInstances.j1 k x4))
def laws_FnInstances.j1 : Nat → ByteArray → Option (Bool)
  | 0, _ => none
  | k + 1, x4 => (impl_PlainType.f k x4).bind fun bt111 => (if bt111.2 = true then ((impl_InstanceOf.f k x4 bt111.1).bind fun bt114 => ((impl_InstanceOf.f k bt111.1 x4).bind fun bt116 => ((impl_VarsOf.f k bt111.1).bind fun bt118 => (laws_FnInstances.l0 k bt114.1 bt114.2 bt116.1 bt116.2 bt118.2 bt118.1 (bt118.1.length : Int) 0)))) else ((spec_GoodType.f k x4).bind fun t113 => (some (!t113))))
def laws_FnInstances.l0 : Nat → Bool → Bool → Bool → Bool → Bool → List Int → Int → Int → Option (Bool)
  | 0, _, _, _, _, _, _, _, _ => none
  | k + 1, x13, x14, x15, x16, x18, x89, x90, x91 => if x91 < x90 then (if 0 ≤ x91 then (if x91 < (x89.length : Int) then (if (rd x89 x91) = x91 then (laws_FnInstances.l0 k x13 x14 x15 x16 x18 x89 x90 (wrap64 (x91 + 1))) else (some false)) else (none)) else (none)) else (if x14 = true then (if x16 = true then (if x18 = true then (if x13 = true then (some x15) else (some false)) else (some false)) else (some false)) else (some false))
end
def laws_FnInstances.f (k : Nat) (l0 : List Int) : Option (Bool) := if (l0.length : Int) > 1048576 then (some true) else ((spec_DrawApplyType.f k l0).bind fun bt101 => ((impl_ApplyType.f k bt101.1 bt101.2).bind fun bt105 => ((spec_ApplyType.f k bt101.1 bt101.2).bind fun bt107 => (if (bt105.2 != bt107.2) = true then (laws_FnInstances.j0 k bt101.2 bt105.1 bt105.2 true) else (laws_FnInstances.j0 k bt101.2 bt105.1 bt105.2 (bt105.1.toList != bt107.1.toList))))))
set_option maxHeartbeats 8000000 in
set_option maxRecDepth 100000 in
theorem laws_FnInstances.calls (k : Nat) (A0 : Option Addr) (c0 : Nat) (l0 : List Int) (r : Bool) (w : World) (hr0 : Kd.C (Kd.int .u8) w A0 l0.length l0) (hc0 : l0.length ≤ c0) (h : laws_FnInstances.f k l0 = some r) (hE : Met w) :
    Calls Tryd.prog 3 #[.slice A0 l0.length c0] w fun e w' => e = .returned (.bool r) ∧ Below w.heap.size w w' := by
  have HR0 := aM hr0
  have HC0 := aM hc0
  clear hr0 hc0
  have HB := aM (Below.refl w.heap.size w)
  have HE := aM hE
  clear hE
  have H : (if (l0.length : Int) > 1048576 then (some true) else ((spec_DrawApplyType.f k l0).bind fun bt101 => ((impl_ApplyType.f k bt101.1 bt101.2).bind fun bt105 => ((spec_ApplyType.f k bt101.1 bt101.2).bind fun bt107 => (if (bt105.2 != bt107.2) = true then (laws_FnInstances.j0 k bt101.2 bt105.1 bt105.2 true) else (laws_FnInstances.j0 k bt101.2 bt105.1 bt105.2 (bt105.1.toList != bt107.1.toList))))))) = some r := h
  clear h
  by_cases c2 : (l0.length : Int) > 1048576
  · rw [if_pos c2] at H
    have c2b0 : decide (1048576 < (l0.length : Int)) = true := decide_eq_true c2
    have c2b1 : decide (1048576 < l0.length) = true := decide_eq_true (by omega)
    clear c2
    obtain rfl := Option.some.inj H
    go_enter Tryd.func3, Tryd.ntmps3
    go_wp2
    go_ret
    exact ⟨by first | rfl | (simp [errW_none, errW_some] <;> rfl) | (simp [*, errW_none, errW_some] <;> rfl), by repeat (first | (with_reducible first | exact HB.out | apply below_alloc | apply pw_below_drewN | apply below_drew1) | exact HB.out)⟩
  · rw [if_neg c2] at H
    have c2b0 : decide (1048576 < (l0.length : Int)) = false := decide_eq_false c2
    have c2b1 : decide (1048576 < l0.length) = false := decide_eq_false (by omega)
    clear c2
    replace H := Option.bind_eq_some_iff.mp H
    obtain ⟨⟨t101, t102⟩, A30, H⟩ := H
    replace H : ((impl_ApplyType.f k t101 t102).bind fun bt105 => ((spec_ApplyType.f k t101 t102).bind fun bt107 => (if (bt105.2 != bt107.2) = true then (laws_FnInstances.j0 k t102 bt105.1 bt105.2 true) else (laws_FnInstances.j0 k t102 bt105.1 bt105.2 (bt105.1.toList != bt107.1.toList))))) = some r := H
    have A3 := aM A30
    clear A30
    replace H := Option.bind_eq_some_iff.mp H
    obtain ⟨⟨t105, t106⟩, A40, H⟩ := H
    replace H : ((spec_ApplyType.f k t101 t102).bind fun bt107 => (if (t106 != bt107.2) = true then (laws_FnInstances.j0 k t102 t105 t106 true) else (laws_FnInstances.j0 k t102 t105 t106 (t105.toList != bt107.1.toList)))) = some r := H
    have A4 := aM A40
    clear A40
    replace H := Option.bind_eq_some_iff.mp H
    obtain ⟨⟨t107, t108⟩, A50, H⟩ := H
    replace H : (if (t106 != t108) = true then (laws_FnInstances.j0 k t102 t105 t106 true) else (laws_FnInstances.j0 k t102 t105 t106 (t105.toList != t107.toList))) = some r := H
    have A5 := aM A50
    clear A50
    have HC6 := aM H
    clear H
    go_enter Tryd.func3, Tryd.ntmps3
    go_upto_region 6 with (first | ((with_reducible refine gate_callee (f := 4) rfl ?_); refine goesL_ (some 26) rfl rfl Tryd.func4 (by kernel_rfl) rfl #[.slice A0 l0.length c0] rfl (by (try simp only [List.map_toArray, List.map_cons, List.map_nil]); first | done | rfl | (simp only [List.length_drop, List.length_take]; rfl)) ?_; (with_reducible refine (spec_DrawApplyType.calls k _ _ l0 t101 t102 _ ?side1 ?side2 A3.out).mono ?_); (case side1 => repeat (first | exact HR0.out | (with_reducible refine Kd.C_alloc ?_ _) | (with_reducible refine Kd.C_drewN ?_ _) | (with_reducible refine Kd.C_drew ?_))); (case side2 => exact HC0.out); rintro e w7 ⟨v103, rfl, ho0, hb⟩; refine ⟨_, rfl, ?_⟩; have n0_ := aM (Kd.R_lower ho0 (below_size (by repeat (first | (with_reducible first | exact HB.out | apply below_alloc | apply pw_below_drewN | apply below_drew1) | exact HB.out)))); have n1_ := aM (below_step (by repeat (first | (with_reducible first | exact HB.out | apply below_alloc | apply pw_below_drewN | apply below_drew1) | exact HB.out)) hb); clear HB; have HO104 := n0_; have HB := n1_; clear n0_ n1_; (try clear hb); (try clear hb2); (try clear hk); (try clear hi); (try clear ho0); obtain ⟨Ao8, co8, eo8⟩ := Kd.R_slice HO104.out; subst eo8) | ((with_reducible refine gate_callee (f := 5) rfl ?_); refine goesL_ (some 32) rfl rfl Tryd.func5 (by kernel_rfl) rfl #[.slice Ao8 t101.length co8, .string t102] rfl (by (try simp only [List.map_toArray, List.map_cons, List.map_nil]); first | done | rfl | (simp only [List.length_drop, List.length_take]; rfl)) ?_; (with_reducible refine (impl_ApplyType.calls k _ _ t101 t102 t105 t106 _ ?side1 ?side2 A4.out (HE.out.below (by repeat (first | (with_reducible first | exact HB.out | apply below_alloc | apply pw_below_drewN | apply below_drew1) | exact HB.out)))).mono ?_); (case side1 => repeat (first | exact (Kd.R_reads' HO104.out).2.2 | (with_reducible refine Kd.C_alloc ?_ _) | (with_reducible refine Kd.C_drewN ?_ _) | (with_reducible refine Kd.C_drew ?_))); (case side2 => exact (Kd.R_reads' HO104.out).2.1); rintro e w9 ⟨rfl, hb⟩; refine ⟨_, rfl, ?_⟩; have n0_ := aM (Kd.R_below (by (with_reducible repeat (first | apply rA | apply rN | apply rD)); exact HO104.out) hb); have n1_ := aM (below_step (by repeat (first | (with_reducible first | exact HB.out | apply below_alloc | apply pw_below_drewN | apply below_drew1) | exact HB.out)) hb); clear HO104; clear HB; have HO104 := n0_; have HB := n1_; clear n0_ n1_; (try clear hb); (try clear hb2); (try clear hk); (try clear hi)) | ((with_reducible refine gate_callee (f := 6) rfl ?_); refine goesL_ (some 38) rfl rfl Tryd.func6 (by kernel_rfl) rfl #[.slice Ao8 t101.length co8, .string t102] rfl (by (try simp only [List.map_toArray, List.map_cons, List.map_nil]); first | done | rfl | (simp only [List.length_drop, List.length_take]; rfl)) ?_; (with_reducible refine (spec_ApplyType.calls k _ _ t101 t102 t107 t108 _ ?side1 ?side2 A5.out).mono ?_); (case side1 => repeat (first | exact (Kd.R_reads' HO104.out).2.2 | (with_reducible refine Kd.C_alloc ?_ _) | (with_reducible refine Kd.C_drewN ?_ _) | (with_reducible refine Kd.C_drew ?_))); (case side2 => exact (Kd.R_reads' HO104.out).2.1); rintro e w10 ⟨rfl, hb⟩; refine ⟨_, rfl, ?_⟩; have n0_ := aM (Kd.R_below (by (with_reducible repeat (first | apply rA | apply rN | apply rD)); exact HO104.out) hb); have n1_ := aM (below_step (by repeat (first | (with_reducible first | exact HB.out | apply below_alloc | apply pw_below_drewN | apply below_drew1) | exact HB.out)) hb); clear HO104; clear HB; have HO104 := n0_; have HB := n1_; clear n0_ n1_; (try clear hb); (try clear hb2); (try clear hk); (try clear hi)))
    (try simp only [Act.put, List.setIfInBounds_toArray, List.set_cons_zero, List.set_cons_succ])
    go_cut [48] (fun v48 wc => ∃ (kq : Nat) (x48_5 : Bool), v48 = .bool x48_5 ∧ Aside0 (laws_FnInstances.j0 kq t102 t105 t106 x48_5 = some r) ∧ Aside0 (kq ≤ k) ∧ Aside0 (Below w.heap.size w wc))
    case first =>
      have H := HC6.out
      clear HC6
      by_cases c11 : (t106 != t108) = true
      · rw [if_pos c11] at H
        have c11b0 : (t106 != t108) = true := c11
        (try (have c11b1 : decide (t106 = t108) = false := by simpa using c11))
        (try (have c11b2 : (t106 == t108) = false := by simpa using c11))
        (try (have c11b3 : ¬ (t106 = t108) := by simpa using c11))
        clear c11
        (first | rw [c11b0] | (simp only [i64_w, i32_w]; rw [c11b0]) | skip)
        have H' := aM H
        clear H
        go_wp2
        go_meet
        case rel => exact ⟨_, (true), (by first | rfl | (simp; done) | (simp [*]; done)), H', ⟨by first | omega | exact Nat.le_refl _⟩, ⟨by repeat (first | (with_reducible first | exact HB.out | apply below_alloc | apply pw_below_drewN | apply below_drew1) | exact HB.out)⟩⟩
      · rw [if_neg c11] at H
        have c11b0 : (t106 != t108) = false := by simpa using c11
        (try (have c11b1 : decide (t106 = t108) = true := by simpa using c11))
        (try (have c11b2 : (t106 == t108) = true := by simpa using c11))
        clear c11
        (first | rw [c11b0] | (simp only [i64_w, i32_w]; rw [c11b0]) | skip)
        have H' := aM H
        clear H
        go_wp2
        go_meet
        case rel => exact ⟨_, ((t105.toList != t107.toList)), (by first | rfl | (simp; done) | (simp [*]; done)), H', ⟨by first | omega | exact Nat.le_refl _⟩, ⟨by repeat (first | (with_reducible first | exact HB.out | apply below_alloc | apply pw_below_drewN | apply below_drew1) | exact HB.out)⟩⟩
    case rest =>
      clear HC6
      try clear c1
      try clear c2
      try clear c2b0
      try clear c2b1
      try clear p2
      try clear c3
      try clear c4
      try clear c5
      try clear c6
      try clear c11
      try clear c11b0
      try clear c11b1
      try clear c11b2
      obtain ⟨kq, x48_5, rfl, HA, HJ5, HB⟩ := hcut
      cases kq with
      | zero => exact absurd HA.out (by simp [laws_FnInstances.j0])
      | succ kj5 =>
        have H := HA.out
        clear HA
        simp only [laws_FnInstances.j0] at H
        by_cases c12 : x48_5 = true
        · subst c12
          have H1 : (some false) = some r := by rw [if_pos rfl] at H; exact H
          clear H
          have H := H1
          clear H1
          obtain rfl := Option.some.inj H
          go_wp2
          go_ret
          exact ⟨by first | rfl | (simp [errW_none, errW_some] <;> rfl) | (simp [*, errW_none, errW_some] <;> rfl), by repeat (first | (with_reducible first | exact HB.out | apply below_alloc | apply pw_below_drewN | apply below_drew1) | exact HB.out)⟩
        · replace c12 := Bool.eq_false_iff.mpr c12
          subst c12
          have H1 : (if t106 = true then ((impl_InstanceOf.f kj5 t102 t105).bind fun bt109 => (if bt109.2 = true then (if bt109.1 = true then (laws_FnInstances.j1 kj5 t102) else (some false)) else (some false))) else (laws_FnInstances.j1 kj5 t102)) = some r := by rw [if_neg (show ¬ (false = true) by decide)] at H; exact H
          clear H
          have H := H1
          clear H1
          have HC13 := aM H
          clear H
          go_upto_if 49 with (fail)
          go_cut [] (fun wc => ∃ (kq : Nat), Aside0 (laws_FnInstances.j1 kq t102 = some r) ∧ Aside0 (kq ≤ kj5) ∧ Aside0 (Below w.heap.size w wc))
          case first =>
            have H := HC13.out
            clear HC13
            by_cases c14 : t106 = true
            · subst c14
              have H1 : ((impl_InstanceOf.f kj5 t102 t105).bind fun bt109 => (if bt109.2 = true then (if bt109.1 = true then (laws_FnInstances.j1 kj5 t102) else (some false)) else (some false))) = some r := by rw [if_pos rfl] at H; exact H
              clear H
              have H := H1
              clear H1
              replace H := Option.bind_eq_some_iff.mp H
              obtain ⟨⟨t109, t110⟩, A150, H⟩ := H
              replace H : (if t110 = true then (if t109 = true then (laws_FnInstances.j1 kj5 t102) else (some false)) else (some false)) = some r := H
              have A15 := aM A150
              clear A150
              by_cases c16 : t110 = true
              · subst c16
                have H1 : (if t109 = true then (laws_FnInstances.j1 kj5 t102) else (some false)) = some r := by rw [if_pos rfl] at H; exact H
                clear H
                have H := H1
                clear H1
                by_cases c17 : t109 = true
                · subst c17
                  have H1 : (laws_FnInstances.j1 kj5 t102) = some r := by rw [if_pos rfl] at H; exact H
                  clear H
                  have H := H1
                  clear H1
                  have H' := aM H
                  clear H
                  go_wp2_with (first | ((with_reducible refine gate_callee (f := 7) rfl ?_); refine goesL_ (some 53) rfl rfl Tryd.func7 (by kernel_rfl) rfl #[.string t102, .string t105] rfl (by (try simp only [List.map_toArray, List.map_cons, List.map_nil]); first | done | rfl | (simp only [List.length_drop, List.length_take]; rfl)) ?_; (with_reducible refine (impl_InstanceOf.calls kj5 t102 t105 true true _ A15.out (HE.out.below (by repeat (first | (with_reducible first | exact HB.out | apply below_alloc | apply pw_below_drewN | apply below_drew1) | exact HB.out)))).mono ?_); rintro e w18 ⟨rfl, hb⟩; refine ⟨_, rfl, ?_⟩; have n0_ := aM (below_step (by repeat (first | (with_reducible first | exact HB.out | apply below_alloc | apply pw_below_drewN | apply below_drew1) | exact HB.out)) hb); clear HB; have HB := n0_; clear n0_; (try clear hb); (try clear hb2); (try clear hk); (try clear hi)))
                  go_meet
                  case rel => exact ⟨_, H', ⟨by have := HJ5.out; first | omega | exact Nat.le_refl _⟩, ⟨by repeat (first | (with_reducible first | exact HB.out | apply below_alloc | apply pw_below_drewN | apply below_drew1) | exact HB.out)⟩⟩
                · replace c17 := Bool.eq_false_iff.mpr c17
                  subst c17
                  have H1 : (some false) = some r := by rw [if_neg (show ¬ (false = true) by decide)] at H; exact H
                  clear H
                  have H := H1
                  clear H1
                  obtain rfl := Option.some.inj H
                  go_wp2_with (first | ((with_reducible refine gate_callee (f := 7) rfl ?_); refine goesL_ (some 53) rfl rfl Tryd.func7 (by kernel_rfl) rfl #[.string t102, .string t105] rfl (by (try simp only [List.map_toArray, List.map_cons, List.map_nil]); first | done | rfl | (simp only [List.length_drop, List.length_take]; rfl)) ?_; (with_reducible refine (impl_InstanceOf.calls kj5 t102 t105 false true _ A15.out (HE.out.below (by repeat (first | (with_reducible first | exact HB.out | apply below_alloc | apply pw_below_drewN | apply below_drew1) | exact HB.out)))).mono ?_); rintro e w19 ⟨rfl, hb⟩; refine ⟨_, rfl, ?_⟩; have n0_ := aM (below_step (by repeat (first | (with_reducible first | exact HB.out | apply below_alloc | apply pw_below_drewN | apply below_drew1) | exact HB.out)) hb); clear HB; have HB := n0_; clear n0_; (try clear hb); (try clear hb2); (try clear hk); (try clear hi)))
                  go_ret
                  exact ⟨by first | rfl | (simp [errW_none, errW_some] <;> rfl) | (simp [*, errW_none, errW_some] <;> rfl), by repeat (first | (with_reducible first | exact HB.out | apply below_alloc | apply pw_below_drewN | apply below_drew1) | exact HB.out)⟩
              · replace c16 := Bool.eq_false_iff.mpr c16
                subst c16
                have H1 : (some false) = some r := by rw [if_neg (show ¬ (false = true) by decide)] at H; exact H
                clear H
                have H := H1
                clear H1
                obtain rfl := Option.some.inj H
                go_wp2_with (first | ((with_reducible refine gate_callee (f := 7) rfl ?_); refine goesL_ (some 53) rfl rfl Tryd.func7 (by kernel_rfl) rfl #[.string t102, .string t105] rfl (by (try simp only [List.map_toArray, List.map_cons, List.map_nil]); first | done | rfl | (simp only [List.length_drop, List.length_take]; rfl)) ?_; (with_reducible refine (impl_InstanceOf.calls kj5 t102 t105 t109 false _ A15.out (HE.out.below (by repeat (first | (with_reducible first | exact HB.out | apply below_alloc | apply pw_below_drewN | apply below_drew1) | exact HB.out)))).mono ?_); rintro e w20 ⟨rfl, hb⟩; refine ⟨_, rfl, ?_⟩; have n0_ := aM (below_step (by repeat (first | (with_reducible first | exact HB.out | apply below_alloc | apply pw_below_drewN | apply below_drew1) | exact HB.out)) hb); clear HB; have HB := n0_; clear n0_; (try clear hb); (try clear hb2); (try clear hk); (try clear hi)))
                go_ret
                exact ⟨by first | rfl | (simp [errW_none, errW_some] <;> rfl) | (simp [*, errW_none, errW_some] <;> rfl), by repeat (first | (with_reducible first | exact HB.out | apply below_alloc | apply pw_below_drewN | apply below_drew1) | exact HB.out)⟩
            · replace c14 := Bool.eq_false_iff.mpr c14
              subst c14
              have H1 : (laws_FnInstances.j1 kj5 t102) = some r := by rw [if_neg (show ¬ (false = true) by decide)] at H; exact H
              clear H
              have H := H1
              clear H1
              have H' := aM H
              clear H
              go_wp2
              go_meet
              case rel => exact ⟨_, H', ⟨by have := HJ5.out; first | omega | exact Nat.le_refl _⟩, ⟨by repeat (first | (with_reducible first | exact HB.out | apply below_alloc | apply pw_below_drewN | apply below_drew1) | exact HB.out)⟩⟩
          case rest =>
            clear HC13
            try clear c1
            try clear c2
            try clear c2b0
            try clear c2b1
            try clear p2
            try clear c3
            try clear c4
            try clear c5
            try clear c6
            try clear c7
            try clear c11
            try clear c11b0
            try clear c11b1
            try clear c11b2
            try clear c12
            try clear c14
            try clear c16
            try clear c17
            try clear p2
            obtain ⟨kq, HA, HJ12, HB⟩ := hcut
            cases kq with
            | zero => exact absurd HA.out (by simp [laws_FnInstances.j1])
            | succ kj12 =>
              have H := HA.out
              clear HA
              simp only [laws_FnInstances.j1] at H
              replace H := Option.bind_eq_some_iff.mp H
              obtain ⟨⟨t111, t112⟩, A210, H⟩ := H
              replace H : (if t112 = true then ((impl_InstanceOf.f kj12 t102 t111).bind fun bt114 => ((impl_InstanceOf.f kj12 t111 t102).bind fun bt116 => ((impl_VarsOf.f kj12 t111).bind fun bt118 => (laws_FnInstances.l0 kj12 bt114.1 bt114.2 bt116.1 bt116.2 bt118.2 bt118.1 (bt118.1.length : Int) 0)))) else ((spec_GoodType.f kj12 t102).bind fun t113 => (some (!t113)))) = some r := H
              have A21 := aM A210
              clear A210
              by_cases c22 : t112 = true
              · subst c22
                have H1 : ((impl_InstanceOf.f kj12 t102 t111).bind fun bt114 => ((impl_InstanceOf.f kj12 t111 t102).bind fun bt116 => ((impl_VarsOf.f kj12 t111).bind fun bt118 => (laws_FnInstances.l0 kj12 bt114.1 bt114.2 bt116.1 bt116.2 bt118.2 bt118.1 (bt118.1.length : Int) 0)))) = some r := by rw [if_pos rfl] at H; exact H
                clear H
                have H := H1
                clear H1
                replace H := Option.bind_eq_some_iff.mp H
                obtain ⟨⟨t114, t115⟩, A230, H⟩ := H
                replace H : ((impl_InstanceOf.f kj12 t111 t102).bind fun bt116 => ((impl_VarsOf.f kj12 t111).bind fun bt118 => (laws_FnInstances.l0 kj12 t114 t115 bt116.1 bt116.2 bt118.2 bt118.1 (bt118.1.length : Int) 0))) = some r := H
                have A23 := aM A230
                clear A230
                replace H := Option.bind_eq_some_iff.mp H
                obtain ⟨⟨t116, t117⟩, A240, H⟩ := H
                replace H : ((impl_VarsOf.f kj12 t111).bind fun bt118 => (laws_FnInstances.l0 kj12 t114 t115 t116 t117 bt118.2 bt118.1 (bt118.1.length : Int) 0)) = some r := H
                have A24 := aM A240
                clear A240
                replace H := Option.bind_eq_some_iff.mp H
                obtain ⟨⟨t118, t119⟩, A250, H⟩ := H
                replace H : (laws_FnInstances.l0 kj12 t114 t115 t116 t117 t119 t118 (t118.length : Int) 0) = some r := H
                have A25 := aM A250
                clear A250
                have H' := aM H
                clear H
                go_wp2_with (first | ((with_reducible refine gate_callee (f := 8) rfl ?_); refine goesL_ (some 64) rfl rfl Tryd.func8 (by kernel_rfl) rfl #[.string t102] rfl (by (try simp only [List.map_toArray, List.map_cons, List.map_nil]); first | done | rfl | (simp only [List.length_drop, List.length_take]; rfl)) ?_; (with_reducible refine (impl_PlainType.calls kj12 t102 t111 true _ A21.out (HE.out.below (by repeat (first | (with_reducible first | exact HB.out | apply below_alloc | apply pw_below_drewN | apply below_drew1) | exact HB.out)))).mono ?_); rintro e w26 ⟨rfl, hb⟩; refine ⟨_, rfl, ?_⟩; have n0_ := aM (below_step (by repeat (first | (with_reducible first | exact HB.out | apply below_alloc | apply pw_below_drewN | apply below_drew1) | exact HB.out)) hb); clear HB; have HB := n0_; clear n0_; (try clear hb); (try clear hb2); (try clear hk); (try clear hi)) | ((with_reducible refine gate_callee (f := 7) rfl ?_); refine goesL_ (some 75) rfl rfl Tryd.func7 (by kernel_rfl) rfl #[.string t102, .string t111] rfl (by (try simp only [List.map_toArray, List.map_cons, List.map_nil]); first | done | rfl | (simp only [List.length_drop, List.length_take]; rfl)) ?_; (with_reducible refine (impl_InstanceOf.calls kj12 t102 t111 t114 t115 _ A23.out (HE.out.below (by repeat (first | (with_reducible first | exact HB.out | apply below_alloc | apply pw_below_drewN | apply below_drew1) | exact HB.out)))).mono ?_); rintro e w27 ⟨rfl, hb⟩; refine ⟨_, rfl, ?_⟩; have n0_ := aM (below_step (by repeat (first | (with_reducible first | exact HB.out | apply below_alloc | apply pw_below_drewN | apply below_drew1) | exact HB.out)) hb); clear HB; have HB := n0_; clear n0_; (try clear hb); (try clear hb2); (try clear hk); (try clear hi)) | ((with_reducible refine gate_callee (f := 7) rfl ?_); refine goesL_ (some 81) rfl rfl Tryd.func7 (by kernel_rfl) rfl #[.string t111, .string t102] rfl (by (try simp only [List.map_toArray, List.map_cons, List.map_nil]); first | done | rfl | (simp only [List.length_drop, List.length_take]; rfl)) ?_; (with_reducible refine (impl_InstanceOf.calls kj12 t111 t102 t116 t117 _ A24.out (HE.out.below (by repeat (first | (with_reducible first | exact HB.out | apply below_alloc | apply pw_below_drewN | apply below_drew1) | exact HB.out)))).mono ?_); rintro e w28 ⟨rfl, hb⟩; refine ⟨_, rfl, ?_⟩; have n0_ := aM (below_step (by repeat (first | (with_reducible first | exact HB.out | apply below_alloc | apply pw_below_drewN | apply below_drew1) | exact HB.out)) hb); clear HB; have HB := n0_; clear n0_; (try clear hb); (try clear hb2); (try clear hk); (try clear hi)) | ((with_reducible refine gate_callee (f := 10) rfl ?_); refine goesL_ (some 86) rfl rfl Tryd.func10 (by kernel_rfl) rfl #[.string t111] rfl (by (try simp only [List.map_toArray, List.map_cons, List.map_nil]); first | done | rfl | (simp only [List.length_drop, List.length_take]; rfl)) ?_; (with_reducible refine (impl_VarsOf.calls kj12 t111 t118 t119 _ A25.out (HE.out.below (by repeat (first | (with_reducible first | exact HB.out | apply below_alloc | apply pw_below_drewN | apply below_drew1) | exact HB.out)))).mono ?_); rintro e w29 ⟨v120, rfl, ho0, hb⟩; refine ⟨_, rfl, ?_⟩; have n0_ := aM (Kd.R_lower ho0 (below_size (by repeat (first | (with_reducible first | exact HB.out | apply below_alloc | apply pw_below_drewN | apply below_drew1) | exact HB.out)))); have n1_ := aM (below_step (by repeat (first | (with_reducible first | exact HB.out | apply below_alloc | apply pw_below_drewN | apply below_drew1) | exact HB.out)) hb); clear HB; have HO121 := n0_; have HB := n1_; clear n0_ n1_; (try clear hb); (try clear hb2); (try clear hk); (try clear hi); (try clear ho0); obtain ⟨Ao30, co30, eo30⟩ := Kd.R_slice HO121.out; subst eo30))
                go_loopg [91] kj12 (fun kq v91 w' => ∃ (x91_3 : Int), v91 = .int .i64 x91_3 ∧ Aside0 (laws_FnInstances.l0 kq t114 t115 t116 t117 t119 t118 (t118.length : Int) x91_3 = some r) ∧ Aside0 (kq ≤ kj12) ∧ Aside0 (Kd.R (Kd.int .i64) 3 w' w.heap.size (fun _ => True) (.slice Ao30 t118.length co30) t118) ∧ Aside0 (Below w.heap.size w w'))
                case atStart => exact ⟨(0), (by first | rfl | (simp; done) | (simp [*]; done)), H', ⟨Nat.le_refl _⟩, ⟨by (with_reducible repeat (first | apply rA | apply rN | apply rD)); exact HO121.out⟩, ⟨by repeat (first | (with_reducible first | exact HB.out | apply below_alloc | apply pw_below_drewN | apply below_drew1) | exact HB.out)⟩⟩
                case round =>
                  clear H'
                  try clear c1
                  try clear c2
                  try clear c2b0
                  try clear c2b1
                  try clear p2
                  try clear c3
                  try clear c4
                  try clear c5
                  try clear c6
                  try clear c7
                  try clear c8
                  try clear c10
                  try clear c11
                  try clear c11b0
                  try clear c11b1
                  try clear c11b2
                  try clear c12
                  try clear c14
                  try clear c16
                  try clear c17
                  try clear c22
                  try clear p2
                  obtain ⟨x91_3, rfl, HA, HK3, HO_89, HB⟩ := hrel
                  cases gk with
                  | zero => exact absurd HA.out (by simp [laws_FnInstances.l0])
                  | succ k3 =>
                    have H := HA.out
                    clear HA
                    simp only [laws_FnInstances.l0] at H
                    by_cases c31 : x91_3 < (t118.length : Int)
                    · rw [if_pos c31] at H
                      have c31b0 : decide (x91_3 < (t118.length : Int)) = true := decide_eq_true c31
                      clear c31
                      by_cases c32 : 0 ≤ x91_3
                      · rw [if_pos c32] at H
                        have c32b0 : decide (0 ≤ x91_3) = true := decide_eq_true c32
                        clear c32
                        by_cases c33 : x91_3 < (t118.length : Int)
                        · rw [if_pos c33] at H
                          have c33b0 : decide (x91_3 < (t118.length : Int)) = true := decide_eq_true c33
                          clear c33
                          by_cases c34 : (rd t118 x91_3) = x91_3
                          · rw [if_pos c34] at H
                            have c34b0 : ((rd t118 x91_3) == x91_3) = true := beq_iff_eq.mpr c34
                            have c34b1 : ((rd t118 x91_3) != x91_3) = false := bne_eq_false_iff_eq.mpr c34
                            clear c34
                            have H' := aM H
                            clear H
                            have p122 : 0 ≤ (x91_3 : Int) := of_decide_eq_true (by first | (with_reducible assumption) | assumption)
                            have q122 : x91_3 < (t118.length : Int) := of_decide_eq_true (by first | (with_reducible assumption) | assumption)
                            obtain ⟨ad122, e122, hx122_0⟩ := Kd.at_int (Kd.R_reads' HO_89.out).2.2 x91_3 p122 q122
                            cases e122
                            replace p122 := eq_true p122
                            replace q122 := eq_true q122
                            go_wp2
                            go_roundg k3
                            case measure => have := HJ5.out; have := HJ12.out; have := HK3.out; omega
                            case rel => exact ⟨(wrap64 (x91_3 + 1)), (by first | rfl | (simp; done) | (simp [*]; done)), H', ⟨by have := HJ5.out; have := HJ12.out; have := HK3.out; omega⟩, ⟨by (with_reducible repeat (first | apply rA | apply rN | apply rD)); exact HO_89.out⟩, ⟨by repeat (first | (with_reducible first | exact HB.out | apply below_alloc | apply pw_below_drewN | apply below_drew1) | exact HB.out)⟩⟩
                          · rw [if_neg c34] at H
                            have c34b0 : ((rd t118 x91_3) == x91_3) = false := beq_eq_false_iff_ne.mpr c34
                            have c34b1 : ((rd t118 x91_3) != x91_3) = true := bne_iff_ne.mpr c34
                            obtain rfl := Option.some.inj H
                            have p122 : 0 ≤ (x91_3 : Int) := of_decide_eq_true (by first | (with_reducible assumption) | assumption)
                            have q122 : x91_3 < (t118.length : Int) := of_decide_eq_true (by first | (with_reducible assumption) | assumption)
                            obtain ⟨ad122, e122, hx122_0⟩ := Kd.at_int (Kd.R_reads' HO_89.out).2.2 x91_3 p122 q122
                            cases e122
                            replace p122 := eq_true p122
                            replace q122 := eq_true q122
                            go_wp2
                            go_ret
                            exact ⟨by first | rfl | (simp [errW_none, errW_some] <;> rfl) | (simp [*, errW_none, errW_some] <;> rfl), by repeat (first | (with_reducible first | exact HB.out | apply below_alloc | apply pw_below_drewN | apply below_drew1) | exact HB.out)⟩
                        · rw [if_neg c33] at H
                          exact absurd H (by simp)
                      · rw [if_neg c32] at H
                        exact absurd H (by simp)
                    · rw [if_neg c31] at H
                      have c31b0 : decide (x91_3 < (t118.length : Int)) = false := decide_eq_false c31
                      clear c31
                      by_cases c35 : t115 = true
                      · subst c35
                        have H1 : (if t117 = true then (if t119 = true then (if t114 = true then (some t116) else (some false)) else (some false)) else (some false)) = some r := by rw [if_pos rfl] at H; exact H
                        clear H
                        have H := H1
                        clear H1
                        by_cases c36 : t117 = true
                        · subst c36
                          have H1 : (if t119 = true then (if t114 = true then (some t116) else (some false)) else (some false)) = some r := by rw [if_pos rfl] at H; exact H
                          clear H
                          have H := H1
                          clear H1
                          by_cases c37 : t119 = true
                          · subst c37
                            have H1 : (if t114 = true then (some t116) else (some false)) = some r := by rw [if_pos rfl] at H; exact H
                            clear H
                            have H := H1
                            clear H1
                            by_cases c38 : t114 = true
                            · subst c38
                              have H1 : (some t116) = some r := by rw [if_pos rfl] at H; exact H
                              clear H
                              have H := H1
                              clear H1
                              obtain rfl := Option.some.inj H
                              go_wp2
                              go_ret
                              exact ⟨by first | rfl | (simp [errW_none, errW_some] <;> rfl) | (simp [*, errW_none, errW_some] <;> rfl), by repeat (first | (with_reducible first | exact HB.out | apply below_alloc | apply pw_below_drewN | apply below_drew1) | exact HB.out)⟩
                            · replace c38 := Bool.eq_false_iff.mpr c38
                              subst c38
                              have H1 : (some false) = some r := by rw [if_neg (show ¬ (false = true) by decide)] at H; exact H
                              clear H
                              have H := H1
                              clear H1
                              obtain rfl := Option.some.inj H
                              go_wp2
                              go_ret
                              exact ⟨by first | rfl | (simp [errW_none, errW_some] <;> rfl) | (simp [*, errW_none, errW_some] <;> rfl), by repeat (first | (with_reducible first | exact HB.out | apply below_alloc | apply pw_below_drewN | apply below_drew1) | exact HB.out)⟩
                          · replace c37 := Bool.eq_false_iff.mpr c37
                            subst c37
                            have H1 : (some false) = some r := by rw [if_neg (show ¬ (false = true) by decide)] at H; exact H
                            clear H
                            have H := H1
                            clear H1
                            obtain rfl := Option.some.inj H
                            go_wp2
                            go_ret
                            exact ⟨by first | rfl | (simp [errW_none, errW_some] <;> rfl) | (simp [*, errW_none, errW_some] <;> rfl), by repeat (first | (with_reducible first | exact HB.out | apply below_alloc | apply pw_below_drewN | apply below_drew1) | exact HB.out)⟩
                        · replace c36 := Bool.eq_false_iff.mpr c36
                          subst c36
                          have H1 : (some false) = some r := by rw [if_neg (show ¬ (false = true) by decide)] at H; exact H
                          clear H
                          have H := H1
                          clear H1
                          obtain rfl := Option.some.inj H
                          go_wp2
                          go_ret
                          exact ⟨by first | rfl | (simp [errW_none, errW_some] <;> rfl) | (simp [*, errW_none, errW_some] <;> rfl), by repeat (first | (with_reducible first | exact HB.out | apply below_alloc | apply pw_below_drewN | apply below_drew1) | exact HB.out)⟩
                      · replace c35 := Bool.eq_false_iff.mpr c35
                        subst c35
                        have H1 : (some false) = some r := by rw [if_neg (show ¬ (false = true) by decide)] at H; exact H
                        clear H
                        have H := H1
                        clear H1
                        obtain rfl := Option.some.inj H
                        go_wp2
                        go_ret
                        exact ⟨by first | rfl | (simp [errW_none, errW_some] <;> rfl) | (simp [*, errW_none, errW_some] <;> rfl), by repeat (first | (with_reducible first | exact HB.out | apply below_alloc | apply pw_below_drewN | apply below_drew1) | exact HB.out)⟩
              · replace c22 := Bool.eq_false_iff.mpr c22
                subst c22
                have H1 : ((spec_GoodType.f kj12 t102).bind fun t113 => (some (!t113))) = some r := by rw [if_neg (show ¬ (false = true) by decide)] at H; exact H
                clear H
                have H := H1
                clear H1
                replace H := Option.bind_eq_some_iff.mp H
                obtain ⟨t113, A390, H⟩ := H
                replace H : (some (!t113)) = some r := H
                have A39 := aM A390
                clear A390
                obtain rfl := Option.some.inj H
                go_wp2_with (first | ((with_reducible refine gate_callee (f := 8) rfl ?_); refine goesL_ (some 64) rfl rfl Tryd.func8 (by kernel_rfl) rfl #[.string t102] rfl (by (try simp only [List.map_toArray, List.map_cons, List.map_nil]); first | done | rfl | (simp only [List.length_drop, List.length_take]; rfl)) ?_; (with_reducible refine (impl_PlainType.calls kj12 t102 t111 false _ A21.out (HE.out.below (by repeat (first | (with_reducible first | exact HB.out | apply below_alloc | apply pw_below_drewN | apply below_drew1) | exact HB.out)))).mono ?_); rintro e w40 ⟨rfl, hb⟩; refine ⟨_, rfl, ?_⟩; have n0_ := aM (below_step (by repeat (first | (with_reducible first | exact HB.out | apply below_alloc | apply pw_below_drewN | apply below_drew1) | exact HB.out)) hb); clear HB; have HB := n0_; clear n0_; (try clear hb); (try clear hb2); (try clear hk); (try clear hi)) | ((with_reducible refine gate_callee (f := 9) rfl ?_); refine goesL_ (some 70) rfl rfl Tryd.func9 (by kernel_rfl) rfl #[.string t102] rfl (by (try simp only [List.map_toArray, List.map_cons, List.map_nil]); first | done | rfl | (simp only [List.length_drop, List.length_take]; rfl)) ?_; (with_reducible refine (spec_GoodType.calls kj12 t102 t113 _ A39.out).mono ?_); rintro e w41 ⟨rfl, hb⟩; refine ⟨_, rfl, ?_⟩; have n0_ := aM (below_step (by repeat (first | (with_reducible first | exact HB.out | apply below_alloc | apply pw_below_drewN | apply below_drew1) | exact HB.out)) hb); clear HB; have HB := n0_; clear n0_; (try clear hb); (try clear hb2); (try clear hk); (try clear hi)))
                go_ret
                exact ⟨by first | rfl | (simp [errW_none, errW_some] <;> rfl) | (simp [*, errW_none, errW_some] <;> rfl), by repeat (first | (with_reducible first | exact HB.out | apply below_alloc | apply pw_below_drewN | apply below_drew1) | exact HB.out)⟩

def laws_FnInstances.Pure : Prop := ∀ (l0 : List Int), l0.length * 1 ≤ 140737488351232 → (l0.length ≤ 9223372036854775807 ∧ ∀ x_ ∈ l0, (Lit.int .u8 x_).wf = true) → ∃ k, laws_FnInstances.f k l0 = some true

end Go.Proofs.YtlkjikknofmcdaaDoor.G

namespace Go.Proofs.YtlkjikknofmcdaaDoor.G
open Go.RowKit Go.Proofs.YtlkjikknofmcdaaDoor.EvL Go.Proofs.YtlkjikknofmcdaaDoor.TxtL Go.Proofs.YtlkjikknofmcdaaDoor.ReadM Go.Proofs.YtlkjikknofmcdaaDoorW.PrintWords
set_option linter.unusedVariables false
set_option linter.unusedSimpArgs false

def Ty.dep : Ty → Nat
  | .v _ => 1
  | .a l r => 1 + max l.dep r.dep
def Ty.lim : Ty → Prop
  | .v n => 0 ≤ n ∧ n ≤ 999
  | .a l r => l.lim ∧ r.lim
theorem dep_nodes : ∀ t : Ty, t.dep ≤ t.nodes
  | .v _ => Nat.le_refl _
  | .a l r => by
    have h1 := dep_nodes l
    have h2 := dep_nodes r
    show 1 + max l.dep r.dep ≤ 1 + l.nodes + r.nodes
    omega
theorem dep_pos : ∀ t : Ty, 1 ≤ t.dep
  | .v _ => Nat.le_refl _
  | .a l r => by show 1 ≤ 1 + _; omega
theorem nodes_dep : ∀ t : Ty, t.nodes + 1 ≤ 2 ^ t.dep
  | .v _ => Nat.le_refl _
  | .a l r => by
    have h1 := nodes_dep l
    have h2 := nodes_dep r
    have a1 : 2 ^ l.dep ≤ 2 ^ (max l.dep r.dep) := Nat.pow_le_pow_right (by omega) (by omega)
    have a2 : 2 ^ r.dep ≤ 2 ^ (max l.dep r.dep) := Nat.pow_le_pow_right (by omega) (by omega)
    show 1 + l.nodes + r.nodes + 1 ≤ 2 ^ (1 + max l.dep r.dep)
    rw [Nat.add_comm 1 (max l.dep r.dep), Nat.pow_succ]
    omega
theorem lim_ok : ∀ t : Ty, t.lim → t.ok
  | .v n, h => by
    have h' : 0 ≤ n ∧ n ≤ 999 := h
    show 0 ≤ n ∧ n ≤ 9223372036854775807
    omega
  | .a l r, h => ⟨lim_ok l h.1, lim_ok r h.2⟩
theorem meas_all : ∀ (t : Ty) (m : Int), (t.nodes : Int) ≤ m → t.meas m = ((t.nodes : Int), (t.dep : Int))
  | .v n, m, h => rfl
  | .a l r, m, h => by
    have hn : ((Ty.a l r).nodes : Int) = 1 + l.nodes + r.nodes := by show ((1 + l.nodes + r.nodes : Nat) : Int) = _; omega
    have hd : ((Ty.a l r).dep : Int) = 1 + max (l.dep : Int) (r.dep : Int) := by show ((1 + max l.dep r.dep : Nat) : Int) = _; omega
    rw [hn] at h
    have e1 := meas_all l (m - 1) (by omega)
    have e2 := meas_all r (m - (1 + l.nodes)) (by omega)
    have s1 : mstep l.meas m (1, 0) = (1 + (l.nodes : Int), (l.dep : Int)) := by
      unfold mstep
      dsimp only
      rw [e1]
      have := dep_pos l
      exact Prod.ext rfl (show max (0 : Int) (l.dep : Int) = (l.dep : Int) by omega)
    have s2 : mstep r.meas m (1 + (l.nodes : Int), (l.dep : Int)) = (1 + (l.nodes : Int) + r.nodes, max (l.dep : Int) r.dep) := by
      unfold mstep
      dsimp only
      rw [e2]
    unfold Ty.meas
    rw [s1]
    dsimp only
    rw [if_neg (by omega), if_neg (by omega), s2, hn, hd]
    exact Prod.ext rfl (show max (l.dep : Int) (r.dep : Int) + 1 = 1 + max (l.dep : Int) (r.dep : Int) by omega)
theorem lim_vars : ∀ t : Ty, t.lim ↔ ∀ n ∈ t.vars, 0 ≤ n ∧ n ≤ 999
  | .v n => by
    show (0 ≤ n ∧ n ≤ 999) ↔ ∀ x ∈ [n], 0 ≤ x ∧ x ≤ 999
    simp
  | .a l r => by
    show (l.lim ∧ r.lim) ↔ ∀ n ∈ r.vars.foldl vstep l.vars, 0 ≤ n ∧ n ≤ 999
    rw [lim_vars l, lim_vars r]
    constructor
    · rintro ⟨h1, h2⟩ n hn
      rcases (vfold_mem r.vars l.vars).mp hn with h | h
      · exact h1 n h
      · exact h2 n h
    · exact fun h => ⟨fun n hn => h n ((vfold_mem r.vars l.vars).mpr (.inl hn)), fun n hn => h n ((vfold_mem r.vars l.vars).mpr (.inr hn))⟩
theorem good_iff (t : Ty) : t.good = true ↔ t.nodes ≤ 200 ∧ t.dep ≤ 60 ∧ t.lim := by
  rw [lim_vars]
  have hv : (!(t.vars.any noVar)) = true ↔ ∀ n ∈ t.vars, 0 ≤ n ∧ n ≤ 999 := by
    rw [Bool.not_eq_true', List.any_eq_false]
    constructor
    · intro h n hn
      have := h n hn
      unfold noVar at this
      simp only [Bool.or_eq_true, decide_eq_true_eq, not_or, Int.not_lt] at this
      exact this
    · intro h n hn
      have := h n hn
      unfold noVar
      simp only [Bool.or_eq_true, decide_eq_true_eq, not_or, Int.not_lt]
      exact this
  unfold Ty.good
  rw [Bool.and_eq_true, Bool.and_eq_true, hv, decide_eq_true_eq, decide_eq_true_eq]
  constructor
  · rintro ⟨⟨h1, h2⟩, h3⟩
    have hn := meas_nodes t 200 h1
    have e := meas_all t 200 (by omega)
    rw [e] at h2
    dsimp only at h2
    exact ⟨by omega, by omega, h3⟩
  · rintro ⟨h1, h2, h3⟩
    have e := meas_all t 200 (by omega)
    rw [e]
    exact ⟨⟨by show (t.nodes : Int) ≤ 200; omega, by show (t.dep : Int) ≤ 60; omega⟩, h3⟩

theorem not_isD_62 : ¬ isD (62 : UInt8) := by decide
theorem not_isD_41 : ¬ isD (41 : UInt8) := by decide
theorem dec3 {n : Int} (h : 0 ≤ n ∧ n ≤ 999) : (Lib.decDigits n.toNat).length ≤ 3 := dec_len 3 n.toNat (by omega) (by have : (10 : Nat) ^ 3 = 1000 := by { decide }; omega)
theorem yrd_tyl (m : Nat) (hm : 3 ≤ m) : ∀ (t : Ty) (d : Nat) (r : List UInt8), t.lim → t.dep ≤ d → NoD r → yrd m d (tyl t ++ r) = some (t, r)
  | .v n, d, r, h, hd, hr => by
    obtain ⟨d, rfl⟩ : ∃ e, d = e + 1 := ⟨d - 1, by have : 1 ≤ d := hd; omega⟩
    have h' : 0 ≤ n ∧ n ≤ 999 := h
    obtain ⟨⟨q1, q2, q3⟩, q4, q5⟩ := dec_numeral n.toNat
    have e1 : digs m (Lib.decDigits n.toNat ++ r) = Lib.decDigits n.toNat := digs_app m _ r q1 (Nat.le_trans (dec3 h') hm) hr
    show yrd m (d + 1) (116 :: (Lib.decDigits n.toNat ++ r)) = _
    unfold yrd
    rw [if_neg (by decide), e1, if_pos ⟨rfl, q2⟩, List.drop_left, q4]
    rw [show ((n.toNat : Nat) : Int) = n by omega]
  | .a l r', d, r, h, hd, hr => by
    have hd' : 1 + max l.dep r'.dep ≤ d := hd
    obtain ⟨d, rfl⟩ : ∃ e, d = e + 1 := ⟨d - 1, by omega⟩
    have e1 := yrd_tyl m hm l d (62 :: (tyl r' ++ (41 :: r))) h.1 (by omega) (noD_cons _ not_isD_62)
    have e2 := yrd_tyl m hm r' d (41 :: r) h.2 (by omega) (noD_cons _ not_isD_41)
    have es : tyl (.a l r') ++ r = 40 :: (tyl l ++ (62 :: (tyl r' ++ (41 :: r)))) := by
      show (40 :: (tyl l ++ 62 :: (tyl r' ++ [41]))) ++ r = _
      simp
    rw [es]
    unfold yrd
    rw [if_pos rfl, e1, Option.bind_some]
    dsimp only
    rw [eat_cons, Option.bind_some, e2, Option.bind_some]
    dsimp only
    rw [eat_cons]
    rfl
theorem yrd_own (m : Nat) (hm : 3 ≤ m) (t : Ty) (d : Nat) (h : t.lim) (hd : t.dep ≤ d) : yrd m d (tyl t) = some (t, []) := by
  have := yrd_tyl m hm t d [] h hd noD_nil
  rwa [List.append_nil] at this
theorem tyOf_own {t : Ty} (h : t.good = true) : tyOf (tyl t) = some t := by
  obtain ⟨h1, h2, h3⟩ := (good_iff t).mp h
  unfold tyOf
  rw [yrd_own 4 (by omega) t 60 h3 h2, Option.bind_some, if_pos rfl, if_pos h, if_pos rfl]
def tyS (l : List UInt8) : Option Ty := (yrd 3 61 l).bind fun p => if p.2 = [] ∧ tyl p.1 = l ∧ p.1.dep ≤ 61 ∧ p.1.nodes ≤ 200 then some p.1 else none
theorem tyS_own {t : Ty} (h : t.good = true) : tyS (tyl t) = some t := by
  obtain ⟨h1, h2, h3⟩ := (good_iff t).mp h
  unfold tyS
  rw [yrd_own 3 (by omega) t 61 h3 (by omega), Option.bind_some, if_pos ⟨rfl, rfl, by show t.dep ≤ 61; omega, h1⟩]
theorem yrd_lim : ∀ (d : Nat) (s : List UInt8) (t : Ty) (r : List UInt8), yrd 3 d s = some (t, r) → t.lim
  | 0, _, _, _, h => by cases h
  | _ + 1, [], _, _, h => by cases h
  | d + 1, c :: s, t, r, h => by
    unfold yrd at h
    by_cases h1 : c = 40
    · rw [if_pos h1] at h
      obtain ⟨⟨a, r0⟩, ha, h⟩ := Option.bind_eq_some_iff.mp h
      obtain ⟨r1, e1, h⟩ := Option.bind_eq_some_iff.mp h
      obtain ⟨⟨b, r2⟩, hb, h⟩ := Option.bind_eq_some_iff.mp h
      obtain ⟨r3, e2, h⟩ := Option.bind_eq_some_iff.mp h
      simp only [Option.some.injEq, Prod.mk.injEq] at h
      obtain ⟨rfl, rfl⟩ := h
      exact ⟨yrd_lim d s a r0 ha, yrd_lim d r1 b r2 hb⟩
    rw [if_neg h1] at h
    by_cases h2 : c = 116 ∧ digs 3 s ≠ []
    · rw [if_pos h2] at h
      simp only [Option.some.injEq, Prod.mk.injEq] at h
      obtain ⟨rfl, rfl⟩ := h
      have hv := val_le 3 (digs 3 s) (digs_all 3 s) (digs_len 3 s).1
      have : (10 : Nat) ^ 3 = 1000 := by decide
      show (0 : Int) ≤ ((valF 0 (digs 3 s) : Nat) : Int) ∧ ((valF 0 (digs 3 s) : Nat) : Int) ≤ 999
      omega
    · rw [if_neg h2] at h; cases h

def bads : List ByteArray := [(⟨#[]⟩ : ByteArray), (⟨#[116]⟩ : ByteArray), (⟨#[116, 49, 48, 48, 48]⟩ : ByteArray), (⟨#[40, 116, 48, 62, 116, 49]⟩ : ByteArray), (⟨#[116, 48, 49]⟩ : ByteArray), (⟨#[40, 116, 48, 32, 62, 32, 116, 49, 41]⟩ : ByteArray)]
theorem bads_none : ∀ i : Fin 6, (tyOf ((bads.getD i.val ByteArray.empty).data.toList)).isNone = true ∧ (tyS ((bads.getD i.val ByteArray.empty).data.toList)).isNone = true ∧ (bads.getD i.val ByteArray.empty).size ≤ 10 := by decide +kernel
def Dr (x : ByteArray) : Prop := (∃ t : Ty, t.lim ∧ t.dep ≤ 6 ∧ x = B (tyl t)) ∨ (∃ i, i < 6 ∧ x = bads.getD i ByteArray.empty)
theorem small_good {t : Ty} (h : t.lim) (hd : t.dep ≤ 6) : t.good = true := by
  have := nodes_dep t
  have : 2 ^ t.dep ≤ 2 ^ 6 := Nat.pow_le_pow_right (by omega) hd
  exact (good_iff t).mpr ⟨by omega, by omega, h⟩
theorem Dr.same {x : ByteArray} (h : Dr x) : (∃ t : Ty, t.lim ∧ t.dep ≤ 6 ∧ t.good = true ∧ x = B (tyl t) ∧ tyOf x.data.toList = some t ∧ tyS x.data.toList = some t ∧ x.size ≤ 10000) ∨ (tyOf x.data.toList = none ∧ tyS x.data.toList = none ∧ x.size ≤ 10000) := by
  rcases h with ⟨t, h1, h2, rfl⟩ | ⟨i, hi, rfl⟩
  · have hg := small_good h1 h2
    refine .inl ⟨t, h1, h2, hg, rfl, ?_, ?_, ?_⟩
    · rw [B_list]; exact tyOf_own hg
    · rw [B_list]; exact tyS_own hg
    · rw [B_size]
      have := tyl_len t (lim_ok t h1)
      have := ((good_iff t).mp hg).1
      omega
  · obtain ⟨a, b, c⟩ := bads_none ⟨i, hi⟩
    exact .inr ⟨Option.isNone_iff_eq_none.mp a, Option.isNone_iff_eq_none.mp b, Nat.le_trans c (by omega)⟩

theorem same_refl : ∀ t : Ty, t.same t = true
  | .v n => by show (n == n) = true; simp
  | .a l r => by show (l.same l && r.same r) = true; rw [same_refl l, same_refl r]; rfl
theorem fits_apply (M : Int → Option Ty) : ∀ (t : Ty) (N : Int → Option Ty), (∀ n u, N n = some u → u = (M n).getD (.v n)) → (t.fits (t.apply M) N).1 = true ∧ ∀ n u, (t.fits (t.apply M) N).2 n = some u → u = (M n).getD (.v n)
  | .v n, N, h => by
    show (fitV N n ((M n).getD (.v n))).1 = true ∧ ∀ k u, (fitV N n ((M n).getD (.v n))).2 k = some u → u = (M k).getD (.v k)
    cases e : N n with
    | none =>
      rw [fitV_none e]
      refine ⟨rfl, fun k u hk => ?_⟩
      have hk' : (if k = n then some ((M n).getD (.v n)) else N k) = some u := hk
      split at hk'
      · injection hk' with hk'
        subst k
        exact hk'.symm
      · exact h k u hk'
    | some o =>
      rw [fitV_some e, ← h n o e]
      exact ⟨same_refl o, h⟩
  | .a l r, N, h => by
    obtain ⟨l1, l2⟩ := fits_apply M l N h
    obtain ⟨r1, r2⟩ := fits_apply M r _ l2
    show (if (l.fits (l.apply M) N).1 = true then r.fits (r.apply M) (l.fits (l.apply M) N).2 else (false, (l.fits (l.apply M) N).2)).1 = true ∧ ∀ n u, (if (l.fits (l.apply M) N).1 = true then r.fits (r.apply M) (l.fits (l.apply M) N).2 else (false, (l.fits (l.apply M) N).2)).2 n = some u → u = (M n).getD (.v n)
    rw [if_pos l1]
    exact ⟨r1, r2⟩
theorem fits_noB (M : Int → Option Ty) (t : Ty) : (t.fits (t.apply M) noB).1 = true := (fits_apply M t noB (fun n u h => by cases h)).1
theorem dep_apply {M : Int → Option Ty} {D : Nat} (hD : 1 ≤ D) (hM : ∀ n u, M n = some u → u.dep ≤ D) : ∀ t : Ty, (t.apply M).dep + 1 ≤ t.dep + D
  | .v n => by
    show ((M n).getD (.v n)).dep + 1 ≤ 1 + D
    cases e : M n with
    | none => show 1 + 1 ≤ 1 + D; omega
    | some u => have := hM n u e; show u.dep + 1 ≤ _; omega
  | .a l r => by
    have h1 := dep_apply hD hM l
    have h2 := dep_apply hD hM r
    show 1 + max (l.apply M).dep (r.apply M).dep + 1 ≤ 1 + max l.dep r.dep + D
    omega
theorem lim_apply {M : Int → Option Ty} (hM : ∀ n u, M n = some u → u.lim) : ∀ t : Ty, t.lim → (t.apply M).lim
  | .v n, h => by
    show ((M n).getD (.v n)).lim
    cases e : M n with
    | none => exact h
    | some u => exact hM n u e
  | .a l r, h => ⟨lim_apply hM l h.1, lim_apply hM r h.2⟩

theorem vfold_nodup : ∀ (ys out : List Int), out.Nodup → (ys.foldl vstep out).Nodup
  | [], out, h => h
  | y :: ys, out, h => by
    rw [List.foldl_cons]
    refine vfold_nodup ys _ ?_
    unfold vstep
    split
    · exact h
    · rename_i hy
      rw [List.nodup_append]
      exact ⟨h, (by simp : [y].Nodup), fun a ha b hb => by rw [List.mem_singleton.mp hb]; rintro rfl; exact hy ha⟩
theorem vars_nodup : ∀ t : Ty, t.vars.Nodup
  | .v n => (by simp : [n].Nodup)
  | .a l r => vfold_nodup r.vars l.vars (vars_nodup l)
theorem vfold_map (f : Int → Int) : ∀ (ys out : List Int), (∀ a b, (a ∈ out ∨ a ∈ ys) → (b ∈ out ∨ b ∈ ys) → f a = f b → a = b) → (ys.map f).foldl vstep (out.map f) = (ys.foldl vstep out).map f
  | [], out, h => rfl
  | y :: ys, out, h => by
    rw [List.map_cons, List.foldl_cons, List.foldl_cons]
    have e : vstep (out.map f) (f y) = (vstep out y).map f := by
      unfold vstep
      by_cases hy : y ∈ out
      · rw [if_pos hy, if_pos (List.mem_map_of_mem hy)]
      · rw [if_neg hy, if_neg ?_, List.map_append]
        · rfl
        · intro hm
          obtain ⟨a, ha, e⟩ := List.mem_map.mp hm
          have := h a y (.inl ha) (.inr (List.mem_cons_self ..)) e
          subst this
          exact hy ha
    rw [e]
    refine vfold_map f ys (vstep out y) (fun a b ha hb => ?_)
    have hm : ∀ x, (x ∈ vstep out y ∨ x ∈ ys) → (x ∈ out ∨ x ∈ y :: ys) := by
      intro x hx
      rcases hx with hx | hx
      · unfold vstep at hx
        split at hx
        · exact .inl hx
        · rcases List.mem_append.mp hx with hx | hx
          · exact .inl hx
          · rw [List.mem_singleton.mp hx]; exact .inr (List.mem_cons_self ..)
      · exact .inr (List.mem_cons_of_mem _ hx)
    exact h a b (hm a ha) (hm b hb)
theorem vars_rename (M : Int → Option Ty) (f : Int → Int) : ∀ t : Ty, (∀ n ∈ t.vars, M n = some (.v (f n))) → (∀ a ∈ t.vars, ∀ b ∈ t.vars, f a = f b → a = b) → (t.apply M).vars = t.vars.map f
  | .v n, hM, hf => by
    have := hM n (List.mem_singleton.mpr rfl)
    show ((M n).getD (.v n)).vars = [f n]
    rw [this]; rfl
  | .a l r, hM, hf => by
    have hl : ∀ n, n ∈ l.vars → n ∈ (Ty.a l r).vars := fun n h => (vfold_mem r.vars l.vars).mpr (.inl h)
    have hr : ∀ n, n ∈ r.vars → n ∈ (Ty.a l r).vars := fun n h => (vfold_mem r.vars l.vars).mpr (.inr h)
    have e1 := vars_rename M f l (fun n h => hM n (hl n h)) (fun a ha b hb => hf a (hl a ha) b (hl b hb))
    have e2 := vars_rename M f r (fun n h => hM n (hr n h)) (fun a ha b hb => hf a (hr a ha) b (hr b hb))
    show (r.apply M).vars.foldl vstep (l.apply M).vars = (r.vars.foldl vstep l.vars).map f
    rw [e1, e2]
    refine vfold_map f r.vars l.vars (fun a b ha hb => ?_)
    exact hf a ((vfold_mem r.vars l.vars).mpr ha) b ((vfold_mem r.vars l.vars).mpr hb)
theorem rd_get {l : List Int} {i : Nat} (h : i < l.length) : rd l (i : Int) = l[i] := by
  unfold rd; rw [Int.toNat_natCast, List.getD_eq_getElem?_getD, List.getElem?_eq_getElem h]; rfl
theorem rd_inj {l : List Int} (hl : l.Nodup) {i j : Nat} (hi : i < l.length) (hj : j < l.length) (h : rd l (i : Int) = rd l (j : Int)) : i = j := by
  rw [rd_get hi, rd_get hj] at h
  exact (List.getElem_inj hl).mp h
theorem plM_at {l : List Int} (hl : l.Nodup) : ∀ (k i : Nat), i < k → k ≤ l.length → plM l k (rd l (i : Int)) = some (.v (i : Int))
  | 0, i, h, hk => by omega
  | k + 1, i, h, hk => by
    show (if rd l (i : Int) = rd l (k : Int) then some (Ty.v (k : Int)) else plM l k (rd l (i : Int))) = _
    by_cases e : i = k
    · subst e; rw [if_pos rfl]
    · rw [if_neg (fun h' => e (rd_inj hl (by omega) (by omega) h')), plM_at hl k i (by omega) (by omega)]
theorem mem_rd {l : List Int} {n : Int} (h : n ∈ l) : ∃ i : Nat, i < l.length ∧ rd l (i : Int) = n := by
  obtain ⟨i, hi, e⟩ := List.getElem_of_mem h
  exact ⟨i, hi, by rw [rd_get hi]; exact e⟩
def plc (t : Ty) (n : Int) : Int := (t.vars.idxOf n : Int)
theorem plc_rd (t : Ty) {i : Nat} (hi : i < t.vars.length) : plc t (rd t.vars (i : Int)) = (i : Int) := by
  unfold plc
  rw [rd_get hi]
  have := List.Nodup.idxOf_getElem (vars_nodup t) i hi
  omega
theorem plM_plc (t : Ty) (n : Int) (h : n ∈ t.vars) : plM t.vars t.vars.length n = some (.v (plc t n)) := by
  obtain ⟨i, hi, rfl⟩ := mem_rd h
  rw [plM_at (vars_nodup t) _ i hi (Nat.le_refl _), plc_rd t hi]
theorem plain_vars (t : Ty) : t.plain.vars = t.vars.map (plc t) := vars_rename _ (plc t) t (fun n h => plM_plc t n h) (fun a ha b hb e => by
  obtain ⟨i, hi, rfl⟩ := mem_rd ha
  obtain ⟨j, hj, rfl⟩ := mem_rd hb
  rw [plc_rd t hi, plc_rd t hj] at e
  have : i = j := by omega
  rw [this])
theorem plain_vars_len (t : Ty) : t.plain.vars.length = t.vars.length := by rw [plain_vars, List.length_map]
theorem plain_vars_at (t : Ty) (i : Nat) (h : i < t.plain.vars.length) : rd t.plain.vars (i : Int) = (i : Int) := by
  have h' : i < t.vars.length := by rw [plain_vars_len] at h; exact h
  have e := plc_rd t h'
  rw [rd_get h'] at e
  rw [rd_get h, ← e]
  simp [plain_vars]
def backM (t : Ty) (j : Int) : Option Ty := some (.v (rd t.vars j))
theorem back_apply (t : Ty) : ∀ u : Ty, (∀ n ∈ u.vars, n ∈ t.vars) → (u.apply (plM t.vars t.vars.length)).apply (backM t) = u
  | .v n, h => by
    have hn := h n (List.mem_singleton.mpr rfl)
    show (((plM t.vars t.vars.length n).getD (.v n))).apply (backM t) = .v n
    obtain ⟨i, hi, rfl⟩ := mem_rd hn
    rw [plM_at (vars_nodup t) _ i hi (Nat.le_refl _)]
    rfl
  | .a l r, h => by
    show Ty.a _ _ = _
    rw [back_apply t l (fun n hn => h n ((vfold_mem r.vars l.vars).mpr (.inl hn))), back_apply t r (fun n hn => h n ((vfold_mem r.vars l.vars).mpr (.inr hn)))]
theorem plain_back (t : Ty) : t.plain.apply (backM t) = t := back_apply t t (fun _ h => h)
theorem plain_good {t : Ty} (h : t.good = true) : t.plain.good = true := by
  obtain ⟨h1, h2, h3⟩ := (good_iff t).mp h
  refine (good_iff _).mpr ⟨by rw [plain_nodes]; exact h1, ?_, ?_⟩
  · have := dep_apply (M := plM t.vars t.vars.length) (D := 1) (Nat.le_refl _) (fun n u e => by obtain ⟨j, _, rfl⟩ := plM_some _ _ n u e; exact Nat.le_refl _) t
    show (t.apply _).dep ≤ 60
    omega
  · refine lim_apply (fun n u e => ?_) t h3
    obtain ⟨j, hj, rfl⟩ := plM_some _ _ n u e
    have := t.vars_len
    show (0 : Int) ≤ (j : Int) ∧ (j : Int) ≤ 999
    omega

theorem two0 (x y : S56) : rd_T56 [x, y] 0 = x := rfl
theorem two1 (x y : S56) : rd_T56 [x, y] 1 = y := rfl
theorem q40 : (⟨#[40]⟩ : ByteArray) = B [40] := rfl
theorem q62 : (⟨#[62]⟩ : ByteArray) = B [62] := rfl
theorem q41 : (⟨#[41]⟩ : ByteArray) = B [41] := rfl
theorem q116 : (⟨#[116]⟩ : ByteArray) = B [116] := rfl
theorem leText_ev : ∀ t : Ty, t.lim → t.nodes ≤ 1099511627776 → Ev (fun k => spec_leText.f k (toS t).f0 (toS t).f1) (B (tyl t))
  | .v n, h, hn => by
    have h' : 0 ≤ n ∧ n ≤ 999 := h
    have hd := dec3 h'
    refine Ev.succ ?_
    show Ev (fun k => spec_leText.f (k + 1) n []) _
    simp only [spec_leText.f]
    refine Ev.ite_pos (by simp) (Ev.bind (NumL.num_B n (by omega) (by omega)) (Ev.ite_pos (by rw [B_size]; omega) (Ev.of_eq (Ev.now _) ?_)))
    rw [q116, B_append]; rfl
  | .a l r, h, hn => by
    have hn' : 1 + l.nodes + r.nodes ≤ 1099511627776 := hn
    have ihl := leText_ev l h.1 (by omega)
    have ihr := leText_ev r h.2 (by omega)
    have s1 := tyl_len l (lim_ok l h.1)
    have s2 := tyl_len r (lim_ok r h.2)
    refine Ev.succ ?_
    show Ev (fun k => spec_leText.f (k + 1) 0 [toS l, toS r]) _
    simp only [spec_leText.f, two0, two1]
    refine Ev.ite_neg (by simp) (Ev.ite_pos (by simp) (Ev.bind ihl (Ev.ite_pos ?_ (Ev.ite_pos ?_ (Ev.ite_pos (by simp) (Ev.bind ihr (Ev.ite_pos ?_ (Ev.ite_pos ?_ (Ev.of_eq (Ev.now _) ?_)))))))))
    · rw [B_size]; omega
    · simp only [q40, q62, q41, B_append, B_size, List.length_append, List.length_cons, List.length_nil]; omega
    · simp only [q40, q62, q41, B_append, B_size, List.length_append, List.length_cons, List.length_nil]; omega
    · simp only [q40, q62, q41, B_append, B_size, List.length_append, List.length_cons, List.length_nil]; omega
    · simp only [q40, q62, q41, B_append]
      exact congrArg B (by simp [tyl])
theorem leSize_ev : ∀ t : Ty, t.nodes ≤ 1099511627776 → Ev (fun k => spec_leSize.f k (toS t).f0 (toS t).f1) (t.nodes : Int)
  | .v n, hn => by
    refine Ev.succ ?_
    show Ev (fun k => spec_leSize.f (k + 1) n []) _
    simp only [spec_leSize.f]
    refine Ev.succ ?_
    simp only [spec_leSize.l0]
    exact Ev.ite_neg (by simp) (Ev.now _)
  | .a l r, hn => by
    have hn' : 1 + l.nodes + r.nodes ≤ 1099511627776 := hn
    have ihl := leSize_ev l (by omega)
    have ihr := leSize_ev r (by omega)
    have w0 : wrap64 (0 + 1) = 1 := w64 (by omega) (by omega)
    have w1 : wrap64 (1 + 1) = 2 := w64 (by omega) (by omega)
    have w2 : wrap64 (1 + (l.nodes : Int)) = 1 + (l.nodes : Int) := w64 (by omega) (by omega)
    have w3 : wrap64 (1 + (l.nodes : Int) + (r.nodes : Int)) = ((1 + l.nodes + r.nodes : Nat) : Int) := by rw [w64 (by omega) (by omega)]; omega
    refine Ev.succ ?_
    show Ev (fun k => spec_leSize.f (k + 1) 0 [toS l, toS r]) _
    simp only [spec_leSize.f]
    refine Ev.succ ?_
    simp only [spec_leSize.l0, two0, w0]
    refine Ev.ite_pos (by simp) (Ev.ite_pos (by omega) (Ev.ite_pos (by simp) (Ev.bind ihl ?_)))
    refine Ev.succ ?_
    simp only [spec_leSize.l0, two1, w1, w2]
    refine Ev.ite_pos (by simp) (Ev.ite_pos (by omega) (Ev.ite_pos (by simp) (Ev.bind ihr ?_)))
    refine Ev.succ ?_
    simp only [spec_leSize.l0, w3]
    exact Ev.ite_neg (by simp) (Ev.now _)
theorem leDeep_ev : ∀ t : Ty, t.nodes ≤ 1099511627776 → Ev (fun k => spec_leDeep.f k (toS t).f0 (toS t).f1) (t.dep : Int)
  | .v n, hn => by
    refine Ev.succ ?_
    show Ev (fun k => spec_leDeep.f (k + 1) n []) _
    simp only [spec_leDeep.f]
    refine Ev.succ ?_
    simp only [spec_leDeep.l0]
    exact Ev.ite_neg (by simp) (Ev.of_eq (Ev.now _) (by rw [w64 (by omega) (by omega)]; rfl))
  | .a l r, hn => by
    have hn' : 1 + l.nodes + r.nodes ≤ 1099511627776 := hn
    have ihl := leDeep_ev l (by omega)
    have ihr := leDeep_ev r (by omega)
    have d1 := dep_nodes l
    have d2 := dep_nodes r
    have p1 := dep_pos l
    have w0 : wrap64 (0 + 1) = 1 := w64 (by omega) (by omega)
    have w1 : wrap64 (1 + 1) = 2 := w64 (by omega) (by omega)
    have hD : ((Ty.a l r).dep : Int) = 1 + max (l.dep : Int) (r.dep : Int) := by show ((1 + max l.dep r.dep : Nat) : Int) = _; omega
    refine Ev.succ ?_
    show Ev (fun k => spec_leDeep.f (k + 1) 0 [toS l, toS r]) _
    simp only [spec_leDeep.f]
    refine Ev.succ ?_
    simp only [spec_leDeep.l0, two0, w0]
    refine Ev.ite_pos (by simp) (Ev.ite_pos (by omega) (Ev.ite_pos (by simp) (Ev.bind ihl (Ev.ite_pos (by omega) ?_))))
    refine Ev.succ ?_
    simp only [spec_leDeep.l0, two1, w1]
    refine Ev.ite_pos (by simp) (Ev.ite_pos (by omega) (Ev.ite_pos (by simp) (Ev.bind ihr ?_)))
    by_cases c : (r.dep : Int) > (l.dep : Int)
    · refine Ev.ite_pos c (Ev.succ ?_)
      simp only [spec_leDeep.l0]
      exact Ev.ite_neg (by simp) (Ev.of_eq (Ev.now _) (by rw [w64 (by omega) (by omega), hD]; omega))
    · refine Ev.ite_neg c (Ev.succ ?_)
      simp only [spec_leDeep.l0]
      exact Ev.ite_neg (by simp) (Ev.of_eq (Ev.now _) (by rw [w64 (by omega) (by omega), hD]; omega))
theorem leFine_ev (t : Ty) (hn : t.nodes ≤ 1099511627776) : Ev (fun k => spec_leFine.f k (toS t).f0 (toS t).f1) (decide (t.dep ≤ 61 ∧ t.nodes ≤ 200)) := by
  unfold spec_leFine.f
  refine Ev.bind (leDeep_ev t hn) ?_
  by_cases h1 : t.dep ≤ 61
  · refine Ev.ite_pos (by omega) (Ev.bind (leSize_ev t hn) (Ev.of_eq (Ev.now _) ?_))
    rw [decide_eq_decide]
    omega
  · refine Ev.ite_neg (by omega) (Ev.of_eq (Ev.now _) ?_)
    rw [eq_comm, decide_eq_false_iff_not]
    exact fun h => h1 h.1
theorem leOf_ev (x : ByteArray) (hs : x.size ≤ 1000000) : (∃ t, tyS x.data.toList = some t ∧ Ev (fun k => spec_leOf.f k x) ((toS t).f0, (toS t).f1, true)) ∨ (tyS x.data.toList = none ∧ ∃ a b, Ev (fun k => spec_leOf.f k x) (a, b, false)) := by
  have hr : ∀ k, spec_leRead.f k x 1 = some (readF 61 x.data.toList) := fun k => if_pos ⟨⟨by omega, by omega⟩, by omega⟩
  have hl := len x
  unfold spec_leOf.f
  simp only [hr, Option.bind_some]
  cases e : yrd 3 61 x.data.toList with
  | none =>
    right
    refine ⟨by unfold tyS; rw [e]; rfl, 0, [], ?_⟩
    rw [readF_none e]
    exact Ev.ite_neg (show ¬ (0 : Int) > 0 by omega) (Ev.now _)
  | some p =>
    obtain ⟨t, r⟩ := p
    obtain ⟨c, c1, c2, c3⟩ := yrd_drop 3 61 _ t r e
    have hlim := yrd_lim 61 _ t r e
    have hsd := ((yrd_sound 3 61 _ t r e).resolve_right (by omega)).1
    have hn : t.nodes ≤ 1099511627776 := by omega
    have hrl : r.length = x.data.toList.length - c := by rw [c3, List.length_drop]
    have he : tyS x.data.toList = if r = [] ∧ tyl t = x.data.toList ∧ t.dep ≤ 61 ∧ t.nodes ≤ 200 then some t else none := by unfold tyS; rw [e]; rfl
    rw [readF_some e, he]
    dsimp only
    by_cases h1 : r = []
    · have hr0 : r.length = 0 := by rw [h1]; rfl
      by_cases h2 : tyl t = x.data.toList
      · by_cases h3 : t.dep ≤ 61 ∧ t.nodes ≤ 200
        · left
          refine ⟨t, if_pos ⟨h1, h2, h3⟩, Ev.ite_pos (by omega) (Ev.ite_pos (by omega) (Ev.bind (leText_ev t hlim hn) (Ev.ite_pos (by rw [toList_B, toList_eq]; exact h2) (Ev.bind (leFine_ev t hn) (Ev.of_eq (Ev.now _) ?_)))))⟩
          rw [decide_eq_true h3]
        · right
          refine ⟨if_neg (fun h => h3 h.2.2), (toS t).f0, (toS t).f1, Ev.ite_pos (by omega) (Ev.ite_pos (by omega) (Ev.bind (leText_ev t hlim hn) (Ev.ite_pos (by rw [toList_B, toList_eq]; exact h2) (Ev.bind (leFine_ev t hn) (Ev.of_eq (Ev.now _) ?_)))))⟩
          rw [decide_eq_false h3]
      · right
        exact ⟨if_neg (fun h => h2 h.2.1), _, _, Ev.ite_pos (by omega) (Ev.ite_pos (by omega) (Ev.bind (leText_ev t hlim hn) (Ev.ite_neg (by rw [toList_B, toList_eq]; exact h2) (Ev.now _))))⟩
    · right
      have hr0 : 1 ≤ r.length := by cases r with
        | nil => exact absurd rfl h1
        | cons y ys => rw [List.length_cons]; omega
      exact ⟨if_neg (fun h => h1 h.1), _, _, Ev.ite_pos (by omega) (Ev.ite_neg (by omega) (Ev.now _))⟩

def rowM : List Int → List Ty → Int → Option Ty
  | v :: vs, t :: ts, n => if v = n then some t else rowM vs ts n
  | _, _, _ => none
theorem rowM_app (v : Int) (t : Ty) (n : Int) : ∀ (vs : List Int) (ts : List Ty), vs.length = ts.length → v ∉ vs → rowM (vs ++ [v]) (ts ++ [t]) n = if n = v then some t else rowM vs ts n
  | [], [], _, _ => by
    show (if v = n then some t else none) = _
    by_cases h : v = n
    · rw [if_pos h, if_pos h.symm]
    · rw [if_neg h, if_neg (Ne.symm h)]; rfl
  | u :: vs, s :: ts, hl, hv => by
    have ih := rowM_app v t n vs ts (by simpa using hl) (fun h => hv (List.mem_cons_of_mem _ h))
    show (if u = n then some s else rowM (vs ++ [v]) (ts ++ [t]) n) = if n = v then some t else if u = n then some s else rowM vs ts n
    rw [ih]
    by_cases h : u = n
    · rw [if_pos h, if_pos h, if_neg]
      rintro rfl
      exact hv (by rw [h]; exact List.mem_cons_self ..)
    · rw [if_neg h, if_neg h]
  | [], _ :: _, h, _ => by simp at h
  | _ :: _, [], h, _ => by simp at h
theorem l1In_eq (v : Int) : spec_l1In.f v 0 999 = some (decide (0 ≤ v ∧ v ≤ 999)) := by
  unfold spec_l1In.f
  by_cases h : v ≥ 0
  · rw [if_pos h]
    exact congrArg some (decide_eq_decide.mpr (by omega))
  · rw [if_neg h]
    exact congrArg some (decide_eq_false (by omega)).symm
theorem getT {L : List S47} {i : Nat} (h : i < L.length) : rd_T47 L (i : Int) ∈ L := by
  unfold rd_T47
  rw [Int.toNat_natCast, List.getD_eq_getElem?_getD, List.getElem?_eq_getElem h]
  exact List.getElem_mem h
theorem bnd_at {L : List S47} {i : Nat} {x : S47} (e : rd_T47 L (i : Int) = x) (hx : tyOf x.f1.data.toList = tyS x.f1.data.toList) : bndOk L i = (tyS x.f1.data.toList).bind fun t => if x.f0 < 0 ∨ 999 < x.f0 ∨ (0 < i ∧ x.f0 ≤ (rd_T47 L ((i : Int) - 1)).f0) then none else some t := by
  unfold bndOk; rw [e, hx]
theorem leBinds_at (L : List S47) (hL : L.length ≤ 200) (hd : ∀ x ∈ L, Dr x.f1) : ∀ (d i : Nat) (vs : List Int) (ts : List Ty) (M : Int → Option Ty), i + d = L.length → bindM L i = some M → (∀ n, rowM vs ts n = M n) → vs.length = i → ts.length = i → (∀ v ∈ vs, 0 < i ∧ v ≤ (rd_T47 L ((i : Int) - 1)).f0) → (∀ n u, M n = some u → u.lim ∧ u.dep ≤ 6) →
    (∃ M' vs' ts', bindM L L.length = some M' ∧ (∀ n u, M' n = some u → u.lim ∧ u.dep ≤ 6) ∧ (∀ n, rowM vs' ts' n = M' n) ∧ vs'.length = ts'.length ∧ vs'.length ≤ 200 ∧ Ev (fun k => spec_leBinds.l0 k L L (L.length : Int) i vs (ts.map toS)) (vs', ts'.map toS, true)) ∨ (bindM L L.length = none ∧ ∃ a b, Ev (fun k => spec_leBinds.l0 k L L (L.length : Int) i vs (ts.map toS)) (a, b, false))
  | 0, i, vs, ts, M, hi, hM, hr, hv, ht, hs, hl => by
    obtain rfl : i = L.length := by omega
    refine .inl ⟨M, vs, ts, hM, hl, hr, by omega, by omega, Ev.succ ?_⟩
    simp only [spec_leBinds.l0]
    exact Ev.ite_neg (by omega) (Ev.of_eq (Ev.now _) (by rw [decide_eq_true (by omega : (L.length : Int) ≤ 200)]))
  | d + 1, i, vs, ts, M, hi, hM, hr, hv, ht, hs, hl => by
    have hil : i < L.length := by omega
    obtain ⟨x, ex⟩ : ∃ x, rd_T47 L (i : Int) = x := ⟨_, rfl⟩
    have hxd : Dr x.f1 := by rw [← ex]; exact hd _ (getT hil)
    have w1 : wrap64 ((i : Int) + 1) = ((i + 1 : Nat) : Int) := by rw [w64 (by omega) (by omega)]; omega
    have w2 : wrap64 ((i : Int) - 1) = (i : Int) - 1 := w64 (by omega) (by omega)
    have lost : bndOk L i = none → bindM L L.length = none := by
      intro h
      have : bindM L (i + 1) = none := by rw [bindM_step hM, h]; rfl
      have h2 := bindM_none this d
      rwa [show i + 1 + d = L.length by omega] at h2
    rcases hxd.same with ⟨t, t1, t2, t3, t4, t5, t6, t7⟩ | ⟨t5, t6, t7⟩
    · have hB := bnd_at ex (t5.trans t6.symm)
      rw [t6, Option.bind_some] at hB
      rcases leOf_ev x.f1 (by omega) with ⟨t', g1, g2⟩ | ⟨g1, _⟩
      rotate_left
      · rw [t6] at g1; cases g1
      obtain rfl : t = t' := Option.some.inj (t6.symm.trans g1)
      by_cases c1 : 0 ≤ x.f0 ∧ x.f0 ≤ 999
      rotate_left
      · right
        refine ⟨lost (by rw [hB]; exact if_pos (by omega)), vs, ts.map toS, Ev.succ ?_⟩
        simp only [spec_leBinds.l0, ex, l1In_eq, Option.bind_some]
        exact Ev.ite_pos (by omega) (Ev.ite_pos (by omega) (Ev.ite_pos (by omega) (Ev.bind g2 (Ev.ite_pos rfl (Ev.ite_neg (by simpa using c1) (Ev.now _))))))
      by_cases c2 : 0 < i ∧ x.f0 ≤ (rd_T47 L ((i : Int) - 1)).f0
      · right
        refine ⟨lost (by rw [hB]; exact if_pos (.inr (.inr c2))), vs, ts.map toS, Ev.succ ?_⟩
        simp only [spec_leBinds.l0, ex, l1In_eq, Option.bind_some, w2]
        exact Ev.ite_pos (by omega) (Ev.ite_pos (by omega) (Ev.ite_pos (by omega) (Ev.bind g2 (Ev.ite_pos rfl (Ev.ite_pos (by simpa using c1) (Ev.ite_pos (by omega) (Ev.ite_pos (by omega) (Ev.ite_pos (by omega) (Ev.ite_pos c2.2 (Ev.now _))))))))))
      · have hB' : bndOk L i = some t := by rw [hB]; exact if_neg (by omega)
        have hM' : bindM L (i + 1) = some (updM M x.f0 t) := by rw [bindM_step hM, hB', ex]; rfl
        have hvn : x.f0 ∉ vs := fun h => by have := hs _ h; exact c2 this
        have ih := leBinds_at L hL hd d (i + 1) (vs ++ [x.f0]) (ts ++ [t]) (updM M x.f0 t) (by omega) hM' (fun n => by
            rw [rowM_app _ _ _ _ _ (by omega) hvn]
            show _ = if n = x.f0 then some t else M n
            rw [hr n]) (by simp; omega) (by simp; omega) (fun v hv' => by
            refine ⟨by omega, ?_⟩
            rw [show ((i + 1 : Nat) : Int) - 1 = (i : Int) by omega, ex]
            rcases List.mem_append.mp hv' with h | h
            · have := hs v h
              have : ¬ x.f0 ≤ (rd_T47 L ((i : Int) - 1)).f0 := fun h' => c2 ⟨this.1, h'⟩
              have := (hs v h).2
              omega
            · rw [List.mem_singleton.mp h]; exact Int.le_refl _) (fun n u h => by
            have h' : (if n = x.f0 then some t else M n) = some u := h
            split at h'
            · injection h' with h'; subst h'; exact ⟨t1, t2⟩
            · exact hl n u h')
        have st : ∀ r, Ev (fun k => spec_leBinds.l0 k L L (L.length : Int) ((i + 1 : Nat) : Int) (vs ++ [x.f0]) ((ts ++ [t]).map toS)) r → Ev (fun k => spec_leBinds.l0 k L L (L.length : Int) i vs (ts.map toS)) r := by
          intro r h
          refine Ev.succ ?_
          simp only [spec_leBinds.l0, ex, l1In_eq, Option.bind_some, w2, w1, toS_eta]
          rw [List.map_append] at h
          refine Ev.ite_pos (by omega) (Ev.ite_pos (by omega) (Ev.ite_pos (by omega) (Ev.bind g2 (Ev.ite_pos rfl (Ev.ite_pos (by simpa using c1) ?_)))))
          have l1 : (ts.map toS).length < 4398046511104 := by rw [List.length_map]; omega
          simp only [toS_eta]
          by_cases c3 : (i : Int) > 0
          · exact Ev.ite_pos c3 (Ev.ite_pos (by omega) (Ev.ite_pos (by omega) (Ev.ite_neg (fun h' => c2 ⟨by omega, h'⟩) (Ev.ite_pos (by omega) (Ev.ite_pos l1 h)))))
          · exact Ev.ite_neg c3 (Ev.ite_pos (by omega) (Ev.ite_pos l1 h))
        rcases ih with ⟨M', vs', ts', i1, i2, i3, i4, i5, i6⟩ | ⟨i1, a, b, i2⟩
        · exact .inl ⟨M', vs', ts', i1, i2, i3, i4, i5, st _ i6⟩
        · exact .inr ⟨i1, a, b, st _ i2⟩
    · have hB := bnd_at ex (t5.trans t6.symm)
      rw [t6] at hB
      rcases leOf_ev x.f1 (by omega) with ⟨t', g1, g2⟩ | ⟨g1, a, b, g2⟩
      · rw [t6] at g1; cases g1
      right
      refine ⟨lost hB, vs, ts.map toS, Ev.succ ?_⟩
      simp only [spec_leBinds.l0, ex]
      exact Ev.ite_pos (by omega) (Ev.ite_pos (by omega) (Ev.ite_pos (by omega) (Ev.bind g2 (Ev.ite_neg (by simp) (Ev.now _)))))
theorem leBinds_ev (L : List S47) (hL : L.length ≤ 200) (hd : ∀ x ∈ L, Dr x.f1) : (∃ M' vs' ts', bindM L L.length = some M' ∧ (∀ n u, M' n = some u → u.lim ∧ u.dep ≤ 6) ∧ (∀ n, rowM vs' ts' n = M' n) ∧ vs'.length = ts'.length ∧ vs'.length ≤ 200 ∧ Ev (fun k => spec_leBinds.f k L) (vs', ts'.map toS, true)) ∨ (bindM L L.length = none ∧ ∃ a b, Ev (fun k => spec_leBinds.f k L) (a, b, false)) :=
  leBinds_at L hL hd L.length 0 [] [] noB (by omega) rfl (fun n => rfl) rfl rfl (fun v h => by simp at h) (fun n u h => by cases h)
theorem getS {ts : List Ty} {i : Nat} (h : i < ts.length) : rd_T56 (ts.map toS) (i : Int) = toS ts[i] := by
  unfold rd_T56
  rw [Int.toNat_natCast, List.getD_eq_getElem?_getD, List.getElem?_eq_getElem (by rw [List.length_map]; exact h)]
  simp
theorem row_ev (vs : List Int) (ts : List Ty) (hl : vs.length = ts.length) (hn : vs.length ≤ 200) (n : Int) : ∀ (d i : Nat), i + d = vs.length → Ev (fun k => spec_leApply.l0 k vs (vs.length : Int) i vs (ts.map toS) n []) ((toS ((rowM (vs.drop i) (ts.drop i) n).getD (.v n))).f0, (toS ((rowM (vs.drop i) (ts.drop i) n).getD (.v n))).f1)
  | 0, i, hi => by
    refine Ev.succ ?_
    simp only [spec_leApply.l0]
    rw [List.drop_eq_nil_of_le (by omega : vs.length ≤ i), List.drop_eq_nil_of_le (by omega : ts.length ≤ i)]
    exact Ev.ite_neg (by omega) (Ev.now _)
  | d + 1, i, hi => by
    have h1 : i < vs.length := by omega
    have h2 : i < ts.length := by omega
    have w1 : wrap64 ((i : Int) + 1) = ((i + 1 : Nat) : Int) := by rw [w64 (by omega) (by omega)]; omega
    refine Ev.succ ?_
    simp only [spec_leApply.l0, w1, rd_get h1, getS h2]
    rw [List.drop_eq_getElem_cons h1, List.drop_eq_getElem_cons h2]
    have e : rowM (vs[i] :: vs.drop (i + 1)) (ts[i] :: ts.drop (i + 1)) n = if vs[i] = n then some ts[i] else rowM (vs.drop (i + 1)) (ts.drop (i + 1)) n := rfl
    rw [e]
    refine Ev.ite_pos (by omega) (Ev.ite_pos (by omega) (Ev.ite_pos (by omega) ?_))
    by_cases c : vs[i] = n
    · rw [if_pos c]
      exact Ev.ite_pos c (Ev.ite_pos (by rw [List.length_map]; omega) (Ev.now _))
    · rw [if_neg c]
      exact Ev.ite_neg c (row_ev vs ts hl hn n d (i + 1) (by omega))
theorem leApply_ev (vs : List Int) (ts : List Ty) (hl : vs.length = ts.length) (hn : vs.length ≤ 200) {M : Int → Option Ty} (hM : ∀ n, rowM vs ts n = M n) : ∀ t : Ty, Ev (fun k => spec_leApply.f k vs (ts.map toS) (toS t).f0 (toS t).f1) ((toS (t.apply M)).f0, (toS (t.apply M)).f1)
  | .v n => by
    refine Ev.succ ?_
    show Ev (fun k => spec_leApply.f (k + 1) vs (ts.map toS) n []) _
    simp only [spec_leApply.f]
    refine Ev.ite_pos (by simp) (Ev.of_eq (row_ev vs ts hl hn n vs.length 0 (by omega)) ?_)
    rw [List.drop_zero, List.drop_zero, hM]
    rfl
  | .a l r => by
    have ihl := leApply_ev vs ts hl hn hM l
    have ihr := leApply_ev vs ts hl hn hM r
    refine Ev.succ ?_
    show Ev (fun k => spec_leApply.f (k + 1) vs (ts.map toS) 0 [toS l, toS r]) _
    simp only [spec_leApply.f, two0, two1]
    refine Ev.ite_neg (by simp) (Ev.ite_pos (by simp) (Ev.bind ihl (Ev.ite_pos (by simp) (Ev.bind ihr (Ev.of_eq (Ev.now _) ?_)))))
    simp only [toS_eta]
    rfl
theorem apply_both (L : List S47) (s : ByteArray) (hL : L.length ≤ 200) (hd : ∀ x ∈ L, Dr x.f1) (hs : Dr s) : Ev (fun k => spec_ApplyType.f k L s) (applyF L s.data.toList) ∧ ((applyF L s.data.toList).2 = true → ∃ t M, tyOf s.data.toList = some t ∧ applyF L s.data.toList = (B (tyl (t.apply M)), true) ∧ (t.apply M).good = true) := by
  unfold spec_ApplyType.f
  have hB := leBinds_ev L hL hd
  have hO := leOf_ev s (by rcases hs.same with ⟨_, _, _, _, _, _, _, h⟩ | ⟨_, _, h⟩ <;> omega)
  rcases hs.same with ⟨t, t1, t2, t3, t4, t5, t6, t7⟩ | ⟨t5, t6, t7⟩
  · rcases hO with ⟨t', g1, g2⟩ | ⟨g1, _⟩
    rotate_left
    · rw [t6] at g1; cases g1
    obtain rfl : t = t' := Option.some.inj (t6.symm.trans g1)
    rcases hB with ⟨M, vs, ts, b1, b2, b3, b4, b5, b6⟩ | ⟨b1, a, b, b2⟩
    · have hA := applyF_some t5 (by omega : ¬ 200 < L.length) b1
      have hlim : (t.apply M).lim := lim_apply (fun n u h => (b2 n u h).1) t t1
      have hdep := dep_apply (M := M) (D := 6) (by omega) (fun n u h => (b2 n u h).2) t
      have hnod : (t.apply M).nodes ≤ 1099511627776 := by
        have := nodes_dep (t.apply M)
        have : 2 ^ (t.apply M).dep ≤ 2 ^ 12 := Nat.pow_le_pow_right (by omega) (by omega)
        omega
      have hgood : (t.apply M).good = true ↔ (t.apply M).dep ≤ 61 ∧ (t.apply M).nodes ≤ 200 := by
        rw [good_iff]
        constructor
        · rintro ⟨h1, h2, h3⟩; exact ⟨by omega, h1⟩
        · rintro ⟨h1, h2⟩; exact ⟨h2, by omega, hlim⟩
      have hap := leApply_ev vs ts b4 b5 b3 t
      rw [hA]
      refine ⟨Ev.bind b6 (Ev.bind g2 (Ev.ite_pos rfl (Ev.succ ?_))), ?_⟩
      · simp only [spec_ApplyType.j0]
        refine Ev.ite_neg (by simp) (Ev.bind hap (Ev.bind (leFine_ev _ hnod) ?_))
        by_cases c : (t.apply M).good = true
        · rw [if_pos c]
          refine Ev.ite_pos (decide_eq_true (hgood.mp c)) (Ev.bind (leText_ev _ hlim hnod) (Ev.of_eq (Ev.now _) ?_))
          rw [text_B]
        · rw [if_neg c]
          exact Ev.ite_neg (by rw [decide_eq_true_eq]; exact fun h => c (hgood.mpr h)) (Ev.now _)
      · intro h
        by_cases c : (t.apply M).good = true
        · exact ⟨t, M, t5, by rw [if_pos c, text_B], c⟩
        · rw [if_neg c] at h; cases h
    · have hA := applyF_bind (s := s.data.toList) b1
      rw [hA]
      refine ⟨Ev.bind b2 (Ev.bind g2 (Ev.ite_neg (by simp) (Ev.succ ?_))), fun h => by cases h⟩
      simp only [spec_ApplyType.j0]
      exact Ev.ite_pos trivial (Ev.now _)
  · have hA := applyF_none (L := L) t5
    rw [hA]
    rcases hO with ⟨t', g1, g2⟩ | ⟨g1, a, b, g2⟩
    · rw [t6] at g1; cases g1
    refine ⟨?_, fun h => by cases h⟩
    rcases hB with ⟨M, vs, ts, b1, b2, b3, b4, b5, b6⟩ | ⟨b1, a', b', b2⟩
    · refine Ev.bind b6 (Ev.bind g2 (Ev.ite_pos rfl (Ev.succ ?_)))
      simp only [spec_ApplyType.j0]
      exact Ev.ite_pos rfl (Ev.now _)
    · refine Ev.bind b2 (Ev.bind g2 (Ev.ite_neg (by simp) (Ev.succ ?_)))
      simp only [spec_ApplyType.j0]
      exact Ev.ite_pos trivial (Ev.now _)
theorem good_both {s : ByteArray} (hs : Dr s) (h : tyOf s.data.toList = none) : Ev (fun k => spec_GoodType.f k s) false := by
  rcases hs.same with ⟨t, t1, t2, t3, t4, t5, t6, t7⟩ | ⟨t5, t6, t7⟩
  · rw [h] at t5; cases t5
  rcases leOf_ev s (by omega) with ⟨t', g1, g2⟩ | ⟨g1, a, b, g2⟩
  · rw [t6] at g1; cases g1
  unfold spec_GoodType.f
  exact Ev.bind g2 (Ev.now _)
end Go.Proofs.YtlkjikknofmcdaaDoor.G

namespace Go.Proofs.YtlkjikknofmcdaaDoor.DrawL
open Go.RowKit Go.Proofs.YtlkjikknofmcdaaDoor.G Go.Proofs.YtlkjikknofmcdaaDoor.TxtL Go.Proofs.YtlkjikknofmcdaaDoor.EvL Go.Proofs.YtlkjikknofmcdaaDoorW.PrintWords Go.Proofs.YtlkjikknofmcdaaDoorW.PrintLast
set_option linter.unusedVariables false

def Bytes (c : List Int) : Prop := c.length ≤ 1048576 ∧ ∀ x ∈ c, 0 ≤ x ∧ x ≤ 255
theorem wf8 {n : Int} (h : (Lit.int .u8 n).wf = true) : 0 ≤ n ∧ n ≤ 255 := by
  have h' : (decide (IntKind.u8.min ≤ n) && decide (n ≤ IntKind.u8.max)) = true := h
  simp only [Bool.and_eq_true, decide_eq_true_iff] at h'
  exact ⟨h'.1, h'.2⟩
theorem and255 (x : Int) : 0 ≤ Go.bits .and .u64 x 255 ∧ Go.bits .and .u64 x 255 ≤ 255 := by
  have h2 : (BitVec.ofInt 64 x &&& BitVec.ofInt 64 255).toNat ≤ 255 := by
    rw [BitVec.toNat_and]
    exact Nat.le_trans Nat.and_le_right (by decide)
  show 0 ≤ IntKind.u64.wrap ((BitVec.ofInt 64 x &&& BitVec.ofInt 64 255).toNat : Int) ∧ IntKind.u64.wrap ((BitVec.ofInt 64 x &&& BitVec.ofInt 64 255).toNat : Int) ≤ 255
  rw [IntKind.wrap_u64]
  omega
theorem rd_byte {c : List Int} (hc : Bytes c) (a : Int) (h0 : 0 ≤ a) (h1 : a < c.length) : 0 ≤ rd c a ∧ rd c a ≤ 255 := by
  refine hc.2 _ ?_
  unfold rd
  rw [List.getD_eq_getElem?_getD, List.getElem?_eq_getElem (by omega : a.toNat < c.length)]
  exact List.getElem_mem _
theorem next_ev {c : List Int} (hc : Bytes c) (a s : Int) (h0 : 0 ≤ a) (h1 : a ≤ 4000000) : ∃ r s', spec_l1Cur_next.f c a s = some (r, a + 1, s') ∧ 0 ≤ r ∧ r ≤ 255 := by
  have hl := hc.1
  have w1 : wrap64 (a + 1) = a + 1 := w64 (by omega) (by omega)
  have wa : ∀ x, 0 ≤ wrap64 (Go.bits .and .u64 x 255) ∧ wrap64 (Go.bits .and .u64 x 255) ≤ 255 := fun x => by
    have := and255 x
    rw [w64 (by omega) (by omega)]; exact this
  unfold spec_l1Cur_next.f
  rw [w1]
  by_cases h : a < (c.length : Int)
  · rw [if_pos h, if_pos h0, if_pos (by omega)]
    have hr := rd_byte hc a h0 h
    exact ⟨_, _, rfl, by rw [w64 (by omega) (by omega)]; exact hr⟩
  · rw [if_neg h, if_neg (by omega)]
    exact ⟨_, _, rfl, wa _⟩
theorem pick_ev {c : List Int} (hc : Bytes c) (a s n : Int) (h0 : 0 ≤ a) (h1 : a ≤ 3000000) (hn : 1 ≤ n) (hn2 : n ≤ 60000) : ∃ r a' s', spec_l1Cur_pick.f c a s n = some (r, a', s') ∧ 0 ≤ r ∧ r < n ∧ a ≤ a' ∧ a' ≤ a + 2 := by
  unfold spec_l1Cur_pick.f
  by_cases h : n ≤ 1
  · rw [if_pos h]; exact ⟨_, _, _, rfl, by omega, by omega, by omega, by omega⟩
  rw [if_neg h]
  obtain ⟨r, s1, e1, g0, g1⟩ := next_ev hc a s h0 (by omega)
  rw [e1, Option.bind_some]
  by_cases h2 : n > 200
  · rw [if_pos h2]
    obtain ⟨r2, s2, e2, k0, k1⟩ := next_ev hc (a + 1) s1 (by omega) (by omega)
    rw [e2, Option.bind_some, if_neg (by omega)]
    dsimp only
    have w1 : wrap64 (r * 256) = r * 256 := w64 (by omega) (by omega)
    have w2 : wrap64 (r * 256 + r2) = r * 256 + r2 := w64 (by omega) (by omega)
    rw [w1, w2]
    exact ⟨_, _, _, rfl, Int.tmod_nonneg _ (by omega), Int.tmod_lt_of_pos _ (by omega), by omega, by omega⟩
  · rw [if_neg h2, if_neg (by omega)]
    exact ⟨_, _, _, rfl, Int.tmod_nonneg _ g0, Int.tmod_lt_of_pos _ (by omega), by show a ≤ a + 1; omega, by show a + 1 ≤ a + 2; omega⟩
theorem one_ev {c : List Int} (hc : Bytes c) (a s n : Int) (h0 : 0 ≤ a) (h1 : a ≤ 3000000) (hn : 1 ≤ n) (hn2 : n ≤ 60000) : ∃ r a' s', spec_l1Cur_one.f c a s n = some (r, a', s') ∧ a ≤ a' ∧ a' ≤ a + 2 := by
  obtain ⟨r, a', s', e, _, _, g1, g2⟩ := pick_ev hc a s n h0 h1 hn hn2
  unfold spec_l1Cur_one.f
  rw [e]
  exact ⟨_, _, _, rfl, g1, g2⟩
theorem among_ev {c : List Int} (hc : Bytes c) (a s : Int) (l : List Int) (h0 : 0 ≤ a) (h1 : a ≤ 3000000) (hn : 1 ≤ l.length) (hn2 : l.length ≤ 60000) : ∃ r a' s', spec_l1Cur_among.f c a s l = some (r, a', s') ∧ a ≤ a' ∧ a' ≤ a + 2 := by
  obtain ⟨r, a', s', e, g3, g4, g1, g2⟩ := pick_ev hc a s l.length h0 h1 (by omega) (by omega)
  unfold spec_l1Cur_among.f
  rw [e, Option.bind_some, if_pos g3, if_pos g4]
  exact ⟨_, _, _, rfl, g1, g2⟩
theorem of_ev {c : List Int} (hc : Bytes c) (a s : Int) (l : List ByteArray) (h0 : 0 ≤ a) (h1 : a ≤ 3000000) (hn : 1 ≤ l.length) (hn2 : l.length ≤ 60000) : ∃ (i : Nat) (a' s' : Int), i < l.length ∧ spec_l1Cur_of.f c a s l = some (l.getD i ByteArray.empty, a', s') ∧ a ≤ a' ∧ a' ≤ a + 2 := by
  obtain ⟨r, a', s', e, g3, g4, g1, g2⟩ := pick_ev hc a s l.length h0 h1 (by omega) (by omega)
  unfold spec_l1Cur_of.f
  rw [e, Option.bind_some, if_pos g3, if_pos g4]
  exact ⟨r.toNat, _, _, by omega, rfl, g1, g2⟩


theorem typeOf_ev {c : List Int} (hc : Bytes c) : ∀ (d : Nat) (a s : Int), d ≤ 4 → 0 ≤ a → a + 4 * 2 ^ d ≤ 100000 → ∃ t : Ty, t.lim ∧ t.dep ≤ d + 1 ∧ ∃ a' s', Ev (fun m => spec_l1Cur_typeOf.f m c a s d) ((toS t).f0, (toS t).f1, a', s') ∧ a ≤ a' ∧ a' ≤ a + 4 * 2 ^ d - 2
  | 0, a, s, hd, h0, h1 => by
    obtain ⟨r, a1, s1, e1, g1, g2, g3, g4⟩ := pick_ev hc a s 4 h0 (by omega) (by omega) (by omega)
    refine ⟨.v r, ⟨by omega, by omega⟩, Nat.le_refl _, a1, s1, Ev.succ ?_, g3, by omega⟩
    simp only [spec_l1Cur_typeOf.f]
    refine Ev.ite_pos rfl (Ev.succ ?_)
    simp only [spec_l1Cur_typeOf.j0, e1, Option.bind_some]
    exact Ev.ite_pos trivial (Ev.now _)
  | d + 1, a, s, hd, h0, h1 => by
    have w2 : wrap64 (((d + 1 : Nat) : Int) - 1) = (d : Int) := by rw [w64 (by omega) (by omega)]; omega
    have hp : (2 : Int) ^ (d + 1) = 2 * 2 ^ d := by rw [Int.pow_succ]; omega
    have hq : (1 : Int) ≤ 2 ^ d ∧ (2 : Int) ^ d ≤ 16 := by
      have : d = 0 ∨ d = 1 ∨ d = 2 ∨ d = 3 := by omega
      rcases this with rfl | rfl | rfl | rfl <;> decide
    rw [hp] at h1 ⊢
    obtain ⟨b, a1, s1, e1, g1, g2⟩ := one_ev hc a s 3 h0 (by omega) (by omega) (by omega)
    cases b with
    | true =>
      obtain ⟨r, a2, s2, e2, k1, k2, k3, k4⟩ := pick_ev hc a1 s1 4 (by omega) (by omega) (by omega) (by omega)
      refine ⟨.v r, ⟨by omega, by omega⟩, by show 1 ≤ _; omega, a2, s2, Ev.succ ?_, by omega, by omega⟩
      simp only [spec_l1Cur_typeOf.f, e1, Option.bind_some]
      refine Ev.ite_neg (by omega) (Ev.succ ?_)
      simp only [spec_l1Cur_typeOf.j0, e2, Option.bind_some]
      exact Ev.ite_pos trivial (Ev.now _)
    | false =>
      obtain ⟨t, t1, t2, a2, s2, h2, g5, g6⟩ := typeOf_ev hc d a1 s1 (by omega) (by omega) (by omega)
      obtain ⟨u, u1, u2, a3, s3, h3, g7, g8⟩ := typeOf_ev hc d a2 s2 (by omega) (by omega) (by omega)
      refine ⟨.a t u, ⟨t1, u1⟩, by show 1 + max t.dep u.dep ≤ _; omega, a3, s3, Ev.succ ?_, by omega, by omega⟩
      simp only [spec_l1Cur_typeOf.f, e1, Option.bind_some]
      refine Ev.ite_neg (by omega) (Ev.succ ?_)
      simp only [spec_l1Cur_typeOf.j0, w2]
      refine Ev.ite_neg (by simp) (Ev.bind h2 (Ev.bind h3 (Ev.of_eq (Ev.now _) ?_)))
      simp only [toS_eta]
      rfl
def consts : List ByteArray := [(⟨#[]⟩ : ByteArray), (⟨#[116]⟩ : ByteArray), (⟨#[116, 49, 48, 48, 48]⟩ : ByteArray), (⟨#[116, 57, 57, 57]⟩ : ByteArray), (⟨#[40, 116, 48, 62, 116, 49]⟩ : ByteArray), (⟨#[116, 48, 49]⟩ : ByteArray), (⟨#[40, 116, 48, 32, 62, 32, 116, 49, 41]⟩ : ByteArray)]
theorem t999 : B (tyl (.v 999)) = (⟨#[116, 57, 57, 57]⟩ : ByteArray) := by
  have : tyl (.v 999) = [116, 57, 57, 57] := by decide +kernel
  rw [this]; rfl
theorem consts_dr (i : Nat) (hi : i < 7) : Dr (consts.getD i ByteArray.empty) := by
  have : i = 0 ∨ i = 1 ∨ i = 2 ∨ i = 3 ∨ i = 4 ∨ i = 5 ∨ i = 6 := by omega
  rcases this with rfl | rfl | rfl | rfl | rfl | rfl | rfl
  · exact .inr ⟨0, by omega, rfl⟩
  · exact .inr ⟨1, by omega, rfl⟩
  · exact .inr ⟨2, by omega, rfl⟩
  · exact .inl ⟨.v 999, ⟨by omega, by omega⟩, by show 1 ≤ 6; omega, t999.symm⟩
  · exact .inr ⟨3, by omega, rfl⟩
  · exact .inr ⟨4, by omega, rfl⟩
  · exact .inr ⟨5, by omega, rfl⟩
theorem few_nodes {t : Ty} {d : Nat} (h : t.dep ≤ d) (hd : d ≤ 6) : t.nodes ≤ 64 := by
  have := nodes_dep t
  have : 2 ^ t.dep ≤ 2 ^ 6 := Nat.pow_le_pow_right (by omega) (by omega)
  omega
theorem typeText_ev {c : List Int} (hc : Bytes c) (a s : Int) (h0 : 0 ≤ a) (h1 : a ≤ 90000) : ∃ x a' s', Dr x ∧ Ev (fun m => spec_l1Cur_typeText.f m c a s) (x, a', s') ∧ a ≤ a' ∧ a' ≤ a + 100 := by
  obtain ⟨r, a1, s1, e1, g1, g2, g3, g4⟩ := pick_ev hc a s 4 h0 (by omega) (by omega) (by omega)
  obtain ⟨d, rfl⟩ : ∃ d : Nat, r = (d : Int) := ⟨r.toNat, by omega⟩
  have w1 : wrap64 (1 + (d : Int)) = ((d + 1 : Nat) : Int) := by rw [w64 (by omega) (by omega)]; omega
  have hq : (2 : Int) ^ (d + 1) ≤ 16 := by
    have : d = 0 ∨ d = 1 ∨ d = 2 ∨ d = 3 := by omega
    rcases this with rfl | rfl | rfl | rfl <;> decide
  obtain ⟨t, t1, t2, a2, s2, h2, g5, g6⟩ := typeOf_ev hc (d + 1) a1 s1 (by omega) (by omega) (by omega)
  have hn := few_nodes t2 (by omega)
  obtain ⟨b, a3, s3, e3, g7, g8⟩ := one_ev hc a2 s2 30 (by omega) (by omega) (by omega) (by omega)
  have hx := leText_ev t t1 (by omega)
  cases b with
  | false =>
    refine ⟨B (tyl t), a3, s3, .inl ⟨t, t1, by omega, rfl⟩, ?_, by omega, by omega⟩
    simp only [spec_l1Cur_typeText.f, e1, Option.bind_some, w1]
    refine Ev.bind h2 (Ev.bind hx ?_)
    simp only [e3, Option.bind_some]
    exact Ev.ite_neg (by simp) (Ev.now _)
  | true =>
    obtain ⟨i, a4, s4, hi, e4, g9, g10⟩ := of_ev hc a3 s3 consts (by omega) (by omega) (by decide) (by decide)
    refine ⟨consts.getD i ByteArray.empty, a4, s4, consts_dr i hi, ?_, by omega, by omega⟩
    simp only [spec_l1Cur_typeText.f, e1, Option.bind_some, w1]
    refine Ev.bind h2 (Ev.bind hx ?_)
    simp only [e3, Option.bind_some]
    refine Ev.ite_pos trivial ?_
    show Ev (fun m => (spec_l1Cur_of.f c a3 s3 consts).bind _) _
    rw [e4]
    exact Ev.now _
theorem binds_ev {c : List Int} (hc : Bytes c) : ∀ (d v : Nat) (L : List S47) (a s : Int), v + d = 4 → L.length ≤ v → (∀ x ∈ L, Dr x.f1) → 0 ≤ a → a ≤ 1000 * v → ∃ L' a' s', Ev (fun m => spec_l1Cur_binds.l0 m L v c a s) (L', a', s') ∧ L'.length ≤ 5 ∧ (∀ x ∈ L', Dr x.f1) ∧ 0 ≤ a' ∧ a' ≤ 5000
  | 0, v, L, a, s, hv, hl, hd, h0, h1 => by
    obtain rfl : v = 4 := by omega
    obtain ⟨b, a1, s1, e1, g1, g2⟩ := one_ev hc a s 30 h0 (by omega) (by omega) (by omega)
    cases b with
    | false =>
      refine ⟨L, a1, s1, Ev.succ ?_, by omega, hd, by omega, by omega⟩
      simp only [spec_l1Cur_binds.l0, e1, Option.bind_some]
      exact Ev.ite_neg (by omega) (Ev.ite_neg (by simp) (Ev.now _))
    | true =>
      obtain ⟨n, a2, s2, e2, g3, g4⟩ := among_ev hc a1 s1 [0, 999, 1000] (by omega) (by omega) (by decide) (by decide)
      obtain ⟨x, a3, s3, hx, h3, g5, g6⟩ := typeText_ev hc a2 s2 (by omega) (by omega)
      refine ⟨L ++ [⟨n, x⟩], a3, s3, Ev.succ ?_, by simp; omega, fun y hy => ?_, by omega, by omega⟩
      · simp only [spec_l1Cur_binds.l0, e1, e2, Option.bind_some]
        exact Ev.ite_neg (by omega) (Ev.ite_pos trivial (Ev.bind h3 (Ev.ite_pos (by omega) (Ev.now _))))
      · rcases List.mem_append.mp hy with h | h
        · exact hd y h
        · rw [List.mem_singleton.mp h]; exact hx
  | d + 1, v, L, a, s, hv, hl, hd, h0, h1 => by
    have w1 : wrap64 ((v : Int) + 1) = ((v + 1 : Nat) : Int) := by rw [w64 (by omega) (by omega)]; omega
    obtain ⟨b, a1, s1, e1, g1, g2⟩ := one_ev hc a s 2 h0 (by omega) (by omega) (by omega)
    cases b with
    | false =>
      obtain ⟨L', a', s', i1, i2, i3, i4, i5⟩ := binds_ev hc d (v + 1) L a1 s1 (by omega) (by omega) hd (by omega) (by omega)
      refine ⟨L', a', s', Ev.succ ?_, i2, i3, i4, i5⟩
      simp only [spec_l1Cur_binds.l0, e1, Option.bind_some, w1]
      exact Ev.ite_pos (by omega) (Ev.ite_neg (by simp) i1)
    | true =>
      obtain ⟨r, a2, s2, e2, g3, g4, g5, g6⟩ := pick_ev hc a1 s1 3 (by omega) (by omega) (by omega) (by omega)
      obtain ⟨k, rfl⟩ : ∃ k : Nat, r = (k : Int) := ⟨r.toNat, by omega⟩
      have hq : (2 : Int) ^ k ≤ 4 := by
        have : k = 0 ∨ k = 1 ∨ k = 2 := by omega
        rcases this with rfl | rfl | rfl <;> decide
      obtain ⟨t, t1, t2, a3, s3, h3, g7, g8⟩ := typeOf_ev hc k a2 s2 (by omega) (by omega) (by omega)
      have hn := few_nodes t2 (by omega)
      have hx := leText_ev t t1 (by omega)
      obtain ⟨L', a', s', i1, i2, i3, i4, i5⟩ := binds_ev hc d (v + 1) (L ++ [⟨(v : Int), B (tyl t)⟩]) a3 s3 (by omega) (by simp; omega) (fun y hy => by
        rcases List.mem_append.mp hy with h | h
        · exact hd y h
        · rw [List.mem_singleton.mp h]; exact .inl ⟨t, t1, by omega, rfl⟩) (by omega) (by omega)
      refine ⟨L', a', s', Ev.succ ?_, i2, i3, i4, i5⟩
      simp only [spec_l1Cur_binds.l0, e1, e2, Option.bind_some, w1]
      exact Ev.ite_pos (by omega) (Ev.ite_pos trivial (Ev.bind h3 (Ev.bind hx (Ev.ite_pos (by omega) i1))))
theorem draw_ev {c : List Int} (hc : Bytes c) : ∃ L x, Ev (fun m => spec_DrawApplyType.f m c) (L, x) ∧ L.length ≤ 5 ∧ (∀ y ∈ L, Dr y.f1) ∧ Dr x := by
  obtain ⟨L, a, s, h1, h2, h3, h4, h5⟩ := binds_ev hc 4 0 [] 0 0 (by omega) (by simp) (fun x h => by simp at h) (by omega) (by omega)
  obtain ⟨x, a', s', hx, h6, _⟩ := typeText_ev hc a s h4 (by omega)
  refine ⟨L, x, ?_, h2, h3, hx⟩
  unfold spec_DrawApplyType.f
  refine Ev.bind (g := fun m => spec_l1Cur_binds.f m c 0 0) h1 (Ev.bind h6 (Ev.now _))
end Go.Proofs.YtlkjikknofmcdaaDoor.DrawL

namespace Go.Proofs.YtlkjikknofmcdaaDoor.Pure
open Go.RowKit Go.Proofs.YtlkjikknofmcdaaDoor.G Go.Proofs.YtlkjikknofmcdaaDoor.EvL Go.Proofs.YtlkjikknofmcdaaDoor.TxtL Go.Proofs.YtlkjikknofmcdaaDoor.DrawL Go.Proofs.YtlkjikknofmcdaaDoorW.PrintWords
set_option linter.unusedVariables false
set_option linter.unusedSimpArgs false

theorem told {α : Type} {g : Nat → Option α} {r : α} (h : ∀ k, g k = some r) : Ev g r := ⟨0, fun k _ => h k⟩
theorem numbers_ev (vs : List Int) (h : ∀ i : Nat, i < vs.length → rd vs (i : Int) = (i : Int)) (hl : vs.length ≤ 1000) : ∀ (d i : Nat), i + d = vs.length → Ev (fun k => laws_FnInstances.l0 k true true true true true vs (vs.length : Int) i) true
  | 0, i, hi => by
    refine Ev.succ ?_
    simp only [laws_FnInstances.l0]
    exact Ev.ite_neg (by omega) (Ev.ite_pos trivial (Ev.ite_pos trivial (Ev.ite_pos trivial (Ev.ite_pos trivial (Ev.now _)))))
  | d + 1, i, hi => by
    have w1 : wrap64 ((i : Int) + 1) = ((i + 1 : Nat) : Int) := by rw [w64 (by omega) (by omega)]; omega
    refine Ev.succ ?_
    simp only [laws_FnInstances.l0, w1]
    exact Ev.ite_pos (by omega) (Ev.ite_pos (by omega) (Ev.ite_pos (by omega) (Ev.ite_pos (h i (by omega)) (numbers_ev vs h hl d (i + 1) (by omega)))))
theorem own_size {t : Ty} (h : t.good = true) : (B (tyl t)).size ≤ 10000 := by
  obtain ⟨h1, h2, h3⟩ := (good_iff t).mp h
  have := tyl_len t (lim_ok t h3)
  rw [B_size]; omega
theorem inst_ev {x y : ByteArray} {r : Bool × Bool} (hx : x.size ≤ 10000) (hy : y.size ≤ 10000) (h : instF x.data.toList y.data.toList = r) : Ev (fun k => impl_InstanceOf.f k x y) r :=
  Ev.const (h ▸ if_pos ⟨by omega, by omega⟩)
theorem own_inst {t u : Ty} (ht : t.good = true) (hu : u.good = true) (h : (t.fits u noB).1 = true) : Ev (fun k => impl_InstanceOf.f k (B (tyl t)) (B (tyl u))) (true, true) := by
  refine inst_ev (own_size ht) (own_size hu) ?_
  rw [B_list, B_list, instF_some (tyOf_own ht) (tyOf_own hu), h]
theorem plain_ev {x : ByteArray} (hx : Dr x) : Ev (fun k => laws_FnInstances.j1 k x) true := by
  refine Ev.succ ?_
  simp only [laws_FnInstances.j1]
  rcases hx.same with ⟨t, t1, t2, t3, t4, t5, t6, t7⟩ | ⟨t5, t6, t7⟩
  · have g := plain_good t3
    have hp : Ev (fun k => impl_PlainType.f k x) (B (tyl t.plain), true) := told (fun k => by
      unfold impl_PlainType.f
      rw [if_pos (by omega), plainF_some t5, text_B])
    have e1 : Ev (fun k => impl_InstanceOf.f k x (B (tyl t.plain))) (true, true) := by
      rw [t4]; exact own_inst t3 g (fits_noB _ t)
    have e2 : Ev (fun k => impl_InstanceOf.f k (B (tyl t.plain)) x) (true, true) := by
      rw [t4]
      refine own_inst g t3 ?_
      have := fits_noB (backM t) t.plain
      rwa [plain_back] at this
    have e3 : Ev (fun k => impl_VarsOf.f k (B (tyl t.plain))) (t.plain.vars, true) := told (fun k => by
      unfold impl_VarsOf.f
      rw [if_pos (by have := own_size g; omega), B_list]
      unfold varsF
      rw [tyOf_own g])
    have hl : t.plain.vars.length ≤ 1000 := by
      have := t.plain.vars_len
      have := ((good_iff _).mp g).1
      omega
    exact Ev.bind hp (Ev.ite_pos rfl (Ev.bind e1 (Ev.bind e2 (Ev.bind e3 (numbers_ev t.plain.vars (plain_vars_at t) hl t.plain.vars.length 0 (by omega))))))
  · have hp : Ev (fun k => impl_PlainType.f k x) (⟨#[]⟩, false) := told (fun k => by
      unfold impl_PlainType.f
      rw [if_pos (by omega), plainF_none t5])
    exact Ev.bind hp (Ev.ite_neg (by simp) (Ev.bind (good_both hx t5) (Ev.now _)))
theorem FnInstances : laws_FnInstances.Pure := by
  intro l0 hsz hw
  suffices h : Ev (fun k => laws_FnInstances.f k l0) true by
    obtain ⟨K, hK⟩ := h
    exact ⟨K, hK K (Nat.le_refl _)⟩
  unfold laws_FnInstances.f
  by_cases hl : (l0.length : Int) > 1048576
  · exact Ev.ite_pos hl (Ev.now _)
  refine Ev.ite_neg hl ?_
  have hc : Bytes l0 := ⟨by omega, fun x hx => wf8 (hw.2 x hx)⟩
  obtain ⟨L, x, h1, h2, h3, h4⟩ := draw_ev hc
  obtain ⟨h5, h6⟩ := apply_both L x (by omega) h3 h4
  have hx : x.size ≤ 10000 := by rcases h4.same with ⟨_, _, _, _, _, _, _, h⟩ | ⟨_, _, h⟩ <;> omega
  have hi : Ev (fun k => impl_ApplyType.f k L x) (applyF L x.data.toList) := Ev.const (if_pos ⟨by omega, fun y hy => by
    rcases (h3 y hy).same with ⟨_, _, _, _, _, _, _, h⟩ | ⟨_, _, h⟩ <;> omega⟩)
  obtain ⟨r, hr⟩ : ∃ r, applyF L x.data.toList = r := ⟨_, rfl⟩
  rw [hr] at h5 h6 hi
  refine Ev.bind h1 (Ev.bind hi (Ev.bind h5 (Ev.ite_neg (by simp) ?_)))
  show Ev (fun k => laws_FnInstances.j0 k x r.1 r.2 (r.1.toList != r.1.toList)) true
  rw [bne_self_eq_false]
  refine Ev.succ ?_
  simp only [laws_FnInstances.j0]
  refine Ev.ite_neg (by simp) ?_
  by_cases c : r.2 = true
  · obtain ⟨t, M, g1, g2, g3⟩ := h6 c
    refine Ev.ite_pos c ?_
    have e : Ev (fun k => impl_InstanceOf.f k x r.1) (true, true) := by
      rw [g2]
      refine inst_ev hx (own_size g3) ?_
      rw [B_list, instF_some g1 (tyOf_own g3), fits_noB]
    exact Ev.bind e (Ev.ite_pos rfl (Ev.ite_pos rfl (plain_ev h4)))
  · exact Ev.ite_neg c (plain_ev h4)
end Go.Proofs.YtlkjikknofmcdaaDoor.Pure

namespace Go.Proofs.YtlkjikknofmcdaaDoor.Open
open Go.RowKit Go.Proofs.YtlkjikknofmcdaaDoorW.PrintWords
open Go.WideShapes
set_option linter.unusedVariables false

def Opens {α : Type} (H : Type) (enc : TypeId × Value → H) (P : Program) (t : TypeId) (d : Kd α) (good : α → Prop) : Prop :=
  ∀ (w : World) (base : Nat) (spare : Nat → Bool) (held : Bool) (fuel : Nat) (cs : List Value) (x : DataW H × List MemPlace),
    DataW.trod enc P w base spare held fuel t cs = some x → ∃ v, d.K w v cs ∧ good v

section
variable {H : Type} {enc : TypeId × Value → H} {P : Program}

theorem opens_int {t : TypeId} {k : IntKind} (ht : P.underlying t = some (.int k)) : Opens H enc P t (Kd.int k) (fun n => (Lit.int k n).wf = true) := by
  intro w base spare held fuel cs x h
  obtain ⟨n, rfl, _, hw⟩ := DataW.trod_int ht h
  exact ⟨n, rfl, hw⟩

theorem choose_list {α : Type} (p : Nat → α → Prop) : ∀ n : Nat, (∀ i, i < n → ∃ a, p i a) → ∃ l : List α, l.length = n ∧ ∀ i a, l[i]? = some a → p i a
  | 0, _ => ⟨[], rfl, fun i a h => by simp at h⟩
  | n + 1, h => by
    obtain ⟨l, hl, hp⟩ := choose_list p n (fun i hi => h i (by omega))
    obtain ⟨a, ha⟩ := h n (by omega)
    refine ⟨l ++ [a], by simp [hl], fun i b hb => ?_⟩
    by_cases hi : i < n
    · exact hp i b (by rwa [List.getElem?_append_left (by omega)] at hb)
    · rw [List.getElem?_append_right (by omega)] at hb
      have : i - l.length = 0 := by
        by_cases h0 : i - l.length = 0
        · exact h0
        · rw [List.getElem?_eq_none (by simp; omega)] at hb; simp at hb
      rw [this] at hb
      obtain rfl : a = b := by simpa using hb
      obtain rfl : i = n := by omega
      exact ha

theorem opens_slice {α : Type} {t e : TypeId} {d : Kd α} {good : α → Prop} (ht : P.underlying t = some (.slice e)) (he : Opens H enc P e d good) (hc : P.cellsOf e = d.sz) :
    Opens H enc P t (Kd.slice e d) (fun l => l.length ≤ 9223372036854775807 ∧ ∀ x ∈ l, good x) := by
  intro w base spare held fuel cs x h
  rcases DataW.trod_slice ht h with ⟨rfl, _⟩ | ⟨a, len, cap, elems, rest, n, _, rfl, _, hb, hl, hm, hel, hg, _, _⟩
  · exact ⟨[], ⟨none, 0, rfl, Nat.le_refl _, ⟨rfl, by simp, fun h => by simp at h⟩⟩, by simp, by simp⟩
  · have hm' : cap ≤ 9223372036854775807 := hm
    have key : ∀ i, i < len → ∃ v : α, good v ∧ ∃ c : List Value, c.length = d.sz ∧ d.K w v c ∧ ∀ j u, c[j]? = some u → w.cell? (a.add (i * d.sz + j)) = some u := by
      intro i hi
      have hgi := hg i hi
      have hsome : ∃ y, elems[i]? = some y := ⟨elems[i]'(by omega), List.getElem?_eq_getElem (by omega)⟩
      obtain ⟨y, hy⟩ := hsome
      rw [hy] at hgi
      obtain ⟨c, hc1, hc2⟩ := Option.bind_eq_some_iff.mp hgi
      obtain ⟨v, hK, hgood⟩ := he w base spare held n c y hc2
      obtain ⟨_, hlen, hcell⟩ := World.cells?_some hc1
      refine ⟨v, hgood, c, d.K_len hK, hK, fun j u hu => ?_⟩
      have hj : j < c.length := by
        by_cases hj : j < c.length
        · exact hj
        · rw [List.getElem?_eq_none (by omega)] at hu; simp at hu
      have := hcell j (by omega)
      rw [Addr.add_add, hc, hu] at this
      exact this
    obtain ⟨l, hl0, hl1⟩ := choose_list (fun i v => good v ∧ ∃ c : List Value, c.length = d.sz ∧ d.K w v c ∧ ∀ j u, c[j]? = some u → w.cell? (a.add (i * d.sz + j)) = some u) len key
    refine ⟨l, ⟨some a, cap, by rw [hl0], by omega, ⟨rfl, by omega, fun _ => ⟨a, rfl, fun j p hp => (hl1 j p hp).2⟩⟩⟩, by omega, fun v hv => ?_⟩
    obtain ⟨i, hi⟩ := List.mem_iff_getElem?.mp hv
    exact (hl1 i v hi).1

theorem slice_in {α : Type} {t e : TypeId} {d : Kd α} {good : List α → Prop} (ht : P.underlying t = some (.slice e)) (hs : Opens H enc P t (Kd.slice e d) good) {W : World} {r : Reach} {b base : Nat} {spare : Nat → Bool} {held : Bool} {v : Value} {dd : DataW H} {p : List MemPlace}
    (hv : Value.okWide P W r b t v) (h : DataW.Trod enc P W base spare held t v dd p) : ∃ (A : Option Addr) (l : List α) (c : Nat), v = .slice A l.length c ∧ l.length ≤ c ∧ d.C W A l.length l ∧ good l := by
  obtain ⟨a, len, cap, rfl⟩ := okWide_slice ht hv
  obtain ⟨fuel, hf⟩ := h
  obtain ⟨l, ⟨A, c, hcs, hlc, hC⟩, hg⟩ := hs W base spare held fuel _ _ hf
  simp [Value.cells] at hcs
  obtain ⟨rfl, rfl, rfl⟩ := hcs
  exact ⟨a, l, cap, rfl, hlc, hC, hg⟩

end
end Go.Proofs.YtlkjikknofmcdaaDoor.Open

namespace Go.Proofs.YtlkjikknofmcdaaDoor.fnInstances
open Go.ChangeShapes Go.WideShapes Go.ChangeAt Go.RowKit Go.Proofs.YtlkjikknofmcdaaDoor.Open Go.Proofs.YtlkjikknofmcdaaDoor.G Go.Proofs.YtlkjikknofmcdaaDoorW.PrintWords
open Go.ChangeMaps (open_string shut_string)
set_option linter.unusedVariables false
theorem own : ownKnob Tryd.prog.godebug = none := by kernel_rfl
theorem laidOut : laidOutB Tryd.prog = true := by kernel_rfl
theorem laidShaped {H : Type} {enc : TypeId × Value → H} {a : Assume} {C : Checked} {os : Os} {f : FuncId} {fn : Func} {s : ChangeSpec} {conds : List PathCond} {apart fresh handsOn again : Bool} {X : World → Array Value → Prop}
    (hX : ∀ (w w' : World) (args : Array Value), w.heap = w'.heap → X w args → X w' args)
    (own : ownKnob C.prog.godebug = none) (started : os.Started) (noInit : C.prog.inits.idxOf? f = none) (hfn : C.prog.funcs[f]? = some fn)
    (witness : ∃ (w : World) (tape : Tape) (i : Input), w.os = os ∧ (w.forCall tape i).Shaped C.prog ∧ i.vars = [] ∧ Input.okWide C.prog (w.forCall tape i) .any w.heap.size f i ∧
      ((s.pre enc C.prog fn conds apart (w.forCall tape i).memory i.args ∧ X (w.forCall tape i).memory i.args) ∧ sizedMet enc C.prog fn (OpenSpec.ofChange s) apart (w.forCall tape i).memory i.args) ∧ a.holds C.prog (lone (Frame.enter C.prog f i.args .normal) [] (w.forCall tape i)))
    (contract : ∀ (W : World) (base : Nat) (args : Array Value) (ds gs : List (DataW H)) (before : List MemPlace),
      (∀ (j : Nat) t v, fn.params[j]? = some t → args[j]? = some v → Value.okWide C.prog W .any base t v) →
      DataW.Whole enc C.prog fn.params.toList s.vars apart W args.toList ds gs before →
      conds.all (PathCond.test C.prog ⟨fn.params.toList, ds, s.plain.varTypes C.prog, gs⟩) = true →
      (DataW.weightsEach C.prog (fn.params.toList ++ s.plain.varTypes C.prog) (ds ++ gs)).all (· ≤ reachBytes) = true → X W args → W.ShapedOpen C.prog →
      Calls C.prog f args W fun e W' => ∃ v, e = .returned v ∧ s.post enc C.prog fn apart fresh handsOn again W args v W') :
    ReturnsInHanded a C os f .any (fun w args => (s.pre enc C.prog fn conds apart w args ∧ X w args) ∧ sizedMet enc C.prog fn (OpenSpec.ofChange s) apart w args) (s.post enc C.prog fn apart fresh handsOn again) := by
  refine returnsInHanded_of_calls own started noInit witness ?_
  intro w tape i _ hsh _ hok hpre _
  obtain ⟨_, _, _, fn', hfn', _, _, _, _, hval⟩ := hok
  obtain rfl : fn' = fn := Option.some.inj (hfn'.symm.trans hfn)
  obtain ⟨⟨⟨ds, gs, before, hw, hc⟩, hx⟩, hz⟩ := hpre
  refine (contract _ w.heap.size i.args ds gs before hval (DataW.Whole.of_heap (w' := w.forCall tape i) (by rfl) hw) hc (hz.weights hw) (hX _ _ _ (by rfl) hx) hsh).mono fun e W' h => ?_
  obtain ⟨v, rfl, hp⟩ := h
  exact ChangeSpec.post_blind hp
theorem tab_of {W : World} {rest : List (String × DataW Unit)} (h : laidMet Tryd.prog (("internal/strconv.uint64pow10", Rows.laid_internal_strconv_uint64pow10) :: rest) W) : Tab W :=
  Lib.tabIs_of_head (k := .u64) (zs := Lib.pow10Tab) (g := 2) (t := 119) (e := 37) (n := 20) (by kernel_rfl) (by kernel_rfl) (by kernel_rfl) (by kernel_rfl) (by kernel_rfl) (by kernel_rfl) h
theorem star : "*" ++ "errors.errorString" = "*errors.errorString" := by decide
theorem row_err (u : TypeId) (h : Tryd.prog.typeName? 3 u = some "*errors.errorString") : u = 125 :=
  typeName_ptr_named (nm := "errors.errorString") (by rw [star]; kernel_rfl) (by kernel_rfl) (by decide) u (by rw [star]; exact h)
theorem synOf {W : World} {rest : List (String × DataW Unit)} (h : laidMet Tryd.prog (("strconv.ErrSyntax", Rows.laid_strconv_ErrSyntax) :: rest) W) : ∃ tp p, W.var? Tryd.prog "strconv.ErrSyntax" = some #[.iface tp p] := by
  obtain ⟨a, s, hv, _⟩ := laid_sentinel h (g := 0) (ti := 91) (tp := 125) (te := 127) (ts := 9) (by kernel_rfl) (by kernel_rfl) Tryd.underlying91 row_err Tryd.underlying125 Tryd.underlying127 rfl rfl Tryd.underlying9 (by kernel_rfl) (by kernel_rfl)
  exact ⟨_, _, hv⟩
theorem rngOf {W : World} {rest : List (String × DataW Unit)} (h : laidMet Tryd.prog (("strconv.ErrRange", Rows.laid_strconv_ErrRange) :: rest) W) : ∃ tp p, W.var? Tryd.prog "strconv.ErrRange" = some #[.iface tp p] := by
  obtain ⟨a, s, hv, _⟩ := laid_sentinel h (g := 1) (ti := 91) (tp := 125) (te := 127) (ts := 9) (by kernel_rfl) (by kernel_rfl) Tryd.underlying91 row_err Tryd.underlying125 Tryd.underlying127 rfl rfl Tryd.underlying9 (by kernel_rfl) (by kernel_rfl)
  exact ⟨_, _, hv⟩
set_option maxRecDepth 100000 in
theorem lifted (os : Os) (started : os.Started) (H : Type) (enc : TypeId × Value → H) :
    ReturnsInHanded {} Tryd.checked os 3 .any (fun w args => (Rows.fnInstancesSpec.pre enc Tryd.prog Tryd.f3 Rows.fnInstancesRow.domain false w args ∧ laidMetH Tryd.prog Rows.fnInstancesRow.laid w) ∧ sizedMet enc Tryd.prog Tryd.f3 (OpenSpec.ofChange Rows.fnInstancesSpec) false w args) (Rows.fnInstancesSpec.post enc Tryd.prog Tryd.f3 false true false false) := by
  refine laidShaped (C := Tryd.checked) (X := fun w _ => laidMetH Tryd.prog Rows.fnInstancesRow.laid w) (fun _ _ _ hh h => h.of_heap hh) own started (by kernel_rfl) Tryd.func3
    (ChangeSpec.witness_shaped (enc := enc) (C := Tryd.checked) (os := os) (X := fun w _ => laidMetH Tryd.prog Rows.fnInstancesRow.laid w) false (World.laidAll Tryd.prog os Rows.fnInstancesRow.laid) #[.slice none 0 0] 8 (World.laidAll_os _ _ _)
      (World.shaped_of_ZipB (by kernel_rfl) (by kernel_rfl)) (by kernel_rfl) (by kernel_rfl) (by kernel_rfl)
      (by rw [MakeChecks.laidMetH_plain _ _ _ (by kernel_rfl)]; exact laidMet_laidAll _ (by kernel_rfl) (by kernel_rfl))) ?_
  intro W base args ds gs before hval0 hW hcnd hsz0 hX1 hsh
  have hsz : (DataW.weightsEach Tryd.prog (Tryd.f3.params.toList ++ Rows.fnInstancesSpec.plain.varTypes Tryd.prog) (ds ++ gs)).all (· ≤ reachBytes) = true := hsz0
  have hval : ∀ (j : Nat) t v, Tryd.f3.params[j]? = some t → args[j]? = some v → Value.okWide Tryd.prog W .any base t v := hval0
  have hW' := hW
  obtain ⟨p, q, hA0, hV, rfl, hfz, hnd⟩ := hW
  have hA : DataW.TrodAll enc Tryd.prog W 0 (fun _ => true) true Tryd.f3.params.toList args.toList ds p := hA0
  rw [Tryd.params3] at hA hval hsz
  obtain ⟨v0, vs0, d0, ds0, p0, q0, hargs, rfl, rfl, h0, r0⟩ := trodAll_cons hA
  obtain ⟨rfl, rfl, rfl⟩ := trodAll_nil r0
  obtain rfl : args = #[v0] := by cases args; simp_all
  obtain ⟨rfl, rfl⟩ := trodVars_none hV
  have k0 := h0
  have lt0 : ∀ x ∈ p0, x.block < W.heap.size := by obtain ⟨m, hm⟩ := k0; exact DataW.trod_lt m _ _ _ hm
  have y0 := fun a len cap (e : v0 = .slice a len cap) => Go.Proofs.YtlkjikknofmcdaaDoorW.PrintWords.sized_ints (B := 1) hsz (j := 0) (t := 22) rfl rfl Tryd.underlying22 Tryd.underlying5 (by kernel_rfl) (by kernel_rfl) (e ▸ h0)
  obtain ⟨A0, l0, c0, rfl, hc0, hr0, hg0⟩ := slice_in Tryd.underlying22 (opens_slice Tryd.underlying22 (opens_int Tryd.underlying5) (by kernel_rfl)) (hval 0 22 v0 rfl rfl) h0
  clear hA0 hval0 hsz0 hsz
  obtain ⟨k_, hk_⟩ := Pure.FnInstances l0 (y0 _ _ _ rfl) hg0
  have hL : laidMet Tryd.prog Rows.fnInstancesRow.laid W := by
    rw [← MakeChecks.laidMetH_plain _ _ _ (by kernel_rfl)]; exact hX1
  have hE : G.Met W := ⟨(tab_of (laidMet.tail (laidMet.tail hL))), ⟨(synOf (laidMet.tail (laidMet.tail (laidMet.tail (laidMet.tail hL))))), (rngOf (laidMet.tail (laidMet.tail (laidMet.tail hL))))⟩⟩
  refine (laws_FnInstances.calls k_ A0 c0 l0 true W hr0 hc0 hk_ hE).mono fun e W' ⟨he, bel0⟩ => ?_
  have bel : Below W.heap.size W W' := bel0
  subst he
  exact ⟨_, rfl, _, _, _, [], _, [], hW', trodAll_mk1 (shut_bool Tryd.underlying4 _), (trodAll_cons_mk (Below.trod laidOut (by kernel_rfl) (of_decide_eq_true (by kernel_rfl)) k0 bel lt0) trodAll_mk0), rfl, bel.frame _, fun h => by cases h⟩
theorem over : Rows.FnInstancesSaid :=
  OpenClaim.holds_of_wide 3 Tryd.f3 rfl rfl rfl rfl rfl rfl rfl ⟨rfl, rfl, rfl, rfl, rfl⟩ rfl rfl rfl rfl rfl (by kernel_rfl) Tryd.func3 (by kernel_rfl)
    (of_decide_eq_true (by kernel_rfl)) (by unfold Func.isWrapper; first | (rw [if_pos (by decide +kernel)]; kernel_rfl) | (rw [if_neg (by decide +kernel)]; exact ⟨rfl, rfl⟩))
    (fun os started H enc _ => lifted os started H enc)
theorem proved : Rows.FnInstancesCardSaid :=
  Claim7.holds_tied_plain_at .later [] [.data, .data, .data, .sentinel, .sentinel] true (true, "eee31704d69943dcfbb547e3bc8e5ec5dcc517d55e23263a26e0e69e829f22cd") true
    over (fun _ h => by cases h) (by kernel_rfl) (fun _ h => by cases h) fnInstances_row_tie rfl ⟨rfl, rfl⟩ (by kernel_rfl) rfl
    (fun f fn hf hfn => by
      obtain rfl : f = 3 := Option.some.inj ((show Tryd.prog.funcNamed "loop.example/g00201/laws.FnInstances" = some 3 by kernel_rfl).symm.trans hf) |>.symm
      obtain rfl : fn = Tryd.f3 := (Option.some.inj (Tryd.func3.symm.trans hfn)).symm
      exact ⟨by kernel_rfl, fun j t ht => by
        rw [Tryd.params3] at ht
        have hm : t ∈ [22] := by simpa using Array.mem_of_getElem? ht
        have hall : ([22].all fun u => !Tryd.prog.wantsStandIn u) = true := by kernel_rfl
        exact (show Tryd.prog.wantsStandIn t = false by simpa using List.all_eq_true.1 hall t hm)⟩)
    (by kernel_rfl)
#print axioms proved
end Go.Proofs.YtlkjikknofmcdaaDoor.fnInstances
namespace Go.Proofs.YtlkjikknofmcdaaDoor
theorem fnInstances_holds : Rows.FnInstancesCardSaid := fnInstances.proved
end Go.Proofs.YtlkjikknofmcdaaDoor
