/- Part 5 of 6 of the proof that the law FnCombsCardSaid holds: for every input that can be read the call returns true and leaves its arguments as they were; no condition but those each theorem names. -/
import Derived.Lib.ItoaNum
import Derived.Lib.AtoiAll
import Derived.Lib.IndexMore
import Derived.Lib.CutLaws
import Derived.Lib.Split
import Derived.Test.YthfkimbmepmelaaDoorQCombsW1
import Derived.Test.YthfkimbmepmelaaDoorQCombs1
import Derived.Test.YthfkimbmepmelaaDoorQCombs2
import Derived.Test.YthfkimbmepmelaaDoorQCombs3
import Derived.Test.YthfkimbmepmelaaDoorQCombs4
namespace Go.Proofs.YthfkimbmepmelaaDoor.G
open Go.RowKit Go.Proofs.YthfkimbmepmelaaDoorW.PrintWords Go.Proofs.YthfkimbmepmelaaDoorW.PrintLast Go.Proofs.YthfkimbmepmelaaDoorW.PrintMore
attribute [local go_sem] max2_int min2_int max_two min_two max_three min_three max_four min_four   -- for this text's walks alone
set_option linter.unusedVariables false
set_option linter.unusedSimpArgs false

theorem Kd.V_away {α : Type} {d : Kd α} {e : Nat} {W : World} {base : Nat} {ok : Nat → Prop} {v : Value} {xs : List α} {g : Nat} (h : Kd.V d e W base ok v xs) (hok : ∀ k, ok k → k ≠ g) (h0 : decide (0 < xs.length) = true := by assumption) (hs : 0 < d.sz := by decide) : some g ≠ v.ownBlock := by
 obtain ⟨A, c, rfl, hl, hf⟩ := h
 have hp : 0 < xs.length := of_decide_eq_true h0
 intro hg
 have hC := Kd.F_now hf
 obtain ⟨a, rfl, hcell⟩ := hC.2.2 hp
 have hga : g = a.block := by simpa [Value.ownBlock] using hg
 -- a world in which that block holds nothing
 have key : ∀ (W' : World), d.C W' (some a) xs.length xs → ∃ (n : Nat) (u : Value), W'.cell? (a.add n) = some u := by
  intro W' hC'
  obtain ⟨a', ha', hcell'⟩ := hC'.2.2 hp
  injection ha' with ha'
  subst ha'
  obtain ⟨c0, hc0, _, hcc⟩ := hcell' 0 (xs[0]) (by simp [hp])
  exact ⟨0 * d.sz + 0, c0[0]'(by omega), hcc 0 _ (by simp)⟩
 obtain ⟨n0, u0, hu0⟩ := key W hC
 have hlt : a.block < W.heap.size := by
  have := World.block_lt_of_cell? W _ hu0
  rwa [add_block] at this
 let W' : World := { W with heap := W.heap.setIfInBounds a.block (.pending #[] 0) }
 have hC' : d.C W' (some a) xs.length xs := hf W' (fun k hk _ => by
  have : k ≠ a.block := hga ▸ hok k hk
  show (W.heap.setIfInBounds a.block (.pending #[] 0))[k]? = _
  rw [Array.getElem?_setIfInBounds_ne (Ne.symm this)])
 obtain ⟨n1, u1, hu1⟩ := key W' hC'
 unfold World.cell? at hu1
 rw [add_block] at hu1
 have e : W'.heap[a.block]? = some (.pending #[] 0) := by
  show (W.heap.setIfInBounds a.block (.pending #[] 0))[a.block]? = _
  simp [hlt]
 rw [e] at hu1
 simp at hu1
def spec_ldHead.f (a0_0 : Int) (a0_1 : Int) (l0_2 : List (S53)) : Option (Int × Int × (List (S53)) × Bool) := if a0_0 = 2 then (if 0 < (l0_2.length : Int) then (if ((rd_T53 l0_2 0).f0) = 5 then (if 1 < (l0_2.length : Int) then (some ((rd_T53 l0_2 1).f0, (rd_T53 l0_2 1).f1, (rd_T53 l0_2 1).f2, true)) else (none)) else (if ((rd_T53 l0_2 0).f0) = 2 then (if 0 < (((rd_T53 l0_2 0).f2).length : Int) then (if ((rd_T53 ((rd_T53 l0_2 0).f2) 0).f0) = 4 then (if 1 < (((rd_T53 l0_2 0).f2).length : Int) then (some ((rd_T53 ((rd_T53 l0_2 0).f2) 1).f0, (rd_T53 ((rd_T53 l0_2 0).f2) 1).f1, (rd_T53 ((rd_T53 l0_2 0).f2) 1).f2, true)) else (none)) else (if ((rd_T53 ((rd_T53 l0_2 0).f2) 0).f0) = 2 then (if 0 < (((rd_T53 ((rd_T53 l0_2 0).f2) 0).f2).length : Int) then (if ((rd_T53 ((rd_T53 ((rd_T53 l0_2 0).f2) 0).f2) 0).f0) = 3 then (if 1 < (l0_2.length : Int) then (if 1 < (((rd_T53 ((rd_T53 l0_2 0).f2) 0).f2).length : Int) then ((spec_ldApp.f ((rd_T53 ((rd_T53 ((rd_T53 l0_2 0).f2) 0).f2) 1).f0) ((rd_T53 ((rd_T53 ((rd_T53 l0_2 0).f2) 0).f2) 1).f1) ((rd_T53 ((rd_T53 ((rd_T53 l0_2 0).f2) 0).f2) 1).f2) ((rd_T53 l0_2 1).f0) ((rd_T53 l0_2 1).f1) ((rd_T53 l0_2 1).f2)).bind fun bt113 => (if 1 < (((rd_T53 l0_2 0).f2).length : Int) then ((spec_ldApp.f ((rd_T53 ((rd_T53 l0_2 0).f2) 1).f0) ((rd_T53 ((rd_T53 l0_2 0).f2) 1).f1) ((rd_T53 ((rd_T53 l0_2 0).f2) 1).f2) ((rd_T53 l0_2 1).f0) ((rd_T53 l0_2 1).f1) ((rd_T53 l0_2 1).f2)).bind fun bt119 => ((spec_ldApp.f bt113.1 bt113.2.1 bt113.2.2 bt119.1 bt119.2.1 bt119.2.2).bind fun bt124 => (some (bt124.1, bt124.2.1, bt124.2.2, true)))) else (none))) else (none)) else (none)) else (some (a0_0, a0_1, l0_2, false))) else (none)) else (some (a0_0, a0_1, l0_2, false)))) else (none)) else (some (a0_0, a0_1, l0_2, false)))) else (none)) else (some (a0_0, a0_1, l0_2, false))
def spec_ldHead.T13 : Bool × List (List Nat × List Nat) := (true, [([], []), ([0], [0]), ([1], [1]), ([2], [2]), ([], []), ([3, 4], [3, 4]), ([], []), ([6], [6]), ([7], [7]), ([8], [8]), ([], []), ([9, 10, 5], [9, 10]), ([5, 11, 11], [5, 11]), ([12, 12, 0, 1, 2, 3, 4, 5, 6, 7, 8, 9, 10, 11, 12], [12]), ([13, 0, 1, 2, 3, 4, 5, 6, 7, 8, 9, 10, 11, 12, 13], [])])
def spec_ldHead.B13 : List Nat := [0, 1, 3, 7, 0, 31, 0, 64, 192, 448, 0, 2047, 4095, 8191, 16383]
theorem spec_ldHead.tab13 : rtab .any (opsOf Tryd.f44 13) = spec_ldHead.T13 := by kernel_rfl
theorem spec_ldHead.bits13 : waitsOk spec_ldHead.T13.2 spec_ldHead.B13 = true := by kernel_rfl
set_option maxHeartbeats 8000000 in
set_option maxRecDepth 100000 in
theorem spec_ldHead.calls (a0_0 : Int) (a0_1 : Int) (P0_2_ : Nat → Prop) (A0_2 : Option Addr) (c0_2 : Nat) (l0_2 : List (S53)) (r1 : Int) (r2 : Int) (r3 : List (S53)) (r4 : Bool) (w : World) (hs0_2 : Kd.V k53 53 w w.heap.size (fun k_ => P0_2_ k_) (.slice A0_2 l0_2.length c0_2) l0_2) (h : spec_ldHead.f a0_0 a0_1 l0_2 = some (r1, r2, r3, r4)) :
  Calls Tryd.prog 44 #[.agg #[.int .i64 a0_0, .int .i64 a0_1, .slice A0_2 l0_2.length c0_2]] w fun e w' => ∃ v2_ : Value, e = .returned (.tuple #[.agg #[.int .i64 r1, .int .i64 r2, v2_], .bool r4]) ∧ Kd.V k53 53 w' w.heap.size (fun k_ => (P0_2_ k_ ∨ w.heap.size ≤ k_)) v2_ r3 ∧ Below w.heap.size w w' := by
 have hu77 := Tryd.underlying53
 have HO0_2 := aK (show Kd.V k53 53 w w.heap.size (fun k_ => (P0_2_ k_ ∨ w.heap.size ≤ k_)) (.slice A0_2 l0_2.length c0_2) l0_2 from Kd.V_mono hs0_2 (fun k_ hk => .inl hk))
 have HB := aK (Below.refl w.heap.size w)
 have H : (if a0_0 = 2 then (if 0 < (l0_2.length : Int) then (if ((rd_T53 l0_2 0).f0) = 5 then (if 1 < (l0_2.length : Int) then (some ((rd_T53 l0_2 1).f0, (rd_T53 l0_2 1).f1, (rd_T53 l0_2 1).f2, true)) else (none)) else (if ((rd_T53 l0_2 0).f0) = 2 then (if 0 < (((rd_T53 l0_2 0).f2).length : Int) then (if ((rd_T53 ((rd_T53 l0_2 0).f2) 0).f0) = 4 then (if 1 < (((rd_T53 l0_2 0).f2).length : Int) then (some ((rd_T53 ((rd_T53 l0_2 0).f2) 1).f0, (rd_T53 ((rd_T53 l0_2 0).f2) 1).f1, (rd_T53 ((rd_T53 l0_2 0).f2) 1).f2, true)) else (none)) else (if ((rd_T53 ((rd_T53 l0_2 0).f2) 0).f0) = 2 then (if 0 < (((rd_T53 ((rd_T53 l0_2 0).f2) 0).f2).length : Int) then (if ((rd_T53 ((rd_T53 ((rd_T53 l0_2 0).f2) 0).f2) 0).f0) = 3 then (if 1 < (l0_2.length : Int) then (if 1 < (((rd_T53 ((rd_T53 l0_2 0).f2) 0).f2).length : Int) then ((spec_ldApp.f ((rd_T53 ((rd_T53 ((rd_T53 l0_2 0).f2) 0).f2) 1).f0) ((rd_T53 ((rd_T53 ((rd_T53 l0_2 0).f2) 0).f2) 1).f1) ((rd_T53 ((rd_T53 ((rd_T53 l0_2 0).f2) 0).f2) 1).f2) ((rd_T53 l0_2 1).f0) ((rd_T53 l0_2 1).f1) ((rd_T53 l0_2 1).f2)).bind fun bt113 => (if 1 < (((rd_T53 l0_2 0).f2).length : Int) then ((spec_ldApp.f ((rd_T53 ((rd_T53 l0_2 0).f2) 1).f0) ((rd_T53 ((rd_T53 l0_2 0).f2) 1).f1) ((rd_T53 ((rd_T53 l0_2 0).f2) 1).f2) ((rd_T53 l0_2 1).f0) ((rd_T53 l0_2 1).f1) ((rd_T53 l0_2 1).f2)).bind fun bt119 => ((spec_ldApp.f bt113.1 bt113.2.1 bt113.2.2 bt119.1 bt119.2.1 bt119.2.2).bind fun bt124 => (some (bt124.1, bt124.2.1, bt124.2.2, true)))) else (none))) else (none)) else (none)) else (some (a0_0, a0_1, l0_2, false))) else (none)) else (some (a0_0, a0_1, l0_2, false)))) else (none)) else (some (a0_0, a0_1, l0_2, false)))) else (none)) else (some (a0_0, a0_1, l0_2, false))) = some (r1, r2, r3, r4) := h
 clear h
 by_cases c2 : a0_0 = 2
 ·rw [if_pos c2] at H
  have c2b0 : (a0_0 == 2) = true := beq_iff_eq.mpr c2
  have c2b1 : (a0_0 != 2) = false := bne_eq_false_iff_eq.mpr c2
  clear c2
  by_cases c3 : 0 < (l0_2.length : Int)
  ·rw [if_pos c3] at H
   have c3b0 : decide (0 < (l0_2.length : Int)) = true := decide_eq_true c3
   have c3b1 : decide (0 < l0_2.length) = true := decide_eq_true (by omega)
   clear c3
   by_cases c4 : ((rd_T53 l0_2 0).f0) = 5
   ·rw [if_pos c4] at H
    have c4b0 : (((rd_T53 l0_2 0).f0) == 5) = true := beq_iff_eq.mpr c4
    have c4b1 : (((rd_T53 l0_2 0).f0) != 5) = false := bne_eq_false_iff_eq.mpr c4
    clear c4
    by_cases c5 : 1 < (l0_2.length : Int)
    ·rw [if_pos c5] at H
     have c5b0 : decide (1 < (l0_2.length : Int)) = true := decide_eq_true c5
     have c5b1 : decide (1 < l0_2.length) = true := decide_eq_true (by omega)
     clear c5
     simp only [Option.some.injEq, Prod.mk.injEq] at H
     obtain ⟨rfl, rfl, rfl, rfl⟩ := H
     go_enter Tryd.func44, Tryd.ntmps44
     go_wp2_with (first | ((with_reducible refine gate_dst (N := 1) rfl ?_); refine bE (N := 1) (cs := #[.int .i64 a0_0, .int .i64 a0_1, .slice A0_2 l0_2.length c0_2]) (t := 53) ?_; intro gb101 hg w6 hbox hb; have GW101 := qw HB hg; have GE101 := qw HB hg; replace HO0_2 := qv HO0_2 hg hb; have BK101 := aK hbox; replace HB := qs HB hb; clear hb hbox hg) | ((with_reducible refine gate_dst (N := 2) rfl ?_); refine bE (N := 2) (cs := #[.int .i64 0, .int .i64 0, .slice none 0 0]) (t := 53) ?_; intro gb102 hg w7 hbox hb; have GW102 := qw HB hg; have GE102 := qw HB hg; have NB101_102 := ql BK101 hg; have NB102_101 := qg BK101 hg; replace HO0_2 := qv HO0_2 hg hb; replace BK101 := qb BK101 hb; have BK102 := aK hbox; replace HB := qs HB hb; clear hb hbox hg; have hnb8 := NB101_102.out; have hnc8 := NB102_101.out; obtain ⟨hcz9_0, hcz9_1, hcz9_2, hfz9_0, hfz9_1, hfz9_2⟩ := cA3 BK101; have p103 : 0 ≤ (0 : Int) := (by omega); have q103 : 0 < (l0_2.length : Int) := dA; obtain ⟨ad103, A103_2, c103_2, e103, hx103_0, hx103_1, hx103_2, hl103_2, hi103_2⟩ := at_T53 (Kd.V_reads' HO0_2.out).2.2 0 p103 q103; cases e103; obtain ⟨ce103, hce103, hMe103, hcc103⟩ := Kd.V_get HO0_2.out z53 0 p103 (by first | exact q103 | exact dA | (have e_ := (Kd.V_reads' HO0_2.out).1; omega)); obtain ⟨ua103_2, uc103_2, rfl, ul103_2, ge103_2⟩ := k53_openF hMe103; have hv103_2 := hcc103 2 _ rfl; rw [add_field _ _ 2 (by omega)] at hv103_2; replace hv103_2 := Option.some.inj (hv103_2.symm.trans hx103_2); injection hv103_2 with hva_ hvn_ hvc_; rw [hva_] at ge103_2; rw [hvc_] at ul103_2; have HL103_2 := aK (show Kd.V k53 53 _ w.heap.size _ _ ((rd_T53 l0_2 0).f2) from Kd.V_mk ul103_2 ge103_2); clear hva_ hvn_ hvc_ ge103_2 ul103_2; clear hcc103 hce103; have qi103 : (0 < l0_2.length) = True := eq_true (by omega); (try rw [show ((0 : Int)).toNat = 0 from rfl] at hx103_0); (try rw [show 0 * 3 = 0 from rfl] at hx103_0); (try rw [Addr.add_zero'] at hx103_0); (try rw [show ((0 : Int)).toNat = 0 from rfl] at hx103_1); (try rw [show 0 * 3 = 0 from rfl] at hx103_1); (try rw [Addr.add_zero'] at hx103_1); (try rw [show ((0 : Int)).toNat = 0 from rfl] at hx103_2); (try rw [show 0 * 3 = 0 from rfl] at hx103_2); (try rw [Addr.add_zero'] at hx103_2); have HR103_2 := aK hi103_2; have HC103_2 := aK hl103_2; clear hi103_2 hl103_2; replace p103 := eq_true p103; replace q103 := eq_true q103) | ((with_reducible refine gate_dst (N := 4) rfl ?_); refine bE (N := 4) (cs := #[.int .i64 0, .int .i64 0, .slice none 0 0]) (t := 53) ?_; intro gb104 hg w10 hbox hb; have GW104 := qw HB hg; have GE104 := qw HB hg; have NB101_104 := ql BK101 hg; have NB104_101 := qg BK101 hg; have NB102_104 := ql BK102 hg; have NB104_102 := qg BK102 hg; replace HR103_2 := qr HL103_2 hb; replace HO0_2 := qv HO0_2 hg hb; replace HL103_2 := qv HL103_2 hg hb; replace BK101 := qb BK101 hb; replace BK102 := qb BK102 hb; have BK104 := aK hbox; replace HB := qs HB hb; clear hb hbox hg; have hnb11 := NB104_101.out; have hnc11 := NB101_104.out; have hnb12 := NB104_102.out; have hnc12 := NB102_104.out; obtain ⟨hcz13_0, hcz13_1, hcz13_2, hfz13_0, hfz13_1, hfz13_2⟩ := cA3 BK104) | ((with_reducible refine gate_store (t := 53) (p := 4) rfl ?_); refine store_event (t := 53) (p := 4) (v := ?vo_w14) (w1 := (((w10.setCell ⟨gb104, 0, none⟩ (.int .i64 ((rd_T53 l0_2 0).f0))).setCell ⟨gb104, 1, none⟩ (.int .i64 ((rd_T53 l0_2 0).f1))).setCell ⟨gb104, 2, none⟩ (.slice A103_2 ((rd_T53 l0_2 0).f2).length c103_2))) ?hg ?ho ?hn ?hr ?_; (case ho => rfl); (case hg => rfl); (case hn => rfl); (case hr => first | (go_simp; done) | (go_simp; rfl)); intro w14 hw; have n_ := aJ (show Aside0 (Kd.V k53 53 w14 w.heap.size (fun k_ => (P0_2_ k_ ∨ w.heap.size ≤ k_) ∧ k_ ≠ gb101 ∧ k_ ≠ gb102 ∧ k_ ≠ gb104) (.slice (some ad103) l0_2.length c0_2) l0_2) from ⟨(by rw [hw]; exact (by (with_reducible repeat (first | apply Kd.V_alloc | apply Kd.V_drewN | apply Kd.V_drew)); exact Kd.V_mono (vF3 gb104 (Kd.V_mono HO0_2.out (fun k_ hk => (⟨hk, hk.2⟩ : _ ∧ k_ ≠ gb104))) (fun _ hk => hk.2)) (fun _ hk => ⟨hk.1.1.1.1, ⟨hk.1.1.1.2, ⟨hk.1.1.2, hk.1.2⟩⟩⟩)))⟩) (aJ (show Aside0 (Kd.V k53 53 w14 w.heap.size (fun k_ => (P0_2_ k_ ∨ w.heap.size ≤ k_) ∧ k_ ≠ gb101 ∧ k_ ≠ gb102 ∧ k_ ≠ gb104) (.slice A103_2 ((rd_T53 l0_2 0).f2).length c103_2) ((rd_T53 l0_2 0).f2)) from ⟨(by rw [hw]; exact (by (with_reducible repeat (first | apply Kd.V_alloc | apply Kd.V_drewN | apply Kd.V_drew)); exact Kd.V_mono (vF3 gb104 (Kd.V_mono HL103_2.out (fun k_ hk => (⟨hk, hk.2⟩ : _ ∧ k_ ≠ gb104))) (fun _ hk => hk.2)) (fun _ hk => ⟨hk.1.1.1.1, ⟨hk.1.1.1.2, ⟨hk.1.1.2, hk.1.2⟩⟩⟩)))⟩) (aJ (show Aside0 (w14.heap[gb101]? = some (.cells #[.int .i64 a0_0, .int .i64 a0_1, .slice (some ad103) l0_2.length c0_2] 53 (0, 0))) from ⟨(by rw [hw]; exact (by (repeat first | with_reducible apply zN | with_reducible apply zD | with_reducible apply zA | refine blk_far ?_ NB101_104.out _); exact BK101.out))⟩) (aJ (show Aside0 (w14.heap[gb102]? = some (.cells #[.int .i64 0, .int .i64 0, .slice none 0 0] 53 (0, 0))) from ⟨(by rw [hw]; exact (by (repeat first | with_reducible apply zN | with_reducible apply zD | with_reducible apply zA | refine blk_far ?_ NB102_104.out _); exact BK102.out))⟩) (aJ (show Aside0 (w14.heap[gb104]? = some (.cells #[.int .i64 ((rd_T53 l0_2 0).f0), .int .i64 ((rd_T53 l0_2 0).f1), .slice A103_2 ((rd_T53 l0_2 0).f2).length c103_2] 53 (0, 0))) from ⟨(by rw [hw]; exact (p3 BK104))⟩) (show Aside0 (Below w.heap.size w w14) from ⟨(by rw [hw]; exact (pH HB))⟩))))); clear hw HO0_2 HL103_2 BK101 BK102 BK104 HB; obtain ⟨HO0_2, HL103_2, BK101, BK102, BK104, HB⟩ := n_; obtain ⟨hcz15_0, hcz15_1, hcz15_2, hfz15_0, hfz15_1, hfz15_2⟩ := cA3 BK104; obtain ⟨hcz16_0, hcz16_1, hcz16_2, hfz16_0, hfz16_1, hfz16_2⟩ := cA3 BK101; have p105 : 0 ≤ (1 : Int) := (by omega); have q105 : 1 < (l0_2.length : Int) := dA; obtain ⟨ad105, A105_2, c105_2, e105, hx105_0, hx105_1, hx105_2, hl105_2, hi105_2⟩ := at_T53 (Kd.V_reads' HO0_2.out).2.2 1 p105 q105; obtain rfl : ad103 = ad105 := (by injection e105); obtain ⟨ce105, hce105, hMe105, hcc105⟩ := Kd.V_get HO0_2.out z53 1 p105 (by first | exact q105 | exact dA | (have e_ := (Kd.V_reads' HO0_2.out).1; omega)); obtain ⟨ua105_2, uc105_2, rfl, ul105_2, ge105_2⟩ := k53_openF hMe105; have hv105_2 := hcc105 2 _ rfl; rw [add_field _ _ 2 (by omega)] at hv105_2; replace hv105_2 := Option.some.inj (hv105_2.symm.trans hx105_2); injection hv105_2 with hva_ hvn_ hvc_; rw [hva_] at ge105_2; rw [hvc_] at ul105_2; have HL105_2 := aK (show Kd.V k53 53 _ w.heap.size _ _ ((rd_T53 l0_2 1).f2) from Kd.V_mk ul105_2 ge105_2); clear hva_ hvn_ hvc_ ge105_2 ul105_2; clear hcc105 hce105; (try simp only [show (1 : Int).toNat = 1 from rfl, Nat.reduceMul, Nat.reduceEqDiff, Go.Addr.add, ↓reduceIte] at hx105_0); (try simp only [show (1 : Int).toNat = 1 from rfl, Nat.reduceMul, Nat.reduceEqDiff, Go.Addr.add, ↓reduceIte] at hx105_1); (try simp only [show (1 : Int).toNat = 1 from rfl, Nat.reduceMul, Nat.reduceEqDiff, Go.Addr.add, ↓reduceIte] at hx105_2); have qi105 : (1 < l0_2.length) = True := eq_true (by omega); (try rw [show ((1 : Int)).toNat = 1 from rfl] at hx105_0); (try rw [show 1 * 3 = 3 from rfl] at hx105_0); (try rw [show ((1 : Int)).toNat = 1 from rfl] at hx105_1); (try rw [show 1 * 3 = 3 from rfl] at hx105_1); (try rw [show ((1 : Int)).toNat = 1 from rfl] at hx105_2); (try rw [show 1 * 3 = 3 from rfl] at hx105_2); have HR105_2 := aK hi105_2; have HC105_2 := aK hl105_2; clear hi105_2 hl105_2; replace p105 := eq_true p105; replace q105 := eq_true q105; obtain ⟨hcz17_0, hcz17_1, hcz17_2, hfz17_0, hfz17_1, hfz17_2⟩ := cA3 BK102))
     refine bodyPost_ret (results_ct rfl _ _ gb102 53 #[.int .i64 ((rd_T53 l0_2 1).f0), .int .i64 ((rd_T53 l0_2 1).f1), .slice A105_2 ((rd_T53 l0_2 1).f2).length c105_2] (0, 0) _ rfl (p3 BK102) Tryd.underlying53 rfl (by kernel_rfl)) rfl ?_
     exact ⟨_, eW, by (with_reducible repeat (first | apply Kd.V_alloc | apply Kd.V_drewN | apply Kd.V_drew)); exact Kd.V_mono (vF3 gb102 (Kd.V_mono HL105_2.out (fun k_ hk => (⟨hk, hk.2.2.1⟩ : _ ∧ k_ ≠ gb102))) (fun _ hk => hk.2)) (fun _ hk => hk.1.1), pH HB⟩
    ·rw [if_neg c5] at H
     exact absurd H (by simp)
   ·rw [if_neg c4] at H
    have c4b0 : (((rd_T53 l0_2 0).f0) == 5) = false := beq_eq_false_iff_ne.mpr c4
    have c4b1 : (((rd_T53 l0_2 0).f0) != 5) = true := bne_iff_ne.mpr c4
    by_cases c18 : ((rd_T53 l0_2 0).f0) = 2
    ·rw [if_pos c18] at H
     have c18b0 : (((rd_T53 l0_2 0).f0) == 2) = true := beq_iff_eq.mpr c18
     have c18b1 : (((rd_T53 l0_2 0).f0) != 2) = false := bne_eq_false_iff_eq.mpr c18
     clear c18
     by_cases c19 : 0 < (((rd_T53 l0_2 0).f2).length : Int)
     ·rw [if_pos c19] at H
      have c19b0 : decide (0 < (((rd_T53 l0_2 0).f2).length : Int)) = true := decide_eq_true c19
      have c19b1 : decide (0 < ((rd_T53 l0_2 0).f2).length) = true := decide_eq_true (by omega)
      clear c19
      by_cases c20 : ((rd_T53 ((rd_T53 l0_2 0).f2) 0).f0) = 4
      ·rw [if_pos c20] at H
       have c20b0 : (((rd_T53 ((rd_T53 l0_2 0).f2) 0).f0) == 4) = true := beq_iff_eq.mpr c20
       have c20b1 : (((rd_T53 ((rd_T53 l0_2 0).f2) 0).f0) != 4) = false := bne_eq_false_iff_eq.mpr c20
       clear c20
       by_cases c21 : 1 < (((rd_T53 l0_2 0).f2).length : Int)
       ·rw [if_pos c21] at H
        have c21b0 : decide (1 < (((rd_T53 l0_2 0).f2).length : Int)) = true := decide_eq_true c21
        have c21b1 : decide (1 < ((rd_T53 l0_2 0).f2).length) = true := decide_eq_true (by omega)
        clear c21
        simp only [Option.some.injEq, Prod.mk.injEq] at H
        obtain ⟨rfl, rfl, rfl, rfl⟩ := H
        go_enter Tryd.func44, Tryd.ntmps44
        go_wp2_with (first | ((with_reducible refine gate_dst (N := 1) rfl ?_); refine bE (N := 1) (cs := #[.int .i64 a0_0, .int .i64 a0_1, .slice A0_2 l0_2.length c0_2]) (t := 53) ?_; intro gb101 hg w22 hbox hb; have GW101 := qw HB hg; have GE101 := qw HB hg; replace HO0_2 := qv HO0_2 hg hb; have BK101 := aK hbox; replace HB := qs HB hb; clear hb hbox hg) | ((with_reducible refine gate_dst (N := 2) rfl ?_); refine bE (N := 2) (cs := #[.int .i64 0, .int .i64 0, .slice none 0 0]) (t := 53) ?_; intro gb102 hg w23 hbox hb; have GW102 := qw HB hg; have GE102 := qw HB hg; have NB101_102 := ql BK101 hg; have NB102_101 := qg BK101 hg; replace HO0_2 := qv HO0_2 hg hb; replace BK101 := qb BK101 hb; have BK102 := aK hbox; replace HB := qs HB hb; clear hb hbox hg; have hnb24 := NB101_102.out; have hnc24 := NB102_101.out; obtain ⟨hcz25_0, hcz25_1, hcz25_2, hfz25_0, hfz25_1, hfz25_2⟩ := cA3 BK101; have p103 : 0 ≤ (0 : Int) := (by omega); have q103 : 0 < (l0_2.length : Int) := dA; obtain ⟨ad103, A103_2, c103_2, e103, hx103_0, hx103_1, hx103_2, hl103_2, hi103_2⟩ := at_T53 (Kd.V_reads' HO0_2.out).2.2 0 p103 q103; cases e103; obtain ⟨ce103, hce103, hMe103, hcc103⟩ := Kd.V_get HO0_2.out z53 0 p103 (by first | exact q103 | exact dA | (have e_ := (Kd.V_reads' HO0_2.out).1; omega)); obtain ⟨ua103_2, uc103_2, rfl, ul103_2, ge103_2⟩ := k53_openF hMe103; have hv103_2 := hcc103 2 _ rfl; rw [add_field _ _ 2 (by omega)] at hv103_2; replace hv103_2 := Option.some.inj (hv103_2.symm.trans hx103_2); injection hv103_2 with hva_ hvn_ hvc_; rw [hva_] at ge103_2; rw [hvc_] at ul103_2; have HL103_2 := aK (show Kd.V k53 53 _ w.heap.size _ _ ((rd_T53 l0_2 0).f2) from Kd.V_mk ul103_2 ge103_2); clear hva_ hvn_ hvc_ ge103_2 ul103_2; clear hcc103 hce103; have qi103 : (0 < l0_2.length) = True := eq_true (by omega); (try rw [show ((0 : Int)).toNat = 0 from rfl] at hx103_0); (try rw [show 0 * 3 = 0 from rfl] at hx103_0); (try rw [Addr.add_zero'] at hx103_0); (try rw [show ((0 : Int)).toNat = 0 from rfl] at hx103_1); (try rw [show 0 * 3 = 0 from rfl] at hx103_1); (try rw [Addr.add_zero'] at hx103_1); (try rw [show ((0 : Int)).toNat = 0 from rfl] at hx103_2); (try rw [show 0 * 3 = 0 from rfl] at hx103_2); (try rw [Addr.add_zero'] at hx103_2); have HR103_2 := aK hi103_2; have HC103_2 := aK hl103_2; clear hi103_2 hl103_2; replace p103 := eq_true p103; replace q103 := eq_true q103) | ((with_reducible refine gate_dst (N := 4) rfl ?_); refine bE (N := 4) (cs := #[.int .i64 0, .int .i64 0, .slice none 0 0]) (t := 53) ?_; intro gb104 hg w26 hbox hb; have GW104 := qw HB hg; have GE104 := qw HB hg; have NB101_104 := ql BK101 hg; have NB104_101 := qg BK101 hg; have NB102_104 := ql BK102 hg; have NB104_102 := qg BK102 hg; replace HR103_2 := qr HL103_2 hb; replace HO0_2 := qv HO0_2 hg hb; replace HL103_2 := qv HL103_2 hg hb; replace BK101 := qb BK101 hb; replace BK102 := qb BK102 hb; have BK104 := aK hbox; replace HB := qs HB hb; clear hb hbox hg; have hnb27 := NB104_101.out; have hnc27 := NB101_104.out; have hnb28 := NB104_102.out; have hnc28 := NB102_104.out; obtain ⟨hcz29_0, hcz29_1, hcz29_2, hfz29_0, hfz29_1, hfz29_2⟩ := cA3 BK104) | ((with_reducible refine gate_store (t := 53) (p := 4) rfl ?_); refine store_event (t := 53) (p := 4) (v := ?vo_w30) (w1 := (((w26.setCell ⟨gb104, 0, none⟩ (.int .i64 ((rd_T53 l0_2 0).f0))).setCell ⟨gb104, 1, none⟩ (.int .i64 ((rd_T53 l0_2 0).f1))).setCell ⟨gb104, 2, none⟩ (.slice A103_2 ((rd_T53 l0_2 0).f2).length c103_2))) ?hg ?ho ?hn ?hr ?_; (case ho => rfl); (case hg => rfl); (case hn => rfl); (case hr => first | (go_simp; done) | (go_simp; rfl)); intro w30 hw; have n_ := aJ (show Aside0 (Kd.V k53 53 w30 w.heap.size (fun k_ => (P0_2_ k_ ∨ w.heap.size ≤ k_) ∧ k_ ≠ gb101 ∧ k_ ≠ gb102 ∧ k_ ≠ gb104) (.slice (some ad103) l0_2.length c0_2) l0_2) from ⟨(by rw [hw]; exact (by (with_reducible repeat (first | apply Kd.V_alloc | apply Kd.V_drewN | apply Kd.V_drew)); exact Kd.V_mono (vF3 gb104 (Kd.V_mono HO0_2.out (fun k_ hk => (⟨hk, hk.2⟩ : _ ∧ k_ ≠ gb104))) (fun _ hk => hk.2)) (fun _ hk => ⟨hk.1.1.1.1, ⟨hk.1.1.1.2, ⟨hk.1.1.2, hk.1.2⟩⟩⟩)))⟩) (aJ (show Aside0 (Kd.V k53 53 w30 w.heap.size (fun k_ => (P0_2_ k_ ∨ w.heap.size ≤ k_) ∧ k_ ≠ gb101 ∧ k_ ≠ gb102 ∧ k_ ≠ gb104) (.slice A103_2 ((rd_T53 l0_2 0).f2).length c103_2) ((rd_T53 l0_2 0).f2)) from ⟨(by rw [hw]; exact (by (with_reducible repeat (first | apply Kd.V_alloc | apply Kd.V_drewN | apply Kd.V_drew)); exact Kd.V_mono (vF3 gb104 (Kd.V_mono HL103_2.out (fun k_ hk => (⟨hk, hk.2⟩ : _ ∧ k_ ≠ gb104))) (fun _ hk => hk.2)) (fun _ hk => ⟨hk.1.1.1.1, ⟨hk.1.1.1.2, ⟨hk.1.1.2, hk.1.2⟩⟩⟩)))⟩) (aJ (show Aside0 (w30.heap[gb101]? = some (.cells #[.int .i64 a0_0, .int .i64 a0_1, .slice (some ad103) l0_2.length c0_2] 53 (0, 0))) from ⟨(by rw [hw]; exact (by (repeat first | with_reducible apply zN | with_reducible apply zD | with_reducible apply zA | refine blk_far ?_ NB101_104.out _); exact BK101.out))⟩) (aJ (show Aside0 (w30.heap[gb102]? = some (.cells #[.int .i64 0, .int .i64 0, .slice none 0 0] 53 (0, 0))) from ⟨(by rw [hw]; exact (by (repeat first | with_reducible apply zN | with_reducible apply zD | with_reducible apply zA | refine blk_far ?_ NB102_104.out _); exact BK102.out))⟩) (aJ (show Aside0 (w30.heap[gb104]? = some (.cells #[.int .i64 ((rd_T53 l0_2 0).f0), .int .i64 ((rd_T53 l0_2 0).f1), .slice A103_2 ((rd_T53 l0_2 0).f2).length c103_2] 53 (0, 0))) from ⟨(by rw [hw]; exact (p3 BK104))⟩) (show Aside0 (Below w.heap.size w w30) from ⟨(by rw [hw]; exact (pH HB))⟩))))); clear hw HO0_2 HL103_2 BK101 BK102 BK104 HB; obtain ⟨HO0_2, HL103_2, BK101, BK102, BK104, HB⟩ := n_; obtain ⟨hcz31_0, hcz31_1, hcz31_2, hfz31_0, hfz31_1, hfz31_2⟩ := cA3 BK104; have p106 : 0 ≤ (0 : Int) := (by omega); have q106 : 0 < (((rd_T53 l0_2 0).f2).length : Int) := dA; obtain ⟨ad106, A106_2, c106_2, e106, hx106_0, hx106_1, hx106_2, hl106_2, hi106_2⟩ := at_T53 (Kd.V_reads' HL103_2.out).2.2 0 p106 q106; cases e106; obtain ⟨ce106, hce106, hMe106, hcc106⟩ := Kd.V_get HL103_2.out z53 0 p106 (by first | exact q106 | exact dA | (have e_ := (Kd.V_reads' HL103_2.out).1; omega)); obtain ⟨ua106_2, uc106_2, rfl, ul106_2, ge106_2⟩ := k53_openF hMe106; have hv106_2 := hcc106 2 _ rfl; rw [add_field _ _ 2 (by omega)] at hv106_2; replace hv106_2 := Option.some.inj (hv106_2.symm.trans hx106_2); injection hv106_2 with hva_ hvn_ hvc_; rw [hva_] at ge106_2; rw [hvc_] at ul106_2; have HL106_2 := aK (show Kd.V k53 53 _ w.heap.size _ _ ((rd_T53 ((rd_T53 l0_2 0).f2) 0).f2) from Kd.V_mk ul106_2 ge106_2); clear hva_ hvn_ hvc_ ge106_2 ul106_2; clear hcc106 hce106; have qi106 : (0 < ((rd_T53 l0_2 0).f2).length) = True := eq_true (by omega); (try rw [show ((0 : Int)).toNat = 0 from rfl] at hx106_0); (try rw [show 0 * 3 = 0 from rfl] at hx106_0); (try rw [Addr.add_zero'] at hx106_0); (try rw [show ((0 : Int)).toNat = 0 from rfl] at hx106_1); (try rw [show 0 * 3 = 0 from rfl] at hx106_1); (try rw [Addr.add_zero'] at hx106_1); (try rw [show ((0 : Int)).toNat = 0 from rfl] at hx106_2); (try rw [show 0 * 3 = 0 from rfl] at hx106_2); (try rw [Addr.add_zero'] at hx106_2); have HR106_2 := aK hi106_2; have HC106_2 := aK hl106_2; clear hi106_2 hl106_2; replace p106 := eq_true p106; replace q106 := eq_true q106) | ((with_reducible refine gate_dst (N := 5) rfl ?_); refine bE (N := 5) (cs := #[.int .i64 0, .int .i64 0, .slice none 0 0]) (t := 53) ?_; intro gb107 hg w32 hbox hb; have GW107 := qw HB hg; have GE107 := qw HB hg; have NB101_107 := ql BK101 hg; have NB107_101 := qg BK101 hg; have NB102_107 := ql BK102 hg; have NB107_102 := qg BK102 hg; have NB104_107 := ql BK104 hg; have NB107_104 := qg BK104 hg; replace HR103_2 := qr HL103_2 hb; replace HR106_2 := qr HL106_2 hb; replace HO0_2 := qv HO0_2 hg hb; replace HL103_2 := qv HL103_2 hg hb; replace HL106_2 := qv HL106_2 hg hb; replace BK101 := qb BK101 hb; replace BK102 := qb BK102 hb; replace BK104 := qb BK104 hb; have BK107 := aK hbox; replace HB := qs HB hb; clear hb hbox hg; have hnb33 := NB107_101.out; have hnc33 := NB101_107.out; have hnb34 := NB107_102.out; have hnc34 := NB102_107.out; have hnb35 := NB107_104.out; have hnc35 := NB104_107.out; obtain ⟨hcz36_0, hcz36_1, hcz36_2, hfz36_0, hfz36_1, hfz36_2⟩ := cA3 BK107) | ((with_reducible refine gate_store (t := 53) (p := 5) rfl ?_); refine store_event (t := 53) (p := 5) (v := ?vo_w37) (w1 := (((w32.setCell ⟨gb107, 0, none⟩ (.int .i64 ((rd_T53 ((rd_T53 l0_2 0).f2) 0).f0))).setCell ⟨gb107, 1, none⟩ (.int .i64 ((rd_T53 ((rd_T53 l0_2 0).f2) 0).f1))).setCell ⟨gb107, 2, none⟩ (.slice A106_2 ((rd_T53 ((rd_T53 l0_2 0).f2) 0).f2).length c106_2))) ?hg ?ho ?hn ?hr ?_; (case ho => rfl); (case hg => rfl); (case hn => rfl); (case hr => first | (go_simp; done) | (go_simp; rfl)); intro w37 hw; have n_ := aJ (show Aside0 (Kd.V k53 53 w37 w.heap.size (fun k_ => (P0_2_ k_ ∨ w.heap.size ≤ k_) ∧ k_ ≠ gb101 ∧ k_ ≠ gb102 ∧ k_ ≠ gb104 ∧ k_ ≠ gb107) (.slice (some ad103) l0_2.length c0_2) l0_2) from ⟨(by rw [hw]; exact (by (with_reducible repeat (first | apply Kd.V_alloc | apply Kd.V_drewN | apply Kd.V_drew)); exact Kd.V_mono (vF3 gb107 (Kd.V_mono HO0_2.out (fun k_ hk => (⟨hk, hk.2⟩ : _ ∧ k_ ≠ gb107))) (fun _ hk => hk.2)) (fun _ hk => ⟨hk.1.1.1, ⟨hk.1.1.2.1, ⟨hk.1.1.2.2.1, ⟨hk.1.1.2.2.2, hk.1.2⟩⟩⟩⟩)))⟩) (aJ (show Aside0 (Kd.V k53 53 w37 w.heap.size (fun k_ => (P0_2_ k_ ∨ w.heap.size ≤ k_) ∧ k_ ≠ gb101 ∧ k_ ≠ gb102 ∧ k_ ≠ gb104 ∧ k_ ≠ gb107) (.slice (some ad106) ((rd_T53 l0_2 0).f2).length c103_2) ((rd_T53 l0_2 0).f2)) from ⟨(by rw [hw]; exact (by (with_reducible repeat (first | apply Kd.V_alloc | apply Kd.V_drewN | apply Kd.V_drew)); exact Kd.V_mono (vF3 gb107 (Kd.V_mono HL103_2.out (fun k_ hk => (⟨hk, hk.2⟩ : _ ∧ k_ ≠ gb107))) (fun _ hk => hk.2)) (fun _ hk => ⟨hk.1.1.1, ⟨hk.1.1.2.1, ⟨hk.1.1.2.2.1, ⟨hk.1.1.2.2.2, hk.1.2⟩⟩⟩⟩)))⟩) (aJ (show Aside0 (Kd.V k53 53 w37 w.heap.size (fun k_ => (P0_2_ k_ ∨ w.heap.size ≤ k_) ∧ k_ ≠ gb101 ∧ k_ ≠ gb102 ∧ k_ ≠ gb104 ∧ k_ ≠ gb107) (.slice A106_2 ((rd_T53 ((rd_T53 l0_2 0).f2) 0).f2).length c106_2) ((rd_T53 ((rd_T53 l0_2 0).f2) 0).f2)) from ⟨(by rw [hw]; exact (by (with_reducible repeat (first | apply Kd.V_alloc | apply Kd.V_drewN | apply Kd.V_drew)); exact Kd.V_mono (vF3 gb107 (Kd.V_mono HL106_2.out (fun k_ hk => (⟨hk, hk.2⟩ : _ ∧ k_ ≠ gb107))) (fun _ hk => hk.2)) (fun _ hk => ⟨hk.1.1.1, ⟨hk.1.1.2.1, ⟨hk.1.1.2.2.1, ⟨hk.1.1.2.2.2, hk.1.2⟩⟩⟩⟩)))⟩) (aJ (show Aside0 (w37.heap[gb101]? = some (.cells #[.int .i64 a0_0, .int .i64 a0_1, .slice (some ad103) l0_2.length c0_2] 53 (0, 0))) from ⟨(by rw [hw]; exact (by (repeat first | with_reducible apply zN | with_reducible apply zD | with_reducible apply zA | refine blk_far ?_ NB101_107.out _); exact BK101.out))⟩) (aJ (show Aside0 (w37.heap[gb102]? = some (.cells #[.int .i64 0, .int .i64 0, .slice none 0 0] 53 (0, 0))) from ⟨(by rw [hw]; exact (by (repeat first | with_reducible apply zN | with_reducible apply zD | with_reducible apply zA | refine blk_far ?_ NB102_107.out _); exact BK102.out))⟩) (aJ (show Aside0 (w37.heap[gb104]? = some (.cells #[.int .i64 ((rd_T53 l0_2 0).f0), .int .i64 ((rd_T53 l0_2 0).f1), .slice (some ad106) ((rd_T53 l0_2 0).f2).length c103_2] 53 (0, 0))) from ⟨(by rw [hw]; exact (by (repeat first | with_reducible apply zN | with_reducible apply zD | with_reducible apply zA | refine blk_far ?_ NB104_107.out _); exact BK104.out))⟩) (aJ (show Aside0 (w37.heap[gb107]? = some (.cells #[.int .i64 ((rd_T53 ((rd_T53 l0_2 0).f2) 0).f0), .int .i64 ((rd_T53 ((rd_T53 l0_2 0).f2) 0).f1), .slice A106_2 ((rd_T53 ((rd_T53 l0_2 0).f2) 0).f2).length c106_2] 53 (0, 0))) from ⟨(by rw [hw]; exact (p3 BK107))⟩) (show Aside0 (Below w.heap.size w w37) from ⟨(by rw [hw]; exact (pH HB))⟩))))))); clear hw HO0_2 HL103_2 HL106_2 BK101 BK102 BK104 BK107 HB; obtain ⟨HO0_2, HL103_2, HL106_2, BK101, BK102, BK104, BK107, HB⟩ := n_; obtain ⟨hcz38_0, hcz38_1, hcz38_2, hfz38_0, hfz38_1, hfz38_2⟩ := cA3 BK107; obtain ⟨hcz39_0, hcz39_1, hcz39_2, hfz39_0, hfz39_1, hfz39_2⟩ := cA3 BK104; have p108 : 0 ≤ (1 : Int) := (by omega); have q108 : 1 < (((rd_T53 l0_2 0).f2).length : Int) := dA; obtain ⟨ad108, A108_2, c108_2, e108, hx108_0, hx108_1, hx108_2, hl108_2, hi108_2⟩ := at_T53 (Kd.V_reads' HL103_2.out).2.2 1 p108 q108; obtain rfl : ad106 = ad108 := (by injection e108); obtain ⟨ce108, hce108, hMe108, hcc108⟩ := Kd.V_get HL103_2.out z53 1 p108 (by first | exact q108 | exact dA | (have e_ := (Kd.V_reads' HL103_2.out).1; omega)); obtain ⟨ua108_2, uc108_2, rfl, ul108_2, ge108_2⟩ := k53_openF hMe108; have hv108_2 := hcc108 2 _ rfl; rw [add_field _ _ 2 (by omega)] at hv108_2; replace hv108_2 := Option.some.inj (hv108_2.symm.trans hx108_2); injection hv108_2 with hva_ hvn_ hvc_; rw [hva_] at ge108_2; rw [hvc_] at ul108_2; have HL108_2 := aK (show Kd.V k53 53 _ w.heap.size _ _ ((rd_T53 ((rd_T53 l0_2 0).f2) 1).f2) from Kd.V_mk ul108_2 ge108_2); clear hva_ hvn_ hvc_ ge108_2 ul108_2; clear hcc108 hce108; (try simp only [show (1 : Int).toNat = 1 from rfl, Nat.reduceMul, Nat.reduceEqDiff, Go.Addr.add, ↓reduceIte] at hx108_0); (try simp only [show (1 : Int).toNat = 1 from rfl, Nat.reduceMul, Nat.reduceEqDiff, Go.Addr.add, ↓reduceIte] at hx108_1); (try simp only [show (1 : Int).toNat = 1 from rfl, Nat.reduceMul, Nat.reduceEqDiff, Go.Addr.add, ↓reduceIte] at hx108_2); have qi108 : (1 < ((rd_T53 l0_2 0).f2).length) = True := eq_true (by omega); (try rw [show ((1 : Int)).toNat = 1 from rfl] at hx108_0); (try rw [show 1 * 3 = 3 from rfl] at hx108_0); (try rw [show ((1 : Int)).toNat = 1 from rfl] at hx108_1); (try rw [show 1 * 3 = 3 from rfl] at hx108_1); (try rw [show ((1 : Int)).toNat = 1 from rfl] at hx108_2); (try rw [show 1 * 3 = 3 from rfl] at hx108_2); have HR108_2 := aK hi108_2; have HC108_2 := aK hl108_2; clear hi108_2 hl108_2; replace p108 := eq_true p108; replace q108 := eq_true q108; obtain ⟨hcz40_0, hcz40_1, hcz40_2, hfz40_0, hfz40_1, hfz40_2⟩ := cA3 BK102))
        refine bodyPost_ret (results_ct rfl _ _ gb102 53 #[.int .i64 ((rd_T53 ((rd_T53 l0_2 0).f2) 1).f0), .int .i64 ((rd_T53 ((rd_T53 l0_2 0).f2) 1).f1), .slice A108_2 ((rd_T53 ((rd_T53 l0_2 0).f2) 1).f2).length c108_2] (0, 0) _ rfl (p3 BK102) Tryd.underlying53 rfl (by kernel_rfl)) rfl ?_
        exact ⟨_, eW, by (with_reducible repeat (first | apply Kd.V_alloc | apply Kd.V_drewN | apply Kd.V_drew)); exact Kd.V_mono (vF3 gb102 (Kd.V_mono HL108_2.out (fun k_ hk => (⟨hk, hk.2.2.1⟩ : _ ∧ k_ ≠ gb102))) (fun _ hk => hk.2)) (fun _ hk => hk.1.1), pH HB⟩
       ·rw [if_neg c21] at H
        exact absurd H (by simp)
      ·rw [if_neg c20] at H
       have c20b0 : (((rd_T53 ((rd_T53 l0_2 0).f2) 0).f0) == 4) = false := beq_eq_false_iff_ne.mpr c20
       have c20b1 : (((rd_T53 ((rd_T53 l0_2 0).f2) 0).f0) != 4) = true := bne_iff_ne.mpr c20
       by_cases c41 : ((rd_T53 ((rd_T53 l0_2 0).f2) 0).f0) = 2
       ·rw [if_pos c41] at H
        have c41b0 : (((rd_T53 ((rd_T53 l0_2 0).f2) 0).f0) == 2) = true := beq_iff_eq.mpr c41
        have c41b1 : (((rd_T53 ((rd_T53 l0_2 0).f2) 0).f0) != 2) = false := bne_eq_false_iff_eq.mpr c41
        clear c41
        by_cases c42 : 0 < (((rd_T53 ((rd_T53 l0_2 0).f2) 0).f2).length : Int)
        ·rw [if_pos c42] at H
         have c42b0 : decide (0 < (((rd_T53 ((rd_T53 l0_2 0).f2) 0).f2).length : Int)) = true := decide_eq_true c42
         have c42b1 : decide (0 < ((rd_T53 ((rd_T53 l0_2 0).f2) 0).f2).length) = true := decide_eq_true (by omega)
         clear c42
         by_cases c43 : ((rd_T53 ((rd_T53 ((rd_T53 l0_2 0).f2) 0).f2) 0).f0) = 3
         ·rw [if_pos c43] at H
          have c43b0 : (((rd_T53 ((rd_T53 ((rd_T53 l0_2 0).f2) 0).f2) 0).f0) == 3) = true := beq_iff_eq.mpr c43
          have c43b1 : (((rd_T53 ((rd_T53 ((rd_T53 l0_2 0).f2) 0).f2) 0).f0) != 3) = false := bne_eq_false_iff_eq.mpr c43
          clear c43
          by_cases c44 : 1 < (l0_2.length : Int)
          ·rw [if_pos c44] at H
           have c44b0 : decide (1 < (l0_2.length : Int)) = true := decide_eq_true c44
           have c44b1 : decide (1 < l0_2.length) = true := decide_eq_true (by omega)
           clear c44
           by_cases c45 : 1 < (((rd_T53 ((rd_T53 l0_2 0).f2) 0).f2).length : Int)
           ·rw [if_pos c45] at H
            have c45b0 : decide (1 < (((rd_T53 ((rd_T53 l0_2 0).f2) 0).f2).length : Int)) = true := decide_eq_true c45
            have c45b1 : decide (1 < ((rd_T53 ((rd_T53 l0_2 0).f2) 0).f2).length) = true := decide_eq_true (by omega)
            clear c45
            obtain ⟨⟨t113, t114, t115⟩, A46, H⟩ := oB H
            try dsimp only at H
            by_cases c47 : 1 < (((rd_T53 l0_2 0).f2).length : Int)
            ·rw [if_pos c47] at H
             have c47b0 : decide (1 < (((rd_T53 l0_2 0).f2).length : Int)) = true := decide_eq_true c47
             have c47b1 : decide (1 < ((rd_T53 l0_2 0).f2).length) = true := decide_eq_true (by omega)
             clear c47
             obtain ⟨⟨t119, t120, t121⟩, A48, H⟩ := oB H
             try dsimp only at H
             obtain ⟨⟨t124, t125, t126⟩, A49, H⟩ := oB H
             try dsimp only at H
             simp only [Option.some.injEq, Prod.mk.injEq] at H
             obtain ⟨rfl, rfl, rfl, rfl⟩ := H
             go_enter Tryd.func44, Tryd.ntmps44
             try go_wp2_with (first | ((with_reducible refine gate_dst (N := 1) rfl ?_); refine bE (N := 1) (cs := #[.int .i64 a0_0, .int .i64 a0_1, .slice A0_2 l0_2.length c0_2]) (t := 53) ?_; intro gb101 hg w50 hbox hb; have GW101 := qw HB hg; have GE101 := qw HB hg; replace HO0_2 := qv HO0_2 hg hb; have BK101 := aK hbox; replace HB := qs HB hb; clear hb hbox hg) | ((with_reducible refine gate_dst (N := 2) rfl ?_); refine bE (N := 2) (cs := #[.int .i64 0, .int .i64 0, .slice none 0 0]) (t := 53) ?_; intro gb102 hg w51 hbox hb; have GW102 := qw HB hg; have GE102 := qw HB hg; have NB101_102 := ql BK101 hg; have NB102_101 := qg BK101 hg; replace HO0_2 := qv HO0_2 hg hb; replace BK101 := qb BK101 hb; have BK102 := aK hbox; replace HB := qs HB hb; clear hb hbox hg; have hnb52 := NB101_102.out; have hnc52 := NB102_101.out; obtain ⟨hcz53_0, hcz53_1, hcz53_2, hfz53_0, hfz53_1, hfz53_2⟩ := cA3 BK101; have p103 : 0 ≤ (0 : Int) := (by omega); have q103 : 0 < (l0_2.length : Int) := dA; obtain ⟨ad103, A103_2, c103_2, e103, hx103_0, hx103_1, hx103_2, hl103_2, hi103_2⟩ := at_T53 (Kd.V_reads' HO0_2.out).2.2 0 p103 q103; cases e103; obtain ⟨ce103, hce103, hMe103, hcc103⟩ := Kd.V_get HO0_2.out z53 0 p103 (by first | exact q103 | exact dA | (have e_ := (Kd.V_reads' HO0_2.out).1; omega)); obtain ⟨ua103_2, uc103_2, rfl, ul103_2, ge103_2⟩ := k53_openF hMe103; have hv103_2 := hcc103 2 _ rfl; rw [add_field _ _ 2 (by omega)] at hv103_2; replace hv103_2 := Option.some.inj (hv103_2.symm.trans hx103_2); injection hv103_2 with hva_ hvn_ hvc_; rw [hva_] at ge103_2; rw [hvc_] at ul103_2; have HL103_2 := aK (show Kd.V k53 53 _ w.heap.size _ _ ((rd_T53 l0_2 0).f2) from Kd.V_mk ul103_2 ge103_2); clear hva_ hvn_ hvc_ ge103_2 ul103_2; clear hcc103 hce103; have qi103 : (0 < l0_2.length) = True := eq_true (by omega); (try rw [show ((0 : Int)).toNat = 0 from rfl] at hx103_0); (try rw [show 0 * 3 = 0 from rfl] at hx103_0); (try rw [Addr.add_zero'] at hx103_0); (try rw [show ((0 : Int)).toNat = 0 from rfl] at hx103_1); (try rw [show 0 * 3 = 0 from rfl] at hx103_1); (try rw [Addr.add_zero'] at hx103_1); (try rw [show ((0 : Int)).toNat = 0 from rfl] at hx103_2); (try rw [show 0 * 3 = 0 from rfl] at hx103_2); (try rw [Addr.add_zero'] at hx103_2); have HR103_2 := aK hi103_2; have HC103_2 := aK hl103_2; clear hi103_2 hl103_2; replace p103 := eq_true p103; replace q103 := eq_true q103) | ((with_reducible refine gate_dst (N := 4) rfl ?_); refine bE (N := 4) (cs := #[.int .i64 0, .int .i64 0, .slice none 0 0]) (t := 53) ?_; intro gb104 hg w54 hbox hb; have GW104 := qw HB hg; have GE104 := qw HB hg; have NB101_104 := ql BK101 hg; have NB104_101 := qg BK101 hg; have NB102_104 := ql BK102 hg; have NB104_102 := qg BK102 hg; replace HR103_2 := qr HL103_2 hb; replace HO0_2 := qv HO0_2 hg hb; replace HL103_2 := qv HL103_2 hg hb; replace BK101 := qb BK101 hb; replace BK102 := qb BK102 hb; have BK104 := aK hbox; replace HB := qs HB hb; clear hb hbox hg; have hnb55 := NB104_101.out; have hnc55 := NB101_104.out; have hnb56 := NB104_102.out; have hnc56 := NB102_104.out; obtain ⟨hcz57_0, hcz57_1, hcz57_2, hfz57_0, hfz57_1, hfz57_2⟩ := cA3 BK104) | ((with_reducible refine gate_store (t := 53) (p := 4) rfl ?_); refine store_event (t := 53) (p := 4) (v := ?vo_w58) (w1 := (((w54.setCell ⟨gb104, 0, none⟩ (.int .i64 ((rd_T53 l0_2 0).f0))).setCell ⟨gb104, 1, none⟩ (.int .i64 ((rd_T53 l0_2 0).f1))).setCell ⟨gb104, 2, none⟩ (.slice A103_2 ((rd_T53 l0_2 0).f2).length c103_2))) ?hg ?ho ?hn ?hr ?_; (case ho => rfl); (case hg => rfl); (case hn => rfl); (case hr => first | (go_simp; done) | (go_simp; rfl)); intro w58 hw; have n_ := aJ (show Aside0 (Kd.V k53 53 w58 w.heap.size (fun k_ => (P0_2_ k_ ∨ w.heap.size ≤ k_) ∧ k_ ≠ gb101 ∧ k_ ≠ gb102 ∧ k_ ≠ gb104) (.slice (some ad103) l0_2.length c0_2) l0_2) from ⟨(by rw [hw]; exact (by (with_reducible repeat (first | apply Kd.V_alloc | apply Kd.V_drewN | apply Kd.V_drew)); exact Kd.V_mono (vF3 gb104 (Kd.V_mono HO0_2.out (fun k_ hk => (⟨hk, hk.2⟩ : _ ∧ k_ ≠ gb104))) (fun _ hk => hk.2)) (fun _ hk => ⟨hk.1.1.1.1, ⟨hk.1.1.1.2, ⟨hk.1.1.2, hk.1.2⟩⟩⟩)))⟩) (aJ (show Aside0 (Kd.V k53 53 w58 w.heap.size (fun k_ => (P0_2_ k_ ∨ w.heap.size ≤ k_) ∧ k_ ≠ gb101 ∧ k_ ≠ gb102 ∧ k_ ≠ gb104) (.slice A103_2 ((rd_T53 l0_2 0).f2).length c103_2) ((rd_T53 l0_2 0).f2)) from ⟨(by rw [hw]; exact (by (with_reducible repeat (first | apply Kd.V_alloc | apply Kd.V_drewN | apply Kd.V_drew)); exact Kd.V_mono (vF3 gb104 (Kd.V_mono HL103_2.out (fun k_ hk => (⟨hk, hk.2⟩ : _ ∧ k_ ≠ gb104))) (fun _ hk => hk.2)) (fun _ hk => ⟨hk.1.1.1.1, ⟨hk.1.1.1.2, ⟨hk.1.1.2, hk.1.2⟩⟩⟩)))⟩) (aJ (show Aside0 (w58.heap[gb101]? = some (.cells #[.int .i64 a0_0, .int .i64 a0_1, .slice (some ad103) l0_2.length c0_2] 53 (0, 0))) from ⟨(by rw [hw]; exact (by (repeat first | with_reducible apply zN | with_reducible apply zD | with_reducible apply zA | refine blk_far ?_ NB101_104.out _); exact BK101.out))⟩) (aJ (show Aside0 (w58.heap[gb102]? = some (.cells #[.int .i64 0, .int .i64 0, .slice none 0 0] 53 (0, 0))) from ⟨(by rw [hw]; exact (by (repeat first | with_reducible apply zN | with_reducible apply zD | with_reducible apply zA | refine blk_far ?_ NB102_104.out _); exact BK102.out))⟩) (aJ (show Aside0 (w58.heap[gb104]? = some (.cells #[.int .i64 ((rd_T53 l0_2 0).f0), .int .i64 ((rd_T53 l0_2 0).f1), .slice A103_2 ((rd_T53 l0_2 0).f2).length c103_2] 53 (0, 0))) from ⟨(by rw [hw]; exact (p3 BK104))⟩) (show Aside0 (Below w.heap.size w w58) from ⟨(by rw [hw]; exact (pH HB))⟩))))); clear hw HO0_2 HL103_2 BK101 BK102 BK104 HB; obtain ⟨HO0_2, HL103_2, BK101, BK102, BK104, HB⟩ := n_; obtain ⟨hcz59_0, hcz59_1, hcz59_2, hfz59_0, hfz59_1, hfz59_2⟩ := cA3 BK104; have p106 : 0 ≤ (0 : Int) := (by omega); have q106 : 0 < (((rd_T53 l0_2 0).f2).length : Int) := dA; obtain ⟨ad106, A106_2, c106_2, e106, hx106_0, hx106_1, hx106_2, hl106_2, hi106_2⟩ := at_T53 (Kd.V_reads' HL103_2.out).2.2 0 p106 q106; cases e106; obtain ⟨ce106, hce106, hMe106, hcc106⟩ := Kd.V_get HL103_2.out z53 0 p106 (by first | exact q106 | exact dA | (have e_ := (Kd.V_reads' HL103_2.out).1; omega)); obtain ⟨ua106_2, uc106_2, rfl, ul106_2, ge106_2⟩ := k53_openF hMe106; have hv106_2 := hcc106 2 _ rfl; rw [add_field _ _ 2 (by omega)] at hv106_2; replace hv106_2 := Option.some.inj (hv106_2.symm.trans hx106_2); injection hv106_2 with hva_ hvn_ hvc_; rw [hva_] at ge106_2; rw [hvc_] at ul106_2; have HL106_2 := aK (show Kd.V k53 53 _ w.heap.size _ _ ((rd_T53 ((rd_T53 l0_2 0).f2) 0).f2) from Kd.V_mk ul106_2 ge106_2); clear hva_ hvn_ hvc_ ge106_2 ul106_2; clear hcc106 hce106; have qi106 : (0 < ((rd_T53 l0_2 0).f2).length) = True := eq_true (by omega); (try rw [show ((0 : Int)).toNat = 0 from rfl] at hx106_0); (try rw [show 0 * 3 = 0 from rfl] at hx106_0); (try rw [Addr.add_zero'] at hx106_0); (try rw [show ((0 : Int)).toNat = 0 from rfl] at hx106_1); (try rw [show 0 * 3 = 0 from rfl] at hx106_1); (try rw [Addr.add_zero'] at hx106_1); (try rw [show ((0 : Int)).toNat = 0 from rfl] at hx106_2); (try rw [show 0 * 3 = 0 from rfl] at hx106_2); (try rw [Addr.add_zero'] at hx106_2); have HR106_2 := aK hi106_2; have HC106_2 := aK hl106_2; clear hi106_2 hl106_2; replace p106 := eq_true p106; replace q106 := eq_true q106) | ((with_reducible refine gate_dst (N := 5) rfl ?_); refine bE (N := 5) (cs := #[.int .i64 0, .int .i64 0, .slice none 0 0]) (t := 53) ?_; intro gb107 hg w60 hbox hb; have GW107 := qw HB hg; have GE107 := qw HB hg; have NB101_107 := ql BK101 hg; have NB107_101 := qg BK101 hg; have NB102_107 := ql BK102 hg; have NB107_102 := qg BK102 hg; have NB104_107 := ql BK104 hg; have NB107_104 := qg BK104 hg; replace HR103_2 := qr HL103_2 hb; replace HR106_2 := qr HL106_2 hb; replace HO0_2 := qv HO0_2 hg hb; replace HL103_2 := qv HL103_2 hg hb; replace HL106_2 := qv HL106_2 hg hb; replace BK101 := qb BK101 hb; replace BK102 := qb BK102 hb; replace BK104 := qb BK104 hb; have BK107 := aK hbox; replace HB := qs HB hb; clear hb hbox hg; have hnb61 := NB107_101.out; have hnc61 := NB101_107.out; have hnb62 := NB107_102.out; have hnc62 := NB102_107.out; have hnb63 := NB107_104.out; have hnc63 := NB104_107.out; obtain ⟨hcz64_0, hcz64_1, hcz64_2, hfz64_0, hfz64_1, hfz64_2⟩ := cA3 BK107) | ((with_reducible refine gate_store (t := 53) (p := 5) rfl ?_); refine store_event (t := 53) (p := 5) (v := ?vo_w65) (w1 := (((w60.setCell ⟨gb107, 0, none⟩ (.int .i64 ((rd_T53 ((rd_T53 l0_2 0).f2) 0).f0))).setCell ⟨gb107, 1, none⟩ (.int .i64 ((rd_T53 ((rd_T53 l0_2 0).f2) 0).f1))).setCell ⟨gb107, 2, none⟩ (.slice A106_2 ((rd_T53 ((rd_T53 l0_2 0).f2) 0).f2).length c106_2))) ?hg ?ho ?hn ?hr ?_; (case ho => rfl); (case hg => rfl); (case hn => rfl); (case hr => first | (go_simp; done) | (go_simp; rfl)); intro w65 hw; have n_ := aJ (show Aside0 (Kd.V k53 53 w65 w.heap.size (fun k_ => (P0_2_ k_ ∨ w.heap.size ≤ k_) ∧ k_ ≠ gb101 ∧ k_ ≠ gb102 ∧ k_ ≠ gb104 ∧ k_ ≠ gb107) (.slice (some ad103) l0_2.length c0_2) l0_2) from ⟨(by rw [hw]; exact (by (with_reducible repeat (first | apply Kd.V_alloc | apply Kd.V_drewN | apply Kd.V_drew)); exact Kd.V_mono (vF3 gb107 (Kd.V_mono HO0_2.out (fun k_ hk => (⟨hk, hk.2⟩ : _ ∧ k_ ≠ gb107))) (fun _ hk => hk.2)) (fun _ hk => ⟨hk.1.1.1, ⟨hk.1.1.2.1, ⟨hk.1.1.2.2.1, ⟨hk.1.1.2.2.2, hk.1.2⟩⟩⟩⟩)))⟩) (aJ (show Aside0 (Kd.V k53 53 w65 w.heap.size (fun k_ => (P0_2_ k_ ∨ w.heap.size ≤ k_) ∧ k_ ≠ gb101 ∧ k_ ≠ gb102 ∧ k_ ≠ gb104 ∧ k_ ≠ gb107) (.slice (some ad106) ((rd_T53 l0_2 0).f2).length c103_2) ((rd_T53 l0_2 0).f2)) from ⟨(by rw [hw]; exact (by (with_reducible repeat (first | apply Kd.V_alloc | apply Kd.V_drewN | apply Kd.V_drew)); exact Kd.V_mono (vF3 gb107 (Kd.V_mono HL103_2.out (fun k_ hk => (⟨hk, hk.2⟩ : _ ∧ k_ ≠ gb107))) (fun _ hk => hk.2)) (fun _ hk => ⟨hk.1.1.1, ⟨hk.1.1.2.1, ⟨hk.1.1.2.2.1, ⟨hk.1.1.2.2.2, hk.1.2⟩⟩⟩⟩)))⟩) (aJ (show Aside0 (Kd.V k53 53 w65 w.heap.size (fun k_ => (P0_2_ k_ ∨ w.heap.size ≤ k_) ∧ k_ ≠ gb101 ∧ k_ ≠ gb102 ∧ k_ ≠ gb104 ∧ k_ ≠ gb107) (.slice A106_2 ((rd_T53 ((rd_T53 l0_2 0).f2) 0).f2).length c106_2) ((rd_T53 ((rd_T53 l0_2 0).f2) 0).f2)) from ⟨(by rw [hw]; exact (by (with_reducible repeat (first | apply Kd.V_alloc | apply Kd.V_drewN | apply Kd.V_drew)); exact Kd.V_mono (vF3 gb107 (Kd.V_mono HL106_2.out (fun k_ hk => (⟨hk, hk.2⟩ : _ ∧ k_ ≠ gb107))) (fun _ hk => hk.2)) (fun _ hk => ⟨hk.1.1.1, ⟨hk.1.1.2.1, ⟨hk.1.1.2.2.1, ⟨hk.1.1.2.2.2, hk.1.2⟩⟩⟩⟩)))⟩) (aJ (show Aside0 (w65.heap[gb101]? = some (.cells #[.int .i64 a0_0, .int .i64 a0_1, .slice (some ad103) l0_2.length c0_2] 53 (0, 0))) from ⟨(by rw [hw]; exact (by (repeat first | with_reducible apply zN | with_reducible apply zD | with_reducible apply zA | refine blk_far ?_ NB101_107.out _); exact BK101.out))⟩) (aJ (show Aside0 (w65.heap[gb102]? = some (.cells #[.int .i64 0, .int .i64 0, .slice none 0 0] 53 (0, 0))) from ⟨(by rw [hw]; exact (by (repeat first | with_reducible apply zN | with_reducible apply zD | with_reducible apply zA | refine blk_far ?_ NB102_107.out _); exact BK102.out))⟩) (aJ (show Aside0 (w65.heap[gb104]? = some (.cells #[.int .i64 ((rd_T53 l0_2 0).f0), .int .i64 ((rd_T53 l0_2 0).f1), .slice (some ad106) ((rd_T53 l0_2 0).f2).length c103_2] 53 (0, 0))) from ⟨(by rw [hw]; exact (by (repeat first | with_reducible apply zN | with_reducible apply zD | with_reducible apply zA | refine blk_far ?_ NB104_107.out _); exact BK104.out))⟩) (aJ (show Aside0 (w65.heap[gb107]? = some (.cells #[.int .i64 ((rd_T53 ((rd_T53 l0_2 0).f2) 0).f0), .int .i64 ((rd_T53 ((rd_T53 l0_2 0).f2) 0).f1), .slice A106_2 ((rd_T53 ((rd_T53 l0_2 0).f2) 0).f2).length c106_2] 53 (0, 0))) from ⟨(by rw [hw]; exact (p3 BK107))⟩) (show Aside0 (Below w.heap.size w w65) from ⟨(by rw [hw]; exact (pH HB))⟩))))))); clear hw HO0_2 HL103_2 HL106_2 BK101 BK102 BK104 BK107 HB; obtain ⟨HO0_2, HL103_2, HL106_2, BK101, BK102, BK104, BK107, HB⟩ := n_; obtain ⟨hcz66_0, hcz66_1, hcz66_2, hfz66_0, hfz66_1, hfz66_2⟩ := cA3 BK107; have p109 : 0 ≤ (0 : Int) := (by omega); have q109 : 0 < (((rd_T53 ((rd_T53 l0_2 0).f2) 0).f2).length : Int) := dA; obtain ⟨ad109, A109_2, c109_2, e109, hx109_0, hx109_1, hx109_2, hl109_2, hi109_2⟩ := at_T53 (Kd.V_reads' HL106_2.out).2.2 0 p109 q109; cases e109; obtain ⟨ce109, hce109, hMe109, hcc109⟩ := Kd.V_get HL106_2.out z53 0 p109 (by first | exact q109 | exact dA | (have e_ := (Kd.V_reads' HL106_2.out).1; omega)); obtain ⟨ua109_2, uc109_2, rfl, ul109_2, ge109_2⟩ := k53_openF hMe109; have hv109_2 := hcc109 2 _ rfl; rw [add_field _ _ 2 (by omega)] at hv109_2; replace hv109_2 := Option.some.inj (hv109_2.symm.trans hx109_2); injection hv109_2 with hva_ hvn_ hvc_; rw [hva_] at ge109_2; rw [hvc_] at ul109_2; have HL109_2 := aK (show Kd.V k53 53 _ w.heap.size _ _ ((rd_T53 ((rd_T53 ((rd_T53 l0_2 0).f2) 0).f2) 0).f2) from Kd.V_mk ul109_2 ge109_2); clear hva_ hvn_ hvc_ ge109_2 ul109_2; clear hcc109 hce109; have qi109 : (0 < ((rd_T53 ((rd_T53 l0_2 0).f2) 0).f2).length) = True := eq_true (by omega); (try rw [show ((0 : Int)).toNat = 0 from rfl] at hx109_0); (try rw [show 0 * 3 = 0 from rfl] at hx109_0); (try rw [Addr.add_zero'] at hx109_0); (try rw [show ((0 : Int)).toNat = 0 from rfl] at hx109_1); (try rw [show 0 * 3 = 0 from rfl] at hx109_1); (try rw [Addr.add_zero'] at hx109_1); (try rw [show ((0 : Int)).toNat = 0 from rfl] at hx109_2); (try rw [show 0 * 3 = 0 from rfl] at hx109_2); (try rw [Addr.add_zero'] at hx109_2); have HR109_2 := aK hi109_2; have HC109_2 := aK hl109_2; clear hi109_2 hl109_2; replace p109 := eq_true p109; replace q109 := eq_true q109; obtain ⟨hcz67_0, hcz67_1, hcz67_2, hfz67_0, hfz67_1, hfz67_2⟩ := cA3 BK101; have p110 : 0 ≤ (1 : Int) := (by omega); have q110 : 1 < (l0_2.length : Int) := dA; obtain ⟨ad110, A110_2, c110_2, e110, hx110_0, hx110_1, hx110_2, hl110_2, hi110_2⟩ := at_T53 (Kd.V_reads' HO0_2.out).2.2 1 p110 q110; obtain rfl : ad103 = ad110 := (by injection e110); obtain ⟨ce110, hce110, hMe110, hcc110⟩ := Kd.V_get HO0_2.out z53 1 p110 (by first | exact q110 | exact dA | (have e_ := (Kd.V_reads' HO0_2.out).1; omega)); obtain ⟨ua110_2, uc110_2, rfl, ul110_2, ge110_2⟩ := k53_openF hMe110; have hv110_2 := hcc110 2 _ rfl; rw [add_field _ _ 2 (by omega)] at hv110_2; replace hv110_2 := Option.some.inj (hv110_2.symm.trans hx110_2); injection hv110_2 with hva_ hvn_ hvc_; rw [hva_] at ge110_2; rw [hvc_] at ul110_2; have HL110_2 := aK (show Kd.V k53 53 _ w.heap.size _ _ ((rd_T53 l0_2 1).f2) from Kd.V_mk ul110_2 ge110_2); clear hva_ hvn_ hvc_ ge110_2 ul110_2; clear hcc110 hce110; (try simp only [show (1 : Int).toNat = 1 from rfl, Nat.reduceMul, Nat.reduceEqDiff, Go.Addr.add, ↓reduceIte] at hx110_0); (try simp only [show (1 : Int).toNat = 1 from rfl, Nat.reduceMul, Nat.reduceEqDiff, Go.Addr.add, ↓reduceIte] at hx110_1); (try simp only [show (1 : Int).toNat = 1 from rfl, Nat.reduceMul, Nat.reduceEqDiff, Go.Addr.add, ↓reduceIte] at hx110_2); have qi110 : (1 < l0_2.length) = True := eq_true (by omega); (try rw [show ((1 : Int)).toNat = 1 from rfl] at hx110_0); (try rw [show 1 * 3 = 3 from rfl] at hx110_0); (try rw [show ((1 : Int)).toNat = 1 from rfl] at hx110_1); (try rw [show 1 * 3 = 3 from rfl] at hx110_1); (try rw [show ((1 : Int)).toNat = 1 from rfl] at hx110_2); (try rw [show 1 * 3 = 3 from rfl] at hx110_2); have HR110_2 := aK hi110_2; have HC110_2 := aK hl110_2; clear hi110_2 hl110_2; replace p110 := eq_true p110; replace q110 := eq_true q110) | ((with_reducible refine gate_dst (N := 6) rfl ?_); refine bE (N := 6) (cs := #[.int .i64 0, .int .i64 0, .slice none 0 0]) (t := 53) ?_; intro gb111 hg w68 hbox hb; have GW111 := qw HB hg; have GE111 := qw HB hg; have NB101_111 := ql BK101 hg; have NB111_101 := qg BK101 hg; have NB102_111 := ql BK102 hg; have NB111_102 := qg BK102 hg; have NB104_111 := ql BK104 hg; have NB111_104 := qg BK104 hg; have NB107_111 := ql BK107 hg; have NB111_107 := qg BK107 hg; replace HR103_2 := qr HL103_2 hb; replace HR106_2 := qr HL106_2 hb; replace HR109_2 := qr HL109_2 hb; replace HR110_2 := qr HL110_2 hb; replace HO0_2 := qv HO0_2 hg hb; replace HL103_2 := qv HL103_2 hg hb; replace HL106_2 := qv HL106_2 hg hb; replace HL109_2 := qv HL109_2 hg hb; replace HL110_2 := qv HL110_2 hg hb; replace BK101 := qb BK101 hb; replace BK102 := qb BK102 hb; replace BK104 := qb BK104 hb; replace BK107 := qb BK107 hb; have BK111 := aK hbox; replace HB := qs HB hb; clear hb hbox hg; have hnb69 := NB111_101.out; have hnc69 := NB101_111.out; have hnb70 := NB111_102.out; have hnc70 := NB102_111.out; have hnb71 := NB111_104.out; have hnc71 := NB104_111.out; have hnb72 := NB111_107.out; have hnc72 := NB107_111.out; obtain ⟨hcz73_0, hcz73_1, hcz73_2, hfz73_0, hfz73_1, hfz73_2⟩ := cA3 BK111))
             have n0_ : Aside0 (Kd.V k53 53 (((w68.setCell ⟨gb111, 0, none⟩ (.int .i64 ((rd_T53 l0_2 1).f0))).setCell ⟨gb111, 1, none⟩ (.int .i64 ((rd_T53 l0_2 1).f1))).setCell ⟨gb111, 2, none⟩ (.slice A110_2 ((rd_T53 l0_2 1).f2).length c110_2)) w.heap.size (fun k_ => (P0_2_ k_ ∨ w.heap.size ≤ k_) ∧ k_ ≠ gb101 ∧ k_ ≠ gb102 ∧ k_ ≠ gb104 ∧ k_ ≠ gb107 ∧ k_ ≠ gb111) (.slice (some ad103) l0_2.length c0_2) l0_2) := ⟨by (with_reducible repeat (first | apply Kd.V_alloc | apply Kd.V_drewN | apply Kd.V_drew)); exact Kd.V_mono (vF3 gb111 (Kd.V_mono HO0_2.out (fun k_ hk => (⟨hk, hk.2⟩ : _ ∧ k_ ≠ gb111))) (fun _ hk => hk.2)) (fun _ hk => ⟨hk.1.1.1, ⟨hk.1.1.2.1, ⟨hk.1.1.2.2.1, ⟨hk.1.1.2.2.2.1, ⟨hk.1.1.2.2.2.2, hk.1.2⟩⟩⟩⟩⟩)⟩
             have n1_ : Aside0 (Kd.V k53 53 (((w68.setCell ⟨gb111, 0, none⟩ (.int .i64 ((rd_T53 l0_2 1).f0))).setCell ⟨gb111, 1, none⟩ (.int .i64 ((rd_T53 l0_2 1).f1))).setCell ⟨gb111, 2, none⟩ (.slice A110_2 ((rd_T53 l0_2 1).f2).length c110_2)) w.heap.size (fun k_ => (P0_2_ k_ ∨ w.heap.size ≤ k_) ∧ k_ ≠ gb101 ∧ k_ ≠ gb102 ∧ k_ ≠ gb104 ∧ k_ ≠ gb107 ∧ k_ ≠ gb111) (.slice (some ad106) ((rd_T53 l0_2 0).f2).length c103_2) ((rd_T53 l0_2 0).f2)) := ⟨by (with_reducible repeat (first | apply Kd.V_alloc | apply Kd.V_drewN | apply Kd.V_drew)); exact Kd.V_mono (vF3 gb111 (Kd.V_mono HL103_2.out (fun k_ hk => (⟨hk, hk.2⟩ : _ ∧ k_ ≠ gb111))) (fun _ hk => hk.2)) (fun _ hk => ⟨hk.1.1.1, ⟨hk.1.1.2.1, ⟨hk.1.1.2.2.1, ⟨hk.1.1.2.2.2.1, ⟨hk.1.1.2.2.2.2, hk.1.2⟩⟩⟩⟩⟩)⟩
             have n2_ : Aside0 (Kd.V k53 53 (((w68.setCell ⟨gb111, 0, none⟩ (.int .i64 ((rd_T53 l0_2 1).f0))).setCell ⟨gb111, 1, none⟩ (.int .i64 ((rd_T53 l0_2 1).f1))).setCell ⟨gb111, 2, none⟩ (.slice A110_2 ((rd_T53 l0_2 1).f2).length c110_2)) w.heap.size (fun k_ => (P0_2_ k_ ∨ w.heap.size ≤ k_) ∧ k_ ≠ gb101 ∧ k_ ≠ gb102 ∧ k_ ≠ gb104 ∧ k_ ≠ gb107 ∧ k_ ≠ gb111) (.slice (some ad109) ((rd_T53 ((rd_T53 l0_2 0).f2) 0).f2).length c106_2) ((rd_T53 ((rd_T53 l0_2 0).f2) 0).f2)) := ⟨by (with_reducible repeat (first | apply Kd.V_alloc | apply Kd.V_drewN | apply Kd.V_drew)); exact Kd.V_mono (vF3 gb111 (Kd.V_mono HL106_2.out (fun k_ hk => (⟨hk, hk.2⟩ : _ ∧ k_ ≠ gb111))) (fun _ hk => hk.2)) (fun _ hk => ⟨hk.1.1.1, ⟨hk.1.1.2.1, ⟨hk.1.1.2.2.1, ⟨hk.1.1.2.2.2.1, ⟨hk.1.1.2.2.2.2, hk.1.2⟩⟩⟩⟩⟩)⟩
             have n3_ : Aside0 (Kd.V k53 53 (((w68.setCell ⟨gb111, 0, none⟩ (.int .i64 ((rd_T53 l0_2 1).f0))).setCell ⟨gb111, 1, none⟩ (.int .i64 ((rd_T53 l0_2 1).f1))).setCell ⟨gb111, 2, none⟩ (.slice A110_2 ((rd_T53 l0_2 1).f2).length c110_2)) w.heap.size (fun k_ => (P0_2_ k_ ∨ w.heap.size ≤ k_) ∧ k_ ≠ gb101 ∧ k_ ≠ gb102 ∧ k_ ≠ gb104 ∧ k_ ≠ gb107 ∧ k_ ≠ gb111) (.slice A109_2 ((rd_T53 ((rd_T53 ((rd_T53 l0_2 0).f2) 0).f2) 0).f2).length c109_2) ((rd_T53 ((rd_T53 ((rd_T53 l0_2 0).f2) 0).f2) 0).f2)) := ⟨by (with_reducible repeat (first | apply Kd.V_alloc | apply Kd.V_drewN | apply Kd.V_drew)); exact Kd.V_mono (vF3 gb111 (Kd.V_mono HL109_2.out (fun k_ hk => (⟨hk, hk.2⟩ : _ ∧ k_ ≠ gb111))) (fun _ hk => hk.2)) (fun _ hk => ⟨hk.1.1.1, ⟨hk.1.1.2.1, ⟨hk.1.1.2.2.1, ⟨hk.1.1.2.2.2.1, ⟨hk.1.1.2.2.2.2, hk.1.2⟩⟩⟩⟩⟩)⟩
             have n4_ : Aside0 (Kd.V k53 53 (((w68.setCell ⟨gb111, 0, none⟩ (.int .i64 ((rd_T53 l0_2 1).f0))).setCell ⟨gb111, 1, none⟩ (.int .i64 ((rd_T53 l0_2 1).f1))).setCell ⟨gb111, 2, none⟩ (.slice A110_2 ((rd_T53 l0_2 1).f2).length c110_2)) w.heap.size (fun k_ => (P0_2_ k_ ∨ w.heap.size ≤ k_) ∧ k_ ≠ gb101 ∧ k_ ≠ gb102 ∧ k_ ≠ gb104 ∧ k_ ≠ gb107 ∧ k_ ≠ gb111) (.slice A110_2 ((rd_T53 l0_2 1).f2).length c110_2) ((rd_T53 l0_2 1).f2)) := ⟨by (with_reducible repeat (first | apply Kd.V_alloc | apply Kd.V_drewN | apply Kd.V_drew)); exact Kd.V_mono (vF3 gb111 (Kd.V_mono HL110_2.out (fun k_ hk => (⟨hk, hk.2⟩ : _ ∧ k_ ≠ gb111))) (fun _ hk => hk.2)) (fun _ hk => ⟨hk.1.1.1, ⟨hk.1.1.2.1, ⟨hk.1.1.2.2.1, ⟨hk.1.1.2.2.2.1, ⟨hk.1.1.2.2.2.2, hk.1.2⟩⟩⟩⟩⟩)⟩
             have n5_ : Aside0 ((((w68.setCell ⟨gb111, 0, none⟩ (.int .i64 ((rd_T53 l0_2 1).f0))).setCell ⟨gb111, 1, none⟩ (.int .i64 ((rd_T53 l0_2 1).f1))).setCell ⟨gb111, 2, none⟩ (.slice A110_2 ((rd_T53 l0_2 1).f2).length c110_2)).heap[gb101]? = some (.cells #[.int .i64 a0_0, .int .i64 a0_1, .slice (some ad103) l0_2.length c0_2] 53 (0, 0))) := ⟨by (repeat first | with_reducible apply zN | with_reducible apply zD | with_reducible apply zA | refine blk_far ?_ NB101_111.out _); exact BK101.out⟩
             have n6_ : Aside0 ((((w68.setCell ⟨gb111, 0, none⟩ (.int .i64 ((rd_T53 l0_2 1).f0))).setCell ⟨gb111, 1, none⟩ (.int .i64 ((rd_T53 l0_2 1).f1))).setCell ⟨gb111, 2, none⟩ (.slice A110_2 ((rd_T53 l0_2 1).f2).length c110_2)).heap[gb102]? = some (.cells #[.int .i64 0, .int .i64 0, .slice none 0 0] 53 (0, 0))) := ⟨by (repeat first | with_reducible apply zN | with_reducible apply zD | with_reducible apply zA | refine blk_far ?_ NB102_111.out _); exact BK102.out⟩
             have n7_ : Aside0 ((((w68.setCell ⟨gb111, 0, none⟩ (.int .i64 ((rd_T53 l0_2 1).f0))).setCell ⟨gb111, 1, none⟩ (.int .i64 ((rd_T53 l0_2 1).f1))).setCell ⟨gb111, 2, none⟩ (.slice A110_2 ((rd_T53 l0_2 1).f2).length c110_2)).heap[gb104]? = some (.cells #[.int .i64 ((rd_T53 l0_2 0).f0), .int .i64 ((rd_T53 l0_2 0).f1), .slice (some ad106) ((rd_T53 l0_2 0).f2).length c103_2] 53 (0, 0))) := ⟨by (repeat first | with_reducible apply zN | with_reducible apply zD | with_reducible apply zA | refine blk_far ?_ NB104_111.out _); exact BK104.out⟩
             have n8_ : Aside0 ((((w68.setCell ⟨gb111, 0, none⟩ (.int .i64 ((rd_T53 l0_2 1).f0))).setCell ⟨gb111, 1, none⟩ (.int .i64 ((rd_T53 l0_2 1).f1))).setCell ⟨gb111, 2, none⟩ (.slice A110_2 ((rd_T53 l0_2 1).f2).length c110_2)).heap[gb107]? = some (.cells #[.int .i64 ((rd_T53 ((rd_T53 l0_2 0).f2) 0).f0), .int .i64 ((rd_T53 ((rd_T53 l0_2 0).f2) 0).f1), .slice (some ad109) ((rd_T53 ((rd_T53 l0_2 0).f2) 0).f2).length c106_2] 53 (0, 0))) := ⟨by (repeat first | with_reducible apply zN | with_reducible apply zD | with_reducible apply zA | refine blk_far ?_ NB107_111.out _); exact BK107.out⟩
             have n9_ : Aside0 ((((w68.setCell ⟨gb111, 0, none⟩ (.int .i64 ((rd_T53 l0_2 1).f0))).setCell ⟨gb111, 1, none⟩ (.int .i64 ((rd_T53 l0_2 1).f1))).setCell ⟨gb111, 2, none⟩ (.slice A110_2 ((rd_T53 l0_2 1).f2).length c110_2)).heap[gb111]? = some (.cells #[.int .i64 ((rd_T53 l0_2 1).f0), .int .i64 ((rd_T53 l0_2 1).f1), .slice A110_2 ((rd_T53 l0_2 1).f2).length c110_2] 53 (0, 0))) := ⟨p3 BK111⟩
             have n10_ : Aside0 (Below w.heap.size w (((w68.setCell ⟨gb111, 0, none⟩ (.int .i64 ((rd_T53 l0_2 1).f0))).setCell ⟨gb111, 1, none⟩ (.int .i64 ((rd_T53 l0_2 1).f1))).setCell ⟨gb111, 2, none⟩ (.slice A110_2 ((rd_T53 l0_2 1).f2).length c110_2))) := ⟨pH HB⟩
             (try clear HO0_2)
             (try clear HL103_2)
             (try clear HL106_2)
             (try clear HL109_2)
             (try clear HL110_2)
             (try clear BK101)
             (try clear BK102)
             (try clear BK104)
             (try clear BK107)
             (try clear BK111)
             (try clear HB)
             generalize (((w68.setCell ⟨gb111, 0, none⟩ (.int .i64 ((rd_T53 l0_2 1).f0))).setCell ⟨gb111, 1, none⟩ (.int .i64 ((rd_T53 l0_2 1).f1))).setCell ⟨gb111, 2, none⟩ (.slice A110_2 ((rd_T53 l0_2 1).f2).length c110_2)) = w74 at n0_ n1_ n2_ n3_ n4_ n5_ n6_ n7_ n8_ n9_ n10_ ⊢
             have HO0_2 := n0_
             have HL103_2 := n1_
             have HL106_2 := n2_
             have HL109_2 := n3_
             have HL110_2 := n4_
             have BK101 := n5_
             have BK102 := n6_
             have BK104 := n7_
             have BK107 := n8_
             have BK111 := n9_
             have HB := n10_
             clear n0_ n1_ n2_ n3_ n4_ n5_ n6_ n7_ n8_ n9_ n10_
             have n_ := aJ (aK (Kd.V_drew HO0_2.out)) (aJ (aK (Kd.V_drew HL103_2.out)) (aJ (aK (Kd.V_drew HL106_2.out)) (aJ (aK (Kd.V_drew HL109_2.out)) (aJ (aK (Kd.V_drew HL110_2.out)) (aJ (aK (blk_drew BK101.out)) (aJ (aK (blk_drew BK102.out)) (aJ (aK (blk_drew BK104.out)) (aJ (aK (blk_drew BK107.out)) (aJ (aK (blk_drew BK111.out)) (aK (below_drew1 HB.out)))))))))))
             clear HO0_2 HL103_2 HL106_2 HL109_2 HL110_2 BK101 BK102 BK104 BK107 BK111 HB
             obtain ⟨HO0_2, HL103_2, HL106_2, HL109_2, HL110_2, BK101, BK102, BK104, BK107, BK111, HB⟩ := n_
             have p112 : 0 ≤ (1 : Int) := (by omega)
             have q112 : 1 < (((rd_T53 ((rd_T53 l0_2 0).f2) 0).f2).length : Int) := dA
             obtain ⟨ad112, A112_2, c112_2, e112, hx112_0, hx112_1, hx112_2, hl112_2, hi112_2⟩ := at_T53 (Kd.V_reads' HL106_2.out).2.2 1 p112 q112
             obtain rfl : ad109 = ad112 := (by injection e112)
             obtain ⟨ce112, hce112, hMe112, hcc112⟩ := Kd.V_get HL106_2.out z53 1 p112 (by first | exact q112 | exact dA | (have e_ := (Kd.V_reads' HL106_2.out).1; omega))
             obtain ⟨ua112_2, uc112_2, rfl, ul112_2, ge112_2⟩ := k53_openF hMe112
             have hv112_2 := hcc112 2 _ rfl
             rw [add_field _ _ 2 (by omega)] at hv112_2
             replace hv112_2 := Option.some.inj (hv112_2.symm.trans hx112_2)
             injection hv112_2 with hva_ hvn_ hvc_
             rw [hva_] at ge112_2
             rw [hvc_] at ul112_2
             have HL112_2 := aK (show Kd.V k53 53 _ w.heap.size _ _ ((rd_T53 ((rd_T53 ((rd_T53 l0_2 0).f2) 0).f2) 1).f2) from Kd.V_mk ul112_2 ge112_2)
             clear hva_ hvn_ hvc_ ge112_2 ul112_2
             clear hcc112 hce112
             (try simp only [show (1 : Int).toNat = 1 from rfl, Nat.reduceMul, Nat.reduceEqDiff, Go.Addr.add, ↓reduceIte] at hx112_0)
             (try simp only [show (1 : Int).toNat = 1 from rfl, Nat.reduceMul, Nat.reduceEqDiff, Go.Addr.add, ↓reduceIte] at hx112_1)
             (try simp only [show (1 : Int).toNat = 1 from rfl, Nat.reduceMul, Nat.reduceEqDiff, Go.Addr.add, ↓reduceIte] at hx112_2)
             have qi112 : (1 < ((rd_T53 ((rd_T53 l0_2 0).f2) 0).f2).length) = True := eq_true (by omega)
             (try rw [show ((1 : Int)).toNat = 1 from rfl] at hx112_0)
             (try rw [show 1 * 3 = 3 from rfl] at hx112_0)
             (try rw [show ((1 : Int)).toNat = 1 from rfl] at hx112_1)
             (try rw [show 1 * 3 = 3 from rfl] at hx112_1)
             (try rw [show ((1 : Int)).toNat = 1 from rfl] at hx112_2)
             (try rw [show 1 * 3 = 3 from rfl] at hx112_2)
             have HR112_2 := aK hi112_2
             have HC112_2 := aK hl112_2
             clear hi112_2 hl112_2
             replace p112 := eq_true p112
             replace q112 := eq_true q112
             have p118 : 0 ≤ (1 : Int) := (by omega)
             have q118 : 1 < (((rd_T53 l0_2 0).f2).length : Int) := dA
             obtain ⟨ad118, A118_2, c118_2, e118, hx118_0, hx118_1, hx118_2, hl118_2, hi118_2⟩ := at_T53 (Kd.V_reads' HL103_2.out).2.2 1 p118 q118
             obtain rfl : ad106 = ad118 := (by injection e118)
             obtain ⟨ce118, hce118, hMe118, hcc118⟩ := Kd.V_get HL103_2.out z53 1 p118 (by first | exact q118 | exact dA | (have e_ := (Kd.V_reads' HL103_2.out).1; omega))
             obtain ⟨ua118_2, uc118_2, rfl, ul118_2, ge118_2⟩ := k53_openF hMe118
             have hv118_2 := hcc118 2 _ rfl
             rw [add_field _ _ 2 (by omega)] at hv118_2
             replace hv118_2 := Option.some.inj (hv118_2.symm.trans hx118_2)
             injection hv118_2 with hva_ hvn_ hvc_
             rw [hva_] at ge118_2
             rw [hvc_] at ul118_2
             have HL118_2 := aK (show Kd.V k53 53 _ w.heap.size _ _ ((rd_T53 ((rd_T53 l0_2 0).f2) 1).f2) from Kd.V_mk ul118_2 ge118_2)
             clear hva_ hvn_ hvc_ ge118_2 ul118_2
             clear hcc118 hce118
             (try simp only [show (1 : Int).toNat = 1 from rfl, Nat.reduceMul, Nat.reduceEqDiff, Go.Addr.add, ↓reduceIte] at hx118_0)
             (try simp only [show (1 : Int).toNat = 1 from rfl, Nat.reduceMul, Nat.reduceEqDiff, Go.Addr.add, ↓reduceIte] at hx118_1)
             (try simp only [show (1 : Int).toNat = 1 from rfl, Nat.reduceMul, Nat.reduceEqDiff, Go.Addr.add, ↓reduceIte] at hx118_2)
             have qi118 : (1 < ((rd_T53 l0_2 0).f2).length) = True := eq_true (by omega)
             (try rw [show ((1 : Int)).toNat = 1 from rfl] at hx118_0)
             (try rw [show 1 * 3 = 3 from rfl] at hx118_0)
             (try rw [show ((1 : Int)).toNat = 1 from rfl] at hx118_1)
             (try rw [show 1 * 3 = 3 from rfl] at hx118_1)
             (try rw [show ((1 : Int)).toNat = 1 from rfl] at hx118_2)
             (try rw [show 1 * 3 = 3 from rfl] at hx118_2)
             have HR118_2 := aK hi118_2
             have HC118_2 := aK hl118_2
             clear hi118_2 hl118_2
             replace p118 := eq_true p118
             replace q118 := eq_true q118
             refine start_ (n := 15) (S := fun w' => w'.cell? ⟨gb107, 0, none⟩ = some (.int .i64 ((rd_T53 ((rd_T53 l0_2 0).f2) 0).f0)) ∧ w'.cell? ⟨gb107, 1, none⟩ = some (.int .i64 ((rd_T53 ((rd_T53 l0_2 0).f2) 0).f1)) ∧ w'.cell? ⟨gb107, 2, none⟩ = some (.slice (some ad109) ((rd_T53 ((rd_T53 l0_2 0).f2) 0).f2).length c106_2) ∧ w'.cell? ⟨gb111, 0, none⟩ = some (.int .i64 ((rd_T53 l0_2 1).f0)) ∧ w'.cell? ⟨gb111, 1, none⟩ = some (.int .i64 ((rd_T53 l0_2 1).f1)) ∧ w'.cell? ⟨gb111, 2, none⟩ = some (.slice A110_2 ((rd_T53 l0_2 1).f2).length c110_2) ∧ w'.cell? ⟨gb104, 0, none⟩ = some (.int .i64 ((rd_T53 l0_2 0).f0)) ∧ w'.cell? ⟨gb104, 1, none⟩ = some (.int .i64 ((rd_T53 l0_2 0).f1)) ∧ w'.cell? ⟨gb104, 2, none⟩ = some (.slice (some ad106) ((rd_T53 l0_2 0).f2).length c103_2) ∧ w'.cell? ⟨ad109.block, ad109.off + 3, none⟩ = some (.int .i64 ((rd_T53 ((rd_T53 ((rd_T53 l0_2 0).f2) 0).f2) 1).f0)) ∧ w'.cell? ⟨ad109.block, ad109.off + 3 + 1, none⟩ = some (.int .i64 ((rd_T53 ((rd_T53 ((rd_T53 l0_2 0).f2) 0).f2) 1).f1)) ∧ w'.cell? ⟨ad109.block, ad109.off + 3 + 2, none⟩ = some (.slice A112_2 ((rd_T53 ((rd_T53 ((rd_T53 l0_2 0).f2) 0).f2) 1).f2).length c112_2) ∧ w'.cell? ⟨ad106.block, ad106.off + 3, none⟩ = some (.int .i64 ((rd_T53 ((rd_T53 l0_2 0).f2) 1).f0)) ∧ w'.cell? ⟨ad106.block, ad106.off + 3 + 1, none⟩ = some (.int .i64 ((rd_T53 ((rd_T53 l0_2 0).f2) 1).f1)) ∧ w'.cell? ⟨ad106.block, ad106.off + 3 + 2, none⟩ = some (.slice A118_2 ((rd_T53 ((rd_T53 l0_2 0).f2) 1).f2).length c118_2)) (ds := []) (bs 0 15) (by kernel_rfl) rfl rfl ⟨(blk_cell BK107.out 0).trans rfl, (blk_cell BK107.out 1).trans rfl, (blk_cell BK107.out 2).trans rfl, (blk_cell BK111.out 0).trans rfl, (blk_cell BK111.out 1).trans rfl, (blk_cell BK111.out 2).trans rfl, (blk_cell BK104.out 0).trans rfl, (blk_cell BK104.out 1).trans rfl, (blk_cell BK104.out 2).trans rfl, hx112_0, hx112_1, hx112_2, hx118_0, hx118_1, hx118_2⟩ (fun hHeld => ?_); refine with_tabW spec_ldHead.tab13 spec_ldHead.bits13 (fun HT_ HW_ => ?_)
             generalize w74.drew = w75 at HO0_2 HL103_2 HL106_2 HL109_2 HL110_2 BK101 BK102 BK104 BK107 BK111 HB HL112_2 HL118_2 HR112_2 HR118_2 hx112_0 hx112_1 hx112_2 hx118_0 hx118_1 hx118_2 hHeld ⊢
             refine pS (i := 0) (N := some 52) (bs 1 14) (aO HT_) ?_
             refine pS (i := 6) (N := some 58) #[true, false, false, false, false, false, true, false, false, false, false, false, false, false, false] (aO HT_) ?_
             refine take_ (i := 1) (N := some 53) (v := ?_) (a' := ?_) #[true, true, false, false, false, false, true, false, false, false, false, false, false, false, false] rfl rfl (take_ofW HT_.out HW_.out (by kernel_rfl)) (fun _ _ _ h => h) (Or.inl ⟨by rfl, ?_⟩) hHeld ?_ ?_
             rotate_left
             ·rintro w' ⟨s0, s1, s2, s3, s4, s5, s6, s7, s8, s9, s10, s11, s12, s13, s14⟩
              go_simp
              with_reducible rfl
             rotate_left
             ·simp only [sP, i64_w, i32_w]
              rfl
             refine pS (i := 2) (N := some 54) #[true, true, true, false, false, false, true, false, false, false, false, false, false, false, false] (aO HT_) ?_
             refine take_ (i := 3) (N := some 55) (v := ?_) (a' := ?_) #[true, true, true, true, false, false, true, false, false, false, false, false, false, false, false] rfl rfl (take_ofW HT_.out HW_.out (by kernel_rfl)) (fun _ _ _ h => h) (Or.inl ⟨by rfl, ?_⟩) hHeld ?_ ?_
             rotate_left
             ·rintro w' ⟨s0, s1, s2, s3, s4, s5, s6, s7, s8, s9, s10, s11, s12, s13, s14⟩
              go_simp
              with_reducible rfl
             rotate_left
             ·simp only [sP, i64_w, i32_w]
              rfl
             refine take_ (i := 4) (N := some 56) (v := ?_) (a' := ?_) #[true, true, true, true, true, false, true, false, false, false, false, false, false, false, false] rfl rfl (take_ofW HT_.out HW_.out (by kernel_rfl)) (fun _ _ _ h => h) (Or.inl ⟨by rfl, ?_⟩) hHeld ?_ ?_
             rotate_left
             ·rintro w' ⟨s0, s1, s2, s3, s4, s5, s6, s7, s8, s9, s10, s11, s12, s13, s14⟩
              go_simp
              with_reducible rfl
             rotate_left
             ·simp only [sP, i64_w, i32_w]
              rfl
             refine take_ (i := 7) (N := some 59) (v := ?_) (a' := ?_) #[true, true, true, true, true, false, true, true, false, false, false, false, false, false, false] rfl rfl (take_ofW HT_.out HW_.out (by kernel_rfl)) (fun _ _ _ h => h) (Or.inl ⟨by rfl, ?_⟩) hHeld ?_ ?_
             rotate_left
             ·rintro w' ⟨s0, s1, s2, s3, s4, s5, s6, s7, s8, s9, s10, s11, s12, s13, s14⟩
              go_simp
              with_reducible rfl
             rotate_left
             ·simp only [sP, i64_w, i32_w]
              rfl
             refine pS (i := 8) (N := some 60) #[true, true, true, true, true, false, true, true, true, false, false, false, false, false, false] (aO HT_) ?_
             refine take_ (i := 9) (N := some 61) (v := ?_) (a' := ?_) #[true, true, true, true, true, false, true, true, true, true, false, false, false, false, false] rfl rfl (take_ofW HT_.out HW_.out (by kernel_rfl)) (fun _ _ _ h => h) (Or.inl ⟨by rfl, ?_⟩) hHeld ?_ ?_
             rotate_left
             ·rintro w' ⟨s0, s1, s2, s3, s4, s5, s6, s7, s8, s9, s10, s11, s12, s13, s14⟩
              go_simp
              with_reducible rfl
             rotate_left
             ·simp only [sP, i64_w, i32_w]
              rfl
             refine take_ (i := 10) (N := some 62) (v := ?_) (a' := ?_) #[true, true, true, true, true, false, true, true, true, true, true, false, false, false, false] rfl rfl (take_ofW HT_.out HW_.out (by kernel_rfl)) (fun _ _ _ h => h) (Or.inl ⟨by rfl, ?_⟩) hHeld ?_ ?_
             rotate_left
             ·rintro w' ⟨s0, s1, s2, s3, s4, s5, s6, s7, s8, s9, s10, s11, s12, s13, s14⟩
              go_simp
              with_reducible rfl
             rotate_left
             ·simp only [sP, i64_w, i32_w]
              rfl
             refine one_ (i := 5) (N := some 57) (bs 11 4) rfl rfl (one_of HT_.out (by kernel_rfl)) (by decide) (fun K hK => ?_)
             refine goes_ Tryd.func47 (by kernel_rfl) rfl #[.agg #[.int .i64 ((rd_T53 ((rd_T53 ((rd_T53 l0_2 0).f2) 0).f2) 1).f0), .int .i64 ((rd_T53 ((rd_T53 ((rd_T53 l0_2 0).f2) 0).f2) 1).f1), .slice A112_2 ((rd_T53 ((rd_T53 ((rd_T53 l0_2 0).f2) 0).f2) 1).f2).length c112_2], .agg #[.int .i64 ((rd_T53 l0_2 1).f0), .int .i64 ((rd_T53 l0_2 1).f1), .slice A110_2 ((rd_T53 l0_2 1).f2).length c110_2]] (by rfl) rfl rfl tA ?_
             with_reducible refine (spec_ldApp.calls ((rd_T53 ((rd_T53 ((rd_T53 l0_2 0).f2) 0).f2) 1).f0) ((rd_T53 ((rd_T53 ((rd_T53 l0_2 0).f2) 0).f2) 1).f1) (fun k_ => ((P0_2_ k_ ∨ w.heap.size ≤ k_) ∧ (k_ ≠ gb101 ∧ (k_ ≠ gb102 ∧ (k_ ≠ gb104 ∧ (k_ ≠ gb107 ∧ k_ ≠ gb111)))))) _ _ ((rd_T53 ((rd_T53 ((rd_T53 l0_2 0).f2) 0).f2) 1).f2) ((rd_T53 l0_2 1).f0) ((rd_T53 l0_2 1).f1) (fun k_ => ((P0_2_ k_ ∨ w.heap.size ≤ k_) ∧ (k_ ≠ gb101 ∧ (k_ ≠ gb102 ∧ (k_ ≠ gb104 ∧ (k_ ≠ gb107 ∧ k_ ≠ gb111)))))) _ _ ((rd_T53 l0_2 1).f2) t113 t114 t115 _ ?side1 ?side2 A46.out).mono ?_
             (case side1 => exact HL112_2.out)
             (case side2 => exact HL110_2.out)
             rintro e w76 ⟨v116, rfl, ho0, hb⟩
             have HS9_ := (hb.cell (World.block_lt_of_cell? _ _ (hHeld.2.2.2.2.2.2.2.2.2.1))).trans (hHeld.2.2.2.2.2.2.2.2.2.1)
             have HS10_ := (hb.cell (World.block_lt_of_cell? _ _ (hHeld.2.2.2.2.2.2.2.2.2.2.1))).trans (hHeld.2.2.2.2.2.2.2.2.2.2.1)
             have HS11_ := (hb.cell (World.block_lt_of_cell? _ _ (hHeld.2.2.2.2.2.2.2.2.2.2.2.1))).trans (hHeld.2.2.2.2.2.2.2.2.2.2.2.1)
             have HS12_ := (hb.cell (World.block_lt_of_cell? _ _ (hHeld.2.2.2.2.2.2.2.2.2.2.2.2.1))).trans (hHeld.2.2.2.2.2.2.2.2.2.2.2.2.1)
             have HS13_ := (hb.cell (World.block_lt_of_cell? _ _ (hHeld.2.2.2.2.2.2.2.2.2.2.2.2.2.1))).trans (hHeld.2.2.2.2.2.2.2.2.2.2.2.2.2.1)
             have HS14_ := (hb.cell (World.block_lt_of_cell? _ _ (hHeld.2.2.2.2.2.2.2.2.2.2.2.2.2.2))).trans (hHeld.2.2.2.2.2.2.2.2.2.2.2.2.2.2)
             refine ⟨_, rfl, ?_⟩
             have n_ := aJ (aK (Kd.V_elder' HO0_2.out (by first | exact Kd.N_base ho0 | exact Kd.R_base ho0) hb)) (aJ (aK (Kd.V_elder' HL103_2.out (by first | exact Kd.N_base ho0 | exact Kd.R_base ho0) hb)) (aJ (aK (Kd.V_elder' HL106_2.out (by first | exact Kd.N_base ho0 | exact Kd.R_base ho0) hb)) (aJ (aK (Kd.V_elder' HL109_2.out (by first | exact Kd.N_base ho0 | exact Kd.R_base ho0) hb)) (aJ (aK (Kd.V_elder' HL110_2.out (by first | exact Kd.N_base ho0 | exact Kd.R_base ho0) hb)) (aJ (aK (Kd.V_elder' HL112_2.out (by first | exact Kd.N_base ho0 | exact Kd.R_base ho0) hb)) (aJ (aK (Kd.V_elder' HL118_2.out (by first | exact Kd.N_base ho0 | exact Kd.R_base ho0) hb)) (aJ (aK (Kd.N_lower (Kd.N_mono (ok' := fun k_ => (P0_2_ k_ ∨ w.heap.size ≤ k_) ∧ k_ ≠ gb101 ∧ k_ ≠ gb102 ∧ k_ ≠ gb104 ∧ k_ ≠ gb107 ∧ k_ ≠ gb111) ho0 (fun k_ hk_ => ⟨Or.elim hk_ (fun hs_ => Or.elim hs_ (fun hs_ => hs_.1) (fun hs_ => hs_.1)) (fun hn_ => (.inr (Nat.le_trans (below_size (pH HB)) hn_))), Or.elim hk_ (fun hs_ => Or.elim hs_ (fun hs_ => hs_.2.1) (fun hs_ => hs_.2.1)) (fun hn_ => (Kd.freshB BK101.out k_ hn_)), Or.elim hk_ (fun hs_ => Or.elim hs_ (fun hs_ => hs_.2.2.1) (fun hs_ => hs_.2.2.1)) (fun hn_ => (Kd.freshB BK102.out k_ hn_)), Or.elim hk_ (fun hs_ => Or.elim hs_ (fun hs_ => hs_.2.2.2.1) (fun hs_ => hs_.2.2.2.1)) (fun hn_ => (Kd.freshB BK104.out k_ hn_)), Or.elim hk_ (fun hs_ => Or.elim hs_ (fun hs_ => hs_.2.2.2.2.1) (fun hs_ => hs_.2.2.2.2.1)) (fun hn_ => (Kd.freshB BK107.out k_ hn_)), Or.elim hk_ (fun hs_ => Or.elim hs_ (fun hs_ => hs_.2.2.2.2.2) (fun hs_ => hs_.2.2.2.2.2)) (fun hn_ => (Kd.freshB BK111.out k_ hn_))⟩)) (below_size (pH HB)))) (aJ (aK (blk_below BK101.out hb)) (aJ (aK (blk_below BK102.out hb)) (aJ (aK (blk_below BK104.out hb)) (aJ (aK (blk_below BK107.out hb)) (aJ (aK (blk_below BK111.out hb)) (aJ (aK (Kd.C_below (vC HL112_2.out) hb)) (aJ (aK (Kd.C_below (vC HL118_2.out) hb)) (aK (below_step (pH HB) hb))))))))))))))))
             clear HO0_2 HL103_2 HL106_2 HL109_2 HL110_2 HL112_2 HL118_2 BK101 BK102 BK104 BK107 BK111 HR112_2 HR118_2 HB
             obtain ⟨HO0_2, HL103_2, HL106_2, HL109_2, HL110_2, HL112_2, HL118_2, HO117, BK101, BK102, BK104, BK107, BK111, HR112_2, HR118_2, HB⟩ := n_
             (try clear hb)
             (try clear hb2)
             (try clear hk)
             (try clear hi)
             (try clear ho0)
             refine hK.out _ _ ⟨(blk_cell BK107.out 0).trans rfl, (blk_cell BK107.out 1).trans rfl, (blk_cell BK107.out 2).trans rfl, (blk_cell BK111.out 0).trans rfl, (blk_cell BK111.out 1).trans rfl, (blk_cell BK111.out 2).trans rfl, (blk_cell BK104.out 0).trans rfl, (blk_cell BK104.out 1).trans rfl, (blk_cell BK104.out 2).trans rfl, HS9_, HS10_, HS11_, HS12_, HS13_, HS14_⟩ (fun hHeld => ?_)
             clear hK K
             refine norm_ (a' := ?_) ?_ ?_
             rotate_left
             ·show Act.put _ (some 57) _ = _
              simp only [sP, i64_w, i32_w]
              rfl
             refine one_ (i := 11) (N := some 63) (bs 12 3) rfl rfl (one_of HT_.out (by kernel_rfl)) (by decide) (fun K hK => ?_)
             refine goes_ Tryd.func47 (by kernel_rfl) rfl #[.agg #[.int .i64 ((rd_T53 ((rd_T53 l0_2 0).f2) 1).f0), .int .i64 ((rd_T53 ((rd_T53 l0_2 0).f2) 1).f1), .slice A118_2 ((rd_T53 ((rd_T53 l0_2 0).f2) 1).f2).length c118_2], .agg #[.int .i64 ((rd_T53 l0_2 1).f0), .int .i64 ((rd_T53 l0_2 1).f1), .slice A110_2 ((rd_T53 l0_2 1).f2).length c110_2]] (by rfl) rfl rfl tA ?_
             with_reducible refine (spec_ldApp.calls ((rd_T53 ((rd_T53 l0_2 0).f2) 1).f0) ((rd_T53 ((rd_T53 l0_2 0).f2) 1).f1) (fun k_ => (((P0_2_ k_ ∨ w.heap.size ≤ k_) ∧ (k_ ≠ gb101 ∧ (k_ ≠ gb102 ∧ (k_ ≠ gb104 ∧ (k_ ≠ gb107 ∧ k_ ≠ gb111))))) ∧ some k_ ≠ (v116 : Value).ownBlock)) _ _ ((rd_T53 ((rd_T53 l0_2 0).f2) 1).f2) ((rd_T53 l0_2 1).f0) ((rd_T53 l0_2 1).f1) (fun k_ => (((P0_2_ k_ ∨ w.heap.size ≤ k_) ∧ (k_ ≠ gb101 ∧ (k_ ≠ gb102 ∧ (k_ ≠ gb104 ∧ (k_ ≠ gb107 ∧ k_ ≠ gb111))))) ∧ some k_ ≠ (v116 : Value).ownBlock)) _ _ ((rd_T53 l0_2 1).f2) t119 t120 t121 _ ?side1 ?side2 A48.out).mono ?_
             (case side1 => exact HL118_2.out)
             (case side2 => exact HL110_2.out)
             rintro e w77 ⟨v122, rfl, ho0, hb⟩
             have HS9_ := (hb.cell (World.block_lt_of_cell? _ _ (hHeld.2.2.2.2.2.2.2.2.2.1))).trans (hHeld.2.2.2.2.2.2.2.2.2.1)
             have HS10_ := (hb.cell (World.block_lt_of_cell? _ _ (hHeld.2.2.2.2.2.2.2.2.2.2.1))).trans (hHeld.2.2.2.2.2.2.2.2.2.2.1)
             have HS11_ := (hb.cell (World.block_lt_of_cell? _ _ (hHeld.2.2.2.2.2.2.2.2.2.2.2.1))).trans (hHeld.2.2.2.2.2.2.2.2.2.2.2.1)
             have HS12_ := (hb.cell (World.block_lt_of_cell? _ _ (hHeld.2.2.2.2.2.2.2.2.2.2.2.2.1))).trans (hHeld.2.2.2.2.2.2.2.2.2.2.2.2.1)
             have HS13_ := (hb.cell (World.block_lt_of_cell? _ _ (hHeld.2.2.2.2.2.2.2.2.2.2.2.2.2.1))).trans (hHeld.2.2.2.2.2.2.2.2.2.2.2.2.2.1)
             have HS14_ := (hb.cell (World.block_lt_of_cell? _ _ (hHeld.2.2.2.2.2.2.2.2.2.2.2.2.2.2))).trans (hHeld.2.2.2.2.2.2.2.2.2.2.2.2.2.2)
             refine ⟨_, rfl, ?_⟩
             have n_ := aJ (aK (Kd.V_elder' HO0_2.out (by first | exact Kd.N_base ho0 | exact Kd.R_base ho0) hb)) (aJ (aK (Kd.V_elder' HL103_2.out (by first | exact Kd.N_base ho0 | exact Kd.R_base ho0) hb)) (aJ (aK (Kd.V_elder' HL106_2.out (by first | exact Kd.N_base ho0 | exact Kd.R_base ho0) hb)) (aJ (aK (Kd.V_elder' HL109_2.out (by first | exact Kd.N_base ho0 | exact Kd.R_base ho0) hb)) (aJ (aK (Kd.V_elder' HL110_2.out (by first | exact Kd.N_base ho0 | exact Kd.R_base ho0) hb)) (aJ (aK (Kd.V_elder' HL112_2.out (by first | exact Kd.N_base ho0 | exact Kd.R_base ho0) hb)) (aJ (aK (Kd.V_elder' HL118_2.out (by first | exact Kd.N_base ho0 | exact Kd.R_base ho0) hb)) (aJ (aK (Kd.N_elder' HO117.out (by first | exact Kd.N_base ho0 | exact Kd.R_base ho0) hb)) (aJ (aK (Kd.N_lower (Kd.N_mono (ok' := fun k_ => (P0_2_ k_ ∨ w.heap.size ≤ k_) ∧ some k_ ≠ (v116 : Value).ownBlock ∧ k_ ≠ gb101 ∧ k_ ≠ gb102 ∧ k_ ≠ gb104 ∧ k_ ≠ gb107 ∧ k_ ≠ gb111) ho0 (fun k_ hk_ => ⟨Or.elim hk_ (fun hs_ => Or.elim hs_ (fun hs_ => hs_.1.1) (fun hs_ => hs_.1.1)) (fun hn_ => (.inr (Nat.le_trans (below_size (pH HB)) hn_))), Or.elim hk_ (fun hs_ => Or.elim hs_ (fun hs_ => hs_.2) (fun hs_ => hs_.2)) (fun hn_ => (Kd.fresh' (Kd.N_lt HO117.out) k_ hn_)), Or.elim hk_ (fun hs_ => Or.elim hs_ (fun hs_ => hs_.1.2.1) (fun hs_ => hs_.1.2.1)) (fun hn_ => (Kd.freshB BK101.out k_ hn_)), Or.elim hk_ (fun hs_ => Or.elim hs_ (fun hs_ => hs_.1.2.2.1) (fun hs_ => hs_.1.2.2.1)) (fun hn_ => (Kd.freshB BK102.out k_ hn_)), Or.elim hk_ (fun hs_ => Or.elim hs_ (fun hs_ => hs_.1.2.2.2.1) (fun hs_ => hs_.1.2.2.2.1)) (fun hn_ => (Kd.freshB BK104.out k_ hn_)), Or.elim hk_ (fun hs_ => Or.elim hs_ (fun hs_ => hs_.1.2.2.2.2.1) (fun hs_ => hs_.1.2.2.2.2.1)) (fun hn_ => (Kd.freshB BK107.out k_ hn_)), Or.elim hk_ (fun hs_ => Or.elim hs_ (fun hs_ => hs_.1.2.2.2.2.2) (fun hs_ => hs_.1.2.2.2.2.2)) (fun hn_ => (Kd.freshB BK111.out k_ hn_))⟩)) (below_size (pH HB)))) (aJ (aK (blk_below BK101.out hb)) (aJ (aK (blk_below BK102.out hb)) (aJ (aK (blk_below BK104.out hb)) (aJ (aK (blk_below BK107.out hb)) (aJ (aK (blk_below BK111.out hb)) (aJ (aK (Kd.C_below (vC HL112_2.out) hb)) (aJ (aK (Kd.C_below (vC HL118_2.out) hb)) (aK (below_step (pH HB) hb)))))))))))))))))
             clear HO0_2 HL103_2 HL106_2 HL109_2 HL110_2 HL112_2 HL118_2 HO117 BK101 BK102 BK104 BK107 BK111 HR112_2 HR118_2 HB
             obtain ⟨HO0_2, HL103_2, HL106_2, HL109_2, HL110_2, HL112_2, HL118_2, HO117, HO123, BK101, BK102, BK104, BK107, BK111, HR112_2, HR118_2, HB⟩ := n_
             (try clear hb)
             (try clear hb2)
             (try clear hk)
             (try clear hi)
             (try clear ho0)
             obtain ⟨Ao78, co78, eo78⟩ := Kd.N_slice HO117.out
             (first | subst eo78 | (injection eo78 with f1_ f2_ f3_; have f4_ := f1_.symm; have f5_ := f3_.symm; clear f1_ f2_ f3_; subst f4_; subst f5_))
             obtain ⟨Ao79, co79, eo79⟩ := Kd.N_slice HO123.out
             (first | subst eo79 | (injection eo79 with f1_ f2_ f3_; have f4_ := f1_.symm; have f5_ := f3_.symm; clear f1_ f2_ f3_; subst f4_; subst f5_))
             refine hK.out _ _ ⟨(blk_cell BK107.out 0).trans rfl, (blk_cell BK107.out 1).trans rfl, (blk_cell BK107.out 2).trans rfl, (blk_cell BK111.out 0).trans rfl, (blk_cell BK111.out 1).trans rfl, (blk_cell BK111.out 2).trans rfl, (blk_cell BK104.out 0).trans rfl, (blk_cell BK104.out 1).trans rfl, (blk_cell BK104.out 2).trans rfl, HS9_, HS10_, HS11_, HS12_, HS13_, HS14_⟩ (fun hHeld => ?_)
             clear hK K
             refine norm_ (a' := ?_) ?_ ?_
             rotate_left
             ·show Act.put _ (some 63) _ = _
              simp only [sP, i64_w, i32_w]
              rfl
             refine one_ (i := 12) (N := some 64) (bs 13 2) rfl rfl (one_of HT_.out (by kernel_rfl)) (by decide) (fun K hK => ?_)
             refine goes_ Tryd.func47 (by kernel_rfl) rfl #[.agg #[.int .i64 t113, .int .i64 t114, .slice Ao78 t115.length co78], .agg #[.int .i64 t119, .int .i64 t120, .slice Ao79 t121.length co79]] (by rfl) rfl rfl tA ?_
             with_reducible refine (spec_ldApp.calls t113 t114 (fun k_ => (((P0_2_ k_ ∨ w.heap.size ≤ k_) ∧ (k_ ≠ gb101 ∧ (k_ ≠ gb102 ∧ (k_ ≠ gb104 ∧ (k_ ≠ gb107 ∧ k_ ≠ gb111))))) ∧ some k_ ≠ (.slice Ao79 t121.length co79 : Value).ownBlock)) _ _ t115 t119 t120 (fun k_ => ((P0_2_ k_ ∨ w.heap.size ≤ k_) ∧ (some k_ ≠ (.slice Ao78 t115.length co78 : Value).ownBlock ∧ (k_ ≠ gb101 ∧ (k_ ≠ gb102 ∧ (k_ ≠ gb104 ∧ (k_ ≠ gb107 ∧ k_ ≠ gb111))))))) _ _ t121 t124 t125 t126 _ ?side1 ?side2 A49.out).mono ?_
             (case side1 => exact Kd.N_V (HO117.out))
             (case side2 => exact Kd.N_V (HO123.out))
             rintro e w80 ⟨v127, rfl, ho0, hb⟩
             have HS9_ := (hb.cell (World.block_lt_of_cell? _ _ (hHeld.2.2.2.2.2.2.2.2.2.1))).trans (hHeld.2.2.2.2.2.2.2.2.2.1)
             have HS10_ := (hb.cell (World.block_lt_of_cell? _ _ (hHeld.2.2.2.2.2.2.2.2.2.2.1))).trans (hHeld.2.2.2.2.2.2.2.2.2.2.1)
             have HS11_ := (hb.cell (World.block_lt_of_cell? _ _ (hHeld.2.2.2.2.2.2.2.2.2.2.2.1))).trans (hHeld.2.2.2.2.2.2.2.2.2.2.2.1)
             have HS12_ := (hb.cell (World.block_lt_of_cell? _ _ (hHeld.2.2.2.2.2.2.2.2.2.2.2.2.1))).trans (hHeld.2.2.2.2.2.2.2.2.2.2.2.2.1)
             have HS13_ := (hb.cell (World.block_lt_of_cell? _ _ (hHeld.2.2.2.2.2.2.2.2.2.2.2.2.2.1))).trans (hHeld.2.2.2.2.2.2.2.2.2.2.2.2.2.1)
             have HS14_ := (hb.cell (World.block_lt_of_cell? _ _ (hHeld.2.2.2.2.2.2.2.2.2.2.2.2.2.2))).trans (hHeld.2.2.2.2.2.2.2.2.2.2.2.2.2.2)
             refine ⟨_, rfl, ?_⟩
             have n_ := aJ (aK (Kd.V_elder' HO0_2.out (by first | exact Kd.N_base ho0 | exact Kd.R_base ho0) hb)) (aJ (aK (Kd.V_elder' HL103_2.out (by first | exact Kd.N_base ho0 | exact Kd.R_base ho0) hb)) (aJ (aK (Kd.V_elder' HL106_2.out (by first | exact Kd.N_base ho0 | exact Kd.R_base ho0) hb)) (aJ (aK (Kd.V_elder' HL109_2.out (by first | exact Kd.N_base ho0 | exact Kd.R_base ho0) hb)) (aJ (aK (Kd.V_elder' HL110_2.out (by first | exact Kd.N_base ho0 | exact Kd.R_base ho0) hb)) (aJ (aK (Kd.V_elder' HL112_2.out (by first | exact Kd.N_base ho0 | exact Kd.R_base ho0) hb)) (aJ (aK (Kd.V_elder' HL118_2.out (by first | exact Kd.N_base ho0 | exact Kd.R_base ho0) hb)) (aJ (aK (Kd.N_elder' HO117.out (by first | exact Kd.N_base ho0 | exact Kd.R_base ho0) hb)) (aJ (aK (Kd.N_elder' HO123.out (by first | exact Kd.N_base ho0 | exact Kd.R_base ho0) hb)) (aJ (aK (Kd.N_lower (Kd.N_mono (ok' := fun k_ => (P0_2_ k_ ∨ w.heap.size ≤ k_) ∧ k_ ≠ gb101 ∧ k_ ≠ gb102 ∧ k_ ≠ gb104 ∧ k_ ≠ gb107 ∧ k_ ≠ gb111) ho0 (fun k_ hk_ => ⟨Or.elim hk_ (fun hs_ => Or.elim hs_ (fun hs_ => hs_.1.1) (fun hs_ => hs_.1)) (fun hn_ => (.inr (Nat.le_trans (below_size (pH HB)) hn_))), Or.elim hk_ (fun hs_ => Or.elim hs_ (fun hs_ => hs_.1.2.1) (fun hs_ => hs_.2.2.1)) (fun hn_ => (Kd.freshB BK101.out k_ hn_)), Or.elim hk_ (fun hs_ => Or.elim hs_ (fun hs_ => hs_.1.2.2.1) (fun hs_ => hs_.2.2.2.1)) (fun hn_ => (Kd.freshB BK102.out k_ hn_)), Or.elim hk_ (fun hs_ => Or.elim hs_ (fun hs_ => hs_.1.2.2.2.1) (fun hs_ => hs_.2.2.2.2.1)) (fun hn_ => (Kd.freshB BK104.out k_ hn_)), Or.elim hk_ (fun hs_ => Or.elim hs_ (fun hs_ => hs_.1.2.2.2.2.1) (fun hs_ => hs_.2.2.2.2.2.1)) (fun hn_ => (Kd.freshB BK107.out k_ hn_)), Or.elim hk_ (fun hs_ => Or.elim hs_ (fun hs_ => hs_.1.2.2.2.2.2) (fun hs_ => hs_.2.2.2.2.2.2)) (fun hn_ => (Kd.freshB BK111.out k_ hn_))⟩)) (below_size (pH HB)))) (aJ (aK (blk_below BK101.out hb)) (aJ (aK (blk_below BK102.out hb)) (aJ (aK (blk_below BK104.out hb)) (aJ (aK (blk_below BK107.out hb)) (aJ (aK (blk_below BK111.out hb)) (aJ (aK (Kd.C_below (vC HL112_2.out) hb)) (aJ (aK (Kd.C_below (vC HL118_2.out) hb)) (aK (below_step (pH HB) hb))))))))))))))))))
             clear HO0_2 HL103_2 HL106_2 HL109_2 HL110_2 HL112_2 HL118_2 HO117 HO123 BK101 BK102 BK104 BK107 BK111 HR112_2 HR118_2 HB
             obtain ⟨HO0_2, HL103_2, HL106_2, HL109_2, HL110_2, HL112_2, HL118_2, HO117, HO123, HO128, BK101, BK102, BK104, BK107, BK111, HR112_2, HR118_2, HB⟩ := n_
             (try clear hb)
             (try clear hb2)
             (try clear hk)
             (try clear hi)
             (try clear ho0)
             obtain ⟨Ao83, co83, eo83⟩ := Kd.N_slice HO128.out
             (first | subst eo83 | (injection eo83 with f1_ f2_ f3_; have f4_ := f1_.symm; have f5_ := f3_.symm; clear f1_ f2_ f3_; subst f4_; subst f5_))
             refine hK.out _ _ ⟨(blk_cell BK107.out 0).trans rfl, (blk_cell BK107.out 1).trans rfl, (blk_cell BK107.out 2).trans rfl, (blk_cell BK111.out 0).trans rfl, (blk_cell BK111.out 1).trans rfl, (blk_cell BK111.out 2).trans rfl, (blk_cell BK104.out 0).trans rfl, (blk_cell BK104.out 1).trans rfl, (blk_cell BK104.out 2).trans rfl, HS9_, HS10_, HS11_, HS12_, HS13_, HS14_⟩ (fun hHeld => ?_)
             clear hK K
             refine norm_ (a' := ?_) ?_ ?_
             rotate_left
             ·show Act.put _ (some 64) _ = _
              simp only [sP, i64_w, i32_w]
              rfl
             refine one_ (i := 13) (N := none) (bs 14 1) rfl rfl (one_of HT_.out (by kernel_rfl)) (by decide) (fun K hK => ?_)
             have hs81 : w80.cell? ⟨gb102, 0, none⟩ = some (.int .i64 0) := (blk_cell BK102.out 0).trans rfl
             have hfs81 := blk_frozen BK102.out 0
             have hns81_0 := NB101_102.out
             have hns81_2 := NB104_102.out
             have hns81_3 := NB107_102.out
             have hns81_4 := NB111_102.out
             have hms81_0 := NB102_101.out
             have hms81_2 := NB102_104.out
             have hms81_3 := NB102_107.out
             have hms81_4 := NB102_111.out
             have hs82 : w80.cell? ⟨gb102, 1, none⟩ = some (.int .i64 0) := (blk_cell BK102.out 1).trans rfl
             have hfs82 := blk_frozen BK102.out 1
             have hns82_0 := NB101_102.out
             have hns82_2 := NB104_102.out
             have hns82_3 := NB107_102.out
             have hns82_4 := NB111_102.out
             have hms82_0 := NB102_101.out
             have hms82_2 := NB102_104.out
             have hms82_3 := NB102_107.out
             have hms82_4 := NB102_111.out
             have hs84 : w80.cell? ⟨gb102, 2, none⟩ = some (.slice none 0 0) := (blk_cell BK102.out 2).trans rfl
             have hfs84 := blk_frozen BK102.out 2
             have hns84_0 := NB101_102.out
             have hns84_2 := NB104_102.out
             have hns84_3 := NB107_102.out
             have hns84_4 := NB111_102.out
             have hms84_0 := NB102_101.out
             have hms84_2 := NB102_104.out
             have hms84_3 := NB102_107.out
             have hms84_4 := NB102_111.out
             refine skip_ (w1 := ?_) (by rfl) rfl ?_ ?_
             rotate_left
             ·go_simp
              rfl
             refine hK.out _ _ ⟨(cF3 NB107_102.out (hHeld.1)), (cF3 NB107_102.out (hHeld.2.1)), (cF3 NB107_102.out (hHeld.2.2.1)), (cF3 NB111_102.out (hHeld.2.2.2.1)), (cF3 NB111_102.out (hHeld.2.2.2.2.1)), (cF3 NB111_102.out (hHeld.2.2.2.2.2.1)), (cF3 NB104_102.out (hHeld.2.2.2.2.2.2.1)), (cF3 NB104_102.out (hHeld.2.2.2.2.2.2.2.1)), (cF3 NB104_102.out (hHeld.2.2.2.2.2.2.2.2.1)), (cF3 (by first | exact Kd.own_blk (Kd.V_away HL106_2.out (fun _ hk => hk.1.1.1.2.2.1)) | (rw [add_block]; exact Kd.own_blk (Kd.V_away HL106_2.out (fun _ hk => hk.1.1.1.2.2.1))) | (show (Addr.add _ _).block ≠ _; rw [add_block]; exact Kd.own_blk (Kd.V_away HL106_2.out (fun _ hk => hk.1.1.1.2.2.1))) | (dsimp only; exact Kd.own_blk (Kd.V_away HL106_2.out (fun _ hk => hk.1.1.1.2.2.1)))) (hHeld.2.2.2.2.2.2.2.2.2.1)), (cF3 (by first | exact Kd.own_blk (Kd.V_away HL106_2.out (fun _ hk => hk.1.1.1.2.2.1)) | (rw [add_block]; exact Kd.own_blk (Kd.V_away HL106_2.out (fun _ hk => hk.1.1.1.2.2.1))) | (show (Addr.add _ _).block ≠ _; rw [add_block]; exact Kd.own_blk (Kd.V_away HL106_2.out (fun _ hk => hk.1.1.1.2.2.1))) | (dsimp only; exact Kd.own_blk (Kd.V_away HL106_2.out (fun _ hk => hk.1.1.1.2.2.1)))) (hHeld.2.2.2.2.2.2.2.2.2.2.1)), (cF3 (by first | exact Kd.own_blk (Kd.V_away HL106_2.out (fun _ hk => hk.1.1.1.2.2.1)) | (rw [add_block]; exact Kd.own_blk (Kd.V_away HL106_2.out (fun _ hk => hk.1.1.1.2.2.1))) | (show (Addr.add _ _).block ≠ _; rw [add_block]; exact Kd.own_blk (Kd.V_away HL106_2.out (fun _ hk => hk.1.1.1.2.2.1))) | (dsimp only; exact Kd.own_blk (Kd.V_away HL106_2.out (fun _ hk => hk.1.1.1.2.2.1)))) (hHeld.2.2.2.2.2.2.2.2.2.2.2.1)), (cF3 (by first | exact Kd.own_blk (Kd.V_away HL103_2.out (fun _ hk => hk.1.1.1.2.2.1)) | (rw [add_block]; exact Kd.own_blk (Kd.V_away HL103_2.out (fun _ hk => hk.1.1.1.2.2.1))) | (show (Addr.add _ _).block ≠ _; rw [add_block]; exact Kd.own_blk (Kd.V_away HL103_2.out (fun _ hk => hk.1.1.1.2.2.1))) | (dsimp only; exact Kd.own_blk (Kd.V_away HL103_2.out (fun _ hk => hk.1.1.1.2.2.1)))) (hHeld.2.2.2.2.2.2.2.2.2.2.2.2.1)), (cF3 (by first | exact Kd.own_blk (Kd.V_away HL103_2.out (fun _ hk => hk.1.1.1.2.2.1)) | (rw [add_block]; exact Kd.own_blk (Kd.V_away HL103_2.out (fun _ hk => hk.1.1.1.2.2.1))) | (show (Addr.add _ _).block ≠ _; rw [add_block]; exact Kd.own_blk (Kd.V_away HL103_2.out (fun _ hk => hk.1.1.1.2.2.1))) | (dsimp only; exact Kd.own_blk (Kd.V_away HL103_2.out (fun _ hk => hk.1.1.1.2.2.1)))) (hHeld.2.2.2.2.2.2.2.2.2.2.2.2.2.1)), (cF3 (by first | exact Kd.own_blk (Kd.V_away HL103_2.out (fun _ hk => hk.1.1.1.2.2.1)) | (rw [add_block]; exact Kd.own_blk (Kd.V_away HL103_2.out (fun _ hk => hk.1.1.1.2.2.1))) | (show (Addr.add _ _).block ≠ _; rw [add_block]; exact Kd.own_blk (Kd.V_away HL103_2.out (fun _ hk => hk.1.1.1.2.2.1))) | (dsimp only; exact Kd.own_blk (Kd.V_away HL103_2.out (fun _ hk => hk.1.1.1.2.2.1)))) (hHeld.2.2.2.2.2.2.2.2.2.2.2.2.2.2))⟩ (fun hHeld => ?_)
             clear hK K
             refine pS (i := 14) (N := some 3) (bs 15 0) (aO HT_) ?_
             refine done_ (done_of HT_.out (by kernel_rfl)) ?_
             try go_wp2
             refine bodyPost_ret (results_ct rfl _ _ gb102 53 #[.int .i64 t124, .int .i64 t125, .slice Ao83 t126.length co83] (0, 0) _ rfl (p3 BK102) Tryd.underlying53 rfl (by kernel_rfl)) rfl ?_
             exact ⟨_, eW, Kd.N_V (by (with_reducible repeat (first | apply Kd.N_alloc | apply Kd.N_drewN | apply Kd.N_drew)); exact Kd.N_mono (nF3 gb102 (Kd.N_mono HO128.out (fun k_ hk => (⟨hk, hk.2.2.1⟩ : _ ∧ k_ ≠ gb102))) (fun _ hk => hk.2)) (fun _ hk => hk.1.1)), pH HB⟩
            ·rw [if_neg c47] at H
             exact absurd H (by simp)
           ·rw [if_neg c45] at H
            exact absurd H (by simp)
          ·rw [if_neg c44] at H
           exact absurd H (by simp)
         ·rw [if_neg c43] at H
          have c43b0 : (((rd_T53 ((rd_T53 ((rd_T53 l0_2 0).f2) 0).f2) 0).f0) == 3) = false := beq_eq_false_iff_ne.mpr c43
          have c43b1 : (((rd_T53 ((rd_T53 ((rd_T53 l0_2 0).f2) 0).f2) 0).f0) != 3) = true := bne_iff_ne.mpr c43
          simp only [Option.some.injEq, Prod.mk.injEq] at H
          obtain ⟨rfl, rfl, rfl, rfl⟩ := H
          go_enter Tryd.func44, Tryd.ntmps44
          go_wp2_with (first | ((with_reducible refine gate_dst (N := 1) rfl ?_); refine bE (N := 1) (cs := #[.int .i64 a0_0, .int .i64 a0_1, .slice A0_2 l0_2.length c0_2]) (t := 53) ?_; intro gb101 hg w85 hbox hb; have GW101 := qw HB hg; have GE101 := qw HB hg; replace HO0_2 := qv HO0_2 hg hb; have BK101 := aK hbox; replace HB := qs HB hb; clear hb hbox hg) | ((with_reducible refine gate_dst (N := 2) rfl ?_); refine bE (N := 2) (cs := #[.int .i64 0, .int .i64 0, .slice none 0 0]) (t := 53) ?_; intro gb102 hg w86 hbox hb; have GW102 := qw HB hg; have GE102 := qw HB hg; have NB101_102 := ql BK101 hg; have NB102_101 := qg BK101 hg; replace HO0_2 := qv HO0_2 hg hb; replace BK101 := qb BK101 hb; have BK102 := aK hbox; replace HB := qs HB hb; clear hb hbox hg; have hnb87 := NB101_102.out; have hnc87 := NB102_101.out; obtain ⟨hcz88_0, hcz88_1, hcz88_2, hfz88_0, hfz88_1, hfz88_2⟩ := cA3 BK101; have p103 : 0 ≤ (0 : Int) := (by omega); have q103 : 0 < (l0_2.length : Int) := dA; obtain ⟨ad103, A103_2, c103_2, e103, hx103_0, hx103_1, hx103_2, hl103_2, hi103_2⟩ := at_T53 (Kd.V_reads' HO0_2.out).2.2 0 p103 q103; cases e103; obtain ⟨ce103, hce103, hMe103, hcc103⟩ := Kd.V_get HO0_2.out z53 0 p103 (by first | exact q103 | exact dA | (have e_ := (Kd.V_reads' HO0_2.out).1; omega)); obtain ⟨ua103_2, uc103_2, rfl, ul103_2, ge103_2⟩ := k53_openF hMe103; have hv103_2 := hcc103 2 _ rfl; rw [add_field _ _ 2 (by omega)] at hv103_2; replace hv103_2 := Option.some.inj (hv103_2.symm.trans hx103_2); injection hv103_2 with hva_ hvn_ hvc_; rw [hva_] at ge103_2; rw [hvc_] at ul103_2; have HL103_2 := aK (show Kd.V k53 53 _ w.heap.size _ _ ((rd_T53 l0_2 0).f2) from Kd.V_mk ul103_2 ge103_2); clear hva_ hvn_ hvc_ ge103_2 ul103_2; clear hcc103 hce103; have qi103 : (0 < l0_2.length) = True := eq_true (by omega); (try rw [show ((0 : Int)).toNat = 0 from rfl] at hx103_0); (try rw [show 0 * 3 = 0 from rfl] at hx103_0); (try rw [Addr.add_zero'] at hx103_0); (try rw [show ((0 : Int)).toNat = 0 from rfl] at hx103_1); (try rw [show 0 * 3 = 0 from rfl] at hx103_1); (try rw [Addr.add_zero'] at hx103_1); (try rw [show ((0 : Int)).toNat = 0 from rfl] at hx103_2); (try rw [show 0 * 3 = 0 from rfl] at hx103_2); (try rw [Addr.add_zero'] at hx103_2); have HR103_2 := aK hi103_2; have HC103_2 := aK hl103_2; clear hi103_2 hl103_2; replace p103 := eq_true p103; replace q103 := eq_true q103) | ((with_reducible refine gate_dst (N := 4) rfl ?_); refine bE (N := 4) (cs := #[.int .i64 0, .int .i64 0, .slice none 0 0]) (t := 53) ?_; intro gb104 hg w89 hbox hb; have GW104 := qw HB hg; have GE104 := qw HB hg; have NB101_104 := ql BK101 hg; have NB104_101 := qg BK101 hg; have NB102_104 := ql BK102 hg; have NB104_102 := qg BK102 hg; replace HR103_2 := qr HL103_2 hb; replace HO0_2 := qv HO0_2 hg hb; replace HL103_2 := qv HL103_2 hg hb; replace BK101 := qb BK101 hb; replace BK102 := qb BK102 hb; have BK104 := aK hbox; replace HB := qs HB hb; clear hb hbox hg; have hnb90 := NB104_101.out; have hnc90 := NB101_104.out; have hnb91 := NB104_102.out; have hnc91 := NB102_104.out; obtain ⟨hcz92_0, hcz92_1, hcz92_2, hfz92_0, hfz92_1, hfz92_2⟩ := cA3 BK104) | ((with_reducible refine gate_store (t := 53) (p := 4) rfl ?_); refine store_event (t := 53) (p := 4) (v := ?vo_w93) (w1 := (((w89.setCell ⟨gb104, 0, none⟩ (.int .i64 ((rd_T53 l0_2 0).f0))).setCell ⟨gb104, 1, none⟩ (.int .i64 ((rd_T53 l0_2 0).f1))).setCell ⟨gb104, 2, none⟩ (.slice A103_2 ((rd_T53 l0_2 0).f2).length c103_2))) ?hg ?ho ?hn ?hr ?_; (case ho => rfl); (case hg => rfl); (case hn => rfl); (case hr => first | (go_simp; done) | (go_simp; rfl)); intro w93 hw; have n_ := aJ (show Aside0 (Kd.V k53 53 w93 w.heap.size (fun k_ => (P0_2_ k_ ∨ w.heap.size ≤ k_) ∧ k_ ≠ gb101 ∧ k_ ≠ gb102 ∧ k_ ≠ gb104) (.slice (some ad103) l0_2.length c0_2) l0_2) from ⟨(by rw [hw]; exact (by (with_reducible repeat (first | apply Kd.V_alloc | apply Kd.V_drewN | apply Kd.V_drew)); exact Kd.V_mono (vF3 gb104 (Kd.V_mono HO0_2.out (fun k_ hk => (⟨hk, hk.2⟩ : _ ∧ k_ ≠ gb104))) (fun _ hk => hk.2)) (fun _ hk => ⟨hk.1.1.1.1, ⟨hk.1.1.1.2, ⟨hk.1.1.2, hk.1.2⟩⟩⟩)))⟩) (aJ (show Aside0 (Kd.V k53 53 w93 w.heap.size (fun k_ => (P0_2_ k_ ∨ w.heap.size ≤ k_) ∧ k_ ≠ gb101 ∧ k_ ≠ gb102 ∧ k_ ≠ gb104) (.slice A103_2 ((rd_T53 l0_2 0).f2).length c103_2) ((rd_T53 l0_2 0).f2)) from ⟨(by rw [hw]; exact (by (with_reducible repeat (first | apply Kd.V_alloc | apply Kd.V_drewN | apply Kd.V_drew)); exact Kd.V_mono (vF3 gb104 (Kd.V_mono HL103_2.out (fun k_ hk => (⟨hk, hk.2⟩ : _ ∧ k_ ≠ gb104))) (fun _ hk => hk.2)) (fun _ hk => ⟨hk.1.1.1.1, ⟨hk.1.1.1.2, ⟨hk.1.1.2, hk.1.2⟩⟩⟩)))⟩) (aJ (show Aside0 (w93.heap[gb101]? = some (.cells #[.int .i64 a0_0, .int .i64 a0_1, .slice (some ad103) l0_2.length c0_2] 53 (0, 0))) from ⟨(by rw [hw]; exact (by (repeat first | with_reducible apply zN | with_reducible apply zD | with_reducible apply zA | refine blk_far ?_ NB101_104.out _); exact BK101.out))⟩) (aJ (show Aside0 (w93.heap[gb102]? = some (.cells #[.int .i64 0, .int .i64 0, .slice none 0 0] 53 (0, 0))) from ⟨(by rw [hw]; exact (by (repeat first | with_reducible apply zN | with_reducible apply zD | with_reducible apply zA | refine blk_far ?_ NB102_104.out _); exact BK102.out))⟩) (aJ (show Aside0 (w93.heap[gb104]? = some (.cells #[.int .i64 ((rd_T53 l0_2 0).f0), .int .i64 ((rd_T53 l0_2 0).f1), .slice A103_2 ((rd_T53 l0_2 0).f2).length c103_2] 53 (0, 0))) from ⟨(by rw [hw]; exact (p3 BK104))⟩) (show Aside0 (Below w.heap.size w w93) from ⟨(by rw [hw]; exact (pH HB))⟩))))); clear hw HO0_2 HL103_2 BK101 BK102 BK104 HB; obtain ⟨HO0_2, HL103_2, BK101, BK102, BK104, HB⟩ := n_; obtain ⟨hcz94_0, hcz94_1, hcz94_2, hfz94_0, hfz94_1, hfz94_2⟩ := cA3 BK104; have p106 : 0 ≤ (0 : Int) := (by omega); have q106 : 0 < (((rd_T53 l0_2 0).f2).length : Int) := dA; obtain ⟨ad106, A106_2, c106_2, e106, hx106_0, hx106_1, hx106_2, hl106_2, hi106_2⟩ := at_T53 (Kd.V_reads' HL103_2.out).2.2 0 p106 q106; cases e106; obtain ⟨ce106, hce106, hMe106, hcc106⟩ := Kd.V_get HL103_2.out z53 0 p106 (by first | exact q106 | exact dA | (have e_ := (Kd.V_reads' HL103_2.out).1; omega)); obtain ⟨ua106_2, uc106_2, rfl, ul106_2, ge106_2⟩ := k53_openF hMe106; have hv106_2 := hcc106 2 _ rfl; rw [add_field _ _ 2 (by omega)] at hv106_2; replace hv106_2 := Option.some.inj (hv106_2.symm.trans hx106_2); injection hv106_2 with hva_ hvn_ hvc_; rw [hva_] at ge106_2; rw [hvc_] at ul106_2; have HL106_2 := aK (show Kd.V k53 53 _ w.heap.size _ _ ((rd_T53 ((rd_T53 l0_2 0).f2) 0).f2) from Kd.V_mk ul106_2 ge106_2); clear hva_ hvn_ hvc_ ge106_2 ul106_2; clear hcc106 hce106; have qi106 : (0 < ((rd_T53 l0_2 0).f2).length) = True := eq_true (by omega); (try rw [show ((0 : Int)).toNat = 0 from rfl] at hx106_0); (try rw [show 0 * 3 = 0 from rfl] at hx106_0); (try rw [Addr.add_zero'] at hx106_0); (try rw [show ((0 : Int)).toNat = 0 from rfl] at hx106_1); (try rw [show 0 * 3 = 0 from rfl] at hx106_1); (try rw [Addr.add_zero'] at hx106_1); (try rw [show ((0 : Int)).toNat = 0 from rfl] at hx106_2); (try rw [show 0 * 3 = 0 from rfl] at hx106_2); (try rw [Addr.add_zero'] at hx106_2); have HR106_2 := aK hi106_2; have HC106_2 := aK hl106_2; clear hi106_2 hl106_2; replace p106 := eq_true p106; replace q106 := eq_true q106) | ((with_reducible refine gate_dst (N := 5) rfl ?_); refine bE (N := 5) (cs := #[.int .i64 0, .int .i64 0, .slice none 0 0]) (t := 53) ?_; intro gb107 hg w95 hbox hb; have GW107 := qw HB hg; have GE107 := qw HB hg; have NB101_107 := ql BK101 hg; have NB107_101 := qg BK101 hg; have NB102_107 := ql BK102 hg; have NB107_102 := qg BK102 hg; have NB104_107 := ql BK104 hg; have NB107_104 := qg BK104 hg; replace HR103_2 := qr HL103_2 hb; replace HR106_2 := qr HL106_2 hb; replace HO0_2 := qv HO0_2 hg hb; replace HL103_2 := qv HL103_2 hg hb; replace HL106_2 := qv HL106_2 hg hb; replace BK101 := qb BK101 hb; replace BK102 := qb BK102 hb; replace BK104 := qb BK104 hb; have BK107 := aK hbox; replace HB := qs HB hb; clear hb hbox hg; have hnb96 := NB107_101.out; have hnc96 := NB101_107.out; have hnb97 := NB107_102.out; have hnc97 := NB102_107.out; have hnb98 := NB107_104.out; have hnc98 := NB104_107.out; obtain ⟨hcz99_0, hcz99_1, hcz99_2, hfz99_0, hfz99_1, hfz99_2⟩ := cA3 BK107) | ((with_reducible refine gate_store (t := 53) (p := 5) rfl ?_); refine store_event (t := 53) (p := 5) (v := ?vo_w100) (w1 := (((w95.setCell ⟨gb107, 0, none⟩ (.int .i64 ((rd_T53 ((rd_T53 l0_2 0).f2) 0).f0))).setCell ⟨gb107, 1, none⟩ (.int .i64 ((rd_T53 ((rd_T53 l0_2 0).f2) 0).f1))).setCell ⟨gb107, 2, none⟩ (.slice A106_2 ((rd_T53 ((rd_T53 l0_2 0).f2) 0).f2).length c106_2))) ?hg ?ho ?hn ?hr ?_; (case ho => rfl); (case hg => rfl); (case hn => rfl); (case hr => first | (go_simp; done) | (go_simp; rfl)); intro w100 hw; have n_ := aJ (show Aside0 (Kd.V k53 53 w100 w.heap.size (fun k_ => (P0_2_ k_ ∨ w.heap.size ≤ k_) ∧ k_ ≠ gb101 ∧ k_ ≠ gb102 ∧ k_ ≠ gb104 ∧ k_ ≠ gb107) (.slice (some ad103) l0_2.length c0_2) l0_2) from ⟨(by rw [hw]; exact (by (with_reducible repeat (first | apply Kd.V_alloc | apply Kd.V_drewN | apply Kd.V_drew)); exact Kd.V_mono (vF3 gb107 (Kd.V_mono HO0_2.out (fun k_ hk => (⟨hk, hk.2⟩ : _ ∧ k_ ≠ gb107))) (fun _ hk => hk.2)) (fun _ hk => ⟨hk.1.1.1, ⟨hk.1.1.2.1, ⟨hk.1.1.2.2.1, ⟨hk.1.1.2.2.2, hk.1.2⟩⟩⟩⟩)))⟩) (aJ (show Aside0 (Kd.V k53 53 w100 w.heap.size (fun k_ => (P0_2_ k_ ∨ w.heap.size ≤ k_) ∧ k_ ≠ gb101 ∧ k_ ≠ gb102 ∧ k_ ≠ gb104 ∧ k_ ≠ gb107) (.slice (some ad106) ((rd_T53 l0_2 0).f2).length c103_2) ((rd_T53 l0_2 0).f2)) from ⟨(by rw [hw]; exact (by (with_reducible repeat (first | apply Kd.V_alloc | apply Kd.V_drewN | apply Kd.V_drew)); exact Kd.V_mono (vF3 gb107 (Kd.V_mono HL103_2.out (fun k_ hk => (⟨hk, hk.2⟩ : _ ∧ k_ ≠ gb107))) (fun _ hk => hk.2)) (fun _ hk => ⟨hk.1.1.1, ⟨hk.1.1.2.1, ⟨hk.1.1.2.2.1, ⟨hk.1.1.2.2.2, hk.1.2⟩⟩⟩⟩)))⟩) (aJ (show Aside0 (Kd.V k53 53 w100 w.heap.size (fun k_ => (P0_2_ k_ ∨ w.heap.size ≤ k_) ∧ k_ ≠ gb101 ∧ k_ ≠ gb102 ∧ k_ ≠ gb104 ∧ k_ ≠ gb107) (.slice A106_2 ((rd_T53 ((rd_T53 l0_2 0).f2) 0).f2).length c106_2) ((rd_T53 ((rd_T53 l0_2 0).f2) 0).f2)) from ⟨(by rw [hw]; exact (by (with_reducible repeat (first | apply Kd.V_alloc | apply Kd.V_drewN | apply Kd.V_drew)); exact Kd.V_mono (vF3 gb107 (Kd.V_mono HL106_2.out (fun k_ hk => (⟨hk, hk.2⟩ : _ ∧ k_ ≠ gb107))) (fun _ hk => hk.2)) (fun _ hk => ⟨hk.1.1.1, ⟨hk.1.1.2.1, ⟨hk.1.1.2.2.1, ⟨hk.1.1.2.2.2, hk.1.2⟩⟩⟩⟩)))⟩) (aJ (show Aside0 (w100.heap[gb101]? = some (.cells #[.int .i64 a0_0, .int .i64 a0_1, .slice (some ad103) l0_2.length c0_2] 53 (0, 0))) from ⟨(by rw [hw]; exact (by (repeat first | with_reducible apply zN | with_reducible apply zD | with_reducible apply zA | refine blk_far ?_ NB101_107.out _); exact BK101.out))⟩) (aJ (show Aside0 (w100.heap[gb102]? = some (.cells #[.int .i64 0, .int .i64 0, .slice none 0 0] 53 (0, 0))) from ⟨(by rw [hw]; exact (by (repeat first | with_reducible apply zN | with_reducible apply zD | with_reducible apply zA | refine blk_far ?_ NB102_107.out _); exact BK102.out))⟩) (aJ (show Aside0 (w100.heap[gb104]? = some (.cells #[.int .i64 ((rd_T53 l0_2 0).f0), .int .i64 ((rd_T53 l0_2 0).f1), .slice (some ad106) ((rd_T53 l0_2 0).f2).length c103_2] 53 (0, 0))) from ⟨(by rw [hw]; exact (by (repeat first | with_reducible apply zN | with_reducible apply zD | with_reducible apply zA | refine blk_far ?_ NB104_107.out _); exact BK104.out))⟩) (aJ (show Aside0 (w100.heap[gb107]? = some (.cells #[.int .i64 ((rd_T53 ((rd_T53 l0_2 0).f2) 0).f0), .int .i64 ((rd_T53 ((rd_T53 l0_2 0).f2) 0).f1), .slice A106_2 ((rd_T53 ((rd_T53 l0_2 0).f2) 0).f2).length c106_2] 53 (0, 0))) from ⟨(by rw [hw]; exact (p3 BK107))⟩) (show Aside0 (Below w.heap.size w w100) from ⟨(by rw [hw]; exact (pH HB))⟩))))))); clear hw HO0_2 HL103_2 HL106_2 BK101 BK102 BK104 BK107 HB; obtain ⟨HO0_2, HL103_2, HL106_2, BK101, BK102, BK104, BK107, HB⟩ := n_; obtain ⟨hcz101_0, hcz101_1, hcz101_2, hfz101_0, hfz101_1, hfz101_2⟩ := cA3 BK107; have p109 : 0 ≤ (0 : Int) := (by omega); have q109 : 0 < (((rd_T53 ((rd_T53 l0_2 0).f2) 0).f2).length : Int) := dA; obtain ⟨ad109, A109_2, c109_2, e109, hx109_0, hx109_1, hx109_2, hl109_2, hi109_2⟩ := at_T53 (Kd.V_reads' HL106_2.out).2.2 0 p109 q109; cases e109; obtain ⟨ce109, hce109, hMe109, hcc109⟩ := Kd.V_get HL106_2.out z53 0 p109 (by first | exact q109 | exact dA | (have e_ := (Kd.V_reads' HL106_2.out).1; omega)); obtain ⟨ua109_2, uc109_2, rfl, ul109_2, ge109_2⟩ := k53_openF hMe109; have hv109_2 := hcc109 2 _ rfl; rw [add_field _ _ 2 (by omega)] at hv109_2; replace hv109_2 := Option.some.inj (hv109_2.symm.trans hx109_2); injection hv109_2 with hva_ hvn_ hvc_; rw [hva_] at ge109_2; rw [hvc_] at ul109_2; have HL109_2 := aK (show Kd.V k53 53 _ w.heap.size _ _ ((rd_T53 ((rd_T53 ((rd_T53 l0_2 0).f2) 0).f2) 0).f2) from Kd.V_mk ul109_2 ge109_2); clear hva_ hvn_ hvc_ ge109_2 ul109_2; clear hcc109 hce109; have qi109 : (0 < ((rd_T53 ((rd_T53 l0_2 0).f2) 0).f2).length) = True := eq_true (by omega); (try rw [show ((0 : Int)).toNat = 0 from rfl] at hx109_0); (try rw [show 0 * 3 = 0 from rfl] at hx109_0); (try rw [Addr.add_zero'] at hx109_0); (try rw [show ((0 : Int)).toNat = 0 from rfl] at hx109_1); (try rw [show 0 * 3 = 0 from rfl] at hx109_1); (try rw [Addr.add_zero'] at hx109_1); (try rw [show ((0 : Int)).toNat = 0 from rfl] at hx109_2); (try rw [show 0 * 3 = 0 from rfl] at hx109_2); (try rw [Addr.add_zero'] at hx109_2); have HR109_2 := aK hi109_2; have HC109_2 := aK hl109_2; clear hi109_2 hl109_2; replace p109 := eq_true p109; replace q109 := eq_true q109; obtain ⟨hcz102_0, hcz102_1, hcz102_2, hfz102_0, hfz102_1, hfz102_2⟩ := cA3 BK101; obtain ⟨hcz103_0, hcz103_1, hcz103_2, hfz103_0, hfz103_1, hfz103_2⟩ := cA3 BK102))
          refine bodyPost_ret (results_ct rfl _ _ gb102 53 #[.int .i64 a0_0, .int .i64 a0_1, .slice (some ad103) l0_2.length c0_2] (0, 0) _ rfl (p3 BK102) Tryd.underlying53 rfl (by kernel_rfl)) rfl ?_
          exact ⟨_, eW, by (with_reducible repeat (first | apply Kd.V_alloc | apply Kd.V_drewN | apply Kd.V_drew)); exact Kd.V_mono (vF3 gb102 (Kd.V_mono HO0_2.out (fun k_ hk => (⟨hk, hk.2.2.1⟩ : _ ∧ k_ ≠ gb102))) (fun _ hk => hk.2)) (fun _ hk => hk.1.1), pH HB⟩
        ·rw [if_neg c42] at H
         exact absurd H (by simp)
       ·rw [if_neg c41] at H
        have c41b0 : (((rd_T53 ((rd_T53 l0_2 0).f2) 0).f0) == 2) = false := beq_eq_false_iff_ne.mpr c41
        have c41b1 : (((rd_T53 ((rd_T53 l0_2 0).f2) 0).f0) != 2) = true := bne_iff_ne.mpr c41
        simp only [Option.some.injEq, Prod.mk.injEq] at H
        obtain ⟨rfl, rfl, rfl, rfl⟩ := H
        go_enter Tryd.func44, Tryd.ntmps44
        go_wp2_with (first | ((with_reducible refine gate_dst (N := 1) rfl ?_); refine bE (N := 1) (cs := #[.int .i64 a0_0, .int .i64 a0_1, .slice A0_2 l0_2.length c0_2]) (t := 53) ?_; intro gb101 hg w104 hbox hb; have GW101 := qw HB hg; have GE101 := qw HB hg; replace HO0_2 := qv HO0_2 hg hb; have BK101 := aK hbox; replace HB := qs HB hb; clear hb hbox hg) | ((with_reducible refine gate_dst (N := 2) rfl ?_); refine bE (N := 2) (cs := #[.int .i64 0, .int .i64 0, .slice none 0 0]) (t := 53) ?_; intro gb102 hg w105 hbox hb; have GW102 := qw HB hg; have GE102 := qw HB hg; have NB101_102 := ql BK101 hg; have NB102_101 := qg BK101 hg; replace HO0_2 := qv HO0_2 hg hb; replace BK101 := qb BK101 hb; have BK102 := aK hbox; replace HB := qs HB hb; clear hb hbox hg; have hnb106 := NB101_102.out; have hnc106 := NB102_101.out; obtain ⟨hcz107_0, hcz107_1, hcz107_2, hfz107_0, hfz107_1, hfz107_2⟩ := cA3 BK101; have p103 : 0 ≤ (0 : Int) := (by omega); have q103 : 0 < (l0_2.length : Int) := dA; obtain ⟨ad103, A103_2, c103_2, e103, hx103_0, hx103_1, hx103_2, hl103_2, hi103_2⟩ := at_T53 (Kd.V_reads' HO0_2.out).2.2 0 p103 q103; cases e103; obtain ⟨ce103, hce103, hMe103, hcc103⟩ := Kd.V_get HO0_2.out z53 0 p103 (by first | exact q103 | exact dA | (have e_ := (Kd.V_reads' HO0_2.out).1; omega)); obtain ⟨ua103_2, uc103_2, rfl, ul103_2, ge103_2⟩ := k53_openF hMe103; have hv103_2 := hcc103 2 _ rfl; rw [add_field _ _ 2 (by omega)] at hv103_2; replace hv103_2 := Option.some.inj (hv103_2.symm.trans hx103_2); injection hv103_2 with hva_ hvn_ hvc_; rw [hva_] at ge103_2; rw [hvc_] at ul103_2; have HL103_2 := aK (show Kd.V k53 53 _ w.heap.size _ _ ((rd_T53 l0_2 0).f2) from Kd.V_mk ul103_2 ge103_2); clear hva_ hvn_ hvc_ ge103_2 ul103_2; clear hcc103 hce103; have qi103 : (0 < l0_2.length) = True := eq_true (by omega); (try rw [show ((0 : Int)).toNat = 0 from rfl] at hx103_0); (try rw [show 0 * 3 = 0 from rfl] at hx103_0); (try rw [Addr.add_zero'] at hx103_0); (try rw [show ((0 : Int)).toNat = 0 from rfl] at hx103_1); (try rw [show 0 * 3 = 0 from rfl] at hx103_1); (try rw [Addr.add_zero'] at hx103_1); (try rw [show ((0 : Int)).toNat = 0 from rfl] at hx103_2); (try rw [show 0 * 3 = 0 from rfl] at hx103_2); (try rw [Addr.add_zero'] at hx103_2); have HR103_2 := aK hi103_2; have HC103_2 := aK hl103_2; clear hi103_2 hl103_2; replace p103 := eq_true p103; replace q103 := eq_true q103) | ((with_reducible refine gate_dst (N := 4) rfl ?_); refine bE (N := 4) (cs := #[.int .i64 0, .int .i64 0, .slice none 0 0]) (t := 53) ?_; intro gb104 hg w108 hbox hb; have GW104 := qw HB hg; have GE104 := qw HB hg; have NB101_104 := ql BK101 hg; have NB104_101 := qg BK101 hg; have NB102_104 := ql BK102 hg; have NB104_102 := qg BK102 hg; replace HR103_2 := qr HL103_2 hb; replace HO0_2 := qv HO0_2 hg hb; replace HL103_2 := qv HL103_2 hg hb; replace BK101 := qb BK101 hb; replace BK102 := qb BK102 hb; have BK104 := aK hbox; replace HB := qs HB hb; clear hb hbox hg; have hnb109 := NB104_101.out; have hnc109 := NB101_104.out; have hnb110 := NB104_102.out; have hnc110 := NB102_104.out; obtain ⟨hcz111_0, hcz111_1, hcz111_2, hfz111_0, hfz111_1, hfz111_2⟩ := cA3 BK104) | ((with_reducible refine gate_store (t := 53) (p := 4) rfl ?_); refine store_event (t := 53) (p := 4) (v := ?vo_w112) (w1 := (((w108.setCell ⟨gb104, 0, none⟩ (.int .i64 ((rd_T53 l0_2 0).f0))).setCell ⟨gb104, 1, none⟩ (.int .i64 ((rd_T53 l0_2 0).f1))).setCell ⟨gb104, 2, none⟩ (.slice A103_2 ((rd_T53 l0_2 0).f2).length c103_2))) ?hg ?ho ?hn ?hr ?_; (case ho => rfl); (case hg => rfl); (case hn => rfl); (case hr => first | (go_simp; done) | (go_simp; rfl)); intro w112 hw; have n_ := aJ (show Aside0 (Kd.V k53 53 w112 w.heap.size (fun k_ => (P0_2_ k_ ∨ w.heap.size ≤ k_) ∧ k_ ≠ gb101 ∧ k_ ≠ gb102 ∧ k_ ≠ gb104) (.slice (some ad103) l0_2.length c0_2) l0_2) from ⟨(by rw [hw]; exact (by (with_reducible repeat (first | apply Kd.V_alloc | apply Kd.V_drewN | apply Kd.V_drew)); exact Kd.V_mono (vF3 gb104 (Kd.V_mono HO0_2.out (fun k_ hk => (⟨hk, hk.2⟩ : _ ∧ k_ ≠ gb104))) (fun _ hk => hk.2)) (fun _ hk => ⟨hk.1.1.1.1, ⟨hk.1.1.1.2, ⟨hk.1.1.2, hk.1.2⟩⟩⟩)))⟩) (aJ (show Aside0 (Kd.V k53 53 w112 w.heap.size (fun k_ => (P0_2_ k_ ∨ w.heap.size ≤ k_) ∧ k_ ≠ gb101 ∧ k_ ≠ gb102 ∧ k_ ≠ gb104) (.slice A103_2 ((rd_T53 l0_2 0).f2).length c103_2) ((rd_T53 l0_2 0).f2)) from ⟨(by rw [hw]; exact (by (with_reducible repeat (first | apply Kd.V_alloc | apply Kd.V_drewN | apply Kd.V_drew)); exact Kd.V_mono (vF3 gb104 (Kd.V_mono HL103_2.out (fun k_ hk => (⟨hk, hk.2⟩ : _ ∧ k_ ≠ gb104))) (fun _ hk => hk.2)) (fun _ hk => ⟨hk.1.1.1.1, ⟨hk.1.1.1.2, ⟨hk.1.1.2, hk.1.2⟩⟩⟩)))⟩) (aJ (show Aside0 (w112.heap[gb101]? = some (.cells #[.int .i64 a0_0, .int .i64 a0_1, .slice (some ad103) l0_2.length c0_2] 53 (0, 0))) from ⟨(by rw [hw]; exact (by (repeat first | with_reducible apply zN | with_reducible apply zD | with_reducible apply zA | refine blk_far ?_ NB101_104.out _); exact BK101.out))⟩) (aJ (show Aside0 (w112.heap[gb102]? = some (.cells #[.int .i64 0, .int .i64 0, .slice none 0 0] 53 (0, 0))) from ⟨(by rw [hw]; exact (by (repeat first | with_reducible apply zN | with_reducible apply zD | with_reducible apply zA | refine blk_far ?_ NB102_104.out _); exact BK102.out))⟩) (aJ (show Aside0 (w112.heap[gb104]? = some (.cells #[.int .i64 ((rd_T53 l0_2 0).f0), .int .i64 ((rd_T53 l0_2 0).f1), .slice A103_2 ((rd_T53 l0_2 0).f2).length c103_2] 53 (0, 0))) from ⟨(by rw [hw]; exact (p3 BK104))⟩) (show Aside0 (Below w.heap.size w w112) from ⟨(by rw [hw]; exact (pH HB))⟩))))); clear hw HO0_2 HL103_2 BK101 BK102 BK104 HB; obtain ⟨HO0_2, HL103_2, BK101, BK102, BK104, HB⟩ := n_; obtain ⟨hcz113_0, hcz113_1, hcz113_2, hfz113_0, hfz113_1, hfz113_2⟩ := cA3 BK104; have p106 : 0 ≤ (0 : Int) := (by omega); have q106 : 0 < (((rd_T53 l0_2 0).f2).length : Int) := dA; obtain ⟨ad106, A106_2, c106_2, e106, hx106_0, hx106_1, hx106_2, hl106_2, hi106_2⟩ := at_T53 (Kd.V_reads' HL103_2.out).2.2 0 p106 q106; cases e106; obtain ⟨ce106, hce106, hMe106, hcc106⟩ := Kd.V_get HL103_2.out z53 0 p106 (by first | exact q106 | exact dA | (have e_ := (Kd.V_reads' HL103_2.out).1; omega)); obtain ⟨ua106_2, uc106_2, rfl, ul106_2, ge106_2⟩ := k53_openF hMe106; have hv106_2 := hcc106 2 _ rfl; rw [add_field _ _ 2 (by omega)] at hv106_2; replace hv106_2 := Option.some.inj (hv106_2.symm.trans hx106_2); injection hv106_2 with hva_ hvn_ hvc_; rw [hva_] at ge106_2; rw [hvc_] at ul106_2; have HL106_2 := aK (show Kd.V k53 53 _ w.heap.size _ _ ((rd_T53 ((rd_T53 l0_2 0).f2) 0).f2) from Kd.V_mk ul106_2 ge106_2); clear hva_ hvn_ hvc_ ge106_2 ul106_2; clear hcc106 hce106; have qi106 : (0 < ((rd_T53 l0_2 0).f2).length) = True := eq_true (by omega); (try rw [show ((0 : Int)).toNat = 0 from rfl] at hx106_0); (try rw [show 0 * 3 = 0 from rfl] at hx106_0); (try rw [Addr.add_zero'] at hx106_0); (try rw [show ((0 : Int)).toNat = 0 from rfl] at hx106_1); (try rw [show 0 * 3 = 0 from rfl] at hx106_1); (try rw [Addr.add_zero'] at hx106_1); (try rw [show ((0 : Int)).toNat = 0 from rfl] at hx106_2); (try rw [show 0 * 3 = 0 from rfl] at hx106_2); (try rw [Addr.add_zero'] at hx106_2); have HR106_2 := aK hi106_2; have HC106_2 := aK hl106_2; clear hi106_2 hl106_2; replace p106 := eq_true p106; replace q106 := eq_true q106) | ((with_reducible refine gate_dst (N := 5) rfl ?_); refine bE (N := 5) (cs := #[.int .i64 0, .int .i64 0, .slice none 0 0]) (t := 53) ?_; intro gb107 hg w114 hbox hb; have GW107 := qw HB hg; have GE107 := qw HB hg; have NB101_107 := ql BK101 hg; have NB107_101 := qg BK101 hg; have NB102_107 := ql BK102 hg; have NB107_102 := qg BK102 hg; have NB104_107 := ql BK104 hg; have NB107_104 := qg BK104 hg; replace HR103_2 := qr HL103_2 hb; replace HR106_2 := qr HL106_2 hb; replace HO0_2 := qv HO0_2 hg hb; replace HL103_2 := qv HL103_2 hg hb; replace HL106_2 := qv HL106_2 hg hb; replace BK101 := qb BK101 hb; replace BK102 := qb BK102 hb; replace BK104 := qb BK104 hb; have BK107 := aK hbox; replace HB := qs HB hb; clear hb hbox hg; have hnb115 := NB107_101.out; have hnc115 := NB101_107.out; have hnb116 := NB107_102.out; have hnc116 := NB102_107.out; have hnb117 := NB107_104.out; have hnc117 := NB104_107.out; obtain ⟨hcz118_0, hcz118_1, hcz118_2, hfz118_0, hfz118_1, hfz118_2⟩ := cA3 BK107; obtain ⟨hcz119_0, hcz119_1, hcz119_2, hfz119_0, hfz119_1, hfz119_2⟩ := cA3 BK101; obtain ⟨hcz120_0, hcz120_1, hcz120_2, hfz120_0, hfz120_1, hfz120_2⟩ := cA3 BK102))
        refine bodyPost_ret (results_ct rfl _ _ gb102 53 #[.int .i64 a0_0, .int .i64 a0_1, .slice (some ad103) l0_2.length c0_2] (0, 0) _ rfl (by (with_reducible repeat first | apply zN | apply zD | apply zA); refine blk_put (cs := #[.int .i64 a0_0, .int .i64 a0_1, .slice none 0 0]) ?_ 2 _ rfl; (with_reducible repeat first | apply zN | apply zD | apply zA); refine blk_put (cs := #[.int .i64 a0_0, .int .i64 0, .slice none 0 0]) ?_ 1 _ rfl; (with_reducible repeat first | apply zN | apply zD | apply zA); refine blk_put (cs := #[.int .i64 0, .int .i64 0, .slice none 0 0]) ?_ 0 _ rfl; (repeat first | with_reducible apply zN | with_reducible apply zD | with_reducible apply zA | refine blk_far ?_ NB102_107.out _); exact BK102.out) Tryd.underlying53 rfl (by kernel_rfl)) rfl ?_
        exact ⟨_, eW, by (with_reducible repeat (first | apply Kd.V_alloc | apply Kd.V_drewN | apply Kd.V_drew)); exact Kd.V_mono (vF3 gb102 (vF3 gb107 (Kd.V_mono (Kd.V_mono HO0_2.out (fun k_ hk => (⟨hk, hk.2⟩ : _ ∧ k_ ≠ gb107))) (fun k_ hk => (⟨hk, hk.1.1.2.2.1⟩ : _ ∧ k_ ≠ gb102))) (fun _ hk => hk.1.2)) (fun _ hk => hk.2)) (fun _ hk => hk.1.1.1.1), pH HB⟩
     ·rw [if_neg c19] at H
      exact absurd H (by simp)
    ·rw [if_neg c18] at H
     have c18b0 : (((rd_T53 l0_2 0).f0) == 2) = false := beq_eq_false_iff_ne.mpr c18
     have c18b1 : (((rd_T53 l0_2 0).f0) != 2) = true := bne_iff_ne.mpr c18
     simp only [Option.some.injEq, Prod.mk.injEq] at H
     obtain ⟨rfl, rfl, rfl, rfl⟩ := H
     go_enter Tryd.func44, Tryd.ntmps44
     go_wp2_with (first | ((with_reducible refine gate_dst (N := 1) rfl ?_); refine bE (N := 1) (cs := #[.int .i64 a0_0, .int .i64 a0_1, .slice A0_2 l0_2.length c0_2]) (t := 53) ?_; intro gb101 hg w121 hbox hb; have GW101 := qw HB hg; have GE101 := qw HB hg; replace HO0_2 := qv HO0_2 hg hb; have BK101 := aK hbox; replace HB := qs HB hb; clear hb hbox hg) | ((with_reducible refine gate_dst (N := 2) rfl ?_); refine bE (N := 2) (cs := #[.int .i64 0, .int .i64 0, .slice none 0 0]) (t := 53) ?_; intro gb102 hg w122 hbox hb; have GW102 := qw HB hg; have GE102 := qw HB hg; have NB101_102 := ql BK101 hg; have NB102_101 := qg BK101 hg; replace HO0_2 := qv HO0_2 hg hb; replace BK101 := qb BK101 hb; have BK102 := aK hbox; replace HB := qs HB hb; clear hb hbox hg; have hnb123 := NB101_102.out; have hnc123 := NB102_101.out; obtain ⟨hcz124_0, hcz124_1, hcz124_2, hfz124_0, hfz124_1, hfz124_2⟩ := cA3 BK101; have p103 : 0 ≤ (0 : Int) := (by omega); have q103 : 0 < (l0_2.length : Int) := dA; obtain ⟨ad103, A103_2, c103_2, e103, hx103_0, hx103_1, hx103_2, hl103_2, hi103_2⟩ := at_T53 (Kd.V_reads' HO0_2.out).2.2 0 p103 q103; cases e103; obtain ⟨ce103, hce103, hMe103, hcc103⟩ := Kd.V_get HO0_2.out z53 0 p103 (by first | exact q103 | exact dA | (have e_ := (Kd.V_reads' HO0_2.out).1; omega)); obtain ⟨ua103_2, uc103_2, rfl, ul103_2, ge103_2⟩ := k53_openF hMe103; have hv103_2 := hcc103 2 _ rfl; rw [add_field _ _ 2 (by omega)] at hv103_2; replace hv103_2 := Option.some.inj (hv103_2.symm.trans hx103_2); injection hv103_2 with hva_ hvn_ hvc_; rw [hva_] at ge103_2; rw [hvc_] at ul103_2; have HL103_2 := aK (show Kd.V k53 53 _ w.heap.size _ _ ((rd_T53 l0_2 0).f2) from Kd.V_mk ul103_2 ge103_2); clear hva_ hvn_ hvc_ ge103_2 ul103_2; clear hcc103 hce103; have qi103 : (0 < l0_2.length) = True := eq_true (by omega); (try rw [show ((0 : Int)).toNat = 0 from rfl] at hx103_0); (try rw [show 0 * 3 = 0 from rfl] at hx103_0); (try rw [Addr.add_zero'] at hx103_0); (try rw [show ((0 : Int)).toNat = 0 from rfl] at hx103_1); (try rw [show 0 * 3 = 0 from rfl] at hx103_1); (try rw [Addr.add_zero'] at hx103_1); (try rw [show ((0 : Int)).toNat = 0 from rfl] at hx103_2); (try rw [show 0 * 3 = 0 from rfl] at hx103_2); (try rw [Addr.add_zero'] at hx103_2); have HR103_2 := aK hi103_2; have HC103_2 := aK hl103_2; clear hi103_2 hl103_2; replace p103 := eq_true p103; replace q103 := eq_true q103) | ((with_reducible refine gate_dst (N := 4) rfl ?_); refine bE (N := 4) (cs := #[.int .i64 0, .int .i64 0, .slice none 0 0]) (t := 53) ?_; intro gb104 hg w125 hbox hb; have GW104 := qw HB hg; have GE104 := qw HB hg; have NB101_104 := ql BK101 hg; have NB104_101 := qg BK101 hg; have NB102_104 := ql BK102 hg; have NB104_102 := qg BK102 hg; replace HR103_2 := qr HL103_2 hb; replace HO0_2 := qv HO0_2 hg hb; replace HL103_2 := qv HL103_2 hg hb; replace BK101 := qb BK101 hb; replace BK102 := qb BK102 hb; have BK104 := aK hbox; replace HB := qs HB hb; clear hb hbox hg; have hnb126 := NB104_101.out; have hnc126 := NB101_104.out; have hnb127 := NB104_102.out; have hnc127 := NB102_104.out; obtain ⟨hcz128_0, hcz128_1, hcz128_2, hfz128_0, hfz128_1, hfz128_2⟩ := cA3 BK104; obtain ⟨hcz129_0, hcz129_1, hcz129_2, hfz129_0, hfz129_1, hfz129_2⟩ := cA3 BK101; obtain ⟨hcz130_0, hcz130_1, hcz130_2, hfz130_0, hfz130_1, hfz130_2⟩ := cA3 BK102))
     refine bodyPost_ret (results_ct rfl _ _ gb102 53 #[.int .i64 a0_0, .int .i64 a0_1, .slice (some ad103) l0_2.length c0_2] (0, 0) _ rfl (by (with_reducible repeat first | apply zN | apply zD | apply zA); refine blk_put (cs := #[.int .i64 a0_0, .int .i64 a0_1, .slice none 0 0]) ?_ 2 _ rfl; (with_reducible repeat first | apply zN | apply zD | apply zA); refine blk_put (cs := #[.int .i64 a0_0, .int .i64 0, .slice none 0 0]) ?_ 1 _ rfl; (with_reducible repeat first | apply zN | apply zD | apply zA); refine blk_put (cs := #[.int .i64 0, .int .i64 0, .slice none 0 0]) ?_ 0 _ rfl; (repeat first | with_reducible apply zN | with_reducible apply zD | with_reducible apply zA | refine blk_far ?_ NB102_104.out _); exact BK102.out) Tryd.underlying53 rfl (by kernel_rfl)) rfl ?_
     exact ⟨_, eW, by (with_reducible repeat (first | apply Kd.V_alloc | apply Kd.V_drewN | apply Kd.V_drew)); exact Kd.V_mono (vF3 gb102 (vF3 gb104 (Kd.V_mono (Kd.V_mono HO0_2.out (fun k_ hk => (⟨hk, hk.2⟩ : _ ∧ k_ ≠ gb104))) (fun k_ hk => (⟨hk, hk.1.1.2⟩ : _ ∧ k_ ≠ gb102))) (fun _ hk => hk.1.2)) (fun _ hk => hk.2)) (fun _ hk => hk.1.1.1.1.1), pH HB⟩
  ·rw [if_neg c3] at H
   exact absurd H (by simp)
 ·rw [if_neg c2] at H
  have c2b0 : (a0_0 == 2) = false := beq_eq_false_iff_ne.mpr c2
  have c2b1 : (a0_0 != 2) = true := bne_iff_ne.mpr c2
  simp only [Option.some.injEq, Prod.mk.injEq] at H
  obtain ⟨rfl, rfl, rfl, rfl⟩ := H
  go_enter Tryd.func44, Tryd.ntmps44
  go_wp2_with (first | ((with_reducible refine gate_dst (N := 1) rfl ?_); refine bE (N := 1) (cs := #[.int .i64 a0_0, .int .i64 a0_1, .slice A0_2 l0_2.length c0_2]) (t := 53) ?_; intro gb101 hg w131 hbox hb; have GW101 := qw HB hg; have GE101 := qw HB hg; replace HO0_2 := qv HO0_2 hg hb; have BK101 := aK hbox; replace HB := qs HB hb; clear hb hbox hg) | ((with_reducible refine gate_dst (N := 2) rfl ?_); refine bE (N := 2) (cs := #[.int .i64 0, .int .i64 0, .slice none 0 0]) (t := 53) ?_; intro gb102 hg w132 hbox hb; have GW102 := qw HB hg; have GE102 := qw HB hg; have NB101_102 := ql BK101 hg; have NB102_101 := qg BK101 hg; replace HO0_2 := qv HO0_2 hg hb; replace BK101 := qb BK101 hb; have BK102 := aK hbox; replace HB := qs HB hb; clear hb hbox hg; have hnb133 := NB101_102.out; have hnc133 := NB102_101.out; obtain ⟨hcz134_0, hcz134_1, hcz134_2, hfz134_0, hfz134_1, hfz134_2⟩ := cA3 BK101; obtain ⟨hcz135_0, hcz135_1, hcz135_2, hfz135_0, hfz135_1, hfz135_2⟩ := cA3 BK102))
  refine bodyPost_ret (results_ct rfl _ _ gb102 53 #[.int .i64 a0_0, .int .i64 a0_1, .slice A0_2 l0_2.length c0_2] (0, 0) _ rfl (p3 BK102) Tryd.underlying53 rfl (by kernel_rfl)) rfl ?_
  exact ⟨_, eW, by (with_reducible repeat (first | apply Kd.V_alloc | apply Kd.V_drewN | apply Kd.V_drew)); exact Kd.V_mono (vF3 gb102 (Kd.V_mono HO0_2.out (fun k_ hk => (⟨hk, hk.2⟩ : _ ∧ k_ ≠ gb102))) (fun _ hk => hk.2)) (fun _ hk => hk.1.1.1), pH HB⟩


mutual
def spec_ldStep.l0 : Nat → Bool → List (S53) → Int → Int → Int → Int → List (S53) → Option (Int × Int × (List (S53)) × Bool)
 | 0, _, _, _, _, _, _, _ => none
 | k + 1, x7, x23, x24, x25, x111000, x111001, x111002 => if x25 < x24 then (if 0 ≤ x25 then (if x25 < (x23.length : Int) then (if x7 = true then (if x111002.length < 3518437208883 then (spec_ldStep.l0 k x7 x23 x24 (wrap64 (x25 + 1)) x111000 x111001 (x111002 ++ [(⟨(rd_T53 x23 x25).f0, (rd_T53 x23 x25).f1, (rd_T53 x23 x25).f2⟩ : S53)])) else (none)) else ((spec_ldStep.f k ((rd_T53 x23 x25).f0) ((rd_T53 x23 x25).f1) ((rd_T53 x23 x25).f2)).bind fun bt116 => (if x111002.length < 3518437208883 then (spec_ldStep.l0 k bt116.2.2.2 x23 x24 (wrap64 (x25 + 1)) x111000 x111001 (x111002 ++ [(⟨bt116.1, bt116.2.1, bt116.2.2.1⟩ : S53)])) else (none)))) else (none)) else (none)) else (some (x111000, x111001, x111002, x7))
def spec_ldStep.f : Nat → Int → Int → List (S53) → Option (Int × Int × (List (S53)) × Bool)
 | 0, _, _, _ => none
 | k + 1, a0_0, a0_1, l0_2 => (spec_ldHead.f a0_0 a0_1 l0_2).bind fun bt103 => (if bt103.2.2.2 = true then (some (bt103.1, bt103.2.1, bt103.2.2.1, true)) else (spec_ldStep.l0 k false l0_2 (l0_2.length : Int) 0 a0_0 a0_1 ([] : List (S53))))
end
set_option maxHeartbeats 8000000 in
set_option maxRecDepth 100000 in
theorem spec_ldStep.calls (k : Nat) : ∀ (a0_0 : Int) (a0_1 : Int) (P0_2_ : Nat → Prop) (A0_2 : Option Addr) (c0_2 : Nat) (l0_2 : List (S53)) (r1 : Int) (r2 : Int) (r3 : List (S53)) (r4 : Bool) (w : World) (hs0_2 : Kd.V k53 53 w w.heap.size (fun k_ => P0_2_ k_) (.slice A0_2 l0_2.length c0_2) l0_2) (h : spec_ldStep.f k a0_0 a0_1 l0_2 = some (r1, r2, r3, r4)),
  Calls Tryd.prog 26 #[.agg #[.int .i64 a0_0, .int .i64 a0_1, .slice A0_2 l0_2.length c0_2]] w fun e w' => ∃ v2_ : Value, e = .returned (.tuple #[.agg #[.int .i64 r1, .int .i64 r2, v2_], .bool r4]) ∧ Kd.V k53 53 w' w.heap.size (fun k_ => (P0_2_ k_ ∨ w.heap.size ≤ k_)) v2_ r3 ∧ Below w.heap.size w w' := by
 induction k using Nat.strongRecOn with
 | _ k ih =>
 intro a0_0 a0_1 P0_2_ A0_2 c0_2 l0_2 r1 r2 r3 r4 w hs0_2 h
 cases k with
 | zero => exact absurd h (by simp [spec_ldStep.f])
 | succ k =>
 simp only [spec_ldStep.f] at h
 have hu77 := Tryd.underlying53
 have HO0_2 := aK (show Kd.V k53 53 w w.heap.size (fun k_ => (P0_2_ k_ ∨ w.heap.size ≤ k_)) (.slice A0_2 l0_2.length c0_2) l0_2 from Kd.V_mono hs0_2 (fun k_ hk => .inl hk))
 have HB := aK (Below.refl w.heap.size w)
 have H : ((spec_ldHead.f a0_0 a0_1 l0_2).bind fun bt103 => (if bt103.2.2.2 = true then (some (bt103.1, bt103.2.1, bt103.2.2.1, true)) else (spec_ldStep.l0 k false l0_2 (l0_2.length : Int) 0 a0_0 a0_1 ([] : List (S53))))) = some (r1, r2, r3, r4) := h
 clear h
 obtain ⟨⟨t103, t104, t105, t108⟩, A2, H⟩ := oB H
 try dsimp only at H
 by_cases c3 : t108 = true
 ·subst c3
  rw [if_pos rfl] at H
  simp only [Option.some.injEq, Prod.mk.injEq] at H
  obtain ⟨rfl, rfl, rfl, rfl⟩ := H
  go_enter Tryd.func26, Tryd.ntmps26
  go_wp2_with (first | ((with_reducible refine gate_dst (N := 1) rfl ?_); refine bE (N := 1) (cs := #[.int .i64 a0_0, .int .i64 a0_1, .slice A0_2 l0_2.length c0_2]) (t := 53) ?_; intro gb101 hg w4 hbox hb; have GW101 := qw HB hg; have GE101 := qw HB hg; replace HO0_2 := qv HO0_2 hg hb; have BK101 := aK hbox; replace HB := qs HB hb; clear hb hbox hg) | ((with_reducible refine gate_dst (N := 2) rfl ?_); refine bE (N := 2) (cs := #[.int .i64 0, .int .i64 0, .slice none 0 0]) (t := 53) ?_; intro gb102 hg w5 hbox hb; have GW102 := qw HB hg; have GE102 := qw HB hg; have NB101_102 := ql BK101 hg; have NB102_101 := qg BK101 hg; replace HO0_2 := qv HO0_2 hg hb; replace BK101 := qb BK101 hb; have BK102 := aK hbox; replace HB := qs HB hb; clear hb hbox hg; have hnb6 := NB101_102.out; have hnc6 := NB102_101.out; obtain ⟨hcz7_0, hcz7_1, hcz7_2, hfz7_0, hfz7_1, hfz7_2⟩ := cA3 BK101) | ((with_reducible refine gate_callee (f := 44) rfl ?_); refine goesL_ (some 12) rfl rfl Tryd.func44 (by kernel_rfl) rfl #[.agg #[.int .i64 a0_0, .int .i64 a0_1, .slice A0_2 l0_2.length c0_2]] rfl tA ?_; (with_reducible refine (spec_ldHead.calls a0_0 a0_1 (fun k_ => (((P0_2_ k_ ∨ w.heap.size ≤ k_) ∧ k_ ≠ gb101) ∧ k_ ≠ gb102)) _ _ l0_2 t103 t104 t105 true _ ?side1 A2.out).mono ?_); (case side1 => exact HO0_2.out); rintro e w8 ⟨v106, rfl, ho0, hb⟩; refine ⟨_, rfl, ?_⟩; have n0_ := aK (Kd.V_below HO0_2.out hb); have HO107 := aK (Kd.V_lower (Kd.V_mono (ok' := fun k_ => (P0_2_ k_ ∨ w.heap.size ≤ k_) ∧ k_ ≠ gb101 ∧ k_ ≠ gb102) ho0 (fun k_ hk_ => ⟨Or.elim hk_ (fun hs_ => hs_.1.1) (fun hn_ => (.inr (Nat.le_trans (below_size HB.out) hn_))), Or.elim hk_ (fun hs_ => hs_.1.2) (fun hn_ => (Kd.freshB BK101.out k_ hn_)), Or.elim hk_ (fun hs_ => hs_.2) (fun hn_ => (Kd.freshB BK102.out k_ hn_))⟩)) (below_size HB.out)); replace BK101 := qb BK101 hb; replace BK102 := qb BK102 hb; clear HO0_2; have HO0_2 := n0_; clear n0_; replace HB := qs HB hb; (try clear hb); (try clear ho0)) | ((with_reducible refine gate_dst (N := 4) rfl ?_); refine bE (N := 4) (cs := #[.int .i64 0, .int .i64 0, .slice none 0 0]) (t := 53) ?_; intro gb109 hg w9 hbox hb; have GW109 := qw HB hg; have GE109 := qw HB hg; have NB101_109 := ql BK101 hg; have NB109_101 := qg BK101 hg; have NB102_109 := ql BK102 hg; have NB109_102 := qg BK102 hg; replace HO0_2 := qv HO0_2 hg hb; replace HO107 := qv HO107 hg hb; replace BK101 := qb BK101 hb; replace BK102 := qb BK102 hb; have BK109 := aK hbox; replace HB := qs HB hb; clear hb hbox hg; have hnb10 := NB109_101.out; have hnc10 := NB101_109.out; have hnb11 := NB109_102.out; have hnc11 := NB102_109.out; obtain ⟨hcz12_0, hcz12_1, hcz12_2, hfz12_0, hfz12_1, hfz12_2⟩ := cA3 BK109; obtain ⟨Ao13, co13, eo13⟩ := Kd.V_slice HO107.out; subst eo13; obtain ⟨hcz14_0, hcz14_1, hcz14_2, hfz14_0, hfz14_1, hfz14_2⟩ := cA3 BK102))
  refine bodyPost_ret (results_ct rfl _ _ gb102 53 #[.int .i64 t103, .int .i64 t104, .slice Ao13 t105.length co13] (0, 0) _ rfl (by (with_reducible repeat first | apply zN | apply zD | apply zA); refine blk_put (cs := #[.int .i64 t103, .int .i64 t104, .slice none 0 0]) ?_ 2 _ rfl; (with_reducible repeat first | apply zN | apply zD | apply zA); refine blk_put (cs := #[.int .i64 t103, .int .i64 0, .slice none 0 0]) ?_ 1 _ rfl; (with_reducible repeat first | apply zN | apply zD | apply zA); refine blk_put (cs := #[.int .i64 0, .int .i64 0, .slice none 0 0]) ?_ 0 _ rfl; (repeat first | with_reducible apply zN | with_reducible apply zD | with_reducible apply zA | refine blk_far ?_ NB102_109.out _); exact BK102.out) Tryd.underlying53 rfl (by kernel_rfl)) rfl ?_
  exact ⟨_, eW, by (with_reducible repeat (first | apply Kd.V_alloc | apply Kd.V_drewN | apply Kd.V_drew)); exact Kd.V_mono (vF3 gb102 (vF3 gb109 (Kd.V_mono (Kd.V_mono HO107.out (fun k_ hk => (⟨hk, hk.2⟩ : _ ∧ k_ ≠ gb109))) (fun k_ hk => (⟨hk, hk.1.1.2.2⟩ : _ ∧ k_ ≠ gb102))) (fun _ hk => hk.1.2)) (fun _ hk => hk.2)) (fun _ hk => hk.1.1.1.1), pH HB⟩
 ·replace c3 := Bool.eq_false_iff.mpr c3
  subst c3
  rw [if_neg (show ¬ (false = true) by decide)] at H
  have H' := aK H
  clear H
  go_enter Tryd.func26, Tryd.ntmps26
  go_wp2_with (first | ((with_reducible refine gate_dst (N := 1) rfl ?_); refine bE (N := 1) (cs := #[.int .i64 a0_0, .int .i64 a0_1, .slice A0_2 l0_2.length c0_2]) (t := 53) ?_; intro gb101 hg w15 hbox hb; have GW101 := qw HB hg; have GE101 := qw HB hg; replace HO0_2 := qv HO0_2 hg hb; have BK101 := aK hbox; replace HB := qs HB hb; clear hb hbox hg) | ((with_reducible refine gate_dst (N := 2) rfl ?_); refine bE (N := 2) (cs := #[.int .i64 0, .int .i64 0, .slice none 0 0]) (t := 53) ?_; intro gb102 hg w16 hbox hb; have GW102 := qw HB hg; have GE102 := qw HB hg; have NB101_102 := ql BK101 hg; have NB102_101 := qg BK101 hg; replace HO0_2 := qv HO0_2 hg hb; replace BK101 := qb BK101 hb; have BK102 := aK hbox; replace HB := qs HB hb; clear hb hbox hg; have hnb17 := NB101_102.out; have hnc17 := NB102_101.out; obtain ⟨hcz18_0, hcz18_1, hcz18_2, hfz18_0, hfz18_1, hfz18_2⟩ := cA3 BK101) | ((with_reducible refine gate_callee (f := 44) rfl ?_); refine goesL_ (some 12) rfl rfl Tryd.func44 (by kernel_rfl) rfl #[.agg #[.int .i64 a0_0, .int .i64 a0_1, .slice A0_2 l0_2.length c0_2]] rfl tA ?_; (with_reducible refine (spec_ldHead.calls a0_0 a0_1 (fun k_ => (((P0_2_ k_ ∨ w.heap.size ≤ k_) ∧ k_ ≠ gb101) ∧ k_ ≠ gb102)) _ _ l0_2 t103 t104 t105 false _ ?side1 A2.out).mono ?_); (case side1 => exact HO0_2.out); rintro e w19 ⟨v106, rfl, ho0, hb⟩; refine ⟨_, rfl, ?_⟩; have n0_ := aK (Kd.V_below HO0_2.out hb); have HO107 := aK (Kd.V_lower (Kd.V_mono (ok' := fun k_ => (P0_2_ k_ ∨ w.heap.size ≤ k_) ∧ k_ ≠ gb101 ∧ k_ ≠ gb102) ho0 (fun k_ hk_ => ⟨Or.elim hk_ (fun hs_ => hs_.1.1) (fun hn_ => (.inr (Nat.le_trans (below_size HB.out) hn_))), Or.elim hk_ (fun hs_ => hs_.1.2) (fun hn_ => (Kd.freshB BK101.out k_ hn_)), Or.elim hk_ (fun hs_ => hs_.2) (fun hn_ => (Kd.freshB BK102.out k_ hn_))⟩)) (below_size HB.out)); replace BK101 := qb BK101 hb; replace BK102 := qb BK102 hb; clear HO0_2; have HO0_2 := n0_; clear n0_; replace HB := qs HB hb; (try clear hb); (try clear ho0)) | ((with_reducible refine gate_dst (N := 4) rfl ?_); refine bE (N := 4) (cs := #[.int .i64 0, .int .i64 0, .slice none 0 0]) (t := 53) ?_; intro gb109 hg w20 hbox hb; have GW109 := qw HB hg; have GE109 := qw HB hg; have NB101_109 := ql BK101 hg; have NB109_101 := qg BK101 hg; have NB102_109 := ql BK102 hg; have NB109_102 := qg BK102 hg; replace HO0_2 := qv HO0_2 hg hb; replace HO107 := qv HO107 hg hb; replace BK101 := qb BK101 hb; replace BK102 := qb BK102 hb; have BK109 := aK hbox; replace HB := qs HB hb; clear hb hbox hg; have hnb21 := NB109_101.out; have hnc21 := NB101_109.out; have hnb22 := NB109_102.out; have hnc22 := NB102_109.out; obtain ⟨hcz23_0, hcz23_1, hcz23_2, hfz23_0, hfz23_1, hfz23_2⟩ := cA3 BK109; obtain ⟨Ao24, co24, eo24⟩ := Kd.V_slice HO107.out; subst eo24; obtain ⟨hcz25_0, hcz25_1, hcz25_2, hfz25_0, hfz25_1, hfz25_2⟩ := cA3 BK101) | ((with_reducible refine gate_dst (N := 6) rfl ?_); refine bE (N := 6) (cs := #[.int .i64 0, .int .i64 0, .slice none 0 0]) (t := 53) ?_; intro gb110 hg w26 hbox hb; have n_ := aJ (aK (Kd.V_below (Kd.V_elderB (by (with_reducible repeat (first | apply Kd.V_alloc | apply Kd.V_drewN | apply Kd.V_drew)); exact (Kd.V_mono (vF3 gb109 (Kd.V_mono HO0_2.out (fun k_ hk => (⟨hk, hk.2⟩ : _ ∧ k_ ≠ gb109))) (fun _ hk => hk.2)) (fun _ h_ => h_.1))) gb110 (Nat.le_of_eq hg.symm)) hb)) (aJ (aK (Kd.V_below (Kd.V_elderB (by (with_reducible repeat (first | apply Kd.V_alloc | apply Kd.V_drewN | apply Kd.V_drew)); exact (Kd.V_mono (vF3 gb109 (Kd.V_mono HO107.out (fun k_ hk => (⟨hk, hk.2⟩ : _ ∧ k_ ≠ gb109))) (fun _ hk => hk.2)) (fun _ h_ => h_.1))) gb110 (Nat.le_of_eq hg.symm)) hb)) (aJ (aK (blk_below (g := gb101) (o := .cells #[.int .i64 a0_0, .int .i64 a0_1, .slice A0_2 l0_2.length c0_2] 53 (0, 0)) (by (repeat first | with_reducible apply zN | with_reducible apply zD | with_reducible apply zA | refine blk_far ?_ NB101_109.out _); exact BK101.out) hb)) (aJ (aK (blk_below (g := gb102) (o := .cells #[.int .i64 0, .int .i64 0, .slice none 0 0] 53 (0, 0)) (by (repeat first | with_reducible apply zN | with_reducible apply zD | with_reducible apply zA | refine blk_far ?_ NB102_109.out _); exact BK102.out) hb)) (aJ (aK (blk_below (g := gb109) (o := .cells #[.int .i64 t103, .int .i64 t104, .slice Ao24 t105.length co24] 53 (0, 0)) (p3 BK109) hb)) (aJ (aK (below_step (pH HB) hb)) (aJ (aK (hbox)) (aJ (aK ((by rw [hg]; exact (below_size (pH HB)) : w.heap.size ≤ gb110))) (aJ (aK ((by rw [hg]; exact (below_size (pH HB)) : w.heap.size ≤ gb110))) (aJ (aK ((by rw [hg]; exact Nat.ne_of_lt (blk_lt (g := gb101) (o := .cells #[.int .i64 a0_0, .int .i64 a0_1, .slice A0_2 l0_2.length c0_2] 53 (0, 0)) (by (repeat first | with_reducible apply zN | with_reducible apply zD | with_reducible apply zA | refine blk_far ?_ NB101_109.out _); exact BK101.out)) : gb101 ≠ gb110))) (aJ (aK ((by rw [hg]; exact Nat.ne_of_gt (blk_lt (g := gb101) (o := .cells #[.int .i64 a0_0, .int .i64 a0_1, .slice A0_2 l0_2.length c0_2] 53 (0, 0)) (by (repeat first | with_reducible apply zN | with_reducible apply zD | with_reducible apply zA | refine blk_far ?_ NB101_109.out _); exact BK101.out)) : gb110 ≠ gb101))) (aJ (aK ((by rw [hg]; exact Nat.ne_of_lt (blk_lt (g := gb102) (o := .cells #[.int .i64 0, .int .i64 0, .slice none 0 0] 53 (0, 0)) (by (repeat first | with_reducible apply zN | with_reducible apply zD | with_reducible apply zA | refine blk_far ?_ NB102_109.out _); exact BK102.out)) : gb102 ≠ gb110))) (aJ (aK ((by rw [hg]; exact Nat.ne_of_gt (blk_lt (g := gb102) (o := .cells #[.int .i64 0, .int .i64 0, .slice none 0 0] 53 (0, 0)) (by (repeat first | with_reducible apply zN | with_reducible apply zD | with_reducible apply zA | refine blk_far ?_ NB102_109.out _); exact BK102.out)) : gb110 ≠ gb102))) (aJ (aK ((by rw [hg]; exact Nat.ne_of_lt (blk_lt (g := gb109) (o := .cells #[.int .i64 t103, .int .i64 t104, .slice Ao24 t105.length co24] 53 (0, 0)) (p3 BK109)) : gb109 ≠ gb110))) (aK ((by rw [hg]; exact Nat.ne_of_gt (blk_lt (g := gb109) (o := .cells #[.int .i64 t103, .int .i64 t104, .slice Ao24 t105.length co24] 53 (0, 0)) (p3 BK109)) : gb110 ≠ gb109)))))))))))))))); clear HO0_2 HO107 BK101 BK102 BK109 HB; obtain ⟨HO0_2, HO107, BK101, BK102, BK109, HB, BK110, GW110, GE110, NB101_110, NB110_101, NB102_110, NB110_102, NB109_110, NB110_109⟩ := n_; clear hb hbox hg; have hnb27 := NB110_101.out; have hnc27 := NB101_110.out; have hnb28 := NB110_102.out; have hnc28 := NB102_110.out; have hnb29 := NB110_109.out; have hnc29 := NB109_110.out; obtain ⟨hcz30_0, hcz30_1, hcz30_2, hfz30_0, hfz30_1, hfz30_2⟩ := cA3 BK110; obtain ⟨hcz31_0, hcz31_1, hcz31_2, hfz31_0, hfz31_1, hfz31_2⟩ := cA3 BK101))
  go_loopg [7, 25] k (fun kq v7 v25 w' => ∃ (x7_1 : Bool) (x25_1 : Int) (x111002_1 : List (S53)) (u111002 : Value), v7 = .bool x7_1 ∧ v25 = .int .i64 x25_1 ∧ Aside0 (spec_ldStep.l0 kq x7_1 l0_2 (l0_2.length : Int) x25_1 a0_0 a0_1 x111002_1 = some (r1, r2, r3, r4)) ∧ Aside0 (kq ≤ k) ∧ Aside0 (Kd.V k53 53 w' w.heap.size (fun k_ => (P0_2_ k_ ∨ w.heap.size ≤ k_) ∧ some k_ ≠ (u111002 : Value).ownBlock ∧ k_ ≠ gb101 ∧ k_ ≠ gb102 ∧ k_ ≠ gb109 ∧ k_ ≠ gb110) (.slice A0_2 l0_2.length c0_2) l0_2) ∧ Aside0 (Kd.V k53 53 w' w.heap.size (fun k_ => (P0_2_ k_ ∨ w.heap.size ≤ k_) ∧ some k_ ≠ (u111002 : Value).ownBlock ∧ k_ ≠ gb101 ∧ k_ ≠ gb102 ∧ k_ ≠ gb109 ∧ k_ ≠ gb110) (.slice A0_2 l0_2.length c0_2) l0_2) ∧ Aside0 (Kd.V k53 53 w' w.heap.size (fun k_ => (P0_2_ k_ ∨ w.heap.size ≤ k_) ∧ some k_ ≠ (u111002 : Value).ownBlock ∧ k_ ≠ gb101 ∧ k_ ≠ gb102 ∧ k_ ≠ gb109 ∧ k_ ≠ gb110) (.slice Ao24 t105.length co24) t105) ∧ Aside0 (Kd.N k53 53 w' w.heap.size (fun k_ => (P0_2_ k_ ∨ w.heap.size ≤ k_) ∧ k_ ≠ gb101 ∧ k_ ≠ gb102 ∧ k_ ≠ gb109 ∧ k_ ≠ gb110) u111002 x111002_1) ∧ Aside0 (w'.heap[gb101]? = some (.cells #[.int .i64 a0_0, .int .i64 a0_1, (.slice A0_2 l0_2.length c0_2)] 53 (0, 0))) ∧ Aside0 (w'.heap[gb102]? = some (.cells #[.int .i64 0, .int .i64 0, (.slice none 0 0)] 53 (0, 0))) ∧ Aside0 (w'.heap[gb109]? = some (.cells #[.int .i64 t103, .int .i64 t104, (.slice Ao24 t105.length co24)] 53 (0, 0))) ∧ Aside0 (w'.heap[gb110]? = some (.cells #[.int .i64 a0_0, .int .i64 a0_1, u111002] 53 (0, 0))) ∧ Aside0 (Below w.heap.size w w'))
  case atStart => exact ⟨(false), (0), (([] : List (S53))), (.slice none 0 0), rS, rS, H', ⟨Nat.le_refl _⟩, ⟨by (with_reducible repeat (first | apply Kd.V_alloc | apply Kd.V_drewN | apply Kd.V_drew)); exact Kd.V_mono (vF3 gb110 (Kd.V_mono HO0_2.out (fun k_ hk => (⟨hk, hk.2⟩ : _ ∧ k_ ≠ gb110))) (fun _ hk => hk.2)) (fun _ hk => ⟨hk.1.1.1.1.1, ⟨(by simp [Value.ownBlock]), ⟨hk.1.1.1.1.2, ⟨hk.1.1.1.2, ⟨hk.1.1.2, hk.1.2⟩⟩⟩⟩⟩)⟩, ⟨by (with_reducible repeat (first | apply Kd.V_alloc | apply Kd.V_drewN | apply Kd.V_drew)); exact Kd.V_mono (vF3 gb110 (Kd.V_mono HO0_2.out (fun k_ hk => (⟨hk, hk.2⟩ : _ ∧ k_ ≠ gb110))) (fun _ hk => hk.2)) (fun _ hk => ⟨hk.1.1.1.1.1, ⟨(by simp [Value.ownBlock]), ⟨hk.1.1.1.1.2, ⟨hk.1.1.1.2, ⟨hk.1.1.2, hk.1.2⟩⟩⟩⟩⟩)⟩, ⟨by (with_reducible repeat (first | apply Kd.V_alloc | apply Kd.V_drewN | apply Kd.V_drew)); exact Kd.V_mono (vF3 gb110 (Kd.V_mono HO107.out (fun k_ hk => (⟨hk, hk.2⟩ : _ ∧ k_ ≠ gb110))) (fun _ hk => hk.2)) (fun _ hk => ⟨hk.1.1.1.1, ⟨(by simp [Value.ownBlock]), ⟨hk.1.1.1.2.1, ⟨hk.1.1.1.2.2, ⟨hk.1.1.2, hk.1.2⟩⟩⟩⟩⟩)⟩, ⟨by first | exact Kd.R_nil _ _ _ _ _ | exact Kd.N_nil _ _ _ _ _ | exact Kd.V_nil _ _ _ _ _ | exact Kd.Q_nil _ _ _ _ _ | exact Kd.S_nil _ _ _ _ _⟩, ⟨by (repeat first | with_reducible apply zN | with_reducible apply zD | with_reducible apply zA | refine blk_far ?_ NB101_110.out _); exact BK101.out⟩, ⟨by (repeat first | with_reducible apply zN | with_reducible apply zD | with_reducible apply zA | refine blk_far ?_ NB102_110.out _); exact BK102.out⟩, ⟨by (repeat first | with_reducible apply zN | with_reducible apply zD | with_reducible apply zA | refine blk_far ?_ NB109_110.out _); exact BK109.out⟩, ⟨p3 BK110⟩, ⟨pH HB⟩⟩
  case round =>
   clear H'
   try clear c1; try clear c2; try clear p2; try clear c3; try clear c5; try clear c6; try clear c7; try clear c10; try clear c11; try clear c17; try clear c21; try clear c22; try clear c27; try clear c28; try clear c29; try clear hcz12_0 hcz12_1 hcz12_2 hfz12_0 hfz12_1 hfz12_2; try clear hcz14_0 hcz14_1 hcz14_2 hfz14_0 hfz14_1 hfz14_2; try clear hcz18_0 hcz18_1 hcz18_2 hfz18_0 hfz18_1 hfz18_2; try clear hcz23_0 hcz23_1 hcz23_2 hfz23_0 hfz23_1 hfz23_2; try clear hcz25_0 hcz25_1 hcz25_2 hfz25_0 hfz25_1 hfz25_2; try clear hcz30_0 hcz30_1 hcz30_2 hfz30_0 hfz30_1 hfz30_2; try clear hcz31_0 hcz31_1 hcz31_2 hfz31_0 hfz31_1 hfz31_2; try clear hcz7_0 hcz7_1 hcz7_2 hfz7_0 hfz7_1 hfz7_2
   obtain ⟨x7_1, x25_1, x111002_1, u111002, rfl, rfl, HA, HK1, HO_23, HO_102002, HO_110002, HO_111002, BK101, BK102, BK109, BK110, HB⟩ := hrel
   cases gk with
   | zero => exact absurd HA.out (by simp [spec_ldStep.l0])
   | succ k1 =>
    have H := HA.out
    clear HA
    simp only [spec_ldStep.l0] at H
    by_cases c32 : x25_1 < (l0_2.length : Int)
    ·rw [if_pos c32] at H
     have c32b0 : decide (x25_1 < (l0_2.length : Int)) = true := decide_eq_true c32
     clear c32
     by_cases c33 : 0 ≤ x25_1
     ·rw [if_pos c33] at H
      have c33b0 : decide (0 ≤ x25_1) = true := decide_eq_true c33
      clear c33
      by_cases c34 : x25_1 < (l0_2.length : Int)
      ·rw [if_pos c34] at H
       have c34b0 : decide (x25_1 < (l0_2.length : Int)) = true := decide_eq_true c34
       clear c34
       by_cases c35 : x7_1 = true
       ·subst c35
        rw [if_pos rfl] at H
        by_cases c36 : x111002_1.length < 3518437208883
        ·rw [if_pos c36] at H
         have LMc36 := aK c36
         clear c36
         obtain ⟨y113, hy113⟩ : ∃ y_ : List (S53), y_ = (x111002_1 ++ [(⟨(rd_T53 l0_2 x25_1).f0, (rd_T53 l0_2 x25_1).f1, (rd_T53 l0_2 x25_1).f2⟩ : S53)]) := ⟨_, rfl⟩
         replace H : (spec_ldStep.l0 k1 true l0_2 (l0_2.length : Int) (wrap64 (x25_1 + 1)) a0_0 a0_1 y113) = some (r1, r2, r3, r4) := by first | (rw [hy113]; with_reducible exact H) | (have H2_ := (Option.bind_some _ _).symm.trans H; rw [hy113]; with_reducible exact H2_) | (have H2_ := (Option.bind_some _ _).symm.trans H; with_reducible exact H2_) | with_reducible exact H | (rw [hy113]; exact H) | exact H
         have Ny113 := aK hy113
         clear hy113
         have H' := aK H
         clear H
         have p111 : 0 ≤ (x25_1 : Int) := dA
         have q111 : x25_1 < (l0_2.length : Int) := dA
         obtain ⟨ad111, A111_2, c111_2, e111, hx111_0, hx111_1, hx111_2, hl111_2, hi111_2⟩ := at_T53 (Kd.V_reads' HO_23.out).2.2 x25_1 p111 q111
         cases e111
         obtain ⟨ce111, hce111, hMe111, hcc111⟩ := Kd.V_get HO_23.out z53 x25_1 p111 (by first | exact q111 | exact dA | (have e_ := (Kd.V_reads' HO_23.out).1; omega))
         obtain ⟨ua111_2, uc111_2, rfl, ul111_2, ge111_2⟩ := k53_openF hMe111
         have hv111_2 := hcc111 2 _ rfl
         rw [add_field _ _ 2 (by omega)] at hv111_2
         replace hv111_2 := Option.some.inj (hv111_2.symm.trans hx111_2)
         injection hv111_2 with hva_ hvn_ hvc_
         rw [hva_] at ge111_2
         rw [hvc_] at ul111_2
         have HL111_2 := aK (show Kd.V k53 53 _ w.heap.size _ _ ((rd_T53 l0_2 x25_1).f2) from Kd.V_mk ul111_2 ge111_2)
         clear hva_ hvn_ hvc_ ge111_2 ul111_2
         clear hcc111 hce111
         have HR111_2 := aK hi111_2
         have HC111_2 := aK hl111_2
         clear hi111_2 hl111_2
         replace p111 := eq_true p111
         replace q111 := eq_true q111
         go_wp2_with (first | ((with_reducible refine gate_dst (N := 9) rfl ?_); refine bE (N := 9) (cs := #[.int .i64 0, .int .i64 0, .slice none 0 0]) (t := 53) ?_; intro gb112 hg w37 hbox hb; have GW112 := qw HB hg; have GE112 := qw HB hg; have NB101_112 := ql BK101 hg; have NB112_101 := qg BK101 hg; have NB102_112 := ql BK102 hg; have NB112_102 := qg BK102 hg; have NB109_112 := ql BK109 hg; have NB112_109 := qg BK109 hg; have NB110_112 := ql BK110 hg; have NB112_110 := qg BK110 hg; replace HR111_2 := qc HR111_2 hb; replace HO_23 := qv HO_23 hg hb; replace HO_102002 := qv HO_102002 hg hb; replace HO_110002 := qv HO_110002 hg hb; replace HO_111002 := qn HO_111002 hg hb; replace HL111_2 := qv HL111_2 hg hb; replace BK101 := qb BK101 hb; replace BK102 := qb BK102 hb; replace BK109 := qb BK109 hb; replace BK110 := qb BK110 hb; have BK112 := aK hbox; replace HB := qs HB hb; clear hb hbox hg; have hnb38 := NB112_101.out; have hnc38 := NB101_112.out; have hnb39 := NB112_102.out; have hnc39 := NB102_112.out; have hnb40 := NB112_109.out; have hnc40 := NB109_112.out; have hnb41 := NB112_110.out; have hnc41 := NB110_112.out; obtain ⟨hcz42_0, hcz42_1, hcz42_2, hfz42_0, hfz42_1, hfz42_2⟩ := cA3 BK112) | ((with_reducible refine gate_store (t := 53) (p := 9) rfl ?_); refine store_event (t := 53) (p := 9) (v := ?vo_w43) (w1 := (((w37.setCell ⟨gb112, 0, none⟩ (.int .i64 ((rd_T53 l0_2 x25_1).f0))).setCell ⟨gb112, 1, none⟩ (.int .i64 ((rd_T53 l0_2 x25_1).f1))).setCell ⟨gb112, 2, none⟩ (.slice A111_2 ((rd_T53 l0_2 x25_1).f2).length c111_2))) ?hg ?ho ?hn ?hr ?_; (case ho => rfl); (case hg => rfl); (case hn => rfl); (case hr => first | (go_simp; done) | (go_simp; rfl)); intro w43 hw; have n_ := aJ (show Aside0 (Kd.V k53 53 w43 w.heap.size (fun k_ => (P0_2_ k_ ∨ w.heap.size ≤ k_) ∧ some k_ ≠ (u111002 : Value).ownBlock ∧ k_ ≠ gb101 ∧ k_ ≠ gb102 ∧ k_ ≠ gb109 ∧ k_ ≠ gb110 ∧ k_ ≠ gb112) (.slice (some ad111) l0_2.length c0_2) l0_2) from ⟨(by rw [hw]; exact (by (with_reducible repeat (first | apply Kd.V_alloc | apply Kd.V_drewN | apply Kd.V_drew)); exact Kd.V_mono (vF3 gb112 (Kd.V_mono HO_23.out (fun k_ hk => (⟨hk, hk.2⟩ : _ ∧ k_ ≠ gb112))) (fun _ hk => hk.2)) (fun _ hk => ⟨hk.1.1.1, ⟨hk.1.1.2.1, ⟨hk.1.1.2.2.1, ⟨hk.1.1.2.2.2.1, ⟨hk.1.1.2.2.2.2.1, ⟨hk.1.1.2.2.2.2.2, hk.1.2⟩⟩⟩⟩⟩⟩)))⟩) (aJ (show Aside0 (Kd.V k53 53 w43 w.heap.size (fun k_ => (P0_2_ k_ ∨ w.heap.size ≤ k_) ∧ some k_ ≠ (u111002 : Value).ownBlock ∧ k_ ≠ gb101 ∧ k_ ≠ gb102 ∧ k_ ≠ gb109 ∧ k_ ≠ gb110 ∧ k_ ≠ gb112) (.slice (some ad111) l0_2.length c0_2) l0_2) from ⟨(by rw [hw]; exact (by (with_reducible repeat (first | apply Kd.V_alloc | apply Kd.V_drewN | apply Kd.V_drew)); exact Kd.V_mono (vF3 gb112 (Kd.V_mono HO_102002.out (fun k_ hk => (⟨hk, hk.2⟩ : _ ∧ k_ ≠ gb112))) (fun _ hk => hk.2)) (fun _ hk => ⟨hk.1.1.1, ⟨hk.1.1.2.1, ⟨hk.1.1.2.2.1, ⟨hk.1.1.2.2.2.1, ⟨hk.1.1.2.2.2.2.1, ⟨hk.1.1.2.2.2.2.2, hk.1.2⟩⟩⟩⟩⟩⟩)))⟩) (aJ (show Aside0 (Kd.V k53 53 w43 w.heap.size (fun k_ => (P0_2_ k_ ∨ w.heap.size ≤ k_) ∧ some k_ ≠ (u111002 : Value).ownBlock ∧ k_ ≠ gb101 ∧ k_ ≠ gb102 ∧ k_ ≠ gb109 ∧ k_ ≠ gb110 ∧ k_ ≠ gb112) (.slice Ao24 t105.length co24) t105) from ⟨(by rw [hw]; exact (by (with_reducible repeat (first | apply Kd.V_alloc | apply Kd.V_drewN | apply Kd.V_drew)); exact Kd.V_mono (vF3 gb112 (Kd.V_mono HO_110002.out (fun k_ hk => (⟨hk, hk.2⟩ : _ ∧ k_ ≠ gb112))) (fun _ hk => hk.2)) (fun _ hk => ⟨hk.1.1.1, ⟨hk.1.1.2.1, ⟨hk.1.1.2.2.1, ⟨hk.1.1.2.2.2.1, ⟨hk.1.1.2.2.2.2.1, ⟨hk.1.1.2.2.2.2.2, hk.1.2⟩⟩⟩⟩⟩⟩)))⟩) (aJ (show Aside0 (Kd.N k53 53 w43 w.heap.size (fun k_ => (P0_2_ k_ ∨ w.heap.size ≤ k_) ∧ k_ ≠ gb101 ∧ k_ ≠ gb102 ∧ k_ ≠ gb109 ∧ k_ ≠ gb110 ∧ k_ ≠ gb112) u111002 x111002_1) from ⟨(by rw [hw]; exact (by (with_reducible repeat (first | apply Kd.N_alloc | apply Kd.N_drewN | apply Kd.N_drew)); exact Kd.N_mono (nF3 gb112 (Kd.N_mono HO_111002.out (fun k_ hk => (⟨hk, hk.2⟩ : _ ∧ k_ ≠ gb112))) (fun _ hk => hk.2)) (fun _ hk => ⟨hk.1.1.1, ⟨hk.1.1.2.1, ⟨hk.1.1.2.2.1, ⟨hk.1.1.2.2.2.1, ⟨hk.1.1.2.2.2.2, hk.1.2⟩⟩⟩⟩⟩)))⟩) (aJ (show Aside0 (Kd.V k53 53 w43 w.heap.size (fun k_ => (P0_2_ k_ ∨ w.heap.size ≤ k_) ∧ some k_ ≠ (u111002 : Value).ownBlock ∧ k_ ≠ gb101 ∧ k_ ≠ gb102 ∧ k_ ≠ gb109 ∧ k_ ≠ gb110 ∧ k_ ≠ gb112) (.slice A111_2 ((rd_T53 l0_2 x25_1).f2).length c111_2) ((rd_T53 l0_2 x25_1).f2)) from ⟨(by rw [hw]; exact (by (with_reducible repeat (first | apply Kd.V_alloc | apply Kd.V_drewN | apply Kd.V_drew)); exact Kd.V_mono (vF3 gb112 (Kd.V_mono HL111_2.out (fun k_ hk => (⟨hk, hk.2⟩ : _ ∧ k_ ≠ gb112))) (fun _ hk => hk.2)) (fun _ hk => ⟨hk.1.1.1, ⟨hk.1.1.2.1, ⟨hk.1.1.2.2.1, ⟨hk.1.1.2.2.2.1, ⟨hk.1.1.2.2.2.2.1, ⟨hk.1.1.2.2.2.2.2, hk.1.2⟩⟩⟩⟩⟩⟩)))⟩) (aJ (show Aside0 (w43.heap[gb101]? = some (.cells #[.int .i64 a0_0, .int .i64 a0_1, .slice (some ad111) l0_2.length c0_2] 53 (0, 0))) from ⟨(by rw [hw]; exact (by (repeat first | with_reducible apply zN | with_reducible apply zD | with_reducible apply zA | refine blk_far ?_ NB101_112.out _); exact BK101.out))⟩) (aJ (show Aside0 (w43.heap[gb102]? = some (.cells #[.int .i64 0, .int .i64 0, .slice none 0 0] 53 (0, 0))) from ⟨(by rw [hw]; exact (by (repeat first | with_reducible apply zN | with_reducible apply zD | with_reducible apply zA | refine blk_far ?_ NB102_112.out _); exact BK102.out))⟩) (aJ (show Aside0 (w43.heap[gb109]? = some (.cells #[.int .i64 t103, .int .i64 t104, .slice Ao24 t105.length co24] 53 (0, 0))) from ⟨(by rw [hw]; exact (by (repeat first | with_reducible apply zN | with_reducible apply zD | with_reducible apply zA | refine blk_far ?_ NB109_112.out _); exact BK109.out))⟩) (aJ (show Aside0 (w43.heap[gb110]? = some (.cells #[.int .i64 a0_0, .int .i64 a0_1, u111002] 53 (0, 0))) from ⟨(by rw [hw]; exact (by (repeat first | with_reducible apply zN | with_reducible apply zD | with_reducible apply zA | refine blk_far ?_ NB110_112.out _); exact BK110.out))⟩) (aJ (show Aside0 (w43.heap[gb112]? = some (.cells #[.int .i64 ((rd_T53 l0_2 x25_1).f0), .int .i64 ((rd_T53 l0_2 x25_1).f1), .slice A111_2 ((rd_T53 l0_2 x25_1).f2).length c111_2] 53 (0, 0))) from ⟨(by rw [hw]; exact (p3 BK112))⟩) (show Aside0 (Below w.heap.size w w43) from ⟨(by rw [hw]; exact (pH HB))⟩)))))))))); clear hw HO_23 HO_102002 HO_110002 HO_111002 HL111_2 BK101 BK102 BK109 BK110 BK112 HB; obtain ⟨HO_23, HO_102002, HO_110002, HO_111002, HL111_2, BK101, BK102, BK109, BK110, BK112, HB⟩ := n_; have hnb44 := NB110_101.out; have hnc44 := NB101_110.out; have hnb45 := NB110_102.out; have hnc45 := NB102_110.out; have hnb46 := NB110_109.out; have hnc46 := NB109_110.out; obtain ⟨hcz47_0, hcz47_1, hcz47_2, hfz47_0, hfz47_1, hfz47_2⟩ := cA3 BK110; obtain ⟨hcz48_0, hcz48_1, hcz48_2, hfz48_0, hfz48_1, hfz48_2⟩ := cA3 BK112) | ((with_reducible refine gate_builtin (b := .append) (xs := #[.tmp 37, .tmp 39]) rfl ?_); at_builtin; refine Kd.N_append k53 (w0 := w) w.heap.size rfl (.tmp 37) (.tmp 39) 51 53 (.agg #[(.int .i64 0), (.int .i64 0), (.slice none 0 0)]) 40 rfl Tryd.underlying51 info53 rfl (by decide) (by omega) u111002 x111002_1 (⟨(rd_T53 l0_2 x25_1).f0, (rd_T53 l0_2 x25_1).f1, (rd_T53 l0_2 x25_1).f2⟩ : S53) [.int .i64 ((rd_T53 l0_2 x25_1).f0), .int .i64 ((rd_T53 l0_2 x25_1).f1), .slice A111_2 ((rd_T53 l0_2 x25_1).f2).length c111_2] (fun k_ => (P0_2_ k_ ∨ w.heap.size ≤ k_) ∧ k_ ≠ gb101 ∧ k_ ≠ gb102 ∧ k_ ≠ gb109 ∧ k_ ≠ gb110 ∧ k_ ≠ gb112) (fun k_ => ((fun k_ => (P0_2_ k_ ∨ w.heap.size ≤ k_) ∧ k_ ≠ gb101 ∧ k_ ≠ gb102 ∧ k_ ≠ gb109 ∧ k_ ≠ gb110 ∧ k_ ≠ gb112)) k_ ∧ some k_ ≠ (u111002 : Value).ownBlock) rfl rfl ?aP (fun _ hk => hk) ?aF ?aO ?aB ?aS ?aL ?_; (case aP => exact (k53_mkF _ _ (⟨(rd_T53 l0_2 x25_1).f0, (rd_T53 l0_2 x25_1).f1, (rd_T53 l0_2 x25_1).f2⟩ : S53) (Kd.V_reads' (Kd.V_mono (ok' := (fun k_ => ((fun k_ => (P0_2_ k_ ∨ w.heap.size ≤ k_) ∧ k_ ≠ gb101 ∧ k_ ≠ gb102 ∧ k_ ≠ gb109 ∧ k_ ≠ gb110 ∧ k_ ≠ gb112)) k_ ∧ some k_ ≠ (u111002 : Value).ownBlock)) (HL111_2.out) (fun k_ hk => ⟨⟨hk.1, ⟨hk.2.2.1, ⟨hk.2.2.2.1, ⟨hk.2.2.2.2.1, ⟨hk.2.2.2.2.2.1, hk.2.2.2.2.2.2⟩⟩⟩⟩⟩, hk.2.1⟩))).2.1 (Kd.V_F (Kd.V_mono (ok' := (fun k_ => ((fun k_ => (P0_2_ k_ ∨ w.heap.size ≤ k_) ∧ k_ ≠ gb101 ∧ k_ ≠ gb102 ∧ k_ ≠ gb109 ∧ k_ ≠ gb110 ∧ k_ ≠ gb112)) k_ ∧ some k_ ≠ (u111002 : Value).ownBlock)) (HL111_2.out) (fun k_ hk => ⟨⟨hk.1, ⟨hk.2.2.1, ⟨hk.2.2.2.1, ⟨hk.2.2.2.2.1, ⟨hk.2.2.2.2.2.1, hk.2.2.2.2.2.2⟩⟩⟩⟩⟩, hk.2.1⟩))))); (case aB => exact (pH HB)); (case aF => exact (fun k_ hk => ⟨(.inr (Nat.le_trans (below_size (pH HB)) hk)), Kd.freshB BK101.out k_ hk, Kd.freshB BK102.out k_ hk, Kd.freshB BK109.out k_ hk, Kd.freshB BK110.out k_ hk, Kd.freshB BK112.out k_ hk⟩)); (case aO => exact HO_111002.out); (case aS => exact (below_size (pH HB))); (case aL => have := LMc36.out; omega); intro v114 w49 ho hb hg hat; rw [← Ny113.out] at ho; have n0_ := aK (Kd.V_afterv (ok := (fun k_ => (P0_2_ k_ ∨ w.heap.size ≤ k_) ∧ k_ ≠ gb101 ∧ k_ ≠ gb102 ∧ k_ ≠ gb109 ∧ k_ ≠ gb110 ∧ k_ ≠ gb112)) (by (with_reducible repeat (first | apply Kd.V_alloc | apply Kd.V_drewN | apply Kd.V_drew)); exact Kd.V_mono HO_23.out (fun _ hk => ⟨⟨hk.1, ⟨hk.2.2.1, ⟨hk.2.2.2.1, ⟨hk.2.2.2.2.1, ⟨hk.2.2.2.2.2.1, hk.2.2.2.2.2.2⟩⟩⟩⟩⟩, hk.2.1⟩)) hg hat); have n1_ := aK (Kd.V_afterv (ok := (fun k_ => (P0_2_ k_ ∨ w.heap.size ≤ k_) ∧ k_ ≠ gb101 ∧ k_ ≠ gb102 ∧ k_ ≠ gb109 ∧ k_ ≠ gb110 ∧ k_ ≠ gb112)) (by (with_reducible repeat (first | apply Kd.V_alloc | apply Kd.V_drewN | apply Kd.V_drew)); exact Kd.V_mono HO_102002.out (fun _ hk => ⟨⟨hk.1, ⟨hk.2.2.1, ⟨hk.2.2.2.1, ⟨hk.2.2.2.2.1, ⟨hk.2.2.2.2.2.1, hk.2.2.2.2.2.2⟩⟩⟩⟩⟩, hk.2.1⟩)) hg hat); have n2_ := aK (Kd.V_afterv (ok := (fun k_ => (P0_2_ k_ ∨ w.heap.size ≤ k_) ∧ k_ ≠ gb101 ∧ k_ ≠ gb102 ∧ k_ ≠ gb109 ∧ k_ ≠ gb110 ∧ k_ ≠ gb112)) (by (with_reducible repeat (first | apply Kd.V_alloc | apply Kd.V_drewN | apply Kd.V_drew)); exact Kd.V_mono HO_110002.out (fun _ hk => ⟨⟨hk.1, ⟨hk.2.2.1, ⟨hk.2.2.2.1, ⟨hk.2.2.2.2.1, ⟨hk.2.2.2.2.2.1, hk.2.2.2.2.2.2⟩⟩⟩⟩⟩, hk.2.1⟩)) hg hat); have n3_ := aK (blk_grown BK101.out hg (Kd.N_away HO_111002.out (fun _ hk => hk.2.1))); have n4_ := aK (blk_grown BK102.out hg (Kd.N_away HO_111002.out (fun _ hk => hk.2.2.1))); have n5_ := aK (blk_grown BK109.out hg (Kd.N_away HO_111002.out (fun _ hk => hk.2.2.2.1))); have n6_ := aK (blk_grown BK110.out hg (Kd.N_away HO_111002.out (fun _ hk => hk.2.2.2.2.1))); have n7_ := aK (Kd.V_afterv (ok := (fun k_ => (P0_2_ k_ ∨ w.heap.size ≤ k_) ∧ k_ ≠ gb101 ∧ k_ ≠ gb102 ∧ k_ ≠ gb109 ∧ k_ ≠ gb110 ∧ k_ ≠ gb112)) (by (with_reducible repeat (first | apply Kd.V_alloc | apply Kd.V_drewN | apply Kd.V_drew)); exact Kd.V_mono HL111_2.out (fun _ hk => ⟨⟨hk.1, ⟨hk.2.2.1, ⟨hk.2.2.2.1, ⟨hk.2.2.2.2.1, ⟨hk.2.2.2.2.2.1, hk.2.2.2.2.2.2⟩⟩⟩⟩⟩, hk.2.1⟩)) hg hat); have n8_ := aK (blk_grown BK112.out hg (Kd.N_away HO_111002.out (fun _ hk => hk.2.2.2.2.2))); have n9_ := aK (hb); have HO115 := aK (ho); clear HO_23; have HO_23 := n0_; clear n0_; clear HO_102002; have HO_102002 := n1_; clear n1_; clear HO_110002; have HO_110002 := n2_; clear n2_; clear BK101; have BK101 := n3_; clear n3_; clear BK102; have BK102 := n4_; clear n4_; clear BK109; have BK109 := n5_; clear n5_; clear BK110; have BK110 := n6_; clear n6_; clear HL111_2; have HL111_2 := n7_; clear n7_; clear BK112; have BK112 := n8_; clear n8_; clear HB; have HB := n9_; clear n9_; clear HO_111002; clear ho hb hg hat; obtain ⟨Ao50, co50, eo50⟩ := Kd.N_slice HO115.out; subst eo50; obtain ⟨hcz51_0, hcz51_1, hcz51_2, hfz51_0, hfz51_1, hfz51_2⟩ := cA3 BK110))
         go_roundg k1
         case measure => have := HK1.out; omega
         case rel => exact ⟨(true), (wrap64 (x25_1 + 1)), (y113), (.slice Ao50 y113.length co50), rS, rS, H', ⟨by have := HK1.out; omega⟩, ⟨by (with_reducible repeat (first | apply Kd.V_alloc | apply Kd.V_drewN | apply Kd.V_drew)); exact Kd.V_mono (Kd.V_far (p := ⟨gb110, 2, none⟩) (Kd.V_mono HO_23.out (fun k_ hk => (⟨hk, hk.1.2.2.2.2.1⟩ : _ ∧ k_ ≠ gb110))) (fun _ hk => hk.2) (.slice Ao50 y113.length co50)) (fun _ hk => ⟨hk.1.1.1, ⟨hk.1.2, ⟨hk.1.1.2.1, ⟨hk.1.1.2.2.1, ⟨hk.1.1.2.2.2.1, hk.1.1.2.2.2.2.1⟩⟩⟩⟩⟩)⟩, ⟨by (with_reducible repeat (first | apply Kd.V_alloc | apply Kd.V_drewN | apply Kd.V_drew)); exact Kd.V_mono (Kd.V_far (p := ⟨gb110, 2, none⟩) (Kd.V_mono HO_102002.out (fun k_ hk => (⟨hk, hk.1.2.2.2.2.1⟩ : _ ∧ k_ ≠ gb110))) (fun _ hk => hk.2) (.slice Ao50 y113.length co50)) (fun _ hk => ⟨hk.1.1.1, ⟨hk.1.2, ⟨hk.1.1.2.1, ⟨hk.1.1.2.2.1, ⟨hk.1.1.2.2.2.1, hk.1.1.2.2.2.2.1⟩⟩⟩⟩⟩)⟩, ⟨by (with_reducible repeat (first | apply Kd.V_alloc | apply Kd.V_drewN | apply Kd.V_drew)); exact Kd.V_mono (Kd.V_far (p := ⟨gb110, 2, none⟩) (Kd.V_mono HO_110002.out (fun k_ hk => (⟨hk, hk.1.2.2.2.2.1⟩ : _ ∧ k_ ≠ gb110))) (fun _ hk => hk.2) (.slice Ao50 y113.length co50)) (fun _ hk => ⟨hk.1.1.1, ⟨hk.1.2, ⟨hk.1.1.2.1, ⟨hk.1.1.2.2.1, ⟨hk.1.1.2.2.2.1, hk.1.1.2.2.2.2.1⟩⟩⟩⟩⟩)⟩, ⟨by (with_reducible repeat (first | apply Kd.N_alloc | apply Kd.N_drewN | apply Kd.N_drew)); exact Kd.N_mono (Kd.N_far (p := ⟨gb110, 2, none⟩) (Kd.N_mono HO115.out (fun k_ hk => (⟨hk, hk.2.2.2.2.1⟩ : _ ∧ k_ ≠ gb110))) (fun _ hk => hk.2) (.slice Ao50 y113.length co50)) (fun _ hk => ⟨hk.1.1, ⟨hk.1.2.1, ⟨hk.1.2.2.1, ⟨hk.1.2.2.2.1, hk.1.2.2.2.2.1⟩⟩⟩⟩)⟩, ⟨by (repeat first | with_reducible apply zN | with_reducible apply zD | with_reducible apply zA | refine blk_far ?_ NB101_110.out _); exact BK101.out⟩, ⟨by (repeat first | with_reducible apply zN | with_reducible apply zD | with_reducible apply zA | refine blk_far ?_ NB102_110.out _); exact BK102.out⟩, ⟨by (repeat first | with_reducible apply zN | with_reducible apply zD | with_reducible apply zA | refine blk_far ?_ NB109_110.out _); exact BK109.out⟩, ⟨by (with_reducible repeat first | apply zN | apply zD | apply zA); refine blk_put (cs := #[.int .i64 a0_0, .int .i64 a0_1, u111002]) ?_ 2 _ rfl; (with_reducible repeat first | apply zN | apply zD | apply zA); exact BK110.out⟩, ⟨pH HB⟩⟩
        ·rw [if_neg c36] at H
         exact absurd H (by simp)
       ·replace c35 := Bool.eq_false_iff.mpr c35
        subst c35
        rw [if_neg (show ¬ (false = true) by decide)] at H
        obtain ⟨⟨t116, t117, t118, t121⟩, A52, H⟩ := oB H
        try dsimp only at H
        by_cases c53 : x111002_1.length < 3518437208883
        ·rw [if_pos c53] at H
         have LMc53 := aK c53
         clear c53
         obtain ⟨y122, hy122⟩ : ∃ y_ : List (S53), y_ = (x111002_1 ++ [(⟨t116, t117, t118⟩ : S53)]) := ⟨_, rfl⟩
         replace H : (spec_ldStep.l0 k1 t121 l0_2 (l0_2.length : Int) (wrap64 (x25_1 + 1)) a0_0 a0_1 y122) = some (r1, r2, r3, r4) := by first | (rw [hy122]; with_reducible exact H) | (have H2_ := (Option.bind_some _ _).symm.trans H; rw [hy122]; with_reducible exact H2_) | (have H2_ := (Option.bind_some _ _).symm.trans H; with_reducible exact H2_) | with_reducible exact H | (rw [hy122]; exact H) | exact H
         have Ny122 := aK hy122
         clear hy122
         have H' := aK H
         clear H
         have p111 : 0 ≤ (x25_1 : Int) := dA
         have q111 : x25_1 < (l0_2.length : Int) := dA
         obtain ⟨ad111, A111_2, c111_2, e111, hx111_0, hx111_1, hx111_2, hl111_2, hi111_2⟩ := at_T53 (Kd.V_reads' HO_23.out).2.2 x25_1 p111 q111
         cases e111
         obtain ⟨ce111, hce111, hMe111, hcc111⟩ := Kd.V_get HO_23.out z53 x25_1 p111 (by first | exact q111 | exact dA | (have e_ := (Kd.V_reads' HO_23.out).1; omega))
         obtain ⟨ua111_2, uc111_2, rfl, ul111_2, ge111_2⟩ := k53_openF hMe111
         have hv111_2 := hcc111 2 _ rfl
         rw [add_field _ _ 2 (by omega)] at hv111_2
         replace hv111_2 := Option.some.inj (hv111_2.symm.trans hx111_2)
         injection hv111_2 with hva_ hvn_ hvc_
         rw [hva_] at ge111_2
         rw [hvc_] at ul111_2
         have HL111_2 := aK (show Kd.V k53 53 _ w.heap.size _ _ ((rd_T53 l0_2 x25_1).f2) from Kd.V_mk ul111_2 ge111_2)
         clear hva_ hvn_ hvc_ ge111_2 ul111_2
         clear hcc111 hce111
         have HR111_2 := aK hi111_2
         have HC111_2 := aK hl111_2
         clear hi111_2 hl111_2
         replace p111 := eq_true p111
         replace q111 := eq_true q111
         go_wp2_with (first | ((with_reducible refine gate_dst (N := 9) rfl ?_); refine bE (N := 9) (cs := #[.int .i64 0, .int .i64 0, .slice none 0 0]) (t := 53) ?_; intro gb112 hg w54 hbox hb; have GW112 := qw HB hg; have GE112 := qw HB hg; have NB101_112 := ql BK101 hg; have NB112_101 := qg BK101 hg; have NB102_112 := ql BK102 hg; have NB112_102 := qg BK102 hg; have NB109_112 := ql BK109 hg; have NB112_109 := qg BK109 hg; have NB110_112 := ql BK110 hg; have NB112_110 := qg BK110 hg; replace HR111_2 := qc HR111_2 hb; replace HO_23 := qv HO_23 hg hb; replace HO_102002 := qv HO_102002 hg hb; replace HO_110002 := qv HO_110002 hg hb; replace HO_111002 := qn HO_111002 hg hb; replace HL111_2 := qv HL111_2 hg hb; replace BK101 := qb BK101 hb; replace BK102 := qb BK102 hb; replace BK109 := qb BK109 hb; replace BK110 := qb BK110 hb; have BK112 := aK hbox; replace HB := qs HB hb; clear hb hbox hg; have hnb55 := NB112_101.out; have hnc55 := NB101_112.out; have hnb56 := NB112_102.out; have hnc56 := NB102_112.out; have hnb57 := NB112_109.out; have hnc57 := NB109_112.out; have hnb58 := NB112_110.out; have hnc58 := NB110_112.out; obtain ⟨hcz59_0, hcz59_1, hcz59_2, hfz59_0, hfz59_1, hfz59_2⟩ := cA3 BK112) | ((with_reducible refine gate_store (t := 53) (p := 9) rfl ?_); refine store_event (t := 53) (p := 9) (v := ?vo_w60) (w1 := (((w54.setCell ⟨gb112, 0, none⟩ (.int .i64 ((rd_T53 l0_2 x25_1).f0))).setCell ⟨gb112, 1, none⟩ (.int .i64 ((rd_T53 l0_2 x25_1).f1))).setCell ⟨gb112, 2, none⟩ (.slice A111_2 ((rd_T53 l0_2 x25_1).f2).length c111_2))) ?hg ?ho ?hn ?hr ?_; (case ho => rfl); (case hg => rfl); (case hn => rfl); (case hr => first | (go_simp; done) | (go_simp; rfl)); intro w60 hw; have n_ := aJ (show Aside0 (Kd.V k53 53 w60 w.heap.size (fun k_ => (P0_2_ k_ ∨ w.heap.size ≤ k_) ∧ some k_ ≠ (u111002 : Value).ownBlock ∧ k_ ≠ gb101 ∧ k_ ≠ gb102 ∧ k_ ≠ gb109 ∧ k_ ≠ gb110 ∧ k_ ≠ gb112) (.slice (some ad111) l0_2.length c0_2) l0_2) from ⟨(by rw [hw]; exact (by (with_reducible repeat (first | apply Kd.V_alloc | apply Kd.V_drewN | apply Kd.V_drew)); exact Kd.V_mono (vF3 gb112 (Kd.V_mono HO_23.out (fun k_ hk => (⟨hk, hk.2⟩ : _ ∧ k_ ≠ gb112))) (fun _ hk => hk.2)) (fun _ hk => ⟨hk.1.1.1, ⟨hk.1.1.2.1, ⟨hk.1.1.2.2.1, ⟨hk.1.1.2.2.2.1, ⟨hk.1.1.2.2.2.2.1, ⟨hk.1.1.2.2.2.2.2, hk.1.2⟩⟩⟩⟩⟩⟩)))⟩) (aJ (show Aside0 (Kd.V k53 53 w60 w.heap.size (fun k_ => (P0_2_ k_ ∨ w.heap.size ≤ k_) ∧ some k_ ≠ (u111002 : Value).ownBlock ∧ k_ ≠ gb101 ∧ k_ ≠ gb102 ∧ k_ ≠ gb109 ∧ k_ ≠ gb110 ∧ k_ ≠ gb112) (.slice (some ad111) l0_2.length c0_2) l0_2) from ⟨(by rw [hw]; exact (by (with_reducible repeat (first | apply Kd.V_alloc | apply Kd.V_drewN | apply Kd.V_drew)); exact Kd.V_mono (vF3 gb112 (Kd.V_mono HO_102002.out (fun k_ hk => (⟨hk, hk.2⟩ : _ ∧ k_ ≠ gb112))) (fun _ hk => hk.2)) (fun _ hk => ⟨hk.1.1.1, ⟨hk.1.1.2.1, ⟨hk.1.1.2.2.1, ⟨hk.1.1.2.2.2.1, ⟨hk.1.1.2.2.2.2.1, ⟨hk.1.1.2.2.2.2.2, hk.1.2⟩⟩⟩⟩⟩⟩)))⟩) (aJ (show Aside0 (Kd.V k53 53 w60 w.heap.size (fun k_ => (P0_2_ k_ ∨ w.heap.size ≤ k_) ∧ some k_ ≠ (u111002 : Value).ownBlock ∧ k_ ≠ gb101 ∧ k_ ≠ gb102 ∧ k_ ≠ gb109 ∧ k_ ≠ gb110 ∧ k_ ≠ gb112) (.slice Ao24 t105.length co24) t105) from ⟨(by rw [hw]; exact (by (with_reducible repeat (first | apply Kd.V_alloc | apply Kd.V_drewN | apply Kd.V_drew)); exact Kd.V_mono (vF3 gb112 (Kd.V_mono HO_110002.out (fun k_ hk => (⟨hk, hk.2⟩ : _ ∧ k_ ≠ gb112))) (fun _ hk => hk.2)) (fun _ hk => ⟨hk.1.1.1, ⟨hk.1.1.2.1, ⟨hk.1.1.2.2.1, ⟨hk.1.1.2.2.2.1, ⟨hk.1.1.2.2.2.2.1, ⟨hk.1.1.2.2.2.2.2, hk.1.2⟩⟩⟩⟩⟩⟩)))⟩) (aJ (show Aside0 (Kd.N k53 53 w60 w.heap.size (fun k_ => (P0_2_ k_ ∨ w.heap.size ≤ k_) ∧ k_ ≠ gb101 ∧ k_ ≠ gb102 ∧ k_ ≠ gb109 ∧ k_ ≠ gb110 ∧ k_ ≠ gb112) u111002 x111002_1) from ⟨(by rw [hw]; exact (by (with_reducible repeat (first | apply Kd.N_alloc | apply Kd.N_drewN | apply Kd.N_drew)); exact Kd.N_mono (nF3 gb112 (Kd.N_mono HO_111002.out (fun k_ hk => (⟨hk, hk.2⟩ : _ ∧ k_ ≠ gb112))) (fun _ hk => hk.2)) (fun _ hk => ⟨hk.1.1.1, ⟨hk.1.1.2.1, ⟨hk.1.1.2.2.1, ⟨hk.1.1.2.2.2.1, ⟨hk.1.1.2.2.2.2, hk.1.2⟩⟩⟩⟩⟩)))⟩) (aJ (show Aside0 (Kd.V k53 53 w60 w.heap.size (fun k_ => (P0_2_ k_ ∨ w.heap.size ≤ k_) ∧ some k_ ≠ (u111002 : Value).ownBlock ∧ k_ ≠ gb101 ∧ k_ ≠ gb102 ∧ k_ ≠ gb109 ∧ k_ ≠ gb110 ∧ k_ ≠ gb112) (.slice A111_2 ((rd_T53 l0_2 x25_1).f2).length c111_2) ((rd_T53 l0_2 x25_1).f2)) from ⟨(by rw [hw]; exact (by (with_reducible repeat (first | apply Kd.V_alloc | apply Kd.V_drewN | apply Kd.V_drew)); exact Kd.V_mono (vF3 gb112 (Kd.V_mono HL111_2.out (fun k_ hk => (⟨hk, hk.2⟩ : _ ∧ k_ ≠ gb112))) (fun _ hk => hk.2)) (fun _ hk => ⟨hk.1.1.1, ⟨hk.1.1.2.1, ⟨hk.1.1.2.2.1, ⟨hk.1.1.2.2.2.1, ⟨hk.1.1.2.2.2.2.1, ⟨hk.1.1.2.2.2.2.2, hk.1.2⟩⟩⟩⟩⟩⟩)))⟩) (aJ (show Aside0 (w60.heap[gb101]? = some (.cells #[.int .i64 a0_0, .int .i64 a0_1, .slice (some ad111) l0_2.length c0_2] 53 (0, 0))) from ⟨(by rw [hw]; exact (by (repeat first | with_reducible apply zN | with_reducible apply zD | with_reducible apply zA | refine blk_far ?_ NB101_112.out _); exact BK101.out))⟩) (aJ (show Aside0 (w60.heap[gb102]? = some (.cells #[.int .i64 0, .int .i64 0, .slice none 0 0] 53 (0, 0))) from ⟨(by rw [hw]; exact (by (repeat first | with_reducible apply zN | with_reducible apply zD | with_reducible apply zA | refine blk_far ?_ NB102_112.out _); exact BK102.out))⟩) (aJ (show Aside0 (w60.heap[gb109]? = some (.cells #[.int .i64 t103, .int .i64 t104, .slice Ao24 t105.length co24] 53 (0, 0))) from ⟨(by rw [hw]; exact (by (repeat first | with_reducible apply zN | with_reducible apply zD | with_reducible apply zA | refine blk_far ?_ NB109_112.out _); exact BK109.out))⟩) (aJ (show Aside0 (w60.heap[gb110]? = some (.cells #[.int .i64 a0_0, .int .i64 a0_1, u111002] 53 (0, 0))) from ⟨(by rw [hw]; exact (by (repeat first | with_reducible apply zN | with_reducible apply zD | with_reducible apply zA | refine blk_far ?_ NB110_112.out _); exact BK110.out))⟩) (aJ (show Aside0 (w60.heap[gb112]? = some (.cells #[.int .i64 ((rd_T53 l0_2 x25_1).f0), .int .i64 ((rd_T53 l0_2 x25_1).f1), .slice A111_2 ((rd_T53 l0_2 x25_1).f2).length c111_2] 53 (0, 0))) from ⟨(by rw [hw]; exact (p3 BK112))⟩) (show Aside0 (Below w.heap.size w w60) from ⟨(by rw [hw]; exact (pH HB))⟩)))))))))); clear hw HO_23 HO_102002 HO_110002 HO_111002 HL111_2 BK101 BK102 BK109 BK110 BK112 HB; obtain ⟨HO_23, HO_102002, HO_110002, HO_111002, HL111_2, BK101, BK102, BK109, BK110, BK112, HB⟩ := n_; obtain ⟨hcz61_0, hcz61_1, hcz61_2, hfz61_0, hfz61_1, hfz61_2⟩ := cA3 BK112) | ((with_reducible refine gate_callee (f := 26) rfl ?_); refine goesL_ (some 33) rfl rfl Tryd.func26 (by kernel_rfl) rfl #[.agg #[.int .i64 ((rd_T53 l0_2 x25_1).f0), .int .i64 ((rd_T53 l0_2 x25_1).f1), .slice A111_2 ((rd_T53 l0_2 x25_1).f2).length c111_2]] rfl tA ?_; (with_reducible refine (ih k1 (by have := HK1.out; omega) ((rd_T53 l0_2 x25_1).f0) ((rd_T53 l0_2 x25_1).f1) (fun k_ => ((P0_2_ k_ ∨ w.heap.size ≤ k_) ∧ (some k_ ≠ (u111002 : Value).ownBlock ∧ (k_ ≠ gb101 ∧ (k_ ≠ gb102 ∧ (k_ ≠ gb109 ∧ (k_ ≠ gb110 ∧ k_ ≠ gb112))))))) _ _ ((rd_T53 l0_2 x25_1).f2) t116 t117 t118 t121 _ ?side1 A52.out).mono ?_); (case side1 => exact HL111_2.out); rintro e w62 ⟨v119, rfl, ho0, hb⟩; refine ⟨_, rfl, ?_⟩; have n0_ := aK (Kd.V_below HO_23.out hb); have n1_ := aK (Kd.V_below HO_102002.out hb); have n2_ := aK (Kd.V_below HO_110002.out hb); have n3_ := aK (Kd.N_below HO_111002.out hb); have n4_ := aK (Kd.V_below HL111_2.out hb); have HO120 := aK (Kd.V_lower (Kd.V_mono (ok' := fun k_ => (P0_2_ k_ ∨ w.heap.size ≤ k_) ∧ some k_ ≠ (u111002 : Value).ownBlock ∧ k_ ≠ gb101 ∧ k_ ≠ gb102 ∧ k_ ≠ gb109 ∧ k_ ≠ gb110 ∧ k_ ≠ gb112) ho0 (fun k_ hk_ => ⟨Or.elim hk_ (fun hs_ => hs_.1) (fun hn_ => (.inr (Nat.le_trans (below_size HB.out) hn_))), Or.elim hk_ (fun hs_ => hs_.2.1) (fun hn_ => (Kd.fresh' (Kd.N_lt HO_111002.out) k_ hn_)), Or.elim hk_ (fun hs_ => hs_.2.2.1) (fun hn_ => (Kd.freshB BK101.out k_ hn_)), Or.elim hk_ (fun hs_ => hs_.2.2.2.1) (fun hn_ => (Kd.freshB BK102.out k_ hn_)), Or.elim hk_ (fun hs_ => hs_.2.2.2.2.1) (fun hn_ => (Kd.freshB BK109.out k_ hn_)), Or.elim hk_ (fun hs_ => hs_.2.2.2.2.2.1) (fun hn_ => (Kd.freshB BK110.out k_ hn_)), Or.elim hk_ (fun hs_ => hs_.2.2.2.2.2.2) (fun hn_ => (Kd.freshB BK112.out k_ hn_))⟩)) (below_size HB.out)); have n10_ := aK (Kd.C_below (by repeat (first | (with_reducible exact (Kd.V_reads' HL111_2.out).2.2) | (with_reducible refine Kd.C_alloc ?_ _) | (with_reducible refine Kd.C_drewN ?_ _) | (with_reducible refine Kd.C_drew ?_) | exact (Kd.V_reads' HL111_2.out).2.2)) hb); replace BK101 := qb BK101 hb; replace BK102 := qb BK102 hb; replace BK109 := qb BK109 hb; replace BK110 := qb BK110 hb; replace BK112 := qb BK112 hb; clear HO_23; have HO_23 := n0_; clear n0_; clear HO_102002; have HO_102002 := n1_; clear n1_; clear HO_110002; have HO_110002 := n2_; clear n2_; clear HO_111002; have HO_111002 := n3_; clear n3_; clear HL111_2; have HL111_2 := n4_; clear n4_; clear HR111_2; have HR111_2 := n10_; clear n10_; replace HB := qs HB hb; (try clear hb); (try clear ho0); obtain ⟨hcz63_0, hcz63_1, hcz63_2, hfz63_0, hfz63_1, hfz63_2⟩ := cA3 BK112; obtain ⟨Ao64, co64, eo64⟩ := Kd.V_slice HO120.out; subst eo64) | ((with_reducible refine gate_store (t := 53) (p := 9) rfl ?_); refine store_event (t := 53) (p := 9) (v := ?vo_w65) (w1 := (((w62.setCell ⟨gb112, 0, none⟩ (.int .i64 t116)).setCell ⟨gb112, 1, none⟩ (.int .i64 t117)).setCell ⟨gb112, 2, none⟩ (.slice Ao64 t118.length co64))) ?hg ?ho ?hn ?hr ?_; (case ho => rfl); (case hg => rfl); (case hn => rfl); (case hr => first | (go_simp; done) | (go_simp; rfl)); intro w65 hw; have n_ := aJ (show Aside0 (Kd.V k53 53 w65 w.heap.size (fun k_ => (P0_2_ k_ ∨ w.heap.size ≤ k_) ∧ some k_ ≠ (u111002 : Value).ownBlock ∧ k_ ≠ gb101 ∧ k_ ≠ gb102 ∧ k_ ≠ gb109 ∧ k_ ≠ gb110 ∧ k_ ≠ gb112) (.slice (some ad111) l0_2.length c0_2) l0_2) from ⟨(by rw [hw]; exact (by (with_reducible repeat (first | apply Kd.V_alloc | apply Kd.V_drewN | apply Kd.V_drew)); exact Kd.V_mono (vF3 gb112 (Kd.V_mono HO_23.out (fun k_ hk => (⟨hk, hk.2.2.2.2.2.2⟩ : _ ∧ k_ ≠ gb112))) (fun _ hk => hk.2)) (fun _ hk => ⟨hk.1.1, ⟨hk.1.2.1, ⟨hk.1.2.2.1, ⟨hk.1.2.2.2.1, ⟨hk.1.2.2.2.2.1, ⟨hk.1.2.2.2.2.2.1, hk.1.2.2.2.2.2.2⟩⟩⟩⟩⟩⟩)))⟩) (aJ (show Aside0 (Kd.V k53 53 w65 w.heap.size (fun k_ => (P0_2_ k_ ∨ w.heap.size ≤ k_) ∧ some k_ ≠ (u111002 : Value).ownBlock ∧ k_ ≠ gb101 ∧ k_ ≠ gb102 ∧ k_ ≠ gb109 ∧ k_ ≠ gb110 ∧ k_ ≠ gb112) (.slice (some ad111) l0_2.length c0_2) l0_2) from ⟨(by rw [hw]; exact (by (with_reducible repeat (first | apply Kd.V_alloc | apply Kd.V_drewN | apply Kd.V_drew)); exact Kd.V_mono (vF3 gb112 (Kd.V_mono HO_102002.out (fun k_ hk => (⟨hk, hk.2.2.2.2.2.2⟩ : _ ∧ k_ ≠ gb112))) (fun _ hk => hk.2)) (fun _ hk => ⟨hk.1.1, ⟨hk.1.2.1, ⟨hk.1.2.2.1, ⟨hk.1.2.2.2.1, ⟨hk.1.2.2.2.2.1, ⟨hk.1.2.2.2.2.2.1, hk.1.2.2.2.2.2.2⟩⟩⟩⟩⟩⟩)))⟩) (aJ (show Aside0 (Kd.V k53 53 w65 w.heap.size (fun k_ => (P0_2_ k_ ∨ w.heap.size ≤ k_) ∧ some k_ ≠ (u111002 : Value).ownBlock ∧ k_ ≠ gb101 ∧ k_ ≠ gb102 ∧ k_ ≠ gb109 ∧ k_ ≠ gb110 ∧ k_ ≠ gb112) (.slice Ao24 t105.length co24) t105) from ⟨(by rw [hw]; exact (by (with_reducible repeat (first | apply Kd.V_alloc | apply Kd.V_drewN | apply Kd.V_drew)); exact Kd.V_mono (vF3 gb112 (Kd.V_mono HO_110002.out (fun k_ hk => (⟨hk, hk.2.2.2.2.2.2⟩ : _ ∧ k_ ≠ gb112))) (fun _ hk => hk.2)) (fun _ hk => ⟨hk.1.1, ⟨hk.1.2.1, ⟨hk.1.2.2.1, ⟨hk.1.2.2.2.1, ⟨hk.1.2.2.2.2.1, ⟨hk.1.2.2.2.2.2.1, hk.1.2.2.2.2.2.2⟩⟩⟩⟩⟩⟩)))⟩) (aJ (show Aside0 (Kd.N k53 53 w65 w.heap.size (fun k_ => (P0_2_ k_ ∨ w.heap.size ≤ k_) ∧ k_ ≠ gb101 ∧ k_ ≠ gb102 ∧ k_ ≠ gb109 ∧ k_ ≠ gb110 ∧ k_ ≠ gb112) u111002 x111002_1) from ⟨(by rw [hw]; exact (by (with_reducible repeat (first | apply Kd.N_alloc | apply Kd.N_drewN | apply Kd.N_drew)); exact Kd.N_mono (nF3 gb112 (Kd.N_mono HO_111002.out (fun k_ hk => (⟨hk, hk.2.2.2.2.2⟩ : _ ∧ k_ ≠ gb112))) (fun _ hk => hk.2)) (fun _ hk => ⟨hk.1.1, ⟨hk.1.2.1, ⟨hk.1.2.2.1, ⟨hk.1.2.2.2.1, ⟨hk.1.2.2.2.2.1, hk.1.2.2.2.2.2⟩⟩⟩⟩⟩)))⟩) (aJ (show Aside0 (Kd.V k53 53 w65 w.heap.size (fun k_ => (P0_2_ k_ ∨ w.heap.size ≤ k_) ∧ some k_ ≠ (u111002 : Value).ownBlock ∧ k_ ≠ gb101 ∧ k_ ≠ gb102 ∧ k_ ≠ gb109 ∧ k_ ≠ gb110 ∧ k_ ≠ gb112) (.slice A111_2 ((rd_T53 l0_2 x25_1).f2).length c111_2) ((rd_T53 l0_2 x25_1).f2)) from ⟨(by rw [hw]; exact (by (with_reducible repeat (first | apply Kd.V_alloc | apply Kd.V_drewN | apply Kd.V_drew)); exact Kd.V_mono (vF3 gb112 (Kd.V_mono HL111_2.out (fun k_ hk => (⟨hk, hk.2.2.2.2.2.2⟩ : _ ∧ k_ ≠ gb112))) (fun _ hk => hk.2)) (fun _ hk => ⟨hk.1.1, ⟨hk.1.2.1, ⟨hk.1.2.2.1, ⟨hk.1.2.2.2.1, ⟨hk.1.2.2.2.2.1, ⟨hk.1.2.2.2.2.2.1, hk.1.2.2.2.2.2.2⟩⟩⟩⟩⟩⟩)))⟩) (aJ (show Aside0 (Kd.V k53 53 w65 w.heap.size (fun k_ => (P0_2_ k_ ∨ w.heap.size ≤ k_) ∧ some k_ ≠ (u111002 : Value).ownBlock ∧ k_ ≠ gb101 ∧ k_ ≠ gb102 ∧ k_ ≠ gb109 ∧ k_ ≠ gb110 ∧ k_ ≠ gb112) (.slice Ao64 t118.length co64) t118) from ⟨(by rw [hw]; exact (by (with_reducible repeat (first | apply Kd.V_alloc | apply Kd.V_drewN | apply Kd.V_drew)); exact Kd.V_mono (vF3 gb112 (Kd.V_mono HO120.out (fun k_ hk => (⟨hk, hk.2.2.2.2.2.2⟩ : _ ∧ k_ ≠ gb112))) (fun _ hk => hk.2)) (fun _ hk => ⟨hk.1.1, ⟨hk.1.2.1, ⟨hk.1.2.2.1, ⟨hk.1.2.2.2.1, ⟨hk.1.2.2.2.2.1, ⟨hk.1.2.2.2.2.2.1, hk.1.2.2.2.2.2.2⟩⟩⟩⟩⟩⟩)))⟩) (aJ (show Aside0 (w65.heap[gb101]? = some (.cells #[.int .i64 a0_0, .int .i64 a0_1, .slice (some ad111) l0_2.length c0_2] 53 (0, 0))) from ⟨(by rw [hw]; exact (by (repeat first | with_reducible apply zN | with_reducible apply zD | with_reducible apply zA | refine blk_far ?_ NB101_112.out _); exact BK101.out))⟩) (aJ (show Aside0 (w65.heap[gb102]? = some (.cells #[.int .i64 0, .int .i64 0, .slice none 0 0] 53 (0, 0))) from ⟨(by rw [hw]; exact (by (repeat first | with_reducible apply zN | with_reducible apply zD | with_reducible apply zA | refine blk_far ?_ NB102_112.out _); exact BK102.out))⟩) (aJ (show Aside0 (w65.heap[gb109]? = some (.cells #[.int .i64 t103, .int .i64 t104, .slice Ao24 t105.length co24] 53 (0, 0))) from ⟨(by rw [hw]; exact (by (repeat first | with_reducible apply zN | with_reducible apply zD | with_reducible apply zA | refine blk_far ?_ NB109_112.out _); exact BK109.out))⟩) (aJ (show Aside0 (w65.heap[gb110]? = some (.cells #[.int .i64 a0_0, .int .i64 a0_1, u111002] 53 (0, 0))) from ⟨(by rw [hw]; exact (by (repeat first | with_reducible apply zN | with_reducible apply zD | with_reducible apply zA | refine blk_far ?_ NB110_112.out _); exact BK110.out))⟩) (aJ (show Aside0 (w65.heap[gb112]? = some (.cells #[.int .i64 t116, .int .i64 t117, .slice Ao64 t118.length co64] 53 (0, 0))) from ⟨(by rw [hw]; exact (p3 BK112))⟩) (show Aside0 (Below w.heap.size w w65) from ⟨(by rw [hw]; exact (pH HB))⟩))))))))))); clear hw HO_23 HO_102002 HO_110002 HO_111002 HL111_2 HO120 BK101 BK102 BK109 BK110 BK112 HB; obtain ⟨HO_23, HO_102002, HO_110002, HO_111002, HL111_2, HO120, BK101, BK102, BK109, BK110, BK112, HB⟩ := n_; have hnb66 := NB110_101.out; have hnc66 := NB101_110.out; have hnb67 := NB110_102.out; have hnc67 := NB102_110.out; have hnb68 := NB110_109.out; have hnc68 := NB109_110.out; obtain ⟨hcz69_0, hcz69_1, hcz69_2, hfz69_0, hfz69_1, hfz69_2⟩ := cA3 BK110; obtain ⟨hcz70_0, hcz70_1, hcz70_2, hfz70_0, hfz70_1, hfz70_2⟩ := cA3 BK112) | ((with_reducible refine gate_builtin (b := .append) (xs := #[.tmp 37, .tmp 39]) rfl ?_); at_builtin; refine Kd.N_append k53 (w0 := w) w.heap.size rfl (.tmp 37) (.tmp 39) 51 53 (.agg #[(.int .i64 0), (.int .i64 0), (.slice none 0 0)]) 40 rfl Tryd.underlying51 info53 rfl (by decide) (by omega) u111002 x111002_1 (⟨t116, t117, t118⟩ : S53) [.int .i64 t116, .int .i64 t117, .slice Ao64 t118.length co64] (fun k_ => (P0_2_ k_ ∨ w.heap.size ≤ k_) ∧ k_ ≠ gb101 ∧ k_ ≠ gb102 ∧ k_ ≠ gb109 ∧ k_ ≠ gb110 ∧ k_ ≠ gb112) (fun k_ => ((fun k_ => (P0_2_ k_ ∨ w.heap.size ≤ k_) ∧ k_ ≠ gb101 ∧ k_ ≠ gb102 ∧ k_ ≠ gb109 ∧ k_ ≠ gb110 ∧ k_ ≠ gb112)) k_ ∧ some k_ ≠ (u111002 : Value).ownBlock) rfl rfl ?aP (fun _ hk => hk) ?aF ?aO ?aB ?aS ?aL ?_; (case aP => exact (k53_mkF _ _ (⟨t116, t117, t118⟩ : S53) (Kd.V_reads' (Kd.V_mono (ok' := (fun k_ => ((fun k_ => (P0_2_ k_ ∨ w.heap.size ≤ k_) ∧ k_ ≠ gb101 ∧ k_ ≠ gb102 ∧ k_ ≠ gb109 ∧ k_ ≠ gb110 ∧ k_ ≠ gb112)) k_ ∧ some k_ ≠ (u111002 : Value).ownBlock)) (HO120.out) (fun k_ hk => ⟨⟨hk.1, ⟨hk.2.2.1, ⟨hk.2.2.2.1, ⟨hk.2.2.2.2.1, ⟨hk.2.2.2.2.2.1, hk.2.2.2.2.2.2⟩⟩⟩⟩⟩, hk.2.1⟩))).2.1 (Kd.V_F (Kd.V_mono (ok' := (fun k_ => ((fun k_ => (P0_2_ k_ ∨ w.heap.size ≤ k_) ∧ k_ ≠ gb101 ∧ k_ ≠ gb102 ∧ k_ ≠ gb109 ∧ k_ ≠ gb110 ∧ k_ ≠ gb112)) k_ ∧ some k_ ≠ (u111002 : Value).ownBlock)) (HO120.out) (fun k_ hk => ⟨⟨hk.1, ⟨hk.2.2.1, ⟨hk.2.2.2.1, ⟨hk.2.2.2.2.1, ⟨hk.2.2.2.2.2.1, hk.2.2.2.2.2.2⟩⟩⟩⟩⟩, hk.2.1⟩))))); (case aB => exact (pH HB)); (case aF => exact (fun k_ hk => ⟨(.inr (Nat.le_trans (below_size (pH HB)) hk)), Kd.freshB BK101.out k_ hk, Kd.freshB BK102.out k_ hk, Kd.freshB BK109.out k_ hk, Kd.freshB BK110.out k_ hk, Kd.freshB BK112.out k_ hk⟩)); (case aO => exact HO_111002.out); (case aS => exact (below_size (pH HB))); (case aL => have := LMc53.out; omega); intro v123 w71 ho hb hg hat; rw [← Ny122.out] at ho; have n0_ := aK (Kd.V_afterv (ok := (fun k_ => (P0_2_ k_ ∨ w.heap.size ≤ k_) ∧ k_ ≠ gb101 ∧ k_ ≠ gb102 ∧ k_ ≠ gb109 ∧ k_ ≠ gb110 ∧ k_ ≠ gb112)) (by (with_reducible repeat (first | apply Kd.V_alloc | apply Kd.V_drewN | apply Kd.V_drew)); exact Kd.V_mono HO_23.out (fun _ hk => ⟨⟨hk.1, ⟨hk.2.2.1, ⟨hk.2.2.2.1, ⟨hk.2.2.2.2.1, ⟨hk.2.2.2.2.2.1, hk.2.2.2.2.2.2⟩⟩⟩⟩⟩, hk.2.1⟩)) hg hat); have n1_ := aK (Kd.V_afterv (ok := (fun k_ => (P0_2_ k_ ∨ w.heap.size ≤ k_) ∧ k_ ≠ gb101 ∧ k_ ≠ gb102 ∧ k_ ≠ gb109 ∧ k_ ≠ gb110 ∧ k_ ≠ gb112)) (by (with_reducible repeat (first | apply Kd.V_alloc | apply Kd.V_drewN | apply Kd.V_drew)); exact Kd.V_mono HO_102002.out (fun _ hk => ⟨⟨hk.1, ⟨hk.2.2.1, ⟨hk.2.2.2.1, ⟨hk.2.2.2.2.1, ⟨hk.2.2.2.2.2.1, hk.2.2.2.2.2.2⟩⟩⟩⟩⟩, hk.2.1⟩)) hg hat); have n2_ := aK (Kd.V_afterv (ok := (fun k_ => (P0_2_ k_ ∨ w.heap.size ≤ k_) ∧ k_ ≠ gb101 ∧ k_ ≠ gb102 ∧ k_ ≠ gb109 ∧ k_ ≠ gb110 ∧ k_ ≠ gb112)) (by (with_reducible repeat (first | apply Kd.V_alloc | apply Kd.V_drewN | apply Kd.V_drew)); exact Kd.V_mono HO_110002.out (fun _ hk => ⟨⟨hk.1, ⟨hk.2.2.1, ⟨hk.2.2.2.1, ⟨hk.2.2.2.2.1, ⟨hk.2.2.2.2.2.1, hk.2.2.2.2.2.2⟩⟩⟩⟩⟩, hk.2.1⟩)) hg hat); have n3_ := aK (blk_grown BK101.out hg (Kd.N_away HO_111002.out (fun _ hk => hk.2.1))); have n4_ := aK (blk_grown BK102.out hg (Kd.N_away HO_111002.out (fun _ hk => hk.2.2.1))); have n5_ := aK (blk_grown BK109.out hg (Kd.N_away HO_111002.out (fun _ hk => hk.2.2.2.1))); have n6_ := aK (blk_grown BK110.out hg (Kd.N_away HO_111002.out (fun _ hk => hk.2.2.2.2.1))); have n7_ := aK (Kd.V_afterv (ok := (fun k_ => (P0_2_ k_ ∨ w.heap.size ≤ k_) ∧ k_ ≠ gb101 ∧ k_ ≠ gb102 ∧ k_ ≠ gb109 ∧ k_ ≠ gb110 ∧ k_ ≠ gb112)) (by (with_reducible repeat (first | apply Kd.V_alloc | apply Kd.V_drewN | apply Kd.V_drew)); exact Kd.V_mono HL111_2.out (fun _ hk => ⟨⟨hk.1, ⟨hk.2.2.1, ⟨hk.2.2.2.1, ⟨hk.2.2.2.2.1, ⟨hk.2.2.2.2.2.1, hk.2.2.2.2.2.2⟩⟩⟩⟩⟩, hk.2.1⟩)) hg hat); have n8_ := aK (blk_grown BK112.out hg (Kd.N_away HO_111002.out (fun _ hk => hk.2.2.2.2.2))); have n9_ := aK (Kd.V_afterv (ok := (fun k_ => (P0_2_ k_ ∨ w.heap.size ≤ k_) ∧ k_ ≠ gb101 ∧ k_ ≠ gb102 ∧ k_ ≠ gb109 ∧ k_ ≠ gb110 ∧ k_ ≠ gb112)) (by (with_reducible repeat (first | apply Kd.V_alloc | apply Kd.V_drewN | apply Kd.V_drew)); exact Kd.V_mono HO120.out (fun _ hk => ⟨⟨hk.1, ⟨hk.2.2.1, ⟨hk.2.2.2.1, ⟨hk.2.2.2.2.1, ⟨hk.2.2.2.2.2.1, hk.2.2.2.2.2.2⟩⟩⟩⟩⟩, hk.2.1⟩)) hg hat); have n10_ := aK (hb); have HO124 := aK (ho); clear HO_23; have HO_23 := n0_; clear n0_; clear HO_102002; have HO_102002 := n1_; clear n1_; clear HO_110002; have HO_110002 := n2_; clear n2_; clear BK101; have BK101 := n3_; clear n3_; clear BK102; have BK102 := n4_; clear n4_; clear BK109; have BK109 := n5_; clear n5_; clear BK110; have BK110 := n6_; clear n6_; clear HL111_2; have HL111_2 := n7_; clear n7_; clear BK112; have BK112 := n8_; clear n8_; clear HO120; have HO120 := n9_; clear n9_; clear HB; have HB := n10_; clear n10_; clear HO_111002; clear ho hb hg hat; obtain ⟨Ao72, co72, eo72⟩ := Kd.N_slice HO124.out; subst eo72; obtain ⟨hcz73_0, hcz73_1, hcz73_2, hfz73_0, hfz73_1, hfz73_2⟩ := cA3 BK110))
         go_roundg k1
         case measure => have := HK1.out; omega
         case rel => exact ⟨(t121), (wrap64 (x25_1 + 1)), (y122), (.slice Ao72 y122.length co72), rS, rS, H', ⟨by have := HK1.out; omega⟩, ⟨by (with_reducible repeat (first | apply Kd.V_alloc | apply Kd.V_drewN | apply Kd.V_drew)); exact Kd.V_mono (Kd.V_far (p := ⟨gb110, 2, none⟩) (Kd.V_mono HO_23.out (fun k_ hk => (⟨hk, hk.1.2.2.2.2.1⟩ : _ ∧ k_ ≠ gb110))) (fun _ hk => hk.2) (.slice Ao72 y122.length co72)) (fun _ hk => ⟨hk.1.1.1, ⟨hk.1.2, ⟨hk.1.1.2.1, ⟨hk.1.1.2.2.1, ⟨hk.1.1.2.2.2.1, hk.1.1.2.2.2.2.1⟩⟩⟩⟩⟩)⟩, ⟨by (with_reducible repeat (first | apply Kd.V_alloc | apply Kd.V_drewN | apply Kd.V_drew)); exact Kd.V_mono (Kd.V_far (p := ⟨gb110, 2, none⟩) (Kd.V_mono HO_102002.out (fun k_ hk => (⟨hk, hk.1.2.2.2.2.1⟩ : _ ∧ k_ ≠ gb110))) (fun _ hk => hk.2) (.slice Ao72 y122.length co72)) (fun _ hk => ⟨hk.1.1.1, ⟨hk.1.2, ⟨hk.1.1.2.1, ⟨hk.1.1.2.2.1, ⟨hk.1.1.2.2.2.1, hk.1.1.2.2.2.2.1⟩⟩⟩⟩⟩)⟩, ⟨by (with_reducible repeat (first | apply Kd.V_alloc | apply Kd.V_drewN | apply Kd.V_drew)); exact Kd.V_mono (Kd.V_far (p := ⟨gb110, 2, none⟩) (Kd.V_mono HO_110002.out (fun k_ hk => (⟨hk, hk.1.2.2.2.2.1⟩ : _ ∧ k_ ≠ gb110))) (fun _ hk => hk.2) (.slice Ao72 y122.length co72)) (fun _ hk => ⟨hk.1.1.1, ⟨hk.1.2, ⟨hk.1.1.2.1, ⟨hk.1.1.2.2.1, ⟨hk.1.1.2.2.2.1, hk.1.1.2.2.2.2.1⟩⟩⟩⟩⟩)⟩, ⟨by (with_reducible repeat (first | apply Kd.N_alloc | apply Kd.N_drewN | apply Kd.N_drew)); exact Kd.N_mono (Kd.N_far (p := ⟨gb110, 2, none⟩) (Kd.N_mono HO124.out (fun k_ hk => (⟨hk, hk.2.2.2.2.1⟩ : _ ∧ k_ ≠ gb110))) (fun _ hk => hk.2) (.slice Ao72 y122.length co72)) (fun _ hk => ⟨hk.1.1, ⟨hk.1.2.1, ⟨hk.1.2.2.1, ⟨hk.1.2.2.2.1, hk.1.2.2.2.2.1⟩⟩⟩⟩)⟩, ⟨by (repeat first | with_reducible apply zN | with_reducible apply zD | with_reducible apply zA | refine blk_far ?_ NB101_110.out _); exact BK101.out⟩, ⟨by (repeat first | with_reducible apply zN | with_reducible apply zD | with_reducible apply zA | refine blk_far ?_ NB102_110.out _); exact BK102.out⟩, ⟨by (repeat first | with_reducible apply zN | with_reducible apply zD | with_reducible apply zA | refine blk_far ?_ NB109_110.out _); exact BK109.out⟩, ⟨by (with_reducible repeat first | apply zN | apply zD | apply zA); refine blk_put (cs := #[.int .i64 a0_0, .int .i64 a0_1, u111002]) ?_ 2 _ rfl; (with_reducible repeat first | apply zN | apply zD | apply zA); exact BK110.out⟩, ⟨pH HB⟩⟩
        ·rw [if_neg c53] at H
         exact absurd H (by simp)
      ·rw [if_neg c34] at H
       exact absurd H (by simp)
     ·rw [if_neg c33] at H
      exact absurd H (by simp)
    ·rw [if_neg c32] at H
     have c32b0 : decide (x25_1 < (l0_2.length : Int)) = false := decide_eq_false c32
     clear c32
     simp only [Option.some.injEq, Prod.mk.injEq] at H
     obtain ⟨rfl, rfl, rfl, rfl⟩ := H
     have hnb74 := NB110_101.out
     have hnc74 := NB101_110.out
     have hnb75 := NB110_102.out
     have hnc75 := NB102_110.out
     have hnb76 := NB110_109.out
     have hnc76 := NB109_110.out
     obtain ⟨hcz77_0, hcz77_1, hcz77_2, hfz77_0, hfz77_1, hfz77_2⟩ := cA3 BK110
     have hnb78 := NB102_101.out
     have hnc78 := NB101_102.out
     have hnb79 := NB102_109.out
     have hnc79 := NB109_102.out
     obtain ⟨hcz80_0, hcz80_1, hcz80_2, hfz80_0, hfz80_1, hfz80_2⟩ := cA3 BK102
     obtain ⟨Ao81, co81, eo81⟩ := Kd.N_slice HO_111002.out
     subst eo81
     go_wp2
     refine bodyPost_ret (results_ct rfl _ _ gb102 53 #[.int .i64 a0_0, .int .i64 a0_1, .slice Ao81 x111002_1.length co81] (0, 0) _ rfl (p3 BK102) Tryd.underlying53 rfl (by kernel_rfl)) rfl ?_
     exact ⟨_, eW, Kd.N_V (by (with_reducible repeat (first | apply Kd.N_alloc | apply Kd.N_drewN | apply Kd.N_drew)); exact Kd.N_mono (nF3 gb102 (Kd.N_mono HO_111002.out (fun k_ hk => (⟨hk, hk.2.2.1⟩ : _ ∧ k_ ≠ gb102))) (fun _ hk => hk.2)) (fun _ hk => hk.1.1)), pH HB⟩


def spec_ldTold.f (k : Nat) (a0_0 : Int) (a0_1 : Int) (l0_2 : List (S53)) : Option ((List (S65)) × Bool) := (spec_GoodComb.f k (Flat53.flT ⟨a0_0, a0_1, l0_2⟩ (-1) [])).bind fun b => (if b = true then (some (Flat53.flT ⟨a0_0, a0_1, l0_2⟩ (-1) [], true)) else (some (([] : List S65), false)))
set_option maxHeartbeats 4000000 in
set_option maxRecDepth 100000 in
theorem spec_ldTold.calls (k : Nat) (a0_0 : Int) (a0_1 : Int) (A0_2 : Option Addr) (c0_2 : Nat) (l0_2 : List (S53)) (r1 : List (S65)) (r2 : Bool) (w : World) (hr0_2 : Kd.C k53 w A0_2 l0_2.length l0_2) (hc0_2 : l0_2.length ≤ c0_2) (h : spec_ldTold.f k a0_0 a0_1 l0_2 = some (r1, r2)) :
  Calls Tryd.prog 27 #[.agg #[.int .i64 a0_0, .int .i64 a0_1, .slice A0_2 l0_2.length c0_2]] w fun e w' => ∃ v0_ : Value, e = .returned (.tuple #[v0_, .bool r2]) ∧ Kd.R k65 65 w' w.heap.size (fun _ => True) v0_ r1 ∧ Below w.heap.size w w' := by
 have hu77 := Tryd.underlying53
 have HR0 := aK hr0_2
 have HC0 := aK hc0_2
 clear hr0_2 hc0_2
 have HB := aK (Below.refl w.heap.size w)
 have H : ((spec_GoodComb.f k (Flat53.flT ⟨a0_0, a0_1, l0_2⟩ (-1) [])).bind fun b => (if b = true then (some (Flat53.flT ⟨a0_0, a0_1, l0_2⟩ (-1) [], true)) else (some (([] : List S65), false)))) = some (r1, r2) := h
 clear h
 replace H := Option.bind_eq_some_iff.mp H
 obtain ⟨b, HG0, H⟩ := H
 have HG := aK HG0
 clear HG0
 cases b with
 | true =>
  rw [if_pos rfl] at H
  simp only [Option.some.injEq, Prod.mk.injEq] at H
  obtain ⟨rfl, rfl⟩ := H
  go_enter Tryd.func27, Tryd.ntmps27
  go_wp2_with (first | ((with_reducible refine gate_dst (N := 1) rfl ?_); refine bE (N := 1) (cs := #[.int .i64 a0_0, .int .i64 a0_1, .slice A0_2 l0_2.length c0_2]) (t := 53) ?_; intro gb hg w5 hbox hb; have n0_ := aK (below_step HB.out hb); have BK := aK hbox; clear HB; have HB := n0_; clear n0_; clear hb hbox hg; have hcz_0 : w5.cell? ⟨gb, 0, none⟩ = some (.int .i64 a0_0) := (blk_cell BK.out 0).trans rfl; have hcz_1 : w5.cell? ⟨gb, 1, none⟩ = some (.int .i64 a0_1) := (blk_cell BK.out 1).trans rfl; have hcz_2 : w5.cell? ⟨gb, 2, none⟩ = some (.slice A0_2 l0_2.length c0_2) := (blk_cell BK.out 2).trans rfl; have hfz_0 := blk_frozen BK.out 0; have hfz_1 := blk_frozen BK.out 1; have hfz_2 := blk_frozen BK.out 2) | ((with_reducible refine gate_callee (f := 29) rfl ?_); refine goesL_ (some 6) rfl rfl Tryd.func29 (by kernel_rfl) rfl #[.slice none 0 0, .agg #[.int .i64 a0_0, .int .i64 a0_1, .slice A0_2 l0_2.length c0_2], .int .i64 (-1)] rfl tA ?_; refine (Flat53.flat_some w (SizeOf.sizeOf l0_2) (⟨a0_0, a0_1, l0_2⟩ : S53) (-1) A0_2 c0_2 [] (.slice none 0 0) _ (Nat.le_refl _) HC0.out (by simp) (Kd.R_nil _ _ _ _ _) HB.out HR0.out).mono ?_; rintro e w7 ⟨v2, rfl, ho2, hb2⟩; refine ⟨_, rfl, ?_⟩; obtain ⟨A1, c1, rfl⟩ := Kd.R_slice ho2; have n_ := aJ (aK hb2) (aK ho2); clear HB BK; obtain ⟨HB, HO⟩ := n_; clear ho2 hb2) | ((with_reducible refine gate_callee (f := 17) rfl ?_); refine goesL_ (some 8) rfl rfl Tryd.func17 (by kernel_rfl) rfl #[.slice A1 (Flat53.flT (⟨a0_0, a0_1, l0_2⟩ : S53) (-1) []).length c1] rfl tA ?_; refine (spec_GoodComb.calls k _ _ _ true _ (Kd.R_reads' HO.out).2.2 (Kd.R_reads' HO.out).2.1 HG.out).mono ?_; rintro e w8 ⟨rfl, hb⟩; refine ⟨_, rfl, ?_⟩; have n_ := aJ (aK (below_step HB.out hb)) (aK (Kd.R_below HO.out hb)); clear HB HO; obtain ⟨HB, HO⟩ := n_; clear hb))
  go_ret2
  exact ⟨_, rfl, HO.out, HB.out⟩
 | false =>
  rw [if_neg (by decide)] at H
  simp only [Option.some.injEq, Prod.mk.injEq] at H
  obtain ⟨rfl, rfl⟩ := H
  go_enter Tryd.func27, Tryd.ntmps27
  go_wp2_with (first | ((with_reducible refine gate_dst (N := 1) rfl ?_); refine bE (N := 1) (cs := #[.int .i64 a0_0, .int .i64 a0_1, .slice A0_2 l0_2.length c0_2]) (t := 53) ?_; intro gb hg w5 hbox hb; have n0_ := aK (below_step HB.out hb); have BK := aK hbox; clear HB; have HB := n0_; clear n0_; clear hb hbox hg; have hcz_0 : w5.cell? ⟨gb, 0, none⟩ = some (.int .i64 a0_0) := (blk_cell BK.out 0).trans rfl; have hcz_1 : w5.cell? ⟨gb, 1, none⟩ = some (.int .i64 a0_1) := (blk_cell BK.out 1).trans rfl; have hcz_2 : w5.cell? ⟨gb, 2, none⟩ = some (.slice A0_2 l0_2.length c0_2) := (blk_cell BK.out 2).trans rfl; have hfz_0 := blk_frozen BK.out 0; have hfz_1 := blk_frozen BK.out 1; have hfz_2 := blk_frozen BK.out 2) | ((with_reducible refine gate_callee (f := 29) rfl ?_); refine goesL_ (some 6) rfl rfl Tryd.func29 (by kernel_rfl) rfl #[.slice none 0 0, .agg #[.int .i64 a0_0, .int .i64 a0_1, .slice A0_2 l0_2.length c0_2], .int .i64 (-1)] rfl tA ?_; refine (Flat53.flat_some w (SizeOf.sizeOf l0_2) (⟨a0_0, a0_1, l0_2⟩ : S53) (-1) A0_2 c0_2 [] (.slice none 0 0) _ (Nat.le_refl _) HC0.out (by simp) (Kd.R_nil _ _ _ _ _) HB.out HR0.out).mono ?_; rintro e w7 ⟨v2, rfl, ho2, hb2⟩; refine ⟨_, rfl, ?_⟩; obtain ⟨A1, c1, rfl⟩ := Kd.R_slice ho2; have n_ := aJ (aK hb2) (aK ho2); clear HB BK; obtain ⟨HB, HO⟩ := n_; clear ho2 hb2) | ((with_reducible refine gate_callee (f := 17) rfl ?_); refine goesL_ (some 8) rfl rfl Tryd.func17 (by kernel_rfl) rfl #[.slice A1 (Flat53.flT (⟨a0_0, a0_1, l0_2⟩ : S53) (-1) []).length c1] rfl tA ?_; refine (spec_GoodComb.calls k _ _ _ false _ (Kd.R_reads' HO.out).2.2 (Kd.R_reads' HO.out).2.1 HG.out).mono ?_; rintro e w8 ⟨rfl, hb⟩; refine ⟨_, rfl, ?_⟩; have n_ := aJ (aK (below_step HB.out hb)) (aK (Kd.R_below HO.out hb)); clear HB HO; obtain ⟨HB, HO⟩ := n_; clear hb))
  go_ret2
  exact ⟨_, rfl, Kd.R_nil _ _ _ _ _, HB.out⟩

mutual
def spec_NormalComb.j0 : Nat → List (S65) → Int → Bool → Option ((List (S65)) × Int × Bool)
 | 0, _, _, _ => none
 | k + 1, x0, x1, x22 => if x22 = true then (some (([] : List (S65)), 0, false)) else ((spec_ldTree.f k x0 0).bind fun bt103 => (spec_NormalComb.l0 k x1 0 bt103.1 bt103.2.1 bt103.2.2))
def spec_NormalComb.l0 : Nat → Int → Int → Int → Int → List (S53) → Option ((List (S65)) × Int × Bool)
 | 0, _, _, _, _, _ => none
 | k + 1, x1, x8, x109000, x109001, x109002 => (spec_ldStep.f k x109000 x109001 x109002).bind fun bt109 => (if bt109.2.2.2 = true then ((spec_ldTold.f k bt109.1 bt109.2.1 bt109.2.2.1).bind fun bt116 => (if bt116.2 = true then (if x8 = x1 then (some (([] : List (S65)), 0, false)) else (spec_NormalComb.l0 k x1 (wrap64 (x8 + 1)) bt109.1 bt109.2.1 bt109.2.2.1)) else (some (([] : List (S65)), 0, false)))) else ((spec_ldTold.f k x109000 x109001 x109002).bind fun bt120 => (some (bt120.1, x8, true))))
end
def spec_NormalComb.f (k : Nat) (l0 : List (S65)) (a1 : Int) : Option ((List (S65)) × Int × Bool) := (spec_GoodComb.f k l0).bind fun t101 => (if t101 = true then ((spec_l1In.f a1 0 1000).bind fun t102 => (spec_NormalComb.j0 k l0 a1 (!t102))) else (spec_NormalComb.j0 k l0 a1 true))
set_option maxHeartbeats 8000000 in
set_option maxRecDepth 100000 in
theorem spec_NormalComb.calls (k : Nat) (A0 : Option Addr) (c0 : Nat) (l0 : List (S65)) (a1 : Int) (r1 : List (S65)) (r2 : Int) (r3 : Bool) (w : World) (hr0 : Kd.C k65 w A0 l0.length l0) (hc0 : l0.length ≤ c0) (h : spec_NormalComb.f k l0 a1 = some (r1, r2, r3)) :
  Calls Tryd.prog 9 #[.slice A0 l0.length c0, .int .i64 a1] w fun e w' => ∃ v0_ : Value, e = .returned (.tuple #[v0_, .int .i64 r2, .bool r3]) ∧ Kd.R k65 65 w' w.heap.size (fun _ => True) v0_ r1 ∧ Below w.heap.size w w' := by
 have hu53 := Tryd.underlying53
 have HR0 := aK hr0
 have HC0 := aK hc0
 clear hr0 hc0
 have HB := aK (Below.refl w.heap.size w)
 have H : ((spec_GoodComb.f k l0).bind fun t101 => (if t101 = true then ((spec_l1In.f a1 0 1000).bind fun t102 => (spec_NormalComb.j0 k l0 a1 (!t102))) else (spec_NormalComb.j0 k l0 a1 true))) = some (r1, r2, r3) := h
 clear h
 have HC3 := aK H
 clear H
 go_enter Tryd.func9, Tryd.ntmps9
 go_upto_region 1 with (fail)
 go_cut [22] (fun v22 wc => ∃ (kq : Nat) (x22_2 : Bool), v22 = .bool x22_2 ∧ Aside0 (spec_NormalComb.j0 kq l0 a1 x22_2 = some (r1, r2, r3)) ∧ Aside0 (kq ≤ k) ∧ Aside0 (Below w.heap.size w wc))
 case first =>
  have H := HC3.out
  clear HC3
  obtain ⟨t101, A4, H⟩ := oB H
  try dsimp only at H
  by_cases c5 : t101 = true
  ·subst c5
   rw [if_pos rfl] at H
   obtain ⟨t102, A6, H⟩ := oB H
   try dsimp only at H
   have H' := aK H
   clear H
   go_wp2_with (first | ((with_reducible refine gate_callee (f := 17) rfl ?_); refine goesL_ (some 16) rfl rfl Tryd.func17 (by kernel_rfl) rfl #[.slice A0 l0.length c0] rfl tA ?_; (with_reducible refine (spec_GoodComb.calls k _ _ l0 true _ ?side1 ?side2 A4.out).mono ?_); (case side1 => exact sC (Kd.C_below HR0.out HB.out)); (case side2 => exact HC0.out); rintro e w7 ⟨rfl, hb⟩; refine ⟨_, rfl, ?_⟩; replace HB := qs HB hb; (try clear hb)) | (go_at_call 25; (with_reducible refine (spec_l1In.calls a1 0 1000 t102 _ A6.out).mono ?_); rintro e w' ⟨rfl, ⟨nd, rfl⟩⟩))
   go_meet
   case rel => exact ⟨_, (!t102), rS, H', ⟨by first | omega | exact Nat.le_refl _⟩, ⟨pH HB⟩⟩
  ·replace c5 := Bool.eq_false_iff.mpr c5
   subst c5
   rw [if_neg (show ¬ (false = true) by decide)] at H
   have H' := aK H
   clear H
   go_wp2_with (first | ((with_reducible refine gate_callee (f := 17) rfl ?_); refine goesL_ (some 16) rfl rfl Tryd.func17 (by kernel_rfl) rfl #[.slice A0 l0.length c0] rfl tA ?_; (with_reducible refine (spec_GoodComb.calls k _ _ l0 false _ ?side1 ?side2 A4.out).mono ?_); (case side1 => exact sC (Kd.C_below HR0.out HB.out)); (case side2 => exact HC0.out); rintro e w8 ⟨rfl, hb⟩; refine ⟨_, rfl, ?_⟩; replace HB := qs HB hb; (try clear hb)))
   go_meet
   case rel => exact ⟨_, (true), rS, H', ⟨by first | omega | exact Nat.le_refl _⟩, ⟨pH HB⟩⟩
 case rest =>
  clear HC3
  try clear c1; try clear p2; try clear c5
  obtain ⟨kq, x22_2, rfl, HA, HJ2, HB⟩ := hcut
  cases kq with
  | zero => exact absurd HA.out (by simp [spec_NormalComb.j0])
  | succ kj2 =>
   have H := HA.out
   clear HA
   simp only [spec_NormalComb.j0] at H
   by_cases c9 : x22_2 = true
   ·subst c9
    rw [if_pos rfl] at H
    simp only [Option.some.injEq, Prod.mk.injEq] at H
    obtain ⟨rfl, rfl, rfl⟩ := H
    go_wp2
    go_ret3
    exact ⟨_, eW, by first | exact Kd.R_nil _ _ _ _ _ | exact Kd.N_nil _ _ _ _ _ | exact Kd.V_nil _ _ _ _ _ | exact Kd.Q_nil _ _ _ _ _ | exact Kd.S_nil _ _ _ _ _, pH HB⟩
   ·replace c9 := Bool.eq_false_iff.mpr c9
    subst c9
    rw [if_neg (show ¬ (false = true) by decide)] at H
    obtain ⟨⟨t103, t104, t105⟩, A10, H⟩ := oB H
    try dsimp only at H
    have H' := aK H
    clear H
    go_wp2_with (first | ((with_reducible refine gate_callee (f := 19) rfl ?_); refine goesL_ (some 24) rfl rfl Tryd.func19 (by kernel_rfl) rfl #[.slice A0 l0.length c0, .int .i64 0] rfl tA ?_; (with_reducible refine (spec_ldTree.calls kj2 _ _ l0 0 t103 t104 t105 _ ?side1 ?side2 A10.out).mono ?_); (case side1 => exact sC (Kd.C_below HR0.out HB.out)); (case side2 => exact HC0.out); rintro e w11 ⟨v106, rfl, ho0, hb⟩; refine ⟨_, rfl, ?_⟩; have HO107 := aK (Kd.R_lower ho0 (below_size HB.out)); replace HB := qs HB hb; (try clear hb); (try clear ho0)) | ((with_reducible refine gate_dst (N := 7) rfl ?_); refine bE (N := 7) (cs := #[.int .i64 0, .int .i64 0, .slice none 0 0]) (t := 53) ?_; intro gb108 hg w12 hbox hb; have n0_ := aK (Kd.R_below (Kd.R_elderB HO107.out gb108 (Nat.le_of_eq hg.symm)) hb); have GW108 := qw HB hg; have GE108 := qw HB hg; have BK108 := aK hbox; clear HO107; have HO107 := n0_; clear n0_; replace HB := qs HB hb; clear hb hbox hg; obtain ⟨hcz13_0, hcz13_1, hcz13_2, hfz13_0, hfz13_1, hfz13_2⟩ := cA3 BK108; obtain ⟨Ao14, co14, eo14⟩ := Kd.R_slice HO107.out; subst eo14))
    go_loopg [8] kj2 (fun kq v8 w' => ∃ (x8_2 : Int) (x109000_2 : Int) (x109001_2 : Int) (x109002_2 : List (S53)) (u109002 : Value), v8 = .int .i64 x8_2 ∧ Aside0 (spec_NormalComb.l0 kq a1 x8_2 x109000_2 x109001_2 x109002_2 = some (r1, r2, r3)) ∧ Aside0 (kq ≤ kj2) ∧ Aside0 (Kd.V k53 53 w' w.heap.size (fun k_ => k_ ≠ gb108) u109002 x109002_2) ∧ Aside0 (w'.heap[gb108]? = some (.cells #[.int .i64 x109000_2, .int .i64 x109001_2, u109002] 53 (0, 0))) ∧ Aside0 (Below w.heap.size w w'))
    case atStart => exact ⟨(0), (t103), (t104), (t105), (.slice Ao14 t105.length co14), rS, H', ⟨Nat.le_refl _⟩, ⟨Kd.R_V (by (with_reducible repeat (first | apply Kd.R_alloc | apply Kd.R_drewN | apply Kd.R_drew)); exact Kd.R_mono (Kd.R_far (p := ⟨gb108, 2, none⟩) (Kd.R_far (p := ⟨gb108, 1, none⟩) (Kd.R_far (p := ⟨gb108, 0, none⟩) (Kd.R_mono HO107.out (fun k_ hk => (⟨hk, hk.2⟩ : _ ∧ k_ ≠ gb108))) (fun _ hk => hk.2) (.int .i64 t103)) (fun _ hk => hk.2) (.int .i64 t104)) (fun _ hk => hk.2) (.slice Ao14 t105.length co14)) (fun _ hk => hk.1.2))⟩, ⟨p3 BK108⟩, ⟨pH HB⟩⟩
    case round =>
     clear H'
     try clear c1; try clear p2; try clear c5; try clear c9; try clear p2; try clear hcz13_0 hcz13_1 hcz13_2 hfz13_0 hfz13_1 hfz13_2
     obtain ⟨x8_2, x109000_2, x109001_2, x109002_2, u109002, rfl, HA, HK2, HO_109002, BK108, HB⟩ := hrel
     cases gk with
     | zero => exact absurd HA.out (by simp [spec_NormalComb.l0])
     | succ k2 =>
      have H := HA.out
      clear HA
      simp only [spec_NormalComb.l0] at H
      obtain ⟨⟨t109, t110, t111, t114⟩, A15, H⟩ := oB H
      try dsimp only at H
      by_cases c16 : t114 = true
      ·subst c16
       rw [if_pos rfl] at H
       obtain ⟨⟨t116, t119⟩, A17, H⟩ := oB H
       try dsimp only at H
       by_cases c18 : t119 = true
       ·subst c18
        rw [if_pos rfl] at H
        by_cases c19 : x8_2 = a1
        ·rw [if_pos c19] at H
         have c19b0 : (x8_2 == a1) = true := beq_iff_eq.mpr c19
         have c19b1 : (x8_2 != a1) = false := bne_eq_false_iff_eq.mpr c19
         clear c19
         simp only [Option.some.injEq, Prod.mk.injEq] at H
         obtain ⟨rfl, rfl, rfl⟩ := H
         obtain ⟨hcz20_0, hcz20_1, hcz20_2, hfz20_0, hfz20_1, hfz20_2⟩ := cA3 BK108
         obtain ⟨Ao21, co21, eo21⟩ := Kd.V_slice HO_109002.out
         subst eo21
         go_wp2_with (first | ((with_reducible refine gate_callee (f := 26) rfl ?_); refine goesL_ (some 29) rfl rfl Tryd.func26 (by kernel_rfl) rfl #[.agg #[.int .i64 x109000_2, .int .i64 x109001_2, .slice Ao21 x109002_2.length co21]] rfl tA ?_; (with_reducible refine (spec_ldStep.calls k2 x109000_2 x109001_2 (fun k_ => k_ ≠ gb108) _ _ x109002_2 t109 t110 t111 true _ ?side1 A15.out).mono ?_); (case side1 => exact HO_109002.out); rintro e w22 ⟨v112, rfl, ho0, hb⟩; refine ⟨_, rfl, ?_⟩; have n0_ := aK (Kd.V_below HO_109002.out hb); have HO113 := aK (Kd.V_lower (Kd.V_mono (ok' := fun k_ => k_ ≠ gb108) ho0 (fun k_ hk_ => Or.elim hk_ (fun hs_ => hs_) (fun hn_ => (Kd.freshB BK108.out k_ hn_)))) (below_size HB.out)); replace BK108 := qb BK108 hb; clear HO_109002; have HO_109002 := n0_; clear n0_; replace HB := qs HB hb; (try clear hb); (try clear ho0)) | ((with_reducible refine gate_dst (N := 9) rfl ?_); refine bE (N := 9) (cs := #[.int .i64 0, .int .i64 0, .slice none 0 0]) (t := 53) ?_; intro gb115 hg w23 hbox hb; have GW115 := qw HB hg; have GE115 := qw HB hg; have NB108_115 := ql BK108 hg; have NB115_108 := qg BK108 hg; replace HO_109002 := qv HO_109002 hg hb; replace HO113 := qv HO113 hg hb; replace BK108 := qb BK108 hb; have BK115 := aK hbox; replace HB := qs HB hb; clear hb hbox hg; have hnb24 := NB115_108.out; have hnc24 := NB108_115.out; obtain ⟨hcz25_0, hcz25_1, hcz25_2, hfz25_0, hfz25_1, hfz25_2⟩ := cA3 BK115; obtain ⟨Ao26, co26, eo26⟩ := Kd.V_slice HO113.out; subst eo26) | ((with_reducible refine gate_callee (f := 27) rfl ?_); refine goesL_ (some 43) rfl rfl Tryd.func27 (by kernel_rfl) rfl #[.agg #[.int .i64 t109, .int .i64 t110, .slice Ao26 t111.length co26]] rfl tA ?_; (with_reducible refine (spec_ldTold.calls k2 t109 t110 _ _ t111 t116 true _ ?side1 ?side2 A17.out).mono ?_); (case side1 => refine (Kd.V_reads' (e := 53) (base := w.heap.size) (ok := fun k_ => (k_ ≠ gb108 ∧ k_ ≠ gb115)) (n := t111.length) (c := co26) ?_).2.2; exact (by (with_reducible repeat (first | apply Kd.V_alloc | apply Kd.V_drewN | apply Kd.V_drew)); exact (Kd.V_mono (vF3 gb115 (Kd.V_mono HO113.out (fun k_ hk => (⟨hk, hk.2⟩ : _ ∧ k_ ≠ gb115))) (fun _ hk => hk.2)) (fun _ h_ => h_.1)))); (case side2 => exact (Kd.V_reads' HO113.out).2.1); rintro e w27 ⟨v117, rfl, ho0, hb⟩; refine ⟨_, rfl, ?_⟩; have n_ := aJ (aK (Kd.V_elder' (by (with_reducible repeat (first | apply Kd.V_alloc | apply Kd.V_drewN | apply Kd.V_drew)); exact (Kd.V_mono (vF3 gb115 (Kd.V_mono HO_109002.out (fun k_ hk => (⟨hk, hk.2⟩ : _ ∧ k_ ≠ gb115))) (fun _ hk => hk.2)) (fun _ h_ => h_.1))) (Kd.R_base ho0) hb)) (aJ (aK (Kd.V_elder' (by (with_reducible repeat (first | apply Kd.V_alloc | apply Kd.V_drewN | apply Kd.V_drew)); exact (Kd.V_mono (vF3 gb115 (Kd.V_mono HO113.out (fun k_ hk => (⟨hk, hk.2⟩ : _ ∧ k_ ≠ gb115))) (fun _ hk => hk.2)) (fun _ h_ => h_.1))) (Kd.R_base ho0) hb)) (aJ (aK (Kd.R_lower ho0 (below_size (pH HB)))) (aJ (aK (blk_below (g := gb108) (o := .cells #[.int .i64 x109000_2, .int .i64 x109001_2, .slice Ao21 x109002_2.length co21] 53 (0, 0)) (by (repeat first | with_reducible apply zN | with_reducible apply zD | with_reducible apply zA | refine blk_far ?_ NB108_115.out _); exact BK108.out) hb)) (aJ (aK (blk_below (g := gb115) (o := .cells #[.int .i64 t109, .int .i64 t110, .slice Ao26 t111.length co26] 53 (0, 0)) (p3 BK115) hb)) (aK (below_step (pH HB) hb)))))); clear HO_109002 HO113 BK108 BK115 HB; obtain ⟨HO_109002, HO113, HO118, BK108, BK115, HB⟩ := n_; (try clear hb); (try clear ho0)))
         go_ret3
         exact ⟨_, eW, by first | exact Kd.R_nil _ _ _ _ _ | exact Kd.N_nil _ _ _ _ _ | exact Kd.V_nil _ _ _ _ _ | exact Kd.Q_nil _ _ _ _ _ | exact Kd.S_nil _ _ _ _ _, pH HB⟩
        ·rw [if_neg c19] at H
         have c19b0 : (x8_2 == a1) = false := beq_eq_false_iff_ne.mpr c19
         have c19b1 : (x8_2 != a1) = true := bne_iff_ne.mpr c19
         have H' := aK H
         clear H
         obtain ⟨hcz28_0, hcz28_1, hcz28_2, hfz28_0, hfz28_1, hfz28_2⟩ := cA3 BK108
         obtain ⟨Ao29, co29, eo29⟩ := Kd.V_slice HO_109002.out
         subst eo29
         go_wp2_with (first | ((with_reducible refine gate_callee (f := 26) rfl ?_); refine goesL_ (some 29) rfl rfl Tryd.func26 (by kernel_rfl) rfl #[.agg #[.int .i64 x109000_2, .int .i64 x109001_2, .slice Ao29 x109002_2.length co29]] rfl tA ?_; (with_reducible refine (spec_ldStep.calls k2 x109000_2 x109001_2 (fun k_ => k_ ≠ gb108) _ _ x109002_2 t109 t110 t111 true _ ?side1 A15.out).mono ?_); (case side1 => exact HO_109002.out); rintro e w30 ⟨v112, rfl, ho0, hb⟩; refine ⟨_, rfl, ?_⟩; have n0_ := aK (Kd.V_below HO_109002.out hb); have HO113 := aK (Kd.V_lower (Kd.V_mono (ok' := fun k_ => k_ ≠ gb108) ho0 (fun k_ hk_ => Or.elim hk_ (fun hs_ => hs_) (fun hn_ => (Kd.freshB BK108.out k_ hn_)))) (below_size HB.out)); replace BK108 := qb BK108 hb; clear HO_109002; have HO_109002 := n0_; clear n0_; replace HB := qs HB hb; (try clear hb); (try clear ho0)) | ((with_reducible refine gate_dst (N := 9) rfl ?_); refine bE (N := 9) (cs := #[.int .i64 0, .int .i64 0, .slice none 0 0]) (t := 53) ?_; intro gb115 hg w31 hbox hb; have GW115 := qw HB hg; have GE115 := qw HB hg; have NB108_115 := ql BK108 hg; have NB115_108 := qg BK108 hg; replace HO_109002 := qv HO_109002 hg hb; replace HO113 := qv HO113 hg hb; replace BK108 := qb BK108 hb; have BK115 := aK hbox; replace HB := qs HB hb; clear hb hbox hg; have hnb32 := NB115_108.out; have hnc32 := NB108_115.out; obtain ⟨hcz33_0, hcz33_1, hcz33_2, hfz33_0, hfz33_1, hfz33_2⟩ := cA3 BK115; obtain ⟨Ao34, co34, eo34⟩ := Kd.V_slice HO113.out; subst eo34) | ((with_reducible refine gate_callee (f := 27) rfl ?_); refine goesL_ (some 43) rfl rfl Tryd.func27 (by kernel_rfl) rfl #[.agg #[.int .i64 t109, .int .i64 t110, .slice Ao34 t111.length co34]] rfl tA ?_; (with_reducible refine (spec_ldTold.calls k2 t109 t110 _ _ t111 t116 true _ ?side1 ?side2 A17.out).mono ?_); (case side1 => refine (Kd.V_reads' (e := 53) (base := w.heap.size) (ok := fun k_ => (k_ ≠ gb108 ∧ k_ ≠ gb115)) (n := t111.length) (c := co34) ?_).2.2; exact (by (with_reducible repeat (first | apply Kd.V_alloc | apply Kd.V_drewN | apply Kd.V_drew)); exact (Kd.V_mono (vF3 gb115 (Kd.V_mono HO113.out (fun k_ hk => (⟨hk, hk.2⟩ : _ ∧ k_ ≠ gb115))) (fun _ hk => hk.2)) (fun _ h_ => h_.1)))); (case side2 => exact (Kd.V_reads' HO113.out).2.1); rintro e w35 ⟨v117, rfl, ho0, hb⟩; refine ⟨_, rfl, ?_⟩; have n_ := aJ (aK (Kd.V_elder' (by (with_reducible repeat (first | apply Kd.V_alloc | apply Kd.V_drewN | apply Kd.V_drew)); exact (Kd.V_mono (vF3 gb115 (Kd.V_mono HO_109002.out (fun k_ hk => (⟨hk, hk.2⟩ : _ ∧ k_ ≠ gb115))) (fun _ hk => hk.2)) (fun _ h_ => h_.1))) (Kd.R_base ho0) hb)) (aJ (aK (Kd.V_elder' (by (with_reducible repeat (first | apply Kd.V_alloc | apply Kd.V_drewN | apply Kd.V_drew)); exact (Kd.V_mono (vF3 gb115 (Kd.V_mono HO113.out (fun k_ hk => (⟨hk, hk.2⟩ : _ ∧ k_ ≠ gb115))) (fun _ hk => hk.2)) (fun _ h_ => h_.1))) (Kd.R_base ho0) hb)) (aJ (aK (Kd.R_lower ho0 (below_size (pH HB)))) (aJ (aK (blk_below (g := gb108) (o := .cells #[.int .i64 x109000_2, .int .i64 x109001_2, .slice Ao29 x109002_2.length co29] 53 (0, 0)) (by (repeat first | with_reducible apply zN | with_reducible apply zD | with_reducible apply zA | refine blk_far ?_ NB108_115.out _); exact BK108.out) hb)) (aJ (aK (blk_below (g := gb115) (o := .cells #[.int .i64 t109, .int .i64 t110, .slice Ao34 t111.length co34] 53 (0, 0)) (p3 BK115) hb)) (aK (below_step (pH HB) hb)))))); clear HO_109002 HO113 BK108 BK115 HB; obtain ⟨HO_109002, HO113, HO118, BK108, BK115, HB⟩ := n_; (try clear hb); (try clear ho0); obtain ⟨hcz36_0, hcz36_1, hcz36_2, hfz36_0, hfz36_1, hfz36_2⟩ := cA3 BK115; obtain ⟨hcz37_0, hcz37_1, hcz37_2, hfz37_0, hfz37_1, hfz37_2⟩ := cA3 BK108))
         go_roundg k2
         case measure => have := HJ2.out; have := HK2.out; omega
         case rel => exact ⟨(wrap64 (x8_2 + 1)), (t109), (t110), (t111), (.slice Ao34 t111.length co34), rS, H', ⟨by have := HJ2.out; have := HK2.out; omega⟩, ⟨by (with_reducible repeat (first | apply Kd.V_alloc | apply Kd.V_drewN | apply Kd.V_drew)); exact Kd.V_mono (vF3 gb108 (Kd.V_mono HO113.out (fun k_ hk => (⟨hk, hk.1.1⟩ : _ ∧ k_ ≠ gb108))) (fun _ hk => hk.2)) (fun _ hk => hk.1.1.1)⟩, ⟨p3 BK108⟩, ⟨pH HB⟩⟩
       ·replace c18 := Bool.eq_false_iff.mpr c18
        subst c18
        rw [if_neg (show ¬ (false = true) by decide)] at H
        simp only [Option.some.injEq, Prod.mk.injEq] at H
        obtain ⟨rfl, rfl, rfl⟩ := H
        obtain ⟨hcz38_0, hcz38_1, hcz38_2, hfz38_0, hfz38_1, hfz38_2⟩ := cA3 BK108
        obtain ⟨Ao39, co39, eo39⟩ := Kd.V_slice HO_109002.out
        subst eo39
        go_wp2_with (first | ((with_reducible refine gate_callee (f := 26) rfl ?_); refine goesL_ (some 29) rfl rfl Tryd.func26 (by kernel_rfl) rfl #[.agg #[.int .i64 x109000_2, .int .i64 x109001_2, .slice Ao39 x109002_2.length co39]] rfl tA ?_; (with_reducible refine (spec_ldStep.calls k2 x109000_2 x109001_2 (fun k_ => k_ ≠ gb108) _ _ x109002_2 t109 t110 t111 true _ ?side1 A15.out).mono ?_); (case side1 => exact HO_109002.out); rintro e w40 ⟨v112, rfl, ho0, hb⟩; refine ⟨_, rfl, ?_⟩; have n0_ := aK (Kd.V_below HO_109002.out hb); have HO113 := aK (Kd.V_lower (Kd.V_mono (ok' := fun k_ => k_ ≠ gb108) ho0 (fun k_ hk_ => Or.elim hk_ (fun hs_ => hs_) (fun hn_ => (Kd.freshB BK108.out k_ hn_)))) (below_size HB.out)); replace BK108 := qb BK108 hb; clear HO_109002; have HO_109002 := n0_; clear n0_; replace HB := qs HB hb; (try clear hb); (try clear ho0)) | ((with_reducible refine gate_dst (N := 9) rfl ?_); refine bE (N := 9) (cs := #[.int .i64 0, .int .i64 0, .slice none 0 0]) (t := 53) ?_; intro gb115 hg w41 hbox hb; have GW115 := qw HB hg; have GE115 := qw HB hg; have NB108_115 := ql BK108 hg; have NB115_108 := qg BK108 hg; replace HO_109002 := qv HO_109002 hg hb; replace HO113 := qv HO113 hg hb; replace BK108 := qb BK108 hb; have BK115 := aK hbox; replace HB := qs HB hb; clear hb hbox hg; have hnb42 := NB115_108.out; have hnc42 := NB108_115.out; obtain ⟨hcz43_0, hcz43_1, hcz43_2, hfz43_0, hfz43_1, hfz43_2⟩ := cA3 BK115; obtain ⟨Ao44, co44, eo44⟩ := Kd.V_slice HO113.out; subst eo44) | ((with_reducible refine gate_callee (f := 27) rfl ?_); refine goesL_ (some 43) rfl rfl Tryd.func27 (by kernel_rfl) rfl #[.agg #[.int .i64 t109, .int .i64 t110, .slice Ao44 t111.length co44]] rfl tA ?_; (with_reducible refine (spec_ldTold.calls k2 t109 t110 _ _ t111 t116 false _ ?side1 ?side2 A17.out).mono ?_); (case side1 => refine (Kd.V_reads' (e := 53) (base := w.heap.size) (ok := fun k_ => (k_ ≠ gb108 ∧ k_ ≠ gb115)) (n := t111.length) (c := co44) ?_).2.2; exact (by (with_reducible repeat (first | apply Kd.V_alloc | apply Kd.V_drewN | apply Kd.V_drew)); exact (Kd.V_mono (vF3 gb115 (Kd.V_mono HO113.out (fun k_ hk => (⟨hk, hk.2⟩ : _ ∧ k_ ≠ gb115))) (fun _ hk => hk.2)) (fun _ h_ => h_.1)))); (case side2 => exact (Kd.V_reads' HO113.out).2.1); rintro e w45 ⟨v117, rfl, ho0, hb⟩; refine ⟨_, rfl, ?_⟩; have n_ := aJ (aK (Kd.V_elder' (by (with_reducible repeat (first | apply Kd.V_alloc | apply Kd.V_drewN | apply Kd.V_drew)); exact (Kd.V_mono (vF3 gb115 (Kd.V_mono HO_109002.out (fun k_ hk => (⟨hk, hk.2⟩ : _ ∧ k_ ≠ gb115))) (fun _ hk => hk.2)) (fun _ h_ => h_.1))) (Kd.R_base ho0) hb)) (aJ (aK (Kd.V_elder' (by (with_reducible repeat (first | apply Kd.V_alloc | apply Kd.V_drewN | apply Kd.V_drew)); exact (Kd.V_mono (vF3 gb115 (Kd.V_mono HO113.out (fun k_ hk => (⟨hk, hk.2⟩ : _ ∧ k_ ≠ gb115))) (fun _ hk => hk.2)) (fun _ h_ => h_.1))) (Kd.R_base ho0) hb)) (aJ (aK (Kd.R_lower ho0 (below_size (pH HB)))) (aJ (aK (blk_below (g := gb108) (o := .cells #[.int .i64 x109000_2, .int .i64 x109001_2, .slice Ao39 x109002_2.length co39] 53 (0, 0)) (by (repeat first | with_reducible apply zN | with_reducible apply zD | with_reducible apply zA | refine blk_far ?_ NB108_115.out _); exact BK108.out) hb)) (aJ (aK (blk_below (g := gb115) (o := .cells #[.int .i64 t109, .int .i64 t110, .slice Ao44 t111.length co44] 53 (0, 0)) (p3 BK115) hb)) (aK (below_step (pH HB) hb)))))); clear HO_109002 HO113 BK108 BK115 HB; obtain ⟨HO_109002, HO113, HO118, BK108, BK115, HB⟩ := n_; (try clear hb); (try clear ho0)))
        go_ret3
        exact ⟨_, eW, by first | exact Kd.R_nil _ _ _ _ _ | exact Kd.N_nil _ _ _ _ _ | exact Kd.V_nil _ _ _ _ _ | exact Kd.Q_nil _ _ _ _ _ | exact Kd.S_nil _ _ _ _ _, pH HB⟩
      ·replace c16 := Bool.eq_false_iff.mpr c16
       subst c16
       rw [if_neg (show ¬ (false = true) by decide)] at H
       obtain ⟨⟨t120, t123⟩, A46, H⟩ := oB H
       try dsimp only at H
       simp only [Option.some.injEq, Prod.mk.injEq] at H
       obtain ⟨rfl, rfl, rfl⟩ := H
       obtain ⟨hcz47_0, hcz47_1, hcz47_2, hfz47_0, hfz47_1, hfz47_2⟩ := cA3 BK108
       obtain ⟨Ao48, co48, eo48⟩ := Kd.V_slice HO_109002.out
       subst eo48
       go_wp2_with (first | ((with_reducible refine gate_callee (f := 26) rfl ?_); refine goesL_ (some 29) rfl rfl Tryd.func26 (by kernel_rfl) rfl #[.agg #[.int .i64 x109000_2, .int .i64 x109001_2, .slice Ao48 x109002_2.length co48]] rfl tA ?_; (with_reducible refine (spec_ldStep.calls k2 x109000_2 x109001_2 (fun k_ => k_ ≠ gb108) _ _ x109002_2 t109 t110 t111 false _ ?side1 A15.out).mono ?_); (case side1 => exact HO_109002.out); rintro e w49 ⟨v112, rfl, ho0, hb⟩; refine ⟨_, rfl, ?_⟩; have n0_ := aK (Kd.V_below HO_109002.out hb); have HO113 := aK (Kd.V_lower (Kd.V_mono (ok' := fun k_ => k_ ≠ gb108) ho0 (fun k_ hk_ => Or.elim hk_ (fun hs_ => hs_) (fun hn_ => (Kd.freshB BK108.out k_ hn_)))) (below_size HB.out)); replace BK108 := qb BK108 hb; clear HO_109002; have HO_109002 := n0_; clear n0_; replace HB := qs HB hb; (try clear hb); (try clear ho0)) | ((with_reducible refine gate_dst (N := 9) rfl ?_); refine bE (N := 9) (cs := #[.int .i64 0, .int .i64 0, .slice none 0 0]) (t := 53) ?_; intro gb115 hg w50 hbox hb; have GW115 := qw HB hg; have GE115 := qw HB hg; have NB108_115 := ql BK108 hg; have NB115_108 := qg BK108 hg; replace HO_109002 := qv HO_109002 hg hb; replace HO113 := qv HO113 hg hb; replace BK108 := qb BK108 hb; have BK115 := aK hbox; replace HB := qs HB hb; clear hb hbox hg; have hnb51 := NB115_108.out; have hnc51 := NB108_115.out; obtain ⟨hcz52_0, hcz52_1, hcz52_2, hfz52_0, hfz52_1, hfz52_2⟩ := cA3 BK115; obtain ⟨Ao53, co53, eo53⟩ := Kd.V_slice HO113.out; subst eo53; obtain ⟨hcz54_0, hcz54_1, hcz54_2, hfz54_0, hfz54_1, hfz54_2⟩ := cA3 BK108) | ((with_reducible refine gate_callee (f := 27) rfl ?_); refine goesL_ (some 36) rfl rfl Tryd.func27 (by kernel_rfl) rfl #[.agg #[.int .i64 x109000_2, .int .i64 x109001_2, .slice Ao48 x109002_2.length co48]] rfl tA ?_; (with_reducible refine (spec_ldTold.calls k2 x109000_2 x109001_2 _ _ x109002_2 t120 t123 _ ?side1 ?side2 A46.out).mono ?_); (case side1 => refine (Kd.V_reads' (e := 53) (base := w.heap.size) (ok := fun k_ => (k_ ≠ gb108 ∧ k_ ≠ gb115)) (n := x109002_2.length) (c := co48) ?_).2.2; exact (by (with_reducible repeat (first | apply Kd.V_alloc | apply Kd.V_drewN | apply Kd.V_drew)); exact (Kd.V_mono (vF3 gb115 (Kd.V_mono HO_109002.out (fun k_ hk => (⟨hk, hk.2⟩ : _ ∧ k_ ≠ gb115))) (fun _ hk => hk.2)) (fun _ h_ => h_.1)))); (case side2 => exact (Kd.V_reads' HO_109002.out).2.1); rintro e w55 ⟨v121, rfl, ho0, hb⟩; refine ⟨_, rfl, ?_⟩; have n_ := aJ (aK (Kd.V_elder' (by (with_reducible repeat (first | apply Kd.V_alloc | apply Kd.V_drewN | apply Kd.V_drew)); exact (Kd.V_mono (vF3 gb115 (Kd.V_mono HO_109002.out (fun k_ hk => (⟨hk, hk.2⟩ : _ ∧ k_ ≠ gb115))) (fun _ hk => hk.2)) (fun _ h_ => h_.1))) (Kd.R_base ho0) hb)) (aJ (aK (Kd.V_elder' (by (with_reducible repeat (first | apply Kd.V_alloc | apply Kd.V_drewN | apply Kd.V_drew)); exact (Kd.V_mono (vF3 gb115 (Kd.V_mono HO113.out (fun k_ hk => (⟨hk, hk.2⟩ : _ ∧ k_ ≠ gb115))) (fun _ hk => hk.2)) (fun _ h_ => h_.1))) (Kd.R_base ho0) hb)) (aJ (aK (Kd.R_lower ho0 (below_size (pH HB)))) (aJ (aK (blk_below (g := gb108) (o := .cells #[.int .i64 x109000_2, .int .i64 x109001_2, .slice Ao48 x109002_2.length co48] 53 (0, 0)) (by (repeat first | with_reducible apply zN | with_reducible apply zD | with_reducible apply zA | refine blk_far ?_ NB108_115.out _); exact BK108.out) hb)) (aJ (aK (blk_below (g := gb115) (o := .cells #[.int .i64 t109, .int .i64 t110, .slice Ao53 t111.length co53] 53 (0, 0)) (p3 BK115) hb)) (aK (below_step (pH HB) hb)))))); clear HO_109002 HO113 BK108 BK115 HB; obtain ⟨HO_109002, HO113, HO122, BK108, BK115, HB⟩ := n_; (try clear hb); (try clear ho0)))
       go_ret3
       exact ⟨_, eW, by (with_reducible repeat (first | apply Kd.R_alloc | apply Kd.R_drewN | apply Kd.R_drew)); exact HO122.out, pH HB⟩


mutual
def laws_FnCombs.j0 : Nat → List (S65) → Int → ByteArray → Bool → Bool → Option (Bool)
 | 0, _, _, _, _, _ => none
 | k + 1, x3, x4, x5, x6, x44 => if x44 = true then (some false) else (if x6 = true then ((impl_ReadComb.f k x5).bind fun bt109 => ((impl_NormalComb.f k x3 x4).bind fun bt113 => ((spec_NormalComb.f k x3 x4).bind fun bt118 => (if bt109.2 = true then ((laws_sameCombs.f k x3 bt109.1).bind fun t123 => (if t123 = true then (if (bt113.2.2 != bt118.2.2) = true then (laws_FnCombs.j1 k bt113.1 bt113.2.2 true) else (laws_FnCombs.j1 k bt113.1 bt113.2.2 (bt113.2.1 != bt118.2.1))) else (laws_FnCombs.j1 k bt113.1 bt113.2.2 true))) else (laws_FnCombs.j1 k bt113.1 bt113.2.2 true))))) else (some (x5.toList == ([] : List UInt8))))
def laws_FnCombs.j1 : Nat → List (S65) → Bool → Bool → Option (Bool)
 | 0, _, _, _ => none
 | k + 1, x11, x13, x85 => if x85 = true then (some false) else (if x13 = true then ((impl_StepComb.f k x11).bind fun bt124 => (some (!bt124.2))) else (some ((x11.length : Int) == 0)))
end
def laws_FnCombs.f (k : Nat) (l0 : List Int) : Option (Bool) := if (l0.length : Int) > 1048576 then (some true) else ((spec_DrawNormalComb.f k l0).bind fun bt101 => ((impl_CombText.f k bt101.1).bind fun bt105 => ((spec_CombText.f k bt101.1).bind fun bt107 => (if (bt105.2 != bt107.2) = true then (laws_FnCombs.j0 k bt101.1 bt101.2 bt105.1 bt105.2 true) else (laws_FnCombs.j0 k bt101.1 bt101.2 bt105.1 bt105.2 (bt105.1.toList != bt107.1.toList))))))
set_option maxHeartbeats 8000000 in
set_option maxRecDepth 100000 in
theorem laws_FnCombs.calls (k : Nat) (A0 : Option Addr) (c0 : Nat) (l0 : List Int) (r : Bool) (w : World) (hr0 : Kd.C (Kd.int .u8) w A0 l0.length l0) (hc0 : l0.length ≤ c0) (h : laws_FnCombs.f k l0 = some r) (hE : Met w) :
  Calls Tryd.prog 3 #[.slice A0 l0.length c0] w fun e w' => e = .returned (.bool r) ∧ Below w.heap.size w w' := by
 have HR0 := aK hr0
 have HC0 := aK hc0
 clear hr0 hc0
 have HB := aK (Below.refl w.heap.size w)
 have HE := aK hE
 clear hE
 have H : (if (l0.length : Int) > 1048576 then (some true) else ((spec_DrawNormalComb.f k l0).bind fun bt101 => ((impl_CombText.f k bt101.1).bind fun bt105 => ((spec_CombText.f k bt101.1).bind fun bt107 => (if (bt105.2 != bt107.2) = true then (laws_FnCombs.j0 k bt101.1 bt101.2 bt105.1 bt105.2 true) else (laws_FnCombs.j0 k bt101.1 bt101.2 bt105.1 bt105.2 (bt105.1.toList != bt107.1.toList))))))) = some r := h
 clear h
 by_cases c2 : (l0.length : Int) > 1048576
 ·rw [if_pos c2] at H
  have c2b0 : decide (1048576 < (l0.length : Int)) = true := decide_eq_true c2
  have c2b1 : decide (1048576 < l0.length) = true := decide_eq_true (by omega)
  clear c2
  obtain rfl := Option.some.inj H
  go_enter Tryd.func3, Tryd.ntmps3
  go_wp2
  go_ret
  exact ⟨eW, pH HB⟩
 ·rw [if_neg c2] at H
  have c2b0 : decide (1048576 < (l0.length : Int)) = false := decide_eq_false c2
  have c2b1 : decide (1048576 < l0.length) = false := decide_eq_false (by omega)
  clear c2
  obtain ⟨⟨t101, t102⟩, A3, H⟩ := oB H
  try dsimp only at H
  obtain ⟨⟨t105, t106⟩, A4, H⟩ := oB H
  try dsimp only at H
  obtain ⟨⟨t107, t108⟩, A5, H⟩ := oB H
  try dsimp only at H
  have HC6 := aK H
  clear H
  go_enter Tryd.func3, Tryd.ntmps3
  go_upto_region 6 with (first | ((with_reducible refine gate_callee (f := 4) rfl ?_); refine goesL_ (some 24) rfl rfl Tryd.func4 (by kernel_rfl) rfl #[.slice A0 l0.length c0] rfl tA ?_; (with_reducible refine (spec_DrawNormalComb.calls k _ _ l0 t101 t102 _ ?side1 ?side2 A3.out).mono ?_); (case side1 => exact sC HR0.out); (case side2 => exact HC0.out); rintro e w7 ⟨v103, rfl, ho0, hb⟩; refine ⟨_, rfl, ?_⟩; have HO104 := aK (Kd.R_lower ho0 (below_size HB.out)); replace HB := qs HB hb; (try clear hb); (try clear ho0); obtain ⟨Ao8, co8, eo8⟩ := Kd.R_slice HO104.out; subst eo8) | ((with_reducible refine gate_callee (f := 5) rfl ?_); refine goesL_ (some 29) rfl rfl Tryd.func5 (by kernel_rfl) rfl #[.slice Ao8 t101.length co8] rfl tA ?_; (with_reducible refine (impl_CombText.calls k _ _ t101 t105 t106 _ ?side1 ?side2 A4.out (HE.out.below HB.out).tab).mono ?_); (case side1 => exact sC ((Kd.R_reads' HO104.out).2.2)); (case side2 => exact (Kd.R_reads' HO104.out).2.1); rintro e w9 ⟨rfl, hb⟩; refine ⟨_, rfl, ?_⟩; have n0_ := aK (Kd.R_below HO104.out hb); clear HO104; have HO104 := n0_; clear n0_; replace HB := qs HB hb; (try clear hb)) | ((with_reducible refine gate_callee (f := 6) rfl ?_); refine goesL_ (some 34) rfl rfl Tryd.func6 (by kernel_rfl) rfl #[.slice Ao8 t101.length co8] rfl tA ?_; (with_reducible refine (spec_CombText.calls k _ _ t101 t107 t108 _ ?side1 ?side2 A5.out).mono ?_); (case side1 => exact sC ((Kd.R_reads' HO104.out).2.2)); (case side2 => exact (Kd.R_reads' HO104.out).2.1); rintro e w10 ⟨rfl, hb⟩; refine ⟨_, rfl, ?_⟩; have n0_ := aK (Kd.R_below HO104.out hb); clear HO104; have HO104 := n0_; clear n0_; replace HB := qs HB hb; (try clear hb)))
  (try simp only [Act.put, List.setIfInBounds_toArray, List.set_cons_zero, List.set_cons_succ])
  go_cut [44] (fun v44 wc => ∃ (kq : Nat) (x44_5 : Bool), v44 = .bool x44_5 ∧ Aside0 (laws_FnCombs.j0 kq t101 t102 t105 t106 x44_5 = some r) ∧ Aside0 (kq ≤ k) ∧ Aside0 (Kd.R k65 65 wc w.heap.size (fun _ => True) (.slice Ao8 t101.length co8) t101) ∧ Aside0 (Below w.heap.size w wc))
  case first =>
   have H := HC6.out
   clear HC6
   by_cases c11 : (t106 != t108) = true
   ·rw [if_pos c11] at H
    have c11b0 : (t106 != t108) = true := c11
    (try (have c11b1 : decide (t106 = t108) = false := by simpa using c11))
    (try (have c11b2 : (t106 == t108) = false := by simpa using c11))
    (try (have c11b3 : ¬ (t106 = t108) := by simpa using c11))
    clear c11
    (first | rw [c11b0] | (simp only [i64_w, i32_w]; rw [c11b0]) | skip)
    have H' := aK H
    clear H
    go_wp2
    go_meet
    case rel => exact ⟨_, (true), rS, H', ⟨by first | omega | exact Nat.le_refl _⟩, ⟨by (with_reducible repeat (first | apply Kd.R_alloc | apply Kd.R_drewN | apply Kd.R_drew)); exact HO104.out⟩, ⟨pH HB⟩⟩
   ·rw [if_neg c11] at H
    have c11b0 : (t106 != t108) = false := by simpa using c11
    (try (have c11b1 : decide (t106 = t108) = true := by simpa using c11))
    (try (have c11b2 : (t106 == t108) = true := by simpa using c11))
    clear c11
    (first | rw [c11b0] | (simp only [i64_w, i32_w]; rw [c11b0]) | skip)
    have H' := aK H
    clear H
    go_wp2
    go_meet
    case rel => exact ⟨_, ((t105.toList != t107.toList)), rS, H', ⟨by first | omega | exact Nat.le_refl _⟩, ⟨by (with_reducible repeat (first | apply Kd.R_alloc | apply Kd.R_drewN | apply Kd.R_drew)); exact HO104.out⟩, ⟨pH HB⟩⟩
  case rest =>
   clear HC6
   try clear c1; try clear c2; try clear c2b0; try clear c2b1; try clear p2; try clear c3; try clear c4; try clear c5; try clear c6; try clear c11; try clear c11b0; try clear c11b1; try clear c11b2
   obtain ⟨kq, x44_5, rfl, HA, HJ5, HO_3, HB⟩ := hcut
   cases kq with
   | zero => exact absurd HA.out (by simp [laws_FnCombs.j0])
   | succ kj5 =>
    have H := HA.out
    clear HA
    simp only [laws_FnCombs.j0] at H
    by_cases c12 : x44_5 = true
    ·subst c12
     rw [if_pos rfl] at H
     obtain rfl := Option.some.inj H
     go_wp2
     go_ret
     exact ⟨eW, pH HB⟩
    ·replace c12 := Bool.eq_false_iff.mpr c12
     subst c12
     rw [if_neg (show ¬ (false = true) by decide)] at H
     by_cases c13 : t106 = true
     ·subst c13
      rw [if_pos rfl] at H
      obtain ⟨⟨t109, t110⟩, A14, H⟩ := oB H
      try dsimp only at H
      obtain ⟨⟨t113, t114, t115⟩, A15, H⟩ := oB H
      try dsimp only at H
      obtain ⟨⟨t118, t119, t120⟩, A16, H⟩ := oB H
      try dsimp only at H
      have HC17 := aK H
      clear H
      go_upto_region 13 with (first | ((with_reducible refine gate_callee (f := 7) rfl ?_); refine goesL_ (some 51) rfl rfl Tryd.func7 (by kernel_rfl) rfl #[.string t105] rfl tA ?_; (with_reducible refine (impl_ReadComb.calls kj5 t105 t109 t110 _ A14.out (HE.out.below HB.out)).mono ?_); rintro e w18 ⟨v111, rfl, ho0, hb⟩; refine ⟨_, rfl, ?_⟩; have n0_ := aK (Kd.R_elder' HO_3.out (Kd.R_base ho0) hb); have HO112 := aK (Kd.R_lower (Kd.R_new' ho0 (Kd.R_lt HO_3.out)) (below_size HB.out)); clear HO_3; have HO_3 := n0_; clear n0_; replace HB := qs HB hb; (try clear hb); (try clear ho0)) | ((with_reducible refine gate_callee (f := 8) rfl ?_); refine goesL_ (some 57) rfl rfl Tryd.func8 (by kernel_rfl) rfl #[.slice Ao8 t101.length co8, .int .i64 t102] rfl tA ?_; (with_reducible refine (impl_NormalComb.calls kj5 _ _ t101 t102 t113 t114 t115 _ ?side1 ?side2 A15.out).mono ?_); (case side1 => exact sC ((Kd.R_reads' HO_3.out).2.2)); (case side2 => exact (Kd.R_reads' HO_3.out).2.1); rintro e w19 ⟨v116, rfl, ho0, hb⟩; refine ⟨_, rfl, ?_⟩; have n0_ := aK (Kd.R_elder' HO_3.out (Kd.R_base ho0) hb); have n1_ := aK (Kd.R_elder' HO112.out (Kd.R_base ho0) hb); have HO117 := aK (Kd.R_lower (Kd.R_new' (Kd.R_new' ho0 (Kd.R_lt HO_3.out)) (Kd.R_lt HO112.out)) (below_size HB.out)); clear HO_3; have HO_3 := n0_; clear n0_; clear HO112; have HO112 := n1_; clear n1_; replace HB := qs HB hb; (try clear hb); (try clear ho0)) | ((with_reducible refine gate_callee (f := 9) rfl ?_); refine goesL_ (some 64) rfl rfl Tryd.func9 (by kernel_rfl) rfl #[.slice Ao8 t101.length co8, .int .i64 t102] rfl tA ?_; (with_reducible refine (spec_NormalComb.calls kj5 _ _ t101 t102 t118 t119 t120 _ ?side1 ?side2 A16.out).mono ?_); (case side1 => exact sC ((Kd.R_reads' HO_3.out).2.2)); (case side2 => exact (Kd.R_reads' HO_3.out).2.1); rintro e w20 ⟨v121, rfl, ho0, hb⟩; refine ⟨_, rfl, ?_⟩; have n0_ := aK (Kd.R_elder' HO_3.out (Kd.R_base ho0) hb); have n1_ := aK (Kd.R_elder' HO112.out (Kd.R_base ho0) hb); have n2_ := aK (Kd.R_elder' HO117.out (Kd.R_base ho0) hb); have HO122 := aK (Kd.R_lower (Kd.R_new' (Kd.R_new' (Kd.R_new' ho0 (Kd.R_lt HO_3.out)) (Kd.R_lt HO112.out)) (Kd.R_lt HO117.out)) (below_size HB.out)); clear HO_3; have HO_3 := n0_; clear n0_; clear HO112; have HO112 := n1_; clear n1_; clear HO117; have HO117 := n2_; clear n2_; replace HB := qs HB hb; (try clear hb); (try clear ho0)))
      (try simp only [Act.put, List.setIfInBounds_toArray, List.set_cons_zero, List.set_cons_succ])
      go_cut [85] (fun v85 wc => ∃ (kq : Nat) (x85_16 : Bool), v85 = .bool x85_16 ∧ Aside0 (laws_FnCombs.j1 kq t113 t115 x85_16 = some r) ∧ Aside0 (kq ≤ kj5) ∧ Aside0 (Kd.R k65 65 wc w.heap.size (fun _ => True) v116 t113) ∧ Aside0 (Below w.heap.size w wc))
      case first =>
       have H := HC17.out
       clear HC17
       by_cases c21 : t110 = true
       ·subst c21
        rw [if_pos rfl] at H
        obtain ⟨t123, A22, H⟩ := oB H
        try dsimp only at H
        by_cases c23 : t123 = true
        ·subst c23
         rw [if_pos rfl] at H
         by_cases c24 : (t115 != t120) = true
         ·rw [if_pos c24] at H
          have c24b0 : (t115 != t120) = true := c24
          (try (have c24b1 : decide (t115 = t120) = false := by simpa using c24))
          (try (have c24b2 : (t115 == t120) = false := by simpa using c24))
          (try (have c24b3 : ¬ (t115 = t120) := by simpa using c24))
          clear c24
          (first | rw [c24b0] | (simp only [i64_w, i32_w]; rw [c24b0]) | skip)
          have H' := aK H
          clear H
          obtain ⟨Ao25, co25, eo25⟩ := Kd.R_slice HO112.out
          subst eo25
          go_wp2_with (first | (go_at_call 10; (with_reducible refine (laws_sameCombs.calls kj5 _ _ t101 _ _ t109 true _ ?side1 ?side2 ?side3 ?side4 A22.out).mono ?_); (case side1 => exact sC ((Kd.R_reads' HO_3.out).2.2)); (case side2 => exact (Kd.R_reads' HO_3.out).2.1); (case side3 => exact sC ((Kd.R_reads' HO112.out).2.2)); (case side4 => exact (Kd.R_reads' HO112.out).2.1); rintro e w' ⟨rfl, ⟨nd, rfl⟩⟩))
          go_meet
          case rel => exact ⟨_, (true), rS, H', ⟨by have := HJ5.out; first | omega | exact Nat.le_refl _⟩, ⟨by (with_reducible repeat (first | apply Kd.R_alloc | apply Kd.R_drewN | apply Kd.R_drew)); exact Kd.R_mono HO117.out (fun _ hk => trivial)⟩, ⟨pH HB⟩⟩
         ·rw [if_neg c24] at H
          have c24b0 : (t115 != t120) = false := by simpa using c24
          (try (have c24b1 : decide (t115 = t120) = true := by simpa using c24))
          (try (have c24b2 : (t115 == t120) = true := by simpa using c24))
          clear c24
          (first | rw [c24b0] | (simp only [i64_w, i32_w]; rw [c24b0]) | skip)
          have H' := aK H
          clear H
          obtain ⟨Ao26, co26, eo26⟩ := Kd.R_slice HO112.out
          subst eo26
          go_wp2_with (first | (go_at_call 10; (with_reducible refine (laws_sameCombs.calls kj5 _ _ t101 _ _ t109 true _ ?side1 ?side2 ?side3 ?side4 A22.out).mono ?_); (case side1 => exact sC ((Kd.R_reads' HO_3.out).2.2)); (case side2 => exact (Kd.R_reads' HO_3.out).2.1); (case side3 => exact sC ((Kd.R_reads' HO112.out).2.2)); (case side4 => exact (Kd.R_reads' HO112.out).2.1); rintro e w' ⟨rfl, ⟨nd, rfl⟩⟩))
          go_meet
          case rel => exact ⟨_, ((t114 != t119)), rS, H', ⟨by have := HJ5.out; first | omega | exact Nat.le_refl _⟩, ⟨by (with_reducible repeat (first | apply Kd.R_alloc | apply Kd.R_drewN | apply Kd.R_drew)); exact Kd.R_mono HO117.out (fun _ hk => trivial)⟩, ⟨pH HB⟩⟩
        ·replace c23 := Bool.eq_false_iff.mpr c23
         subst c23
         rw [if_neg (show ¬ (false = true) by decide)] at H
         have H' := aK H
         clear H
         obtain ⟨Ao27, co27, eo27⟩ := Kd.R_slice HO112.out
         subst eo27
         go_wp2_with (first | (go_at_call 10; (with_reducible refine (laws_sameCombs.calls kj5 _ _ t101 _ _ t109 false _ ?side1 ?side2 ?side3 ?side4 A22.out).mono ?_); (case side1 => exact sC ((Kd.R_reads' HO_3.out).2.2)); (case side2 => exact (Kd.R_reads' HO_3.out).2.1); (case side3 => exact sC ((Kd.R_reads' HO112.out).2.2)); (case side4 => exact (Kd.R_reads' HO112.out).2.1); rintro e w' ⟨rfl, ⟨nd, rfl⟩⟩))
         go_meet
         case rel => exact ⟨_, (true), rS, H', ⟨by have := HJ5.out; first | omega | exact Nat.le_refl _⟩, ⟨by (with_reducible repeat (first | apply Kd.R_alloc | apply Kd.R_drewN | apply Kd.R_drew)); exact Kd.R_mono HO117.out (fun _ hk => trivial)⟩, ⟨pH HB⟩⟩
       ·replace c21 := Bool.eq_false_iff.mpr c21
        subst c21
        rw [if_neg (show ¬ (false = true) by decide)] at H
        have H' := aK H
        clear H
        go_wp2
        go_meet
        case rel => exact ⟨_, (true), rS, H', ⟨by have := HJ5.out; first | omega | exact Nat.le_refl _⟩, ⟨by (with_reducible repeat (first | apply Kd.R_alloc | apply Kd.R_drewN | apply Kd.R_drew)); exact Kd.R_mono HO117.out (fun _ hk => trivial)⟩, ⟨pH HB⟩⟩
      case rest =>
       clear HC17
       try clear c1; try clear c2; try clear c2b0; try clear c2b1; try clear p2; try clear c3; try clear c4; try clear c5; try clear c6; try clear c7; try clear c8; try clear c9; try clear c11; try clear c11b0; try clear c11b1; try clear c11b2; try clear c12; try clear c13; try clear c21; try clear c23; try clear c24; try clear c24b0; try clear c24b1; try clear c24b2; try clear p2
       obtain ⟨kq, x85_16, rfl, HA, HJ16, HO_11, HB⟩ := hcut
       cases kq with
       | zero => exact absurd HA.out (by simp [laws_FnCombs.j1])
       | succ kj16 =>
        have H := HA.out
        clear HA
        simp only [laws_FnCombs.j1] at H
        by_cases c28 : x85_16 = true
        ·subst c28
         rw [if_pos rfl] at H
         obtain rfl := Option.some.inj H
         go_wp2
         go_ret
         exact ⟨eW, pH HB⟩
        ·replace c28 := Bool.eq_false_iff.mpr c28
         subst c28
         rw [if_neg (show ¬ (false = true) by decide)] at H
         by_cases c29 : t115 = true
         ·subst c29
          rw [if_pos rfl] at H
          obtain ⟨⟨t124, t125⟩, A30, H⟩ := oB H
          try dsimp only at H
          obtain rfl := Option.some.inj H
          obtain ⟨Ao31, co31, eo31⟩ := Kd.R_slice HO_11.out
          subst eo31
          go_wp2_with (first | ((with_reducible refine gate_callee (f := 11) rfl ?_); refine goesL_ (some 93) rfl rfl Tryd.func11 (by kernel_rfl) rfl #[.slice Ao31 t113.length co31] rfl tA ?_; (with_reducible refine (impl_StepComb.calls kj16 _ _ t113 t124 t125 _ ?side1 ?side2 A30.out).mono ?_); (case side1 => exact sC ((Kd.R_reads' HO_11.out).2.2)); (case side2 => exact (Kd.R_reads' HO_11.out).2.1); rintro e w32 ⟨v126, rfl, ho0, hb⟩; refine ⟨_, rfl, ?_⟩; have n0_ := aK (Kd.R_elder' HO_11.out (Kd.R_base ho0) hb); have HO127 := aK (Kd.R_lower (Kd.R_new' ho0 (Kd.R_lt HO_11.out)) (below_size HB.out)); clear HO_11; have HO_11 := n0_; clear n0_; replace HB := qs HB hb; (try clear hb); (try clear ho0)))
          go_ret
          exact ⟨eW, pH HB⟩
         ·replace c29 := Bool.eq_false_iff.mpr c29
          subst c29
          rw [if_neg (show ¬ (false = true) by decide)] at H
          obtain rfl := Option.some.inj H
          obtain ⟨Ao33, co33, eo33⟩ := Kd.R_slice HO_11.out
          subst eo33
          go_wp2
          go_ret
          exact ⟨eW, pH HB⟩
     ·replace c13 := Bool.eq_false_iff.mpr c13
      subst c13
      rw [if_neg (show ¬ (false = true) by decide)] at H
      obtain rfl := Option.some.inj H
      go_wp2
      go_ret
      exact ⟨eW, pH HB⟩

def laws_FnCombs.Pure : Prop := ∀ (l0 : List Int), l0.length * 1 ≤ 140737488351232 → (l0.length ≤ 9223372036854775807 ∧ ∀ x_ ∈ l0, (Lit.int .u8 x_).wf = true) → ∃ k, laws_FnCombs.f k l0 = some true

end Go.Proofs.YthfkimbmepmelaaDoor.G

namespace Go.Proofs.YthfkimbmepmelaaDoor.EvL
open Go.RowKit Go.Proofs.YthfkimbmepmelaaDoorW.PrintWords
set_option linter.unusedVariables false

theorem w64 {x : Int} (h1 : -9223372036854775808 ≤ x) (h2 : x ≤ 9223372036854775807) : wrap64 x = x := by unfold wrap64; omega
theorem Ev.const {α : Type} {a : Option α} {r : α} (h : a = some r) : Ev (fun _ => a) r := ⟨0, fun _ _ => h⟩
theorem Ev.of_eq {α : Type} {g : Nat → Option α} {r r' : α} (h : Ev g r) (e : r = r') : Ev g r' := e ▸ h
theorem Ev.ite_pos {α : Type} {c : Prop} [Decidable c] {g f : Nat → Option α} {r : α} (hc : c) (h : Ev g r) : Ev (fun k => if c then g k else f k) r := Ev.congr (fun k => if_pos hc) h
theorem Ev.ite_neg {α : Type} {c : Prop} [Decidable c] {g f : Nat → Option α} {r : α} (hc : ¬ c) (h : Ev f r) : Ev (fun k => if c then g k else f k) r := Ev.congr (fun k => if_neg hc) h
theorem Ev.succ {α : Type} {g : Nat → Option α} {r : α} (h : Ev (fun k => g (k + 1)) r) : Ev g r := Ev.step (fun k => rfl) h
theorem Ev.unique {α : Type} {g : Nat → Option α} {r r' : α} (h : Ev g r) (h' : Ev g r') : r = r' := by
  obtain ⟨K, hK⟩ := h
  obtain ⟨K', hK'⟩ := h'
  have h1 := hK (max K K') (Nat.le_max_left ..)
  have h2 := hK' (max K K') (Nat.le_max_right ..)
  rw [h1] at h2
  exact Option.some.inj h2

theorem ev_all (F : Nat → Int → Option Bool) (n : Nat) (p : Nat → Bool) (hs : ∀ (k i : Nat), i < n → F (k + 1) i = if p i = true then F k ((i + 1 : Nat) : Int) else some false) (he : ∀ k, F (k + 1) n = some true) :
    ∀ (d i : Nat), i + d = n → Ev (fun k => F k i) ((List.range d).all fun j => p (i + j)) := by
  intro d
  induction d with
  | zero => intro i hi; obtain rfl : i = n := by omega
            exact Ev.step he (Ev.now _)
  | succ d ih =>
    intro i hi
    have e : ((List.range (d + 1)).all fun j => p (i + j)) = (p i && (List.range d).all fun j => p (i + 1 + j)) := by
      rw [List.range_succ_eq_map, List.all_cons, List.all_map, Nat.add_zero]
      congr 1; congr 1; funext j; show p (i + (j + 1)) = _; congr 1; omega
    rw [e]
    by_cases hp : p i = true
    · refine Ev.step (fun k => (hs k i (by omega)).trans (if_pos hp)) ?_
      rw [hp, Bool.true_and]
      exact ih (i + 1) (by omega)
    · refine Ev.step (fun k => (hs k i (by omega)).trans (if_neg hp)) ?_
      rw [Bool.eq_false_iff.mpr hp, Bool.false_and]
      exact Ev.now _

end Go.Proofs.YthfkimbmepmelaaDoor.EvL

namespace Go.Proofs.YthfkimbmepmelaaDoor.TxtL
open Go.RowKit Go.Proofs.YthfkimbmepmelaaDoor.EvL Go.Proofs.YthfkimbmepmelaaDoorW.PrintWords
set_option linter.unusedVariables false
set_option linter.unusedSimpArgs false

def B (l : List UInt8) : ByteArray := ⟨l.toArray⟩
theorem B_list (l : List UInt8) : (B l).data.toList = l := rfl
theorem B_size (l : List UInt8) : (B l).size = l.length := by show l.toArray.size = _; simp
theorem len (s : ByteArray) : s.data.toList.length = s.size := by rw [Array.length_toList]; rfl
theorem B_append (a b : List UInt8) : B a ++ B b = B (a ++ b) := by
  apply ByteArray.ext
  simp [B]
theorem loop_eq (s : ByteArray) : ∀ (n i : Nat) (r : List UInt8), s.size - i = n → ByteArray.toList.loop s i r = r.reverse ++ s.data.toList.drop i := by
  intro n
  induction n with
  | zero =>
    intro i r h
    rw [ByteArray.toList.loop, if_neg (by omega), List.drop_eq_nil_of_le (by rw [len]; omega), List.append_nil]
  | succ n ih =>
    intro i r h
    have hi : i < s.size := by omega
    rw [ByteArray.toList.loop, if_pos hi, ih (i + 1) _ (by omega), List.drop_eq_getElem_cons (show i < s.data.toList.length by rw [len]; exact hi)]
    have e : s.get! i = s.data.toList[i]'(by rw [len]; exact hi) := by
      show s.data[i]! = _
      rw [getElem!_pos s.data i hi]
      exact (Array.getElem_toList _).symm
    rw [List.reverse_cons, List.append_assoc, List.singleton_append, e]
theorem toList_eq (s : ByteArray) : s.toList = s.data.toList := by
  show ByteArray.toList.loop s 0 [] = _
  rw [loop_eq s s.size 0 [] (by omega)]; rfl
theorem toList_B (l : List UInt8) : (B l).toList = l := toList_eq _
theorem bt_B (l : List UInt8) (i : Nat) (h : i < l.length) : bt (B l) (i : Int) = ((l[i]).toNat : Int) := by
  rw [← bt_at (B l) i (by rw [Int.toNat_natCast, B_size]; exact h)]
  rfl
theorem ext_drop (l : List UInt8) (n m : Nat) (h : m = l.length) : (B l).extract n m = B (l.drop n) := by
  subst h
  apply ByteArray.ext
  simp [B]
  exact List.take_of_length_le (by rw [List.length_drop]; omega)

def isD (c : UInt8) : Prop := 48 ≤ c.toNat ∧ c.toNat ≤ 57
instance (c : UInt8) : Decidable (isD c) := by unfold isD; exact inferInstance
def stepD (a : Nat) (c : UInt8) : Nat := a * 10 + (c.toNat - 48)
def valF (a : Nat) (l : List UInt8) : Nat := l.foldl stepD a
theorem valF_cons (a : Nat) (c : UInt8) (l : List UInt8) : valF a (c :: l) = valF (a * 10 + (c.toNat - 48)) l := by unfold valF; rw [List.foldl_cons, stepD]
theorem valF_one (a : Nat) (c : UInt8) : valF a [c] = a * 10 + (c.toNat - 48) := by unfold valF; rw [List.foldl_cons, List.foldl_nil, stepD]
theorem valF_app (l m : List UInt8) (a : Nat) : valF a (l ++ m) = valF (valF a l) m := List.foldl_append
theorem head_app {α : Type} {l : List α} (m : List α) (h : l ≠ []) : (l ++ m).head? = l.head? := by
  cases l with
  | nil => exact absurd rfl h
  | cons a l => rfl
theorem valF_ge : ∀ (l : List UInt8) (a : Nat), a ≤ valF a l
  | [], a => Nat.le_refl _
  | c :: l, a => by rw [valF_cons]; exact Nat.le_trans (by omega) (valF_ge l _)
theorem valF_lt : ∀ (l : List UInt8) (a : Nat), (∀ c ∈ l, isD c) → valF a l < (a + 1) * 10 ^ l.length
  | [], a, _ => by show a < (a + 1) * 1; omega
  | c :: l, a, h => by
    have hc := h c (by simp)
    have ih := valF_lt l (a * 10 + (c.toNat - 48)) (fun x hx => h x (by simp [hx]))
    rw [valF_cons, List.length_cons, Nat.pow_succ]
    refine Nat.lt_of_lt_of_le ih ?_
    rw [Nat.mul_comm (10 ^ l.length) 10, ← Nat.mul_assoc]
    exact Nat.mul_le_mul_right _ (by unfold isD at hc; omega)
theorem digit_ofNat (i : Nat) (h : i < 10) : (UInt8.ofNat (48 + i)).toNat = 48 + i := by
  rw [UInt8.toNat_ofNat']; omega
def Numeral (l : List UInt8) : Prop := (∀ c ∈ l, isD c) ∧ l ≠ [] ∧ (l.head? ≠ some 48 ∨ l.length = 1)
theorem dec_numeral : ∀ (n : Nat), Numeral (Lib.decDigits n) ∧ valF 0 (Lib.decDigits n) = n ∧ (1 ≤ n → (Lib.decDigits n).head? ≠ some 48) := by
  intro n
  induction n using Nat.strongRecOn with
  | _ n ih =>
    by_cases h : n < 10
    · have hd := digit_ofNat n h
      rw [Lib.decDigits_one h]
      refine ⟨⟨?_, by simp, .inr rfl⟩, ?_, ?_⟩
      · intro c hc
        rw [List.mem_singleton] at hc
        rw [hc]; unfold isD; rw [hd]; omega
      · rw [valF_one, hd]; omega
      · intro h1 e
        have e2 : UInt8.ofNat (48 + n) = 48 := by simpa using e
        have e3 := congrArg UInt8.toNat e2
        rw [hd] at e3
        have : (48 : UInt8).toNat = 48 := rfl
        omega
    · have e : Lib.decDigits n = Lib.decDigits (n / 10) ++ [UInt8.ofNat (48 + n % 10)] := by rw [Lib.decDigits, dif_neg h]
      obtain ⟨⟨h1, h2, _⟩, h4, h5⟩ := ih (n / 10) (by omega)
      have hd := digit_ofNat (n % 10) (by omega)
      have hh : (Lib.decDigits n).head? ≠ some 48 := by
        rw [e, head_app _ h2]
        exact h5 (by omega)
      refine ⟨⟨?_, by rw [e]; simp, .inl hh⟩, ?_, fun _ => hh⟩
      · intro c hc
        rw [e, List.mem_append, List.mem_singleton] at hc
        rcases hc with hc | hc
        · exact h1 c hc
        · rw [hc]; unfold isD; rw [hd]; omega
      · rw [e, valF_app, h4, valF_one, hd]; omega
theorem parse_ok : ∀ (l : List UInt8) (a : Nat), (∀ c ∈ l, isD c) → valF a l ≤ 1000000000000000000 → Lib.parseUint10 a l = .ok (valF a l)
  | [], a, _, _ => rfl
  | c :: l, a, h, hv => by
    have hc : isD c := h c (by simp)
    rw [valF_cons] at hv
    have hg := valF_ge l (a * 10 + (c.toNat - 48))
    unfold Lib.parseUint10
    rw [if_pos (show 48 ≤ c.toNat ∧ c.toNat ≤ 57 from hc), if_neg (by omega), if_neg (by omega), parse_ok l _ (fun x hx => h x (by simp [hx])) hv, valF_cons]
theorem atoi_digits (l : List UInt8) (h1 : ∀ c ∈ l, isD c) (h2 : l ≠ []) (hn : valF 0 l ≤ 1000000000000000000) : Lib.atoiAll l = .ok ((valF 0 l : Nat) : Int) := by
  have hp := parse_ok l 0 h1 hn
  generalize valF 0 l = n at hp hn
  cases l with
  | nil => exact absurd rfl h2
  | cons c r =>
    have hc : isD c := h1 c (by simp)
    unfold isD at hc
    unfold Lib.atoiAll
    have hs : ¬ (c.toNat = 43 ∨ c.toNat = 45) := by omega
    have hs2 : ¬ c.toNat = 45 := by omega
    simp only [if_neg hs]
    unfold Lib.parseMag
    rw [if_neg (by simp), hp]
    simp only [hs2, not_false_eq_true, true_and, false_and, if_false]
    rw [if_neg (by omega)]
end Go.Proofs.YthfkimbmepmelaaDoor.TxtL

namespace Go.Proofs.YthfkimbmepmelaaDoor.TreeM
set_option linter.unusedVariables false

structure Nd where
  kind : Int
  n : Int
  up : Int
inductive Tr where
  | leaf (k n : Int)
  | un (k n : Int) (a : Tr)
  | bin (k n : Int) (a b : Tr)
def Tr.kind : Tr → Int
  | .leaf k _ => k
  | .un k _ _ => k
  | .bin k _ _ _ => k
def Tr.num : Tr → Int
  | .leaf _ n => n
  | .un _ n _ => n
  | .bin _ n _ _ => n
def Tr.size : Tr → Nat
  | .leaf _ _ => 1
  | .un _ _ a => 1 + a.size
  | .bin _ _ a b => 1 + a.size + b.size
def Tr.depth : Tr → Nat
  | .leaf _ _ => 1
  | .un _ _ a => a.depth + 1
  | .bin _ _ a b => max a.depth b.depth + 1
def Tr.all (p : Int → Int → Prop) : Tr → Prop
  | .leaf k n => p k n
  | .un k n a => p k n ∧ a.all p
  | .bin k n a b => p k n ∧ a.all p ∧ b.all p

def z : Nd := ⟨0, 0, 0⟩
def up (l : List Nd) (i : Nat) : Int := (l.getD i z).up
theorem up_of {l : List Nd} {i : Nat} {x : Nd} (h : l[i]? = some x) : up l i = x.up := by unfold up; rw [List.getD_eq_getElem?_getD, h]; rfl
theorem lt_of {l : List Nd} {i : Nat} {x : Nd} (h : l[i]? = some x) : i < l.length := by
  by_cases hi : i < l.length
  · exact hi
  · rw [List.getElem?_eq_none (by omega)] at h; cases h
theorem get_of {l : List Nd} {i : Nat} (h : i < l.length) : l[i]? = some (l.getD i z) := by rw [List.getD_eq_getElem?_getD, List.getElem?_eq_getElem h]; rfl

def chain (l : List Nd) (i : Nat) : List Nat := i :: if h : 0 ≤ up l i ∧ up l i < (i : Int) then chain l (up l i).toNat else []
termination_by i
decreasing_by omega
theorem chain_self (l : List Nd) (i : Nat) : i ∈ chain l i := by rw [chain]; simp
theorem chain_up {l : List Nd} {i : Nat} (h : 0 ≤ up l i ∧ up l i < (i : Int)) : chain l i = i :: chain l (up l i).toNat := by rw [chain, dif_pos h]
theorem chain_top {l : List Nd} {i : Nat} (h : ¬ (0 ≤ up l i ∧ up l i < (i : Int))) : chain l i = [i] := by rw [chain, dif_neg h]
theorem chain_le {l : List Nd} : ∀ (i j : Nat), j ∈ chain l i → j ≤ i := by
  intro i
  induction i using Nat.strongRecOn with
  | _ i ih =>
    intro j hj
    by_cases h : 0 ≤ up l i ∧ up l i < (i : Int)
    · rw [chain_up h, List.mem_cons] at hj
      rcases hj with rfl | hj
      · exact Nat.le_refl _
      · have := ih _ (by omega) j hj; omega
    · rw [chain_top h] at hj
      have : j = i := by simpa using hj
      omega
theorem chain_trans {l : List Nd} : ∀ (i j x : Nat), j ∈ chain l i → x ∈ chain l j → x ∈ chain l i := by
  intro i
  induction i using Nat.strongRecOn with
  | _ i ih =>
    intro j x hj hx
    by_cases h : 0 ≤ up l i ∧ up l i < (i : Int)
    · rw [chain_up h, List.mem_cons] at hj
      rcases hj with rfl | hj
      · exact hx
      · rw [chain_up h]
        exact List.mem_cons_of_mem _ (ih _ (by omega) j x hj hx)
    · rw [chain_top h] at hj
      obtain rfl : j = i := by simpa using hj
      exact hx
theorem chain_below {l : List Nd} : ∀ (i j x : Nat), j ∈ chain l i → x ∈ chain l i → x ≤ j → x ∈ chain l j := by
  intro i
  induction i using Nat.strongRecOn with
  | _ i ih =>
    intro j x hj hx hle
    by_cases h : 0 ≤ up l i ∧ up l i < (i : Int)
    · rw [chain_up h, List.mem_cons] at hj hx
      rcases hj with rfl | hj
      · rw [chain_up h]; exact List.mem_cons.mpr hx
      · rcases hx with rfl | hx
        · have := chain_le _ _ hj; omega
        · exact ih _ (by omega) j x hj hx hle
    · rw [chain_top h] at hj hx
      obtain rfl : j = i := by simpa using hj
      rw [chain_top h]; exact hx
theorem chain_mem_up {l : List Nd} {i : Nat} (h : 0 ≤ up l i ∧ up l i < (i : Int)) {x : Nat} (hx : x ∈ chain l i) (hne : x ≠ i) : x ∈ chain l (up l i).toNat := by
  rw [chain_up h, List.mem_cons] at hx
  exact hx.resolve_left hne

def cnt (l : List Nd) (i : Nat) : Nat → Nat → Nat
  | _, 0 => 0
  | a, d + 1 => (if up l a = (i : Int) then 1 else 0) + cnt l i (a + 1) d
theorem cnt_add (l : List Nd) (i : Nat) : ∀ (d a d' : Nat), cnt l i a (d + d') = cnt l i a d + cnt l i (a + d) d'
  | 0, a, d' => by simp [cnt]
  | d + 1, a, d' => by
    have e : d + 1 + d' = (d + d') + 1 := by omega
    rw [e]
    show (if up l a = (i : Int) then 1 else 0) + cnt l i (a + 1) (d + d') = (if up l a = (i : Int) then 1 else 0) + cnt l i (a + 1) d + cnt l i (a + (d + 1)) d'
    rw [cnt_add l i d (a + 1) d', show a + 1 + d = a + (d + 1) by omega]; omega
theorem cnt_zero (l : List Nd) (i : Nat) : ∀ (d a : Nat), (∀ m, a ≤ m → m < a + d → up l m ≠ (i : Int)) → cnt l i a d = 0
  | 0, a, h => rfl
  | d + 1, a, h => by
    show (if up l a = (i : Int) then 1 else 0) + cnt l i (a + 1) d = 0
    rw [if_neg (h a (Nat.le_refl _) (by omega)), cnt_zero l i d (a + 1) (fun m h1 h2 => h m (by omega) (by omega))]

structure Arity where
  top : Int
  want : Int → Nat

inductive Par (A : Arity) (l : List Nd) : Nat → Int → Tr → Nat → Prop
  | leaf {i : Nat} {u k n : Int} (h : l[i]? = some ⟨k, n, u⟩) (hk : 1 ≤ k ∧ k ≤ A.top) (hw : A.want k = 0) : Par A l i u (.leaf k n) (i + 1)
  | un {i e : Nat} {u k n : Int} {a : Tr} (h : l[i]? = some ⟨k, n, u⟩) (hk : 1 ≤ k ∧ k ≤ A.top) (hw : A.want k = 1) (ha : Par A l (i + 1) i a e) : Par A l i u (.un k n a) e
  | bin {i e e' : Nat} {u k n : Int} {a b : Tr} (h : l[i]? = some ⟨k, n, u⟩) (hk : 1 ≤ k ∧ k ≤ A.top) (hw : A.want k = 2) (ha : Par A l (i + 1) i a e) (hb : Par A l e i b e') : Par A l i u (.bin k n a b) e'

theorem Par.span {A : Arity} {l : List Nd} {i e : Nat} {u : Int} {t : Tr} (h : Par A l i u t e) : e = i + t.size ∧ e ≤ l.length ∧ up l i = u := by
  induction h with
  | @leaf i u k n h hk hw => exact ⟨rfl, lt_of h, up_of h⟩
  | @un i e u k n a h hk hw ha ih => exact ⟨by rw [ih.1]; show _ = _ + (1 + _); omega, ih.2.1, up_of h⟩
  | @bin i e e' u k n a b h hk hw ha hb ih1 ih2 => exact ⟨by rw [ih2.1, ih1.1]; show _ = _ + (1 + _ + _); omega, ih2.2.1, up_of h⟩
theorem Tr.size_pos (t : Tr) : 0 < t.size := by cases t <;> (simp only [Tr.size]; omega)
theorem Par.lt {A : Arity} {l : List Nd} {i e : Nat} {u : Int} {t : Tr} (h : Par A l i u t e) : i < e := by have := h.span.1; have := t.size_pos; omega

theorem Par.inside {A : Arity} {l : List Nd} {i e : Nat} {u : Int} {t : Tr} (h : Par A l i u t e) : ∀ m, i < m → m < e → (i : Int) ≤ up l m ∧ up l m < (m : Int) := by
  induction h with
  | @leaf i u k n h hk hw => intro m h1 h2; omega
  | @un i e u k n a h hk hw ha ih =>
    intro m h1 h2
    by_cases hm : m = i + 1
    · subst hm; rw [ha.span.2.2]; omega
    · have := ih m (by omega) h2; omega
  | @bin i e e' u k n a b h hk hw ha hb ih1 ih2 =>
    intro m h1 h2
    have := ha.lt
    by_cases hm : m = i + 1
    · subst hm; rw [ha.span.2.2]; omega
    · by_cases hme : m < e
      · have := ih1 m (by omega) hme; omega
      · by_cases hm2 : m = e
        · subst hm2; rw [hb.span.2.2]; omega
        · have := ih2 m (by omega) h2; omega

theorem anc_of_sub {l : List Nd} {i e : Nat} (h : ∀ m, i < m → m < e → (i : Int) ≤ up l m ∧ up l m < (m : Int)) : ∀ m, i ≤ m → m < e → i ∈ chain l m := by
  intro m
  induction m using Nat.strongRecOn with
  | _ m ih =>
    intro h1 h2
    by_cases hm : m = i
    · subst hm; exact chain_self l m
    · have hu := h m (by omega) h2
      rw [chain_up (by omega)]
      exact List.mem_cons_of_mem _ (ih (up l m).toNat (by omega) (by omega) (by omega))

theorem Par.around {A : Arity} {l : List Nd} {i e : Nat} {u : Int} {t : Tr} (h : Par A l i u t e) : ∀ m, i < m → m < e → (up l m).toNat ∈ chain l (m - 1) := by
  induction h with
  | @leaf i u k n h hk hw => intro m h1 h2; omega
  | @un i e u k n a h hk hw ha ih =>
    intro m h1 h2
    by_cases hm : m = i + 1
    · subst hm; rw [ha.span.2.2]; exact chain_self l i
    · exact ih m (by omega) h2
  | @bin i e e' u k n a b h hk hw ha hb ih1 ih2 =>
    intro m h1 h2
    have hlt := ha.lt
    by_cases hm : m = i + 1
    · subst hm; rw [ha.span.2.2]; exact chain_self l i
    · by_cases hme : m < e
      · exact ih1 m (by omega) hme
      · by_cases hm2 : m = e
        · subst hm2
          rw [hb.span.2.2]
          exact anc_of_sub (e := m) (fun q h3 h4 => (Par.bin h hk hw ha hb).inside q h3 (by have := hb.lt; omega)) (m - 1) (by omega) (by omega)
        · exact ih2 m (by omega) h2

theorem Par.counts {A : Arity} {l : List Nd} {i e : Nat} {u : Int} {t : Tr} (h : Par A l i u t e) : ∀ m, i ≤ m → m < e → ∃ k n v, l[m]? = some ⟨k, n, v⟩ ∧ (1 ≤ k ∧ k ≤ A.top) ∧ cnt l m (m + 1) (e - (m + 1)) = A.want k := by
  induction h with
  | @leaf i u k n h hk hw =>
    intro m h1 h2
    obtain rfl : m = i := by omega
    exact ⟨k, n, u, h, hk, by rw [hw, Nat.sub_self]; rfl⟩
  | @un i e u k n a h hk hw ha ih =>
    intro m h1 h2
    have hlt := ha.lt
    by_cases hm : m = i
    · subst hm
      refine ⟨k, n, u, h, hk, ?_⟩
      obtain ⟨d, hd⟩ : ∃ d, e - (m + 1) = d + 1 := ⟨e - (m + 1) - 1, by omega⟩
      rw [hd, hw]
      show (if up l (m + 1) = (m : Int) then 1 else 0) + cnt l m (m + 1 + 1) d = 1
      rw [if_pos ha.span.2.2, cnt_zero]
      intro q h3 h4
      have := ha.inside q (by omega) (by omega); omega
    · exact ih m (by omega) h2
  | @bin i e e' u k n a b h hk hw ha hb ih1 ih2 =>
    intro m h1 h2
    have hlt := ha.lt
    have hlt2 := hb.lt
    by_cases hm : m = i
    · subst hm
      refine ⟨k, n, u, h, hk, ?_⟩
      obtain ⟨d, hd⟩ : ∃ d, e - (m + 1) = d + 1 := ⟨e - (m + 1) - 1, by omega⟩
      obtain ⟨d2, hd2⟩ : ∃ d2, e' - e = d2 + 1 := ⟨e' - e - 1, by omega⟩
      rw [show e' - (m + 1) = (d + 1) + (d2 + 1) by omega, hw, cnt_add, show m + 1 + (d + 1) = e by omega]
      show (if up l (m + 1) = (m : Int) then 1 else 0) + cnt l m (m + 1 + 1) d + ((if up l e = (m : Int) then 1 else 0) + cnt l m (e + 1) d2) = 2
      rw [if_pos ha.span.2.2, if_pos hb.span.2.2, cnt_zero, cnt_zero]
      · intro q h3 h4
        have := hb.inside q (by omega) (by omega); omega
      · intro q h3 h4
        have := ha.inside q (by omega) (by omega); omega
    · by_cases hme : m < e
      · obtain ⟨k', n', v', h3, h4, h5⟩ := ih1 m (by omega) hme
        refine ⟨k', n', v', h3, h4, ?_⟩
        rw [show e' - (m + 1) = (e - (m + 1)) + (e' - e) by omega, cnt_add, h5, show m + 1 + (e - (m + 1)) = e by omega, cnt_zero, Nat.add_zero]
        intro q h6 h7
        by_cases hq : q = e
        · subst hq; rw [hb.span.2.2]; omega
        · have := hb.inside q (by omega) (by omega); omega
      · exact ih2 m (by omega) h2

theorem Par.deep {A : Arity} {l : List Nd} {i e : Nat} {u : Int} {t : Tr} (h : Par A l i u t e) : (∀ m, i ≤ m → m < e → (chain l m).length + 1 ≤ (chain l i).length + t.depth) ∧ ∃ m, i ≤ m ∧ m < e ∧ (chain l m).length + 1 = (chain l i).length + t.depth := by
  have up1 : ∀ (q i : Nat), up l q = (i : Int) → i < q → (chain l q).length = (chain l i).length + 1 := fun q i h1 h2 => by
    rw [chain_up (by omega), h1]; simp
  induction h with
  | @leaf i u k n h hk hw =>
    exact ⟨fun m h1 h2 => by obtain rfl : m = i := by omega
                             exact Nat.le_refl _, i, Nat.le_refl _, by omega, rfl⟩
  | @un i e u k n a h hk hw ha ih =>
    have hlt := ha.lt
    have e1 := up1 (i + 1) i ha.span.2.2 (by omega)
    refine ⟨fun m h1 h2 => ?_, ?_⟩
    · by_cases hm : m = i
      · subst hm; show _ ≤ _ + (a.depth + 1); omega
      · have := ih.1 m (by omega) h2; show _ ≤ _ + (a.depth + 1); omega
    · obtain ⟨m, h1, h2, h3⟩ := ih.2
      exact ⟨m, by omega, h2, by show _ = _ + (a.depth + 1); omega⟩
  | @bin i e e' u k n a b h hk hw ha hb ih1 ih2 =>
    have hlt := ha.lt
    have hlt2 := hb.lt
    have e1 := up1 (i + 1) i ha.span.2.2 (by omega)
    have e2 := up1 e i hb.span.2.2 (by omega)
    refine ⟨fun m h1 h2 => ?_, ?_⟩
    · show _ ≤ _ + (max a.depth b.depth + 1)
      by_cases hm : m = i
      · subst hm; omega
      · by_cases hme : m < e
        · have := ih1.1 m (by omega) hme; omega
        · have := ih2.1 m (by omega) h2; omega
    · by_cases hd : b.depth ≤ a.depth
      · obtain ⟨m, h1, h2, h3⟩ := ih1.2
        exact ⟨m, by omega, by omega, by show _ = _ + (max a.depth b.depth + 1); omega⟩
      · obtain ⟨m, h1, h2, h3⟩ := ih2.2
        exact ⟨m, by omega, by omega, by show _ = _ + (max a.depth b.depth + 1); omega⟩

theorem Par.alls {A : Arity} {l : List Nd} {i e : Nat} {u : Int} {t : Tr} (h : Par A l i u t e) (p : Int → Int → Prop) : t.all p ↔ ∀ m, i ≤ m → m < e → p (l.getD m z).kind (l.getD m z).n := by
  have at1 : ∀ (q : Nat) (x : Nd), l[q]? = some x → l.getD q z = x := fun q x h => by rw [List.getD_eq_getElem?_getD, h]; rfl
  induction h with
  | @leaf i u k n h hk hw =>
    constructor
    · intro h1 m h2 h3
      obtain rfl : m = i := by omega
      rw [at1 _ _ h]; exact h1
    · intro h1
      have := h1 i (Nat.le_refl _) (by omega)
      rw [at1 _ _ h] at this; exact this
  | @un i e u k n a h hk hw ha ih =>
    have hlt := ha.lt
    constructor
    · rintro ⟨h1, h2⟩ m h3 h4
      by_cases hm : m = i
      · subst hm; rw [at1 _ _ h]; exact h1
      · exact ih.mp h2 m (by omega) h4
    · intro h1
      have := h1 i (Nat.le_refl _) (by omega)
      rw [at1 _ _ h] at this
      exact ⟨this, ih.mpr (fun m h3 h4 => h1 m (by omega) h4)⟩
  | @bin i e e' u k n a b h hk hw ha hb ih1 ih2 =>
    have hlt := ha.lt
    have hlt2 := hb.lt
    constructor
    · rintro ⟨h1, h2, h2'⟩ m h3 h4
      by_cases hm : m = i
      · subst hm; rw [at1 _ _ h]; exact h1
      · by_cases hme : m < e
        · exact ih1.mp h2 m (by omega) hme
        · exact ih2.mp h2' m (by omega) h4
    · intro h1
      have := h1 i (Nat.le_refl _) (by omega)
      rw [at1 _ _ h] at this
      exact ⟨this, ih1.mpr (fun m h3 h4 => h1 m (by omega) (by omega)), ih2.mpr (fun m h3 h4 => h1 m (by omega) (by omega))⟩

structure Loc (A : Arity) (l : List Nd) : Prop where
  root : ∀ h : 0 < l.length, up l 0 = -1
  ahead : ∀ m, 0 < m → m < l.length → 0 ≤ up l m ∧ up l m < (m : Int)
  around : ∀ m, 0 < m → m < l.length → (up l m).toNat ∈ chain l (m - 1)
  kinds : ∀ m, m < l.length → 1 ≤ (l.getD m z).kind ∧ (l.getD m z).kind ≤ A.top
  wants : ∀ m, m < l.length → cnt l m (m + 1) (l.length - (m + 1)) = A.want (l.getD m z).kind

theorem Par.loc {A : Arity} {l : List Nd} {t : Tr} (h : Par A l 0 (-1) t l.length) : Loc A l := by
  have at1 : ∀ (q : Nat) (x : Nd), l[q]? = some x → l.getD q z = x := fun q x h => by rw [List.getD_eq_getElem?_getD, h]; rfl
  refine ⟨fun _ => h.span.2.2, fun m h1 h2 => by have := h.inside m h1 h2; omega, fun m h1 h2 => h.around m h1 h2, fun m h1 => ?_, fun m h1 => ?_⟩
  · obtain ⟨k, n, v, h2, h3, _⟩ := h.counts m (by omega) h1
    rw [at1 _ _ h2]; exact h3
  · obtain ⟨k, n, v, h2, _, h3⟩ := h.counts m (by omega) h1
    rw [at1 _ _ h2]; exact h3

theorem Loc.past {A : Arity} {l : List Nd} (L : Loc A l) {i e : Nat} (hi : i < e) (he : e < l.length) (hu : up l e < (i : Int)) : ∀ m, e ≤ m → m < l.length → ∀ x ∈ chain l m, x < i ∨ e ≤ x := by
  intro m
  induction m using Nat.strongRecOn with
  | _ m ih =>
    intro h1 h2 x hx
    have ha := L.ahead m (by omega) h2
    rw [chain_up ha, List.mem_cons] at hx
    rcases hx with rfl | hx
    · exact .inr h1
    · by_cases hm : m = e
      · subst hm
        have := chain_le _ _ hx
        exact .inl (by omega)
      · exact ih (m - 1) (by omega) (by omega) (by omega) x (chain_trans _ _ _ (L.around m (by omega) h2) hx)

theorem Loc.par {A : Arity} {l : List Nd} (L : Loc A l) (hA : ∀ k, A.want k ≤ 2) : ∀ (d i : Nat), i + d = l.length → 0 < d → ∃ t e, Par A l i (up l i) t e ∧ (e = l.length ∨ up l e < (i : Int)) := by
  intro d
  induction d using Nat.strongRecOn with
  | _ d ih =>
    intro i hi hd
    have hlt : i < l.length := by omega
    have hx : l[i]? = some ⟨(l.getD i z).kind, (l.getD i z).n, up l i⟩ := get_of hlt
    have hk := L.kinds i hlt
    have hw := L.wants i hlt
    -- the first part, if there is any
    have first : ∀ h : 0 < A.want (l.getD i z).kind, i + 1 < l.length ∧ up l (i + 1) = (i : Int) := by
      intro h
      have h1 : i + 1 < l.length := by
        by_cases h1 : i + 1 < l.length
        · exact h1
        · rw [show l.length - (i + 1) = 0 by omega] at hw
          have : cnt l i (i + 1) 0 = 0 := rfl
          omega
      refine ⟨h1, ?_⟩
      have ha := L.ahead (i + 1) (by omega) h1
      by_cases hu : up l (i + 1) = (i : Int)
      · exact hu
      · have hz : cnt l i (i + 1) (l.length - (i + 1)) = 0 := cnt_zero l i _ _ (fun m h2 h3 he => by
          have hp := L.past (i := i) (e := i + 1) (by omega) h1 (by omega) m (by omega) (by omega) i (by
            rw [chain_up (L.ahead m (by omega) (by omega)), he, Int.toNat_natCast]
            exact List.mem_cons_of_mem _ (chain_self l i))
          omega)
        omega
    by_cases h0 : A.want (l.getD i z).kind = 0
    · refine ⟨_, i + 1, .leaf hx hk h0, ?_⟩
      by_cases h1 : i + 1 < l.length
      · refine .inr ?_
        have ha := L.ahead (i + 1) (by omega) h1
        by_cases hu : up l (i + 1) = (i : Int)
        · obtain ⟨d', hd'⟩ : ∃ d', l.length - (i + 1) = d' + 1 := ⟨l.length - (i + 1) - 1, by omega⟩
          rw [hd', h0] at hw
          have hw' : (if up l (i + 1) = (i : Int) then 1 else 0) + cnt l i (i + 1 + 1) d' = 0 := hw
          rw [if_pos hu] at hw'; omega
        · omega
      · exact .inl (by omega)
    · obtain ⟨h1, hu1⟩ := first (by omega)
      obtain ⟨a, e1, pa, he1⟩ := ih (l.length - (i + 1)) (by omega) (i + 1) (by omega) (by omega)
      rw [hu1] at pa
      have hs1 := pa.span
      have hl1 := pa.lt
      have c1 : cnt l i (i + 1) (e1 - (i + 1)) = 1 := by
        obtain ⟨d', hd'⟩ : ∃ d', e1 - (i + 1) = d' + 1 := ⟨e1 - (i + 1) - 1, by omega⟩
        rw [hd']
        show (if up l (i + 1) = (i : Int) then 1 else 0) + cnt l i (i + 1 + 1) d' = 1
        rw [if_pos hu1, cnt_zero]
        intro q h3 h4
        have := pa.inside q (by omega) (by omega); omega
      have c2 : cnt l i (i + 1) (l.length - (i + 1)) = 1 + cnt l i e1 (l.length - e1) := by
        rw [show l.length - (i + 1) = (e1 - (i + 1)) + (l.length - e1) by omega, cnt_add, c1, show i + 1 + (e1 - (i + 1)) = e1 by omega]
      by_cases hw1 : A.want (l.getD i z).kind = 1
      · refine ⟨_, e1, .un hx hk hw1 pa, ?_⟩
        by_cases h2 : e1 < l.length
        · refine .inr ?_
          have hu := he1.resolve_left (by omega)
          by_cases hq : up l e1 = (i : Int)
          · obtain ⟨d', hd'⟩ : ∃ d', l.length - e1 = d' + 1 := ⟨l.length - e1 - 1, by omega⟩
            have : cnt l i e1 (l.length - e1) = (if up l e1 = (i : Int) then 1 else 0) + cnt l i (e1 + 1) d' := by rw [hd']; rfl
            rw [if_pos hq] at this; omega
          · omega
        · exact .inl (by omega)
      · have hw2 : A.want (l.getD i z).kind = 2 := by have := hA (l.getD i z).kind; omega
        have h2 : e1 < l.length := by
          by_cases h2 : e1 < l.length
          · exact h2
          · rw [show l.length - e1 = 0 by omega] at c2
            have : cnt l i e1 0 = 0 := rfl
            omega
        have hu := he1.resolve_left (by omega)
        have hu2 : up l e1 = (i : Int) := by
          by_cases hq : up l e1 = (i : Int)
          · exact hq
          · have hz : cnt l i e1 (l.length - e1) = 0 := cnt_zero l i _ _ (fun m h3 h4 he => by
              have hp := L.past (i := i) (e := e1) (by omega) h2 (by omega) m (by omega) (by omega) i (by
                rw [chain_up (L.ahead m (by omega) (by omega)), he, Int.toNat_natCast]
                exact List.mem_cons_of_mem _ (chain_self l i))
              omega)
            omega
        obtain ⟨b, e2, pb, he2⟩ := ih (l.length - e1) (by omega) e1 (by omega) (by omega)
        rw [hu2] at pb
        have hl2 := pb.lt
        have hs2 := pb.span
        refine ⟨_, e2, .bin hx hk hw2 pa pb, ?_⟩
        by_cases h3 : e2 < l.length
        · refine .inr ?_
          have hv := he2.resolve_left (by omega)
          have hav := L.ahead e2 (by omega) h3
          have hanc : e1 ∈ chain l (e2 - 1) := anc_of_sub (e := e2) (fun q h5 h6 => by have := pb.inside q h5 h6; omega) (e2 - 1) (by omega) (by omega)
          have hin := chain_below _ _ _ hanc (L.around e2 (by omega) h3) (by omega)
          have hin2 := chain_mem_up (L.ahead e1 (by omega) h2) hin (by omega)
          rw [hu2, Int.toNat_natCast] at hin2
          have hle := chain_le _ _ hin2
          by_cases hq : up l e2 = (i : Int)
          · obtain ⟨d1, hd1⟩ : ∃ d', e2 - e1 = d' + 1 := ⟨e2 - e1 - 1, by omega⟩
            obtain ⟨d2, hd2⟩ : ∃ d', l.length - e2 = d' + 1 := ⟨l.length - e2 - 1, by omega⟩
            have e3 : cnt l i e1 (l.length - e1) = cnt l i e1 (e2 - e1) + cnt l i e2 (l.length - e2) := by
              rw [show l.length - e1 = (e2 - e1) + (l.length - e2) by omega, cnt_add, show e1 + (e2 - e1) = e2 by omega]
            have e4 : cnt l i e1 (e2 - e1) = (if up l e1 = (i : Int) then 1 else 0) + cnt l i (e1 + 1) d1 := by rw [hd1]; rfl
            have e5 : cnt l i e2 (l.length - e2) = (if up l e2 = (i : Int) then 1 else 0) + cnt l i (e2 + 1) d2 := by rw [hd2]; rfl
            rw [if_pos hu2] at e4
            rw [if_pos hq] at e5
            omega
          · omega
        · exact .inl (by omega)

theorem loc_iff {A : Arity} {l : List Nd} (hA : ∀ k, A.want k ≤ 2) (hl : 0 < l.length) : Loc A l ↔ ∃ t, Par A l 0 (-1) t l.length := by
  constructor
  · intro L
    obtain ⟨t, e, h, he⟩ := L.par hA l.length 0 (by omega) hl
    rw [L.root hl] at h
    rcases he with rfl | he
    · exact ⟨t, h⟩
    · have hlt := h.lt
      have hs := h.span
      by_cases h2 : e < l.length
      · have := L.ahead e (by omega) h2; omega
      · obtain rfl : e = l.length := by omega
        exact ⟨t, h⟩
  · rintro ⟨t, h⟩
    exact h.loc

theorem Par.unique {A : Arity} {l : List Nd} {i e e' : Nat} {u : Int} {t t' : Tr} (h : Par A l i u t e) (h' : Par A l i u t' e') : t = t' ∧ e = e' := by
  induction h generalizing t' e' with
  | @leaf i u k n h hk hw =>
    cases h' with
    | leaf h2 _ _ => rw [h] at h2; injection h2 with h2; injection h2 with a b c; subst a; subst b; exact ⟨rfl, rfl⟩
    | un h2 _ hw2 _ => rw [h] at h2; injection h2 with h2; injection h2 with a b c; subst a; omega
    | bin h2 _ hw2 _ _ => rw [h] at h2; injection h2 with h2; injection h2 with a b c; subst a; omega
  | @un i e u k n a h hk hw ha ih =>
    cases h' with
    | leaf h2 _ hw2 => rw [h] at h2; injection h2 with h2; injection h2 with a b c; subst a; omega
    | un h2 _ _ ha2 =>
      rw [h] at h2; injection h2 with h2; injection h2 with a b c; subst a; subst b
      obtain ⟨rfl, rfl⟩ := ih ha2
      exact ⟨rfl, rfl⟩
    | bin h2 _ hw2 _ _ => rw [h] at h2; injection h2 with h2; injection h2 with a b c; subst a; omega
  | @bin i e e' u k n a b h hk hw ha hb ih1 ih2 =>
    cases h' with
    | leaf h2 _ hw2 => rw [h] at h2; injection h2 with h2; injection h2 with a b c; subst a; omega
    | un h2 _ hw2 _ => rw [h] at h2; injection h2 with h2; injection h2 with a b c; subst a; omega
    | bin h2 _ _ ha2 hb2 =>
      rw [h] at h2; injection h2 with h2; injection h2 with a b c; subst a; subst b
      obtain ⟨rfl, rfl⟩ := ih1 ha2
      obtain ⟨rfl, rfl⟩ := ih2 hb2
      exact ⟨rfl, rfl⟩
end Go.Proofs.YthfkimbmepmelaaDoor.TreeM

namespace Go.Proofs.YthfkimbmepmelaaDoor.TreeM
set_option linter.unusedVariables false

def flat : Tr → Nat → Int → List Nd
  | .leaf k n, _, u => [⟨k, n, u⟩]
  | .un k n a, i, u => ⟨k, n, u⟩ :: flat a (i + 1) i
  | .bin k n a b, i, u => ⟨k, n, u⟩ :: (flat a (i + 1) i ++ flat b (i + 1 + a.size) i)
theorem flat_len : ∀ (t : Tr) (i : Nat) (u : Int), (flat t i u).length = t.size
  | .leaf _ _, _, _ => rfl
  | .un k n a, i, u => by show (flat a (i + 1) i).length + 1 = 1 + a.size; rw [flat_len a]; omega
  | .bin k n a b, i, u => by show (flat a (i + 1) i ++ flat b (i + 1 + a.size) i).length + 1 = 1 + a.size + b.size; rw [List.length_append, flat_len a, flat_len b]; omega

def Tr.wf (A : Arity) : Tr → Prop
  | .leaf k _ => (1 ≤ k ∧ k ≤ A.top) ∧ A.want k = 0
  | .un k _ a => ((1 ≤ k ∧ k ≤ A.top) ∧ A.want k = 1) ∧ a.wf A
  | .bin k _ a b => ((1 ≤ k ∧ k ≤ A.top) ∧ A.want k = 2) ∧ a.wf A ∧ b.wf A
theorem Par.wf {A : Arity} {l : List Nd} {i e : Nat} {u : Int} {t : Tr} (h : Par A l i u t e) : t.wf A := by
  induction h with
  | leaf h hk hw => exact ⟨hk, hw⟩
  | un h hk hw ha ih => exact ⟨⟨hk, hw⟩, ih⟩
  | bin h hk hw ha hb ih1 ih2 => exact ⟨⟨hk, hw⟩, ih1, ih2⟩

theorem par_flat {A : Arity} : ∀ (t : Tr) (i : Nat) (u : Int) (l : List Nd), t.wf A → (∀ j x, (flat t i u)[j]? = some x → l[i + j]? = some x) → Par A l i u t (i + t.size)
  | .leaf k n, i, u, l, hw, h => .leaf (h 0 _ rfl) hw.1 hw.2
  | .un k n a, i, u, l, hw, h => by
    have pa := par_flat a (i + 1) i l hw.2 (fun j x hx => by rw [show i + 1 + j = i + (j + 1) by omega]; exact h (j + 1) x hx)
    have e : i + (Tr.un k n a).size = i + 1 + a.size := by show i + (1 + a.size) = _; omega
    rw [e]
    exact .un (h 0 _ rfl) hw.1.1 hw.1.2 pa
  | .bin k n a b, i, u, l, hw, h => by
    have pa := par_flat a (i + 1) i l hw.2.1 (fun j x hx => by
      rw [show i + 1 + j = i + (j + 1) by omega]
      refine h (j + 1) x ?_
      show (flat a (i + 1) i ++ flat b (i + 1 + a.size) i)[j]? = _
      rw [List.getElem?_append_left (by have := lt_of hx; exact this)]; exact hx)
    have pb := par_flat b (i + 1 + a.size) i l hw.2.2 (fun j x hx => by
      rw [show i + 1 + a.size + j = i + (a.size + j + 1) by omega]
      refine h (a.size + j + 1) x ?_
      show (flat a (i + 1) i ++ flat b (i + 1 + a.size) i)[a.size + j]? = _
      rw [List.getElem?_append_right (by rw [flat_len]; omega), flat_len, show a.size + j - a.size = j by omega]; exact hx)
    have e : i + (Tr.bin k n a b).size = i + 1 + a.size + b.size := by show i + (1 + a.size + b.size) = _; omega
    rw [e]
    exact .bin (h 0 _ rfl) hw.1.1 hw.1.2 pa pb

theorem flat_par {A : Arity} (t : Tr) (hw : t.wf A) : Par A (flat t 0 (-1)) 0 (-1) t (flat t 0 (-1)).length := by
  have := par_flat (A := A) t 0 (-1) (flat t 0 (-1)) hw (fun j x hx => by rw [Nat.zero_add]; exact hx)
  rw [flat_len]; rw [Nat.zero_add] at this; exact this

def pts (l : List Nd) (i : Nat) : Nat → Nat → List Nat
  | _, 0 => []
  | a, d + 1 => if up l a = (i : Int) then a :: pts l i (a + 1) d else pts l i (a + 1) d
theorem pts_add (l : List Nd) (i : Nat) : ∀ (d a d' : Nat), pts l i a (d + d') = pts l i a d ++ pts l i (a + d) d'
  | 0, a, d' => by simp [pts]
  | d + 1, a, d' => by
    have e : d + 1 + d' = (d + d') + 1 := by omega
    rw [e]
    show (if up l a = (i : Int) then a :: pts l i (a + 1) (d + d') else pts l i (a + 1) (d + d')) = (if up l a = (i : Int) then a :: pts l i (a + 1) d else pts l i (a + 1) d) ++ pts l i (a + (d + 1)) d'
    rw [pts_add l i d (a + 1) d', show a + 1 + d = a + (d + 1) by omega]
    split <;> rfl
theorem pts_none (l : List Nd) (i : Nat) : ∀ (d a : Nat), (∀ m, a ≤ m → m < a + d → up l m ≠ (i : Int)) → pts l i a d = []
  | 0, a, h => rfl
  | d + 1, a, h => by
    show (if up l a = (i : Int) then a :: pts l i (a + 1) d else pts l i (a + 1) d) = []
    rw [if_neg (h a (Nat.le_refl _) (by omega)), pts_none l i d (a + 1) (fun m h1 h2 => h m (by omega) (by omega))]

def Shut (l : List Nd) (i e : Nat) : Prop := ∀ m, e ≤ m → m < l.length → ¬ ((i : Int) ≤ up l m ∧ up l m < (e : Int))

inductive Parts (A : Arity) (l : List Nd) : Nat → Tr → Nat → Prop
  | leaf {i : Nat} {k n : Int} (h : l.getD i z = ⟨k, n, up l i⟩) (hi : i < l.length) (hw : A.want k = 0) (hp : pts l i (i + 1) (l.length - (i + 1)) = []) : Parts A l i (.leaf k n) (i + 1)
  | un {i e : Nat} {k n : Int} {a : Tr} (h : l.getD i z = ⟨k, n, up l i⟩) (hi : i < l.length) (hw : A.want k = 1) (hp : pts l i (i + 1) (l.length - (i + 1)) = [i + 1]) (ha : Parts A l (i + 1) a e) : Parts A l i (.un k n a) e
  | bin {i e e' : Nat} {k n : Int} {a b : Tr} (h : l.getD i z = ⟨k, n, up l i⟩) (hi : i < l.length) (hw : A.want k = 2) (hp : pts l i (i + 1) (l.length - (i + 1)) = [i + 1, e]) (ha : Parts A l (i + 1) a e) (hb : Parts A l e b e') : Parts A l i (.bin k n a b) e'

theorem Par.parts {A : Arity} {l : List Nd} {i e : Nat} {u : Int} {t : Tr} (h : Par A l i u t e) : Shut l i e → Parts A l i t e := by
  have at1 : ∀ (q : Nat) (k n v : Int), l[q]? = some ⟨k, n, v⟩ → l.getD q z = ⟨k, n, up l q⟩ := fun q k n v h => by rw [up_of h, List.getD_eq_getElem?_getD, h]; rfl
  induction h with
  | @leaf i u k n h hk hw =>
    intro hs
    refine .leaf (at1 _ _ _ _ h) (lt_of h) hw (pts_none _ _ _ _ fun m h1 h2 he => hs m h1 (by have := lt_of h; omega) ?_)
    omega
  | @un i e u k n a h hk hw ha ih =>
    intro hs
    have hlt := ha.lt
    have hsp := ha.span
    refine .un (at1 _ _ _ _ h) (lt_of h) hw ?_ (ih fun m h1 h2 h3 => hs m h1 h2 (by omega))
    obtain ⟨d, hd⟩ : ∃ d, e - (i + 1) = d + 1 := ⟨e - (i + 1) - 1, by omega⟩
    rw [show l.length - (i + 1) = (d + 1) + (l.length - e) by omega, pts_add l i (d + 1) (i + 1) (l.length - e), show i + 1 + (d + 1) = e by omega]
    have e1 : pts l i (i + 1) (d + 1) = [i + 1] := by
      show (if up l (i + 1) = (i : Int) then (i + 1) :: pts l i (i + 1 + 1) d else pts l i (i + 1 + 1) d) = _
      rw [if_pos hsp.2.2, pts_none]
      intro q h3 h4
      have := ha.inside q (by omega) (by omega); omega
    have e2 : pts l i e (l.length - e) = [] := pts_none _ _ _ _ fun m h1 h2 he => hs m h1 (by omega) (by omega)
    rw [e1, e2]; rfl
  | @bin i e e' u k n a b h hk hw ha hb ih1 ih2 =>
    intro hs
    have hlt := ha.lt
    have hsp := ha.span
    have hlt2 := hb.lt
    have hsp2 := hb.span
    refine .bin (at1 _ _ _ _ h) (lt_of h) hw ?_ (ih1 fun m h1 h2 h3 => ?_) (ih2 fun m h1 h2 h3 => hs m h1 h2 (by omega))
    · obtain ⟨d, hd⟩ : ∃ d, e - (i + 1) = d + 1 := ⟨e - (i + 1) - 1, by omega⟩
      obtain ⟨d2, hd2⟩ : ∃ d2, e' - e = d2 + 1 := ⟨e' - e - 1, by omega⟩
      rw [show l.length - (i + 1) = (d + 1) + ((d2 + 1) + (l.length - e')) by omega, pts_add l i (d + 1) (i + 1) ((d2 + 1) + (l.length - e')), show i + 1 + (d + 1) = e by omega, pts_add l i (d2 + 1) e (l.length - e'), show e + (d2 + 1) = e' by omega]
      have e1 : pts l i (i + 1) (d + 1) = [i + 1] := by
        show (if up l (i + 1) = (i : Int) then (i + 1) :: pts l i (i + 1 + 1) d else pts l i (i + 1 + 1) d) = _
        rw [if_pos hsp.2.2, pts_none]
        intro q h3 h4
        have := ha.inside q (by omega) (by omega); omega
      have e2 : pts l i e (d2 + 1) = [e] := by
        show (if up l e = (i : Int) then e :: pts l i (e + 1) d2 else pts l i (e + 1) d2) = _
        rw [if_pos hsp2.2.2, pts_none]
        intro q h3 h4
        have := hb.inside q (by omega) (by omega); omega
      have e3 : pts l i e' (l.length - e') = [] := pts_none _ _ _ _ fun m h1 h2 he => hs m h1 (by omega) (by omega)
      rw [e1, e2, e3]; rfl
    · by_cases hm : m < e'
      · by_cases hme : m = e
        · subst hme; omega
        · have := hb.inside m (by omega) hm; omega
      · exact hs m (by omega) h2 (by omega)

theorem Par.parts_all {A : Arity} {l : List Nd} {t : Tr} (h : Par A l 0 (-1) t l.length) : Parts A l 0 t l.length := h.parts fun m h1 h2 => by omega
end Go.Proofs.YthfkimbmepmelaaDoor.TreeM
