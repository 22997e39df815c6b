/- Part 2 of 5 of the proof that the law FnExactNormalCombSaid holds: for every input that can be read the call returns true and leaves its arguments as they were; no condition but those each theorem names. -/
import Derived.Test.YtcjhhdecckcibaaQNormalCombW1
import Derived.Test.YtcjhhdecckcibaaQNormalComb1
namespace Go.Proofs.Ytcjhhdecckcibaa.G
open Go.RowKit Go.Proofs.YtcjhhdecckcibaaW.PrintWords Go.Proofs.YtcjhhdecckcibaaW.PrintLast Go.Proofs.YtcjhhdecckcibaaW.PrintMore
attribute [local go_sem] max2_int min2_int max_two min_two max_three min_three max_four min_four   -- for this text's walks alone
set_option linter.unusedVariables false
set_option linter.unusedSimpArgs false

theorem Kd.V_away {α : Type} {d : Kd α} {e : Nat} {W : World} {base : Nat} {ok : Nat → Prop} {v : Value} {xs : List α} {g : Nat} (h : Kd.V d e W base ok v xs) (hok : ∀ k, ok k → k ≠ g) (h0 : decide (0 < xs.length) = true := by assumption) (hs : 0 < d.sz := by decide) : some g ≠ v.ownBlock := by
 obtain ⟨A, c, rfl, hl, hf⟩ := h
 have hp : 0 < xs.length := of_decide_eq_true h0
 intro hg
 have hC := Kd.F_now hf
 obtain ⟨a, rfl, hcell⟩ := hC.2.2 hp
 have hga : g = a.block := by simpa [Value.ownBlock] using hg
 -- a world in which that block holds nothing
 have key : ∀ (W' : World), d.C W' (some a) xs.length xs → ∃ (n : Nat) (u : Value), W'.cell? (a.add n) = some u := by
  intro W' hC'
  obtain ⟨a', ha', hcell'⟩ := hC'.2.2 hp
  injection ha' with ha'
  subst ha'
  obtain ⟨c0, hc0, _, hcc⟩ := hcell' 0 (xs[0]) (by simp [hp])
  exact ⟨0 * d.sz + 0, c0[0]'(by omega), hcc 0 _ (by simp)⟩
 obtain ⟨n0, u0, hu0⟩ := key W hC
 have hlt : a.block < W.heap.size := by
  have := World.block_lt_of_cell? W _ hu0
  rwa [add_block] at this
 let W' : World := { W with heap := W.heap.setIfInBounds a.block (.pending #[] 0) }
 have hC' : d.C W' (some a) xs.length xs := hf W' (fun k hk _ => by
  have : k ≠ a.block := hga ▸ hok k hk
  show (W.heap.setIfInBounds a.block (.pending #[] 0))[k]? = _
  rw [Array.getElem?_setIfInBounds_ne (Ne.symm this)])
 obtain ⟨n1, u1, hu1⟩ := key W' hC'
 unfold World.cell? at hu1
 rw [add_block] at hu1
 have e : W'.heap[a.block]? = some (.pending #[] 0) := by
  show (W.heap.setIfInBounds a.block (.pending #[] 0))[a.block]? = _
  simp [hlt]
 rw [e] at hu1
 simp at hu1
def spec_ldHead.f (a0_0 : Int) (a0_1 : Int) (l0_2 : List (S77)) : Option (Int × Int × (List (S77)) × Bool) := if a0_0 = 2 then (if 0 < (l0_2.length : Int) then (if ((rd_T77 l0_2 0).f0) = 5 then (if 1 < (l0_2.length : Int) then (some ((rd_T77 l0_2 1).f0, (rd_T77 l0_2 1).f1, (rd_T77 l0_2 1).f2, true)) else (none)) else (if ((rd_T77 l0_2 0).f0) = 2 then (if 0 < (((rd_T77 l0_2 0).f2).length : Int) then (if ((rd_T77 ((rd_T77 l0_2 0).f2) 0).f0) = 4 then (if 1 < (((rd_T77 l0_2 0).f2).length : Int) then (some ((rd_T77 ((rd_T77 l0_2 0).f2) 1).f0, (rd_T77 ((rd_T77 l0_2 0).f2) 1).f1, (rd_T77 ((rd_T77 l0_2 0).f2) 1).f2, true)) else (none)) else (if ((rd_T77 ((rd_T77 l0_2 0).f2) 0).f0) = 2 then (if 0 < (((rd_T77 ((rd_T77 l0_2 0).f2) 0).f2).length : Int) then (if ((rd_T77 ((rd_T77 ((rd_T77 l0_2 0).f2) 0).f2) 0).f0) = 3 then (if 1 < (l0_2.length : Int) then (if 1 < (((rd_T77 ((rd_T77 l0_2 0).f2) 0).f2).length : Int) then ((spec_ldApp.f ((rd_T77 ((rd_T77 ((rd_T77 l0_2 0).f2) 0).f2) 1).f0) ((rd_T77 ((rd_T77 ((rd_T77 l0_2 0).f2) 0).f2) 1).f1) ((rd_T77 ((rd_T77 ((rd_T77 l0_2 0).f2) 0).f2) 1).f2) ((rd_T77 l0_2 1).f0) ((rd_T77 l0_2 1).f1) ((rd_T77 l0_2 1).f2)).bind fun bt113 => (if 1 < (((rd_T77 l0_2 0).f2).length : Int) then ((spec_ldApp.f ((rd_T77 ((rd_T77 l0_2 0).f2) 1).f0) ((rd_T77 ((rd_T77 l0_2 0).f2) 1).f1) ((rd_T77 ((rd_T77 l0_2 0).f2) 1).f2) ((rd_T77 l0_2 1).f0) ((rd_T77 l0_2 1).f1) ((rd_T77 l0_2 1).f2)).bind fun bt119 => ((spec_ldApp.f bt113.1 bt113.2.1 bt113.2.2 bt119.1 bt119.2.1 bt119.2.2).bind fun bt124 => (some (bt124.1, bt124.2.1, bt124.2.2, true)))) else (none))) else (none)) else (none)) else (some (a0_0, a0_1, l0_2, false))) else (none)) else (some (a0_0, a0_1, l0_2, false)))) else (none)) else (some (a0_0, a0_1, l0_2, false)))) else (none)) else (some (a0_0, a0_1, l0_2, false))
def spec_ldHead.T13 : Bool × List (List Nat × List Nat) := (true, [([], []), ([0], [0]), ([1], [1]), ([2], [2]), ([], []), ([3, 4], [3, 4]), ([], []), ([6], [6]), ([7], [7]), ([8], [8]), ([], []), ([9, 10, 5], [9, 10]), ([5, 11, 11], [5, 11]), ([12, 12, 0, 1, 2, 3, 4, 5, 6, 7, 8, 9, 10, 11, 12], [12]), ([13, 0, 1, 2, 3, 4, 5, 6, 7, 8, 9, 10, 11, 12, 13], [])])
def spec_ldHead.B13 : List Nat := [0, 1, 3, 7, 0, 31, 0, 64, 192, 448, 0, 2047, 4095, 8191, 16383]
theorem spec_ldHead.tab13 : rtab .any (opsOf Try.f78 13) = spec_ldHead.T13 := by kernel_rfl
theorem spec_ldHead.bits13 : waitsOk spec_ldHead.T13.2 spec_ldHead.B13 = true := by kernel_rfl
set_option maxHeartbeats 8000000 in
set_option maxRecDepth 100000 in
theorem spec_ldHead.calls (a0_0 : Int) (a0_1 : Int) (P0_2_ : Nat → Prop) (A0_2 : Option Addr) (c0_2 : Nat) (l0_2 : List (S77)) (r1 : Int) (r2 : Int) (r3 : List (S77)) (r4 : Bool) (w : World) (hs0_2 : Kd.V k77 77 w w.heap.size (fun k_ => P0_2_ k_) (.slice A0_2 l0_2.length c0_2) l0_2) (h : spec_ldHead.f a0_0 a0_1 l0_2 = some (r1, r2, r3, r4)) :
  Calls Try.prog 78 #[.agg #[.int .i64 a0_0, .int .i64 a0_1, .slice A0_2 l0_2.length c0_2]] w fun e w' => ∃ v2_ : Value, e = .returned (.tuple #[.agg #[.int .i64 r1, .int .i64 r2, v2_], .bool r4]) ∧ Kd.V k77 77 w' w.heap.size (fun k_ => (P0_2_ k_ ∨ w.heap.size ≤ k_)) v2_ r3 ∧ Below w.heap.size w w' := by
 have hu77 := Try.underlying77
 have HO0_2 := aK (show Kd.V k77 77 w w.heap.size (fun k_ => (P0_2_ k_ ∨ w.heap.size ≤ k_)) (.slice A0_2 l0_2.length c0_2) l0_2 from Kd.V_mono hs0_2 (fun k_ hk => .inl hk))
 have HB := aK (Below.refl w.heap.size w)
 have H : (if a0_0 = 2 then (if 0 < (l0_2.length : Int) then (if ((rd_T77 l0_2 0).f0) = 5 then (if 1 < (l0_2.length : Int) then (some ((rd_T77 l0_2 1).f0, (rd_T77 l0_2 1).f1, (rd_T77 l0_2 1).f2, true)) else (none)) else (if ((rd_T77 l0_2 0).f0) = 2 then (if 0 < (((rd_T77 l0_2 0).f2).length : Int) then (if ((rd_T77 ((rd_T77 l0_2 0).f2) 0).f0) = 4 then (if 1 < (((rd_T77 l0_2 0).f2).length : Int) then (some ((rd_T77 ((rd_T77 l0_2 0).f2) 1).f0, (rd_T77 ((rd_T77 l0_2 0).f2) 1).f1, (rd_T77 ((rd_T77 l0_2 0).f2) 1).f2, true)) else (none)) else (if ((rd_T77 ((rd_T77 l0_2 0).f2) 0).f0) = 2 then (if 0 < (((rd_T77 ((rd_T77 l0_2 0).f2) 0).f2).length : Int) then (if ((rd_T77 ((rd_T77 ((rd_T77 l0_2 0).f2) 0).f2) 0).f0) = 3 then (if 1 < (l0_2.length : Int) then (if 1 < (((rd_T77 ((rd_T77 l0_2 0).f2) 0).f2).length : Int) then ((spec_ldApp.f ((rd_T77 ((rd_T77 ((rd_T77 l0_2 0).f2) 0).f2) 1).f0) ((rd_T77 ((rd_T77 ((rd_T77 l0_2 0).f2) 0).f2) 1).f1) ((rd_T77 ((rd_T77 ((rd_T77 l0_2 0).f2) 0).f2) 1).f2) ((rd_T77 l0_2 1).f0) ((rd_T77 l0_2 1).f1) ((rd_T77 l0_2 1).f2)).bind fun bt113 => (if 1 < (((rd_T77 l0_2 0).f2).length : Int) then ((spec_ldApp.f ((rd_T77 ((rd_T77 l0_2 0).f2) 1).f0) ((rd_T77 ((rd_T77 l0_2 0).f2) 1).f1) ((rd_T77 ((rd_T77 l0_2 0).f2) 1).f2) ((rd_T77 l0_2 1).f0) ((rd_T77 l0_2 1).f1) ((rd_T77 l0_2 1).f2)).bind fun bt119 => ((spec_ldApp.f bt113.1 bt113.2.1 bt113.2.2 bt119.1 bt119.2.1 bt119.2.2).bind fun bt124 => (some (bt124.1, bt124.2.1, bt124.2.2, true)))) else (none))) else (none)) else (none)) else (some (a0_0, a0_1, l0_2, false))) else (none)) else (some (a0_0, a0_1, l0_2, false)))) else (none)) else (some (a0_0, a0_1, l0_2, false)))) else (none)) else (some (a0_0, a0_1, l0_2, false))) = some (r1, r2, r3, r4) := h
 clear h
 by_cases c2 : a0_0 = 2
 ·rw [if_pos c2] at H
  have c2b0 : (a0_0 == 2) = true := beq_iff_eq.mpr c2
  have c2b1 : (a0_0 != 2) = false := bne_eq_false_iff_eq.mpr c2
  clear c2
  by_cases c3 : 0 < (l0_2.length : Int)
  ·rw [if_pos c3] at H
   have c3b0 : decide (0 < (l0_2.length : Int)) = true := decide_eq_true c3
   have c3b1 : decide (0 < l0_2.length) = true := decide_eq_true (by omega)
   clear c3
   by_cases c4 : ((rd_T77 l0_2 0).f0) = 5
   ·rw [if_pos c4] at H
    have c4b0 : (((rd_T77 l0_2 0).f0) == 5) = true := beq_iff_eq.mpr c4
    have c4b1 : (((rd_T77 l0_2 0).f0) != 5) = false := bne_eq_false_iff_eq.mpr c4
    clear c4
    by_cases c5 : 1 < (l0_2.length : Int)
    ·rw [if_pos c5] at H
     have c5b0 : decide (1 < (l0_2.length : Int)) = true := decide_eq_true c5
     have c5b1 : decide (1 < l0_2.length) = true := decide_eq_true (by omega)
     clear c5
     simp only [Option.some.injEq, Prod.mk.injEq] at H
     obtain ⟨rfl, rfl, rfl, rfl⟩ := H
     go_enter Try.func78, Try.ntmps78
     go_wp2_with (first | ((with_reducible refine gate_dst (N := 1) rfl ?_); refine bE (N := 1) (cs := #[.int .i64 a0_0, .int .i64 a0_1, .slice A0_2 l0_2.length c0_2]) (t := 77) ?_; intro gb101 hg w6 hbox hb; have GW101 := qw HB hg; have GE101 := qw HB hg; replace HO0_2 := qv HO0_2 hg hb; have BK101 := aK hbox; replace HB := qs HB hb; clear hb hbox hg) | ((with_reducible refine gate_dst (N := 2) rfl ?_); refine bE (N := 2) (cs := #[.int .i64 0, .int .i64 0, .slice none 0 0]) (t := 77) ?_; intro gb102 hg w7 hbox hb; have GW102 := qw HB hg; have GE102 := qw HB hg; have NB101_102 := ql BK101 hg; have NB102_101 := qg BK101 hg; replace HO0_2 := qv HO0_2 hg hb; replace BK101 := qb BK101 hb; have BK102 := aK hbox; replace HB := qs HB hb; clear hb hbox hg; have hnb8 := NB101_102.out; have hnc8 := NB102_101.out; have hcz9_0 := k30 BK101; have hcz9_1 := k31 BK101; have hcz9_2 := k32 BK101; have hfz9_0 := fz BK101 0; have hfz9_1 := fz BK101 1; have hfz9_2 := fz BK101 2; have p103 : 0 ≤ (0 : Int) := (by omega); have q103 : 0 < (l0_2.length : Int) := dA; obtain ⟨ad103, A103_2, c103_2, e103, hx103_0, hx103_1, hx103_2, hl103_2, hi103_2⟩ := at_T77 (Kd.V_reads' HO0_2.out).2.2 0 p103 q103; cases e103; obtain ⟨ce103, hce103, hMe103, hcc103⟩ := Kd.V_get HO0_2.out z77 0 p103 (by first | exact q103 | exact dA | (have e_ := (Kd.V_reads' HO0_2.out).1; omega)); obtain ⟨ua103_2, uc103_2, rfl, ul103_2, ge103_2⟩ := k77_openF hMe103; have hv103_2 := hcc103 2 _ rfl; rw [add_field _ _ 2 (by omega)] at hv103_2; replace hv103_2 := Option.some.inj (hv103_2.symm.trans hx103_2); injection hv103_2 with hva_ hvn_ hvc_; rw [hva_] at ge103_2; rw [hvc_] at ul103_2; have HL103_2 := aK (show Kd.V k77 77 _ w.heap.size _ _ ((rd_T77 l0_2 0).f2) from Kd.V_mk ul103_2 ge103_2); clear hva_ hvn_ hvc_ ge103_2 ul103_2; clear hcc103 hce103; have qi103 : (0 < l0_2.length) = True := eq_true (by omega); (try rw [show ((0 : Int)).toNat = 0 from rfl] at hx103_0); (try rw [show 0 * 3 = 0 from rfl] at hx103_0); (try rw [Addr.add_zero'] at hx103_0); (try rw [show ((0 : Int)).toNat = 0 from rfl] at hx103_1); (try rw [show 0 * 3 = 0 from rfl] at hx103_1); (try rw [Addr.add_zero'] at hx103_1); (try rw [show ((0 : Int)).toNat = 0 from rfl] at hx103_2); (try rw [show 0 * 3 = 0 from rfl] at hx103_2); (try rw [Addr.add_zero'] at hx103_2); have HR103_2 := aK hi103_2; have HC103_2 := aK hl103_2; clear hi103_2 hl103_2; replace p103 := eq_true p103; replace q103 := eq_true q103) | ((with_reducible refine gate_dst (N := 4) rfl ?_); refine bE (N := 4) (cs := #[.int .i64 0, .int .i64 0, .slice none 0 0]) (t := 77) ?_; intro gb104 hg w10 hbox hb; have GW104 := qw HB hg; have GE104 := qw HB hg; have NB101_104 := ql BK101 hg; have NB104_101 := qg BK101 hg; have NB102_104 := ql BK102 hg; have NB104_102 := qg BK102 hg; replace HR103_2 := qr HL103_2 hb; replace HO0_2 := qv HO0_2 hg hb; replace HL103_2 := qv HL103_2 hg hb; replace BK101 := qb BK101 hb; replace BK102 := qb BK102 hb; have BK104 := aK hbox; replace HB := qs HB hb; clear hb hbox hg; have hnb11 := NB104_101.out; have hnc11 := NB101_104.out; have hnb12 := NB104_102.out; have hnc12 := NB102_104.out; have hcz13_0 := k30 BK104; have hcz13_1 := k31 BK104; have hcz13_2 := k32 BK104; have hfz13_0 := fz BK104 0; have hfz13_1 := fz BK104 1; have hfz13_2 := fz BK104 2) | ((with_reducible refine gate_store (t := 77) (p := 4) rfl ?_); refine store_event (t := 77) (p := 4) (v := ?vo_w14) (w1 := (((w10.setCell ⟨gb104, 0, none⟩ (.int .i64 ((rd_T77 l0_2 0).f0))).setCell ⟨gb104, 1, none⟩ (.int .i64 ((rd_T77 l0_2 0).f1))).setCell ⟨gb104, 2, none⟩ (.slice A103_2 ((rd_T77 l0_2 0).f2).length c103_2))) ?hg ?ho ?hn ?hr ?_; (case ho => rfl); (case hg => rfl); (case hn => rfl); (case hr => first | (go_simp; done) | (go_simp; rfl)); intro w14 hw; have n0_ : Aside0 (Kd.V k77 77 w14 w.heap.size (fun k_ => (P0_2_ k_ ∨ w.heap.size ≤ k_) ∧ k_ ≠ gb101 ∧ k_ ≠ gb102 ∧ k_ ≠ gb104) (.slice (some ad103) l0_2.length c0_2) l0_2) := ⟨(by rw [hw]; exact (by (with_reducible repeat (first | apply Kd.V_alloc | apply Kd.V_drewN | apply Kd.V_drew)); exact Kd.V_mono (vF3 gb104 (Kd.V_mono HO0_2.out (fun k_ hk => (⟨hk, hk.2⟩ : _ ∧ k_ ≠ gb104))) (fun _ hk => hk.2)) (fun _ hk => ⟨hk.1.1.1.1, ⟨hk.1.1.1.2, ⟨hk.1.1.2, hk.1.2⟩⟩⟩)))⟩; have n1_ : Aside0 (Kd.V k77 77 w14 w.heap.size (fun k_ => (P0_2_ k_ ∨ w.heap.size ≤ k_) ∧ k_ ≠ gb101 ∧ k_ ≠ gb102 ∧ k_ ≠ gb104) (.slice A103_2 ((rd_T77 l0_2 0).f2).length c103_2) ((rd_T77 l0_2 0).f2)) := ⟨(by rw [hw]; exact (by (with_reducible repeat (first | apply Kd.V_alloc | apply Kd.V_drewN | apply Kd.V_drew)); exact Kd.V_mono (vF3 gb104 (Kd.V_mono HL103_2.out (fun k_ hk => (⟨hk, hk.2⟩ : _ ∧ k_ ≠ gb104))) (fun _ hk => hk.2)) (fun _ hk => ⟨hk.1.1.1.1, ⟨hk.1.1.1.2, ⟨hk.1.1.2, hk.1.2⟩⟩⟩)))⟩; have n2_ : Aside0 (w14.heap[gb101]? = some (.cells #[.int .i64 a0_0, .int .i64 a0_1, .slice (some ad103) l0_2.length c0_2] 77 (0, 0))) := ⟨(by rw [hw]; exact (by (repeat first | with_reducible apply zN | with_reducible apply zD | with_reducible apply zA | refine blk_far ?_ NB101_104.out _); exact BK101.out))⟩; have n3_ : Aside0 (w14.heap[gb102]? = some (.cells #[.int .i64 0, .int .i64 0, .slice none 0 0] 77 (0, 0))) := ⟨(by rw [hw]; exact (by (repeat first | with_reducible apply zN | with_reducible apply zD | with_reducible apply zA | refine blk_far ?_ NB102_104.out _); exact BK102.out))⟩; have n4_ : Aside0 (w14.heap[gb104]? = some (.cells #[.int .i64 ((rd_T77 l0_2 0).f0), .int .i64 ((rd_T77 l0_2 0).f1), .slice A103_2 ((rd_T77 l0_2 0).f2).length c103_2] 77 (0, 0))) := ⟨(by rw [hw]; exact (p3 BK104))⟩; have n5_ : Aside0 (Below w.heap.size w w14) := ⟨(by rw [hw]; exact (pH HB))⟩; clear hw; clear HO0_2; clear HL103_2; clear BK101; clear BK102; clear BK104; clear HB; have HO0_2 := n0_; have HL103_2 := n1_; have BK101 := n2_; have BK102 := n3_; have BK104 := n4_; have HB := n5_; clear n0_ n1_ n2_ n3_ n4_ n5_; have hcz15_0 := k30 BK104; have hcz15_1 := k31 BK104; have hcz15_2 := k32 BK104; have hfz15_0 := fz BK104 0; have hfz15_1 := fz BK104 1; have hfz15_2 := fz BK104 2; have hcz16_0 := k30 BK101; have hcz16_1 := k31 BK101; have hcz16_2 := k32 BK101; have hfz16_0 := fz BK101 0; have hfz16_1 := fz BK101 1; have hfz16_2 := fz BK101 2; have p105 : 0 ≤ (1 : Int) := (by omega); have q105 : 1 < (l0_2.length : Int) := dA; obtain ⟨ad105, A105_2, c105_2, e105, hx105_0, hx105_1, hx105_2, hl105_2, hi105_2⟩ := at_T77 (Kd.V_reads' HO0_2.out).2.2 1 p105 q105; obtain rfl : ad103 = ad105 := (by injection e105); obtain ⟨ce105, hce105, hMe105, hcc105⟩ := Kd.V_get HO0_2.out z77 1 p105 (by first | exact q105 | exact dA | (have e_ := (Kd.V_reads' HO0_2.out).1; omega)); obtain ⟨ua105_2, uc105_2, rfl, ul105_2, ge105_2⟩ := k77_openF hMe105; have hv105_2 := hcc105 2 _ rfl; rw [add_field _ _ 2 (by omega)] at hv105_2; replace hv105_2 := Option.some.inj (hv105_2.symm.trans hx105_2); injection hv105_2 with hva_ hvn_ hvc_; rw [hva_] at ge105_2; rw [hvc_] at ul105_2; have HL105_2 := aK (show Kd.V k77 77 _ w.heap.size _ _ ((rd_T77 l0_2 1).f2) from Kd.V_mk ul105_2 ge105_2); clear hva_ hvn_ hvc_ ge105_2 ul105_2; clear hcc105 hce105; (try simp only [show (1 : Int).toNat = 1 from rfl, Nat.reduceMul, Nat.reduceEqDiff, Go.Addr.add, ↓reduceIte] at hx105_0); (try simp only [show (1 : Int).toNat = 1 from rfl, Nat.reduceMul, Nat.reduceEqDiff, Go.Addr.add, ↓reduceIte] at hx105_1); (try simp only [show (1 : Int).toNat = 1 from rfl, Nat.reduceMul, Nat.reduceEqDiff, Go.Addr.add, ↓reduceIte] at hx105_2); have qi105 : (1 < l0_2.length) = True := eq_true (by omega); (try rw [show ((1 : Int)).toNat = 1 from rfl] at hx105_0); (try rw [show 1 * 3 = 3 from rfl] at hx105_0); (try rw [show ((1 : Int)).toNat = 1 from rfl] at hx105_1); (try rw [show 1 * 3 = 3 from rfl] at hx105_1); (try rw [show ((1 : Int)).toNat = 1 from rfl] at hx105_2); (try rw [show 1 * 3 = 3 from rfl] at hx105_2); have HR105_2 := aK hi105_2; have HC105_2 := aK hl105_2; clear hi105_2 hl105_2; replace p105 := eq_true p105; replace q105 := eq_true q105; have hcz17_0 := k30 BK102; have hcz17_1 := k31 BK102; have hcz17_2 := k32 BK102; have hfz17_0 := fz BK102 0; have hfz17_1 := fz BK102 1; have hfz17_2 := fz BK102 2))
     refine bodyPost_ret (results_ct rfl _ _ gb102 77 #[.int .i64 ((rd_T77 l0_2 1).f0), .int .i64 ((rd_T77 l0_2 1).f1), .slice A105_2 ((rd_T77 l0_2 1).f2).length c105_2] (0, 0) _ rfl (p3 BK102) Try.underlying77 rfl (by kernel_rfl)) rfl ?_
     exact ⟨_, eW, by (with_reducible repeat (first | apply Kd.V_alloc | apply Kd.V_drewN | apply Kd.V_drew)); exact Kd.V_mono (vF3 gb102 (Kd.V_mono HL105_2.out (fun k_ hk => (⟨hk, hk.2.2.1⟩ : _ ∧ k_ ≠ gb102))) (fun _ hk => hk.2)) (fun _ hk => hk.1.1), pH HB⟩
    ·rw [if_neg c5] at H
     exact absurd H (by simp)
   ·rw [if_neg c4] at H
    have c4b0 : (((rd_T77 l0_2 0).f0) == 5) = false := beq_eq_false_iff_ne.mpr c4
    have c4b1 : (((rd_T77 l0_2 0).f0) != 5) = true := bne_iff_ne.mpr c4
    by_cases c18 : ((rd_T77 l0_2 0).f0) = 2
    ·rw [if_pos c18] at H
     have c18b0 : (((rd_T77 l0_2 0).f0) == 2) = true := beq_iff_eq.mpr c18
     have c18b1 : (((rd_T77 l0_2 0).f0) != 2) = false := bne_eq_false_iff_eq.mpr c18
     clear c18
     by_cases c19 : 0 < (((rd_T77 l0_2 0).f2).length : Int)
     ·rw [if_pos c19] at H
      have c19b0 : decide (0 < (((rd_T77 l0_2 0).f2).length : Int)) = true := decide_eq_true c19
      have c19b1 : decide (0 < ((rd_T77 l0_2 0).f2).length) = true := decide_eq_true (by omega)
      clear c19
      by_cases c20 : ((rd_T77 ((rd_T77 l0_2 0).f2) 0).f0) = 4
      ·rw [if_pos c20] at H
       have c20b0 : (((rd_T77 ((rd_T77 l0_2 0).f2) 0).f0) == 4) = true := beq_iff_eq.mpr c20
       have c20b1 : (((rd_T77 ((rd_T77 l0_2 0).f2) 0).f0) != 4) = false := bne_eq_false_iff_eq.mpr c20
       clear c20
       by_cases c21 : 1 < (((rd_T77 l0_2 0).f2).length : Int)
       ·rw [if_pos c21] at H
        have c21b0 : decide (1 < (((rd_T77 l0_2 0).f2).length : Int)) = true := decide_eq_true c21
        have c21b1 : decide (1 < ((rd_T77 l0_2 0).f2).length) = true := decide_eq_true (by omega)
        clear c21
        simp only [Option.some.injEq, Prod.mk.injEq] at H
        obtain ⟨rfl, rfl, rfl, rfl⟩ := H
        go_enter Try.func78, Try.ntmps78
        go_wp2_with (first | ((with_reducible refine gate_dst (N := 1) rfl ?_); refine bE (N := 1) (cs := #[.int .i64 a0_0, .int .i64 a0_1, .slice A0_2 l0_2.length c0_2]) (t := 77) ?_; intro gb101 hg w22 hbox hb; have GW101 := qw HB hg; have GE101 := qw HB hg; replace HO0_2 := qv HO0_2 hg hb; have BK101 := aK hbox; replace HB := qs HB hb; clear hb hbox hg) | ((with_reducible refine gate_dst (N := 2) rfl ?_); refine bE (N := 2) (cs := #[.int .i64 0, .int .i64 0, .slice none 0 0]) (t := 77) ?_; intro gb102 hg w23 hbox hb; have GW102 := qw HB hg; have GE102 := qw HB hg; have NB101_102 := ql BK101 hg; have NB102_101 := qg BK101 hg; replace HO0_2 := qv HO0_2 hg hb; replace BK101 := qb BK101 hb; have BK102 := aK hbox; replace HB := qs HB hb; clear hb hbox hg; have hnb24 := NB101_102.out; have hnc24 := NB102_101.out; have hcz25_0 := k30 BK101; have hcz25_1 := k31 BK101; have hcz25_2 := k32 BK101; have hfz25_0 := fz BK101 0; have hfz25_1 := fz BK101 1; have hfz25_2 := fz BK101 2; have p103 : 0 ≤ (0 : Int) := (by omega); have q103 : 0 < (l0_2.length : Int) := dA; obtain ⟨ad103, A103_2, c103_2, e103, hx103_0, hx103_1, hx103_2, hl103_2, hi103_2⟩ := at_T77 (Kd.V_reads' HO0_2.out).2.2 0 p103 q103; cases e103; obtain ⟨ce103, hce103, hMe103, hcc103⟩ := Kd.V_get HO0_2.out z77 0 p103 (by first | exact q103 | exact dA | (have e_ := (Kd.V_reads' HO0_2.out).1; omega)); obtain ⟨ua103_2, uc103_2, rfl, ul103_2, ge103_2⟩ := k77_openF hMe103; have hv103_2 := hcc103 2 _ rfl; rw [add_field _ _ 2 (by omega)] at hv103_2; replace hv103_2 := Option.some.inj (hv103_2.symm.trans hx103_2); injection hv103_2 with hva_ hvn_ hvc_; rw [hva_] at ge103_2; rw [hvc_] at ul103_2; have HL103_2 := aK (show Kd.V k77 77 _ w.heap.size _ _ ((rd_T77 l0_2 0).f2) from Kd.V_mk ul103_2 ge103_2); clear hva_ hvn_ hvc_ ge103_2 ul103_2; clear hcc103 hce103; have qi103 : (0 < l0_2.length) = True := eq_true (by omega); (try rw [show ((0 : Int)).toNat = 0 from rfl] at hx103_0); (try rw [show 0 * 3 = 0 from rfl] at hx103_0); (try rw [Addr.add_zero'] at hx103_0); (try rw [show ((0 : Int)).toNat = 0 from rfl] at hx103_1); (try rw [show 0 * 3 = 0 from rfl] at hx103_1); (try rw [Addr.add_zero'] at hx103_1); (try rw [show ((0 : Int)).toNat = 0 from rfl] at hx103_2); (try rw [show 0 * 3 = 0 from rfl] at hx103_2); (try rw [Addr.add_zero'] at hx103_2); have HR103_2 := aK hi103_2; have HC103_2 := aK hl103_2; clear hi103_2 hl103_2; replace p103 := eq_true p103; replace q103 := eq_true q103) | ((with_reducible refine gate_dst (N := 4) rfl ?_); refine bE (N := 4) (cs := #[.int .i64 0, .int .i64 0, .slice none 0 0]) (t := 77) ?_; intro gb104 hg w26 hbox hb; have GW104 := qw HB hg; have GE104 := qw HB hg; have NB101_104 := ql BK101 hg; have NB104_101 := qg BK101 hg; have NB102_104 := ql BK102 hg; have NB104_102 := qg BK102 hg; replace HR103_2 := qr HL103_2 hb; replace HO0_2 := qv HO0_2 hg hb; replace HL103_2 := qv HL103_2 hg hb; replace BK101 := qb BK101 hb; replace BK102 := qb BK102 hb; have BK104 := aK hbox; replace HB := qs HB hb; clear hb hbox hg; have hnb27 := NB104_101.out; have hnc27 := NB101_104.out; have hnb28 := NB104_102.out; have hnc28 := NB102_104.out; have hcz29_0 := k30 BK104; have hcz29_1 := k31 BK104; have hcz29_2 := k32 BK104; have hfz29_0 := fz BK104 0; have hfz29_1 := fz BK104 1; have hfz29_2 := fz BK104 2) | ((with_reducible refine gate_store (t := 77) (p := 4) rfl ?_); refine store_event (t := 77) (p := 4) (v := ?vo_w30) (w1 := (((w26.setCell ⟨gb104, 0, none⟩ (.int .i64 ((rd_T77 l0_2 0).f0))).setCell ⟨gb104, 1, none⟩ (.int .i64 ((rd_T77 l0_2 0).f1))).setCell ⟨gb104, 2, none⟩ (.slice A103_2 ((rd_T77 l0_2 0).f2).length c103_2))) ?hg ?ho ?hn ?hr ?_; (case ho => rfl); (case hg => rfl); (case hn => rfl); (case hr => first | (go_simp; done) | (go_simp; rfl)); intro w30 hw; have n0_ : Aside0 (Kd.V k77 77 w30 w.heap.size (fun k_ => (P0_2_ k_ ∨ w.heap.size ≤ k_) ∧ k_ ≠ gb101 ∧ k_ ≠ gb102 ∧ k_ ≠ gb104) (.slice (some ad103) l0_2.length c0_2) l0_2) := ⟨(by rw [hw]; exact (by (with_reducible repeat (first | apply Kd.V_alloc | apply Kd.V_drewN | apply Kd.V_drew)); exact Kd.V_mono (vF3 gb104 (Kd.V_mono HO0_2.out (fun k_ hk => (⟨hk, hk.2⟩ : _ ∧ k_ ≠ gb104))) (fun _ hk => hk.2)) (fun _ hk => ⟨hk.1.1.1.1, ⟨hk.1.1.1.2, ⟨hk.1.1.2, hk.1.2⟩⟩⟩)))⟩; have n1_ : Aside0 (Kd.V k77 77 w30 w.heap.size (fun k_ => (P0_2_ k_ ∨ w.heap.size ≤ k_) ∧ k_ ≠ gb101 ∧ k_ ≠ gb102 ∧ k_ ≠ gb104) (.slice A103_2 ((rd_T77 l0_2 0).f2).length c103_2) ((rd_T77 l0_2 0).f2)) := ⟨(by rw [hw]; exact (by (with_reducible repeat (first | apply Kd.V_alloc | apply Kd.V_drewN | apply Kd.V_drew)); exact Kd.V_mono (vF3 gb104 (Kd.V_mono HL103_2.out (fun k_ hk => (⟨hk, hk.2⟩ : _ ∧ k_ ≠ gb104))) (fun _ hk => hk.2)) (fun _ hk => ⟨hk.1.1.1.1, ⟨hk.1.1.1.2, ⟨hk.1.1.2, hk.1.2⟩⟩⟩)))⟩; have n2_ : Aside0 (w30.heap[gb101]? = some (.cells #[.int .i64 a0_0, .int .i64 a0_1, .slice (some ad103) l0_2.length c0_2] 77 (0, 0))) := ⟨(by rw [hw]; exact (by (repeat first | with_reducible apply zN | with_reducible apply zD | with_reducible apply zA | refine blk_far ?_ NB101_104.out _); exact BK101.out))⟩; have n3_ : Aside0 (w30.heap[gb102]? = some (.cells #[.int .i64 0, .int .i64 0, .slice none 0 0] 77 (0, 0))) := ⟨(by rw [hw]; exact (by (repeat first | with_reducible apply zN | with_reducible apply zD | with_reducible apply zA | refine blk_far ?_ NB102_104.out _); exact BK102.out))⟩; have n4_ : Aside0 (w30.heap[gb104]? = some (.cells #[.int .i64 ((rd_T77 l0_2 0).f0), .int .i64 ((rd_T77 l0_2 0).f1), .slice A103_2 ((rd_T77 l0_2 0).f2).length c103_2] 77 (0, 0))) := ⟨(by rw [hw]; exact (p3 BK104))⟩; have n5_ : Aside0 (Below w.heap.size w w30) := ⟨(by rw [hw]; exact (pH HB))⟩; clear hw; clear HO0_2; clear HL103_2; clear BK101; clear BK102; clear BK104; clear HB; have HO0_2 := n0_; have HL103_2 := n1_; have BK101 := n2_; have BK102 := n3_; have BK104 := n4_; have HB := n5_; clear n0_ n1_ n2_ n3_ n4_ n5_; have hcz31_0 := k30 BK104; have hcz31_1 := k31 BK104; have hcz31_2 := k32 BK104; have hfz31_0 := fz BK104 0; have hfz31_1 := fz BK104 1; have hfz31_2 := fz BK104 2; have p106 : 0 ≤ (0 : Int) := (by omega); have q106 : 0 < (((rd_T77 l0_2 0).f2).length : Int) := dA; obtain ⟨ad106, A106_2, c106_2, e106, hx106_0, hx106_1, hx106_2, hl106_2, hi106_2⟩ := at_T77 (Kd.V_reads' HL103_2.out).2.2 0 p106 q106; cases e106; obtain ⟨ce106, hce106, hMe106, hcc106⟩ := Kd.V_get HL103_2.out z77 0 p106 (by first | exact q106 | exact dA | (have e_ := (Kd.V_reads' HL103_2.out).1; omega)); obtain ⟨ua106_2, uc106_2, rfl, ul106_2, ge106_2⟩ := k77_openF hMe106; have hv106_2 := hcc106 2 _ rfl; rw [add_field _ _ 2 (by omega)] at hv106_2; replace hv106_2 := Option.some.inj (hv106_2.symm.trans hx106_2); injection hv106_2 with hva_ hvn_ hvc_; rw [hva_] at ge106_2; rw [hvc_] at ul106_2; have HL106_2 := aK (show Kd.V k77 77 _ w.heap.size _ _ ((rd_T77 ((rd_T77 l0_2 0).f2) 0).f2) from Kd.V_mk ul106_2 ge106_2); clear hva_ hvn_ hvc_ ge106_2 ul106_2; clear hcc106 hce106; have qi106 : (0 < ((rd_T77 l0_2 0).f2).length) = True := eq_true (by omega); (try rw [show ((0 : Int)).toNat = 0 from rfl] at hx106_0); (try rw [show 0 * 3 = 0 from rfl] at hx106_0); (try rw [Addr.add_zero'] at hx106_0); (try rw [show ((0 : Int)).toNat = 0 from rfl] at hx106_1); (try rw [show 0 * 3 = 0 from rfl] at hx106_1); (try rw [Addr.add_zero'] at hx106_1); (try rw [show ((0 : Int)).toNat = 0 from rfl] at hx106_2); (try rw [show 0 * 3 = 0 from rfl] at hx106_2); (try rw [Addr.add_zero'] at hx106_2); have HR106_2 := aK hi106_2; have HC106_2 := aK hl106_2; clear hi106_2 hl106_2; replace p106 := eq_true p106; replace q106 := eq_true q106) | ((with_reducible refine gate_dst (N := 5) rfl ?_); refine bE (N := 5) (cs := #[.int .i64 0, .int .i64 0, .slice none 0 0]) (t := 77) ?_; intro gb107 hg w32 hbox hb; have GW107 := qw HB hg; have GE107 := qw HB hg; have NB101_107 := ql BK101 hg; have NB107_101 := qg BK101 hg; have NB102_107 := ql BK102 hg; have NB107_102 := qg BK102 hg; have NB104_107 := ql BK104 hg; have NB107_104 := qg BK104 hg; replace HR103_2 := qr HL103_2 hb; replace HR106_2 := qr HL106_2 hb; replace HO0_2 := qv HO0_2 hg hb; replace HL103_2 := qv HL103_2 hg hb; replace HL106_2 := qv HL106_2 hg hb; replace BK101 := qb BK101 hb; replace BK102 := qb BK102 hb; replace BK104 := qb BK104 hb; have BK107 := aK hbox; replace HB := qs HB hb; clear hb hbox hg; have hnb33 := NB107_101.out; have hnc33 := NB101_107.out; have hnb34 := NB107_102.out; have hnc34 := NB102_107.out; have hnb35 := NB107_104.out; have hnc35 := NB104_107.out; have hcz36_0 := k30 BK107; have hcz36_1 := k31 BK107; have hcz36_2 := k32 BK107; have hfz36_0 := fz BK107 0; have hfz36_1 := fz BK107 1; have hfz36_2 := fz BK107 2) | ((with_reducible refine gate_store (t := 77) (p := 5) rfl ?_); refine store_event (t := 77) (p := 5) (v := ?vo_w37) (w1 := (((w32.setCell ⟨gb107, 0, none⟩ (.int .i64 ((rd_T77 ((rd_T77 l0_2 0).f2) 0).f0))).setCell ⟨gb107, 1, none⟩ (.int .i64 ((rd_T77 ((rd_T77 l0_2 0).f2) 0).f1))).setCell ⟨gb107, 2, none⟩ (.slice A106_2 ((rd_T77 ((rd_T77 l0_2 0).f2) 0).f2).length c106_2))) ?hg ?ho ?hn ?hr ?_; (case ho => rfl); (case hg => rfl); (case hn => rfl); (case hr => first | (go_simp; done) | (go_simp; rfl)); intro w37 hw; have n0_ : Aside0 (Kd.V k77 77 w37 w.heap.size (fun k_ => (P0_2_ k_ ∨ w.heap.size ≤ k_) ∧ k_ ≠ gb101 ∧ k_ ≠ gb102 ∧ k_ ≠ gb104 ∧ k_ ≠ gb107) (.slice (some ad103) l0_2.length c0_2) l0_2) := ⟨(by rw [hw]; exact (by (with_reducible repeat (first | apply Kd.V_alloc | apply Kd.V_drewN | apply Kd.V_drew)); exact Kd.V_mono (vF3 gb107 (Kd.V_mono HO0_2.out (fun k_ hk => (⟨hk, hk.2⟩ : _ ∧ k_ ≠ gb107))) (fun _ hk => hk.2)) (fun _ hk => ⟨hk.1.1.1, ⟨hk.1.1.2.1, ⟨hk.1.1.2.2.1, ⟨hk.1.1.2.2.2, hk.1.2⟩⟩⟩⟩)))⟩; have n1_ : Aside0 (Kd.V k77 77 w37 w.heap.size (fun k_ => (P0_2_ k_ ∨ w.heap.size ≤ k_) ∧ k_ ≠ gb101 ∧ k_ ≠ gb102 ∧ k_ ≠ gb104 ∧ k_ ≠ gb107) (.slice (some ad106) ((rd_T77 l0_2 0).f2).length c103_2) ((rd_T77 l0_2 0).f2)) := ⟨(by rw [hw]; exact (by (with_reducible repeat (first | apply Kd.V_alloc | apply Kd.V_drewN | apply Kd.V_drew)); exact Kd.V_mono (vF3 gb107 (Kd.V_mono HL103_2.out (fun k_ hk => (⟨hk, hk.2⟩ : _ ∧ k_ ≠ gb107))) (fun _ hk => hk.2)) (fun _ hk => ⟨hk.1.1.1, ⟨hk.1.1.2.1, ⟨hk.1.1.2.2.1, ⟨hk.1.1.2.2.2, hk.1.2⟩⟩⟩⟩)))⟩; have n2_ : Aside0 (Kd.V k77 77 w37 w.heap.size (fun k_ => (P0_2_ k_ ∨ w.heap.size ≤ k_) ∧ k_ ≠ gb101 ∧ k_ ≠ gb102 ∧ k_ ≠ gb104 ∧ k_ ≠ gb107) (.slice A106_2 ((rd_T77 ((rd_T77 l0_2 0).f2) 0).f2).length c106_2) ((rd_T77 ((rd_T77 l0_2 0).f2) 0).f2)) := ⟨(by rw [hw]; exact (by (with_reducible repeat (first | apply Kd.V_alloc | apply Kd.V_drewN | apply Kd.V_drew)); exact Kd.V_mono (vF3 gb107 (Kd.V_mono HL106_2.out (fun k_ hk => (⟨hk, hk.2⟩ : _ ∧ k_ ≠ gb107))) (fun _ hk => hk.2)) (fun _ hk => ⟨hk.1.1.1, ⟨hk.1.1.2.1, ⟨hk.1.1.2.2.1, ⟨hk.1.1.2.2.2, hk.1.2⟩⟩⟩⟩)))⟩; have n3_ : Aside0 (w37.heap[gb101]? = some (.cells #[.int .i64 a0_0, .int .i64 a0_1, .slice (some ad103) l0_2.length c0_2] 77 (0, 0))) := ⟨(by rw [hw]; exact (by (repeat first | with_reducible apply zN | with_reducible apply zD | with_reducible apply zA | refine blk_far ?_ NB101_107.out _); exact BK101.out))⟩; have n4_ : Aside0 (w37.heap[gb102]? = some (.cells #[.int .i64 0, .int .i64 0, .slice none 0 0] 77 (0, 0))) := ⟨(by rw [hw]; exact (by (repeat first | with_reducible apply zN | with_reducible apply zD | with_reducible apply zA | refine blk_far ?_ NB102_107.out _); exact BK102.out))⟩; have n5_ : Aside0 (w37.heap[gb104]? = some (.cells #[.int .i64 ((rd_T77 l0_2 0).f0), .int .i64 ((rd_T77 l0_2 0).f1), .slice (some ad106) ((rd_T77 l0_2 0).f2).length c103_2] 77 (0, 0))) := ⟨(by rw [hw]; exact (by (repeat first | with_reducible apply zN | with_reducible apply zD | with_reducible apply zA | refine blk_far ?_ NB104_107.out _); exact BK104.out))⟩; have n6_ : Aside0 (w37.heap[gb107]? = some (.cells #[.int .i64 ((rd_T77 ((rd_T77 l0_2 0).f2) 0).f0), .int .i64 ((rd_T77 ((rd_T77 l0_2 0).f2) 0).f1), .slice A106_2 ((rd_T77 ((rd_T77 l0_2 0).f2) 0).f2).length c106_2] 77 (0, 0))) := ⟨(by rw [hw]; exact (p3 BK107))⟩; have n7_ : Aside0 (Below w.heap.size w w37) := ⟨(by rw [hw]; exact (pH HB))⟩; clear hw; clear HO0_2; clear HL103_2; clear HL106_2; clear BK101; clear BK102; clear BK104; clear BK107; clear HB; have HO0_2 := n0_; have HL103_2 := n1_; have HL106_2 := n2_; have BK101 := n3_; have BK102 := n4_; have BK104 := n5_; have BK107 := n6_; have HB := n7_; clear n0_ n1_ n2_ n3_ n4_ n5_ n6_ n7_; have hcz38_0 := k30 BK107; have hcz38_1 := k31 BK107; have hcz38_2 := k32 BK107; have hfz38_0 := fz BK107 0; have hfz38_1 := fz BK107 1; have hfz38_2 := fz BK107 2; have hcz39_0 := k30 BK104; have hcz39_1 := k31 BK104; have hcz39_2 := k32 BK104; have hfz39_0 := fz BK104 0; have hfz39_1 := fz BK104 1; have hfz39_2 := fz BK104 2; have p108 : 0 ≤ (1 : Int) := (by omega); have q108 : 1 < (((rd_T77 l0_2 0).f2).length : Int) := dA; obtain ⟨ad108, A108_2, c108_2, e108, hx108_0, hx108_1, hx108_2, hl108_2, hi108_2⟩ := at_T77 (Kd.V_reads' HL103_2.out).2.2 1 p108 q108; obtain rfl : ad106 = ad108 := (by injection e108); obtain ⟨ce108, hce108, hMe108, hcc108⟩ := Kd.V_get HL103_2.out z77 1 p108 (by first | exact q108 | exact dA | (have e_ := (Kd.V_reads' HL103_2.out).1; omega)); obtain ⟨ua108_2, uc108_2, rfl, ul108_2, ge108_2⟩ := k77_openF hMe108; have hv108_2 := hcc108 2 _ rfl; rw [add_field _ _ 2 (by omega)] at hv108_2; replace hv108_2 := Option.some.inj (hv108_2.symm.trans hx108_2); injection hv108_2 with hva_ hvn_ hvc_; rw [hva_] at ge108_2; rw [hvc_] at ul108_2; have HL108_2 := aK (show Kd.V k77 77 _ w.heap.size _ _ ((rd_T77 ((rd_T77 l0_2 0).f2) 1).f2) from Kd.V_mk ul108_2 ge108_2); clear hva_ hvn_ hvc_ ge108_2 ul108_2; clear hcc108 hce108; (try simp only [show (1 : Int).toNat = 1 from rfl, Nat.reduceMul, Nat.reduceEqDiff, Go.Addr.add, ↓reduceIte] at hx108_0); (try simp only [show (1 : Int).toNat = 1 from rfl, Nat.reduceMul, Nat.reduceEqDiff, Go.Addr.add, ↓reduceIte] at hx108_1); (try simp only [show (1 : Int).toNat = 1 from rfl, Nat.reduceMul, Nat.reduceEqDiff, Go.Addr.add, ↓reduceIte] at hx108_2); have qi108 : (1 < ((rd_T77 l0_2 0).f2).length) = True := eq_true (by omega); (try rw [show ((1 : Int)).toNat = 1 from rfl] at hx108_0); (try rw [show 1 * 3 = 3 from rfl] at hx108_0); (try rw [show ((1 : Int)).toNat = 1 from rfl] at hx108_1); (try rw [show 1 * 3 = 3 from rfl] at hx108_1); (try rw [show ((1 : Int)).toNat = 1 from rfl] at hx108_2); (try rw [show 1 * 3 = 3 from rfl] at hx108_2); have HR108_2 := aK hi108_2; have HC108_2 := aK hl108_2; clear hi108_2 hl108_2; replace p108 := eq_true p108; replace q108 := eq_true q108; have hcz40_0 := k30 BK102; have hcz40_1 := k31 BK102; have hcz40_2 := k32 BK102; have hfz40_0 := fz BK102 0; have hfz40_1 := fz BK102 1; have hfz40_2 := fz BK102 2))
        refine bodyPost_ret (results_ct rfl _ _ gb102 77 #[.int .i64 ((rd_T77 ((rd_T77 l0_2 0).f2) 1).f0), .int .i64 ((rd_T77 ((rd_T77 l0_2 0).f2) 1).f1), .slice A108_2 ((rd_T77 ((rd_T77 l0_2 0).f2) 1).f2).length c108_2] (0, 0) _ rfl (p3 BK102) Try.underlying77 rfl (by kernel_rfl)) rfl ?_
        exact ⟨_, eW, by (with_reducible repeat (first | apply Kd.V_alloc | apply Kd.V_drewN | apply Kd.V_drew)); exact Kd.V_mono (vF3 gb102 (Kd.V_mono HL108_2.out (fun k_ hk => (⟨hk, hk.2.2.1⟩ : _ ∧ k_ ≠ gb102))) (fun _ hk => hk.2)) (fun _ hk => hk.1.1), pH HB⟩
       ·rw [if_neg c21] at H
        exact absurd H (by simp)
      ·rw [if_neg c20] at H
       have c20b0 : (((rd_T77 ((rd_T77 l0_2 0).f2) 0).f0) == 4) = false := beq_eq_false_iff_ne.mpr c20
       have c20b1 : (((rd_T77 ((rd_T77 l0_2 0).f2) 0).f0) != 4) = true := bne_iff_ne.mpr c20
       by_cases c41 : ((rd_T77 ((rd_T77 l0_2 0).f2) 0).f0) = 2
       ·rw [if_pos c41] at H
        have c41b0 : (((rd_T77 ((rd_T77 l0_2 0).f2) 0).f0) == 2) = true := beq_iff_eq.mpr c41
        have c41b1 : (((rd_T77 ((rd_T77 l0_2 0).f2) 0).f0) != 2) = false := bne_eq_false_iff_eq.mpr c41
        clear c41
        by_cases c42 : 0 < (((rd_T77 ((rd_T77 l0_2 0).f2) 0).f2).length : Int)
        ·rw [if_pos c42] at H
         have c42b0 : decide (0 < (((rd_T77 ((rd_T77 l0_2 0).f2) 0).f2).length : Int)) = true := decide_eq_true c42
         have c42b1 : decide (0 < ((rd_T77 ((rd_T77 l0_2 0).f2) 0).f2).length) = true := decide_eq_true (by omega)
         clear c42
         by_cases c43 : ((rd_T77 ((rd_T77 ((rd_T77 l0_2 0).f2) 0).f2) 0).f0) = 3
         ·rw [if_pos c43] at H
          have c43b0 : (((rd_T77 ((rd_T77 ((rd_T77 l0_2 0).f2) 0).f2) 0).f0) == 3) = true := beq_iff_eq.mpr c43
          have c43b1 : (((rd_T77 ((rd_T77 ((rd_T77 l0_2 0).f2) 0).f2) 0).f0) != 3) = false := bne_eq_false_iff_eq.mpr c43
          clear c43
          by_cases c44 : 1 < (l0_2.length : Int)
          ·rw [if_pos c44] at H
           have c44b0 : decide (1 < (l0_2.length : Int)) = true := decide_eq_true c44
           have c44b1 : decide (1 < l0_2.length) = true := decide_eq_true (by omega)
           clear c44
           by_cases c45 : 1 < (((rd_T77 ((rd_T77 l0_2 0).f2) 0).f2).length : Int)
           ·rw [if_pos c45] at H
            have c45b0 : decide (1 < (((rd_T77 ((rd_T77 l0_2 0).f2) 0).f2).length : Int)) = true := decide_eq_true c45
            have c45b1 : decide (1 < ((rd_T77 ((rd_T77 l0_2 0).f2) 0).f2).length) = true := decide_eq_true (by omega)
            clear c45
            replace H := Option.bind_eq_some_iff.mp H
            obtain ⟨⟨t113, t114, t115⟩, A460, H⟩ := H
            try dsimp only at H
            have A46 := aK A460
            clear A460
            by_cases c47 : 1 < (((rd_T77 l0_2 0).f2).length : Int)
            ·rw [if_pos c47] at H
             have c47b0 : decide (1 < (((rd_T77 l0_2 0).f2).length : Int)) = true := decide_eq_true c47
             have c47b1 : decide (1 < ((rd_T77 l0_2 0).f2).length) = true := decide_eq_true (by omega)
             clear c47
             replace H := Option.bind_eq_some_iff.mp H
             obtain ⟨⟨t119, t120, t121⟩, A480, H⟩ := H
             try dsimp only at H
             have A48 := aK A480
             clear A480
             replace H := Option.bind_eq_some_iff.mp H
             obtain ⟨⟨t124, t125, t126⟩, A490, H⟩ := H
             try dsimp only at H
             have A49 := aK A490
             clear A490
             simp only [Option.some.injEq, Prod.mk.injEq] at H
             obtain ⟨rfl, rfl, rfl, rfl⟩ := H
             go_enter Try.func78, Try.ntmps78
             try go_wp2_with (first | ((with_reducible refine gate_dst (N := 1) rfl ?_); refine bE (N := 1) (cs := #[.int .i64 a0_0, .int .i64 a0_1, .slice A0_2 l0_2.length c0_2]) (t := 77) ?_; intro gb101 hg w50 hbox hb; have GW101 := qw HB hg; have GE101 := qw HB hg; replace HO0_2 := qv HO0_2 hg hb; have BK101 := aK hbox; replace HB := qs HB hb; clear hb hbox hg) | ((with_reducible refine gate_dst (N := 2) rfl ?_); refine bE (N := 2) (cs := #[.int .i64 0, .int .i64 0, .slice none 0 0]) (t := 77) ?_; intro gb102 hg w51 hbox hb; have GW102 := qw HB hg; have GE102 := qw HB hg; have NB101_102 := ql BK101 hg; have NB102_101 := qg BK101 hg; replace HO0_2 := qv HO0_2 hg hb; replace BK101 := qb BK101 hb; have BK102 := aK hbox; replace HB := qs HB hb; clear hb hbox hg; have hnb52 := NB101_102.out; have hnc52 := NB102_101.out; have hcz53_0 := k30 BK101; have hcz53_1 := k31 BK101; have hcz53_2 := k32 BK101; have hfz53_0 := fz BK101 0; have hfz53_1 := fz BK101 1; have hfz53_2 := fz BK101 2; have p103 : 0 ≤ (0 : Int) := (by omega); have q103 : 0 < (l0_2.length : Int) := dA; obtain ⟨ad103, A103_2, c103_2, e103, hx103_0, hx103_1, hx103_2, hl103_2, hi103_2⟩ := at_T77 (Kd.V_reads' HO0_2.out).2.2 0 p103 q103; cases e103; obtain ⟨ce103, hce103, hMe103, hcc103⟩ := Kd.V_get HO0_2.out z77 0 p103 (by first | exact q103 | exact dA | (have e_ := (Kd.V_reads' HO0_2.out).1; omega)); obtain ⟨ua103_2, uc103_2, rfl, ul103_2, ge103_2⟩ := k77_openF hMe103; have hv103_2 := hcc103 2 _ rfl; rw [add_field _ _ 2 (by omega)] at hv103_2; replace hv103_2 := Option.some.inj (hv103_2.symm.trans hx103_2); injection hv103_2 with hva_ hvn_ hvc_; rw [hva_] at ge103_2; rw [hvc_] at ul103_2; have HL103_2 := aK (show Kd.V k77 77 _ w.heap.size _ _ ((rd_T77 l0_2 0).f2) from Kd.V_mk ul103_2 ge103_2); clear hva_ hvn_ hvc_ ge103_2 ul103_2; clear hcc103 hce103; have qi103 : (0 < l0_2.length) = True := eq_true (by omega); (try rw [show ((0 : Int)).toNat = 0 from rfl] at hx103_0); (try rw [show 0 * 3 = 0 from rfl] at hx103_0); (try rw [Addr.add_zero'] at hx103_0); (try rw [show ((0 : Int)).toNat = 0 from rfl] at hx103_1); (try rw [show 0 * 3 = 0 from rfl] at hx103_1); (try rw [Addr.add_zero'] at hx103_1); (try rw [show ((0 : Int)).toNat = 0 from rfl] at hx103_2); (try rw [show 0 * 3 = 0 from rfl] at hx103_2); (try rw [Addr.add_zero'] at hx103_2); have HR103_2 := aK hi103_2; have HC103_2 := aK hl103_2; clear hi103_2 hl103_2; replace p103 := eq_true p103; replace q103 := eq_true q103) | ((with_reducible refine gate_dst (N := 4) rfl ?_); refine bE (N := 4) (cs := #[.int .i64 0, .int .i64 0, .slice none 0 0]) (t := 77) ?_; intro gb104 hg w54 hbox hb; have GW104 := qw HB hg; have GE104 := qw HB hg; have NB101_104 := ql BK101 hg; have NB104_101 := qg BK101 hg; have NB102_104 := ql BK102 hg; have NB104_102 := qg BK102 hg; replace HR103_2 := qr HL103_2 hb; replace HO0_2 := qv HO0_2 hg hb; replace HL103_2 := qv HL103_2 hg hb; replace BK101 := qb BK101 hb; replace BK102 := qb BK102 hb; have BK104 := aK hbox; replace HB := qs HB hb; clear hb hbox hg; have hnb55 := NB104_101.out; have hnc55 := NB101_104.out; have hnb56 := NB104_102.out; have hnc56 := NB102_104.out; have hcz57_0 := k30 BK104; have hcz57_1 := k31 BK104; have hcz57_2 := k32 BK104; have hfz57_0 := fz BK104 0; have hfz57_1 := fz BK104 1; have hfz57_2 := fz BK104 2) | ((with_reducible refine gate_store (t := 77) (p := 4) rfl ?_); refine store_event (t := 77) (p := 4) (v := ?vo_w58) (w1 := (((w54.setCell ⟨gb104, 0, none⟩ (.int .i64 ((rd_T77 l0_2 0).f0))).setCell ⟨gb104, 1, none⟩ (.int .i64 ((rd_T77 l0_2 0).f1))).setCell ⟨gb104, 2, none⟩ (.slice A103_2 ((rd_T77 l0_2 0).f2).length c103_2))) ?hg ?ho ?hn ?hr ?_; (case ho => rfl); (case hg => rfl); (case hn => rfl); (case hr => first | (go_simp; done) | (go_simp; rfl)); intro w58 hw; have n0_ : Aside0 (Kd.V k77 77 w58 w.heap.size (fun k_ => (P0_2_ k_ ∨ w.heap.size ≤ k_) ∧ k_ ≠ gb101 ∧ k_ ≠ gb102 ∧ k_ ≠ gb104) (.slice (some ad103) l0_2.length c0_2) l0_2) := ⟨(by rw [hw]; exact (by (with_reducible repeat (first | apply Kd.V_alloc | apply Kd.V_drewN | apply Kd.V_drew)); exact Kd.V_mono (vF3 gb104 (Kd.V_mono HO0_2.out (fun k_ hk => (⟨hk, hk.2⟩ : _ ∧ k_ ≠ gb104))) (fun _ hk => hk.2)) (fun _ hk => ⟨hk.1.1.1.1, ⟨hk.1.1.1.2, ⟨hk.1.1.2, hk.1.2⟩⟩⟩)))⟩; have n1_ : Aside0 (Kd.V k77 77 w58 w.heap.size (fun k_ => (P0_2_ k_ ∨ w.heap.size ≤ k_) ∧ k_ ≠ gb101 ∧ k_ ≠ gb102 ∧ k_ ≠ gb104) (.slice A103_2 ((rd_T77 l0_2 0).f2).length c103_2) ((rd_T77 l0_2 0).f2)) := ⟨(by rw [hw]; exact (by (with_reducible repeat (first | apply Kd.V_alloc | apply Kd.V_drewN | apply Kd.V_drew)); exact Kd.V_mono (vF3 gb104 (Kd.V_mono HL103_2.out (fun k_ hk => (⟨hk, hk.2⟩ : _ ∧ k_ ≠ gb104))) (fun _ hk => hk.2)) (fun _ hk => ⟨hk.1.1.1.1, ⟨hk.1.1.1.2, ⟨hk.1.1.2, hk.1.2⟩⟩⟩)))⟩; have n2_ : Aside0 (w58.heap[gb101]? = some (.cells #[.int .i64 a0_0, .int .i64 a0_1, .slice (some ad103) l0_2.length c0_2] 77 (0, 0))) := ⟨(by rw [hw]; exact (by (repeat first | with_reducible apply zN | with_reducible apply zD | with_reducible apply zA | refine blk_far ?_ NB101_104.out _); exact BK101.out))⟩; have n3_ : Aside0 (w58.heap[gb102]? = some (.cells #[.int .i64 0, .int .i64 0, .slice none 0 0] 77 (0, 0))) := ⟨(by rw [hw]; exact (by (repeat first | with_reducible apply zN | with_reducible apply zD | with_reducible apply zA | refine blk_far ?_ NB102_104.out _); exact BK102.out))⟩; have n4_ : Aside0 (w58.heap[gb104]? = some (.cells #[.int .i64 ((rd_T77 l0_2 0).f0), .int .i64 ((rd_T77 l0_2 0).f1), .slice A103_2 ((rd_T77 l0_2 0).f2).length c103_2] 77 (0, 0))) := ⟨(by rw [hw]; exact (p3 BK104))⟩; have n5_ : Aside0 (Below w.heap.size w w58) := ⟨(by rw [hw]; exact (pH HB))⟩; clear hw; clear HO0_2; clear HL103_2; clear BK101; clear BK102; clear BK104; clear HB; have HO0_2 := n0_; have HL103_2 := n1_; have BK101 := n2_; have BK102 := n3_; have BK104 := n4_; have HB := n5_; clear n0_ n1_ n2_ n3_ n4_ n5_; have hcz59_0 := k30 BK104; have hcz59_1 := k31 BK104; have hcz59_2 := k32 BK104; have hfz59_0 := fz BK104 0; have hfz59_1 := fz BK104 1; have hfz59_2 := fz BK104 2; have p106 : 0 ≤ (0 : Int) := (by omega); have q106 : 0 < (((rd_T77 l0_2 0).f2).length : Int) := dA; obtain ⟨ad106, A106_2, c106_2, e106, hx106_0, hx106_1, hx106_2, hl106_2, hi106_2⟩ := at_T77 (Kd.V_reads' HL103_2.out).2.2 0 p106 q106; cases e106; obtain ⟨ce106, hce106, hMe106, hcc106⟩ := Kd.V_get HL103_2.out z77 0 p106 (by first | exact q106 | exact dA | (have e_ := (Kd.V_reads' HL103_2.out).1; omega)); obtain ⟨ua106_2, uc106_2, rfl, ul106_2, ge106_2⟩ := k77_openF hMe106; have hv106_2 := hcc106 2 _ rfl; rw [add_field _ _ 2 (by omega)] at hv106_2; replace hv106_2 := Option.some.inj (hv106_2.symm.trans hx106_2); injection hv106_2 with hva_ hvn_ hvc_; rw [hva_] at ge106_2; rw [hvc_] at ul106_2; have HL106_2 := aK (show Kd.V k77 77 _ w.heap.size _ _ ((rd_T77 ((rd_T77 l0_2 0).f2) 0).f2) from Kd.V_mk ul106_2 ge106_2); clear hva_ hvn_ hvc_ ge106_2 ul106_2; clear hcc106 hce106; have qi106 : (0 < ((rd_T77 l0_2 0).f2).length) = True := eq_true (by omega); (try rw [show ((0 : Int)).toNat = 0 from rfl] at hx106_0); (try rw [show 0 * 3 = 0 from rfl] at hx106_0); (try rw [Addr.add_zero'] at hx106_0); (try rw [show ((0 : Int)).toNat = 0 from rfl] at hx106_1); (try rw [show 0 * 3 = 0 from rfl] at hx106_1); (try rw [Addr.add_zero'] at hx106_1); (try rw [show ((0 : Int)).toNat = 0 from rfl] at hx106_2); (try rw [show 0 * 3 = 0 from rfl] at hx106_2); (try rw [Addr.add_zero'] at hx106_2); have HR106_2 := aK hi106_2; have HC106_2 := aK hl106_2; clear hi106_2 hl106_2; replace p106 := eq_true p106; replace q106 := eq_true q106) | ((with_reducible refine gate_dst (N := 5) rfl ?_); refine bE (N := 5) (cs := #[.int .i64 0, .int .i64 0, .slice none 0 0]) (t := 77) ?_; intro gb107 hg w60 hbox hb; have GW107 := qw HB hg; have GE107 := qw HB hg; have NB101_107 := ql BK101 hg; have NB107_101 := qg BK101 hg; have NB102_107 := ql BK102 hg; have NB107_102 := qg BK102 hg; have NB104_107 := ql BK104 hg; have NB107_104 := qg BK104 hg; replace HR103_2 := qr HL103_2 hb; replace HR106_2 := qr HL106_2 hb; replace HO0_2 := qv HO0_2 hg hb; replace HL103_2 := qv HL103_2 hg hb; replace HL106_2 := qv HL106_2 hg hb; replace BK101 := qb BK101 hb; replace BK102 := qb BK102 hb; replace BK104 := qb BK104 hb; have BK107 := aK hbox; replace HB := qs HB hb; clear hb hbox hg; have hnb61 := NB107_101.out; have hnc61 := NB101_107.out; have hnb62 := NB107_102.out; have hnc62 := NB102_107.out; have hnb63 := NB107_104.out; have hnc63 := NB104_107.out; have hcz64_0 := k30 BK107; have hcz64_1 := k31 BK107; have hcz64_2 := k32 BK107; have hfz64_0 := fz BK107 0; have hfz64_1 := fz BK107 1; have hfz64_2 := fz BK107 2) | ((with_reducible refine gate_store (t := 77) (p := 5) rfl ?_); refine store_event (t := 77) (p := 5) (v := ?vo_w65) (w1 := (((w60.setCell ⟨gb107, 0, none⟩ (.int .i64 ((rd_T77 ((rd_T77 l0_2 0).f2) 0).f0))).setCell ⟨gb107, 1, none⟩ (.int .i64 ((rd_T77 ((rd_T77 l0_2 0).f2) 0).f1))).setCell ⟨gb107, 2, none⟩ (.slice A106_2 ((rd_T77 ((rd_T77 l0_2 0).f2) 0).f2).length c106_2))) ?hg ?ho ?hn ?hr ?_; (case ho => rfl); (case hg => rfl); (case hn => rfl); (case hr => first | (go_simp; done) | (go_simp; rfl)); intro w65 hw; have n0_ : Aside0 (Kd.V k77 77 w65 w.heap.size (fun k_ => (P0_2_ k_ ∨ w.heap.size ≤ k_) ∧ k_ ≠ gb101 ∧ k_ ≠ gb102 ∧ k_ ≠ gb104 ∧ k_ ≠ gb107) (.slice (some ad103) l0_2.length c0_2) l0_2) := ⟨(by rw [hw]; exact (by (with_reducible repeat (first | apply Kd.V_alloc | apply Kd.V_drewN | apply Kd.V_drew)); exact Kd.V_mono (vF3 gb107 (Kd.V_mono HO0_2.out (fun k_ hk => (⟨hk, hk.2⟩ : _ ∧ k_ ≠ gb107))) (fun _ hk => hk.2)) (fun _ hk => ⟨hk.1.1.1, ⟨hk.1.1.2.1, ⟨hk.1.1.2.2.1, ⟨hk.1.1.2.2.2, hk.1.2⟩⟩⟩⟩)))⟩; have n1_ : Aside0 (Kd.V k77 77 w65 w.heap.size (fun k_ => (P0_2_ k_ ∨ w.heap.size ≤ k_) ∧ k_ ≠ gb101 ∧ k_ ≠ gb102 ∧ k_ ≠ gb104 ∧ k_ ≠ gb107) (.slice (some ad106) ((rd_T77 l0_2 0).f2).length c103_2) ((rd_T77 l0_2 0).f2)) := ⟨(by rw [hw]; exact (by (with_reducible repeat (first | apply Kd.V_alloc | apply Kd.V_drewN | apply Kd.V_drew)); exact Kd.V_mono (vF3 gb107 (Kd.V_mono HL103_2.out (fun k_ hk => (⟨hk, hk.2⟩ : _ ∧ k_ ≠ gb107))) (fun _ hk => hk.2)) (fun _ hk => ⟨hk.1.1.1, ⟨hk.1.1.2.1, ⟨hk.1.1.2.2.1, ⟨hk.1.1.2.2.2, hk.1.2⟩⟩⟩⟩)))⟩; have n2_ : Aside0 (Kd.V k77 77 w65 w.heap.size (fun k_ => (P0_2_ k_ ∨ w.heap.size ≤ k_) ∧ k_ ≠ gb101 ∧ k_ ≠ gb102 ∧ k_ ≠ gb104 ∧ k_ ≠ gb107) (.slice A106_2 ((rd_T77 ((rd_T77 l0_2 0).f2) 0).f2).length c106_2) ((rd_T77 ((rd_T77 l0_2 0).f2) 0).f2)) := ⟨(by rw [hw]; exact (by (with_reducible repeat (first | apply Kd.V_alloc | apply Kd.V_drewN | apply Kd.V_drew)); exact Kd.V_mono (vF3 gb107 (Kd.V_mono HL106_2.out (fun k_ hk => (⟨hk, hk.2⟩ : _ ∧ k_ ≠ gb107))) (fun _ hk => hk.2)) (fun _ hk => ⟨hk.1.1.1, ⟨hk.1.1.2.1, ⟨hk.1.1.2.2.1, ⟨hk.1.1.2.2.2, hk.1.2⟩⟩⟩⟩)))⟩; have n3_ : Aside0 (w65.heap[gb101]? = some (.cells #[.int .i64 a0_0, .int .i64 a0_1, .slice (some ad103) l0_2.length c0_2] 77 (0, 0))) := ⟨(by rw [hw]; exact (by (repeat first | with_reducible apply zN | with_reducible apply zD | with_reducible apply zA | refine blk_far ?_ NB101_107.out _); exact BK101.out))⟩; have n4_ : Aside0 (w65.heap[gb102]? = some (.cells #[.int .i64 0, .int .i64 0, .slice none 0 0] 77 (0, 0))) := ⟨(by rw [hw]; exact (by (repeat first | with_reducible apply zN | with_reducible apply zD | with_reducible apply zA | refine blk_far ?_ NB102_107.out _); exact BK102.out))⟩; have n5_ : Aside0 (w65.heap[gb104]? = some (.cells #[.int .i64 ((rd_T77 l0_2 0).f0), .int .i64 ((rd_T77 l0_2 0).f1), .slice (some ad106) ((rd_T77 l0_2 0).f2).length c103_2] 77 (0, 0))) := ⟨(by rw [hw]; exact (by (repeat first | with_reducible apply zN | with_reducible apply zD | with_reducible apply zA | refine blk_far ?_ NB104_107.out _); exact BK104.out))⟩; have n6_ : Aside0 (w65.heap[gb107]? = some (.cells #[.int .i64 ((rd_T77 ((rd_T77 l0_2 0).f2) 0).f0), .int .i64 ((rd_T77 ((rd_T77 l0_2 0).f2) 0).f1), .slice A106_2 ((rd_T77 ((rd_T77 l0_2 0).f2) 0).f2).length c106_2] 77 (0, 0))) := ⟨(by rw [hw]; exact (p3 BK107))⟩; have n7_ : Aside0 (Below w.heap.size w w65) := ⟨(by rw [hw]; exact (pH HB))⟩; clear hw; clear HO0_2; clear HL103_2; clear HL106_2; clear BK101; clear BK102; clear BK104; clear BK107; clear HB; have HO0_2 := n0_; have HL103_2 := n1_; have HL106_2 := n2_; have BK101 := n3_; have BK102 := n4_; have BK104 := n5_; have BK107 := n6_; have HB := n7_; clear n0_ n1_ n2_ n3_ n4_ n5_ n6_ n7_; have hcz66_0 := k30 BK107; have hcz66_1 := k31 BK107; have hcz66_2 := k32 BK107; have hfz66_0 := fz BK107 0; have hfz66_1 := fz BK107 1; have hfz66_2 := fz BK107 2; have p109 : 0 ≤ (0 : Int) := (by omega); have q109 : 0 < (((rd_T77 ((rd_T77 l0_2 0).f2) 0).f2).length : Int) := dA; obtain ⟨ad109, A109_2, c109_2, e109, hx109_0, hx109_1, hx109_2, hl109_2, hi109_2⟩ := at_T77 (Kd.V_reads' HL106_2.out).2.2 0 p109 q109; cases e109; obtain ⟨ce109, hce109, hMe109, hcc109⟩ := Kd.V_get HL106_2.out z77 0 p109 (by first | exact q109 | exact dA | (have e_ := (Kd.V_reads' HL106_2.out).1; omega)); obtain ⟨ua109_2, uc109_2, rfl, ul109_2, ge109_2⟩ := k77_openF hMe109; have hv109_2 := hcc109 2 _ rfl; rw [add_field _ _ 2 (by omega)] at hv109_2; replace hv109_2 := Option.some.inj (hv109_2.symm.trans hx109_2); injection hv109_2 with hva_ hvn_ hvc_; rw [hva_] at ge109_2; rw [hvc_] at ul109_2; have HL109_2 := aK (show Kd.V k77 77 _ w.heap.size _ _ ((rd_T77 ((rd_T77 ((rd_T77 l0_2 0).f2) 0).f2) 0).f2) from Kd.V_mk ul109_2 ge109_2); clear hva_ hvn_ hvc_ ge109_2 ul109_2; clear hcc109 hce109; have qi109 : (0 < ((rd_T77 ((rd_T77 l0_2 0).f2) 0).f2).length) = True := eq_true (by omega); (try rw [show ((0 : Int)).toNat = 0 from rfl] at hx109_0); (try rw [show 0 * 3 = 0 from rfl] at hx109_0); (try rw [Addr.add_zero'] at hx109_0); (try rw [show ((0 : Int)).toNat = 0 from rfl] at hx109_1); (try rw [show 0 * 3 = 0 from rfl] at hx109_1); (try rw [Addr.add_zero'] at hx109_1); (try rw [show ((0 : Int)).toNat = 0 from rfl] at hx109_2); (try rw [show 0 * 3 = 0 from rfl] at hx109_2); (try rw [Addr.add_zero'] at hx109_2); have HR109_2 := aK hi109_2; have HC109_2 := aK hl109_2; clear hi109_2 hl109_2; replace p109 := eq_true p109; replace q109 := eq_true q109; have hcz67_0 := k30 BK101; have hcz67_1 := k31 BK101; have hcz67_2 := k32 BK101; have hfz67_0 := fz BK101 0; have hfz67_1 := fz BK101 1; have hfz67_2 := fz BK101 2; have p110 : 0 ≤ (1 : Int) := (by omega); have q110 : 1 < (l0_2.length : Int) := dA; obtain ⟨ad110, A110_2, c110_2, e110, hx110_0, hx110_1, hx110_2, hl110_2, hi110_2⟩ := at_T77 (Kd.V_reads' HO0_2.out).2.2 1 p110 q110; obtain rfl : ad103 = ad110 := (by injection e110); obtain ⟨ce110, hce110, hMe110, hcc110⟩ := Kd.V_get HO0_2.out z77 1 p110 (by first | exact q110 | exact dA | (have e_ := (Kd.V_reads' HO0_2.out).1; omega)); obtain ⟨ua110_2, uc110_2, rfl, ul110_2, ge110_2⟩ := k77_openF hMe110; have hv110_2 := hcc110 2 _ rfl; rw [add_field _ _ 2 (by omega)] at hv110_2; replace hv110_2 := Option.some.inj (hv110_2.symm.trans hx110_2); injection hv110_2 with hva_ hvn_ hvc_; rw [hva_] at ge110_2; rw [hvc_] at ul110_2; have HL110_2 := aK (show Kd.V k77 77 _ w.heap.size _ _ ((rd_T77 l0_2 1).f2) from Kd.V_mk ul110_2 ge110_2); clear hva_ hvn_ hvc_ ge110_2 ul110_2; clear hcc110 hce110; (try simp only [show (1 : Int).toNat = 1 from rfl, Nat.reduceMul, Nat.reduceEqDiff, Go.Addr.add, ↓reduceIte] at hx110_0); (try simp only [show (1 : Int).toNat = 1 from rfl, Nat.reduceMul, Nat.reduceEqDiff, Go.Addr.add, ↓reduceIte] at hx110_1); (try simp only [show (1 : Int).toNat = 1 from rfl, Nat.reduceMul, Nat.reduceEqDiff, Go.Addr.add, ↓reduceIte] at hx110_2); have qi110 : (1 < l0_2.length) = True := eq_true (by omega); (try rw [show ((1 : Int)).toNat = 1 from rfl] at hx110_0); (try rw [show 1 * 3 = 3 from rfl] at hx110_0); (try rw [show ((1 : Int)).toNat = 1 from rfl] at hx110_1); (try rw [show 1 * 3 = 3 from rfl] at hx110_1); (try rw [show ((1 : Int)).toNat = 1 from rfl] at hx110_2); (try rw [show 1 * 3 = 3 from rfl] at hx110_2); have HR110_2 := aK hi110_2; have HC110_2 := aK hl110_2; clear hi110_2 hl110_2; replace p110 := eq_true p110; replace q110 := eq_true q110) | ((with_reducible refine gate_dst (N := 6) rfl ?_); refine bE (N := 6) (cs := #[.int .i64 0, .int .i64 0, .slice none 0 0]) (t := 77) ?_; intro gb111 hg w68 hbox hb; have GW111 := qw HB hg; have GE111 := qw HB hg; have NB101_111 := ql BK101 hg; have NB111_101 := qg BK101 hg; have NB102_111 := ql BK102 hg; have NB111_102 := qg BK102 hg; have NB104_111 := ql BK104 hg; have NB111_104 := qg BK104 hg; have NB107_111 := ql BK107 hg; have NB111_107 := qg BK107 hg; replace HR103_2 := qr HL103_2 hb; replace HR106_2 := qr HL106_2 hb; replace HR109_2 := qr HL109_2 hb; replace HR110_2 := qr HL110_2 hb; replace HO0_2 := qv HO0_2 hg hb; replace HL103_2 := qv HL103_2 hg hb; replace HL106_2 := qv HL106_2 hg hb; replace HL109_2 := qv HL109_2 hg hb; replace HL110_2 := qv HL110_2 hg hb; replace BK101 := qb BK101 hb; replace BK102 := qb BK102 hb; replace BK104 := qb BK104 hb; replace BK107 := qb BK107 hb; have BK111 := aK hbox; replace HB := qs HB hb; clear hb hbox hg; have hnb69 := NB111_101.out; have hnc69 := NB101_111.out; have hnb70 := NB111_102.out; have hnc70 := NB102_111.out; have hnb71 := NB111_104.out; have hnc71 := NB104_111.out; have hnb72 := NB111_107.out; have hnc72 := NB107_111.out; have hcz73_0 := k30 BK111; have hcz73_1 := k31 BK111; have hcz73_2 := k32 BK111; have hfz73_0 := fz BK111 0; have hfz73_1 := fz BK111 1; have hfz73_2 := fz BK111 2))
             have n0_ : Aside0 (Kd.V k77 77 (((w68.setCell ⟨gb111, 0, none⟩ (.int .i64 ((rd_T77 l0_2 1).f0))).setCell ⟨gb111, 1, none⟩ (.int .i64 ((rd_T77 l0_2 1).f1))).setCell ⟨gb111, 2, none⟩ (.slice A110_2 ((rd_T77 l0_2 1).f2).length c110_2)) w.heap.size (fun k_ => (P0_2_ k_ ∨ w.heap.size ≤ k_) ∧ k_ ≠ gb101 ∧ k_ ≠ gb102 ∧ k_ ≠ gb104 ∧ k_ ≠ gb107 ∧ k_ ≠ gb111) (.slice (some ad103) l0_2.length c0_2) l0_2) := ⟨by (with_reducible repeat (first | apply Kd.V_alloc | apply Kd.V_drewN | apply Kd.V_drew)); exact Kd.V_mono (vF3 gb111 (Kd.V_mono HO0_2.out (fun k_ hk => (⟨hk, hk.2⟩ : _ ∧ k_ ≠ gb111))) (fun _ hk => hk.2)) (fun _ hk => ⟨hk.1.1.1, ⟨hk.1.1.2.1, ⟨hk.1.1.2.2.1, ⟨hk.1.1.2.2.2.1, ⟨hk.1.1.2.2.2.2, hk.1.2⟩⟩⟩⟩⟩)⟩
             have n1_ : Aside0 (Kd.V k77 77 (((w68.setCell ⟨gb111, 0, none⟩ (.int .i64 ((rd_T77 l0_2 1).f0))).setCell ⟨gb111, 1, none⟩ (.int .i64 ((rd_T77 l0_2 1).f1))).setCell ⟨gb111, 2, none⟩ (.slice A110_2 ((rd_T77 l0_2 1).f2).length c110_2)) w.heap.size (fun k_ => (P0_2_ k_ ∨ w.heap.size ≤ k_) ∧ k_ ≠ gb101 ∧ k_ ≠ gb102 ∧ k_ ≠ gb104 ∧ k_ ≠ gb107 ∧ k_ ≠ gb111) (.slice (some ad106) ((rd_T77 l0_2 0).f2).length c103_2) ((rd_T77 l0_2 0).f2)) := ⟨by (with_reducible repeat (first | apply Kd.V_alloc | apply Kd.V_drewN | apply Kd.V_drew)); exact Kd.V_mono (vF3 gb111 (Kd.V_mono HL103_2.out (fun k_ hk => (⟨hk, hk.2⟩ : _ ∧ k_ ≠ gb111))) (fun _ hk => hk.2)) (fun _ hk => ⟨hk.1.1.1, ⟨hk.1.1.2.1, ⟨hk.1.1.2.2.1, ⟨hk.1.1.2.2.2.1, ⟨hk.1.1.2.2.2.2, hk.1.2⟩⟩⟩⟩⟩)⟩
             have n2_ : Aside0 (Kd.V k77 77 (((w68.setCell ⟨gb111, 0, none⟩ (.int .i64 ((rd_T77 l0_2 1).f0))).setCell ⟨gb111, 1, none⟩ (.int .i64 ((rd_T77 l0_2 1).f1))).setCell ⟨gb111, 2, none⟩ (.slice A110_2 ((rd_T77 l0_2 1).f2).length c110_2)) w.heap.size (fun k_ => (P0_2_ k_ ∨ w.heap.size ≤ k_) ∧ k_ ≠ gb101 ∧ k_ ≠ gb102 ∧ k_ ≠ gb104 ∧ k_ ≠ gb107 ∧ k_ ≠ gb111) (.slice (some ad109) ((rd_T77 ((rd_T77 l0_2 0).f2) 0).f2).length c106_2) ((rd_T77 ((rd_T77 l0_2 0).f2) 0).f2)) := ⟨by (with_reducible repeat (first | apply Kd.V_alloc | apply Kd.V_drewN | apply Kd.V_drew)); exact Kd.V_mono (vF3 gb111 (Kd.V_mono HL106_2.out (fun k_ hk => (⟨hk, hk.2⟩ : _ ∧ k_ ≠ gb111))) (fun _ hk => hk.2)) (fun _ hk => ⟨hk.1.1.1, ⟨hk.1.1.2.1, ⟨hk.1.1.2.2.1, ⟨hk.1.1.2.2.2.1, ⟨hk.1.1.2.2.2.2, hk.1.2⟩⟩⟩⟩⟩)⟩
             have n3_ : Aside0 (Kd.V k77 77 (((w68.setCell ⟨gb111, 0, none⟩ (.int .i64 ((rd_T77 l0_2 1).f0))).setCell ⟨gb111, 1, none⟩ (.int .i64 ((rd_T77 l0_2 1).f1))).setCell ⟨gb111, 2, none⟩ (.slice A110_2 ((rd_T77 l0_2 1).f2).length c110_2)) w.heap.size (fun k_ => (P0_2_ k_ ∨ w.heap.size ≤ k_) ∧ k_ ≠ gb101 ∧ k_ ≠ gb102 ∧ k_ ≠ gb104 ∧ k_ ≠ gb107 ∧ k_ ≠ gb111) (.slice A109_2 ((rd_T77 ((rd_T77 ((rd_T77 l0_2 0).f2) 0).f2) 0).f2).length c109_2) ((rd_T77 ((rd_T77 ((rd_T77 l0_2 0).f2) 0).f2) 0).f2)) := ⟨by (with_reducible repeat (first | apply Kd.V_alloc | apply Kd.V_drewN | apply Kd.V_drew)); exact Kd.V_mono (vF3 gb111 (Kd.V_mono HL109_2.out (fun k_ hk => (⟨hk, hk.2⟩ : _ ∧ k_ ≠ gb111))) (fun _ hk => hk.2)) (fun _ hk => ⟨hk.1.1.1, ⟨hk.1.1.2.1, ⟨hk.1.1.2.2.1, ⟨hk.1.1.2.2.2.1, ⟨hk.1.1.2.2.2.2, hk.1.2⟩⟩⟩⟩⟩)⟩
             have n4_ : Aside0 (Kd.V k77 77 (((w68.setCell ⟨gb111, 0, none⟩ (.int .i64 ((rd_T77 l0_2 1).f0))).setCell ⟨gb111, 1, none⟩ (.int .i64 ((rd_T77 l0_2 1).f1))).setCell ⟨gb111, 2, none⟩ (.slice A110_2 ((rd_T77 l0_2 1).f2).length c110_2)) w.heap.size (fun k_ => (P0_2_ k_ ∨ w.heap.size ≤ k_) ∧ k_ ≠ gb101 ∧ k_ ≠ gb102 ∧ k_ ≠ gb104 ∧ k_ ≠ gb107 ∧ k_ ≠ gb111) (.slice A110_2 ((rd_T77 l0_2 1).f2).length c110_2) ((rd_T77 l0_2 1).f2)) := ⟨by (with_reducible repeat (first | apply Kd.V_alloc | apply Kd.V_drewN | apply Kd.V_drew)); exact Kd.V_mono (vF3 gb111 (Kd.V_mono HL110_2.out (fun k_ hk => (⟨hk, hk.2⟩ : _ ∧ k_ ≠ gb111))) (fun _ hk => hk.2)) (fun _ hk => ⟨hk.1.1.1, ⟨hk.1.1.2.1, ⟨hk.1.1.2.2.1, ⟨hk.1.1.2.2.2.1, ⟨hk.1.1.2.2.2.2, hk.1.2⟩⟩⟩⟩⟩)⟩
             have n5_ : Aside0 ((((w68.setCell ⟨gb111, 0, none⟩ (.int .i64 ((rd_T77 l0_2 1).f0))).setCell ⟨gb111, 1, none⟩ (.int .i64 ((rd_T77 l0_2 1).f1))).setCell ⟨gb111, 2, none⟩ (.slice A110_2 ((rd_T77 l0_2 1).f2).length c110_2)).heap[gb101]? = some (.cells #[.int .i64 a0_0, .int .i64 a0_1, .slice (some ad103) l0_2.length c0_2] 77 (0, 0))) := ⟨by (repeat first | with_reducible apply zN | with_reducible apply zD | with_reducible apply zA | refine blk_far ?_ NB101_111.out _); exact BK101.out⟩
             have n6_ : Aside0 ((((w68.setCell ⟨gb111, 0, none⟩ (.int .i64 ((rd_T77 l0_2 1).f0))).setCell ⟨gb111, 1, none⟩ (.int .i64 ((rd_T77 l0_2 1).f1))).setCell ⟨gb111, 2, none⟩ (.slice A110_2 ((rd_T77 l0_2 1).f2).length c110_2)).heap[gb102]? = some (.cells #[.int .i64 0, .int .i64 0, .slice none 0 0] 77 (0, 0))) := ⟨by (repeat first | with_reducible apply zN | with_reducible apply zD | with_reducible apply zA | refine blk_far ?_ NB102_111.out _); exact BK102.out⟩
             have n7_ : Aside0 ((((w68.setCell ⟨gb111, 0, none⟩ (.int .i64 ((rd_T77 l0_2 1).f0))).setCell ⟨gb111, 1, none⟩ (.int .i64 ((rd_T77 l0_2 1).f1))).setCell ⟨gb111, 2, none⟩ (.slice A110_2 ((rd_T77 l0_2 1).f2).length c110_2)).heap[gb104]? = some (.cells #[.int .i64 ((rd_T77 l0_2 0).f0), .int .i64 ((rd_T77 l0_2 0).f1), .slice (some ad106) ((rd_T77 l0_2 0).f2).length c103_2] 77 (0, 0))) := ⟨by (repeat first | with_reducible apply zN | with_reducible apply zD | with_reducible apply zA | refine blk_far ?_ NB104_111.out _); exact BK104.out⟩
             have n8_ : Aside0 ((((w68.setCell ⟨gb111, 0, none⟩ (.int .i64 ((rd_T77 l0_2 1).f0))).setCell ⟨gb111, 1, none⟩ (.int .i64 ((rd_T77 l0_2 1).f1))).setCell ⟨gb111, 2, none⟩ (.slice A110_2 ((rd_T77 l0_2 1).f2).length c110_2)).heap[gb107]? = some (.cells #[.int .i64 ((rd_T77 ((rd_T77 l0_2 0).f2) 0).f0), .int .i64 ((rd_T77 ((rd_T77 l0_2 0).f2) 0).f1), .slice (some ad109) ((rd_T77 ((rd_T77 l0_2 0).f2) 0).f2).length c106_2] 77 (0, 0))) := ⟨by (repeat first | with_reducible apply zN | with_reducible apply zD | with_reducible apply zA | refine blk_far ?_ NB107_111.out _); exact BK107.out⟩
             have n9_ : Aside0 ((((w68.setCell ⟨gb111, 0, none⟩ (.int .i64 ((rd_T77 l0_2 1).f0))).setCell ⟨gb111, 1, none⟩ (.int .i64 ((rd_T77 l0_2 1).f1))).setCell ⟨gb111, 2, none⟩ (.slice A110_2 ((rd_T77 l0_2 1).f2).length c110_2)).heap[gb111]? = some (.cells #[.int .i64 ((rd_T77 l0_2 1).f0), .int .i64 ((rd_T77 l0_2 1).f1), .slice A110_2 ((rd_T77 l0_2 1).f2).length c110_2] 77 (0, 0))) := ⟨p3 BK111⟩
             have n10_ : Aside0 (Below w.heap.size w (((w68.setCell ⟨gb111, 0, none⟩ (.int .i64 ((rd_T77 l0_2 1).f0))).setCell ⟨gb111, 1, none⟩ (.int .i64 ((rd_T77 l0_2 1).f1))).setCell ⟨gb111, 2, none⟩ (.slice A110_2 ((rd_T77 l0_2 1).f2).length c110_2))) := ⟨pH HB⟩
             (try clear HO0_2)
             (try clear HL103_2)
             (try clear HL106_2)
             (try clear HL109_2)
             (try clear HL110_2)
             (try clear BK101)
             (try clear BK102)
             (try clear BK104)
             (try clear BK107)
             (try clear BK111)
             (try clear HB)
             generalize (((w68.setCell ⟨gb111, 0, none⟩ (.int .i64 ((rd_T77 l0_2 1).f0))).setCell ⟨gb111, 1, none⟩ (.int .i64 ((rd_T77 l0_2 1).f1))).setCell ⟨gb111, 2, none⟩ (.slice A110_2 ((rd_T77 l0_2 1).f2).length c110_2)) = w74 at n0_ n1_ n2_ n3_ n4_ n5_ n6_ n7_ n8_ n9_ n10_ ⊢
             have HO0_2 := n0_
             have HL103_2 := n1_
             have HL106_2 := n2_
             have HL109_2 := n3_
             have HL110_2 := n4_
             have BK101 := n5_
             have BK102 := n6_
             have BK104 := n7_
             have BK107 := n8_
             have BK111 := n9_
             have HB := n10_
             clear n0_ n1_ n2_ n3_ n4_ n5_ n6_ n7_ n8_ n9_ n10_
             have n0_ := aK (Kd.V_drew HO0_2.out)
             have n1_ := aK (Kd.V_drew HL103_2.out)
             have n2_ := aK (Kd.V_drew HL106_2.out)
             have n3_ := aK (Kd.V_drew HL109_2.out)
             have n4_ := aK (Kd.V_drew HL110_2.out)
             have n5_ := aK (blk_drew BK101.out)
             have n6_ := aK (blk_drew BK102.out)
             have n7_ := aK (blk_drew BK104.out)
             have n8_ := aK (blk_drew BK107.out)
             have n9_ := aK (blk_drew BK111.out)
             have n10_ := aK (below_drew1 HB.out)
             clear HO0_2
             clear HL103_2
             clear HL106_2
             clear HL109_2
             clear HL110_2
             clear BK101
             clear BK102
             clear BK104
             clear BK107
             clear BK111
             clear HB
             have HO0_2 := n0_
             have HL103_2 := n1_
             have HL106_2 := n2_
             have HL109_2 := n3_
             have HL110_2 := n4_
             have BK101 := n5_
             have BK102 := n6_
             have BK104 := n7_
             have BK107 := n8_
             have BK111 := n9_
             have HB := n10_
             clear n0_ n1_ n2_ n3_ n4_ n5_ n6_ n7_ n8_ n9_ n10_
             have p112 : 0 ≤ (1 : Int) := (by omega)
             have q112 : 1 < (((rd_T77 ((rd_T77 l0_2 0).f2) 0).f2).length : Int) := dA
             obtain ⟨ad112, A112_2, c112_2, e112, hx112_0, hx112_1, hx112_2, hl112_2, hi112_2⟩ := at_T77 (Kd.V_reads' HL106_2.out).2.2 1 p112 q112
             obtain rfl : ad109 = ad112 := (by injection e112)
             obtain ⟨ce112, hce112, hMe112, hcc112⟩ := Kd.V_get HL106_2.out z77 1 p112 (by first | exact q112 | exact dA | (have e_ := (Kd.V_reads' HL106_2.out).1; omega))
             obtain ⟨ua112_2, uc112_2, rfl, ul112_2, ge112_2⟩ := k77_openF hMe112
             have hv112_2 := hcc112 2 _ rfl
             rw [add_field _ _ 2 (by omega)] at hv112_2
             replace hv112_2 := Option.some.inj (hv112_2.symm.trans hx112_2)
             injection hv112_2 with hva_ hvn_ hvc_
             rw [hva_] at ge112_2
             rw [hvc_] at ul112_2
             have HL112_2 := aK (show Kd.V k77 77 _ w.heap.size _ _ ((rd_T77 ((rd_T77 ((rd_T77 l0_2 0).f2) 0).f2) 1).f2) from Kd.V_mk ul112_2 ge112_2)
             clear hva_ hvn_ hvc_ ge112_2 ul112_2
             clear hcc112 hce112
             (try simp only [show (1 : Int).toNat = 1 from rfl, Nat.reduceMul, Nat.reduceEqDiff, Go.Addr.add, ↓reduceIte] at hx112_0)
             (try simp only [show (1 : Int).toNat = 1 from rfl, Nat.reduceMul, Nat.reduceEqDiff, Go.Addr.add, ↓reduceIte] at hx112_1)
             (try simp only [show (1 : Int).toNat = 1 from rfl, Nat.reduceMul, Nat.reduceEqDiff, Go.Addr.add, ↓reduceIte] at hx112_2)
             have qi112 : (1 < ((rd_T77 ((rd_T77 l0_2 0).f2) 0).f2).length) = True := eq_true (by omega)
             (try rw [show ((1 : Int)).toNat = 1 from rfl] at hx112_0)
             (try rw [show 1 * 3 = 3 from rfl] at hx112_0)
             (try rw [show ((1 : Int)).toNat = 1 from rfl] at hx112_1)
             (try rw [show 1 * 3 = 3 from rfl] at hx112_1)
             (try rw [show ((1 : Int)).toNat = 1 from rfl] at hx112_2)
             (try rw [show 1 * 3 = 3 from rfl] at hx112_2)
             have HR112_2 := aK hi112_2
             have HC112_2 := aK hl112_2
             clear hi112_2 hl112_2
             replace p112 := eq_true p112
             replace q112 := eq_true q112
             have p118 : 0 ≤ (1 : Int) := (by omega)
             have q118 : 1 < (((rd_T77 l0_2 0).f2).length : Int) := dA
             obtain ⟨ad118, A118_2, c118_2, e118, hx118_0, hx118_1, hx118_2, hl118_2, hi118_2⟩ := at_T77 (Kd.V_reads' HL103_2.out).2.2 1 p118 q118
             obtain rfl : ad106 = ad118 := (by injection e118)
             obtain ⟨ce118, hce118, hMe118, hcc118⟩ := Kd.V_get HL103_2.out z77 1 p118 (by first | exact q118 | exact dA | (have e_ := (Kd.V_reads' HL103_2.out).1; omega))
             obtain ⟨ua118_2, uc118_2, rfl, ul118_2, ge118_2⟩ := k77_openF hMe118
             have hv118_2 := hcc118 2 _ rfl
             rw [add_field _ _ 2 (by omega)] at hv118_2
             replace hv118_2 := Option.some.inj (hv118_2.symm.trans hx118_2)
             injection hv118_2 with hva_ hvn_ hvc_
             rw [hva_] at ge118_2
             rw [hvc_] at ul118_2
             have HL118_2 := aK (show Kd.V k77 77 _ w.heap.size _ _ ((rd_T77 ((rd_T77 l0_2 0).f2) 1).f2) from Kd.V_mk ul118_2 ge118_2)
             clear hva_ hvn_ hvc_ ge118_2 ul118_2
             clear hcc118 hce118
             (try simp only [show (1 : Int).toNat = 1 from rfl, Nat.reduceMul, Nat.reduceEqDiff, Go.Addr.add, ↓reduceIte] at hx118_0)
             (try simp only [show (1 : Int).toNat = 1 from rfl, Nat.reduceMul, Nat.reduceEqDiff, Go.Addr.add, ↓reduceIte] at hx118_1)
             (try simp only [show (1 : Int).toNat = 1 from rfl, Nat.reduceMul, Nat.reduceEqDiff, Go.Addr.add, ↓reduceIte] at hx118_2)
             have qi118 : (1 < ((rd_T77 l0_2 0).f2).length) = True := eq_true (by omega)
             (try rw [show ((1 : Int)).toNat = 1 from rfl] at hx118_0)
             (try rw [show 1 * 3 = 3 from rfl] at hx118_0)
             (try rw [show ((1 : Int)).toNat = 1 from rfl] at hx118_1)
             (try rw [show 1 * 3 = 3 from rfl] at hx118_1)
             (try rw [show ((1 : Int)).toNat = 1 from rfl] at hx118_2)
             (try rw [show 1 * 3 = 3 from rfl] at hx118_2)
             have HR118_2 := aK hi118_2
             have HC118_2 := aK hl118_2
             clear hi118_2 hl118_2
             replace p118 := eq_true p118
             replace q118 := eq_true q118
             refine start_ (n := 15) (S := fun w' => w'.cell? ⟨gb107, 0, none⟩ = some (.int .i64 ((rd_T77 ((rd_T77 l0_2 0).f2) 0).f0)) ∧ w'.cell? ⟨gb107, 1, none⟩ = some (.int .i64 ((rd_T77 ((rd_T77 l0_2 0).f2) 0).f1)) ∧ w'.cell? ⟨gb107, 2, none⟩ = some (.slice (some ad109) ((rd_T77 ((rd_T77 l0_2 0).f2) 0).f2).length c106_2) ∧ w'.cell? ⟨gb111, 0, none⟩ = some (.int .i64 ((rd_T77 l0_2 1).f0)) ∧ w'.cell? ⟨gb111, 1, none⟩ = some (.int .i64 ((rd_T77 l0_2 1).f1)) ∧ w'.cell? ⟨gb111, 2, none⟩ = some (.slice A110_2 ((rd_T77 l0_2 1).f2).length c110_2) ∧ w'.cell? ⟨gb104, 0, none⟩ = some (.int .i64 ((rd_T77 l0_2 0).f0)) ∧ w'.cell? ⟨gb104, 1, none⟩ = some (.int .i64 ((rd_T77 l0_2 0).f1)) ∧ w'.cell? ⟨gb104, 2, none⟩ = some (.slice (some ad106) ((rd_T77 l0_2 0).f2).length c103_2) ∧ w'.cell? ⟨ad109.block, ad109.off + 3, none⟩ = some (.int .i64 ((rd_T77 ((rd_T77 ((rd_T77 l0_2 0).f2) 0).f2) 1).f0)) ∧ w'.cell? ⟨ad109.block, ad109.off + 3 + 1, none⟩ = some (.int .i64 ((rd_T77 ((rd_T77 ((rd_T77 l0_2 0).f2) 0).f2) 1).f1)) ∧ w'.cell? ⟨ad109.block, ad109.off + 3 + 2, none⟩ = some (.slice A112_2 ((rd_T77 ((rd_T77 ((rd_T77 l0_2 0).f2) 0).f2) 1).f2).length c112_2) ∧ w'.cell? ⟨ad106.block, ad106.off + 3, none⟩ = some (.int .i64 ((rd_T77 ((rd_T77 l0_2 0).f2) 1).f0)) ∧ w'.cell? ⟨ad106.block, ad106.off + 3 + 1, none⟩ = some (.int .i64 ((rd_T77 ((rd_T77 l0_2 0).f2) 1).f1)) ∧ w'.cell? ⟨ad106.block, ad106.off + 3 + 2, none⟩ = some (.slice A118_2 ((rd_T77 ((rd_T77 l0_2 0).f2) 1).f2).length c118_2)) (ds := []) (bs 0 15) (by kernel_rfl) rfl rfl ⟨(blk_cell BK107.out 0).trans rfl, (blk_cell BK107.out 1).trans rfl, (blk_cell BK107.out 2).trans rfl, (blk_cell BK111.out 0).trans rfl, (blk_cell BK111.out 1).trans rfl, (blk_cell BK111.out 2).trans rfl, (blk_cell BK104.out 0).trans rfl, (blk_cell BK104.out 1).trans rfl, (blk_cell BK104.out 2).trans rfl, hx112_0, hx112_1, hx112_2, hx118_0, hx118_1, hx118_2⟩ (fun hHeld => ?_); refine with_tabW spec_ldHead.tab13 spec_ldHead.bits13 (fun HT_ HW_ => ?_)
             generalize w74.drew = w75 at HO0_2 HL103_2 HL106_2 HL109_2 HL110_2 BK101 BK102 BK104 BK107 BK111 HB HL112_2 HL118_2 HR112_2 HR118_2 hx112_0 hx112_1 hx112_2 hx118_0 hx118_1 hx118_2 hHeld ⊢
             refine pure_ (i := 0) (N := some 52) (v := ?_) (a' := ?_) (bs 1 14) rfl rfl (any_of HT_.out (by kernel_rfl)) (fun _ _ _ h => h) (Or.inl ⟨by rfl, ?_⟩) ?_ ?_
             rotate_left
             ·intro w'
              go_simp
              with_reducible rfl
             rotate_left
             ·simp only [sP, i64_w, i32_w]
              rfl
             refine pure_ (i := 6) (N := some 58) (v := ?_) (a' := ?_) #[true, false, false, false, false, false, true, false, false, false, false, false, false, false, false] rfl rfl (any_of HT_.out (by kernel_rfl)) (fun _ _ _ h => h) (Or.inl ⟨by rfl, ?_⟩) ?_ ?_
             rotate_left
             ·intro w'
              go_simp
              with_reducible rfl
             rotate_left
             ·simp only [sP, i64_w, i32_w]
              rfl
             refine take_ (i := 1) (N := some 53) (v := ?_) (a' := ?_) #[true, true, false, false, false, false, true, false, false, false, false, false, false, false, false] rfl rfl (take_ofW HT_.out HW_.out (by kernel_rfl)) (fun _ _ _ h => h) (Or.inl ⟨by rfl, ?_⟩) hHeld ?_ ?_
             rotate_left
             ·rintro w' ⟨s0, s1, s2, s3, s4, s5, s6, s7, s8, s9, s10, s11, s12, s13, s14⟩
              go_simp
              with_reducible rfl
             rotate_left
             ·simp only [sP, i64_w, i32_w]
              rfl
             refine pure_ (i := 2) (N := some 54) (v := ?_) (a' := ?_) #[true, true, true, false, false, false, true, false, false, false, false, false, false, false, false] rfl rfl (any_of HT_.out (by kernel_rfl)) (fun _ _ _ h => h) (Or.inl ⟨by rfl, ?_⟩) ?_ ?_
             rotate_left
             ·intro w'
              go_simp
              with_reducible rfl
             rotate_left
             ·simp only [sP, i64_w, i32_w]
              rfl
             refine take_ (i := 3) (N := some 55) (v := ?_) (a' := ?_) #[true, true, true, true, false, false, true, false, false, false, false, false, false, false, false] rfl rfl (take_ofW HT_.out HW_.out (by kernel_rfl)) (fun _ _ _ h => h) (Or.inl ⟨by rfl, ?_⟩) hHeld ?_ ?_
             rotate_left
             ·rintro w' ⟨s0, s1, s2, s3, s4, s5, s6, s7, s8, s9, s10, s11, s12, s13, s14⟩
              go_simp
              with_reducible rfl
             rotate_left
             ·simp only [sP, i64_w, i32_w]
              rfl
             refine take_ (i := 4) (N := some 56) (v := ?_) (a' := ?_) #[true, true, true, true, true, false, true, false, false, false, false, false, false, false, false] rfl rfl (take_ofW HT_.out HW_.out (by kernel_rfl)) (fun _ _ _ h => h) (Or.inl ⟨by rfl, ?_⟩) hHeld ?_ ?_
             rotate_left
             ·rintro w' ⟨s0, s1, s2, s3, s4, s5, s6, s7, s8, s9, s10, s11, s12, s13, s14⟩
              go_simp
              with_reducible rfl
             rotate_left
             ·simp only [sP, i64_w, i32_w]
              rfl
             refine take_ (i := 7) (N := some 59) (v := ?_) (a' := ?_) #[true, true, true, true, true, false, true, true, false, false, false, false, false, false, false] rfl rfl (take_ofW HT_.out HW_.out (by kernel_rfl)) (fun _ _ _ h => h) (Or.inl ⟨by rfl, ?_⟩) hHeld ?_ ?_
             rotate_left
             ·rintro w' ⟨s0, s1, s2, s3, s4, s5, s6, s7, s8, s9, s10, s11, s12, s13, s14⟩
              go_simp
              with_reducible rfl
             rotate_left
             ·simp only [sP, i64_w, i32_w]
              rfl
             refine pure_ (i := 8) (N := some 60) (v := ?_) (a' := ?_) #[true, true, true, true, true, false, true, true, true, false, false, false, false, false, false] rfl rfl (any_of HT_.out (by kernel_rfl)) (fun _ _ _ h => h) (Or.inl ⟨by rfl, ?_⟩) ?_ ?_
             rotate_left
             ·intro w'
              go_simp
              with_reducible rfl
             rotate_left
             ·simp only [sP, i64_w, i32_w]
              rfl
             refine take_ (i := 9) (N := some 61) (v := ?_) (a' := ?_) #[true, true, true, true, true, false, true, true, true, true, false, false, false, false, false] rfl rfl (take_ofW HT_.out HW_.out (by kernel_rfl)) (fun _ _ _ h => h) (Or.inl ⟨by rfl, ?_⟩) hHeld ?_ ?_
             rotate_left
             ·rintro w' ⟨s0, s1, s2, s3, s4, s5, s6, s7, s8, s9, s10, s11, s12, s13, s14⟩
              go_simp
              with_reducible rfl
             rotate_left
             ·simp only [sP, i64_w, i32_w]
              rfl
             refine take_ (i := 10) (N := some 62) (v := ?_) (a' := ?_) #[true, true, true, true, true, false, true, true, true, true, true, false, false, false, false] rfl rfl (take_ofW HT_.out HW_.out (by kernel_rfl)) (fun _ _ _ h => h) (Or.inl ⟨by rfl, ?_⟩) hHeld ?_ ?_
             rotate_left
             ·rintro w' ⟨s0, s1, s2, s3, s4, s5, s6, s7, s8, s9, s10, s11, s12, s13, s14⟩
              go_simp
              with_reducible rfl
             rotate_left
             ·simp only [sP, i64_w, i32_w]
              rfl
             refine one_ (i := 5) (N := some 57) (bs 11 4) rfl rfl (one_of HT_.out (by kernel_rfl)) (by decide) (fun K hK => ?_)
             refine goes_ Try.func71 (by kernel_rfl) rfl #[.agg #[.int .i64 ((rd_T77 ((rd_T77 ((rd_T77 l0_2 0).f2) 0).f2) 1).f0), .int .i64 ((rd_T77 ((rd_T77 ((rd_T77 l0_2 0).f2) 0).f2) 1).f1), .slice A112_2 ((rd_T77 ((rd_T77 ((rd_T77 l0_2 0).f2) 0).f2) 1).f2).length c112_2], .agg #[.int .i64 ((rd_T77 l0_2 1).f0), .int .i64 ((rd_T77 l0_2 1).f1), .slice A110_2 ((rd_T77 l0_2 1).f2).length c110_2]] (by rfl) rfl rfl tA ?_
             with_reducible refine (spec_ldApp.calls ((rd_T77 ((rd_T77 ((rd_T77 l0_2 0).f2) 0).f2) 1).f0) ((rd_T77 ((rd_T77 ((rd_T77 l0_2 0).f2) 0).f2) 1).f1) (fun k_ => ((P0_2_ k_ ∨ w.heap.size ≤ k_) ∧ (k_ ≠ gb101 ∧ (k_ ≠ gb102 ∧ (k_ ≠ gb104 ∧ (k_ ≠ gb107 ∧ k_ ≠ gb111)))))) _ _ ((rd_T77 ((rd_T77 ((rd_T77 l0_2 0).f2) 0).f2) 1).f2) ((rd_T77 l0_2 1).f0) ((rd_T77 l0_2 1).f1) (fun k_ => ((P0_2_ k_ ∨ w.heap.size ≤ k_) ∧ (k_ ≠ gb101 ∧ (k_ ≠ gb102 ∧ (k_ ≠ gb104 ∧ (k_ ≠ gb107 ∧ k_ ≠ gb111)))))) _ _ ((rd_T77 l0_2 1).f2) t113 t114 t115 _ ?side1 ?side2 A46.out).mono ?_
             (case side1 => exact HL112_2.out)
             (case side2 => exact HL110_2.out)
             rintro e w76 ⟨v116, rfl, ho0, hb⟩
             have HS9_ := (hb.cell (World.block_lt_of_cell? _ _ (hHeld.2.2.2.2.2.2.2.2.2.1))).trans (hHeld.2.2.2.2.2.2.2.2.2.1)
             have HS10_ := (hb.cell (World.block_lt_of_cell? _ _ (hHeld.2.2.2.2.2.2.2.2.2.2.1))).trans (hHeld.2.2.2.2.2.2.2.2.2.2.1)
             have HS11_ := (hb.cell (World.block_lt_of_cell? _ _ (hHeld.2.2.2.2.2.2.2.2.2.2.2.1))).trans (hHeld.2.2.2.2.2.2.2.2.2.2.2.1)
             have HS12_ := (hb.cell (World.block_lt_of_cell? _ _ (hHeld.2.2.2.2.2.2.2.2.2.2.2.2.1))).trans (hHeld.2.2.2.2.2.2.2.2.2.2.2.2.1)
             have HS13_ := (hb.cell (World.block_lt_of_cell? _ _ (hHeld.2.2.2.2.2.2.2.2.2.2.2.2.2.1))).trans (hHeld.2.2.2.2.2.2.2.2.2.2.2.2.2.1)
             have HS14_ := (hb.cell (World.block_lt_of_cell? _ _ (hHeld.2.2.2.2.2.2.2.2.2.2.2.2.2.2))).trans (hHeld.2.2.2.2.2.2.2.2.2.2.2.2.2.2)
             refine ⟨_, rfl, ?_⟩
             have n0_ := aK (Kd.V_elder' HO0_2.out (by first | exact Kd.N_base ho0 | exact Kd.R_base ho0) hb)
             have n1_ := aK (Kd.V_elder' HL103_2.out (by first | exact Kd.N_base ho0 | exact Kd.R_base ho0) hb)
             have n2_ := aK (Kd.V_elder' HL106_2.out (by first | exact Kd.N_base ho0 | exact Kd.R_base ho0) hb)
             have n3_ := aK (Kd.V_elder' HL109_2.out (by first | exact Kd.N_base ho0 | exact Kd.R_base ho0) hb)
             have n4_ := aK (Kd.V_elder' HL110_2.out (by first | exact Kd.N_base ho0 | exact Kd.R_base ho0) hb)
             have n5_ := aK (Kd.V_elder' HL112_2.out (by first | exact Kd.N_base ho0 | exact Kd.R_base ho0) hb)
             have n6_ := aK (Kd.V_elder' HL118_2.out (by first | exact Kd.N_base ho0 | exact Kd.R_base ho0) hb)
             have n7_ := aK (Kd.N_lower (Kd.N_mono (ok' := fun k_ => (P0_2_ k_ ∨ w.heap.size ≤ k_) ∧ k_ ≠ gb101 ∧ k_ ≠ gb102 ∧ k_ ≠ gb104 ∧ k_ ≠ gb107 ∧ k_ ≠ gb111) ho0 (fun k_ hk_ => ⟨Or.elim hk_ (fun hs_ => Or.elim hs_ (fun hs_ => hs_.1) (fun hs_ => hs_.1)) (fun hn_ => (.inr (Nat.le_trans (below_size (pH HB)) hn_))), Or.elim hk_ (fun hs_ => Or.elim hs_ (fun hs_ => hs_.2.1) (fun hs_ => hs_.2.1)) (fun hn_ => (Kd.freshB BK101.out k_ hn_)), Or.elim hk_ (fun hs_ => Or.elim hs_ (fun hs_ => hs_.2.2.1) (fun hs_ => hs_.2.2.1)) (fun hn_ => (Kd.freshB BK102.out k_ hn_)), Or.elim hk_ (fun hs_ => Or.elim hs_ (fun hs_ => hs_.2.2.2.1) (fun hs_ => hs_.2.2.2.1)) (fun hn_ => (Kd.freshB BK104.out k_ hn_)), Or.elim hk_ (fun hs_ => Or.elim hs_ (fun hs_ => hs_.2.2.2.2.1) (fun hs_ => hs_.2.2.2.2.1)) (fun hn_ => (Kd.freshB BK107.out k_ hn_)), Or.elim hk_ (fun hs_ => Or.elim hs_ (fun hs_ => hs_.2.2.2.2.2) (fun hs_ => hs_.2.2.2.2.2)) (fun hn_ => (Kd.freshB BK111.out k_ hn_))⟩)) (below_size (pH HB)))
             have n8_ := aK (blk_below BK101.out hb)
             have n9_ := aK (blk_below BK102.out hb)
             have n10_ := aK (blk_below BK104.out hb)
             have n11_ := aK (blk_below BK107.out hb)
             have n12_ := aK (blk_below BK111.out hb)
             have n13_ := aK (Kd.C_below (vC HL112_2.out) hb)
             have n14_ := aK (Kd.C_below (vC HL118_2.out) hb)
             have n15_ := aK (below_step (pH HB) hb)
             clear HO0_2
             clear HL103_2
             clear HL106_2
             clear HL109_2
             clear HL110_2
             clear HL112_2
             clear HL118_2
             clear BK101
             clear BK102
             clear BK104
             clear BK107
             clear BK111
             clear HR112_2
             clear HR118_2
             clear HB
             have HO0_2 := n0_
             have HL103_2 := n1_
             have HL106_2 := n2_
             have HL109_2 := n3_
             have HL110_2 := n4_
             have HL112_2 := n5_
             have HL118_2 := n6_
             have HO117 := n7_
             have BK101 := n8_
             have BK102 := n9_
             have BK104 := n10_
             have BK107 := n11_
             have BK111 := n12_
             have HR112_2 := n13_
             have HR118_2 := n14_
             have HB := n15_
             clear n0_ n1_ n2_ n3_ n4_ n5_ n6_ n7_ n8_ n9_ n10_ n11_ n12_ n13_ n14_ n15_
             (try clear hb)
             (try clear hb2)
             (try clear hk)
             (try clear hi)
             (try clear ho0)
             refine hK.out _ _ ⟨(blk_cell BK107.out 0).trans rfl, (blk_cell BK107.out 1).trans rfl, (blk_cell BK107.out 2).trans rfl, (blk_cell BK111.out 0).trans rfl, (blk_cell BK111.out 1).trans rfl, (blk_cell BK111.out 2).trans rfl, (blk_cell BK104.out 0).trans rfl, (blk_cell BK104.out 1).trans rfl, (blk_cell BK104.out 2).trans rfl, HS9_, HS10_, HS11_, HS12_, HS13_, HS14_⟩ (fun hHeld => ?_)
             clear hK K
             refine norm_ (a' := ?_) ?_ ?_
             rotate_left
             ·show Act.put _ (some 57) _ = _
              simp only [sP, i64_w, i32_w]
              rfl
             refine one_ (i := 11) (N := some 63) (bs 12 3) rfl rfl (one_of HT_.out (by kernel_rfl)) (by decide) (fun K hK => ?_)
             refine goes_ Try.func71 (by kernel_rfl) rfl #[.agg #[.int .i64 ((rd_T77 ((rd_T77 l0_2 0).f2) 1).f0), .int .i64 ((rd_T77 ((rd_T77 l0_2 0).f2) 1).f1), .slice A118_2 ((rd_T77 ((rd_T77 l0_2 0).f2) 1).f2).length c118_2], .agg #[.int .i64 ((rd_T77 l0_2 1).f0), .int .i64 ((rd_T77 l0_2 1).f1), .slice A110_2 ((rd_T77 l0_2 1).f2).length c110_2]] (by rfl) rfl rfl tA ?_
             with_reducible refine (spec_ldApp.calls ((rd_T77 ((rd_T77 l0_2 0).f2) 1).f0) ((rd_T77 ((rd_T77 l0_2 0).f2) 1).f1) (fun k_ => (((P0_2_ k_ ∨ w.heap.size ≤ k_) ∧ (k_ ≠ gb101 ∧ (k_ ≠ gb102 ∧ (k_ ≠ gb104 ∧ (k_ ≠ gb107 ∧ k_ ≠ gb111))))) ∧ some k_ ≠ (v116 : Value).ownBlock)) _ _ ((rd_T77 ((rd_T77 l0_2 0).f2) 1).f2) ((rd_T77 l0_2 1).f0) ((rd_T77 l0_2 1).f1) (fun k_ => (((P0_2_ k_ ∨ w.heap.size ≤ k_) ∧ (k_ ≠ gb101 ∧ (k_ ≠ gb102 ∧ (k_ ≠ gb104 ∧ (k_ ≠ gb107 ∧ k_ ≠ gb111))))) ∧ some k_ ≠ (v116 : Value).ownBlock)) _ _ ((rd_T77 l0_2 1).f2) t119 t120 t121 _ ?side1 ?side2 A48.out).mono ?_
             (case side1 => exact HL118_2.out)
             (case side2 => exact HL110_2.out)
             rintro e w77 ⟨v122, rfl, ho0, hb⟩
             have HS9_ := (hb.cell (World.block_lt_of_cell? _ _ (hHeld.2.2.2.2.2.2.2.2.2.1))).trans (hHeld.2.2.2.2.2.2.2.2.2.1)
             have HS10_ := (hb.cell (World.block_lt_of_cell? _ _ (hHeld.2.2.2.2.2.2.2.2.2.2.1))).trans (hHeld.2.2.2.2.2.2.2.2.2.2.1)
             have HS11_ := (hb.cell (World.block_lt_of_cell? _ _ (hHeld.2.2.2.2.2.2.2.2.2.2.2.1))).trans (hHeld.2.2.2.2.2.2.2.2.2.2.2.1)
             have HS12_ := (hb.cell (World.block_lt_of_cell? _ _ (hHeld.2.2.2.2.2.2.2.2.2.2.2.2.1))).trans (hHeld.2.2.2.2.2.2.2.2.2.2.2.2.1)
             have HS13_ := (hb.cell (World.block_lt_of_cell? _ _ (hHeld.2.2.2.2.2.2.2.2.2.2.2.2.2.1))).trans (hHeld.2.2.2.2.2.2.2.2.2.2.2.2.2.1)
             have HS14_ := (hb.cell (World.block_lt_of_cell? _ _ (hHeld.2.2.2.2.2.2.2.2.2.2.2.2.2.2))).trans (hHeld.2.2.2.2.2.2.2.2.2.2.2.2.2.2)
             refine ⟨_, rfl, ?_⟩
             have n0_ := aK (Kd.V_elder' HO0_2.out (by first | exact Kd.N_base ho0 | exact Kd.R_base ho0) hb)
             have n1_ := aK (Kd.V_elder' HL103_2.out (by first | exact Kd.N_base ho0 | exact Kd.R_base ho0) hb)
             have n2_ := aK (Kd.V_elder' HL106_2.out (by first | exact Kd.N_base ho0 | exact Kd.R_base ho0) hb)
             have n3_ := aK (Kd.V_elder' HL109_2.out (by first | exact Kd.N_base ho0 | exact Kd.R_base ho0) hb)
             have n4_ := aK (Kd.V_elder' HL110_2.out (by first | exact Kd.N_base ho0 | exact Kd.R_base ho0) hb)
             have n5_ := aK (Kd.V_elder' HL112_2.out (by first | exact Kd.N_base ho0 | exact Kd.R_base ho0) hb)
             have n6_ := aK (Kd.V_elder' HL118_2.out (by first | exact Kd.N_base ho0 | exact Kd.R_base ho0) hb)
             have n7_ := aK (Kd.N_elder' HO117.out (by first | exact Kd.N_base ho0 | exact Kd.R_base ho0) hb)
             have n8_ := aK (Kd.N_lower (Kd.N_mono (ok' := fun k_ => (P0_2_ k_ ∨ w.heap.size ≤ k_) ∧ some k_ ≠ (v116 : Value).ownBlock ∧ k_ ≠ gb101 ∧ k_ ≠ gb102 ∧ k_ ≠ gb104 ∧ k_ ≠ gb107 ∧ k_ ≠ gb111) ho0 (fun k_ hk_ => ⟨Or.elim hk_ (fun hs_ => Or.elim hs_ (fun hs_ => hs_.1.1) (fun hs_ => hs_.1.1)) (fun hn_ => (.inr (Nat.le_trans (below_size (pH HB)) hn_))), Or.elim hk_ (fun hs_ => Or.elim hs_ (fun hs_ => hs_.2) (fun hs_ => hs_.2)) (fun hn_ => (Kd.fresh' (Kd.N_lt HO117.out) k_ hn_)), Or.elim hk_ (fun hs_ => Or.elim hs_ (fun hs_ => hs_.1.2.1) (fun hs_ => hs_.1.2.1)) (fun hn_ => (Kd.freshB BK101.out k_ hn_)), Or.elim hk_ (fun hs_ => Or.elim hs_ (fun hs_ => hs_.1.2.2.1) (fun hs_ => hs_.1.2.2.1)) (fun hn_ => (Kd.freshB BK102.out k_ hn_)), Or.elim hk_ (fun hs_ => Or.elim hs_ (fun hs_ => hs_.1.2.2.2.1) (fun hs_ => hs_.1.2.2.2.1)) (fun hn_ => (Kd.freshB BK104.out k_ hn_)), Or.elim hk_ (fun hs_ => Or.elim hs_ (fun hs_ => hs_.1.2.2.2.2.1) (fun hs_ => hs_.1.2.2.2.2.1)) (fun hn_ => (Kd.freshB BK107.out k_ hn_)), Or.elim hk_ (fun hs_ => Or.elim hs_ (fun hs_ => hs_.1.2.2.2.2.2) (fun hs_ => hs_.1.2.2.2.2.2)) (fun hn_ => (Kd.freshB BK111.out k_ hn_))⟩)) (below_size (pH HB)))
             have n9_ := aK (blk_below BK101.out hb)
             have n10_ := aK (blk_below BK102.out hb)
             have n11_ := aK (blk_below BK104.out hb)
             have n12_ := aK (blk_below BK107.out hb)
             have n13_ := aK (blk_below BK111.out hb)
             have n14_ := aK (Kd.C_below (vC HL112_2.out) hb)
             have n15_ := aK (Kd.C_below (vC HL118_2.out) hb)
             have n16_ := aK (below_step (pH HB) hb)
             clear HO0_2
             clear HL103_2
             clear HL106_2
             clear HL109_2
             clear HL110_2
             clear HL112_2
             clear HL118_2
             clear HO117
             clear BK101
             clear BK102
             clear BK104
             clear BK107
             clear BK111
             clear HR112_2
             clear HR118_2
             clear HB
             have HO0_2 := n0_
             have HL103_2 := n1_
             have HL106_2 := n2_
             have HL109_2 := n3_
             have HL110_2 := n4_
             have HL112_2 := n5_
             have HL118_2 := n6_
             have HO117 := n7_
             have HO123 := n8_
             have BK101 := n9_
             have BK102 := n10_
             have BK104 := n11_
             have BK107 := n12_
             have BK111 := n13_
             have HR112_2 := n14_
             have HR118_2 := n15_
             have HB := n16_
             clear n0_ n1_ n2_ n3_ n4_ n5_ n6_ n7_ n8_ n9_ n10_ n11_ n12_ n13_ n14_ n15_ n16_
             (try clear hb)
             (try clear hb2)
             (try clear hk)
             (try clear hi)
             (try clear ho0)
             obtain ⟨Ao78, co78, eo78⟩ := Kd.N_slice HO117.out
             (first | subst eo78 | (injection eo78 with f1_ f2_ f3_; have f4_ := f1_.symm; have f5_ := f3_.symm; clear f1_ f2_ f3_; subst f4_; subst f5_))
             obtain ⟨Ao79, co79, eo79⟩ := Kd.N_slice HO123.out
             (first | subst eo79 | (injection eo79 with f1_ f2_ f3_; have f4_ := f1_.symm; have f5_ := f3_.symm; clear f1_ f2_ f3_; subst f4_; subst f5_))
             refine hK.out _ _ ⟨(blk_cell BK107.out 0).trans rfl, (blk_cell BK107.out 1).trans rfl, (blk_cell BK107.out 2).trans rfl, (blk_cell BK111.out 0).trans rfl, (blk_cell BK111.out 1).trans rfl, (blk_cell BK111.out 2).trans rfl, (blk_cell BK104.out 0).trans rfl, (blk_cell BK104.out 1).trans rfl, (blk_cell BK104.out 2).trans rfl, HS9_, HS10_, HS11_, HS12_, HS13_, HS14_⟩ (fun hHeld => ?_)
             clear hK K
             refine norm_ (a' := ?_) ?_ ?_
             rotate_left
             ·show Act.put _ (some 63) _ = _
              simp only [sP, i64_w, i32_w]
              rfl
             refine one_ (i := 12) (N := some 64) (bs 13 2) rfl rfl (one_of HT_.out (by kernel_rfl)) (by decide) (fun K hK => ?_)
             refine goes_ Try.func71 (by kernel_rfl) rfl #[.agg #[.int .i64 t113, .int .i64 t114, .slice Ao78 t115.length co78], .agg #[.int .i64 t119, .int .i64 t120, .slice Ao79 t121.length co79]] (by rfl) rfl rfl tA ?_
             with_reducible refine (spec_ldApp.calls t113 t114 (fun k_ => (((P0_2_ k_ ∨ w.heap.size ≤ k_) ∧ (k_ ≠ gb101 ∧ (k_ ≠ gb102 ∧ (k_ ≠ gb104 ∧ (k_ ≠ gb107 ∧ k_ ≠ gb111))))) ∧ some k_ ≠ (.slice Ao79 t121.length co79 : Value).ownBlock)) _ _ t115 t119 t120 (fun k_ => ((P0_2_ k_ ∨ w.heap.size ≤ k_) ∧ (some k_ ≠ (.slice Ao78 t115.length co78 : Value).ownBlock ∧ (k_ ≠ gb101 ∧ (k_ ≠ gb102 ∧ (k_ ≠ gb104 ∧ (k_ ≠ gb107 ∧ k_ ≠ gb111))))))) _ _ t121 t124 t125 t126 _ ?side1 ?side2 A49.out).mono ?_
             (case side1 => exact Kd.N_V (HO117.out))
             (case side2 => exact Kd.N_V (HO123.out))
             rintro e w80 ⟨v127, rfl, ho0, hb⟩
             have HS9_ := (hb.cell (World.block_lt_of_cell? _ _ (hHeld.2.2.2.2.2.2.2.2.2.1))).trans (hHeld.2.2.2.2.2.2.2.2.2.1)
             have HS10_ := (hb.cell (World.block_lt_of_cell? _ _ (hHeld.2.2.2.2.2.2.2.2.2.2.1))).trans (hHeld.2.2.2.2.2.2.2.2.2.2.1)
             have HS11_ := (hb.cell (World.block_lt_of_cell? _ _ (hHeld.2.2.2.2.2.2.2.2.2.2.2.1))).trans (hHeld.2.2.2.2.2.2.2.2.2.2.2.1)
             have HS12_ := (hb.cell (World.block_lt_of_cell? _ _ (hHeld.2.2.2.2.2.2.2.2.2.2.2.2.1))).trans (hHeld.2.2.2.2.2.2.2.2.2.2.2.2.1)
             have HS13_ := (hb.cell (World.block_lt_of_cell? _ _ (hHeld.2.2.2.2.2.2.2.2.2.2.2.2.2.1))).trans (hHeld.2.2.2.2.2.2.2.2.2.2.2.2.2.1)
             have HS14_ := (hb.cell (World.block_lt_of_cell? _ _ (hHeld.2.2.2.2.2.2.2.2.2.2.2.2.2.2))).trans (hHeld.2.2.2.2.2.2.2.2.2.2.2.2.2.2)
             refine ⟨_, rfl, ?_⟩
             have n0_ := aK (Kd.V_elder' HO0_2.out (by first | exact Kd.N_base ho0 | exact Kd.R_base ho0) hb)
             have n1_ := aK (Kd.V_elder' HL103_2.out (by first | exact Kd.N_base ho0 | exact Kd.R_base ho0) hb)
             have n2_ := aK (Kd.V_elder' HL106_2.out (by first | exact Kd.N_base ho0 | exact Kd.R_base ho0) hb)
             have n3_ := aK (Kd.V_elder' HL109_2.out (by first | exact Kd.N_base ho0 | exact Kd.R_base ho0) hb)
             have n4_ := aK (Kd.V_elder' HL110_2.out (by first | exact Kd.N_base ho0 | exact Kd.R_base ho0) hb)
             have n5_ := aK (Kd.V_elder' HL112_2.out (by first | exact Kd.N_base ho0 | exact Kd.R_base ho0) hb)
             have n6_ := aK (Kd.V_elder' HL118_2.out (by first | exact Kd.N_base ho0 | exact Kd.R_base ho0) hb)
             have n7_ := aK (Kd.N_elder' HO117.out (by first | exact Kd.N_base ho0 | exact Kd.R_base ho0) hb)
             have n8_ := aK (Kd.N_elder' HO123.out (by first | exact Kd.N_base ho0 | exact Kd.R_base ho0) hb)
             have n9_ := aK (Kd.N_lower (Kd.N_mono (ok' := fun k_ => (P0_2_ k_ ∨ w.heap.size ≤ k_) ∧ k_ ≠ gb101 ∧ k_ ≠ gb102 ∧ k_ ≠ gb104 ∧ k_ ≠ gb107 ∧ k_ ≠ gb111) ho0 (fun k_ hk_ => ⟨Or.elim hk_ (fun hs_ => Or.elim hs_ (fun hs_ => hs_.1.1) (fun hs_ => hs_.1)) (fun hn_ => (.inr (Nat.le_trans (below_size (pH HB)) hn_))), Or.elim hk_ (fun hs_ => Or.elim hs_ (fun hs_ => hs_.1.2.1) (fun hs_ => hs_.2.2.1)) (fun hn_ => (Kd.freshB BK101.out k_ hn_)), Or.elim hk_ (fun hs_ => Or.elim hs_ (fun hs_ => hs_.1.2.2.1) (fun hs_ => hs_.2.2.2.1)) (fun hn_ => (Kd.freshB BK102.out k_ hn_)), Or.elim hk_ (fun hs_ => Or.elim hs_ (fun hs_ => hs_.1.2.2.2.1) (fun hs_ => hs_.2.2.2.2.1)) (fun hn_ => (Kd.freshB BK104.out k_ hn_)), Or.elim hk_ (fun hs_ => Or.elim hs_ (fun hs_ => hs_.1.2.2.2.2.1) (fun hs_ => hs_.2.2.2.2.2.1)) (fun hn_ => (Kd.freshB BK107.out k_ hn_)), Or.elim hk_ (fun hs_ => Or.elim hs_ (fun hs_ => hs_.1.2.2.2.2.2) (fun hs_ => hs_.2.2.2.2.2.2)) (fun hn_ => (Kd.freshB BK111.out k_ hn_))⟩)) (below_size (pH HB)))
             have n10_ := aK (blk_below BK101.out hb)
             have n11_ := aK (blk_below BK102.out hb)
             have n12_ := aK (blk_below BK104.out hb)
             have n13_ := aK (blk_below BK107.out hb)
             have n14_ := aK (blk_below BK111.out hb)
             have n15_ := aK (Kd.C_below (vC HL112_2.out) hb)
             have n16_ := aK (Kd.C_below (vC HL118_2.out) hb)
             have n17_ := aK (below_step (pH HB) hb)
             clear HO0_2
             clear HL103_2
             clear HL106_2
             clear HL109_2
             clear HL110_2
             clear HL112_2
             clear HL118_2
             clear HO117
             clear HO123
             clear BK101
             clear BK102
             clear BK104
             clear BK107
             clear BK111
             clear HR112_2
             clear HR118_2
             clear HB
             have HO0_2 := n0_
             have HL103_2 := n1_
             have HL106_2 := n2_
             have HL109_2 := n3_
             have HL110_2 := n4_
             have HL112_2 := n5_
             have HL118_2 := n6_
             have HO117 := n7_
             have HO123 := n8_
             have HO128 := n9_
             have BK101 := n10_
             have BK102 := n11_
             have BK104 := n12_
             have BK107 := n13_
             have BK111 := n14_
             have HR112_2 := n15_
             have HR118_2 := n16_
             have HB := n17_
             clear n0_ n1_ n2_ n3_ n4_ n5_ n6_ n7_ n8_ n9_ n10_ n11_ n12_ n13_ n14_ n15_ n16_ n17_
             (try clear hb)
             (try clear hb2)
             (try clear hk)
             (try clear hi)
             (try clear ho0)
             obtain ⟨Ao83, co83, eo83⟩ := Kd.N_slice HO128.out
             (first | subst eo83 | (injection eo83 with f1_ f2_ f3_; have f4_ := f1_.symm; have f5_ := f3_.symm; clear f1_ f2_ f3_; subst f4_; subst f5_))
             refine hK.out _ _ ⟨(blk_cell BK107.out 0).trans rfl, (blk_cell BK107.out 1).trans rfl, (blk_cell BK107.out 2).trans rfl, (blk_cell BK111.out 0).trans rfl, (blk_cell BK111.out 1).trans rfl, (blk_cell BK111.out 2).trans rfl, (blk_cell BK104.out 0).trans rfl, (blk_cell BK104.out 1).trans rfl, (blk_cell BK104.out 2).trans rfl, HS9_, HS10_, HS11_, HS12_, HS13_, HS14_⟩ (fun hHeld => ?_)
             clear hK K
             refine norm_ (a' := ?_) ?_ ?_
             rotate_left
             ·show Act.put _ (some 64) _ = _
              simp only [sP, i64_w, i32_w]
              rfl
             refine one_ (i := 13) (N := none) (bs 14 1) rfl rfl (one_of HT_.out (by kernel_rfl)) (by decide) (fun K hK => ?_)
             have hs81 : w80.cell? ⟨gb102, 0, none⟩ = some (.int .i64 0) := (blk_cell BK102.out 0).trans rfl
             have hfs81 := blk_frozen BK102.out 0
             have hns81_0 := NB101_102.out
             have hns81_2 := NB104_102.out
             have hns81_3 := NB107_102.out
             have hns81_4 := NB111_102.out
             have hms81_0 := NB102_101.out
             have hms81_2 := NB102_104.out
             have hms81_3 := NB102_107.out
             have hms81_4 := NB102_111.out
             have hs82 : w80.cell? ⟨gb102, 1, none⟩ = some (.int .i64 0) := (blk_cell BK102.out 1).trans rfl
             have hfs82 := blk_frozen BK102.out 1
             have hns82_0 := NB101_102.out
             have hns82_2 := NB104_102.out
             have hns82_3 := NB107_102.out
             have hns82_4 := NB111_102.out
             have hms82_0 := NB102_101.out
             have hms82_2 := NB102_104.out
             have hms82_3 := NB102_107.out
             have hms82_4 := NB102_111.out
             have hs84 : w80.cell? ⟨gb102, 2, none⟩ = some (.slice none 0 0) := (blk_cell BK102.out 2).trans rfl
             have hfs84 := blk_frozen BK102.out 2
             have hns84_0 := NB101_102.out
             have hns84_2 := NB104_102.out
             have hns84_3 := NB107_102.out
             have hns84_4 := NB111_102.out
             have hms84_0 := NB102_101.out
             have hms84_2 := NB102_104.out
             have hms84_3 := NB102_107.out
             have hms84_4 := NB102_111.out
             refine skip_ (w1 := ?_) (by rfl) rfl ?_ ?_
             rotate_left
             ·go_simp
              rfl
             refine hK.out _ _ ⟨((cell_far (p := ⟨gb102, _, none⟩) NB107_102.out _).trans (((cell_far (p := ⟨gb102, _, none⟩) NB107_102.out _).trans (((cell_far (p := ⟨gb102, _, none⟩) NB107_102.out _).trans (hHeld.1)))))), ((cell_far (p := ⟨gb102, _, none⟩) NB107_102.out _).trans (((cell_far (p := ⟨gb102, _, none⟩) NB107_102.out _).trans (((cell_far (p := ⟨gb102, _, none⟩) NB107_102.out _).trans (hHeld.2.1)))))), ((cell_far (p := ⟨gb102, _, none⟩) NB107_102.out _).trans (((cell_far (p := ⟨gb102, _, none⟩) NB107_102.out _).trans (((cell_far (p := ⟨gb102, _, none⟩) NB107_102.out _).trans (hHeld.2.2.1)))))), ((cell_far (p := ⟨gb102, _, none⟩) NB111_102.out _).trans (((cell_far (p := ⟨gb102, _, none⟩) NB111_102.out _).trans (((cell_far (p := ⟨gb102, _, none⟩) NB111_102.out _).trans (hHeld.2.2.2.1)))))), ((cell_far (p := ⟨gb102, _, none⟩) NB111_102.out _).trans (((cell_far (p := ⟨gb102, _, none⟩) NB111_102.out _).trans (((cell_far (p := ⟨gb102, _, none⟩) NB111_102.out _).trans (hHeld.2.2.2.2.1)))))), ((cell_far (p := ⟨gb102, _, none⟩) NB111_102.out _).trans (((cell_far (p := ⟨gb102, _, none⟩) NB111_102.out _).trans (((cell_far (p := ⟨gb102, _, none⟩) NB111_102.out _).trans (hHeld.2.2.2.2.2.1)))))), ((cell_far (p := ⟨gb102, _, none⟩) NB104_102.out _).trans (((cell_far (p := ⟨gb102, _, none⟩) NB104_102.out _).trans (((cell_far (p := ⟨gb102, _, none⟩) NB104_102.out _).trans (hHeld.2.2.2.2.2.2.1)))))), ((cell_far (p := ⟨gb102, _, none⟩) NB104_102.out _).trans (((cell_far (p := ⟨gb102, _, none⟩) NB104_102.out _).trans (((cell_far (p := ⟨gb102, _, none⟩) NB104_102.out _).trans (hHeld.2.2.2.2.2.2.2.1)))))), ((cell_far (p := ⟨gb102, _, none⟩) NB104_102.out _).trans (((cell_far (p := ⟨gb102, _, none⟩) NB104_102.out _).trans (((cell_far (p := ⟨gb102, _, none⟩) NB104_102.out _).trans (hHeld.2.2.2.2.2.2.2.2.1)))))), ((cell_far (p := ⟨gb102, _, none⟩) (by first | exact Kd.own_blk (Kd.V_away HL106_2.out (fun _ hk => hk.1.1.1.2.2.1)) | (rw [add_block]; exact Kd.own_blk (Kd.V_away HL106_2.out (fun _ hk => hk.1.1.1.2.2.1))) | (show (Addr.add _ _).block ≠ _; rw [add_block]; exact Kd.own_blk (Kd.V_away HL106_2.out (fun _ hk => hk.1.1.1.2.2.1))) | (dsimp only; exact Kd.own_blk (Kd.V_away HL106_2.out (fun _ hk => hk.1.1.1.2.2.1)))) _).trans (((cell_far (p := ⟨gb102, _, none⟩) (by first | exact Kd.own_blk (Kd.V_away HL106_2.out (fun _ hk => hk.1.1.1.2.2.1)) | (rw [add_block]; exact Kd.own_blk (Kd.V_away HL106_2.out (fun _ hk => hk.1.1.1.2.2.1))) | (show (Addr.add _ _).block ≠ _; rw [add_block]; exact Kd.own_blk (Kd.V_away HL106_2.out (fun _ hk => hk.1.1.1.2.2.1))) | (dsimp only; exact Kd.own_blk (Kd.V_away HL106_2.out (fun _ hk => hk.1.1.1.2.2.1)))) _).trans (((cell_far (p := ⟨gb102, _, none⟩) (by first | exact Kd.own_blk (Kd.V_away HL106_2.out (fun _ hk => hk.1.1.1.2.2.1)) | (rw [add_block]; exact Kd.own_blk (Kd.V_away HL106_2.out (fun _ hk => hk.1.1.1.2.2.1))) | (show (Addr.add _ _).block ≠ _; rw [add_block]; exact Kd.own_blk (Kd.V_away HL106_2.out (fun _ hk => hk.1.1.1.2.2.1))) | (dsimp only; exact Kd.own_blk (Kd.V_away HL106_2.out (fun _ hk => hk.1.1.1.2.2.1)))) _).trans (hHeld.2.2.2.2.2.2.2.2.2.1)))))), ((cell_far (p := ⟨gb102, _, none⟩) (by first | exact Kd.own_blk (Kd.V_away HL106_2.out (fun _ hk => hk.1.1.1.2.2.1)) | (rw [add_block]; exact Kd.own_blk (Kd.V_away HL106_2.out (fun _ hk => hk.1.1.1.2.2.1))) | (show (Addr.add _ _).block ≠ _; rw [add_block]; exact Kd.own_blk (Kd.V_away HL106_2.out (fun _ hk => hk.1.1.1.2.2.1))) | (dsimp only; exact Kd.own_blk (Kd.V_away HL106_2.out (fun _ hk => hk.1.1.1.2.2.1)))) _).trans (((cell_far (p := ⟨gb102, _, none⟩) (by first | exact Kd.own_blk (Kd.V_away HL106_2.out (fun _ hk => hk.1.1.1.2.2.1)) | (rw [add_block]; exact Kd.own_blk (Kd.V_away HL106_2.out (fun _ hk => hk.1.1.1.2.2.1))) | (show (Addr.add _ _).block ≠ _; rw [add_block]; exact Kd.own_blk (Kd.V_away HL106_2.out (fun _ hk => hk.1.1.1.2.2.1))) | (dsimp only; exact Kd.own_blk (Kd.V_away HL106_2.out (fun _ hk => hk.1.1.1.2.2.1)))) _).trans (((cell_far (p := ⟨gb102, _, none⟩) (by first | exact Kd.own_blk (Kd.V_away HL106_2.out (fun _ hk => hk.1.1.1.2.2.1)) | (rw [add_block]; exact Kd.own_blk (Kd.V_away HL106_2.out (fun _ hk => hk.1.1.1.2.2.1))) | (show (Addr.add _ _).block ≠ _; rw [add_block]; exact Kd.own_blk (Kd.V_away HL106_2.out (fun _ hk => hk.1.1.1.2.2.1))) | (dsimp only; exact Kd.own_blk (Kd.V_away HL106_2.out (fun _ hk => hk.1.1.1.2.2.1)))) _).trans (hHeld.2.2.2.2.2.2.2.2.2.2.1)))))), ((cell_far (p := ⟨gb102, _, none⟩) (by first | exact Kd.own_blk (Kd.V_away HL106_2.out (fun _ hk => hk.1.1.1.2.2.1)) | (rw [add_block]; exact Kd.own_blk (Kd.V_away HL106_2.out (fun _ hk => hk.1.1.1.2.2.1))) | (show (Addr.add _ _).block ≠ _; rw [add_block]; exact Kd.own_blk (Kd.V_away HL106_2.out (fun _ hk => hk.1.1.1.2.2.1))) | (dsimp only; exact Kd.own_blk (Kd.V_away HL106_2.out (fun _ hk => hk.1.1.1.2.2.1)))) _).trans (((cell_far (p := ⟨gb102, _, none⟩) (by first | exact Kd.own_blk (Kd.V_away HL106_2.out (fun _ hk => hk.1.1.1.2.2.1)) | (rw [add_block]; exact Kd.own_blk (Kd.V_away HL106_2.out (fun _ hk => hk.1.1.1.2.2.1))) | (show (Addr.add _ _).block ≠ _; rw [add_block]; exact Kd.own_blk (Kd.V_away HL106_2.out (fun _ hk => hk.1.1.1.2.2.1))) | (dsimp only; exact Kd.own_blk (Kd.V_away HL106_2.out (fun _ hk => hk.1.1.1.2.2.1)))) _).trans (((cell_far (p := ⟨gb102, _, none⟩) (by first | exact Kd.own_blk (Kd.V_away HL106_2.out (fun _ hk => hk.1.1.1.2.2.1)) | (rw [add_block]; exact Kd.own_blk (Kd.V_away HL106_2.out (fun _ hk => hk.1.1.1.2.2.1))) | (show (Addr.add _ _).block ≠ _; rw [add_block]; exact Kd.own_blk (Kd.V_away HL106_2.out (fun _ hk => hk.1.1.1.2.2.1))) | (dsimp only; exact Kd.own_blk (Kd.V_away HL106_2.out (fun _ hk => hk.1.1.1.2.2.1)))) _).trans (hHeld.2.2.2.2.2.2.2.2.2.2.2.1)))))), ((cell_far (p := ⟨gb102, _, none⟩) (by first | exact Kd.own_blk (Kd.V_away HL103_2.out (fun _ hk => hk.1.1.1.2.2.1)) | (rw [add_block]; exact Kd.own_blk (Kd.V_away HL103_2.out (fun _ hk => hk.1.1.1.2.2.1))) | (show (Addr.add _ _).block ≠ _; rw [add_block]; exact Kd.own_blk (Kd.V_away HL103_2.out (fun _ hk => hk.1.1.1.2.2.1))) | (dsimp only; exact Kd.own_blk (Kd.V_away HL103_2.out (fun _ hk => hk.1.1.1.2.2.1)))) _).trans (((cell_far (p := ⟨gb102, _, none⟩) (by first | exact Kd.own_blk (Kd.V_away HL103_2.out (fun _ hk => hk.1.1.1.2.2.1)) | (rw [add_block]; exact Kd.own_blk (Kd.V_away HL103_2.out (fun _ hk => hk.1.1.1.2.2.1))) | (show (Addr.add _ _).block ≠ _; rw [add_block]; exact Kd.own_blk (Kd.V_away HL103_2.out (fun _ hk => hk.1.1.1.2.2.1))) | (dsimp only; exact Kd.own_blk (Kd.V_away HL103_2.out (fun _ hk => hk.1.1.1.2.2.1)))) _).trans (((cell_far (p := ⟨gb102, _, none⟩) (by first | exact Kd.own_blk (Kd.V_away HL103_2.out (fun _ hk => hk.1.1.1.2.2.1)) | (rw [add_block]; exact Kd.own_blk (Kd.V_away HL103_2.out (fun _ hk => hk.1.1.1.2.2.1))) | (show (Addr.add _ _).block ≠ _; rw [add_block]; exact Kd.own_blk (Kd.V_away HL103_2.out (fun _ hk => hk.1.1.1.2.2.1))) | (dsimp only; exact Kd.own_blk (Kd.V_away HL103_2.out (fun _ hk => hk.1.1.1.2.2.1)))) _).trans (hHeld.2.2.2.2.2.2.2.2.2.2.2.2.1)))))), ((cell_far (p := ⟨gb102, _, none⟩) (by first | exact Kd.own_blk (Kd.V_away HL103_2.out (fun _ hk => hk.1.1.1.2.2.1)) | (rw [add_block]; exact Kd.own_blk (Kd.V_away HL103_2.out (fun _ hk => hk.1.1.1.2.2.1))) | (show (Addr.add _ _).block ≠ _; rw [add_block]; exact Kd.own_blk (Kd.V_away HL103_2.out (fun _ hk => hk.1.1.1.2.2.1))) | (dsimp only; exact Kd.own_blk (Kd.V_away HL103_2.out (fun _ hk => hk.1.1.1.2.2.1)))) _).trans (((cell_far (p := ⟨gb102, _, none⟩) (by first | exact Kd.own_blk (Kd.V_away HL103_2.out (fun _ hk => hk.1.1.1.2.2.1)) | (rw [add_block]; exact Kd.own_blk (Kd.V_away HL103_2.out (fun _ hk => hk.1.1.1.2.2.1))) | (show (Addr.add _ _).block ≠ _; rw [add_block]; exact Kd.own_blk (Kd.V_away HL103_2.out (fun _ hk => hk.1.1.1.2.2.1))) | (dsimp only; exact Kd.own_blk (Kd.V_away HL103_2.out (fun _ hk => hk.1.1.1.2.2.1)))) _).trans (((cell_far (p := ⟨gb102, _, none⟩) (by first | exact Kd.own_blk (Kd.V_away HL103_2.out (fun _ hk => hk.1.1.1.2.2.1)) | (rw [add_block]; exact Kd.own_blk (Kd.V_away HL103_2.out (fun _ hk => hk.1.1.1.2.2.1))) | (show (Addr.add _ _).block ≠ _; rw [add_block]; exact Kd.own_blk (Kd.V_away HL103_2.out (fun _ hk => hk.1.1.1.2.2.1))) | (dsimp only; exact Kd.own_blk (Kd.V_away HL103_2.out (fun _ hk => hk.1.1.1.2.2.1)))) _).trans (hHeld.2.2.2.2.2.2.2.2.2.2.2.2.2.1)))))), ((cell_far (p := ⟨gb102, _, none⟩) (by first | exact Kd.own_blk (Kd.V_away HL103_2.out (fun _ hk => hk.1.1.1.2.2.1)) | (rw [add_block]; exact Kd.own_blk (Kd.V_away HL103_2.out (fun _ hk => hk.1.1.1.2.2.1))) | (show (Addr.add _ _).block ≠ _; rw [add_block]; exact Kd.own_blk (Kd.V_away HL103_2.out (fun _ hk => hk.1.1.1.2.2.1))) | (dsimp only; exact Kd.own_blk (Kd.V_away HL103_2.out (fun _ hk => hk.1.1.1.2.2.1)))) _).trans (((cell_far (p := ⟨gb102, _, none⟩) (by first | exact Kd.own_blk (Kd.V_away HL103_2.out (fun _ hk => hk.1.1.1.2.2.1)) | (rw [add_block]; exact Kd.own_blk (Kd.V_away HL103_2.out (fun _ hk => hk.1.1.1.2.2.1))) | (show (Addr.add _ _).block ≠ _; rw [add_block]; exact Kd.own_blk (Kd.V_away HL103_2.out (fun _ hk => hk.1.1.1.2.2.1))) | (dsimp only; exact Kd.own_blk (Kd.V_away HL103_2.out (fun _ hk => hk.1.1.1.2.2.1)))) _).trans (((cell_far (p := ⟨gb102, _, none⟩) (by first | exact Kd.own_blk (Kd.V_away HL103_2.out (fun _ hk => hk.1.1.1.2.2.1)) | (rw [add_block]; exact Kd.own_blk (Kd.V_away HL103_2.out (fun _ hk => hk.1.1.1.2.2.1))) | (show (Addr.add _ _).block ≠ _; rw [add_block]; exact Kd.own_blk (Kd.V_away HL103_2.out (fun _ hk => hk.1.1.1.2.2.1))) | (dsimp only; exact Kd.own_blk (Kd.V_away HL103_2.out (fun _ hk => hk.1.1.1.2.2.1)))) _).trans (hHeld.2.2.2.2.2.2.2.2.2.2.2.2.2.2))))))⟩ (fun hHeld => ?_)
             clear hK K
             refine pure_ (i := 14) (N := some 3) (v := ?_) (a' := ?_) (bs 15 0) rfl rfl (any_of HT_.out (by kernel_rfl)) (fun _ _ _ h => h) (Or.inl ⟨by rfl, ?_⟩) ?_ ?_
             rotate_left
             ·intro w'
              go_simp
              with_reducible rfl
             rotate_left
             ·simp only [sP, i64_w, i32_w]
              rfl
             refine done_ (done_of HT_.out (by kernel_rfl)) ?_
             try go_wp2
             refine bodyPost_ret (results_ct rfl _ _ gb102 77 #[.int .i64 t124, .int .i64 t125, .slice Ao83 t126.length co83] (0, 0) _ rfl (p3 BK102) Try.underlying77 rfl (by kernel_rfl)) rfl ?_
             exact ⟨_, eW, Kd.N_V (by (with_reducible repeat (first | apply Kd.N_alloc | apply Kd.N_drewN | apply Kd.N_drew)); exact Kd.N_mono (nF3 gb102 (Kd.N_mono HO128.out (fun k_ hk => (⟨hk, hk.2.2.1⟩ : _ ∧ k_ ≠ gb102))) (fun _ hk => hk.2)) (fun _ hk => hk.1.1)), pH HB⟩
            ·rw [if_neg c47] at H
             exact absurd H (by simp)
           ·rw [if_neg c45] at H
            exact absurd H (by simp)
          ·rw [if_neg c44] at H
           exact absurd H (by simp)
         ·rw [if_neg c43] at H
          have c43b0 : (((rd_T77 ((rd_T77 ((rd_T77 l0_2 0).f2) 0).f2) 0).f0) == 3) = false := beq_eq_false_iff_ne.mpr c43
          have c43b1 : (((rd_T77 ((rd_T77 ((rd_T77 l0_2 0).f2) 0).f2) 0).f0) != 3) = true := bne_iff_ne.mpr c43
          simp only [Option.some.injEq, Prod.mk.injEq] at H
          obtain ⟨rfl, rfl, rfl, rfl⟩ := H
          go_enter Try.func78, Try.ntmps78
          go_wp2_with (first | ((with_reducible refine gate_dst (N := 1) rfl ?_); refine bE (N := 1) (cs := #[.int .i64 a0_0, .int .i64 a0_1, .slice A0_2 l0_2.length c0_2]) (t := 77) ?_; intro gb101 hg w85 hbox hb; have GW101 := qw HB hg; have GE101 := qw HB hg; replace HO0_2 := qv HO0_2 hg hb; have BK101 := aK hbox; replace HB := qs HB hb; clear hb hbox hg) | ((with_reducible refine gate_dst (N := 2) rfl ?_); refine bE (N := 2) (cs := #[.int .i64 0, .int .i64 0, .slice none 0 0]) (t := 77) ?_; intro gb102 hg w86 hbox hb; have GW102 := qw HB hg; have GE102 := qw HB hg; have NB101_102 := ql BK101 hg; have NB102_101 := qg BK101 hg; replace HO0_2 := qv HO0_2 hg hb; replace BK101 := qb BK101 hb; have BK102 := aK hbox; replace HB := qs HB hb; clear hb hbox hg; have hnb87 := NB101_102.out; have hnc87 := NB102_101.out; have hcz88_0 := k30 BK101; have hcz88_1 := k31 BK101; have hcz88_2 := k32 BK101; have hfz88_0 := fz BK101 0; have hfz88_1 := fz BK101 1; have hfz88_2 := fz BK101 2; have p103 : 0 ≤ (0 : Int) := (by omega); have q103 : 0 < (l0_2.length : Int) := dA; obtain ⟨ad103, A103_2, c103_2, e103, hx103_0, hx103_1, hx103_2, hl103_2, hi103_2⟩ := at_T77 (Kd.V_reads' HO0_2.out).2.2 0 p103 q103; cases e103; obtain ⟨ce103, hce103, hMe103, hcc103⟩ := Kd.V_get HO0_2.out z77 0 p103 (by first | exact q103 | exact dA | (have e_ := (Kd.V_reads' HO0_2.out).1; omega)); obtain ⟨ua103_2, uc103_2, rfl, ul103_2, ge103_2⟩ := k77_openF hMe103; have hv103_2 := hcc103 2 _ rfl; rw [add_field _ _ 2 (by omega)] at hv103_2; replace hv103_2 := Option.some.inj (hv103_2.symm.trans hx103_2); injection hv103_2 with hva_ hvn_ hvc_; rw [hva_] at ge103_2; rw [hvc_] at ul103_2; have HL103_2 := aK (show Kd.V k77 77 _ w.heap.size _ _ ((rd_T77 l0_2 0).f2) from Kd.V_mk ul103_2 ge103_2); clear hva_ hvn_ hvc_ ge103_2 ul103_2; clear hcc103 hce103; have qi103 : (0 < l0_2.length) = True := eq_true (by omega); (try rw [show ((0 : Int)).toNat = 0 from rfl] at hx103_0); (try rw [show 0 * 3 = 0 from rfl] at hx103_0); (try rw [Addr.add_zero'] at hx103_0); (try rw [show ((0 : Int)).toNat = 0 from rfl] at hx103_1); (try rw [show 0 * 3 = 0 from rfl] at hx103_1); (try rw [Addr.add_zero'] at hx103_1); (try rw [show ((0 : Int)).toNat = 0 from rfl] at hx103_2); (try rw [show 0 * 3 = 0 from rfl] at hx103_2); (try rw [Addr.add_zero'] at hx103_2); have HR103_2 := aK hi103_2; have HC103_2 := aK hl103_2; clear hi103_2 hl103_2; replace p103 := eq_true p103; replace q103 := eq_true q103) | ((with_reducible refine gate_dst (N := 4) rfl ?_); refine bE (N := 4) (cs := #[.int .i64 0, .int .i64 0, .slice none 0 0]) (t := 77) ?_; intro gb104 hg w89 hbox hb; have GW104 := qw HB hg; have GE104 := qw HB hg; have NB101_104 := ql BK101 hg; have NB104_101 := qg BK101 hg; have NB102_104 := ql BK102 hg; have NB104_102 := qg BK102 hg; replace HR103_2 := qr HL103_2 hb; replace HO0_2 := qv HO0_2 hg hb; replace HL103_2 := qv HL103_2 hg hb; replace BK101 := qb BK101 hb; replace BK102 := qb BK102 hb; have BK104 := aK hbox; replace HB := qs HB hb; clear hb hbox hg; have hnb90 := NB104_101.out; have hnc90 := NB101_104.out; have hnb91 := NB104_102.out; have hnc91 := NB102_104.out; have hcz92_0 := k30 BK104; have hcz92_1 := k31 BK104; have hcz92_2 := k32 BK104; have hfz92_0 := fz BK104 0; have hfz92_1 := fz BK104 1; have hfz92_2 := fz BK104 2) | ((with_reducible refine gate_store (t := 77) (p := 4) rfl ?_); refine store_event (t := 77) (p := 4) (v := ?vo_w93) (w1 := (((w89.setCell ⟨gb104, 0, none⟩ (.int .i64 ((rd_T77 l0_2 0).f0))).setCell ⟨gb104, 1, none⟩ (.int .i64 ((rd_T77 l0_2 0).f1))).setCell ⟨gb104, 2, none⟩ (.slice A103_2 ((rd_T77 l0_2 0).f2).length c103_2))) ?hg ?ho ?hn ?hr ?_; (case ho => rfl); (case hg => rfl); (case hn => rfl); (case hr => first | (go_simp; done) | (go_simp; rfl)); intro w93 hw; have n0_ : Aside0 (Kd.V k77 77 w93 w.heap.size (fun k_ => (P0_2_ k_ ∨ w.heap.size ≤ k_) ∧ k_ ≠ gb101 ∧ k_ ≠ gb102 ∧ k_ ≠ gb104) (.slice (some ad103) l0_2.length c0_2) l0_2) := ⟨(by rw [hw]; exact (by (with_reducible repeat (first | apply Kd.V_alloc | apply Kd.V_drewN | apply Kd.V_drew)); exact Kd.V_mono (vF3 gb104 (Kd.V_mono HO0_2.out (fun k_ hk => (⟨hk, hk.2⟩ : _ ∧ k_ ≠ gb104))) (fun _ hk => hk.2)) (fun _ hk => ⟨hk.1.1.1.1, ⟨hk.1.1.1.2, ⟨hk.1.1.2, hk.1.2⟩⟩⟩)))⟩; have n1_ : Aside0 (Kd.V k77 77 w93 w.heap.size (fun k_ => (P0_2_ k_ ∨ w.heap.size ≤ k_) ∧ k_ ≠ gb101 ∧ k_ ≠ gb102 ∧ k_ ≠ gb104) (.slice A103_2 ((rd_T77 l0_2 0).f2).length c103_2) ((rd_T77 l0_2 0).f2)) := ⟨(by rw [hw]; exact (by (with_reducible repeat (first | apply Kd.V_alloc | apply Kd.V_drewN | apply Kd.V_drew)); exact Kd.V_mono (vF3 gb104 (Kd.V_mono HL103_2.out (fun k_ hk => (⟨hk, hk.2⟩ : _ ∧ k_ ≠ gb104))) (fun _ hk => hk.2)) (fun _ hk => ⟨hk.1.1.1.1, ⟨hk.1.1.1.2, ⟨hk.1.1.2, hk.1.2⟩⟩⟩)))⟩; have n2_ : Aside0 (w93.heap[gb101]? = some (.cells #[.int .i64 a0_0, .int .i64 a0_1, .slice (some ad103) l0_2.length c0_2] 77 (0, 0))) := ⟨(by rw [hw]; exact (by (repeat first | with_reducible apply zN | with_reducible apply zD | with_reducible apply zA | refine blk_far ?_ NB101_104.out _); exact BK101.out))⟩; have n3_ : Aside0 (w93.heap[gb102]? = some (.cells #[.int .i64 0, .int .i64 0, .slice none 0 0] 77 (0, 0))) := ⟨(by rw [hw]; exact (by (repeat first | with_reducible apply zN | with_reducible apply zD | with_reducible apply zA | refine blk_far ?_ NB102_104.out _); exact BK102.out))⟩; have n4_ : Aside0 (w93.heap[gb104]? = some (.cells #[.int .i64 ((rd_T77 l0_2 0).f0), .int .i64 ((rd_T77 l0_2 0).f1), .slice A103_2 ((rd_T77 l0_2 0).f2).length c103_2] 77 (0, 0))) := ⟨(by rw [hw]; exact (p3 BK104))⟩; have n5_ : Aside0 (Below w.heap.size w w93) := ⟨(by rw [hw]; exact (pH HB))⟩; clear hw; clear HO0_2; clear HL103_2; clear BK101; clear BK102; clear BK104; clear HB; have HO0_2 := n0_; have HL103_2 := n1_; have BK101 := n2_; have BK102 := n3_; have BK104 := n4_; have HB := n5_; clear n0_ n1_ n2_ n3_ n4_ n5_; have hcz94_0 := k30 BK104; have hcz94_1 := k31 BK104; have hcz94_2 := k32 BK104; have hfz94_0 := fz BK104 0; have hfz94_1 := fz BK104 1; have hfz94_2 := fz BK104 2; have p106 : 0 ≤ (0 : Int) := (by omega); have q106 : 0 < (((rd_T77 l0_2 0).f2).length : Int) := dA; obtain ⟨ad106, A106_2, c106_2, e106, hx106_0, hx106_1, hx106_2, hl106_2, hi106_2⟩ := at_T77 (Kd.V_reads' HL103_2.out).2.2 0 p106 q106; cases e106; obtain ⟨ce106, hce106, hMe106, hcc106⟩ := Kd.V_get HL103_2.out z77 0 p106 (by first | exact q106 | exact dA | (have e_ := (Kd.V_reads' HL103_2.out).1; omega)); obtain ⟨ua106_2, uc106_2, rfl, ul106_2, ge106_2⟩ := k77_openF hMe106; have hv106_2 := hcc106 2 _ rfl; rw [add_field _ _ 2 (by omega)] at hv106_2; replace hv106_2 := Option.some.inj (hv106_2.symm.trans hx106_2); injection hv106_2 with hva_ hvn_ hvc_; rw [hva_] at ge106_2; rw [hvc_] at ul106_2; have HL106_2 := aK (show Kd.V k77 77 _ w.heap.size _ _ ((rd_T77 ((rd_T77 l0_2 0).f2) 0).f2) from Kd.V_mk ul106_2 ge106_2); clear hva_ hvn_ hvc_ ge106_2 ul106_2; clear hcc106 hce106; have qi106 : (0 < ((rd_T77 l0_2 0).f2).length) = True := eq_true (by omega); (try rw [show ((0 : Int)).toNat = 0 from rfl] at hx106_0); (try rw [show 0 * 3 = 0 from rfl] at hx106_0); (try rw [Addr.add_zero'] at hx106_0); (try rw [show ((0 : Int)).toNat = 0 from rfl] at hx106_1); (try rw [show 0 * 3 = 0 from rfl] at hx106_1); (try rw [Addr.add_zero'] at hx106_1); (try rw [show ((0 : Int)).toNat = 0 from rfl] at hx106_2); (try rw [show 0 * 3 = 0 from rfl] at hx106_2); (try rw [Addr.add_zero'] at hx106_2); have HR106_2 := aK hi106_2; have HC106_2 := aK hl106_2; clear hi106_2 hl106_2; replace p106 := eq_true p106; replace q106 := eq_true q106) | ((with_reducible refine gate_dst (N := 5) rfl ?_); refine bE (N := 5) (cs := #[.int .i64 0, .int .i64 0, .slice none 0 0]) (t := 77) ?_; intro gb107 hg w95 hbox hb; have GW107 := qw HB hg; have GE107 := qw HB hg; have NB101_107 := ql BK101 hg; have NB107_101 := qg BK101 hg; have NB102_107 := ql BK102 hg; have NB107_102 := qg BK102 hg; have NB104_107 := ql BK104 hg; have NB107_104 := qg BK104 hg; replace HR103_2 := qr HL103_2 hb; replace HR106_2 := qr HL106_2 hb; replace HO0_2 := qv HO0_2 hg hb; replace HL103_2 := qv HL103_2 hg hb; replace HL106_2 := qv HL106_2 hg hb; replace BK101 := qb BK101 hb; replace BK102 := qb BK102 hb; replace BK104 := qb BK104 hb; have BK107 := aK hbox; replace HB := qs HB hb; clear hb hbox hg; have hnb96 := NB107_101.out; have hnc96 := NB101_107.out; have hnb97 := NB107_102.out; have hnc97 := NB102_107.out; have hnb98 := NB107_104.out; have hnc98 := NB104_107.out; have hcz99_0 := k30 BK107; have hcz99_1 := k31 BK107; have hcz99_2 := k32 BK107; have hfz99_0 := fz BK107 0; have hfz99_1 := fz BK107 1; have hfz99_2 := fz BK107 2) | ((with_reducible refine gate_store (t := 77) (p := 5) rfl ?_); refine store_event (t := 77) (p := 5) (v := ?vo_w100) (w1 := (((w95.setCell ⟨gb107, 0, none⟩ (.int .i64 ((rd_T77 ((rd_T77 l0_2 0).f2) 0).f0))).setCell ⟨gb107, 1, none⟩ (.int .i64 ((rd_T77 ((rd_T77 l0_2 0).f2) 0).f1))).setCell ⟨gb107, 2, none⟩ (.slice A106_2 ((rd_T77 ((rd_T77 l0_2 0).f2) 0).f2).length c106_2))) ?hg ?ho ?hn ?hr ?_; (case ho => rfl); (case hg => rfl); (case hn => rfl); (case hr => first | (go_simp; done) | (go_simp; rfl)); intro w100 hw; have n0_ : Aside0 (Kd.V k77 77 w100 w.heap.size (fun k_ => (P0_2_ k_ ∨ w.heap.size ≤ k_) ∧ k_ ≠ gb101 ∧ k_ ≠ gb102 ∧ k_ ≠ gb104 ∧ k_ ≠ gb107) (.slice (some ad103) l0_2.length c0_2) l0_2) := ⟨(by rw [hw]; exact (by (with_reducible repeat (first | apply Kd.V_alloc | apply Kd.V_drewN | apply Kd.V_drew)); exact Kd.V_mono (vF3 gb107 (Kd.V_mono HO0_2.out (fun k_ hk => (⟨hk, hk.2⟩ : _ ∧ k_ ≠ gb107))) (fun _ hk => hk.2)) (fun _ hk => ⟨hk.1.1.1, ⟨hk.1.1.2.1, ⟨hk.1.1.2.2.1, ⟨hk.1.1.2.2.2, hk.1.2⟩⟩⟩⟩)))⟩; have n1_ : Aside0 (Kd.V k77 77 w100 w.heap.size (fun k_ => (P0_2_ k_ ∨ w.heap.size ≤ k_) ∧ k_ ≠ gb101 ∧ k_ ≠ gb102 ∧ k_ ≠ gb104 ∧ k_ ≠ gb107) (.slice (some ad106) ((rd_T77 l0_2 0).f2).length c103_2) ((rd_T77 l0_2 0).f2)) := ⟨(by rw [hw]; exact (by (with_reducible repeat (first | apply Kd.V_alloc | apply Kd.V_drewN | apply Kd.V_drew)); exact Kd.V_mono (vF3 gb107 (Kd.V_mono HL103_2.out (fun k_ hk => (⟨hk, hk.2⟩ : _ ∧ k_ ≠ gb107))) (fun _ hk => hk.2)) (fun _ hk => ⟨hk.1.1.1, ⟨hk.1.1.2.1, ⟨hk.1.1.2.2.1, ⟨hk.1.1.2.2.2, hk.1.2⟩⟩⟩⟩)))⟩; have n2_ : Aside0 (Kd.V k77 77 w100 w.heap.size (fun k_ => (P0_2_ k_ ∨ w.heap.size ≤ k_) ∧ k_ ≠ gb101 ∧ k_ ≠ gb102 ∧ k_ ≠ gb104 ∧ k_ ≠ gb107) (.slice A106_2 ((rd_T77 ((rd_T77 l0_2 0).f2) 0).f2).length c106_2) ((rd_T77 ((rd_T77 l0_2 0).f2) 0).f2)) := ⟨(by rw [hw]; exact (by (with_reducible repeat (first | apply Kd.V_alloc | apply Kd.V_drewN | apply Kd.V_drew)); exact Kd.V_mono (vF3 gb107 (Kd.V_mono HL106_2.out (fun k_ hk => (⟨hk, hk.2⟩ : _ ∧ k_ ≠ gb107))) (fun _ hk => hk.2)) (fun _ hk => ⟨hk.1.1.1, ⟨hk.1.1.2.1, ⟨hk.1.1.2.2.1, ⟨hk.1.1.2.2.2, hk.1.2⟩⟩⟩⟩)))⟩; have n3_ : Aside0 (w100.heap[gb101]? = some (.cells #[.int .i64 a0_0, .int .i64 a0_1, .slice (some ad103) l0_2.length c0_2] 77 (0, 0))) := ⟨(by rw [hw]; exact (by (repeat first | with_reducible apply zN | with_reducible apply zD | with_reducible apply zA | refine blk_far ?_ NB101_107.out _); exact BK101.out))⟩; have n4_ : Aside0 (w100.heap[gb102]? = some (.cells #[.int .i64 0, .int .i64 0, .slice none 0 0] 77 (0, 0))) := ⟨(by rw [hw]; exact (by (repeat first | with_reducible apply zN | with_reducible apply zD | with_reducible apply zA | refine blk_far ?_ NB102_107.out _); exact BK102.out))⟩; have n5_ : Aside0 (w100.heap[gb104]? = some (.cells #[.int .i64 ((rd_T77 l0_2 0).f0), .int .i64 ((rd_T77 l0_2 0).f1), .slice (some ad106) ((rd_T77 l0_2 0).f2).length c103_2] 77 (0, 0))) := ⟨(by rw [hw]; exact (by (repeat first | with_reducible apply zN | with_reducible apply zD | with_reducible apply zA | refine blk_far ?_ NB104_107.out _); exact BK104.out))⟩; have n6_ : Aside0 (w100.heap[gb107]? = some (.cells #[.int .i64 ((rd_T77 ((rd_T77 l0_2 0).f2) 0).f0), .int .i64 ((rd_T77 ((rd_T77 l0_2 0).f2) 0).f1), .slice A106_2 ((rd_T77 ((rd_T77 l0_2 0).f2) 0).f2).length c106_2] 77 (0, 0))) := ⟨(by rw [hw]; exact (p3 BK107))⟩; have n7_ : Aside0 (Below w.heap.size w w100) := ⟨(by rw [hw]; exact (pH HB))⟩; clear hw; clear HO0_2; clear HL103_2; clear HL106_2; clear BK101; clear BK102; clear BK104; clear BK107; clear HB; have HO0_2 := n0_; have HL103_2 := n1_; have HL106_2 := n2_; have BK101 := n3_; have BK102 := n4_; have BK104 := n5_; have BK107 := n6_; have HB := n7_; clear n0_ n1_ n2_ n3_ n4_ n5_ n6_ n7_; have hcz101_0 := k30 BK107; have hcz101_1 := k31 BK107; have hcz101_2 := k32 BK107; have hfz101_0 := fz BK107 0; have hfz101_1 := fz BK107 1; have hfz101_2 := fz BK107 2; have p109 : 0 ≤ (0 : Int) := (by omega); have q109 : 0 < (((rd_T77 ((rd_T77 l0_2 0).f2) 0).f2).length : Int) := dA; obtain ⟨ad109, A109_2, c109_2, e109, hx109_0, hx109_1, hx109_2, hl109_2, hi109_2⟩ := at_T77 (Kd.V_reads' HL106_2.out).2.2 0 p109 q109; cases e109; obtain ⟨ce109, hce109, hMe109, hcc109⟩ := Kd.V_get HL106_2.out z77 0 p109 (by first | exact q109 | exact dA | (have e_ := (Kd.V_reads' HL106_2.out).1; omega)); obtain ⟨ua109_2, uc109_2, rfl, ul109_2, ge109_2⟩ := k77_openF hMe109; have hv109_2 := hcc109 2 _ rfl; rw [add_field _ _ 2 (by omega)] at hv109_2; replace hv109_2 := Option.some.inj (hv109_2.symm.trans hx109_2); injection hv109_2 with hva_ hvn_ hvc_; rw [hva_] at ge109_2; rw [hvc_] at ul109_2; have HL109_2 := aK (show Kd.V k77 77 _ w.heap.size _ _ ((rd_T77 ((rd_T77 ((rd_T77 l0_2 0).f2) 0).f2) 0).f2) from Kd.V_mk ul109_2 ge109_2); clear hva_ hvn_ hvc_ ge109_2 ul109_2; clear hcc109 hce109; have qi109 : (0 < ((rd_T77 ((rd_T77 l0_2 0).f2) 0).f2).length) = True := eq_true (by omega); (try rw [show ((0 : Int)).toNat = 0 from rfl] at hx109_0); (try rw [show 0 * 3 = 0 from rfl] at hx109_0); (try rw [Addr.add_zero'] at hx109_0); (try rw [show ((0 : Int)).toNat = 0 from rfl] at hx109_1); (try rw [show 0 * 3 = 0 from rfl] at hx109_1); (try rw [Addr.add_zero'] at hx109_1); (try rw [show ((0 : Int)).toNat = 0 from rfl] at hx109_2); (try rw [show 0 * 3 = 0 from rfl] at hx109_2); (try rw [Addr.add_zero'] at hx109_2); have HR109_2 := aK hi109_2; have HC109_2 := aK hl109_2; clear hi109_2 hl109_2; replace p109 := eq_true p109; replace q109 := eq_true q109; have hcz102_0 := k30 BK101; have hcz102_1 := k31 BK101; have hcz102_2 := k32 BK101; have hfz102_0 := fz BK101 0; have hfz102_1 := fz BK101 1; have hfz102_2 := fz BK101 2; have hcz103_0 := k30 BK102; have hcz103_1 := k31 BK102; have hcz103_2 := k32 BK102; have hfz103_0 := fz BK102 0; have hfz103_1 := fz BK102 1; have hfz103_2 := fz BK102 2))
          refine bodyPost_ret (results_ct rfl _ _ gb102 77 #[.int .i64 a0_0, .int .i64 a0_1, .slice (some ad103) l0_2.length c0_2] (0, 0) _ rfl (p3 BK102) Try.underlying77 rfl (by kernel_rfl)) rfl ?_
          exact ⟨_, eW, by (with_reducible repeat (first | apply Kd.V_alloc | apply Kd.V_drewN | apply Kd.V_drew)); exact Kd.V_mono (vF3 gb102 (Kd.V_mono HO0_2.out (fun k_ hk => (⟨hk, hk.2.2.1⟩ : _ ∧ k_ ≠ gb102))) (fun _ hk => hk.2)) (fun _ hk => hk.1.1), pH HB⟩
        ·rw [if_neg c42] at H
         exact absurd H (by simp)
       ·rw [if_neg c41] at H
        have c41b0 : (((rd_T77 ((rd_T77 l0_2 0).f2) 0).f0) == 2) = false := beq_eq_false_iff_ne.mpr c41
        have c41b1 : (((rd_T77 ((rd_T77 l0_2 0).f2) 0).f0) != 2) = true := bne_iff_ne.mpr c41
        simp only [Option.some.injEq, Prod.mk.injEq] at H
        obtain ⟨rfl, rfl, rfl, rfl⟩ := H
        go_enter Try.func78, Try.ntmps78
        go_wp2_with (first | ((with_reducible refine gate_dst (N := 1) rfl ?_); refine bE (N := 1) (cs := #[.int .i64 a0_0, .int .i64 a0_1, .slice A0_2 l0_2.length c0_2]) (t := 77) ?_; intro gb101 hg w104 hbox hb; have GW101 := qw HB hg; have GE101 := qw HB hg; replace HO0_2 := qv HO0_2 hg hb; have BK101 := aK hbox; replace HB := qs HB hb; clear hb hbox hg) | ((with_reducible refine gate_dst (N := 2) rfl ?_); refine bE (N := 2) (cs := #[.int .i64 0, .int .i64 0, .slice none 0 0]) (t := 77) ?_; intro gb102 hg w105 hbox hb; have GW102 := qw HB hg; have GE102 := qw HB hg; have NB101_102 := ql BK101 hg; have NB102_101 := qg BK101 hg; replace HO0_2 := qv HO0_2 hg hb; replace BK101 := qb BK101 hb; have BK102 := aK hbox; replace HB := qs HB hb; clear hb hbox hg; have hnb106 := NB101_102.out; have hnc106 := NB102_101.out; have hcz107_0 := k30 BK101; have hcz107_1 := k31 BK101; have hcz107_2 := k32 BK101; have hfz107_0 := fz BK101 0; have hfz107_1 := fz BK101 1; have hfz107_2 := fz BK101 2; have p103 : 0 ≤ (0 : Int) := (by omega); have q103 : 0 < (l0_2.length : Int) := dA; obtain ⟨ad103, A103_2, c103_2, e103, hx103_0, hx103_1, hx103_2, hl103_2, hi103_2⟩ := at_T77 (Kd.V_reads' HO0_2.out).2.2 0 p103 q103; cases e103; obtain ⟨ce103, hce103, hMe103, hcc103⟩ := Kd.V_get HO0_2.out z77 0 p103 (by first | exact q103 | exact dA | (have e_ := (Kd.V_reads' HO0_2.out).1; omega)); obtain ⟨ua103_2, uc103_2, rfl, ul103_2, ge103_2⟩ := k77_openF hMe103; have hv103_2 := hcc103 2 _ rfl; rw [add_field _ _ 2 (by omega)] at hv103_2; replace hv103_2 := Option.some.inj (hv103_2.symm.trans hx103_2); injection hv103_2 with hva_ hvn_ hvc_; rw [hva_] at ge103_2; rw [hvc_] at ul103_2; have HL103_2 := aK (show Kd.V k77 77 _ w.heap.size _ _ ((rd_T77 l0_2 0).f2) from Kd.V_mk ul103_2 ge103_2); clear hva_ hvn_ hvc_ ge103_2 ul103_2; clear hcc103 hce103; have qi103 : (0 < l0_2.length) = True := eq_true (by omega); (try rw [show ((0 : Int)).toNat = 0 from rfl] at hx103_0); (try rw [show 0 * 3 = 0 from rfl] at hx103_0); (try rw [Addr.add_zero'] at hx103_0); (try rw [show ((0 : Int)).toNat = 0 from rfl] at hx103_1); (try rw [show 0 * 3 = 0 from rfl] at hx103_1); (try rw [Addr.add_zero'] at hx103_1); (try rw [show ((0 : Int)).toNat = 0 from rfl] at hx103_2); (try rw [show 0 * 3 = 0 from rfl] at hx103_2); (try rw [Addr.add_zero'] at hx103_2); have HR103_2 := aK hi103_2; have HC103_2 := aK hl103_2; clear hi103_2 hl103_2; replace p103 := eq_true p103; replace q103 := eq_true q103) | ((with_reducible refine gate_dst (N := 4) rfl ?_); refine bE (N := 4) (cs := #[.int .i64 0, .int .i64 0, .slice none 0 0]) (t := 77) ?_; intro gb104 hg w108 hbox hb; have GW104 := qw HB hg; have GE104 := qw HB hg; have NB101_104 := ql BK101 hg; have NB104_101 := qg BK101 hg; have NB102_104 := ql BK102 hg; have NB104_102 := qg BK102 hg; replace HR103_2 := qr HL103_2 hb; replace HO0_2 := qv HO0_2 hg hb; replace HL103_2 := qv HL103_2 hg hb; replace BK101 := qb BK101 hb; replace BK102 := qb BK102 hb; have BK104 := aK hbox; replace HB := qs HB hb; clear hb hbox hg; have hnb109 := NB104_101.out; have hnc109 := NB101_104.out; have hnb110 := NB104_102.out; have hnc110 := NB102_104.out; have hcz111_0 := k30 BK104; have hcz111_1 := k31 BK104; have hcz111_2 := k32 BK104; have hfz111_0 := fz BK104 0; have hfz111_1 := fz BK104 1; have hfz111_2 := fz BK104 2) | ((with_reducible refine gate_store (t := 77) (p := 4) rfl ?_); refine store_event (t := 77) (p := 4) (v := ?vo_w112) (w1 := (((w108.setCell ⟨gb104, 0, none⟩ (.int .i64 ((rd_T77 l0_2 0).f0))).setCell ⟨gb104, 1, none⟩ (.int .i64 ((rd_T77 l0_2 0).f1))).setCell ⟨gb104, 2, none⟩ (.slice A103_2 ((rd_T77 l0_2 0).f2).length c103_2))) ?hg ?ho ?hn ?hr ?_; (case ho => rfl); (case hg => rfl); (case hn => rfl); (case hr => first | (go_simp; done) | (go_simp; rfl)); intro w112 hw; have n0_ : Aside0 (Kd.V k77 77 w112 w.heap.size (fun k_ => (P0_2_ k_ ∨ w.heap.size ≤ k_) ∧ k_ ≠ gb101 ∧ k_ ≠ gb102 ∧ k_ ≠ gb104) (.slice (some ad103) l0_2.length c0_2) l0_2) := ⟨(by rw [hw]; exact (by (with_reducible repeat (first | apply Kd.V_alloc | apply Kd.V_drewN | apply Kd.V_drew)); exact Kd.V_mono (vF3 gb104 (Kd.V_mono HO0_2.out (fun k_ hk => (⟨hk, hk.2⟩ : _ ∧ k_ ≠ gb104))) (fun _ hk => hk.2)) (fun _ hk => ⟨hk.1.1.1.1, ⟨hk.1.1.1.2, ⟨hk.1.1.2, hk.1.2⟩⟩⟩)))⟩; have n1_ : Aside0 (Kd.V k77 77 w112 w.heap.size (fun k_ => (P0_2_ k_ ∨ w.heap.size ≤ k_) ∧ k_ ≠ gb101 ∧ k_ ≠ gb102 ∧ k_ ≠ gb104) (.slice A103_2 ((rd_T77 l0_2 0).f2).length c103_2) ((rd_T77 l0_2 0).f2)) := ⟨(by rw [hw]; exact (by (with_reducible repeat (first | apply Kd.V_alloc | apply Kd.V_drewN | apply Kd.V_drew)); exact Kd.V_mono (vF3 gb104 (Kd.V_mono HL103_2.out (fun k_ hk => (⟨hk, hk.2⟩ : _ ∧ k_ ≠ gb104))) (fun _ hk => hk.2)) (fun _ hk => ⟨hk.1.1.1.1, ⟨hk.1.1.1.2, ⟨hk.1.1.2, hk.1.2⟩⟩⟩)))⟩; have n2_ : Aside0 (w112.heap[gb101]? = some (.cells #[.int .i64 a0_0, .int .i64 a0_1, .slice (some ad103) l0_2.length c0_2] 77 (0, 0))) := ⟨(by rw [hw]; exact (by (repeat first | with_reducible apply zN | with_reducible apply zD | with_reducible apply zA | refine blk_far ?_ NB101_104.out _); exact BK101.out))⟩; have n3_ : Aside0 (w112.heap[gb102]? = some (.cells #[.int .i64 0, .int .i64 0, .slice none 0 0] 77 (0, 0))) := ⟨(by rw [hw]; exact (by (repeat first | with_reducible apply zN | with_reducible apply zD | with_reducible apply zA | refine blk_far ?_ NB102_104.out _); exact BK102.out))⟩; have n4_ : Aside0 (w112.heap[gb104]? = some (.cells #[.int .i64 ((rd_T77 l0_2 0).f0), .int .i64 ((rd_T77 l0_2 0).f1), .slice A103_2 ((rd_T77 l0_2 0).f2).length c103_2] 77 (0, 0))) := ⟨(by rw [hw]; exact (p3 BK104))⟩; have n5_ : Aside0 (Below w.heap.size w w112) := ⟨(by rw [hw]; exact (pH HB))⟩; clear hw; clear HO0_2; clear HL103_2; clear BK101; clear BK102; clear BK104; clear HB; have HO0_2 := n0_; have HL103_2 := n1_; have BK101 := n2_; have BK102 := n3_; have BK104 := n4_; have HB := n5_; clear n0_ n1_ n2_ n3_ n4_ n5_; have hcz113_0 := k30 BK104; have hcz113_1 := k31 BK104; have hcz113_2 := k32 BK104; have hfz113_0 := fz BK104 0; have hfz113_1 := fz BK104 1; have hfz113_2 := fz BK104 2; have p106 : 0 ≤ (0 : Int) := (by omega); have q106 : 0 < (((rd_T77 l0_2 0).f2).length : Int) := dA; obtain ⟨ad106, A106_2, c106_2, e106, hx106_0, hx106_1, hx106_2, hl106_2, hi106_2⟩ := at_T77 (Kd.V_reads' HL103_2.out).2.2 0 p106 q106; cases e106; obtain ⟨ce106, hce106, hMe106, hcc106⟩ := Kd.V_get HL103_2.out z77 0 p106 (by first | exact q106 | exact dA | (have e_ := (Kd.V_reads' HL103_2.out).1; omega)); obtain ⟨ua106_2, uc106_2, rfl, ul106_2, ge106_2⟩ := k77_openF hMe106; have hv106_2 := hcc106 2 _ rfl; rw [add_field _ _ 2 (by omega)] at hv106_2; replace hv106_2 := Option.some.inj (hv106_2.symm.trans hx106_2); injection hv106_2 with hva_ hvn_ hvc_; rw [hva_] at ge106_2; rw [hvc_] at ul106_2; have HL106_2 := aK (show Kd.V k77 77 _ w.heap.size _ _ ((rd_T77 ((rd_T77 l0_2 0).f2) 0).f2) from Kd.V_mk ul106_2 ge106_2); clear hva_ hvn_ hvc_ ge106_2 ul106_2; clear hcc106 hce106; have qi106 : (0 < ((rd_T77 l0_2 0).f2).length) = True := eq_true (by omega); (try rw [show ((0 : Int)).toNat = 0 from rfl] at hx106_0); (try rw [show 0 * 3 = 0 from rfl] at hx106_0); (try rw [Addr.add_zero'] at hx106_0); (try rw [show ((0 : Int)).toNat = 0 from rfl] at hx106_1); (try rw [show 0 * 3 = 0 from rfl] at hx106_1); (try rw [Addr.add_zero'] at hx106_1); (try rw [show ((0 : Int)).toNat = 0 from rfl] at hx106_2); (try rw [show 0 * 3 = 0 from rfl] at hx106_2); (try rw [Addr.add_zero'] at hx106_2); have HR106_2 := aK hi106_2; have HC106_2 := aK hl106_2; clear hi106_2 hl106_2; replace p106 := eq_true p106; replace q106 := eq_true q106) | ((with_reducible refine gate_dst (N := 5) rfl ?_); refine bE (N := 5) (cs := #[.int .i64 0, .int .i64 0, .slice none 0 0]) (t := 77) ?_; intro gb107 hg w114 hbox hb; have GW107 := qw HB hg; have GE107 := qw HB hg; have NB101_107 := ql BK101 hg; have NB107_101 := qg BK101 hg; have NB102_107 := ql BK102 hg; have NB107_102 := qg BK102 hg; have NB104_107 := ql BK104 hg; have NB107_104 := qg BK104 hg; replace HR103_2 := qr HL103_2 hb; replace HR106_2 := qr HL106_2 hb; replace HO0_2 := qv HO0_2 hg hb; replace HL103_2 := qv HL103_2 hg hb; replace HL106_2 := qv HL106_2 hg hb; replace BK101 := qb BK101 hb; replace BK102 := qb BK102 hb; replace BK104 := qb BK104 hb; have BK107 := aK hbox; replace HB := qs HB hb; clear hb hbox hg; have hnb115 := NB107_101.out; have hnc115 := NB101_107.out; have hnb116 := NB107_102.out; have hnc116 := NB102_107.out; have hnb117 := NB107_104.out; have hnc117 := NB104_107.out; have hcz118_0 := k30 BK107; have hcz118_1 := k31 BK107; have hcz118_2 := k32 BK107; have hfz118_0 := fz BK107 0; have hfz118_1 := fz BK107 1; have hfz118_2 := fz BK107 2; have hcz119_0 := k30 BK101; have hcz119_1 := k31 BK101; have hcz119_2 := k32 BK101; have hfz119_0 := fz BK101 0; have hfz119_1 := fz BK101 1; have hfz119_2 := fz BK101 2; have hcz120_0 := k30 BK102; have hcz120_1 := k31 BK102; have hcz120_2 := k32 BK102; have hfz120_0 := fz BK102 0; have hfz120_1 := fz BK102 1; have hfz120_2 := fz BK102 2))
        refine bodyPost_ret (results_ct rfl _ _ gb102 77 #[.int .i64 a0_0, .int .i64 a0_1, .slice (some ad103) l0_2.length c0_2] (0, 0) _ rfl (by (with_reducible repeat first | apply zN | apply zD | apply zA); refine blk_put (cs := #[.int .i64 a0_0, .int .i64 a0_1, .slice none 0 0]) ?_ 2 _ rfl; (with_reducible repeat first | apply zN | apply zD | apply zA); refine blk_put (cs := #[.int .i64 a0_0, .int .i64 0, .slice none 0 0]) ?_ 1 _ rfl; (with_reducible repeat first | apply zN | apply zD | apply zA); refine blk_put (cs := #[.int .i64 0, .int .i64 0, .slice none 0 0]) ?_ 0 _ rfl; (repeat first | with_reducible apply zN | with_reducible apply zD | with_reducible apply zA | refine blk_far ?_ NB102_107.out _); exact BK102.out) Try.underlying77 rfl (by kernel_rfl)) rfl ?_
        exact ⟨_, eW, by (with_reducible repeat (first | apply Kd.V_alloc | apply Kd.V_drewN | apply Kd.V_drew)); exact Kd.V_mono (vF3 gb102 (vF3 gb107 (Kd.V_mono (Kd.V_mono HO0_2.out (fun k_ hk => (⟨hk, hk.2⟩ : _ ∧ k_ ≠ gb107))) (fun k_ hk => (⟨hk, hk.1.1.2.2.1⟩ : _ ∧ k_ ≠ gb102))) (fun _ hk => hk.1.2)) (fun _ hk => hk.2)) (fun _ hk => hk.1.1.1.1), pH HB⟩
     ·rw [if_neg c19] at H
      exact absurd H (by simp)
    ·rw [if_neg c18] at H
     have c18b0 : (((rd_T77 l0_2 0).f0) == 2) = false := beq_eq_false_iff_ne.mpr c18
     have c18b1 : (((rd_T77 l0_2 0).f0) != 2) = true := bne_iff_ne.mpr c18
     simp only [Option.some.injEq, Prod.mk.injEq] at H
     obtain ⟨rfl, rfl, rfl, rfl⟩ := H
     go_enter Try.func78, Try.ntmps78
     go_wp2_with (first | ((with_reducible refine gate_dst (N := 1) rfl ?_); refine bE (N := 1) (cs := #[.int .i64 a0_0, .int .i64 a0_1, .slice A0_2 l0_2.length c0_2]) (t := 77) ?_; intro gb101 hg w121 hbox hb; have GW101 := qw HB hg; have GE101 := qw HB hg; replace HO0_2 := qv HO0_2 hg hb; have BK101 := aK hbox; replace HB := qs HB hb; clear hb hbox hg) | ((with_reducible refine gate_dst (N := 2) rfl ?_); refine bE (N := 2) (cs := #[.int .i64 0, .int .i64 0, .slice none 0 0]) (t := 77) ?_; intro gb102 hg w122 hbox hb; have GW102 := qw HB hg; have GE102 := qw HB hg; have NB101_102 := ql BK101 hg; have NB102_101 := qg BK101 hg; replace HO0_2 := qv HO0_2 hg hb; replace BK101 := qb BK101 hb; have BK102 := aK hbox; replace HB := qs HB hb; clear hb hbox hg; have hnb123 := NB101_102.out; have hnc123 := NB102_101.out; have hcz124_0 := k30 BK101; have hcz124_1 := k31 BK101; have hcz124_2 := k32 BK101; have hfz124_0 := fz BK101 0; have hfz124_1 := fz BK101 1; have hfz124_2 := fz BK101 2; have p103 : 0 ≤ (0 : Int) := (by omega); have q103 : 0 < (l0_2.length : Int) := dA; obtain ⟨ad103, A103_2, c103_2, e103, hx103_0, hx103_1, hx103_2, hl103_2, hi103_2⟩ := at_T77 (Kd.V_reads' HO0_2.out).2.2 0 p103 q103; cases e103; obtain ⟨ce103, hce103, hMe103, hcc103⟩ := Kd.V_get HO0_2.out z77 0 p103 (by first | exact q103 | exact dA | (have e_ := (Kd.V_reads' HO0_2.out).1; omega)); obtain ⟨ua103_2, uc103_2, rfl, ul103_2, ge103_2⟩ := k77_openF hMe103; have hv103_2 := hcc103 2 _ rfl; rw [add_field _ _ 2 (by omega)] at hv103_2; replace hv103_2 := Option.some.inj (hv103_2.symm.trans hx103_2); injection hv103_2 with hva_ hvn_ hvc_; rw [hva_] at ge103_2; rw [hvc_] at ul103_2; have HL103_2 := aK (show Kd.V k77 77 _ w.heap.size _ _ ((rd_T77 l0_2 0).f2) from Kd.V_mk ul103_2 ge103_2); clear hva_ hvn_ hvc_ ge103_2 ul103_2; clear hcc103 hce103; have qi103 : (0 < l0_2.length) = True := eq_true (by omega); (try rw [show ((0 : Int)).toNat = 0 from rfl] at hx103_0); (try rw [show 0 * 3 = 0 from rfl] at hx103_0); (try rw [Addr.add_zero'] at hx103_0); (try rw [show ((0 : Int)).toNat = 0 from rfl] at hx103_1); (try rw [show 0 * 3 = 0 from rfl] at hx103_1); (try rw [Addr.add_zero'] at hx103_1); (try rw [show ((0 : Int)).toNat = 0 from rfl] at hx103_2); (try rw [show 0 * 3 = 0 from rfl] at hx103_2); (try rw [Addr.add_zero'] at hx103_2); have HR103_2 := aK hi103_2; have HC103_2 := aK hl103_2; clear hi103_2 hl103_2; replace p103 := eq_true p103; replace q103 := eq_true q103) | ((with_reducible refine gate_dst (N := 4) rfl ?_); refine bE (N := 4) (cs := #[.int .i64 0, .int .i64 0, .slice none 0 0]) (t := 77) ?_; intro gb104 hg w125 hbox hb; have GW104 := qw HB hg; have GE104 := qw HB hg; have NB101_104 := ql BK101 hg; have NB104_101 := qg BK101 hg; have NB102_104 := ql BK102 hg; have NB104_102 := qg BK102 hg; replace HR103_2 := qr HL103_2 hb; replace HO0_2 := qv HO0_2 hg hb; replace HL103_2 := qv HL103_2 hg hb; replace BK101 := qb BK101 hb; replace BK102 := qb BK102 hb; have BK104 := aK hbox; replace HB := qs HB hb; clear hb hbox hg; have hnb126 := NB104_101.out; have hnc126 := NB101_104.out; have hnb127 := NB104_102.out; have hnc127 := NB102_104.out; have hcz128_0 := k30 BK104; have hcz128_1 := k31 BK104; have hcz128_2 := k32 BK104; have hfz128_0 := fz BK104 0; have hfz128_1 := fz BK104 1; have hfz128_2 := fz BK104 2; have hcz129_0 := k30 BK101; have hcz129_1 := k31 BK101; have hcz129_2 := k32 BK101; have hfz129_0 := fz BK101 0; have hfz129_1 := fz BK101 1; have hfz129_2 := fz BK101 2; have hcz130_0 := k30 BK102; have hcz130_1 := k31 BK102; have hcz130_2 := k32 BK102; have hfz130_0 := fz BK102 0; have hfz130_1 := fz BK102 1; have hfz130_2 := fz BK102 2))
     refine bodyPost_ret (results_ct rfl _ _ gb102 77 #[.int .i64 a0_0, .int .i64 a0_1, .slice (some ad103) l0_2.length c0_2] (0, 0) _ rfl (by (with_reducible repeat first | apply zN | apply zD | apply zA); refine blk_put (cs := #[.int .i64 a0_0, .int .i64 a0_1, .slice none 0 0]) ?_ 2 _ rfl; (with_reducible repeat first | apply zN | apply zD | apply zA); refine blk_put (cs := #[.int .i64 a0_0, .int .i64 0, .slice none 0 0]) ?_ 1 _ rfl; (with_reducible repeat first | apply zN | apply zD | apply zA); refine blk_put (cs := #[.int .i64 0, .int .i64 0, .slice none 0 0]) ?_ 0 _ rfl; (repeat first | with_reducible apply zN | with_reducible apply zD | with_reducible apply zA | refine blk_far ?_ NB102_104.out _); exact BK102.out) Try.underlying77 rfl (by kernel_rfl)) rfl ?_
     exact ⟨_, eW, by (with_reducible repeat (first | apply Kd.V_alloc | apply Kd.V_drewN | apply Kd.V_drew)); exact Kd.V_mono (vF3 gb102 (vF3 gb104 (Kd.V_mono (Kd.V_mono HO0_2.out (fun k_ hk => (⟨hk, hk.2⟩ : _ ∧ k_ ≠ gb104))) (fun k_ hk => (⟨hk, hk.1.1.2⟩ : _ ∧ k_ ≠ gb102))) (fun _ hk => hk.1.2)) (fun _ hk => hk.2)) (fun _ hk => hk.1.1.1.1.1), pH HB⟩
  ·rw [if_neg c3] at H
   exact absurd H (by simp)
 ·rw [if_neg c2] at H
  have c2b0 : (a0_0 == 2) = false := beq_eq_false_iff_ne.mpr c2
  have c2b1 : (a0_0 != 2) = true := bne_iff_ne.mpr c2
  simp only [Option.some.injEq, Prod.mk.injEq] at H
  obtain ⟨rfl, rfl, rfl, rfl⟩ := H
  go_enter Try.func78, Try.ntmps78
  go_wp2_with (first | ((with_reducible refine gate_dst (N := 1) rfl ?_); refine bE (N := 1) (cs := #[.int .i64 a0_0, .int .i64 a0_1, .slice A0_2 l0_2.length c0_2]) (t := 77) ?_; intro gb101 hg w131 hbox hb; have GW101 := qw HB hg; have GE101 := qw HB hg; replace HO0_2 := qv HO0_2 hg hb; have BK101 := aK hbox; replace HB := qs HB hb; clear hb hbox hg) | ((with_reducible refine gate_dst (N := 2) rfl ?_); refine bE (N := 2) (cs := #[.int .i64 0, .int .i64 0, .slice none 0 0]) (t := 77) ?_; intro gb102 hg w132 hbox hb; have GW102 := qw HB hg; have GE102 := qw HB hg; have NB101_102 := ql BK101 hg; have NB102_101 := qg BK101 hg; replace HO0_2 := qv HO0_2 hg hb; replace BK101 := qb BK101 hb; have BK102 := aK hbox; replace HB := qs HB hb; clear hb hbox hg; have hnb133 := NB101_102.out; have hnc133 := NB102_101.out; have hcz134_0 := k30 BK101; have hcz134_1 := k31 BK101; have hcz134_2 := k32 BK101; have hfz134_0 := fz BK101 0; have hfz134_1 := fz BK101 1; have hfz134_2 := fz BK101 2; have hcz135_0 := k30 BK102; have hcz135_1 := k31 BK102; have hcz135_2 := k32 BK102; have hfz135_0 := fz BK102 0; have hfz135_1 := fz BK102 1; have hfz135_2 := fz BK102 2))
  refine bodyPost_ret (results_ct rfl _ _ gb102 77 #[.int .i64 a0_0, .int .i64 a0_1, .slice A0_2 l0_2.length c0_2] (0, 0) _ rfl (p3 BK102) Try.underlying77 rfl (by kernel_rfl)) rfl ?_
  exact ⟨_, eW, by (with_reducible repeat (first | apply Kd.V_alloc | apply Kd.V_drewN | apply Kd.V_drew)); exact Kd.V_mono (vF3 gb102 (Kd.V_mono HO0_2.out (fun k_ hk => (⟨hk, hk.2⟩ : _ ∧ k_ ≠ gb102))) (fun _ hk => hk.2)) (fun _ hk => hk.1.1.1), pH HB⟩

end Go.Proofs.Ytcjhhdecckcibaa.G

namespace Go.Proofs.Ytcjhhdecckcibaa.G
open Go.RowKit Go.Proofs.YtcjhhdecckcibaaW.PrintWords Go.Proofs.YtcjhhdecckcibaaW.PrintLast Go.Proofs.YtcjhhdecckcibaaW.PrintMore
attribute [local go_sem] max2_int min2_int max_two min_two max_three min_three max_four min_four   -- for this text's walks alone
set_option linter.unusedVariables false
set_option linter.unusedSimpArgs false

mutual
def spec_ldStep.l0 : Nat → Bool → List (S77) → Int → Int → Int → Int → List (S77) → Option (Int × Int × (List (S77)) × Bool)
 | 0, _, _, _, _, _, _, _ => none
 | k + 1, x7, x23, x24, x25, x111000, x111001, x111002 => if x25 < x24 then (if 0 ≤ x25 then (if x25 < (x23.length : Int) then (if x7 = true then (if x111002.length < 3518437208883 then (spec_ldStep.l0 k x7 x23 x24 (wrap64 (x25 + 1)) x111000 x111001 (x111002 ++ [(⟨(rd_T77 x23 x25).f0, (rd_T77 x23 x25).f1, (rd_T77 x23 x25).f2⟩ : S77)])) else (none)) else ((spec_ldStep.f k ((rd_T77 x23 x25).f0) ((rd_T77 x23 x25).f1) ((rd_T77 x23 x25).f2)).bind fun bt116 => (if x111002.length < 3518437208883 then (spec_ldStep.l0 k bt116.2.2.2 x23 x24 (wrap64 (x25 + 1)) x111000 x111001 (x111002 ++ [(⟨bt116.1, bt116.2.1, bt116.2.2.1⟩ : S77)])) else (none)))) else (none)) else (none)) else (some (x111000, x111001, x111002, x7))
def spec_ldStep.f : Nat → Int → Int → List (S77) → Option (Int × Int × (List (S77)) × Bool)
 | 0, _, _, _ => none
 | k + 1, a0_0, a0_1, l0_2 => (spec_ldHead.f a0_0 a0_1 l0_2).bind fun bt103 => (if bt103.2.2.2 = true then (some (bt103.1, bt103.2.1, bt103.2.2.1, true)) else (spec_ldStep.l0 k false l0_2 (l0_2.length : Int) 0 a0_0 a0_1 ([] : List (S77))))
end
set_option maxHeartbeats 8000000 in
set_option maxRecDepth 100000 in
theorem spec_ldStep.calls (k : Nat) : ∀ (a0_0 : Int) (a0_1 : Int) (P0_2_ : Nat → Prop) (A0_2 : Option Addr) (c0_2 : Nat) (l0_2 : List (S77)) (r1 : Int) (r2 : Int) (r3 : List (S77)) (r4 : Bool) (w : World) (hs0_2 : Kd.V k77 77 w w.heap.size (fun k_ => P0_2_ k_) (.slice A0_2 l0_2.length c0_2) l0_2) (h : spec_ldStep.f k a0_0 a0_1 l0_2 = some (r1, r2, r3, r4)),
  Calls Try.prog 55 #[.agg #[.int .i64 a0_0, .int .i64 a0_1, .slice A0_2 l0_2.length c0_2]] w fun e w' => ∃ v2_ : Value, e = .returned (.tuple #[.agg #[.int .i64 r1, .int .i64 r2, v2_], .bool r4]) ∧ Kd.V k77 77 w' w.heap.size (fun k_ => (P0_2_ k_ ∨ w.heap.size ≤ k_)) v2_ r3 ∧ Below w.heap.size w w' := by
 induction k using Nat.strongRecOn with
 | _ k ih =>
 intro a0_0 a0_1 P0_2_ A0_2 c0_2 l0_2 r1 r2 r3 r4 w hs0_2 h
 cases k with
 | zero => exact absurd h (by simp [spec_ldStep.f])
 | succ k =>
 simp only [spec_ldStep.f] at h
 have hu77 := Try.underlying77
 have HO0_2 := aK (show Kd.V k77 77 w w.heap.size (fun k_ => (P0_2_ k_ ∨ w.heap.size ≤ k_)) (.slice A0_2 l0_2.length c0_2) l0_2 from Kd.V_mono hs0_2 (fun k_ hk => .inl hk))
 have HB := aK (Below.refl w.heap.size w)
 have H : ((spec_ldHead.f a0_0 a0_1 l0_2).bind fun bt103 => (if bt103.2.2.2 = true then (some (bt103.1, bt103.2.1, bt103.2.2.1, true)) else (spec_ldStep.l0 k false l0_2 (l0_2.length : Int) 0 a0_0 a0_1 ([] : List (S77))))) = some (r1, r2, r3, r4) := h
 clear h
 replace H := Option.bind_eq_some_iff.mp H
 obtain ⟨⟨t103, t104, t105, t108⟩, A20, H⟩ := H
 try dsimp only at H
 have A2 := aK A20
 clear A20
 by_cases c3 : t108 = true
 ·subst c3
  rw [if_pos rfl] at H
  simp only [Option.some.injEq, Prod.mk.injEq] at H
  obtain ⟨rfl, rfl, rfl, rfl⟩ := H
  go_enter Try.func55, Try.ntmps55
  go_wp2_with (first | ((with_reducible refine gate_dst (N := 1) rfl ?_); refine bE (N := 1) (cs := #[.int .i64 a0_0, .int .i64 a0_1, .slice A0_2 l0_2.length c0_2]) (t := 77) ?_; intro gb101 hg w4 hbox hb; have GW101 := qw HB hg; have GE101 := qw HB hg; replace HO0_2 := qv HO0_2 hg hb; have BK101 := aK hbox; replace HB := qs HB hb; clear hb hbox hg) | ((with_reducible refine gate_dst (N := 2) rfl ?_); refine bE (N := 2) (cs := #[.int .i64 0, .int .i64 0, .slice none 0 0]) (t := 77) ?_; intro gb102 hg w5 hbox hb; have GW102 := qw HB hg; have GE102 := qw HB hg; have NB101_102 := ql BK101 hg; have NB102_101 := qg BK101 hg; replace HO0_2 := qv HO0_2 hg hb; replace BK101 := qb BK101 hb; have BK102 := aK hbox; replace HB := qs HB hb; clear hb hbox hg; have hnb6 := NB101_102.out; have hnc6 := NB102_101.out; have hcz7_0 := k30 BK101; have hcz7_1 := k31 BK101; have hcz7_2 := k32 BK101; have hfz7_0 := fz BK101 0; have hfz7_1 := fz BK101 1; have hfz7_2 := fz BK101 2) | ((with_reducible refine gate_callee (f := 78) rfl ?_); refine goesL_ (some 12) rfl rfl Try.func78 (by kernel_rfl) rfl #[.agg #[.int .i64 a0_0, .int .i64 a0_1, .slice A0_2 l0_2.length c0_2]] rfl tA ?_; (with_reducible refine (spec_ldHead.calls a0_0 a0_1 (fun k_ => (((P0_2_ k_ ∨ w.heap.size ≤ k_) ∧ k_ ≠ gb101) ∧ k_ ≠ gb102)) _ _ l0_2 t103 t104 t105 true _ ?side1 A2.out).mono ?_); (case side1 => exact HO0_2.out); rintro e w8 ⟨v106, rfl, ho0, hb⟩; refine ⟨_, rfl, ?_⟩; have n0_ := aK (Kd.V_below HO0_2.out hb); have HO107 := aK (Kd.V_lower (Kd.V_mono (ok' := fun k_ => (P0_2_ k_ ∨ w.heap.size ≤ k_) ∧ k_ ≠ gb101 ∧ k_ ≠ gb102) ho0 (fun k_ hk_ => ⟨Or.elim hk_ (fun hs_ => hs_.1.1) (fun hn_ => (.inr (Nat.le_trans (below_size HB.out) hn_))), Or.elim hk_ (fun hs_ => hs_.1.2) (fun hn_ => (Kd.freshB BK101.out k_ hn_)), Or.elim hk_ (fun hs_ => hs_.2) (fun hn_ => (Kd.freshB BK102.out k_ hn_))⟩)) (below_size HB.out)); replace BK101 := qb BK101 hb; replace BK102 := qb BK102 hb; clear HO0_2; have HO0_2 := n0_; clear n0_; replace HB := qs HB hb; (try clear hb); (try clear ho0)) | ((with_reducible refine gate_dst (N := 4) rfl ?_); refine bE (N := 4) (cs := #[.int .i64 0, .int .i64 0, .slice none 0 0]) (t := 77) ?_; intro gb109 hg w9 hbox hb; have GW109 := qw HB hg; have GE109 := qw HB hg; have NB101_109 := ql BK101 hg; have NB109_101 := qg BK101 hg; have NB102_109 := ql BK102 hg; have NB109_102 := qg BK102 hg; replace HO0_2 := qv HO0_2 hg hb; replace HO107 := qv HO107 hg hb; replace BK101 := qb BK101 hb; replace BK102 := qb BK102 hb; have BK109 := aK hbox; replace HB := qs HB hb; clear hb hbox hg; have hnb10 := NB109_101.out; have hnc10 := NB101_109.out; have hnb11 := NB109_102.out; have hnc11 := NB102_109.out; have hcz12_0 := k30 BK109; have hcz12_1 := k31 BK109; have hcz12_2 := k32 BK109; have hfz12_0 := fz BK109 0; have hfz12_1 := fz BK109 1; have hfz12_2 := fz BK109 2; obtain ⟨Ao13, co13, eo13⟩ := Kd.V_slice HO107.out; subst eo13; have hcz14_0 := k30 BK102; have hcz14_1 := k31 BK102; have hcz14_2 := k32 BK102; have hfz14_0 := fz BK102 0; have hfz14_1 := fz BK102 1; have hfz14_2 := fz BK102 2))
  refine bodyPost_ret (results_ct rfl _ _ gb102 77 #[.int .i64 t103, .int .i64 t104, .slice Ao13 t105.length co13] (0, 0) _ rfl (by (with_reducible repeat first | apply zN | apply zD | apply zA); refine blk_put (cs := #[.int .i64 t103, .int .i64 t104, .slice none 0 0]) ?_ 2 _ rfl; (with_reducible repeat first | apply zN | apply zD | apply zA); refine blk_put (cs := #[.int .i64 t103, .int .i64 0, .slice none 0 0]) ?_ 1 _ rfl; (with_reducible repeat first | apply zN | apply zD | apply zA); refine blk_put (cs := #[.int .i64 0, .int .i64 0, .slice none 0 0]) ?_ 0 _ rfl; (repeat first | with_reducible apply zN | with_reducible apply zD | with_reducible apply zA | refine blk_far ?_ NB102_109.out _); exact BK102.out) Try.underlying77 rfl (by kernel_rfl)) rfl ?_
  exact ⟨_, eW, by (with_reducible repeat (first | apply Kd.V_alloc | apply Kd.V_drewN | apply Kd.V_drew)); exact Kd.V_mono (vF3 gb102 (vF3 gb109 (Kd.V_mono (Kd.V_mono HO107.out (fun k_ hk => (⟨hk, hk.2⟩ : _ ∧ k_ ≠ gb109))) (fun k_ hk => (⟨hk, hk.1.1.2.2⟩ : _ ∧ k_ ≠ gb102))) (fun _ hk => hk.1.2)) (fun _ hk => hk.2)) (fun _ hk => hk.1.1.1.1), pH HB⟩
 ·replace c3 := Bool.eq_false_iff.mpr c3
  subst c3
  rw [if_neg (show ¬ (false = true) by decide)] at H
  have H' := aK H
  clear H
  go_enter Try.func55, Try.ntmps55
  go_wp2_with (first | ((with_reducible refine gate_dst (N := 1) rfl ?_); refine bE (N := 1) (cs := #[.int .i64 a0_0, .int .i64 a0_1, .slice A0_2 l0_2.length c0_2]) (t := 77) ?_; intro gb101 hg w15 hbox hb; have GW101 := qw HB hg; have GE101 := qw HB hg; replace HO0_2 := qv HO0_2 hg hb; have BK101 := aK hbox; replace HB := qs HB hb; clear hb hbox hg) | ((with_reducible refine gate_dst (N := 2) rfl ?_); refine bE (N := 2) (cs := #[.int .i64 0, .int .i64 0, .slice none 0 0]) (t := 77) ?_; intro gb102 hg w16 hbox hb; have GW102 := qw HB hg; have GE102 := qw HB hg; have NB101_102 := ql BK101 hg; have NB102_101 := qg BK101 hg; replace HO0_2 := qv HO0_2 hg hb; replace BK101 := qb BK101 hb; have BK102 := aK hbox; replace HB := qs HB hb; clear hb hbox hg; have hnb17 := NB101_102.out; have hnc17 := NB102_101.out; have hcz18_0 := k30 BK101; have hcz18_1 := k31 BK101; have hcz18_2 := k32 BK101; have hfz18_0 := fz BK101 0; have hfz18_1 := fz BK101 1; have hfz18_2 := fz BK101 2) | ((with_reducible refine gate_callee (f := 78) rfl ?_); refine goesL_ (some 12) rfl rfl Try.func78 (by kernel_rfl) rfl #[.agg #[.int .i64 a0_0, .int .i64 a0_1, .slice A0_2 l0_2.length c0_2]] rfl tA ?_; (with_reducible refine (spec_ldHead.calls a0_0 a0_1 (fun k_ => (((P0_2_ k_ ∨ w.heap.size ≤ k_) ∧ k_ ≠ gb101) ∧ k_ ≠ gb102)) _ _ l0_2 t103 t104 t105 false _ ?side1 A2.out).mono ?_); (case side1 => exact HO0_2.out); rintro e w19 ⟨v106, rfl, ho0, hb⟩; refine ⟨_, rfl, ?_⟩; have n0_ := aK (Kd.V_below HO0_2.out hb); have HO107 := aK (Kd.V_lower (Kd.V_mono (ok' := fun k_ => (P0_2_ k_ ∨ w.heap.size ≤ k_) ∧ k_ ≠ gb101 ∧ k_ ≠ gb102) ho0 (fun k_ hk_ => ⟨Or.elim hk_ (fun hs_ => hs_.1.1) (fun hn_ => (.inr (Nat.le_trans (below_size HB.out) hn_))), Or.elim hk_ (fun hs_ => hs_.1.2) (fun hn_ => (Kd.freshB BK101.out k_ hn_)), Or.elim hk_ (fun hs_ => hs_.2) (fun hn_ => (Kd.freshB BK102.out k_ hn_))⟩)) (below_size HB.out)); replace BK101 := qb BK101 hb; replace BK102 := qb BK102 hb; clear HO0_2; have HO0_2 := n0_; clear n0_; replace HB := qs HB hb; (try clear hb); (try clear ho0)) | ((with_reducible refine gate_dst (N := 4) rfl ?_); refine bE (N := 4) (cs := #[.int .i64 0, .int .i64 0, .slice none 0 0]) (t := 77) ?_; intro gb109 hg w20 hbox hb; have GW109 := qw HB hg; have GE109 := qw HB hg; have NB101_109 := ql BK101 hg; have NB109_101 := qg BK101 hg; have NB102_109 := ql BK102 hg; have NB109_102 := qg BK102 hg; replace HO0_2 := qv HO0_2 hg hb; replace HO107 := qv HO107 hg hb; replace BK101 := qb BK101 hb; replace BK102 := qb BK102 hb; have BK109 := aK hbox; replace HB := qs HB hb; clear hb hbox hg; have hnb21 := NB109_101.out; have hnc21 := NB101_109.out; have hnb22 := NB109_102.out; have hnc22 := NB102_109.out; have hcz23_0 := k30 BK109; have hcz23_1 := k31 BK109; have hcz23_2 := k32 BK109; have hfz23_0 := fz BK109 0; have hfz23_1 := fz BK109 1; have hfz23_2 := fz BK109 2; obtain ⟨Ao24, co24, eo24⟩ := Kd.V_slice HO107.out; subst eo24; have hcz25_0 := k30 BK101; have hcz25_1 := k31 BK101; have hcz25_2 := k32 BK101; have hfz25_0 := fz BK101 0; have hfz25_1 := fz BK101 1; have hfz25_2 := fz BK101 2) | ((with_reducible refine gate_dst (N := 6) rfl ?_); refine bE (N := 6) (cs := #[.int .i64 0, .int .i64 0, .slice none 0 0]) (t := 77) ?_; intro gb110 hg w26 hbox hb; have n0_ := aK (Kd.V_below (Kd.V_elderB (by (with_reducible repeat (first | apply Kd.V_alloc | apply Kd.V_drewN | apply Kd.V_drew)); exact (Kd.V_mono (vF3 gb109 (Kd.V_mono HO0_2.out (fun k_ hk => (⟨hk, hk.2⟩ : _ ∧ k_ ≠ gb109))) (fun _ hk => hk.2)) (fun _ h_ => h_.1))) gb110 (Nat.le_of_eq hg.symm)) hb); have n1_ := aK (Kd.V_below (Kd.V_elderB (by (with_reducible repeat (first | apply Kd.V_alloc | apply Kd.V_drewN | apply Kd.V_drew)); exact (Kd.V_mono (vF3 gb109 (Kd.V_mono HO107.out (fun k_ hk => (⟨hk, hk.2⟩ : _ ∧ k_ ≠ gb109))) (fun _ hk => hk.2)) (fun _ h_ => h_.1))) gb110 (Nat.le_of_eq hg.symm)) hb); have n2_ := aK (blk_below (g := gb101) (o := .cells #[.int .i64 a0_0, .int .i64 a0_1, .slice A0_2 l0_2.length c0_2] 77 (0, 0)) (by (repeat first | with_reducible apply zN | with_reducible apply zD | with_reducible apply zA | refine blk_far ?_ NB101_109.out _); exact BK101.out) hb); have n3_ := aK (blk_below (g := gb102) (o := .cells #[.int .i64 0, .int .i64 0, .slice none 0 0] 77 (0, 0)) (by (repeat first | with_reducible apply zN | with_reducible apply zD | with_reducible apply zA | refine blk_far ?_ NB102_109.out _); exact BK102.out) hb); have n4_ := aK (blk_below (g := gb109) (o := .cells #[.int .i64 t103, .int .i64 t104, .slice Ao24 t105.length co24] 77 (0, 0)) (p3 BK109) hb); have n5_ := aK (below_step (pH HB) hb); have n6_ := aK (hbox); have n7_ := aK ((by rw [hg]; exact (below_size (pH HB)) : w.heap.size ≤ gb110)); have n8_ := aK ((by rw [hg]; exact (below_size (pH HB)) : w.heap.size ≤ gb110)); have n9_ := aK ((by rw [hg]; exact Nat.ne_of_lt (blk_lt (g := gb101) (o := .cells #[.int .i64 a0_0, .int .i64 a0_1, .slice A0_2 l0_2.length c0_2] 77 (0, 0)) (by (repeat first | with_reducible apply zN | with_reducible apply zD | with_reducible apply zA | refine blk_far ?_ NB101_109.out _); exact BK101.out)) : gb101 ≠ gb110)); have n10_ := aK ((by rw [hg]; exact Nat.ne_of_gt (blk_lt (g := gb101) (o := .cells #[.int .i64 a0_0, .int .i64 a0_1, .slice A0_2 l0_2.length c0_2] 77 (0, 0)) (by (repeat first | with_reducible apply zN | with_reducible apply zD | with_reducible apply zA | refine blk_far ?_ NB101_109.out _); exact BK101.out)) : gb110 ≠ gb101)); have n11_ := aK ((by rw [hg]; exact Nat.ne_of_lt (blk_lt (g := gb102) (o := .cells #[.int .i64 0, .int .i64 0, .slice none 0 0] 77 (0, 0)) (by (repeat first | with_reducible apply zN | with_reducible apply zD | with_reducible apply zA | refine blk_far ?_ NB102_109.out _); exact BK102.out)) : gb102 ≠ gb110)); have n12_ := aK ((by rw [hg]; exact Nat.ne_of_gt (blk_lt (g := gb102) (o := .cells #[.int .i64 0, .int .i64 0, .slice none 0 0] 77 (0, 0)) (by (repeat first | with_reducible apply zN | with_reducible apply zD | with_reducible apply zA | refine blk_far ?_ NB102_109.out _); exact BK102.out)) : gb110 ≠ gb102)); have n13_ := aK ((by rw [hg]; exact Nat.ne_of_lt (blk_lt (g := gb109) (o := .cells #[.int .i64 t103, .int .i64 t104, .slice Ao24 t105.length co24] 77 (0, 0)) (p3 BK109)) : gb109 ≠ gb110)); have n14_ := aK ((by rw [hg]; exact Nat.ne_of_gt (blk_lt (g := gb109) (o := .cells #[.int .i64 t103, .int .i64 t104, .slice Ao24 t105.length co24] 77 (0, 0)) (p3 BK109)) : gb110 ≠ gb109)); clear HO0_2; clear HO107; clear BK101; clear BK102; clear BK109; clear HB; have HO0_2 := n0_; have HO107 := n1_; have BK101 := n2_; have BK102 := n3_; have BK109 := n4_; have HB := n5_; have BK110 := n6_; have GW110 := n7_; have GE110 := n8_; have NB101_110 := n9_; have NB110_101 := n10_; have NB102_110 := n11_; have NB110_102 := n12_; have NB109_110 := n13_; have NB110_109 := n14_; clear n0_ n1_ n2_ n3_ n4_ n5_ n6_ n7_ n8_ n9_ n10_ n11_ n12_ n13_ n14_; clear hb hbox hg; have hnb27 := NB110_101.out; have hnc27 := NB101_110.out; have hnb28 := NB110_102.out; have hnc28 := NB102_110.out; have hnb29 := NB110_109.out; have hnc29 := NB109_110.out; have hcz30_0 := k30 BK110; have hcz30_1 := k31 BK110; have hcz30_2 := k32 BK110; have hfz30_0 := fz BK110 0; have hfz30_1 := fz BK110 1; have hfz30_2 := fz BK110 2; have hcz31_0 := k30 BK101; have hcz31_1 := k31 BK101; have hcz31_2 := k32 BK101; have hfz31_0 := fz BK101 0; have hfz31_1 := fz BK101 1; have hfz31_2 := fz BK101 2))
  go_loopg [7, 25] k (fun kq v7 v25 w' => ∃ (x7_1 : Bool) (x25_1 : Int) (x111002_1 : List (S77)) (u111002 : Value), v7 = .bool x7_1 ∧ v25 = .int .i64 x25_1 ∧ Aside0 (spec_ldStep.l0 kq x7_1 l0_2 (l0_2.length : Int) x25_1 a0_0 a0_1 x111002_1 = some (r1, r2, r3, r4)) ∧ Aside0 (kq ≤ k) ∧ Aside0 (Kd.V k77 77 w' w.heap.size (fun k_ => (P0_2_ k_ ∨ w.heap.size ≤ k_) ∧ some k_ ≠ (u111002 : Value).ownBlock ∧ k_ ≠ gb101 ∧ k_ ≠ gb102 ∧ k_ ≠ gb109 ∧ k_ ≠ gb110) (.slice A0_2 l0_2.length c0_2) l0_2) ∧ Aside0 (Kd.V k77 77 w' w.heap.size (fun k_ => (P0_2_ k_ ∨ w.heap.size ≤ k_) ∧ some k_ ≠ (u111002 : Value).ownBlock ∧ k_ ≠ gb101 ∧ k_ ≠ gb102 ∧ k_ ≠ gb109 ∧ k_ ≠ gb110) (.slice A0_2 l0_2.length c0_2) l0_2) ∧ Aside0 (Kd.V k77 77 w' w.heap.size (fun k_ => (P0_2_ k_ ∨ w.heap.size ≤ k_) ∧ some k_ ≠ (u111002 : Value).ownBlock ∧ k_ ≠ gb101 ∧ k_ ≠ gb102 ∧ k_ ≠ gb109 ∧ k_ ≠ gb110) (.slice Ao24 t105.length co24) t105) ∧ Aside0 (Kd.N k77 77 w' w.heap.size (fun k_ => (P0_2_ k_ ∨ w.heap.size ≤ k_) ∧ k_ ≠ gb101 ∧ k_ ≠ gb102 ∧ k_ ≠ gb109 ∧ k_ ≠ gb110) u111002 x111002_1) ∧ Aside0 (w'.heap[gb101]? = some (.cells #[.int .i64 a0_0, .int .i64 a0_1, (.slice A0_2 l0_2.length c0_2)] 77 (0, 0))) ∧ Aside0 (w'.heap[gb102]? = some (.cells #[.int .i64 0, .int .i64 0, (.slice none 0 0)] 77 (0, 0))) ∧ Aside0 (w'.heap[gb109]? = some (.cells #[.int .i64 t103, .int .i64 t104, (.slice Ao24 t105.length co24)] 77 (0, 0))) ∧ Aside0 (w'.heap[gb110]? = some (.cells #[.int .i64 a0_0, .int .i64 a0_1, u111002] 77 (0, 0))) ∧ Aside0 (Below w.heap.size w w'))
  case atStart => exact ⟨(false), (0), (([] : List (S77))), (.slice none 0 0), rS, rS, H', ⟨Nat.le_refl _⟩, ⟨by (with_reducible repeat (first | apply Kd.V_alloc | apply Kd.V_drewN | apply Kd.V_drew)); exact Kd.V_mono (vF3 gb110 (Kd.V_mono HO0_2.out (fun k_ hk => (⟨hk, hk.2⟩ : _ ∧ k_ ≠ gb110))) (fun _ hk => hk.2)) (fun _ hk => ⟨hk.1.1.1.1.1, ⟨(by simp [Value.ownBlock]), ⟨hk.1.1.1.1.2, ⟨hk.1.1.1.2, ⟨hk.1.1.2, hk.1.2⟩⟩⟩⟩⟩)⟩, ⟨by (with_reducible repeat (first | apply Kd.V_alloc | apply Kd.V_drewN | apply Kd.V_drew)); exact Kd.V_mono (vF3 gb110 (Kd.V_mono HO0_2.out (fun k_ hk => (⟨hk, hk.2⟩ : _ ∧ k_ ≠ gb110))) (fun _ hk => hk.2)) (fun _ hk => ⟨hk.1.1.1.1.1, ⟨(by simp [Value.ownBlock]), ⟨hk.1.1.1.1.2, ⟨hk.1.1.1.2, ⟨hk.1.1.2, hk.1.2⟩⟩⟩⟩⟩)⟩, ⟨by (with_reducible repeat (first | apply Kd.V_alloc | apply Kd.V_drewN | apply Kd.V_drew)); exact Kd.V_mono (vF3 gb110 (Kd.V_mono HO107.out (fun k_ hk => (⟨hk, hk.2⟩ : _ ∧ k_ ≠ gb110))) (fun _ hk => hk.2)) (fun _ hk => ⟨hk.1.1.1.1, ⟨(by simp [Value.ownBlock]), ⟨hk.1.1.1.2.1, ⟨hk.1.1.1.2.2, ⟨hk.1.1.2, hk.1.2⟩⟩⟩⟩⟩)⟩, ⟨by first | exact Kd.R_nil _ _ _ _ _ | exact Kd.N_nil _ _ _ _ _ | exact Kd.V_nil _ _ _ _ _ | exact Kd.Q_nil _ _ _ _ _ | exact Kd.S_nil _ _ _ _ _⟩, ⟨by (repeat first | with_reducible apply zN | with_reducible apply zD | with_reducible apply zA | refine blk_far ?_ NB101_110.out _); exact BK101.out⟩, ⟨by (repeat first | with_reducible apply zN | with_reducible apply zD | with_reducible apply zA | refine blk_far ?_ NB102_110.out _); exact BK102.out⟩, ⟨by (repeat first | with_reducible apply zN | with_reducible apply zD | with_reducible apply zA | refine blk_far ?_ NB109_110.out _); exact BK109.out⟩, ⟨p3 BK110⟩, ⟨pH HB⟩⟩
  case round =>
   clear H'
   try clear c1
   try clear c2
   try clear p2
   try clear c3
   try clear c5
   try clear c6
   try clear c7
   try clear c10
   try clear c11
   try clear c17
   try clear c21
   try clear c22
   try clear c27
   try clear c28
   try clear c29
   try clear hcz12_0
   try clear hcz12_1
   try clear hcz12_2
   try clear hcz14_0
   try clear hcz14_1
   try clear hcz14_2
   try clear hcz18_0
   try clear hcz18_1
   try clear hcz18_2
   try clear hcz23_0
   try clear hcz23_1
   try clear hcz23_2
   try clear hcz25_0
   try clear hcz25_1
   try clear hcz25_2
   try clear hcz30_0
   try clear hcz30_1
   try clear hcz30_2
   try clear hcz31_0
   try clear hcz31_1
   try clear hcz31_2
   try clear hcz7_0
   try clear hcz7_1
   try clear hcz7_2
   try clear hfz12_0
   try clear hfz12_1
   try clear hfz12_2
   try clear hfz14_0
   try clear hfz14_1
   try clear hfz14_2
   try clear hfz18_0
   try clear hfz18_1
   try clear hfz18_2
   try clear hfz23_0
   try clear hfz23_1
   try clear hfz23_2
   try clear hfz25_0
   try clear hfz25_1
   try clear hfz25_2
   try clear hfz30_0
   try clear hfz30_1
   try clear hfz30_2
   try clear hfz31_0
   try clear hfz31_1
   try clear hfz31_2
   try clear hfz7_0
   try clear hfz7_1
   try clear hfz7_2
   obtain ⟨x7_1, x25_1, x111002_1, u111002, rfl, rfl, HA, HK1, HO_23, HO_102002, HO_110002, HO_111002, BK101, BK102, BK109, BK110, HB⟩ := hrel
   cases gk with
   | zero => exact absurd HA.out (by simp [spec_ldStep.l0])
   | succ k1 =>
    have H := HA.out
    clear HA
    simp only [spec_ldStep.l0] at H
    by_cases c32 : x25_1 < (l0_2.length : Int)
    ·rw [if_pos c32] at H
     have c32b0 : decide (x25_1 < (l0_2.length : Int)) = true := decide_eq_true c32
     clear c32
     by_cases c33 : 0 ≤ x25_1
     ·rw [if_pos c33] at H
      have c33b0 : decide (0 ≤ x25_1) = true := decide_eq_true c33
      clear c33
      by_cases c34 : x25_1 < (l0_2.length : Int)
      ·rw [if_pos c34] at H
       have c34b0 : decide (x25_1 < (l0_2.length : Int)) = true := decide_eq_true c34
       clear c34
       by_cases c35 : x7_1 = true
       ·subst c35
        rw [if_pos rfl] at H
        by_cases c36 : x111002_1.length < 3518437208883
        ·rw [if_pos c36] at H
         have LMc36 := aK c36
         clear c36
         obtain ⟨y113, hy113⟩ : ∃ y_ : List (S77), y_ = (x111002_1 ++ [(⟨(rd_T77 l0_2 x25_1).f0, (rd_T77 l0_2 x25_1).f1, (rd_T77 l0_2 x25_1).f2⟩ : S77)]) := ⟨_, rfl⟩
         replace H : (spec_ldStep.l0 k1 true l0_2 (l0_2.length : Int) (wrap64 (x25_1 + 1)) a0_0 a0_1 y113) = some (r1, r2, r3, r4) := by first | (rw [hy113]; with_reducible exact H) | (have H2_ := (Option.bind_some _ _).symm.trans H; rw [hy113]; with_reducible exact H2_) | (have H2_ := (Option.bind_some _ _).symm.trans H; with_reducible exact H2_) | with_reducible exact H | (rw [hy113]; exact H) | exact H
         have Ny113 := aK hy113
         clear hy113
         have H' := aK H
         clear H
         have p111 : 0 ≤ (x25_1 : Int) := dA
         have q111 : x25_1 < (l0_2.length : Int) := dA
         obtain ⟨ad111, A111_2, c111_2, e111, hx111_0, hx111_1, hx111_2, hl111_2, hi111_2⟩ := at_T77 (Kd.V_reads' HO_23.out).2.2 x25_1 p111 q111
         cases e111
         obtain ⟨ce111, hce111, hMe111, hcc111⟩ := Kd.V_get HO_23.out z77 x25_1 p111 (by first | exact q111 | exact dA | (have e_ := (Kd.V_reads' HO_23.out).1; omega))
         obtain ⟨ua111_2, uc111_2, rfl, ul111_2, ge111_2⟩ := k77_openF hMe111
         have hv111_2 := hcc111 2 _ rfl
         rw [add_field _ _ 2 (by omega)] at hv111_2
         replace hv111_2 := Option.some.inj (hv111_2.symm.trans hx111_2)
         injection hv111_2 with hva_ hvn_ hvc_
         rw [hva_] at ge111_2
         rw [hvc_] at ul111_2
         have HL111_2 := aK (show Kd.V k77 77 _ w.heap.size _ _ ((rd_T77 l0_2 x25_1).f2) from Kd.V_mk ul111_2 ge111_2)
         clear hva_ hvn_ hvc_ ge111_2 ul111_2
         clear hcc111 hce111
         have HR111_2 := aK hi111_2
         have HC111_2 := aK hl111_2
         clear hi111_2 hl111_2
         replace p111 := eq_true p111
         replace q111 := eq_true q111
         go_wp2_with (first | ((with_reducible refine gate_dst (N := 9) rfl ?_); refine bE (N := 9) (cs := #[.int .i64 0, .int .i64 0, .slice none 0 0]) (t := 77) ?_; intro gb112 hg w37 hbox hb; have GW112 := qw HB hg; have GE112 := qw HB hg; have NB101_112 := ql BK101 hg; have NB112_101 := qg BK101 hg; have NB102_112 := ql BK102 hg; have NB112_102 := qg BK102 hg; have NB109_112 := ql BK109 hg; have NB112_109 := qg BK109 hg; have NB110_112 := ql BK110 hg; have NB112_110 := qg BK110 hg; replace HR111_2 := qc HR111_2 hb; replace HO_23 := qv HO_23 hg hb; replace HO_102002 := qv HO_102002 hg hb; replace HO_110002 := qv HO_110002 hg hb; replace HO_111002 := qn HO_111002 hg hb; replace HL111_2 := qv HL111_2 hg hb; replace BK101 := qb BK101 hb; replace BK102 := qb BK102 hb; replace BK109 := qb BK109 hb; replace BK110 := qb BK110 hb; have BK112 := aK hbox; replace HB := qs HB hb; clear hb hbox hg; have hnb38 := NB112_101.out; have hnc38 := NB101_112.out; have hnb39 := NB112_102.out; have hnc39 := NB102_112.out; have hnb40 := NB112_109.out; have hnc40 := NB109_112.out; have hnb41 := NB112_110.out; have hnc41 := NB110_112.out; have hcz42_0 := k30 BK112; have hcz42_1 := k31 BK112; have hcz42_2 := k32 BK112; have hfz42_0 := fz BK112 0; have hfz42_1 := fz BK112 1; have hfz42_2 := fz BK112 2) | ((with_reducible refine gate_store (t := 77) (p := 9) rfl ?_); refine store_event (t := 77) (p := 9) (v := ?vo_w43) (w1 := (((w37.setCell ⟨gb112, 0, none⟩ (.int .i64 ((rd_T77 l0_2 x25_1).f0))).setCell ⟨gb112, 1, none⟩ (.int .i64 ((rd_T77 l0_2 x25_1).f1))).setCell ⟨gb112, 2, none⟩ (.slice A111_2 ((rd_T77 l0_2 x25_1).f2).length c111_2))) ?hg ?ho ?hn ?hr ?_; (case ho => rfl); (case hg => rfl); (case hn => rfl); (case hr => first | (go_simp; done) | (go_simp; rfl)); intro w43 hw; have n0_ : Aside0 (Kd.V k77 77 w43 w.heap.size (fun k_ => (P0_2_ k_ ∨ w.heap.size ≤ k_) ∧ some k_ ≠ (u111002 : Value).ownBlock ∧ k_ ≠ gb101 ∧ k_ ≠ gb102 ∧ k_ ≠ gb109 ∧ k_ ≠ gb110 ∧ k_ ≠ gb112) (.slice (some ad111) l0_2.length c0_2) l0_2) := ⟨(by rw [hw]; exact (by (with_reducible repeat (first | apply Kd.V_alloc | apply Kd.V_drewN | apply Kd.V_drew)); exact Kd.V_mono (vF3 gb112 (Kd.V_mono HO_23.out (fun k_ hk => (⟨hk, hk.2⟩ : _ ∧ k_ ≠ gb112))) (fun _ hk => hk.2)) (fun _ hk => ⟨hk.1.1.1, ⟨hk.1.1.2.1, ⟨hk.1.1.2.2.1, ⟨hk.1.1.2.2.2.1, ⟨hk.1.1.2.2.2.2.1, ⟨hk.1.1.2.2.2.2.2, hk.1.2⟩⟩⟩⟩⟩⟩)))⟩; have n1_ : Aside0 (Kd.V k77 77 w43 w.heap.size (fun k_ => (P0_2_ k_ ∨ w.heap.size ≤ k_) ∧ some k_ ≠ (u111002 : Value).ownBlock ∧ k_ ≠ gb101 ∧ k_ ≠ gb102 ∧ k_ ≠ gb109 ∧ k_ ≠ gb110 ∧ k_ ≠ gb112) (.slice (some ad111) l0_2.length c0_2) l0_2) := ⟨(by rw [hw]; exact (by (with_reducible repeat (first | apply Kd.V_alloc | apply Kd.V_drewN | apply Kd.V_drew)); exact Kd.V_mono (vF3 gb112 (Kd.V_mono HO_102002.out (fun k_ hk => (⟨hk, hk.2⟩ : _ ∧ k_ ≠ gb112))) (fun _ hk => hk.2)) (fun _ hk => ⟨hk.1.1.1, ⟨hk.1.1.2.1, ⟨hk.1.1.2.2.1, ⟨hk.1.1.2.2.2.1, ⟨hk.1.1.2.2.2.2.1, ⟨hk.1.1.2.2.2.2.2, hk.1.2⟩⟩⟩⟩⟩⟩)))⟩; have n2_ : Aside0 (Kd.V k77 77 w43 w.heap.size (fun k_ => (P0_2_ k_ ∨ w.heap.size ≤ k_) ∧ some k_ ≠ (u111002 : Value).ownBlock ∧ k_ ≠ gb101 ∧ k_ ≠ gb102 ∧ k_ ≠ gb109 ∧ k_ ≠ gb110 ∧ k_ ≠ gb112) (.slice Ao24 t105.length co24) t105) := ⟨(by rw [hw]; exact (by (with_reducible repeat (first | apply Kd.V_alloc | apply Kd.V_drewN | apply Kd.V_drew)); exact Kd.V_mono (vF3 gb112 (Kd.V_mono HO_110002.out (fun k_ hk => (⟨hk, hk.2⟩ : _ ∧ k_ ≠ gb112))) (fun _ hk => hk.2)) (fun _ hk => ⟨hk.1.1.1, ⟨hk.1.1.2.1, ⟨hk.1.1.2.2.1, ⟨hk.1.1.2.2.2.1, ⟨hk.1.1.2.2.2.2.1, ⟨hk.1.1.2.2.2.2.2, hk.1.2⟩⟩⟩⟩⟩⟩)))⟩; have n3_ : Aside0 (Kd.N k77 77 w43 w.heap.size (fun k_ => (P0_2_ k_ ∨ w.heap.size ≤ k_) ∧ k_ ≠ gb101 ∧ k_ ≠ gb102 ∧ k_ ≠ gb109 ∧ k_ ≠ gb110 ∧ k_ ≠ gb112) u111002 x111002_1) := ⟨(by rw [hw]; exact (by (with_reducible repeat (first | apply Kd.N_alloc | apply Kd.N_drewN | apply Kd.N_drew)); exact Kd.N_mono (nF3 gb112 (Kd.N_mono HO_111002.out (fun k_ hk => (⟨hk, hk.2⟩ : _ ∧ k_ ≠ gb112))) (fun _ hk => hk.2)) (fun _ hk => ⟨hk.1.1.1, ⟨hk.1.1.2.1, ⟨hk.1.1.2.2.1, ⟨hk.1.1.2.2.2.1, ⟨hk.1.1.2.2.2.2, hk.1.2⟩⟩⟩⟩⟩)))⟩; have n4_ : Aside0 (Kd.V k77 77 w43 w.heap.size (fun k_ => (P0_2_ k_ ∨ w.heap.size ≤ k_) ∧ some k_ ≠ (u111002 : Value).ownBlock ∧ k_ ≠ gb101 ∧ k_ ≠ gb102 ∧ k_ ≠ gb109 ∧ k_ ≠ gb110 ∧ k_ ≠ gb112) (.slice A111_2 ((rd_T77 l0_2 x25_1).f2).length c111_2) ((rd_T77 l0_2 x25_1).f2)) := ⟨(by rw [hw]; exact (by (with_reducible repeat (first | apply Kd.V_alloc | apply Kd.V_drewN | apply Kd.V_drew)); exact Kd.V_mono (vF3 gb112 (Kd.V_mono HL111_2.out (fun k_ hk => (⟨hk, hk.2⟩ : _ ∧ k_ ≠ gb112))) (fun _ hk => hk.2)) (fun _ hk => ⟨hk.1.1.1, ⟨hk.1.1.2.1, ⟨hk.1.1.2.2.1, ⟨hk.1.1.2.2.2.1, ⟨hk.1.1.2.2.2.2.1, ⟨hk.1.1.2.2.2.2.2, hk.1.2⟩⟩⟩⟩⟩⟩)))⟩; have n5_ : Aside0 (w43.heap[gb101]? = some (.cells #[.int .i64 a0_0, .int .i64 a0_1, .slice (some ad111) l0_2.length c0_2] 77 (0, 0))) := ⟨(by rw [hw]; exact (by (repeat first | with_reducible apply zN | with_reducible apply zD | with_reducible apply zA | refine blk_far ?_ NB101_112.out _); exact BK101.out))⟩; have n6_ : Aside0 (w43.heap[gb102]? = some (.cells #[.int .i64 0, .int .i64 0, .slice none 0 0] 77 (0, 0))) := ⟨(by rw [hw]; exact (by (repeat first | with_reducible apply zN | with_reducible apply zD | with_reducible apply zA | refine blk_far ?_ NB102_112.out _); exact BK102.out))⟩; have n7_ : Aside0 (w43.heap[gb109]? = some (.cells #[.int .i64 t103, .int .i64 t104, .slice Ao24 t105.length co24] 77 (0, 0))) := ⟨(by rw [hw]; exact (by (repeat first | with_reducible apply zN | with_reducible apply zD | with_reducible apply zA | refine blk_far ?_ NB109_112.out _); exact BK109.out))⟩; have n8_ : Aside0 (w43.heap[gb110]? = some (.cells #[.int .i64 a0_0, .int .i64 a0_1, u111002] 77 (0, 0))) := ⟨(by rw [hw]; exact (by (repeat first | with_reducible apply zN | with_reducible apply zD | with_reducible apply zA | refine blk_far ?_ NB110_112.out _); exact BK110.out))⟩; have n9_ : Aside0 (w43.heap[gb112]? = some (.cells #[.int .i64 ((rd_T77 l0_2 x25_1).f0), .int .i64 ((rd_T77 l0_2 x25_1).f1), .slice A111_2 ((rd_T77 l0_2 x25_1).f2).length c111_2] 77 (0, 0))) := ⟨(by rw [hw]; exact (p3 BK112))⟩; have n10_ : Aside0 (Below w.heap.size w w43) := ⟨(by rw [hw]; exact (pH HB))⟩; clear hw; clear HO_23; clear HO_102002; clear HO_110002; clear HO_111002; clear HL111_2; clear BK101; clear BK102; clear BK109; clear BK110; clear BK112; clear HB; have HO_23 := n0_; have HO_102002 := n1_; have HO_110002 := n2_; have HO_111002 := n3_; have HL111_2 := n4_; have BK101 := n5_; have BK102 := n6_; have BK109 := n7_; have BK110 := n8_; have BK112 := n9_; have HB := n10_; clear n0_ n1_ n2_ n3_ n4_ n5_ n6_ n7_ n8_ n9_ n10_; have hnb44 := NB110_101.out; have hnc44 := NB101_110.out; have hnb45 := NB110_102.out; have hnc45 := NB102_110.out; have hnb46 := NB110_109.out; have hnc46 := NB109_110.out; have hcz47_0 := k30 BK110; have hcz47_1 := k31 BK110; have hcz47_2 := k32 BK110; have hfz47_0 := fz BK110 0; have hfz47_1 := fz BK110 1; have hfz47_2 := fz BK110 2; have hcz48_0 := k30 BK112; have hcz48_1 := k31 BK112; have hcz48_2 := k32 BK112; have hfz48_0 := fz BK112 0; have hfz48_1 := fz BK112 1; have hfz48_2 := fz BK112 2) | ((with_reducible refine gate_builtin (b := .append) (xs := #[.tmp 37, .tmp 39]) rfl ?_); at_builtin; refine Kd.N_append k77 (w0 := w) w.heap.size rfl (.tmp 37) (.tmp 39) 75 77 (.agg #[(.int .i64 0), (.int .i64 0), (.slice none 0 0)]) 40 rfl Try.underlying75 info77 rfl (by decide) (by omega) u111002 x111002_1 (⟨(rd_T77 l0_2 x25_1).f0, (rd_T77 l0_2 x25_1).f1, (rd_T77 l0_2 x25_1).f2⟩ : S77) [.int .i64 ((rd_T77 l0_2 x25_1).f0), .int .i64 ((rd_T77 l0_2 x25_1).f1), .slice A111_2 ((rd_T77 l0_2 x25_1).f2).length c111_2] (fun k_ => (P0_2_ k_ ∨ w.heap.size ≤ k_) ∧ k_ ≠ gb101 ∧ k_ ≠ gb102 ∧ k_ ≠ gb109 ∧ k_ ≠ gb110 ∧ k_ ≠ gb112) (fun k_ => ((fun k_ => (P0_2_ k_ ∨ w.heap.size ≤ k_) ∧ k_ ≠ gb101 ∧ k_ ≠ gb102 ∧ k_ ≠ gb109 ∧ k_ ≠ gb110 ∧ k_ ≠ gb112)) k_ ∧ some k_ ≠ (u111002 : Value).ownBlock) rfl rfl ?aP (fun _ hk => hk) ?aF ?aO ?aB ?aS ?aL ?_; (case aP => exact (k77_mkF _ _ (⟨(rd_T77 l0_2 x25_1).f0, (rd_T77 l0_2 x25_1).f1, (rd_T77 l0_2 x25_1).f2⟩ : S77) (Kd.V_reads' (Kd.V_mono (ok' := (fun k_ => ((fun k_ => (P0_2_ k_ ∨ w.heap.size ≤ k_) ∧ k_ ≠ gb101 ∧ k_ ≠ gb102 ∧ k_ ≠ gb109 ∧ k_ ≠ gb110 ∧ k_ ≠ gb112)) k_ ∧ some k_ ≠ (u111002 : Value).ownBlock)) (HL111_2.out) (fun k_ hk => ⟨⟨hk.1, ⟨hk.2.2.1, ⟨hk.2.2.2.1, ⟨hk.2.2.2.2.1, ⟨hk.2.2.2.2.2.1, hk.2.2.2.2.2.2⟩⟩⟩⟩⟩, hk.2.1⟩))).2.1 (Kd.V_F (Kd.V_mono (ok' := (fun k_ => ((fun k_ => (P0_2_ k_ ∨ w.heap.size ≤ k_) ∧ k_ ≠ gb101 ∧ k_ ≠ gb102 ∧ k_ ≠ gb109 ∧ k_ ≠ gb110 ∧ k_ ≠ gb112)) k_ ∧ some k_ ≠ (u111002 : Value).ownBlock)) (HL111_2.out) (fun k_ hk => ⟨⟨hk.1, ⟨hk.2.2.1, ⟨hk.2.2.2.1, ⟨hk.2.2.2.2.1, ⟨hk.2.2.2.2.2.1, hk.2.2.2.2.2.2⟩⟩⟩⟩⟩, hk.2.1⟩))))); (case aB => exact (pH HB)); (case aF => exact (fun k_ hk => ⟨(.inr (Nat.le_trans (below_size (pH HB)) hk)), Kd.freshB BK101.out k_ hk, Kd.freshB BK102.out k_ hk, Kd.freshB BK109.out k_ hk, Kd.freshB BK110.out k_ hk, Kd.freshB BK112.out k_ hk⟩)); (case aO => exact HO_111002.out); (case aS => exact (below_size (pH HB))); (case aL => have := LMc36.out; omega); intro v114 w49 ho hb hg hat; rw [← Ny113.out] at ho; have n0_ := aK (Kd.V_afterv (ok := (fun k_ => (P0_2_ k_ ∨ w.heap.size ≤ k_) ∧ k_ ≠ gb101 ∧ k_ ≠ gb102 ∧ k_ ≠ gb109 ∧ k_ ≠ gb110 ∧ k_ ≠ gb112)) (by (with_reducible repeat (first | apply Kd.V_alloc | apply Kd.V_drewN | apply Kd.V_drew)); exact Kd.V_mono HO_23.out (fun _ hk => ⟨⟨hk.1, ⟨hk.2.2.1, ⟨hk.2.2.2.1, ⟨hk.2.2.2.2.1, ⟨hk.2.2.2.2.2.1, hk.2.2.2.2.2.2⟩⟩⟩⟩⟩, hk.2.1⟩)) hg hat); have n1_ := aK (Kd.V_afterv (ok := (fun k_ => (P0_2_ k_ ∨ w.heap.size ≤ k_) ∧ k_ ≠ gb101 ∧ k_ ≠ gb102 ∧ k_ ≠ gb109 ∧ k_ ≠ gb110 ∧ k_ ≠ gb112)) (by (with_reducible repeat (first | apply Kd.V_alloc | apply Kd.V_drewN | apply Kd.V_drew)); exact Kd.V_mono HO_102002.out (fun _ hk => ⟨⟨hk.1, ⟨hk.2.2.1, ⟨hk.2.2.2.1, ⟨hk.2.2.2.2.1, ⟨hk.2.2.2.2.2.1, hk.2.2.2.2.2.2⟩⟩⟩⟩⟩, hk.2.1⟩)) hg hat); have n2_ := aK (Kd.V_afterv (ok := (fun k_ => (P0_2_ k_ ∨ w.heap.size ≤ k_) ∧ k_ ≠ gb101 ∧ k_ ≠ gb102 ∧ k_ ≠ gb109 ∧ k_ ≠ gb110 ∧ k_ ≠ gb112)) (by (with_reducible repeat (first | apply Kd.V_alloc | apply Kd.V_drewN | apply Kd.V_drew)); exact Kd.V_mono HO_110002.out (fun _ hk => ⟨⟨hk.1, ⟨hk.2.2.1, ⟨hk.2.2.2.1, ⟨hk.2.2.2.2.1, ⟨hk.2.2.2.2.2.1, hk.2.2.2.2.2.2⟩⟩⟩⟩⟩, hk.2.1⟩)) hg hat); have n3_ := aK (blk_grown BK101.out hg (Kd.N_away HO_111002.out (fun _ hk => hk.2.1))); have n4_ := aK (blk_grown BK102.out hg (Kd.N_away HO_111002.out (fun _ hk => hk.2.2.1))); have n5_ := aK (blk_grown BK109.out hg (Kd.N_away HO_111002.out (fun _ hk => hk.2.2.2.1))); have n6_ := aK (blk_grown BK110.out hg (Kd.N_away HO_111002.out (fun _ hk => hk.2.2.2.2.1))); have n7_ := aK (Kd.V_afterv (ok := (fun k_ => (P0_2_ k_ ∨ w.heap.size ≤ k_) ∧ k_ ≠ gb101 ∧ k_ ≠ gb102 ∧ k_ ≠ gb109 ∧ k_ ≠ gb110 ∧ k_ ≠ gb112)) (by (with_reducible repeat (first | apply Kd.V_alloc | apply Kd.V_drewN | apply Kd.V_drew)); exact Kd.V_mono HL111_2.out (fun _ hk => ⟨⟨hk.1, ⟨hk.2.2.1, ⟨hk.2.2.2.1, ⟨hk.2.2.2.2.1, ⟨hk.2.2.2.2.2.1, hk.2.2.2.2.2.2⟩⟩⟩⟩⟩, hk.2.1⟩)) hg hat); have n8_ := aK (blk_grown BK112.out hg (Kd.N_away HO_111002.out (fun _ hk => hk.2.2.2.2.2))); have n9_ := aK (hb); have HO115 := aK (ho); clear HO_23; have HO_23 := n0_; clear n0_; clear HO_102002; have HO_102002 := n1_; clear n1_; clear HO_110002; have HO_110002 := n2_; clear n2_; clear BK101; have BK101 := n3_; clear n3_; clear BK102; have BK102 := n4_; clear n4_; clear BK109; have BK109 := n5_; clear n5_; clear BK110; have BK110 := n6_; clear n6_; clear HL111_2; have HL111_2 := n7_; clear n7_; clear BK112; have BK112 := n8_; clear n8_; clear HB; have HB := n9_; clear n9_; clear HO_111002; clear ho hb hg hat; obtain ⟨Ao50, co50, eo50⟩ := Kd.N_slice HO115.out; subst eo50; have hcz51_0 := k30 BK110; have hcz51_1 := k31 BK110; have hcz51_2 := k32 BK110; have hfz51_0 := fz BK110 0; have hfz51_1 := fz BK110 1; have hfz51_2 := fz BK110 2))
         go_roundg k1
         case measure => have := HK1.out; omega
         case rel => exact ⟨(true), (wrap64 (x25_1 + 1)), (y113), (.slice Ao50 y113.length co50), rS, rS, H', ⟨by have := HK1.out; omega⟩, ⟨by (with_reducible repeat (first | apply Kd.V_alloc | apply Kd.V_drewN | apply Kd.V_drew)); exact Kd.V_mono (Kd.V_far (p := ⟨gb110, 2, none⟩) (Kd.V_mono HO_23.out (fun k_ hk => (⟨hk, hk.1.2.2.2.2.1⟩ : _ ∧ k_ ≠ gb110))) (fun _ hk => hk.2) (.slice Ao50 y113.length co50)) (fun _ hk => ⟨hk.1.1.1, ⟨hk.1.2, ⟨hk.1.1.2.1, ⟨hk.1.1.2.2.1, ⟨hk.1.1.2.2.2.1, hk.1.1.2.2.2.2.1⟩⟩⟩⟩⟩)⟩, ⟨by (with_reducible repeat (first | apply Kd.V_alloc | apply Kd.V_drewN | apply Kd.V_drew)); exact Kd.V_mono (Kd.V_far (p := ⟨gb110, 2, none⟩) (Kd.V_mono HO_102002.out (fun k_ hk => (⟨hk, hk.1.2.2.2.2.1⟩ : _ ∧ k_ ≠ gb110))) (fun _ hk => hk.2) (.slice Ao50 y113.length co50)) (fun _ hk => ⟨hk.1.1.1, ⟨hk.1.2, ⟨hk.1.1.2.1, ⟨hk.1.1.2.2.1, ⟨hk.1.1.2.2.2.1, hk.1.1.2.2.2.2.1⟩⟩⟩⟩⟩)⟩, ⟨by (with_reducible repeat (first | apply Kd.V_alloc | apply Kd.V_drewN | apply Kd.V_drew)); exact Kd.V_mono (Kd.V_far (p := ⟨gb110, 2, none⟩) (Kd.V_mono HO_110002.out (fun k_ hk => (⟨hk, hk.1.2.2.2.2.1⟩ : _ ∧ k_ ≠ gb110))) (fun _ hk => hk.2) (.slice Ao50 y113.length co50)) (fun _ hk => ⟨hk.1.1.1, ⟨hk.1.2, ⟨hk.1.1.2.1, ⟨hk.1.1.2.2.1, ⟨hk.1.1.2.2.2.1, hk.1.1.2.2.2.2.1⟩⟩⟩⟩⟩)⟩, ⟨by (with_reducible repeat (first | apply Kd.N_alloc | apply Kd.N_drewN | apply Kd.N_drew)); exact Kd.N_mono (Kd.N_far (p := ⟨gb110, 2, none⟩) (Kd.N_mono HO115.out (fun k_ hk => (⟨hk, hk.2.2.2.2.1⟩ : _ ∧ k_ ≠ gb110))) (fun _ hk => hk.2) (.slice Ao50 y113.length co50)) (fun _ hk => ⟨hk.1.1, ⟨hk.1.2.1, ⟨hk.1.2.2.1, ⟨hk.1.2.2.2.1, hk.1.2.2.2.2.1⟩⟩⟩⟩)⟩, ⟨by (repeat first | with_reducible apply zN | with_reducible apply zD | with_reducible apply zA | refine blk_far ?_ NB101_110.out _); exact BK101.out⟩, ⟨by (repeat first | with_reducible apply zN | with_reducible apply zD | with_reducible apply zA | refine blk_far ?_ NB102_110.out _); exact BK102.out⟩, ⟨by (repeat first | with_reducible apply zN | with_reducible apply zD | with_reducible apply zA | refine blk_far ?_ NB109_110.out _); exact BK109.out⟩, ⟨by (with_reducible repeat first | apply zN | apply zD | apply zA); refine blk_put (cs := #[.int .i64 a0_0, .int .i64 a0_1, u111002]) ?_ 2 _ rfl; (with_reducible repeat first | apply zN | apply zD | apply zA); exact BK110.out⟩, ⟨pH HB⟩⟩
        ·rw [if_neg c36] at H
         exact absurd H (by simp)
       ·replace c35 := Bool.eq_false_iff.mpr c35
        subst c35
        rw [if_neg (show ¬ (false = true) by decide)] at H
        replace H := Option.bind_eq_some_iff.mp H
        obtain ⟨⟨t116, t117, t118, t121⟩, A520, H⟩ := H
        try dsimp only at H
        have A52 := aK A520
        clear A520
        by_cases c53 : x111002_1.length < 3518437208883
        ·rw [if_pos c53] at H
         have LMc53 := aK c53
         clear c53
         obtain ⟨y122, hy122⟩ : ∃ y_ : List (S77), y_ = (x111002_1 ++ [(⟨t116, t117, t118⟩ : S77)]) := ⟨_, rfl⟩
         replace H : (spec_ldStep.l0 k1 t121 l0_2 (l0_2.length : Int) (wrap64 (x25_1 + 1)) a0_0 a0_1 y122) = some (r1, r2, r3, r4) := by first | (rw [hy122]; with_reducible exact H) | (have H2_ := (Option.bind_some _ _).symm.trans H; rw [hy122]; with_reducible exact H2_) | (have H2_ := (Option.bind_some _ _).symm.trans H; with_reducible exact H2_) | with_reducible exact H | (rw [hy122]; exact H) | exact H
         have Ny122 := aK hy122
         clear hy122
         have H' := aK H
         clear H
         have p111 : 0 ≤ (x25_1 : Int) := dA
         have q111 : x25_1 < (l0_2.length : Int) := dA
         obtain ⟨ad111, A111_2, c111_2, e111, hx111_0, hx111_1, hx111_2, hl111_2, hi111_2⟩ := at_T77 (Kd.V_reads' HO_23.out).2.2 x25_1 p111 q111
         cases e111
         obtain ⟨ce111, hce111, hMe111, hcc111⟩ := Kd.V_get HO_23.out z77 x25_1 p111 (by first | exact q111 | exact dA | (have e_ := (Kd.V_reads' HO_23.out).1; omega))
         obtain ⟨ua111_2, uc111_2, rfl, ul111_2, ge111_2⟩ := k77_openF hMe111
         have hv111_2 := hcc111 2 _ rfl
         rw [add_field _ _ 2 (by omega)] at hv111_2
         replace hv111_2 := Option.some.inj (hv111_2.symm.trans hx111_2)
         injection hv111_2 with hva_ hvn_ hvc_
         rw [hva_] at ge111_2
         rw [hvc_] at ul111_2
         have HL111_2 := aK (show Kd.V k77 77 _ w.heap.size _ _ ((rd_T77 l0_2 x25_1).f2) from Kd.V_mk ul111_2 ge111_2)
         clear hva_ hvn_ hvc_ ge111_2 ul111_2
         clear hcc111 hce111
         have HR111_2 := aK hi111_2
         have HC111_2 := aK hl111_2
         clear hi111_2 hl111_2
         replace p111 := eq_true p111
         replace q111 := eq_true q111
         go_wp2_with (first | ((with_reducible refine gate_dst (N := 9) rfl ?_); refine bE (N := 9) (cs := #[.int .i64 0, .int .i64 0, .slice none 0 0]) (t := 77) ?_; intro gb112 hg w54 hbox hb; have GW112 := qw HB hg; have GE112 := qw HB hg; have NB101_112 := ql BK101 hg; have NB112_101 := qg BK101 hg; have NB102_112 := ql BK102 hg; have NB112_102 := qg BK102 hg; have NB109_112 := ql BK109 hg; have NB112_109 := qg BK109 hg; have NB110_112 := ql BK110 hg; have NB112_110 := qg BK110 hg; replace HR111_2 := qc HR111_2 hb; replace HO_23 := qv HO_23 hg hb; replace HO_102002 := qv HO_102002 hg hb; replace HO_110002 := qv HO_110002 hg hb; replace HO_111002 := qn HO_111002 hg hb; replace HL111_2 := qv HL111_2 hg hb; replace BK101 := qb BK101 hb; replace BK102 := qb BK102 hb; replace BK109 := qb BK109 hb; replace BK110 := qb BK110 hb; have BK112 := aK hbox; replace HB := qs HB hb; clear hb hbox hg; have hnb55 := NB112_101.out; have hnc55 := NB101_112.out; have hnb56 := NB112_102.out; have hnc56 := NB102_112.out; have hnb57 := NB112_109.out; have hnc57 := NB109_112.out; have hnb58 := NB112_110.out; have hnc58 := NB110_112.out; have hcz59_0 := k30 BK112; have hcz59_1 := k31 BK112; have hcz59_2 := k32 BK112; have hfz59_0 := fz BK112 0; have hfz59_1 := fz BK112 1; have hfz59_2 := fz BK112 2) | ((with_reducible refine gate_store (t := 77) (p := 9) rfl ?_); refine store_event (t := 77) (p := 9) (v := ?vo_w60) (w1 := (((w54.setCell ⟨gb112, 0, none⟩ (.int .i64 ((rd_T77 l0_2 x25_1).f0))).setCell ⟨gb112, 1, none⟩ (.int .i64 ((rd_T77 l0_2 x25_1).f1))).setCell ⟨gb112, 2, none⟩ (.slice A111_2 ((rd_T77 l0_2 x25_1).f2).length c111_2))) ?hg ?ho ?hn ?hr ?_; (case ho => rfl); (case hg => rfl); (case hn => rfl); (case hr => first | (go_simp; done) | (go_simp; rfl)); intro w60 hw; have n0_ : Aside0 (Kd.V k77 77 w60 w.heap.size (fun k_ => (P0_2_ k_ ∨ w.heap.size ≤ k_) ∧ some k_ ≠ (u111002 : Value).ownBlock ∧ k_ ≠ gb101 ∧ k_ ≠ gb102 ∧ k_ ≠ gb109 ∧ k_ ≠ gb110 ∧ k_ ≠ gb112) (.slice (some ad111) l0_2.length c0_2) l0_2) := ⟨(by rw [hw]; exact (by (with_reducible repeat (first | apply Kd.V_alloc | apply Kd.V_drewN | apply Kd.V_drew)); exact Kd.V_mono (vF3 gb112 (Kd.V_mono HO_23.out (fun k_ hk => (⟨hk, hk.2⟩ : _ ∧ k_ ≠ gb112))) (fun _ hk => hk.2)) (fun _ hk => ⟨hk.1.1.1, ⟨hk.1.1.2.1, ⟨hk.1.1.2.2.1, ⟨hk.1.1.2.2.2.1, ⟨hk.1.1.2.2.2.2.1, ⟨hk.1.1.2.2.2.2.2, hk.1.2⟩⟩⟩⟩⟩⟩)))⟩; have n1_ : Aside0 (Kd.V k77 77 w60 w.heap.size (fun k_ => (P0_2_ k_ ∨ w.heap.size ≤ k_) ∧ some k_ ≠ (u111002 : Value).ownBlock ∧ k_ ≠ gb101 ∧ k_ ≠ gb102 ∧ k_ ≠ gb109 ∧ k_ ≠ gb110 ∧ k_ ≠ gb112) (.slice (some ad111) l0_2.length c0_2) l0_2) := ⟨(by rw [hw]; exact (by (with_reducible repeat (first | apply Kd.V_alloc | apply Kd.V_drewN | apply Kd.V_drew)); exact Kd.V_mono (vF3 gb112 (Kd.V_mono HO_102002.out (fun k_ hk => (⟨hk, hk.2⟩ : _ ∧ k_ ≠ gb112))) (fun _ hk => hk.2)) (fun _ hk => ⟨hk.1.1.1, ⟨hk.1.1.2.1, ⟨hk.1.1.2.2.1, ⟨hk.1.1.2.2.2.1, ⟨hk.1.1.2.2.2.2.1, ⟨hk.1.1.2.2.2.2.2, hk.1.2⟩⟩⟩⟩⟩⟩)))⟩; have n2_ : Aside0 (Kd.V k77 77 w60 w.heap.size (fun k_ => (P0_2_ k_ ∨ w.heap.size ≤ k_) ∧ some k_ ≠ (u111002 : Value).ownBlock ∧ k_ ≠ gb101 ∧ k_ ≠ gb102 ∧ k_ ≠ gb109 ∧ k_ ≠ gb110 ∧ k_ ≠ gb112) (.slice Ao24 t105.length co24) t105) := ⟨(by rw [hw]; exact (by (with_reducible repeat (first | apply Kd.V_alloc | apply Kd.V_drewN | apply Kd.V_drew)); exact Kd.V_mono (vF3 gb112 (Kd.V_mono HO_110002.out (fun k_ hk => (⟨hk, hk.2⟩ : _ ∧ k_ ≠ gb112))) (fun _ hk => hk.2)) (fun _ hk => ⟨hk.1.1.1, ⟨hk.1.1.2.1, ⟨hk.1.1.2.2.1, ⟨hk.1.1.2.2.2.1, ⟨hk.1.1.2.2.2.2.1, ⟨hk.1.1.2.2.2.2.2, hk.1.2⟩⟩⟩⟩⟩⟩)))⟩; have n3_ : Aside0 (Kd.N k77 77 w60 w.heap.size (fun k_ => (P0_2_ k_ ∨ w.heap.size ≤ k_) ∧ k_ ≠ gb101 ∧ k_ ≠ gb102 ∧ k_ ≠ gb109 ∧ k_ ≠ gb110 ∧ k_ ≠ gb112) u111002 x111002_1) := ⟨(by rw [hw]; exact (by (with_reducible repeat (first | apply Kd.N_alloc | apply Kd.N_drewN | apply Kd.N_drew)); exact Kd.N_mono (nF3 gb112 (Kd.N_mono HO_111002.out (fun k_ hk => (⟨hk, hk.2⟩ : _ ∧ k_ ≠ gb112))) (fun _ hk => hk.2)) (fun _ hk => ⟨hk.1.1.1, ⟨hk.1.1.2.1, ⟨hk.1.1.2.2.1, ⟨hk.1.1.2.2.2.1, ⟨hk.1.1.2.2.2.2, hk.1.2⟩⟩⟩⟩⟩)))⟩; have n4_ : Aside0 (Kd.V k77 77 w60 w.heap.size (fun k_ => (P0_2_ k_ ∨ w.heap.size ≤ k_) ∧ some k_ ≠ (u111002 : Value).ownBlock ∧ k_ ≠ gb101 ∧ k_ ≠ gb102 ∧ k_ ≠ gb109 ∧ k_ ≠ gb110 ∧ k_ ≠ gb112) (.slice A111_2 ((rd_T77 l0_2 x25_1).f2).length c111_2) ((rd_T77 l0_2 x25_1).f2)) := ⟨(by rw [hw]; exact (by (with_reducible repeat (first | apply Kd.V_alloc | apply Kd.V_drewN | apply Kd.V_drew)); exact Kd.V_mono (vF3 gb112 (Kd.V_mono HL111_2.out (fun k_ hk => (⟨hk, hk.2⟩ : _ ∧ k_ ≠ gb112))) (fun _ hk => hk.2)) (fun _ hk => ⟨hk.1.1.1, ⟨hk.1.1.2.1, ⟨hk.1.1.2.2.1, ⟨hk.1.1.2.2.2.1, ⟨hk.1.1.2.2.2.2.1, ⟨hk.1.1.2.2.2.2.2, hk.1.2⟩⟩⟩⟩⟩⟩)))⟩; have n5_ : Aside0 (w60.heap[gb101]? = some (.cells #[.int .i64 a0_0, .int .i64 a0_1, .slice (some ad111) l0_2.length c0_2] 77 (0, 0))) := ⟨(by rw [hw]; exact (by (repeat first | with_reducible apply zN | with_reducible apply zD | with_reducible apply zA | refine blk_far ?_ NB101_112.out _); exact BK101.out))⟩; have n6_ : Aside0 (w60.heap[gb102]? = some (.cells #[.int .i64 0, .int .i64 0, .slice none 0 0] 77 (0, 0))) := ⟨(by rw [hw]; exact (by (repeat first | with_reducible apply zN | with_reducible apply zD | with_reducible apply zA | refine blk_far ?_ NB102_112.out _); exact BK102.out))⟩; have n7_ : Aside0 (w60.heap[gb109]? = some (.cells #[.int .i64 t103, .int .i64 t104, .slice Ao24 t105.length co24] 77 (0, 0))) := ⟨(by rw [hw]; exact (by (repeat first | with_reducible apply zN | with_reducible apply zD | with_reducible apply zA | refine blk_far ?_ NB109_112.out _); exact BK109.out))⟩; have n8_ : Aside0 (w60.heap[gb110]? = some (.cells #[.int .i64 a0_0, .int .i64 a0_1, u111002] 77 (0, 0))) := ⟨(by rw [hw]; exact (by (repeat first | with_reducible apply zN | with_reducible apply zD | with_reducible apply zA | refine blk_far ?_ NB110_112.out _); exact BK110.out))⟩; have n9_ : Aside0 (w60.heap[gb112]? = some (.cells #[.int .i64 ((rd_T77 l0_2 x25_1).f0), .int .i64 ((rd_T77 l0_2 x25_1).f1), .slice A111_2 ((rd_T77 l0_2 x25_1).f2).length c111_2] 77 (0, 0))) := ⟨(by rw [hw]; exact (p3 BK112))⟩; have n10_ : Aside0 (Below w.heap.size w w60) := ⟨(by rw [hw]; exact (pH HB))⟩; clear hw; clear HO_23; clear HO_102002; clear HO_110002; clear HO_111002; clear HL111_2; clear BK101; clear BK102; clear BK109; clear BK110; clear BK112; clear HB; have HO_23 := n0_; have HO_102002 := n1_; have HO_110002 := n2_; have HO_111002 := n3_; have HL111_2 := n4_; have BK101 := n5_; have BK102 := n6_; have BK109 := n7_; have BK110 := n8_; have BK112 := n9_; have HB := n10_; clear n0_ n1_ n2_ n3_ n4_ n5_ n6_ n7_ n8_ n9_ n10_; have hcz61_0 := k30 BK112; have hcz61_1 := k31 BK112; have hcz61_2 := k32 BK112; have hfz61_0 := fz BK112 0; have hfz61_1 := fz BK112 1; have hfz61_2 := fz BK112 2) | ((with_reducible refine gate_callee (f := 55) rfl ?_); refine goesL_ (some 33) rfl rfl Try.func55 (by kernel_rfl) rfl #[.agg #[.int .i64 ((rd_T77 l0_2 x25_1).f0), .int .i64 ((rd_T77 l0_2 x25_1).f1), .slice A111_2 ((rd_T77 l0_2 x25_1).f2).length c111_2]] rfl tA ?_; (with_reducible refine (ih k1 (by have := HK1.out; omega) ((rd_T77 l0_2 x25_1).f0) ((rd_T77 l0_2 x25_1).f1) (fun k_ => ((P0_2_ k_ ∨ w.heap.size ≤ k_) ∧ (some k_ ≠ (u111002 : Value).ownBlock ∧ (k_ ≠ gb101 ∧ (k_ ≠ gb102 ∧ (k_ ≠ gb109 ∧ (k_ ≠ gb110 ∧ k_ ≠ gb112))))))) _ _ ((rd_T77 l0_2 x25_1).f2) t116 t117 t118 t121 _ ?side1 A52.out).mono ?_); (case side1 => exact HL111_2.out); rintro e w62 ⟨v119, rfl, ho0, hb⟩; refine ⟨_, rfl, ?_⟩; have n0_ := aK (Kd.V_below HO_23.out hb); have n1_ := aK (Kd.V_below HO_102002.out hb); have n2_ := aK (Kd.V_below HO_110002.out hb); have n3_ := aK (Kd.N_below HO_111002.out hb); have n4_ := aK (Kd.V_below HL111_2.out hb); have HO120 := aK (Kd.V_lower (Kd.V_mono (ok' := fun k_ => (P0_2_ k_ ∨ w.heap.size ≤ k_) ∧ some k_ ≠ (u111002 : Value).ownBlock ∧ k_ ≠ gb101 ∧ k_ ≠ gb102 ∧ k_ ≠ gb109 ∧ k_ ≠ gb110 ∧ k_ ≠ gb112) ho0 (fun k_ hk_ => ⟨Or.elim hk_ (fun hs_ => hs_.1) (fun hn_ => (.inr (Nat.le_trans (below_size HB.out) hn_))), Or.elim hk_ (fun hs_ => hs_.2.1) (fun hn_ => (Kd.fresh' (Kd.N_lt HO_111002.out) k_ hn_)), Or.elim hk_ (fun hs_ => hs_.2.2.1) (fun hn_ => (Kd.freshB BK101.out k_ hn_)), Or.elim hk_ (fun hs_ => hs_.2.2.2.1) (fun hn_ => (Kd.freshB BK102.out k_ hn_)), Or.elim hk_ (fun hs_ => hs_.2.2.2.2.1) (fun hn_ => (Kd.freshB BK109.out k_ hn_)), Or.elim hk_ (fun hs_ => hs_.2.2.2.2.2.1) (fun hn_ => (Kd.freshB BK110.out k_ hn_)), Or.elim hk_ (fun hs_ => hs_.2.2.2.2.2.2) (fun hn_ => (Kd.freshB BK112.out k_ hn_))⟩)) (below_size HB.out)); have n10_ := aK (Kd.C_below (by repeat (first | (with_reducible exact (Kd.V_reads' HL111_2.out).2.2) | (with_reducible refine Kd.C_alloc ?_ _) | (with_reducible refine Kd.C_drewN ?_ _) | (with_reducible refine Kd.C_drew ?_) | exact (Kd.V_reads' HL111_2.out).2.2)) hb); replace BK101 := qb BK101 hb; replace BK102 := qb BK102 hb; replace BK109 := qb BK109 hb; replace BK110 := qb BK110 hb; replace BK112 := qb BK112 hb; clear HO_23; have HO_23 := n0_; clear n0_; clear HO_102002; have HO_102002 := n1_; clear n1_; clear HO_110002; have HO_110002 := n2_; clear n2_; clear HO_111002; have HO_111002 := n3_; clear n3_; clear HL111_2; have HL111_2 := n4_; clear n4_; clear HR111_2; have HR111_2 := n10_; clear n10_; replace HB := qs HB hb; (try clear hb); (try clear ho0); have hcz63_0 := k30 BK112; have hcz63_1 := k31 BK112; have hcz63_2 := k32 BK112; have hfz63_0 := fz BK112 0; have hfz63_1 := fz BK112 1; have hfz63_2 := fz BK112 2; obtain ⟨Ao64, co64, eo64⟩ := Kd.V_slice HO120.out; subst eo64) | ((with_reducible refine gate_store (t := 77) (p := 9) rfl ?_); refine store_event (t := 77) (p := 9) (v := ?vo_w65) (w1 := (((w62.setCell ⟨gb112, 0, none⟩ (.int .i64 t116)).setCell ⟨gb112, 1, none⟩ (.int .i64 t117)).setCell ⟨gb112, 2, none⟩ (.slice Ao64 t118.length co64))) ?hg ?ho ?hn ?hr ?_; (case ho => rfl); (case hg => rfl); (case hn => rfl); (case hr => first | (go_simp; done) | (go_simp; rfl)); intro w65 hw; have n0_ : Aside0 (Kd.V k77 77 w65 w.heap.size (fun k_ => (P0_2_ k_ ∨ w.heap.size ≤ k_) ∧ some k_ ≠ (u111002 : Value).ownBlock ∧ k_ ≠ gb101 ∧ k_ ≠ gb102 ∧ k_ ≠ gb109 ∧ k_ ≠ gb110 ∧ k_ ≠ gb112) (.slice (some ad111) l0_2.length c0_2) l0_2) := ⟨(by rw [hw]; exact (by (with_reducible repeat (first | apply Kd.V_alloc | apply Kd.V_drewN | apply Kd.V_drew)); exact Kd.V_mono (vF3 gb112 (Kd.V_mono HO_23.out (fun k_ hk => (⟨hk, hk.2.2.2.2.2.2⟩ : _ ∧ k_ ≠ gb112))) (fun _ hk => hk.2)) (fun _ hk => ⟨hk.1.1, ⟨hk.1.2.1, ⟨hk.1.2.2.1, ⟨hk.1.2.2.2.1, ⟨hk.1.2.2.2.2.1, ⟨hk.1.2.2.2.2.2.1, hk.1.2.2.2.2.2.2⟩⟩⟩⟩⟩⟩)))⟩; have n1_ : Aside0 (Kd.V k77 77 w65 w.heap.size (fun k_ => (P0_2_ k_ ∨ w.heap.size ≤ k_) ∧ some k_ ≠ (u111002 : Value).ownBlock ∧ k_ ≠ gb101 ∧ k_ ≠ gb102 ∧ k_ ≠ gb109 ∧ k_ ≠ gb110 ∧ k_ ≠ gb112) (.slice (some ad111) l0_2.length c0_2) l0_2) := ⟨(by rw [hw]; exact (by (with_reducible repeat (first | apply Kd.V_alloc | apply Kd.V_drewN | apply Kd.V_drew)); exact Kd.V_mono (vF3 gb112 (Kd.V_mono HO_102002.out (fun k_ hk => (⟨hk, hk.2.2.2.2.2.2⟩ : _ ∧ k_ ≠ gb112))) (fun _ hk => hk.2)) (fun _ hk => ⟨hk.1.1, ⟨hk.1.2.1, ⟨hk.1.2.2.1, ⟨hk.1.2.2.2.1, ⟨hk.1.2.2.2.2.1, ⟨hk.1.2.2.2.2.2.1, hk.1.2.2.2.2.2.2⟩⟩⟩⟩⟩⟩)))⟩; have n2_ : Aside0 (Kd.V k77 77 w65 w.heap.size (fun k_ => (P0_2_ k_ ∨ w.heap.size ≤ k_) ∧ some k_ ≠ (u111002 : Value).ownBlock ∧ k_ ≠ gb101 ∧ k_ ≠ gb102 ∧ k_ ≠ gb109 ∧ k_ ≠ gb110 ∧ k_ ≠ gb112) (.slice Ao24 t105.length co24) t105) := ⟨(by rw [hw]; exact (by (with_reducible repeat (first | apply Kd.V_alloc | apply Kd.V_drewN | apply Kd.V_drew)); exact Kd.V_mono (vF3 gb112 (Kd.V_mono HO_110002.out (fun k_ hk => (⟨hk, hk.2.2.2.2.2.2⟩ : _ ∧ k_ ≠ gb112))) (fun _ hk => hk.2)) (fun _ hk => ⟨hk.1.1, ⟨hk.1.2.1, ⟨hk.1.2.2.1, ⟨hk.1.2.2.2.1, ⟨hk.1.2.2.2.2.1, ⟨hk.1.2.2.2.2.2.1, hk.1.2.2.2.2.2.2⟩⟩⟩⟩⟩⟩)))⟩; have n3_ : Aside0 (Kd.N k77 77 w65 w.heap.size (fun k_ => (P0_2_ k_ ∨ w.heap.size ≤ k_) ∧ k_ ≠ gb101 ∧ k_ ≠ gb102 ∧ k_ ≠ gb109 ∧ k_ ≠ gb110 ∧ k_ ≠ gb112) u111002 x111002_1) := ⟨(by rw [hw]; exact (by (with_reducible repeat (first | apply Kd.N_alloc | apply Kd.N_drewN | apply Kd.N_drew)); exact Kd.N_mono (nF3 gb112 (Kd.N_mono HO_111002.out (fun k_ hk => (⟨hk, hk.2.2.2.2.2⟩ : _ ∧ k_ ≠ gb112))) (fun _ hk => hk.2)) (fun _ hk => ⟨hk.1.1, ⟨hk.1.2.1, ⟨hk.1.2.2.1, ⟨hk.1.2.2.2.1, ⟨hk.1.2.2.2.2.1, hk.1.2.2.2.2.2⟩⟩⟩⟩⟩)))⟩; have n4_ : Aside0 (Kd.V k77 77 w65 w.heap.size (fun k_ => (P0_2_ k_ ∨ w.heap.size ≤ k_) ∧ some k_ ≠ (u111002 : Value).ownBlock ∧ k_ ≠ gb101 ∧ k_ ≠ gb102 ∧ k_ ≠ gb109 ∧ k_ ≠ gb110 ∧ k_ ≠ gb112) (.slice A111_2 ((rd_T77 l0_2 x25_1).f2).length c111_2) ((rd_T77 l0_2 x25_1).f2)) := ⟨(by rw [hw]; exact (by (with_reducible repeat (first | apply Kd.V_alloc | apply Kd.V_drewN | apply Kd.V_drew)); exact Kd.V_mono (vF3 gb112 (Kd.V_mono HL111_2.out (fun k_ hk => (⟨hk, hk.2.2.2.2.2.2⟩ : _ ∧ k_ ≠ gb112))) (fun _ hk => hk.2)) (fun _ hk => ⟨hk.1.1, ⟨hk.1.2.1, ⟨hk.1.2.2.1, ⟨hk.1.2.2.2.1, ⟨hk.1.2.2.2.2.1, ⟨hk.1.2.2.2.2.2.1, hk.1.2.2.2.2.2.2⟩⟩⟩⟩⟩⟩)))⟩; have n5_ : Aside0 (Kd.V k77 77 w65 w.heap.size (fun k_ => (P0_2_ k_ ∨ w.heap.size ≤ k_) ∧ some k_ ≠ (u111002 : Value).ownBlock ∧ k_ ≠ gb101 ∧ k_ ≠ gb102 ∧ k_ ≠ gb109 ∧ k_ ≠ gb110 ∧ k_ ≠ gb112) (.slice Ao64 t118.length co64) t118) := ⟨(by rw [hw]; exact (by (with_reducible repeat (first | apply Kd.V_alloc | apply Kd.V_drewN | apply Kd.V_drew)); exact Kd.V_mono (vF3 gb112 (Kd.V_mono HO120.out (fun k_ hk => (⟨hk, hk.2.2.2.2.2.2⟩ : _ ∧ k_ ≠ gb112))) (fun _ hk => hk.2)) (fun _ hk => ⟨hk.1.1, ⟨hk.1.2.1, ⟨hk.1.2.2.1, ⟨hk.1.2.2.2.1, ⟨hk.1.2.2.2.2.1, ⟨hk.1.2.2.2.2.2.1, hk.1.2.2.2.2.2.2⟩⟩⟩⟩⟩⟩)))⟩; have n6_ : Aside0 (w65.heap[gb101]? = some (.cells #[.int .i64 a0_0, .int .i64 a0_1, .slice (some ad111) l0_2.length c0_2] 77 (0, 0))) := ⟨(by rw [hw]; exact (by (repeat first | with_reducible apply zN | with_reducible apply zD | with_reducible apply zA | refine blk_far ?_ NB101_112.out _); exact BK101.out))⟩; have n7_ : Aside0 (w65.heap[gb102]? = some (.cells #[.int .i64 0, .int .i64 0, .slice none 0 0] 77 (0, 0))) := ⟨(by rw [hw]; exact (by (repeat first | with_reducible apply zN | with_reducible apply zD | with_reducible apply zA | refine blk_far ?_ NB102_112.out _); exact BK102.out))⟩; have n8_ : Aside0 (w65.heap[gb109]? = some (.cells #[.int .i64 t103, .int .i64 t104, .slice Ao24 t105.length co24] 77 (0, 0))) := ⟨(by rw [hw]; exact (by (repeat first | with_reducible apply zN | with_reducible apply zD | with_reducible apply zA | refine blk_far ?_ NB109_112.out _); exact BK109.out))⟩; have n9_ : Aside0 (w65.heap[gb110]? = some (.cells #[.int .i64 a0_0, .int .i64 a0_1, u111002] 77 (0, 0))) := ⟨(by rw [hw]; exact (by (repeat first | with_reducible apply zN | with_reducible apply zD | with_reducible apply zA | refine blk_far ?_ NB110_112.out _); exact BK110.out))⟩; have n10_ : Aside0 (w65.heap[gb112]? = some (.cells #[.int .i64 t116, .int .i64 t117, .slice Ao64 t118.length co64] 77 (0, 0))) := ⟨(by rw [hw]; exact (p3 BK112))⟩; have n11_ : Aside0 (Below w.heap.size w w65) := ⟨(by rw [hw]; exact (pH HB))⟩; clear hw; clear HO_23; clear HO_102002; clear HO_110002; clear HO_111002; clear HL111_2; clear HO120; clear BK101; clear BK102; clear BK109; clear BK110; clear BK112; clear HB; have HO_23 := n0_; have HO_102002 := n1_; have HO_110002 := n2_; have HO_111002 := n3_; have HL111_2 := n4_; have HO120 := n5_; have BK101 := n6_; have BK102 := n7_; have BK109 := n8_; have BK110 := n9_; have BK112 := n10_; have HB := n11_; clear n0_ n1_ n2_ n3_ n4_ n5_ n6_ n7_ n8_ n9_ n10_ n11_; have hnb66 := NB110_101.out; have hnc66 := NB101_110.out; have hnb67 := NB110_102.out; have hnc67 := NB102_110.out; have hnb68 := NB110_109.out; have hnc68 := NB109_110.out; have hcz69_0 := k30 BK110; have hcz69_1 := k31 BK110; have hcz69_2 := k32 BK110; have hfz69_0 := fz BK110 0; have hfz69_1 := fz BK110 1; have hfz69_2 := fz BK110 2; have hcz70_0 := k30 BK112; have hcz70_1 := k31 BK112; have hcz70_2 := k32 BK112; have hfz70_0 := fz BK112 0; have hfz70_1 := fz BK112 1; have hfz70_2 := fz BK112 2) | ((with_reducible refine gate_builtin (b := .append) (xs := #[.tmp 37, .tmp 39]) rfl ?_); at_builtin; refine Kd.N_append k77 (w0 := w) w.heap.size rfl (.tmp 37) (.tmp 39) 75 77 (.agg #[(.int .i64 0), (.int .i64 0), (.slice none 0 0)]) 40 rfl Try.underlying75 info77 rfl (by decide) (by omega) u111002 x111002_1 (⟨t116, t117, t118⟩ : S77) [.int .i64 t116, .int .i64 t117, .slice Ao64 t118.length co64] (fun k_ => (P0_2_ k_ ∨ w.heap.size ≤ k_) ∧ k_ ≠ gb101 ∧ k_ ≠ gb102 ∧ k_ ≠ gb109 ∧ k_ ≠ gb110 ∧ k_ ≠ gb112) (fun k_ => ((fun k_ => (P0_2_ k_ ∨ w.heap.size ≤ k_) ∧ k_ ≠ gb101 ∧ k_ ≠ gb102 ∧ k_ ≠ gb109 ∧ k_ ≠ gb110 ∧ k_ ≠ gb112)) k_ ∧ some k_ ≠ (u111002 : Value).ownBlock) rfl rfl ?aP (fun _ hk => hk) ?aF ?aO ?aB ?aS ?aL ?_; (case aP => exact (k77_mkF _ _ (⟨t116, t117, t118⟩ : S77) (Kd.V_reads' (Kd.V_mono (ok' := (fun k_ => ((fun k_ => (P0_2_ k_ ∨ w.heap.size ≤ k_) ∧ k_ ≠ gb101 ∧ k_ ≠ gb102 ∧ k_ ≠ gb109 ∧ k_ ≠ gb110 ∧ k_ ≠ gb112)) k_ ∧ some k_ ≠ (u111002 : Value).ownBlock)) (HO120.out) (fun k_ hk => ⟨⟨hk.1, ⟨hk.2.2.1, ⟨hk.2.2.2.1, ⟨hk.2.2.2.2.1, ⟨hk.2.2.2.2.2.1, hk.2.2.2.2.2.2⟩⟩⟩⟩⟩, hk.2.1⟩))).2.1 (Kd.V_F (Kd.V_mono (ok' := (fun k_ => ((fun k_ => (P0_2_ k_ ∨ w.heap.size ≤ k_) ∧ k_ ≠ gb101 ∧ k_ ≠ gb102 ∧ k_ ≠ gb109 ∧ k_ ≠ gb110 ∧ k_ ≠ gb112)) k_ ∧ some k_ ≠ (u111002 : Value).ownBlock)) (HO120.out) (fun k_ hk => ⟨⟨hk.1, ⟨hk.2.2.1, ⟨hk.2.2.2.1, ⟨hk.2.2.2.2.1, ⟨hk.2.2.2.2.2.1, hk.2.2.2.2.2.2⟩⟩⟩⟩⟩, hk.2.1⟩))))); (case aB => exact (pH HB)); (case aF => exact (fun k_ hk => ⟨(.inr (Nat.le_trans (below_size (pH HB)) hk)), Kd.freshB BK101.out k_ hk, Kd.freshB BK102.out k_ hk, Kd.freshB BK109.out k_ hk, Kd.freshB BK110.out k_ hk, Kd.freshB BK112.out k_ hk⟩)); (case aO => exact HO_111002.out); (case aS => exact (below_size (pH HB))); (case aL => have := LMc53.out; omega); intro v123 w71 ho hb hg hat; rw [← Ny122.out] at ho; have n0_ := aK (Kd.V_afterv (ok := (fun k_ => (P0_2_ k_ ∨ w.heap.size ≤ k_) ∧ k_ ≠ gb101 ∧ k_ ≠ gb102 ∧ k_ ≠ gb109 ∧ k_ ≠ gb110 ∧ k_ ≠ gb112)) (by (with_reducible repeat (first | apply Kd.V_alloc | apply Kd.V_drewN | apply Kd.V_drew)); exact Kd.V_mono HO_23.out (fun _ hk => ⟨⟨hk.1, ⟨hk.2.2.1, ⟨hk.2.2.2.1, ⟨hk.2.2.2.2.1, ⟨hk.2.2.2.2.2.1, hk.2.2.2.2.2.2⟩⟩⟩⟩⟩, hk.2.1⟩)) hg hat); have n1_ := aK (Kd.V_afterv (ok := (fun k_ => (P0_2_ k_ ∨ w.heap.size ≤ k_) ∧ k_ ≠ gb101 ∧ k_ ≠ gb102 ∧ k_ ≠ gb109 ∧ k_ ≠ gb110 ∧ k_ ≠ gb112)) (by (with_reducible repeat (first | apply Kd.V_alloc | apply Kd.V_drewN | apply Kd.V_drew)); exact Kd.V_mono HO_102002.out (fun _ hk => ⟨⟨hk.1, ⟨hk.2.2.1, ⟨hk.2.2.2.1, ⟨hk.2.2.2.2.1, ⟨hk.2.2.2.2.2.1, hk.2.2.2.2.2.2⟩⟩⟩⟩⟩, hk.2.1⟩)) hg hat); have n2_ := aK (Kd.V_afterv (ok := (fun k_ => (P0_2_ k_ ∨ w.heap.size ≤ k_) ∧ k_ ≠ gb101 ∧ k_ ≠ gb102 ∧ k_ ≠ gb109 ∧ k_ ≠ gb110 ∧ k_ ≠ gb112)) (by (with_reducible repeat (first | apply Kd.V_alloc | apply Kd.V_drewN | apply Kd.V_drew)); exact Kd.V_mono HO_110002.out (fun _ hk => ⟨⟨hk.1, ⟨hk.2.2.1, ⟨hk.2.2.2.1, ⟨hk.2.2.2.2.1, ⟨hk.2.2.2.2.2.1, hk.2.2.2.2.2.2⟩⟩⟩⟩⟩, hk.2.1⟩)) hg hat); have n3_ := aK (blk_grown BK101.out hg (Kd.N_away HO_111002.out (fun _ hk => hk.2.1))); have n4_ := aK (blk_grown BK102.out hg (Kd.N_away HO_111002.out (fun _ hk => hk.2.2.1))); have n5_ := aK (blk_grown BK109.out hg (Kd.N_away HO_111002.out (fun _ hk => hk.2.2.2.1))); have n6_ := aK (blk_grown BK110.out hg (Kd.N_away HO_111002.out (fun _ hk => hk.2.2.2.2.1))); have n7_ := aK (Kd.V_afterv (ok := (fun k_ => (P0_2_ k_ ∨ w.heap.size ≤ k_) ∧ k_ ≠ gb101 ∧ k_ ≠ gb102 ∧ k_ ≠ gb109 ∧ k_ ≠ gb110 ∧ k_ ≠ gb112)) (by (with_reducible repeat (first | apply Kd.V_alloc | apply Kd.V_drewN | apply Kd.V_drew)); exact Kd.V_mono HL111_2.out (fun _ hk => ⟨⟨hk.1, ⟨hk.2.2.1, ⟨hk.2.2.2.1, ⟨hk.2.2.2.2.1, ⟨hk.2.2.2.2.2.1, hk.2.2.2.2.2.2⟩⟩⟩⟩⟩, hk.2.1⟩)) hg hat); have n8_ := aK (blk_grown BK112.out hg (Kd.N_away HO_111002.out (fun _ hk => hk.2.2.2.2.2))); have n9_ := aK (Kd.V_afterv (ok := (fun k_ => (P0_2_ k_ ∨ w.heap.size ≤ k_) ∧ k_ ≠ gb101 ∧ k_ ≠ gb102 ∧ k_ ≠ gb109 ∧ k_ ≠ gb110 ∧ k_ ≠ gb112)) (by (with_reducible repeat (first | apply Kd.V_alloc | apply Kd.V_drewN | apply Kd.V_drew)); exact Kd.V_mono HO120.out (fun _ hk => ⟨⟨hk.1, ⟨hk.2.2.1, ⟨hk.2.2.2.1, ⟨hk.2.2.2.2.1, ⟨hk.2.2.2.2.2.1, hk.2.2.2.2.2.2⟩⟩⟩⟩⟩, hk.2.1⟩)) hg hat); have n10_ := aK (hb); have HO124 := aK (ho); clear HO_23; have HO_23 := n0_; clear n0_; clear HO_102002; have HO_102002 := n1_; clear n1_; clear HO_110002; have HO_110002 := n2_; clear n2_; clear BK101; have BK101 := n3_; clear n3_; clear BK102; have BK102 := n4_; clear n4_; clear BK109; have BK109 := n5_; clear n5_; clear BK110; have BK110 := n6_; clear n6_; clear HL111_2; have HL111_2 := n7_; clear n7_; clear BK112; have BK112 := n8_; clear n8_; clear HO120; have HO120 := n9_; clear n9_; clear HB; have HB := n10_; clear n10_; clear HO_111002; clear ho hb hg hat; obtain ⟨Ao72, co72, eo72⟩ := Kd.N_slice HO124.out; subst eo72; have hcz73_0 := k30 BK110; have hcz73_1 := k31 BK110; have hcz73_2 := k32 BK110; have hfz73_0 := fz BK110 0; have hfz73_1 := fz BK110 1; have hfz73_2 := fz BK110 2))
         go_roundg k1
         case measure => have := HK1.out; omega
         case rel => exact ⟨(t121), (wrap64 (x25_1 + 1)), (y122), (.slice Ao72 y122.length co72), rS, rS, H', ⟨by have := HK1.out; omega⟩, ⟨by (with_reducible repeat (first | apply Kd.V_alloc | apply Kd.V_drewN | apply Kd.V_drew)); exact Kd.V_mono (Kd.V_far (p := ⟨gb110, 2, none⟩) (Kd.V_mono HO_23.out (fun k_ hk => (⟨hk, hk.1.2.2.2.2.1⟩ : _ ∧ k_ ≠ gb110))) (fun _ hk => hk.2) (.slice Ao72 y122.length co72)) (fun _ hk => ⟨hk.1.1.1, ⟨hk.1.2, ⟨hk.1.1.2.1, ⟨hk.1.1.2.2.1, ⟨hk.1.1.2.2.2.1, hk.1.1.2.2.2.2.1⟩⟩⟩⟩⟩)⟩, ⟨by (with_reducible repeat (first | apply Kd.V_alloc | apply Kd.V_drewN | apply Kd.V_drew)); exact Kd.V_mono (Kd.V_far (p := ⟨gb110, 2, none⟩) (Kd.V_mono HO_102002.out (fun k_ hk => (⟨hk, hk.1.2.2.2.2.1⟩ : _ ∧ k_ ≠ gb110))) (fun _ hk => hk.2) (.slice Ao72 y122.length co72)) (fun _ hk => ⟨hk.1.1.1, ⟨hk.1.2, ⟨hk.1.1.2.1, ⟨hk.1.1.2.2.1, ⟨hk.1.1.2.2.2.1, hk.1.1.2.2.2.2.1⟩⟩⟩⟩⟩)⟩, ⟨by (with_reducible repeat (first | apply Kd.V_alloc | apply Kd.V_drewN | apply Kd.V_drew)); exact Kd.V_mono (Kd.V_far (p := ⟨gb110, 2, none⟩) (Kd.V_mono HO_110002.out (fun k_ hk => (⟨hk, hk.1.2.2.2.2.1⟩ : _ ∧ k_ ≠ gb110))) (fun _ hk => hk.2) (.slice Ao72 y122.length co72)) (fun _ hk => ⟨hk.1.1.1, ⟨hk.1.2, ⟨hk.1.1.2.1, ⟨hk.1.1.2.2.1, ⟨hk.1.1.2.2.2.1, hk.1.1.2.2.2.2.1⟩⟩⟩⟩⟩)⟩, ⟨by (with_reducible repeat (first | apply Kd.N_alloc | apply Kd.N_drewN | apply Kd.N_drew)); exact Kd.N_mono (Kd.N_far (p := ⟨gb110, 2, none⟩) (Kd.N_mono HO124.out (fun k_ hk => (⟨hk, hk.2.2.2.2.1⟩ : _ ∧ k_ ≠ gb110))) (fun _ hk => hk.2) (.slice Ao72 y122.length co72)) (fun _ hk => ⟨hk.1.1, ⟨hk.1.2.1, ⟨hk.1.2.2.1, ⟨hk.1.2.2.2.1, hk.1.2.2.2.2.1⟩⟩⟩⟩)⟩, ⟨by (repeat first | with_reducible apply zN | with_reducible apply zD | with_reducible apply zA | refine blk_far ?_ NB101_110.out _); exact BK101.out⟩, ⟨by (repeat first | with_reducible apply zN | with_reducible apply zD | with_reducible apply zA | refine blk_far ?_ NB102_110.out _); exact BK102.out⟩, ⟨by (repeat first | with_reducible apply zN | with_reducible apply zD | with_reducible apply zA | refine blk_far ?_ NB109_110.out _); exact BK109.out⟩, ⟨by (with_reducible repeat first | apply zN | apply zD | apply zA); refine blk_put (cs := #[.int .i64 a0_0, .int .i64 a0_1, u111002]) ?_ 2 _ rfl; (with_reducible repeat first | apply zN | apply zD | apply zA); exact BK110.out⟩, ⟨pH HB⟩⟩
        ·rw [if_neg c53] at H
         exact absurd H (by simp)
      ·rw [if_neg c34] at H
       exact absurd H (by simp)
     ·rw [if_neg c33] at H
      exact absurd H (by simp)
    ·rw [if_neg c32] at H
     have c32b0 : decide (x25_1 < (l0_2.length : Int)) = false := decide_eq_false c32
     clear c32
     simp only [Option.some.injEq, Prod.mk.injEq] at H
     obtain ⟨rfl, rfl, rfl, rfl⟩ := H
     have hnb74 := NB110_101.out
     have hnc74 := NB101_110.out
     have hnb75 := NB110_102.out
     have hnc75 := NB102_110.out
     have hnb76 := NB110_109.out
     have hnc76 := NB109_110.out
     have hcz77_0 := k30 BK110
     have hcz77_1 := k31 BK110
     have hcz77_2 := k32 BK110
     have hfz77_0 := fz BK110 0
     have hfz77_1 := fz BK110 1
     have hfz77_2 := fz BK110 2
     have hnb78 := NB102_101.out
     have hnc78 := NB101_102.out
     have hnb79 := NB102_109.out
     have hnc79 := NB109_102.out
     have hcz80_0 := k30 BK102
     have hcz80_1 := k31 BK102
     have hcz80_2 := k32 BK102
     have hfz80_0 := fz BK102 0
     have hfz80_1 := fz BK102 1
     have hfz80_2 := fz BK102 2
     obtain ⟨Ao81, co81, eo81⟩ := Kd.N_slice HO_111002.out
     subst eo81
     go_wp2
     refine bodyPost_ret (results_ct rfl _ _ gb102 77 #[.int .i64 a0_0, .int .i64 a0_1, .slice Ao81 x111002_1.length co81] (0, 0) _ rfl (p3 BK102) Try.underlying77 rfl (by kernel_rfl)) rfl ?_
     exact ⟨_, eW, Kd.N_V (by (with_reducible repeat (first | apply Kd.N_alloc | apply Kd.N_drewN | apply Kd.N_drew)); exact Kd.N_mono (nF3 gb102 (Kd.N_mono HO_111002.out (fun k_ hk => (⟨hk, hk.2.2.1⟩ : _ ∧ k_ ≠ gb102))) (fun _ hk => hk.2)) (fun _ hk => hk.1.1)), pH HB⟩

end Go.Proofs.Ytcjhhdecckcibaa.G

namespace Go.Proofs.Ytcjhhdecckcibaa.G
open Go.RowKit Go.Proofs.YtcjhhdecckcibaaW.PrintWords Go.Proofs.YtcjhhdecckcibaaW.PrintLast Go.Proofs.YtcjhhdecckcibaaW.PrintMore
attribute [local go_sem] max2_int min2_int max_two min_two max_three min_three max_four min_four   -- for this text's walks alone
set_option linter.unusedVariables false
set_option linter.unusedSimpArgs false

mutual
def spec_NormalComb.j0 : Nat → List (S52) → Int → Bool → Option ((List (S52)) × Int × Bool)
 | 0, _, _, _ => none
 | k + 1, x0, x1, x22 => if x22 = true then (some (([] : List (S52)), 0, false)) else ((spec_ldTree.f k x0 0).bind fun bt103 => (spec_NormalComb.l0 k x1 0 bt103.1 bt103.2.1 bt103.2.2))
def spec_NormalComb.l0 : Nat → Int → Int → Int → Int → List (S77) → Option ((List (S52)) × Int × Bool)
 | 0, _, _, _, _, _ => none
 | k + 1, x1, x8, x109000, x109001, x109002 => (spec_ldStep.f k x109000 x109001 x109002).bind fun bt109 => (if bt109.2.2.2 = true then ((spec_ldTold.f k bt109.1 bt109.2.1 bt109.2.2.1).bind fun bt116 => (if bt116.2 = true then (if x8 = x1 then (some (([] : List (S52)), 0, false)) else (spec_NormalComb.l0 k x1 (wrap64 (x8 + 1)) bt109.1 bt109.2.1 bt109.2.2.1)) else (some (([] : List (S52)), 0, false)))) else ((spec_ldTold.f k x109000 x109001 x109002).bind fun bt120 => (some (bt120.1, x8, true))))
end
def spec_NormalComb.f (k : Nat) (l0 : List (S52)) (a1 : Int) : Option ((List (S52)) × Int × Bool) := (spec_GoodComb.f k l0).bind fun t101 => (if t101 = true then ((spec_l1In.f a1 0 1000).bind fun t102 => (spec_NormalComb.j0 k l0 a1 (!t102))) else (spec_NormalComb.j0 k l0 a1 true))
set_option maxHeartbeats 8000000 in
set_option maxRecDepth 100000 in
theorem spec_NormalComb.calls (k : Nat) (A0 : Option Addr) (c0 : Nat) (l0 : List (S52)) (a1 : Int) (r1 : List (S52)) (r2 : Int) (r3 : Bool) (w : World) (hr0 : Kd.C k52 w A0 l0.length l0) (hc0 : l0.length ≤ c0) (h : spec_NormalComb.f k l0 a1 = some (r1, r2, r3)) :
  Calls Try.prog 33 #[.slice A0 l0.length c0, .int .i64 a1] w fun e w' => ∃ v0_ : Value, e = .returned (.tuple #[v0_, .int .i64 r2, .bool r3]) ∧ Kd.R k52 52 w' w.heap.size (fun _ => True) v0_ r1 ∧ Below w.heap.size w w' := by
 have hu77 := Try.underlying77
 have HR0 := aK hr0
 have HC0 := aK hc0
 clear hr0 hc0
 have HB := aK (Below.refl w.heap.size w)
 have H : ((spec_GoodComb.f k l0).bind fun t101 => (if t101 = true then ((spec_l1In.f a1 0 1000).bind fun t102 => (spec_NormalComb.j0 k l0 a1 (!t102))) else (spec_NormalComb.j0 k l0 a1 true))) = some (r1, r2, r3) := h
 clear h
 have HC3 := aK H
 clear H
 go_enter Try.func33, Try.ntmps33
 go_upto_region 1 with (fail)
 go_cut [22] (fun v22 wc => ∃ (kq : Nat) (x22_2 : Bool), v22 = .bool x22_2 ∧ Aside0 (spec_NormalComb.j0 kq l0 a1 x22_2 = some (r1, r2, r3)) ∧ Aside0 (kq ≤ k) ∧ Aside0 (Below w.heap.size w wc))
 case first =>
  have H := HC3.out
  clear HC3
  replace H := Option.bind_eq_some_iff.mp H
  obtain ⟨t101, A40, H⟩ := H
  try dsimp only at H
  have A4 := aK A40
  clear A40
  by_cases c5 : t101 = true
  ·subst c5
   rw [if_pos rfl] at H
   replace H := Option.bind_eq_some_iff.mp H
   obtain ⟨t102, A60, H⟩ := H
   try dsimp only at H
   have A6 := aK A60
   clear A60
   have H' := aK H
   clear H
   go_wp2_with (first | ((with_reducible refine gate_callee (f := 12) rfl ?_); refine goesL_ (some 16) rfl rfl Try.func12 (by kernel_rfl) rfl #[.slice A0 l0.length c0] rfl tA ?_; (with_reducible refine (spec_GoodComb.calls k _ _ l0 true _ ?side1 ?side2 A4.out).mono ?_); (case side1 => exact sC (Kd.C_below HR0.out HB.out)); (case side2 => exact HC0.out); rintro e w7 ⟨rfl, hb⟩; refine ⟨_, rfl, ?_⟩; replace HB := qs HB hb; (try clear hb)) | (go_at_call 39; (with_reducible refine (spec_l1In.calls a1 0 1000 t102 _ A6.out).mono ?_); rintro e w' ⟨rfl, ⟨nd, rfl⟩⟩))
   go_meet
   case rel => exact ⟨_, (!t102), rS, H', ⟨by first | omega | exact Nat.le_refl _⟩, ⟨pH HB⟩⟩
  ·replace c5 := Bool.eq_false_iff.mpr c5
   subst c5
   rw [if_neg (show ¬ (false = true) by decide)] at H
   have H' := aK H
   clear H
   go_wp2_with (first | ((with_reducible refine gate_callee (f := 12) rfl ?_); refine goesL_ (some 16) rfl rfl Try.func12 (by kernel_rfl) rfl #[.slice A0 l0.length c0] rfl tA ?_; (with_reducible refine (spec_GoodComb.calls k _ _ l0 false _ ?side1 ?side2 A4.out).mono ?_); (case side1 => exact sC (Kd.C_below HR0.out HB.out)); (case side2 => exact HC0.out); rintro e w8 ⟨rfl, hb⟩; refine ⟨_, rfl, ?_⟩; replace HB := qs HB hb; (try clear hb)))
   go_meet
   case rel => exact ⟨_, (true), rS, H', ⟨by first | omega | exact Nat.le_refl _⟩, ⟨pH HB⟩⟩
 case rest =>
  clear HC3
  try clear c1
  try clear p2
  try clear c3
  try clear c5
  obtain ⟨kq, x22_2, rfl, HA, HJ2, HB⟩ := hcut
  cases kq with
  | zero => exact absurd HA.out (by simp [spec_NormalComb.j0])
  | succ kj2 =>
   have H := HA.out
   clear HA
   simp only [spec_NormalComb.j0] at H
   by_cases c9 : x22_2 = true
   ·subst c9
    rw [if_pos rfl] at H
    simp only [Option.some.injEq, Prod.mk.injEq] at H
    obtain ⟨rfl, rfl, rfl⟩ := H
    go_wp2
    go_ret3
    exact ⟨_, eW, by first | exact Kd.R_nil _ _ _ _ _ | exact Kd.N_nil _ _ _ _ _ | exact Kd.V_nil _ _ _ _ _ | exact Kd.Q_nil _ _ _ _ _ | exact Kd.S_nil _ _ _ _ _, pH HB⟩
   ·replace c9 := Bool.eq_false_iff.mpr c9
    subst c9
    rw [if_neg (show ¬ (false = true) by decide)] at H
    replace H := Option.bind_eq_some_iff.mp H
    obtain ⟨⟨t103, t104, t105⟩, A100, H⟩ := H
    try dsimp only at H
    have A10 := aK A100
    clear A100
    have H' := aK H
    clear H
    go_wp2_with (first | ((with_reducible refine gate_callee (f := 52) rfl ?_); refine goesL_ (some 24) rfl rfl Try.func52 (by kernel_rfl) rfl #[.slice A0 l0.length c0, .int .i64 0] rfl tA ?_; (with_reducible refine (spec_ldTree.calls kj2 _ _ l0 0 t103 t104 t105 _ ?side1 ?side2 A10.out).mono ?_); (case side1 => exact sC (Kd.C_below HR0.out HB.out)); (case side2 => exact HC0.out); rintro e w11 ⟨v106, rfl, ho0, hb⟩; refine ⟨_, rfl, ?_⟩; have HO107 := aK (Kd.R_lower ho0 (below_size HB.out)); replace HB := qs HB hb; (try clear hb); (try clear ho0)) | ((with_reducible refine gate_dst (N := 7) rfl ?_); refine bE (N := 7) (cs := #[.int .i64 0, .int .i64 0, .slice none 0 0]) (t := 77) ?_; intro gb108 hg w12 hbox hb; have n0_ := aK (Kd.R_below (Kd.R_elderB HO107.out gb108 (Nat.le_of_eq hg.symm)) hb); have GW108 := qw HB hg; have GE108 := qw HB hg; have BK108 := aK hbox; clear HO107; have HO107 := n0_; clear n0_; replace HB := qs HB hb; clear hb hbox hg; have hcz13_0 := k30 BK108; have hcz13_1 := k31 BK108; have hcz13_2 := k32 BK108; have hfz13_0 := fz BK108 0; have hfz13_1 := fz BK108 1; have hfz13_2 := fz BK108 2; obtain ⟨Ao14, co14, eo14⟩ := Kd.R_slice HO107.out; subst eo14))
    go_loopg [8] kj2 (fun kq v8 w' => ∃ (x8_2 : Int) (x109000_2 : Int) (x109001_2 : Int) (x109002_2 : List (S77)) (u109002 : Value), v8 = .int .i64 x8_2 ∧ Aside0 (spec_NormalComb.l0 kq a1 x8_2 x109000_2 x109001_2 x109002_2 = some (r1, r2, r3)) ∧ Aside0 (kq ≤ kj2) ∧ Aside0 (Kd.V k77 77 w' w.heap.size (fun k_ => k_ ≠ gb108) u109002 x109002_2) ∧ Aside0 (w'.heap[gb108]? = some (.cells #[.int .i64 x109000_2, .int .i64 x109001_2, u109002] 77 (0, 0))) ∧ Aside0 (Below w.heap.size w w'))
    case atStart => exact ⟨(0), (t103), (t104), (t105), (.slice Ao14 t105.length co14), rS, H', ⟨Nat.le_refl _⟩, ⟨Kd.R_V (by (with_reducible repeat (first | apply Kd.R_alloc | apply Kd.R_drewN | apply Kd.R_drew)); exact Kd.R_mono (Kd.R_far (p := ⟨gb108, 2, none⟩) (Kd.R_far (p := ⟨gb108, 1, none⟩) (Kd.R_far (p := ⟨gb108, 0, none⟩) (Kd.R_mono HO107.out (fun k_ hk => (⟨hk, hk.2⟩ : _ ∧ k_ ≠ gb108))) (fun _ hk => hk.2) (.int .i64 t103)) (fun _ hk => hk.2) (.int .i64 t104)) (fun _ hk => hk.2) (.slice Ao14 t105.length co14)) (fun _ hk => hk.1.2))⟩, ⟨p3 BK108⟩, ⟨pH HB⟩⟩
    case round =>
     clear H'
     try clear c1
     try clear p2
     try clear c3
     try clear c5
     try clear c9
     try clear c12
     try clear hcz13_0
     try clear hcz13_1
     try clear hcz13_2
     try clear hfz13_0
     try clear hfz13_1
     try clear hfz13_2
     try clear p2
     obtain ⟨x8_2, x109000_2, x109001_2, x109002_2, u109002, rfl, HA, HK2, HO_109002, BK108, HB⟩ := hrel
     cases gk with
     | zero => exact absurd HA.out (by simp [spec_NormalComb.l0])
     | succ k2 =>
      have H := HA.out
      clear HA
      simp only [spec_NormalComb.l0] at H
      replace H := Option.bind_eq_some_iff.mp H
      obtain ⟨⟨t109, t110, t111, t114⟩, A150, H⟩ := H
      try dsimp only at H
      have A15 := aK A150
      clear A150
      by_cases c16 : t114 = true
      ·subst c16
       rw [if_pos rfl] at H
       replace H := Option.bind_eq_some_iff.mp H
       obtain ⟨⟨t116, t119⟩, A170, H⟩ := H
       try dsimp only at H
       have A17 := aK A170
       clear A170
       by_cases c18 : t119 = true
       ·subst c18
        rw [if_pos rfl] at H
        by_cases c19 : x8_2 = a1
        ·rw [if_pos c19] at H
         have c19b0 : (x8_2 == a1) = true := beq_iff_eq.mpr c19
         have c19b1 : (x8_2 != a1) = false := bne_eq_false_iff_eq.mpr c19
         clear c19
         simp only [Option.some.injEq, Prod.mk.injEq] at H
         obtain ⟨rfl, rfl, rfl⟩ := H
         have hcz20_0 := k30 BK108
         have hcz20_1 := k31 BK108
         have hcz20_2 := k32 BK108
         have hfz20_0 := fz BK108 0
         have hfz20_1 := fz BK108 1
         have hfz20_2 := fz BK108 2
         obtain ⟨Ao21, co21, eo21⟩ := Kd.V_slice HO_109002.out
         subst eo21
         go_wp2_with (first | ((with_reducible refine gate_callee (f := 55) rfl ?_); refine goesL_ (some 29) rfl rfl Try.func55 (by kernel_rfl) rfl #[.agg #[.int .i64 x109000_2, .int .i64 x109001_2, .slice Ao21 x109002_2.length co21]] rfl tA ?_; (with_reducible refine (spec_ldStep.calls k2 x109000_2 x109001_2 (fun k_ => k_ ≠ gb108) _ _ x109002_2 t109 t110 t111 true _ ?side1 A15.out).mono ?_); (case side1 => exact HO_109002.out); rintro e w22 ⟨v112, rfl, ho0, hb⟩; refine ⟨_, rfl, ?_⟩; have n0_ := aK (Kd.V_below HO_109002.out hb); have HO113 := aK (Kd.V_lower (Kd.V_mono (ok' := fun k_ => k_ ≠ gb108) ho0 (fun k_ hk_ => Or.elim hk_ (fun hs_ => hs_) (fun hn_ => (Kd.freshB BK108.out k_ hn_)))) (below_size HB.out)); replace BK108 := qb BK108 hb; clear HO_109002; have HO_109002 := n0_; clear n0_; replace HB := qs HB hb; (try clear hb); (try clear ho0)) | ((with_reducible refine gate_dst (N := 9) rfl ?_); refine bE (N := 9) (cs := #[.int .i64 0, .int .i64 0, .slice none 0 0]) (t := 77) ?_; intro gb115 hg w23 hbox hb; have GW115 := qw HB hg; have GE115 := qw HB hg; have NB108_115 := ql BK108 hg; have NB115_108 := qg BK108 hg; replace HO_109002 := qv HO_109002 hg hb; replace HO113 := qv HO113 hg hb; replace BK108 := qb BK108 hb; have BK115 := aK hbox; replace HB := qs HB hb; clear hb hbox hg; have hnb24 := NB115_108.out; have hnc24 := NB108_115.out; have hcz25_0 := k30 BK115; have hcz25_1 := k31 BK115; have hcz25_2 := k32 BK115; have hfz25_0 := fz BK115 0; have hfz25_1 := fz BK115 1; have hfz25_2 := fz BK115 2; obtain ⟨Ao26, co26, eo26⟩ := Kd.V_slice HO113.out; subst eo26) | ((with_reducible refine gate_callee (f := 50) rfl ?_); refine goesL_ (some 43) rfl rfl Try.func50 (by kernel_rfl) rfl #[.agg #[.int .i64 t109, .int .i64 t110, .slice Ao26 t111.length co26]] rfl tA ?_; (with_reducible refine (spec_ldTold.calls k2 t109 t110 _ _ t111 t116 true _ ?side1 ?side2 A17.out).mono ?_); (case side1 => refine (Kd.V_reads' (e := 77) (base := w.heap.size) (ok := fun k_ => (k_ ≠ gb108 ∧ k_ ≠ gb115)) (n := t111.length) (c := co26) ?_).2.2; exact (by (with_reducible repeat (first | apply Kd.V_alloc | apply Kd.V_drewN | apply Kd.V_drew)); exact (Kd.V_mono (vF3 gb115 (Kd.V_mono HO113.out (fun k_ hk => (⟨hk, hk.2⟩ : _ ∧ k_ ≠ gb115))) (fun _ hk => hk.2)) (fun _ h_ => h_.1)))); (case side2 => exact (Kd.V_reads' HO113.out).2.1); rintro e w27 ⟨v117, rfl, ho0, hb⟩; refine ⟨_, rfl, ?_⟩; have n0_ := aK (Kd.V_elder' (by (with_reducible repeat (first | apply Kd.V_alloc | apply Kd.V_drewN | apply Kd.V_drew)); exact (Kd.V_mono (vF3 gb115 (Kd.V_mono HO_109002.out (fun k_ hk => (⟨hk, hk.2⟩ : _ ∧ k_ ≠ gb115))) (fun _ hk => hk.2)) (fun _ h_ => h_.1))) (Kd.R_base ho0) hb); have n1_ := aK (Kd.V_elder' (by (with_reducible repeat (first | apply Kd.V_alloc | apply Kd.V_drewN | apply Kd.V_drew)); exact (Kd.V_mono (vF3 gb115 (Kd.V_mono HO113.out (fun k_ hk => (⟨hk, hk.2⟩ : _ ∧ k_ ≠ gb115))) (fun _ hk => hk.2)) (fun _ h_ => h_.1))) (Kd.R_base ho0) hb); have n2_ := aK (Kd.R_lower ho0 (below_size (pH HB))); have n3_ := aK (blk_below (g := gb108) (o := .cells #[.int .i64 x109000_2, .int .i64 x109001_2, .slice Ao21 x109002_2.length co21] 77 (0, 0)) (by (repeat first | with_reducible apply zN | with_reducible apply zD | with_reducible apply zA | refine blk_far ?_ NB108_115.out _); exact BK108.out) hb); have n4_ := aK (blk_below (g := gb115) (o := .cells #[.int .i64 t109, .int .i64 t110, .slice Ao26 t111.length co26] 77 (0, 0)) (p3 BK115) hb); have n5_ := aK (below_step (pH HB) hb); clear HO_109002; clear HO113; clear BK108; clear BK115; clear HB; have HO_109002 := n0_; have HO113 := n1_; have HO118 := n2_; have BK108 := n3_; have BK115 := n4_; have HB := n5_; clear n0_ n1_ n2_ n3_ n4_ n5_; (try clear hb); (try clear ho0)))
         go_ret3
         exact ⟨_, eW, by first | exact Kd.R_nil _ _ _ _ _ | exact Kd.N_nil _ _ _ _ _ | exact Kd.V_nil _ _ _ _ _ | exact Kd.Q_nil _ _ _ _ _ | exact Kd.S_nil _ _ _ _ _, pH HB⟩
        ·rw [if_neg c19] at H
         have c19b0 : (x8_2 == a1) = false := beq_eq_false_iff_ne.mpr c19
         have c19b1 : (x8_2 != a1) = true := bne_iff_ne.mpr c19
         have H' := aK H
         clear H
         have hcz28_0 := k30 BK108
         have hcz28_1 := k31 BK108
         have hcz28_2 := k32 BK108
         have hfz28_0 := fz BK108 0
         have hfz28_1 := fz BK108 1
         have hfz28_2 := fz BK108 2
         obtain ⟨Ao29, co29, eo29⟩ := Kd.V_slice HO_109002.out
         subst eo29
         go_wp2_with (first | ((with_reducible refine gate_callee (f := 55) rfl ?_); refine goesL_ (some 29) rfl rfl Try.func55 (by kernel_rfl) rfl #[.agg #[.int .i64 x109000_2, .int .i64 x109001_2, .slice Ao29 x109002_2.length co29]] rfl tA ?_; (with_reducible refine (spec_ldStep.calls k2 x109000_2 x109001_2 (fun k_ => k_ ≠ gb108) _ _ x109002_2 t109 t110 t111 true _ ?side1 A15.out).mono ?_); (case side1 => exact HO_109002.out); rintro e w30 ⟨v112, rfl, ho0, hb⟩; refine ⟨_, rfl, ?_⟩; have n0_ := aK (Kd.V_below HO_109002.out hb); have HO113 := aK (Kd.V_lower (Kd.V_mono (ok' := fun k_ => k_ ≠ gb108) ho0 (fun k_ hk_ => Or.elim hk_ (fun hs_ => hs_) (fun hn_ => (Kd.freshB BK108.out k_ hn_)))) (below_size HB.out)); replace BK108 := qb BK108 hb; clear HO_109002; have HO_109002 := n0_; clear n0_; replace HB := qs HB hb; (try clear hb); (try clear ho0)) | ((with_reducible refine gate_dst (N := 9) rfl ?_); refine bE (N := 9) (cs := #[.int .i64 0, .int .i64 0, .slice none 0 0]) (t := 77) ?_; intro gb115 hg w31 hbox hb; have GW115 := qw HB hg; have GE115 := qw HB hg; have NB108_115 := ql BK108 hg; have NB115_108 := qg BK108 hg; replace HO_109002 := qv HO_109002 hg hb; replace HO113 := qv HO113 hg hb; replace BK108 := qb BK108 hb; have BK115 := aK hbox; replace HB := qs HB hb; clear hb hbox hg; have hnb32 := NB115_108.out; have hnc32 := NB108_115.out; have hcz33_0 := k30 BK115; have hcz33_1 := k31 BK115; have hcz33_2 := k32 BK115; have hfz33_0 := fz BK115 0; have hfz33_1 := fz BK115 1; have hfz33_2 := fz BK115 2; obtain ⟨Ao34, co34, eo34⟩ := Kd.V_slice HO113.out; subst eo34) | ((with_reducible refine gate_callee (f := 50) rfl ?_); refine goesL_ (some 43) rfl rfl Try.func50 (by kernel_rfl) rfl #[.agg #[.int .i64 t109, .int .i64 t110, .slice Ao34 t111.length co34]] rfl tA ?_; (with_reducible refine (spec_ldTold.calls k2 t109 t110 _ _ t111 t116 true _ ?side1 ?side2 A17.out).mono ?_); (case side1 => refine (Kd.V_reads' (e := 77) (base := w.heap.size) (ok := fun k_ => (k_ ≠ gb108 ∧ k_ ≠ gb115)) (n := t111.length) (c := co34) ?_).2.2; exact (by (with_reducible repeat (first | apply Kd.V_alloc | apply Kd.V_drewN | apply Kd.V_drew)); exact (Kd.V_mono (vF3 gb115 (Kd.V_mono HO113.out (fun k_ hk => (⟨hk, hk.2⟩ : _ ∧ k_ ≠ gb115))) (fun _ hk => hk.2)) (fun _ h_ => h_.1)))); (case side2 => exact (Kd.V_reads' HO113.out).2.1); rintro e w35 ⟨v117, rfl, ho0, hb⟩; refine ⟨_, rfl, ?_⟩; have n0_ := aK (Kd.V_elder' (by (with_reducible repeat (first | apply Kd.V_alloc | apply Kd.V_drewN | apply Kd.V_drew)); exact (Kd.V_mono (vF3 gb115 (Kd.V_mono HO_109002.out (fun k_ hk => (⟨hk, hk.2⟩ : _ ∧ k_ ≠ gb115))) (fun _ hk => hk.2)) (fun _ h_ => h_.1))) (Kd.R_base ho0) hb); have n1_ := aK (Kd.V_elder' (by (with_reducible repeat (first | apply Kd.V_alloc | apply Kd.V_drewN | apply Kd.V_drew)); exact (Kd.V_mono (vF3 gb115 (Kd.V_mono HO113.out (fun k_ hk => (⟨hk, hk.2⟩ : _ ∧ k_ ≠ gb115))) (fun _ hk => hk.2)) (fun _ h_ => h_.1))) (Kd.R_base ho0) hb); have n2_ := aK (Kd.R_lower ho0 (below_size (pH HB))); have n3_ := aK (blk_below (g := gb108) (o := .cells #[.int .i64 x109000_2, .int .i64 x109001_2, .slice Ao29 x109002_2.length co29] 77 (0, 0)) (by (repeat first | with_reducible apply zN | with_reducible apply zD | with_reducible apply zA | refine blk_far ?_ NB108_115.out _); exact BK108.out) hb); have n4_ := aK (blk_below (g := gb115) (o := .cells #[.int .i64 t109, .int .i64 t110, .slice Ao34 t111.length co34] 77 (0, 0)) (p3 BK115) hb); have n5_ := aK (below_step (pH HB) hb); clear HO_109002; clear HO113; clear BK108; clear BK115; clear HB; have HO_109002 := n0_; have HO113 := n1_; have HO118 := n2_; have BK108 := n3_; have BK115 := n4_; have HB := n5_; clear n0_ n1_ n2_ n3_ n4_ n5_; (try clear hb); (try clear ho0); have hcz36_0 := k30 BK115; have hcz36_1 := k31 BK115; have hcz36_2 := k32 BK115; have hfz36_0 := fz BK115 0; have hfz36_1 := fz BK115 1; have hfz36_2 := fz BK115 2; have hcz37_0 := k30 BK108; have hcz37_1 := k31 BK108; have hcz37_2 := k32 BK108; have hfz37_0 := fz BK108 0; have hfz37_1 := fz BK108 1; have hfz37_2 := fz BK108 2))
         go_roundg k2
         case measure => have := HJ2.out; have := HK2.out; omega
         case rel => exact ⟨(wrap64 (x8_2 + 1)), (t109), (t110), (t111), (.slice Ao34 t111.length co34), rS, H', ⟨by have := HJ2.out; have := HK2.out; omega⟩, ⟨by (with_reducible repeat (first | apply Kd.V_alloc | apply Kd.V_drewN | apply Kd.V_drew)); exact Kd.V_mono (vF3 gb108 (Kd.V_mono HO113.out (fun k_ hk => (⟨hk, hk.1.1⟩ : _ ∧ k_ ≠ gb108))) (fun _ hk => hk.2)) (fun _ hk => hk.1.1.1)⟩, ⟨p3 BK108⟩, ⟨pH HB⟩⟩
       ·replace c18 := Bool.eq_false_iff.mpr c18
        subst c18
        rw [if_neg (show ¬ (false = true) by decide)] at H
        simp only [Option.some.injEq, Prod.mk.injEq] at H
        obtain ⟨rfl, rfl, rfl⟩ := H
        have hcz38_0 := k30 BK108
        have hcz38_1 := k31 BK108
        have hcz38_2 := k32 BK108
        have hfz38_0 := fz BK108 0
        have hfz38_1 := fz BK108 1
        have hfz38_2 := fz BK108 2
        obtain ⟨Ao39, co39, eo39⟩ := Kd.V_slice HO_109002.out
        subst eo39
        go_wp2_with (first | ((with_reducible refine gate_callee (f := 55) rfl ?_); refine goesL_ (some 29) rfl rfl Try.func55 (by kernel_rfl) rfl #[.agg #[.int .i64 x109000_2, .int .i64 x109001_2, .slice Ao39 x109002_2.length co39]] rfl tA ?_; (with_reducible refine (spec_ldStep.calls k2 x109000_2 x109001_2 (fun k_ => k_ ≠ gb108) _ _ x109002_2 t109 t110 t111 true _ ?side1 A15.out).mono ?_); (case side1 => exact HO_109002.out); rintro e w40 ⟨v112, rfl, ho0, hb⟩; refine ⟨_, rfl, ?_⟩; have n0_ := aK (Kd.V_below HO_109002.out hb); have HO113 := aK (Kd.V_lower (Kd.V_mono (ok' := fun k_ => k_ ≠ gb108) ho0 (fun k_ hk_ => Or.elim hk_ (fun hs_ => hs_) (fun hn_ => (Kd.freshB BK108.out k_ hn_)))) (below_size HB.out)); replace BK108 := qb BK108 hb; clear HO_109002; have HO_109002 := n0_; clear n0_; replace HB := qs HB hb; (try clear hb); (try clear ho0)) | ((with_reducible refine gate_dst (N := 9) rfl ?_); refine bE (N := 9) (cs := #[.int .i64 0, .int .i64 0, .slice none 0 0]) (t := 77) ?_; intro gb115 hg w41 hbox hb; have GW115 := qw HB hg; have GE115 := qw HB hg; have NB108_115 := ql BK108 hg; have NB115_108 := qg BK108 hg; replace HO_109002 := qv HO_109002 hg hb; replace HO113 := qv HO113 hg hb; replace BK108 := qb BK108 hb; have BK115 := aK hbox; replace HB := qs HB hb; clear hb hbox hg; have hnb42 := NB115_108.out; have hnc42 := NB108_115.out; have hcz43_0 := k30 BK115; have hcz43_1 := k31 BK115; have hcz43_2 := k32 BK115; have hfz43_0 := fz BK115 0; have hfz43_1 := fz BK115 1; have hfz43_2 := fz BK115 2; obtain ⟨Ao44, co44, eo44⟩ := Kd.V_slice HO113.out; subst eo44) | ((with_reducible refine gate_callee (f := 50) rfl ?_); refine goesL_ (some 43) rfl rfl Try.func50 (by kernel_rfl) rfl #[.agg #[.int .i64 t109, .int .i64 t110, .slice Ao44 t111.length co44]] rfl tA ?_; (with_reducible refine (spec_ldTold.calls k2 t109 t110 _ _ t111 t116 false _ ?side1 ?side2 A17.out).mono ?_); (case side1 => refine (Kd.V_reads' (e := 77) (base := w.heap.size) (ok := fun k_ => (k_ ≠ gb108 ∧ k_ ≠ gb115)) (n := t111.length) (c := co44) ?_).2.2; exact (by (with_reducible repeat (first | apply Kd.V_alloc | apply Kd.V_drewN | apply Kd.V_drew)); exact (Kd.V_mono (vF3 gb115 (Kd.V_mono HO113.out (fun k_ hk => (⟨hk, hk.2⟩ : _ ∧ k_ ≠ gb115))) (fun _ hk => hk.2)) (fun _ h_ => h_.1)))); (case side2 => exact (Kd.V_reads' HO113.out).2.1); rintro e w45 ⟨v117, rfl, ho0, hb⟩; refine ⟨_, rfl, ?_⟩; have n0_ := aK (Kd.V_elder' (by (with_reducible repeat (first | apply Kd.V_alloc | apply Kd.V_drewN | apply Kd.V_drew)); exact (Kd.V_mono (vF3 gb115 (Kd.V_mono HO_109002.out (fun k_ hk => (⟨hk, hk.2⟩ : _ ∧ k_ ≠ gb115))) (fun _ hk => hk.2)) (fun _ h_ => h_.1))) (Kd.R_base ho0) hb); have n1_ := aK (Kd.V_elder' (by (with_reducible repeat (first | apply Kd.V_alloc | apply Kd.V_drewN | apply Kd.V_drew)); exact (Kd.V_mono (vF3 gb115 (Kd.V_mono HO113.out (fun k_ hk => (⟨hk, hk.2⟩ : _ ∧ k_ ≠ gb115))) (fun _ hk => hk.2)) (fun _ h_ => h_.1))) (Kd.R_base ho0) hb); have n2_ := aK (Kd.R_lower ho0 (below_size (pH HB))); have n3_ := aK (blk_below (g := gb108) (o := .cells #[.int .i64 x109000_2, .int .i64 x109001_2, .slice Ao39 x109002_2.length co39] 77 (0, 0)) (by (repeat first | with_reducible apply zN | with_reducible apply zD | with_reducible apply zA | refine blk_far ?_ NB108_115.out _); exact BK108.out) hb); have n4_ := aK (blk_below (g := gb115) (o := .cells #[.int .i64 t109, .int .i64 t110, .slice Ao44 t111.length co44] 77 (0, 0)) (p3 BK115) hb); have n5_ := aK (below_step (pH HB) hb); clear HO_109002; clear HO113; clear BK108; clear BK115; clear HB; have HO_109002 := n0_; have HO113 := n1_; have HO118 := n2_; have BK108 := n3_; have BK115 := n4_; have HB := n5_; clear n0_ n1_ n2_ n3_ n4_ n5_; (try clear hb); (try clear ho0)))
        go_ret3
        exact ⟨_, eW, by first | exact Kd.R_nil _ _ _ _ _ | exact Kd.N_nil _ _ _ _ _ | exact Kd.V_nil _ _ _ _ _ | exact Kd.Q_nil _ _ _ _ _ | exact Kd.S_nil _ _ _ _ _, pH HB⟩
      ·replace c16 := Bool.eq_false_iff.mpr c16
       subst c16
       rw [if_neg (show ¬ (false = true) by decide)] at H
       replace H := Option.bind_eq_some_iff.mp H
       obtain ⟨⟨t120, t123⟩, A460, H⟩ := H
       try dsimp only at H
       have A46 := aK A460
       clear A460
       simp only [Option.some.injEq, Prod.mk.injEq] at H
       obtain ⟨rfl, rfl, rfl⟩ := H
       have hcz47_0 := k30 BK108
       have hcz47_1 := k31 BK108
       have hcz47_2 := k32 BK108
       have hfz47_0 := fz BK108 0
       have hfz47_1 := fz BK108 1
       have hfz47_2 := fz BK108 2
       obtain ⟨Ao48, co48, eo48⟩ := Kd.V_slice HO_109002.out
       subst eo48
       go_wp2_with (first | ((with_reducible refine gate_callee (f := 55) rfl ?_); refine goesL_ (some 29) rfl rfl Try.func55 (by kernel_rfl) rfl #[.agg #[.int .i64 x109000_2, .int .i64 x109001_2, .slice Ao48 x109002_2.length co48]] rfl tA ?_; (with_reducible refine (spec_ldStep.calls k2 x109000_2 x109001_2 (fun k_ => k_ ≠ gb108) _ _ x109002_2 t109 t110 t111 false _ ?side1 A15.out).mono ?_); (case side1 => exact HO_109002.out); rintro e w49 ⟨v112, rfl, ho0, hb⟩; refine ⟨_, rfl, ?_⟩; have n0_ := aK (Kd.V_below HO_109002.out hb); have HO113 := aK (Kd.V_lower (Kd.V_mono (ok' := fun k_ => k_ ≠ gb108) ho0 (fun k_ hk_ => Or.elim hk_ (fun hs_ => hs_) (fun hn_ => (Kd.freshB BK108.out k_ hn_)))) (below_size HB.out)); replace BK108 := qb BK108 hb; clear HO_109002; have HO_109002 := n0_; clear n0_; replace HB := qs HB hb; (try clear hb); (try clear ho0)) | ((with_reducible refine gate_dst (N := 9) rfl ?_); refine bE (N := 9) (cs := #[.int .i64 0, .int .i64 0, .slice none 0 0]) (t := 77) ?_; intro gb115 hg w50 hbox hb; have GW115 := qw HB hg; have GE115 := qw HB hg; have NB108_115 := ql BK108 hg; have NB115_108 := qg BK108 hg; replace HO_109002 := qv HO_109002 hg hb; replace HO113 := qv HO113 hg hb; replace BK108 := qb BK108 hb; have BK115 := aK hbox; replace HB := qs HB hb; clear hb hbox hg; have hnb51 := NB115_108.out; have hnc51 := NB108_115.out; have hcz52_0 := k30 BK115; have hcz52_1 := k31 BK115; have hcz52_2 := k32 BK115; have hfz52_0 := fz BK115 0; have hfz52_1 := fz BK115 1; have hfz52_2 := fz BK115 2; obtain ⟨Ao53, co53, eo53⟩ := Kd.V_slice HO113.out; subst eo53; have hcz54_0 := k30 BK108; have hcz54_1 := k31 BK108; have hcz54_2 := k32 BK108; have hfz54_0 := fz BK108 0; have hfz54_1 := fz BK108 1; have hfz54_2 := fz BK108 2) | ((with_reducible refine gate_callee (f := 50) rfl ?_); refine goesL_ (some 36) rfl rfl Try.func50 (by kernel_rfl) rfl #[.agg #[.int .i64 x109000_2, .int .i64 x109001_2, .slice Ao48 x109002_2.length co48]] rfl tA ?_; (with_reducible refine (spec_ldTold.calls k2 x109000_2 x109001_2 _ _ x109002_2 t120 t123 _ ?side1 ?side2 A46.out).mono ?_); (case side1 => refine (Kd.V_reads' (e := 77) (base := w.heap.size) (ok := fun k_ => (k_ ≠ gb108 ∧ k_ ≠ gb115)) (n := x109002_2.length) (c := co48) ?_).2.2; exact (by (with_reducible repeat (first | apply Kd.V_alloc | apply Kd.V_drewN | apply Kd.V_drew)); exact (Kd.V_mono (vF3 gb115 (Kd.V_mono HO_109002.out (fun k_ hk => (⟨hk, hk.2⟩ : _ ∧ k_ ≠ gb115))) (fun _ hk => hk.2)) (fun _ h_ => h_.1)))); (case side2 => exact (Kd.V_reads' HO_109002.out).2.1); rintro e w55 ⟨v121, rfl, ho0, hb⟩; refine ⟨_, rfl, ?_⟩; have n0_ := aK (Kd.V_elder' (by (with_reducible repeat (first | apply Kd.V_alloc | apply Kd.V_drewN | apply Kd.V_drew)); exact (Kd.V_mono (vF3 gb115 (Kd.V_mono HO_109002.out (fun k_ hk => (⟨hk, hk.2⟩ : _ ∧ k_ ≠ gb115))) (fun _ hk => hk.2)) (fun _ h_ => h_.1))) (Kd.R_base ho0) hb); have n1_ := aK (Kd.V_elder' (by (with_reducible repeat (first | apply Kd.V_alloc | apply Kd.V_drewN | apply Kd.V_drew)); exact (Kd.V_mono (vF3 gb115 (Kd.V_mono HO113.out (fun k_ hk => (⟨hk, hk.2⟩ : _ ∧ k_ ≠ gb115))) (fun _ hk => hk.2)) (fun _ h_ => h_.1))) (Kd.R_base ho0) hb); have n2_ := aK (Kd.R_lower ho0 (below_size (pH HB))); have n3_ := aK (blk_below (g := gb108) (o := .cells #[.int .i64 x109000_2, .int .i64 x109001_2, .slice Ao48 x109002_2.length co48] 77 (0, 0)) (by (repeat first | with_reducible apply zN | with_reducible apply zD | with_reducible apply zA | refine blk_far ?_ NB108_115.out _); exact BK108.out) hb); have n4_ := aK (blk_below (g := gb115) (o := .cells #[.int .i64 t109, .int .i64 t110, .slice Ao53 t111.length co53] 77 (0, 0)) (p3 BK115) hb); have n5_ := aK (below_step (pH HB) hb); clear HO_109002; clear HO113; clear BK108; clear BK115; clear HB; have HO_109002 := n0_; have HO113 := n1_; have HO122 := n2_; have BK108 := n3_; have BK115 := n4_; have HB := n5_; clear n0_ n1_ n2_ n3_ n4_ n5_; (try clear hb); (try clear ho0)))
       go_ret3
       exact ⟨_, eW, by (with_reducible repeat (first | apply Kd.R_alloc | apply Kd.R_drewN | apply Kd.R_drew)); exact HO122.out, pH HB⟩

end Go.Proofs.Ytcjhhdecckcibaa.G

namespace Go.Proofs.Ytcjhhdecckcibaa.G
open Go.RowKit Go.Proofs.YtcjhhdecckcibaaW.PrintWords Go.Proofs.YtcjhhdecckcibaaW.PrintLast Go.Proofs.YtcjhhdecckcibaaW.PrintMore
attribute [local go_sem] max2_int min2_int max_two min_two max_three min_three max_four min_four   -- for this text's walks alone
set_option linter.unusedVariables false
set_option linter.unusedSimpArgs false

mutual
def impl_comb_measure.j0 : Nat → Int → Int → Bool → Int → Int → List (S58) → Option (Int × Int × Bool)
 | 0, _, _, _, _, _, _ => none
 | k + 1, x5, x6, x7, x102000, x102001, x102002 => impl_comb_measure.l0 k x5 x6 x7 x102002 (x102002.length : Int) 0
def impl_comb_measure.l0 : Nat → Int → Int → Bool → List (S58) → Int → Int → Option (Int × Int × Bool)
 | 0, _, _, _, _, _, _ => none
 | k + 1, x5, x6, x7, x32, x33, x34 => if x34 < x33 then (if 0 ≤ x34 then (if x34 < (x32.length : Int) then ((impl_comb_measure.f k ((rd_T58 x32 x34).f0) ((rd_T58 x32 x34).f1) ((rd_T58 x32 x34).f2)).bind fun bt104 => (if x7 = true then (impl_comb_measure.l0 k (wrap64 (x5 + bt104.1)) (mx x6 bt104.2.1) bt104.2.2 x32 x33 (wrap64 (x34 + 1))) else (impl_comb_measure.l0 k (wrap64 (x5 + bt104.1)) (mx x6 bt104.2.1) false x32 x33 (wrap64 (x34 + 1))))) else (none)) else (none)) else (some (x5, wrap64 (x6 + 1), x7))
def impl_comb_measure.f : Nat → Int → Int → List (S58) → Option (Int × Int × Bool)
 | 0, _, _, _ => none
 | k + 1, a0_0, a0_1, l0_2 => if a0_1 ≥ 0 then (if a0_1 ≤ 999 then (if a0_0 = 1 then (impl_comb_measure.j0 k 1 0 true a0_0 a0_1 l0_2) else (impl_comb_measure.j0 k 1 0 (a0_1 == 0) a0_0 a0_1 l0_2)) else (impl_comb_measure.j0 k 1 0 false a0_0 a0_1 l0_2)) else (impl_comb_measure.j0 k 1 0 false a0_0 a0_1 l0_2)
end
set_option maxHeartbeats 8000000 in
set_option maxRecDepth 100000 in
theorem impl_comb_measure.calls (k : Nat) : ∀ (a0_0 : Int) (a0_1 : Int) (A0_2 : Option Addr) (c0_2 : Nat) (l0_2 : List (S58)) (r1 : Int) (r2 : Int) (r3 : Bool) (w : World) (hr0_2 : Kd.C k58 w A0_2 l0_2.length l0_2) (hc0_2 : l0_2.length ≤ c0_2) (h : impl_comb_measure.f k a0_0 a0_1 l0_2 = some (r1, r2, r3)),
  Calls Try.prog 81 #[.agg #[.int .i64 a0_0, .int .i64 a0_1, .slice A0_2 l0_2.length c0_2]] w fun e w' => e = .returned (.tuple #[.int .i64 r1, .int .i64 r2, .bool r3]) ∧ Below w.heap.size w w' := by
 induction k using Nat.strongRecOn with
 | _ k ih =>
 intro a0_0 a0_1 A0_2 c0_2 l0_2 r1 r2 r3 w hr0_2 hc0_2 h
 cases k with
 | zero => exact absurd h (by simp [impl_comb_measure.f])
 | succ k =>
 simp only [impl_comb_measure.f] at h
 have hu58 := Try.underlying58
 have HR0_2 := aK hr0_2
 have HC0_2 := aK hc0_2
 clear hr0_2 hc0_2
 have HB := aK (Below.refl w.heap.size w)
 have H : (if a0_1 ≥ 0 then (if a0_1 ≤ 999 then (if a0_0 = 1 then (impl_comb_measure.j0 k 1 0 true a0_0 a0_1 l0_2) else (impl_comb_measure.j0 k 1 0 (a0_1 == 0) a0_0 a0_1 l0_2)) else (impl_comb_measure.j0 k 1 0 false a0_0 a0_1 l0_2)) else (impl_comb_measure.j0 k 1 0 false a0_0 a0_1 l0_2)) = some (r1, r2, r3) := h
 clear h
 have HC2 := aK H
 clear H
 go_enter Try.func81, Try.ntmps81
 go_upto_region 2 with (first | ((with_reducible refine gate_dst (N := 1) rfl ?_); refine bE (N := 1) (cs := #[.int .i64 a0_0, .int .i64 a0_1, .slice A0_2 l0_2.length c0_2]) (t := 58) ?_; intro gb101 hg w3 hbox hb; have GW101 := qw HB hg; have GE101 := qw HB hg; have BK101 := aK hbox; replace HB := qs HB hb; clear hb hbox hg))
 (try simp only [Act.put, List.setIfInBounds_toArray, List.set_cons_zero, List.set_cons_succ])
 go_cut [7] (fun v7 wc => ∃ (kq : Nat) (x7_1 : Bool), v7 = .bool x7_1 ∧ Aside0 (impl_comb_measure.j0 kq 1 0 x7_1 a0_0 a0_1 l0_2 = some (r1, r2, r3)) ∧ Aside0 (kq ≤ k) ∧ Aside0 (wc.heap[gb101]? = some (.cells #[.int .i64 a0_0, .int .i64 a0_1, (.slice A0_2 l0_2.length c0_2)] 58 (0, 0))) ∧ Aside0 (Below w.heap.size w wc))
 case first =>
  have H := HC2.out
  clear HC2
  by_cases c4 : a0_1 ≥ 0
  ·rw [if_pos c4] at H
   have c4b0 : decide (0 ≤ a0_1) = true := decide_eq_true c4
   clear c4
   (first | rw [c4b0] | (simp only [i64_w, i32_w]; rw [c4b0]) | skip)
   by_cases c5 : a0_1 ≤ 999
   ·rw [if_pos c5] at H
    have c5b0 : decide (a0_1 ≤ 999) = true := decide_eq_true c5
    clear c5
    by_cases c6 : a0_0 = 1
    ·rw [if_pos c6] at H
     have c6b0 : (a0_0 == 1) = true := beq_iff_eq.mpr c6
     have c6b1 : (a0_0 != 1) = false := bne_eq_false_iff_eq.mpr c6
     clear c6
     have H' := aK H
     clear H
     have hcz7_0 := k30 BK101
     have hcz7_1 := k31 BK101
     have hcz7_2 := k32 BK101
     have hfz7_0 := fz BK101 0
     have hfz7_1 := fz BK101 1
     have hfz7_2 := fz BK101 2
     go_wp2
     go_meet
     case rel => exact ⟨_, (true), rS, H', ⟨by first | omega | exact Nat.le_refl _⟩, ⟨pB BK101⟩, ⟨pH HB⟩⟩
    ·rw [if_neg c6] at H
     have c6b0 : (a0_0 == 1) = false := beq_eq_false_iff_ne.mpr c6
     have c6b1 : (a0_0 != 1) = true := bne_iff_ne.mpr c6
     have H' := aK H
     clear H
     have hcz8_0 := k30 BK101
     have hcz8_1 := k31 BK101
     have hcz8_2 := k32 BK101
     have hfz8_0 := fz BK101 0
     have hfz8_1 := fz BK101 1
     have hfz8_2 := fz BK101 2
     go_wp2
     go_meet
     case rel => exact ⟨_, ((a0_1 == 0)), rS, H', ⟨by first | omega | exact Nat.le_refl _⟩, ⟨pB BK101⟩, ⟨pH HB⟩⟩
   ·rw [if_neg c5] at H
    have c5b0 : decide (a0_1 ≤ 999) = false := decide_eq_false c5
    clear c5
    have H' := aK H
    clear H
    have hcz9_0 := k30 BK101
    have hcz9_1 := k31 BK101
    have hcz9_2 := k32 BK101
    have hfz9_0 := fz BK101 0
    have hfz9_1 := fz BK101 1
    have hfz9_2 := fz BK101 2
    go_wp2
    go_meet
    case rel => exact ⟨_, (false), rS, H', ⟨by first | omega | exact Nat.le_refl _⟩, ⟨pB BK101⟩, ⟨pH HB⟩⟩
  ·rw [if_neg c4] at H
   have c4b0 : decide (0 ≤ a0_1) = false := decide_eq_false c4
   clear c4
   (first | rw [c4b0] | (simp only [i64_w, i32_w]; rw [c4b0]) | skip)
   have H' := aK H
   clear H
   have hcz10_0 := k30 BK101
   have hcz10_1 := k31 BK101
   have hcz10_2 := k32 BK101
   have hfz10_0 := fz BK101 0
   have hfz10_1 := fz BK101 1
   have hfz10_2 := fz BK101 2
   go_wp2
   go_meet
   case rel => exact ⟨_, (false), rS, H', ⟨by first | omega | exact Nat.le_refl _⟩, ⟨pB BK101⟩, ⟨pH HB⟩⟩
 case rest =>
  clear HC2
  try clear p2
  try clear c4
  try clear c4b0
  try clear c5
  try clear c5b0
  try clear c6
  try clear c6b0
  try clear c6b1
  try clear c8
  try clear hcz10_0
  try clear hcz10_1
  try clear hcz10_2
  try clear hcz7_0
  try clear hcz7_1
  try clear hcz7_2
  try clear hcz8_0
  try clear hcz8_1
  try clear hcz8_2
  try clear hcz9_0
  try clear hcz9_1
  try clear hcz9_2
  try clear hfz10_0
  try clear hfz10_1
  try clear hfz10_2
  try clear hfz7_0
  try clear hfz7_1
  try clear hfz7_2
  try clear hfz8_0
  try clear hfz8_1
  try clear hfz8_2
  try clear hfz9_0
  try clear hfz9_1
  try clear hfz9_2
  obtain ⟨kq, x7_1, rfl, HA, HJ1, BK101, HB⟩ := hcut
  cases kq with
  | zero => exact absurd HA.out (by simp [impl_comb_measure.j0])
  | succ kj1 =>
   have H := HA.out
   clear HA
   simp only [impl_comb_measure.j0] at H
   have H' := aK H
   clear H
   have hcz11_0 := k30 BK101
   have hcz11_1 := k31 BK101
   have hcz11_2 := k32 BK101
   have hfz11_0 := fz BK101 0
   have hfz11_1 := fz BK101 1
   have hfz11_2 := fz BK101 2
   go_wp2
   go_loopg [5, 6, 7, 34] kj1 (fun kq v5 v6 v7 v34 w' => ∃ (x5_2 : Int) (x6_2 : Int) (x7_2 : Bool) (x34_2 : Int), v5 = .int .i64 x5_2 ∧ v6 = .int .i64 x6_2 ∧ v7 = .bool x7_2 ∧ v34 = .int .i64 x34_2 ∧ Aside0 (impl_comb_measure.l0 kq x5_2 x6_2 x7_2 l0_2 (l0_2.length : Int) x34_2 = some (r1, r2, r3)) ∧ Aside0 (kq ≤ kj1) ∧ Aside0 (w'.heap[gb101]? = some (.cells #[.int .i64 a0_0, .int .i64 a0_1, (.slice A0_2 l0_2.length c0_2)] 58 (0, 0))) ∧ Aside0 (Below w.heap.size w w'))
   case atStart => exact ⟨(1), (0), (x7_1), (0), rS, rS, rS, rS, H', ⟨Nat.le_refl _⟩, ⟨pB BK101⟩, ⟨pH HB⟩⟩
   case round =>
    clear H'
    try clear p2
    try clear c4
    try clear c4b0
    try clear c5
    try clear c5b0
    try clear c6
    try clear c6b0
    try clear c6b1
    try clear c8
    try clear hcz10_0
    try clear hcz10_1
    try clear hcz10_2
    try clear hcz11_0
    try clear hcz11_1
    try clear hcz11_2
    try clear hcz7_0
    try clear hcz7_1
    try clear hcz7_2
    try clear hcz8_0
    try clear hcz8_1
    try clear hcz8_2
    try clear hcz9_0
    try clear hcz9_1
    try clear hcz9_2
    try clear hfz10_0
    try clear hfz10_1
    try clear hfz10_2
    try clear hfz11_0
    try clear hfz11_1
    try clear hfz11_2
    try clear hfz7_0
    try clear hfz7_1
    try clear hfz7_2
    try clear hfz8_0
    try clear hfz8_1
    try clear hfz8_2
    try clear hfz9_0
    try clear hfz9_1
    try clear hfz9_2
    try clear p2
    obtain ⟨x5_2, x6_2, x7_2, x34_2, rfl, rfl, rfl, rfl, HA, HK2, BK101, HB⟩ := hrel
    cases gk with
    | zero => exact absurd HA.out (by simp [impl_comb_measure.l0])
    | succ k2 =>
     have H := HA.out
     clear HA
     simp only [impl_comb_measure.l0] at H
     by_cases c12 : x34_2 < (l0_2.length : Int)
     ·rw [if_pos c12] at H
      have c12b0 : decide (x34_2 < (l0_2.length : Int)) = true := decide_eq_true c12
      clear c12
      by_cases c13 : 0 ≤ x34_2
      ·rw [if_pos c13] at H
       have c13b0 : decide (0 ≤ x34_2) = true := decide_eq_true c13
       clear c13
       by_cases c14 : x34_2 < (l0_2.length : Int)
       ·rw [if_pos c14] at H
        have c14b0 : decide (x34_2 < (l0_2.length : Int)) = true := decide_eq_true c14
        clear c14
        replace H := Option.bind_eq_some_iff.mp H
        obtain ⟨⟨t104, t105, t106⟩, A150, H⟩ := H
        try dsimp only at H
        have A15 := aK A150
        clear A150
        obtain ⟨ji16, hji16⟩ : ∃ j_ : Int, (mx x6_2 t105) = j_ := ⟨_, rfl⟩
        replace H : (if x7_2 = true then (impl_comb_measure.l0 k2 (wrap64 (x5_2 + t104)) ji16 t106 l0_2 (l0_2.length : Int) (wrap64 (x34_2 + 1))) else (impl_comb_measure.l0 k2 (wrap64 (x5_2 + t104)) ji16 false l0_2 (l0_2.length : Int) (wrap64 (x34_2 + 1)))) = some (r1, r2, r3) := by first | (rw [hji16] at H; exact H) | (simp only [hji16] at H ⊢; exact H)
        (try rw [hji16] at A15)
        have hji16_ : (if x6_2 < t105 then t105 else x6_2) = ji16 := hji16
        by_cases c17 : x7_2 = true
        ·subst c17
         rw [if_pos rfl] at H
         have H' := aK H
         clear H
         have p102 : 0 ≤ (x34_2 : Int) := dA
         have q102 : x34_2 < (l0_2.length : Int) := dA
         obtain ⟨ad102, A102_2, c102_2, e102, hx102_0, hx102_1, hx102_2, hl102_2, hi102_2⟩ := at_T58 HR0_2.out x34_2 p102 q102
         cases e102
         replace hx102_0 := uC HB hx102_0
         replace hx102_1 := uC HB hx102_1
         replace hx102_2 := uC HB hx102_2
         have HR102_2 := aK hi102_2
         have HC102_2 := aK hl102_2
         clear hi102_2 hl102_2
         replace p102 := eq_true p102
         replace q102 := eq_true q102
         go_wp2_with (first | ((with_reducible refine gate_dst (N := 9) rfl ?_); refine bE (N := 9) (cs := #[.int .i64 0, .int .i64 0, .slice none 0 0]) (t := 58) ?_; intro gb103 hg w18 hbox hb; have GW103 := qw HB hg; have GE103 := qw HB hg; have NB101_103 := ql BK101 hg; have NB103_101 := qg BK101 hg; replace BK101 := qb BK101 hb; have BK103 := aK hbox; replace HB := qs HB hb; clear hb hbox hg; have hnb19 := NB103_101.out; have hnc19 := NB101_103.out; have hcz20_0 := k30 BK103; have hcz20_1 := k31 BK103; have hcz20_2 := k32 BK103; have hfz20_0 := fz BK103 0; have hfz20_1 := fz BK103 1; have hfz20_2 := fz BK103 2) | ((with_reducible refine gate_callee (f := 81) rfl ?_); refine goesL_ (some 40) rfl rfl Try.func81 (by kernel_rfl) rfl #[.agg #[.int .i64 ((rd_T58 l0_2 x34_2).f0), .int .i64 ((rd_T58 l0_2 x34_2).f1), .slice A102_2 ((rd_T58 l0_2 x34_2).f2).length c102_2]] rfl tA ?_; (with_reducible refine (ih k2 (by have := HJ1.out; have := HK2.out; omega) ((rd_T58 l0_2 x34_2).f0) ((rd_T58 l0_2 x34_2).f1) _ _ ((rd_T58 l0_2 x34_2).f2) t104 t105 t106 _ ?side1 ?side2 A15.out).mono ?_); (case side1 => exact Kd.C_below HR102_2.out (pH HB)); (case side2 => exact HC102_2.out); rintro e w21 ⟨rfl, hb⟩; refine ⟨_, rfl, ?_⟩; have n0_ := aK (blk_below (g := gb101) (o := .cells #[.int .i64 a0_0, .int .i64 a0_1, .slice (some ad102) l0_2.length c0_2] 58 (0, 0)) (by (repeat first | with_reducible apply zN | with_reducible apply zD | with_reducible apply zA | refine blk_far ?_ NB101_103.out _); exact BK101.out) hb); have n1_ := aK (blk_below (g := gb103) (o := .cells #[.int .i64 ((rd_T58 l0_2 x34_2).f0), .int .i64 ((rd_T58 l0_2 x34_2).f1), .slice A102_2 ((rd_T58 l0_2 x34_2).f2).length c102_2] 58 (0, 0)) (p3 BK103) hb); have n2_ := aK (below_step (pH HB) hb); clear BK101; clear BK103; clear HB; have BK101 := n0_; have BK103 := n1_; have HB := n2_; clear n0_ n1_ n2_; (try clear hb)))
         go_roundg k2
         case measure => have := HJ1.out; have := HK2.out; omega
         case rel => exact ⟨(wrap64 (x5_2 + t104)), (ji16), (t106), (wrap64 (x34_2 + 1)), rS, (by first | rfl | (simp; done) | (simp only [← hji16] <;> (first | rfl | simp)) | (simp [*]; done)), rS, rS, H', ⟨by have := HJ1.out; have := HK2.out; omega⟩, ⟨pB BK101⟩, ⟨pH HB⟩⟩
        ·replace c17 := Bool.eq_false_iff.mpr c17
         subst c17
         rw [if_neg (show ¬ (false = true) by decide)] at H
         have H' := aK H
         clear H
         have p102 : 0 ≤ (x34_2 : Int) := dA
         have q102 : x34_2 < (l0_2.length : Int) := dA
         obtain ⟨ad102, A102_2, c102_2, e102, hx102_0, hx102_1, hx102_2, hl102_2, hi102_2⟩ := at_T58 HR0_2.out x34_2 p102 q102
         cases e102
         replace hx102_0 := uC HB hx102_0
         replace hx102_1 := uC HB hx102_1
         replace hx102_2 := uC HB hx102_2
         have HR102_2 := aK hi102_2
         have HC102_2 := aK hl102_2
         clear hi102_2 hl102_2
         replace p102 := eq_true p102
         replace q102 := eq_true q102
         go_wp2_with (first | ((with_reducible refine gate_dst (N := 9) rfl ?_); refine bE (N := 9) (cs := #[.int .i64 0, .int .i64 0, .slice none 0 0]) (t := 58) ?_; intro gb103 hg w22 hbox hb; have GW103 := qw HB hg; have GE103 := qw HB hg; have NB101_103 := ql BK101 hg; have NB103_101 := qg BK101 hg; replace BK101 := qb BK101 hb; have BK103 := aK hbox; replace HB := qs HB hb; clear hb hbox hg; have hnb23 := NB103_101.out; have hnc23 := NB101_103.out; have hcz24_0 := k30 BK103; have hcz24_1 := k31 BK103; have hcz24_2 := k32 BK103; have hfz24_0 := fz BK103 0; have hfz24_1 := fz BK103 1; have hfz24_2 := fz BK103 2) | ((with_reducible refine gate_callee (f := 81) rfl ?_); refine goesL_ (some 40) rfl rfl Try.func81 (by kernel_rfl) rfl #[.agg #[.int .i64 ((rd_T58 l0_2 x34_2).f0), .int .i64 ((rd_T58 l0_2 x34_2).f1), .slice A102_2 ((rd_T58 l0_2 x34_2).f2).length c102_2]] rfl tA ?_; (with_reducible refine (ih k2 (by have := HJ1.out; have := HK2.out; omega) ((rd_T58 l0_2 x34_2).f0) ((rd_T58 l0_2 x34_2).f1) _ _ ((rd_T58 l0_2 x34_2).f2) t104 t105 t106 _ ?side1 ?side2 A15.out).mono ?_); (case side1 => exact Kd.C_below HR102_2.out (pH HB)); (case side2 => exact HC102_2.out); rintro e w25 ⟨rfl, hb⟩; refine ⟨_, rfl, ?_⟩; have n0_ := aK (blk_below (g := gb101) (o := .cells #[.int .i64 a0_0, .int .i64 a0_1, .slice (some ad102) l0_2.length c0_2] 58 (0, 0)) (by (repeat first | with_reducible apply zN | with_reducible apply zD | with_reducible apply zA | refine blk_far ?_ NB101_103.out _); exact BK101.out) hb); have n1_ := aK (blk_below (g := gb103) (o := .cells #[.int .i64 ((rd_T58 l0_2 x34_2).f0), .int .i64 ((rd_T58 l0_2 x34_2).f1), .slice A102_2 ((rd_T58 l0_2 x34_2).f2).length c102_2] 58 (0, 0)) (p3 BK103) hb); have n2_ := aK (below_step (pH HB) hb); clear BK101; clear BK103; clear HB; have BK101 := n0_; have BK103 := n1_; have HB := n2_; clear n0_ n1_ n2_; (try clear hb)))
         go_roundg k2
         case measure => have := HJ1.out; have := HK2.out; omega
         case rel => exact ⟨(wrap64 (x5_2 + t104)), (ji16), (false), (wrap64 (x34_2 + 1)), rS, (by first | rfl | (simp; done) | (simp only [← hji16] <;> (first | rfl | simp)) | (simp [*]; done)), rS, rS, H', ⟨by have := HJ1.out; have := HK2.out; omega⟩, ⟨pB BK101⟩, ⟨pH HB⟩⟩
       ·rw [if_neg c14] at H
        exact absurd H (by simp)
      ·rw [if_neg c13] at H
       exact absurd H (by simp)
     ·rw [if_neg c12] at H
      have c12b0 : decide (x34_2 < (l0_2.length : Int)) = false := decide_eq_false c12
      clear c12
      simp only [Option.some.injEq, Prod.mk.injEq] at H
      obtain ⟨rfl, rfl, rfl⟩ := H
      go_wp2
      go_ret3
      exact ⟨eW, pH HB⟩

end Go.Proofs.Ytcjhhdecckcibaa.G

namespace Go.Proofs.Ytcjhhdecckcibaa.G
open Go.RowKit Go.Proofs.YtcjhhdecckcibaaW.PrintWords Go.Proofs.YtcjhhdecckcibaaW.PrintLast Go.Proofs.YtcjhhdecckcibaaW.PrintMore
attribute [local go_sem] max2_int min2_int max_two min_two max_three min_three max_four min_four   -- for this text's walks alone
set_option linter.unusedVariables false
set_option linter.unusedSimpArgs false

def impl_comb_isGood.f (k : Nat) (a0_0 : Int) (a0_1 : Int) (l0_2 : List (S58)) : Option (Bool) := (impl_comb_measure.f k a0_0 a0_1 l0_2).bind fun bt102 => (if bt102.2.2 = true then (if bt102.1 ≤ 200 then (some (decide (bt102.2.1 ≤ 60))) else (some false)) else (some false))
set_option maxHeartbeats 8000000 in
set_option maxRecDepth 100000 in
theorem impl_comb_isGood.calls (k : Nat) (a0_0 : Int) (a0_1 : Int) (A0_2 : Option Addr) (c0_2 : Nat) (l0_2 : List (S58)) (r : Bool) (w : World) (hr0_2 : Kd.C k58 w A0_2 l0_2.length l0_2) (hc0_2 : l0_2.length ≤ c0_2) (h : impl_comb_isGood.f k a0_0 a0_1 l0_2 = some r) :
    Calls Try.prog 58 #[.agg #[.int .i64 a0_0, .int .i64 a0_1, .slice A0_2 l0_2.length c0_2]] w fun e w' => e = .returned (.bool r) ∧ Below w.heap.size w w' := by
  have hu58 := Try.underlying58
  have HR0_2 := Aside0.mk hr0_2
  have HC0_2 := Aside0.mk hc0_2
  clear hr0_2 hc0_2
  have HB := Aside0.mk (Below.refl w.heap.size w)
  have H : ((impl_comb_measure.f k a0_0 a0_1 l0_2).bind fun bt102 => (if bt102.2.2 = true then (if bt102.1 ≤ 200 then (some (decide (bt102.2.1 ≤ 60))) else (some false)) else (some false))) = some r := h
  clear h
  replace H := Option.bind_eq_some_iff.mp H
  obtain ⟨⟨t102, t103, t104⟩, A20, H⟩ := H
  replace H : (if t104 = true then (if t102 ≤ 200 then (some (decide (t103 ≤ 60))) else (some false)) else (some false)) = some r := H
  have A2 := Aside0.mk A20
  clear A20
  by_cases c3 : t104 = true
  · subst c3
    have H1 : (if t102 ≤ 200 then (some (decide (t103 ≤ 60))) else (some false)) = some r := by rw [if_pos rfl] at H; exact H
    clear H
    have H := H1
    clear H1
    by_cases c4 : t102 ≤ 200
    · rw [if_pos c4] at H
      have c4b0 : decide (t102 ≤ 200) = true := decide_eq_true c4
      clear c4
      obtain rfl := Option.some.inj H
      go_enter Try.func58, Try.ntmps58
      go_wp2_with (first | ((with_reducible refine gate_dst (N := 1) rfl ?_); refine box_event ?hg (N := 1) ?hd (cs := #[.int .i64 a0_0, .int .i64 a0_1, .slice A0_2 l0_2.length c0_2]) (t := 58) ?hr ?_; (case hd => rfl); (case hg => rfl); (case hr => first | (go_simp; done) | (go_simp; rfl)); intro gb101 hg w5 hbox hb; have n0_ := Aside0.mk (below_step (by repeat (first | (with_reducible first | exact HB.out | apply below_alloc | apply pw_below_drewN | apply below_drew1) | exact HB.out)) hb); have n1_ := Aside0.mk (hbox); have n2_ := Aside0.mk ((by rw [hg]; exact (below_size (by repeat (first | (with_reducible first | exact HB.out | apply below_alloc | apply pw_below_drewN | apply below_drew1) | exact HB.out))) : w.heap.size ≤ gb101)); have n3_ := Aside0.mk ((by rw [hg]; exact (below_size (by repeat (first | (with_reducible first | exact HB.out | apply below_alloc | apply pw_below_drewN | apply below_drew1) | exact HB.out))) : w.heap.size ≤ gb101)); clear HB; have HB := n0_; have BK101 := n1_; have GW101 := n2_; have GE101 := n3_; clear n0_ n1_ n2_ n3_; clear hb hbox hg; have hcz6_0 : w5.cell? ⟨gb101, 0, none⟩ = some (.int .i64 a0_0) := (blk_cell BK101.out 0).trans rfl; have hcz6_1 : w5.cell? ⟨gb101, 1, none⟩ = some (.int .i64 a0_1) := (blk_cell BK101.out 1).trans rfl; have hcz6_2 : w5.cell? ⟨gb101, 2, none⟩ = some (.slice A0_2 l0_2.length c0_2) := (blk_cell BK101.out 2).trans rfl; have hfz6_0 := blk_frozen BK101.out 0; have hfz6_1 := blk_frozen BK101.out 1; have hfz6_2 := blk_frozen BK101.out 2) | ((with_reducible refine gate_callee (f := 81) rfl ?_); refine goesL_ (some 8) rfl rfl Try.func81 (by kernel_rfl) rfl #[.agg #[.int .i64 a0_0, .int .i64 a0_1, .slice A0_2 l0_2.length c0_2]] rfl (by (try simp only [List.map_toArray, List.map_cons, List.map_nil]); first | done | rfl | (simp only [List.length_drop, List.length_take]; rfl)) ?_; (with_reducible refine (impl_comb_measure.calls k a0_0 a0_1 _ _ l0_2 t102 t103 true _ ?side1 ?side2 A2.out).mono ?_); (case side1 => repeat (first | exact (Kd.C_below HR0_2.out HB.out) | (with_reducible refine Kd.C_alloc ?_ _) | (with_reducible refine Kd.C_drewN ?_ _) | (with_reducible refine Kd.C_drew ?_))); (case side2 => exact HC0_2.out); rintro e w7 ⟨rfl, hb⟩; refine ⟨_, rfl, ?_⟩; have n0_ := Aside0.mk (blk_below (g := gb101) (o := .cells #[.int .i64 a0_0, .int .i64 a0_1, .slice A0_2 l0_2.length c0_2] 58 (0, 0)) (by (with_reducible repeat (first | refine blk_drewN ?_ _ | refine blk_drew ?_ | refine blk_alloc ?_ _)); exact BK101.out) hb); have n1_ := Aside0.mk (below_step (by repeat (first | (with_reducible first | exact HB.out | apply below_alloc | apply pw_below_drewN | apply below_drew1 | refine below_set ?_ GE101.out) | exact HB.out)) hb); clear BK101; clear HB; have BK101 := n0_; have HB := n1_; clear n0_ n1_; (try clear hb); (try clear hb2); (try clear hk); (try clear hi)))
      go_ret
      exact ⟨by first | rfl | (simp [errW_none, errW_some] <;> rfl) | (simp [*, errW_none, errW_some] <;> rfl), by repeat (first | (with_reducible first | exact HB.out | apply below_alloc | apply pw_below_drewN | apply below_drew1 | refine below_set ?_ GE101.out) | exact HB.out)⟩
    · rw [if_neg c4] at H
      have c4b0 : decide (t102 ≤ 200) = false := decide_eq_false c4
      clear c4
      obtain rfl := Option.some.inj H
      go_enter Try.func58, Try.ntmps58
      go_wp2_with (first | ((with_reducible refine gate_dst (N := 1) rfl ?_); refine box_event ?hg (N := 1) ?hd (cs := #[.int .i64 a0_0, .int .i64 a0_1, .slice A0_2 l0_2.length c0_2]) (t := 58) ?hr ?_; (case hd => rfl); (case hg => rfl); (case hr => first | (go_simp; done) | (go_simp; rfl)); intro gb101 hg w8 hbox hb; have n0_ := Aside0.mk (below_step (by repeat (first | (with_reducible first | exact HB.out | apply below_alloc | apply pw_below_drewN | apply below_drew1) | exact HB.out)) hb); have n1_ := Aside0.mk (hbox); have n2_ := Aside0.mk ((by rw [hg]; exact (below_size (by repeat (first | (with_reducible first | exact HB.out | apply below_alloc | apply pw_below_drewN | apply below_drew1) | exact HB.out))) : w.heap.size ≤ gb101)); have n3_ := Aside0.mk ((by rw [hg]; exact (below_size (by repeat (first | (with_reducible first | exact HB.out | apply below_alloc | apply pw_below_drewN | apply below_drew1) | exact HB.out))) : w.heap.size ≤ gb101)); clear HB; have HB := n0_; have BK101 := n1_; have GW101 := n2_; have GE101 := n3_; clear n0_ n1_ n2_ n3_; clear hb hbox hg; have hcz9_0 : w8.cell? ⟨gb101, 0, none⟩ = some (.int .i64 a0_0) := (blk_cell BK101.out 0).trans rfl; have hcz9_1 : w8.cell? ⟨gb101, 1, none⟩ = some (.int .i64 a0_1) := (blk_cell BK101.out 1).trans rfl; have hcz9_2 : w8.cell? ⟨gb101, 2, none⟩ = some (.slice A0_2 l0_2.length c0_2) := (blk_cell BK101.out 2).trans rfl; have hfz9_0 := blk_frozen BK101.out 0; have hfz9_1 := blk_frozen BK101.out 1; have hfz9_2 := blk_frozen BK101.out 2) | ((with_reducible refine gate_callee (f := 81) rfl ?_); refine goesL_ (some 8) rfl rfl Try.func81 (by kernel_rfl) rfl #[.agg #[.int .i64 a0_0, .int .i64 a0_1, .slice A0_2 l0_2.length c0_2]] rfl (by (try simp only [List.map_toArray, List.map_cons, List.map_nil]); first | done | rfl | (simp only [List.length_drop, List.length_take]; rfl)) ?_; (with_reducible refine (impl_comb_measure.calls k a0_0 a0_1 _ _ l0_2 t102 t103 true _ ?side1 ?side2 A2.out).mono ?_); (case side1 => repeat (first | exact (Kd.C_below HR0_2.out HB.out) | (with_reducible refine Kd.C_alloc ?_ _) | (with_reducible refine Kd.C_drewN ?_ _) | (with_reducible refine Kd.C_drew ?_))); (case side2 => exact HC0_2.out); rintro e w10 ⟨rfl, hb⟩; refine ⟨_, rfl, ?_⟩; have n0_ := Aside0.mk (blk_below (g := gb101) (o := .cells #[.int .i64 a0_0, .int .i64 a0_1, .slice A0_2 l0_2.length c0_2] 58 (0, 0)) (by (with_reducible repeat (first | refine blk_drewN ?_ _ | refine blk_drew ?_ | refine blk_alloc ?_ _)); exact BK101.out) hb); have n1_ := Aside0.mk (below_step (by repeat (first | (with_reducible first | exact HB.out | apply below_alloc | apply pw_below_drewN | apply below_drew1 | refine below_set ?_ GE101.out) | exact HB.out)) hb); clear BK101; clear HB; have BK101 := n0_; have HB := n1_; clear n0_ n1_; (try clear hb); (try clear hb2); (try clear hk); (try clear hi)))
      go_ret
      exact ⟨by first | rfl | (simp [errW_none, errW_some] <;> rfl) | (simp [*, errW_none, errW_some] <;> rfl), by repeat (first | (with_reducible first | exact HB.out | apply below_alloc | apply pw_below_drewN | apply below_drew1 | refine below_set ?_ GE101.out) | exact HB.out)⟩
  · replace c3 := Bool.eq_false_iff.mpr c3
    subst c3
    have H1 : (some false) = some r := by rw [if_neg (show ¬ (false = true) by decide)] at H; exact H
    clear H
    have H := H1
    clear H1
    obtain rfl := Option.some.inj H
    go_enter Try.func58, Try.ntmps58
    go_wp2_with (first | ((with_reducible refine gate_dst (N := 1) rfl ?_); refine box_event ?hg (N := 1) ?hd (cs := #[.int .i64 a0_0, .int .i64 a0_1, .slice A0_2 l0_2.length c0_2]) (t := 58) ?hr ?_; (case hd => rfl); (case hg => rfl); (case hr => first | (go_simp; done) | (go_simp; rfl)); intro gb101 hg w11 hbox hb; have n0_ := Aside0.mk (below_step (by repeat (first | (with_reducible first | exact HB.out | apply below_alloc | apply pw_below_drewN | apply below_drew1) | exact HB.out)) hb); have n1_ := Aside0.mk (hbox); have n2_ := Aside0.mk ((by rw [hg]; exact (below_size (by repeat (first | (with_reducible first | exact HB.out | apply below_alloc | apply pw_below_drewN | apply below_drew1) | exact HB.out))) : w.heap.size ≤ gb101)); have n3_ := Aside0.mk ((by rw [hg]; exact (below_size (by repeat (first | (with_reducible first | exact HB.out | apply below_alloc | apply pw_below_drewN | apply below_drew1) | exact HB.out))) : w.heap.size ≤ gb101)); clear HB; have HB := n0_; have BK101 := n1_; have GW101 := n2_; have GE101 := n3_; clear n0_ n1_ n2_ n3_; clear hb hbox hg; have hcz12_0 : w11.cell? ⟨gb101, 0, none⟩ = some (.int .i64 a0_0) := (blk_cell BK101.out 0).trans rfl; have hcz12_1 : w11.cell? ⟨gb101, 1, none⟩ = some (.int .i64 a0_1) := (blk_cell BK101.out 1).trans rfl; have hcz12_2 : w11.cell? ⟨gb101, 2, none⟩ = some (.slice A0_2 l0_2.length c0_2) := (blk_cell BK101.out 2).trans rfl; have hfz12_0 := blk_frozen BK101.out 0; have hfz12_1 := blk_frozen BK101.out 1; have hfz12_2 := blk_frozen BK101.out 2) | ((with_reducible refine gate_callee (f := 81) rfl ?_); refine goesL_ (some 8) rfl rfl Try.func81 (by kernel_rfl) rfl #[.agg #[.int .i64 a0_0, .int .i64 a0_1, .slice A0_2 l0_2.length c0_2]] rfl (by (try simp only [List.map_toArray, List.map_cons, List.map_nil]); first | done | rfl | (simp only [List.length_drop, List.length_take]; rfl)) ?_; (with_reducible refine (impl_comb_measure.calls k a0_0 a0_1 _ _ l0_2 t102 t103 false _ ?side1 ?side2 A2.out).mono ?_); (case side1 => repeat (first | exact (Kd.C_below HR0_2.out HB.out) | (with_reducible refine Kd.C_alloc ?_ _) | (with_reducible refine Kd.C_drewN ?_ _) | (with_reducible refine Kd.C_drew ?_))); (case side2 => exact HC0_2.out); rintro e w13 ⟨rfl, hb⟩; refine ⟨_, rfl, ?_⟩; have n0_ := Aside0.mk (blk_below (g := gb101) (o := .cells #[.int .i64 a0_0, .int .i64 a0_1, .slice A0_2 l0_2.length c0_2] 58 (0, 0)) (by (with_reducible repeat (first | refine blk_drewN ?_ _ | refine blk_drew ?_ | refine blk_alloc ?_ _)); exact BK101.out) hb); have n1_ := Aside0.mk (below_step (by repeat (first | (with_reducible first | exact HB.out | apply below_alloc | apply pw_below_drewN | apply below_drew1 | refine below_set ?_ GE101.out) | exact HB.out)) hb); clear BK101; clear HB; have BK101 := n0_; have HB := n1_; clear n0_ n1_; (try clear hb); (try clear hb2); (try clear hk); (try clear hi)))
    go_ret
    exact ⟨by first | rfl | (simp [errW_none, errW_some] <;> rfl) | (simp [*, errW_none, errW_some] <;> rfl), by repeat (first | (with_reducible first | exact HB.out | apply below_alloc | apply pw_below_drewN | apply below_drew1 | refine below_set ?_ GE101.out) | exact HB.out)⟩

end Go.Proofs.Ytcjhhdecckcibaa.G
