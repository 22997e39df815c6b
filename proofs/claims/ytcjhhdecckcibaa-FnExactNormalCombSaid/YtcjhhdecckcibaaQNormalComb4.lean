/- Part 4 of 5 of the proof that the law FnExactNormalCombSaid holds: for every input that can be read the call returns true and leaves its arguments as they were; no condition but those each theorem names. -/
import Derived.Test.YtcjhhdecckcibaaQNormalCombW1
import Derived.Test.YtcjhhdecckcibaaQNormalComb1
import Derived.Test.YtcjhhdecckcibaaQNormalComb2
import Derived.Test.YtcjhhdecckcibaaQNormalComb3
namespace Go.Proofs.Ytcjhhdecckcibaa.G
open Go.RowKit Go.Proofs.YtcjhhdecckcibaaW.PrintWords Go.Proofs.YtcjhhdecckcibaaW.PrintLast Go.Proofs.YtcjhhdecckcibaaW.PrintMore
attribute [local go_sem] max2_int min2_int max_two min_two max_three min_three max_four min_four   -- for this text's walks alone
set_option linter.unusedVariables false
set_option linter.unusedSimpArgs false

mutual
def impl_comb_step.l0 : Nat → List (S58) → Int → Int → Int → Int → List (S58) → Option (Int × Int × (List (S58)) × Bool)
 | 0, _, _, _, _, _, _ => none
 | k + 1, x19, x20, x21, x102000, x102001, x102002 => if x21 < x20 then (if 0 ≤ x21 then (if x21 < (x19.length : Int) then ((impl_comb_step.f k ((rd_T58 x19 x21).f0) ((rd_T58 x19 x21).f1) ((rd_T58 x19 x21).f2)).bind fun bt112 => (if bt112.2.2.2 = true then ((impl_comb_80.f x102002).bind fun t119 => (if x21 < (t119.length : Int) then (some (x102000, x102001, (t119.set (x21 : Int).toNat (⟨bt112.1, bt112.2.1, bt112.2.2.1⟩ : S58)), true)) else (none))) else (impl_comb_step.l0 k x19 x20 (wrap64 (x21 + 1)) x102000 x102001 x102002))) else (none)) else (none)) else (some (0, 0, ([] : List (S58)), false))
def impl_comb_step.f : Nat → Int → Int → List (S58) → Option (Int × Int × (List (S58)) × Bool)
 | 0, _, _, _ => none
 | k + 1, a0_0, a0_1, l0_2 => (impl_comb_redex.f k a0_0 a0_1 l0_2).bind fun bt103 => (if bt103.2.2.2 = true then (some (bt103.1, bt103.2.1, bt103.2.2.1, true)) else (impl_comb_step.l0 k l0_2 (l0_2.length : Int) 0 a0_0 a0_1 l0_2))
end
set_option maxHeartbeats 8000000 in
set_option maxRecDepth 100000 in
theorem impl_comb_step.calls (k : Nat) : ∀ (a0_0 : Int) (a0_1 : Int) (P0_2_ : Nat → Prop) (A0_2 : Option Addr) (c0_2 : Nat) (l0_2 : List (S58)) (r1 : Int) (r2 : Int) (r3 : List (S58)) (r4 : Bool) (w : World) (hs0_2 : Kd.V k58 58 w w.heap.size (fun k_ => P0_2_ k_) (.slice A0_2 l0_2.length c0_2) l0_2) (h : impl_comb_step.f k a0_0 a0_1 l0_2 = some (r1, r2, r3, r4)),
  Calls Try.prog 56 #[.agg #[.int .i64 a0_0, .int .i64 a0_1, .slice A0_2 l0_2.length c0_2]] w fun e w' => ∃ v2_ : Value, e = .returned (.tuple #[.agg #[.int .i64 r1, .int .i64 r2, v2_], .bool r4]) ∧ Kd.V k58 58 w' w.heap.size (fun k_ => (P0_2_ k_ ∨ w.heap.size ≤ k_)) v2_ r3 ∧ Below w.heap.size w w' := by
 induction k using Nat.strongRecOn with
 | _ k ih =>
 intro a0_0 a0_1 P0_2_ A0_2 c0_2 l0_2 r1 r2 r3 r4 w hs0_2 h
 cases k with
 | zero => exact absurd h (by simp [impl_comb_step.f])
 | succ k =>
 simp only [impl_comb_step.f] at h
 have hu58 := Try.underlying58
 have HO0_2 := aK (show Kd.V k58 58 w w.heap.size (fun k_ => (P0_2_ k_ ∨ w.heap.size ≤ k_)) (.slice A0_2 l0_2.length c0_2) l0_2 from Kd.V_mono hs0_2 (fun k_ hk => .inl hk))
 have HB := aK (Below.refl w.heap.size w)
 have H : ((impl_comb_redex.f k a0_0 a0_1 l0_2).bind fun bt103 => (if bt103.2.2.2 = true then (some (bt103.1, bt103.2.1, bt103.2.2.1, true)) else (impl_comb_step.l0 k l0_2 (l0_2.length : Int) 0 a0_0 a0_1 l0_2))) = some (r1, r2, r3, r4) := h
 clear h
 replace H := Option.bind_eq_some_iff.mp H
 obtain ⟨⟨t103, t104, t105, t108⟩, A20, H⟩ := H
 try dsimp only at H
 have A2 := aK A20
 clear A20
 by_cases c3 : t108 = true
 ·subst c3
  rw [if_pos rfl] at H
  simp only [Option.some.injEq, Prod.mk.injEq] at H
  obtain ⟨rfl, rfl, rfl, rfl⟩ := H
  go_enter Try.func56, Try.ntmps56
  go_wp2_with (first | ((with_reducible refine gate_dst (N := 1) rfl ?_); refine bE (N := 1) (cs := #[.int .i64 a0_0, .int .i64 a0_1, .slice A0_2 l0_2.length c0_2]) (t := 58) ?_; intro gb101 hg w4 hbox hb; have GW101 := qw HB hg; have GE101 := qw HB hg; replace HO0_2 := qv HO0_2 hg hb; have BK101 := aK hbox; replace HB := qs HB hb; clear hb hbox hg) | ((with_reducible refine gate_dst (N := 2) rfl ?_); refine bE (N := 2) (cs := #[.int .i64 0, .int .i64 0, .slice none 0 0]) (t := 58) ?_; intro gb102 hg w5 hbox hb; have GW102 := qw HB hg; have GE102 := qw HB hg; have NB101_102 := ql BK101 hg; have NB102_101 := qg BK101 hg; replace HO0_2 := qv HO0_2 hg hb; replace BK101 := qb BK101 hb; have BK102 := aK hbox; replace HB := qs HB hb; clear hb hbox hg; have hnb6 := NB101_102.out; have hnc6 := NB102_101.out; have hcz7_0 := k30 BK101; have hcz7_1 := k31 BK101; have hcz7_2 := k32 BK101; have hfz7_0 := fz BK101 0; have hfz7_1 := fz BK101 1; have hfz7_2 := fz BK101 2) | ((with_reducible refine gate_callee (f := 79) rfl ?_); refine goesL_ (some 13) rfl rfl Try.func79 (by kernel_rfl) rfl #[.agg #[.int .i64 a0_0, .int .i64 a0_1, .slice A0_2 l0_2.length c0_2]] rfl tA ?_; (with_reducible refine (impl_comb_redex.calls k a0_0 a0_1 (fun k_ => (((P0_2_ k_ ∨ w.heap.size ≤ k_) ∧ k_ ≠ gb101) ∧ k_ ≠ gb102)) _ _ l0_2 t103 t104 t105 true _ ?side1 A2.out).mono ?_); (case side1 => exact HO0_2.out); rintro e w8 ⟨v106, rfl, ho0, hb⟩; refine ⟨_, rfl, ?_⟩; have n0_ := aK (Kd.V_below HO0_2.out hb); have HO107 := aK (Kd.V_lower (Kd.V_mono (ok' := fun k_ => (P0_2_ k_ ∨ w.heap.size ≤ k_) ∧ k_ ≠ gb101 ∧ k_ ≠ gb102) ho0 (fun k_ hk_ => ⟨Or.elim hk_ (fun hs_ => hs_.1.1) (fun hn_ => (.inr (Nat.le_trans (below_size HB.out) hn_))), Or.elim hk_ (fun hs_ => hs_.1.2) (fun hn_ => (Kd.freshB BK101.out k_ hn_)), Or.elim hk_ (fun hs_ => hs_.2) (fun hn_ => (Kd.freshB BK102.out k_ hn_))⟩)) (below_size HB.out)); replace BK101 := qb BK101 hb; replace BK102 := qb BK102 hb; clear HO0_2; have HO0_2 := n0_; clear n0_; replace HB := qs HB hb; (try clear hb); (try clear ho0)) | ((with_reducible refine gate_dst (N := 4) rfl ?_); refine bE (N := 4) (cs := #[.int .i64 0, .int .i64 0, .slice none 0 0]) (t := 58) ?_; intro gb109 hg w9 hbox hb; have GW109 := qw HB hg; have GE109 := qw HB hg; have NB101_109 := ql BK101 hg; have NB109_101 := qg BK101 hg; have NB102_109 := ql BK102 hg; have NB109_102 := qg BK102 hg; replace HO0_2 := qv HO0_2 hg hb; replace HO107 := qv HO107 hg hb; replace BK101 := qb BK101 hb; replace BK102 := qb BK102 hb; have BK109 := aK hbox; replace HB := qs HB hb; clear hb hbox hg; have hnb10 := NB109_101.out; have hnc10 := NB101_109.out; have hnb11 := NB109_102.out; have hnc11 := NB102_109.out; have hcz12_0 := k30 BK109; have hcz12_1 := k31 BK109; have hcz12_2 := k32 BK109; have hfz12_0 := fz BK109 0; have hfz12_1 := fz BK109 1; have hfz12_2 := fz BK109 2; obtain ⟨Ao13, co13, eo13⟩ := Kd.V_slice HO107.out; subst eo13; have hcz14_0 := k30 BK102; have hcz14_1 := k31 BK102; have hcz14_2 := k32 BK102; have hfz14_0 := fz BK102 0; have hfz14_1 := fz BK102 1; have hfz14_2 := fz BK102 2))
  refine bodyPost_ret (results_ct rfl _ _ gb102 58 #[.int .i64 t103, .int .i64 t104, .slice Ao13 t105.length co13] (0, 0) _ rfl (by (with_reducible repeat first | apply zN | apply zD | apply zA); refine blk_put (cs := #[.int .i64 t103, .int .i64 t104, .slice none 0 0]) ?_ 2 _ rfl; (with_reducible repeat first | apply zN | apply zD | apply zA); refine blk_put (cs := #[.int .i64 t103, .int .i64 0, .slice none 0 0]) ?_ 1 _ rfl; (with_reducible repeat first | apply zN | apply zD | apply zA); refine blk_put (cs := #[.int .i64 0, .int .i64 0, .slice none 0 0]) ?_ 0 _ rfl; (repeat first | with_reducible apply zN | with_reducible apply zD | with_reducible apply zA | refine blk_far ?_ NB102_109.out _); exact BK102.out) Try.underlying58 rfl (by kernel_rfl)) rfl ?_
  exact ⟨_, eW, by (with_reducible repeat (first | apply Kd.V_alloc | apply Kd.V_drewN | apply Kd.V_drew)); exact Kd.V_mono (vF3 gb102 (vF3 gb109 (Kd.V_mono (Kd.V_mono HO107.out (fun k_ hk => (⟨hk, hk.2⟩ : _ ∧ k_ ≠ gb109))) (fun k_ hk => (⟨hk, hk.1.1.2.2⟩ : _ ∧ k_ ≠ gb102))) (fun _ hk => hk.1.2)) (fun _ hk => hk.2)) (fun _ hk => hk.1.1.1.1), pH HB⟩
 ·replace c3 := Bool.eq_false_iff.mpr c3
  subst c3
  rw [if_neg (show ¬ (false = true) by decide)] at H
  have H' := aK H
  clear H
  go_enter Try.func56, Try.ntmps56
  go_wp2_with (first | ((with_reducible refine gate_dst (N := 1) rfl ?_); refine bE (N := 1) (cs := #[.int .i64 a0_0, .int .i64 a0_1, .slice A0_2 l0_2.length c0_2]) (t := 58) ?_; intro gb101 hg w15 hbox hb; have GW101 := qw HB hg; have GE101 := qw HB hg; replace HO0_2 := qv HO0_2 hg hb; have BK101 := aK hbox; replace HB := qs HB hb; clear hb hbox hg) | ((with_reducible refine gate_dst (N := 2) rfl ?_); refine bE (N := 2) (cs := #[.int .i64 0, .int .i64 0, .slice none 0 0]) (t := 58) ?_; intro gb102 hg w16 hbox hb; have GW102 := qw HB hg; have GE102 := qw HB hg; have NB101_102 := ql BK101 hg; have NB102_101 := qg BK101 hg; replace HO0_2 := qv HO0_2 hg hb; replace BK101 := qb BK101 hb; have BK102 := aK hbox; replace HB := qs HB hb; clear hb hbox hg; have hnb17 := NB101_102.out; have hnc17 := NB102_101.out; have hcz18_0 := k30 BK101; have hcz18_1 := k31 BK101; have hcz18_2 := k32 BK101; have hfz18_0 := fz BK101 0; have hfz18_1 := fz BK101 1; have hfz18_2 := fz BK101 2) | ((with_reducible refine gate_callee (f := 79) rfl ?_); refine goesL_ (some 13) rfl rfl Try.func79 (by kernel_rfl) rfl #[.agg #[.int .i64 a0_0, .int .i64 a0_1, .slice A0_2 l0_2.length c0_2]] rfl tA ?_; (with_reducible refine (impl_comb_redex.calls k a0_0 a0_1 (fun k_ => (((P0_2_ k_ ∨ w.heap.size ≤ k_) ∧ k_ ≠ gb101) ∧ k_ ≠ gb102)) _ _ l0_2 t103 t104 t105 false _ ?side1 A2.out).mono ?_); (case side1 => exact HO0_2.out); rintro e w19 ⟨v106, rfl, ho0, hb⟩; refine ⟨_, rfl, ?_⟩; have n0_ := aK (Kd.V_below HO0_2.out hb); have HO107 := aK (Kd.V_lower (Kd.V_mono (ok' := fun k_ => (P0_2_ k_ ∨ w.heap.size ≤ k_) ∧ k_ ≠ gb101 ∧ k_ ≠ gb102) ho0 (fun k_ hk_ => ⟨Or.elim hk_ (fun hs_ => hs_.1.1) (fun hn_ => (.inr (Nat.le_trans (below_size HB.out) hn_))), Or.elim hk_ (fun hs_ => hs_.1.2) (fun hn_ => (Kd.freshB BK101.out k_ hn_)), Or.elim hk_ (fun hs_ => hs_.2) (fun hn_ => (Kd.freshB BK102.out k_ hn_))⟩)) (below_size HB.out)); replace BK101 := qb BK101 hb; replace BK102 := qb BK102 hb; clear HO0_2; have HO0_2 := n0_; clear n0_; replace HB := qs HB hb; (try clear hb); (try clear ho0)) | ((with_reducible refine gate_dst (N := 4) rfl ?_); refine bE (N := 4) (cs := #[.int .i64 0, .int .i64 0, .slice none 0 0]) (t := 58) ?_; intro gb109 hg w20 hbox hb; have GW109 := qw HB hg; have GE109 := qw HB hg; have NB101_109 := ql BK101 hg; have NB109_101 := qg BK101 hg; have NB102_109 := ql BK102 hg; have NB109_102 := qg BK102 hg; replace HO0_2 := qv HO0_2 hg hb; replace HO107 := qv HO107 hg hb; replace BK101 := qb BK101 hb; replace BK102 := qb BK102 hb; have BK109 := aK hbox; replace HB := qs HB hb; clear hb hbox hg; have hnb21 := NB109_101.out; have hnc21 := NB101_109.out; have hnb22 := NB109_102.out; have hnc22 := NB102_109.out; have hcz23_0 := k30 BK109; have hcz23_1 := k31 BK109; have hcz23_2 := k32 BK109; have hfz23_0 := fz BK109 0; have hfz23_1 := fz BK109 1; have hfz23_2 := fz BK109 2; obtain ⟨Ao24, co24, eo24⟩ := Kd.V_slice HO107.out; subst eo24; have hcz25_0 := k30 BK101; have hcz25_1 := k31 BK101; have hcz25_2 := k32 BK101; have hfz25_0 := fz BK101 0; have hfz25_1 := fz BK101 1; have hfz25_2 := fz BK101 2))
  go_loopg [21] k (fun kq v21 w' => ∃ (x19_1 : List (S58)) (x21_1 : Int) (x102000_1 : Int) (x102001_1 : Int) (x102002_1 : List (S58)) (x103000_1 : Int) (x103001_1 : Int) (x110000_1 : Int) (x110001_1 : Int) (x110002_1 : List (S58)) (u102002 : Value) (u110002 : Value), v21 = .int .i64 x21_1 ∧ Aside0 (impl_comb_step.l0 kq x19_1 (l0_2.length : Int) x21_1 x102000_1 x102001_1 x102002_1 = some (r1, r2, r3, r4)) ∧ Aside0 (kq ≤ k) ∧ Aside0 (Kd.V k58 58 w' w.heap.size (fun k_ => (P0_2_ k_ ∨ w.heap.size ≤ k_) ∧ k_ ≠ gb101 ∧ k_ ≠ gb102 ∧ k_ ≠ gb109) (.slice A0_2 l0_2.length c0_2) x19_1) ∧ Aside0 (Kd.V k58 58 w' w.heap.size (fun k_ => (P0_2_ k_ ∨ w.heap.size ≤ k_) ∧ k_ ≠ gb101 ∧ k_ ≠ gb102 ∧ k_ ≠ gb109) u102002 x102002_1) ∧ Aside0 (Kd.V k58 58 w' w.heap.size (fun k_ => (P0_2_ k_ ∨ w.heap.size ≤ k_) ∧ k_ ≠ gb101 ∧ k_ ≠ gb102 ∧ k_ ≠ gb109) u110002 x110002_1) ∧ Aside0 (w'.heap[gb101]? = some (.cells #[.int .i64 x102000_1, .int .i64 x102001_1, u102002] 58 (0, 0))) ∧ Aside0 (w'.heap[gb102]? = some (.cells #[.int .i64 x103000_1, .int .i64 x103001_1, (.slice none 0 0)] 58 (0, 0))) ∧ Aside0 (w'.heap[gb109]? = some (.cells #[.int .i64 x110000_1, .int .i64 x110001_1, u110002] 58 (0, 0))) ∧ Aside0 (Below w.heap.size w w'))
  case atStart => exact ⟨(l0_2), (0), (a0_0), (a0_1), (l0_2), (0), (0), (t103), (t104), (t105), (.slice A0_2 l0_2.length c0_2), (.slice Ao24 t105.length co24), rS, H', ⟨Nat.le_refl _⟩, ⟨by (with_reducible repeat (first | apply Kd.V_alloc | apply Kd.V_drewN | apply Kd.V_drew)); exact Kd.V_mono (vF3 gb109 (Kd.V_mono HO0_2.out (fun k_ hk => (⟨hk, hk.2⟩ : _ ∧ k_ ≠ gb109))) (fun _ hk => hk.2)) (fun _ hk => ⟨hk.1.1.1.1, ⟨hk.1.1.1.2, ⟨hk.1.1.2, hk.1.2⟩⟩⟩)⟩, ⟨by (with_reducible repeat (first | apply Kd.V_alloc | apply Kd.V_drewN | apply Kd.V_drew)); exact Kd.V_mono (vF3 gb109 (Kd.V_mono HO0_2.out (fun k_ hk => (⟨hk, hk.2⟩ : _ ∧ k_ ≠ gb109))) (fun _ hk => hk.2)) (fun _ hk => ⟨hk.1.1.1.1, ⟨hk.1.1.1.2, ⟨hk.1.1.2, hk.1.2⟩⟩⟩)⟩, ⟨by (with_reducible repeat (first | apply Kd.V_alloc | apply Kd.V_drewN | apply Kd.V_drew)); exact Kd.V_mono (vF3 gb109 (Kd.V_mono HO107.out (fun k_ hk => (⟨hk, hk.2⟩ : _ ∧ k_ ≠ gb109))) (fun _ hk => hk.2)) (fun _ hk => ⟨hk.1.1.1, ⟨hk.1.1.2.1, ⟨hk.1.1.2.2, hk.1.2⟩⟩⟩)⟩, ⟨by (repeat first | with_reducible apply zN | with_reducible apply zD | with_reducible apply zA | refine blk_far ?_ NB101_109.out _); exact BK101.out⟩, ⟨by (repeat first | with_reducible apply zN | with_reducible apply zD | with_reducible apply zA | refine blk_far ?_ NB102_109.out _); exact BK102.out⟩, ⟨p3 BK109⟩, ⟨pH HB⟩⟩
  case round =>
   clear H'
   (try clear BK101); (try clear HO0_2)
   try clear c1
   try clear c2
   try clear p2
   try clear c3
   try clear c5
   try clear c6
   try clear c7
   try clear c10
   try clear c11
   try clear c17
   try clear c21
   try clear c22
   try clear hcz12_0
   try clear hcz12_1
   try clear hcz12_2
   try clear hcz14_0
   try clear hcz14_1
   try clear hcz14_2
   try clear hcz18_0
   try clear hcz18_1
   try clear hcz18_2
   try clear hcz23_0
   try clear hcz23_1
   try clear hcz23_2
   try clear hcz25_0
   try clear hcz25_1
   try clear hcz25_2
   try clear hcz7_0
   try clear hcz7_1
   try clear hcz7_2
   try clear hfz12_0
   try clear hfz12_1
   try clear hfz12_2
   try clear hfz14_0
   try clear hfz14_1
   try clear hfz14_2
   try clear hfz18_0
   try clear hfz18_1
   try clear hfz18_2
   try clear hfz23_0
   try clear hfz23_1
   try clear hfz23_2
   try clear hfz25_0
   try clear hfz25_1
   try clear hfz25_2
   try clear hfz7_0
   try clear hfz7_1
   try clear hfz7_2
   obtain ⟨x19_1, x21_1, x102000_1, x102001_1, x102002_1, x103000_1, x103001_1, x110000_1, x110001_1, x110002_1, u102002, u110002, rfl, HA, HK1, HO_19, HO_102002, HO_110002, BK101, BK102, BK109, HB⟩ := hrel
   have hl19_1 := (Kd.V_reads' HO_19.out).1
   rw [hl19_1] at HO_19
   (try simp only [hl19_1])
   (try simp only [hl19_1] at BK101)
   (try simp only [hl19_1] at BK102)
   (try simp only [hl19_1] at BK109)
   (try simp only [hl19_1] at HO_102002)
   (try simp only [hl19_1] at HO_110002)
   (try simp only [hl19_1] at HA)
   cases gk with
   | zero => exact absurd HA.out (by simp [impl_comb_step.l0])
   | succ k1 =>
    have H := HA.out
    clear HA
    simp only [impl_comb_step.l0] at H
    by_cases c26 : x21_1 < (x19_1.length : Int)
    ·rw [if_pos c26] at H
     have c26b0 : decide (x21_1 < (x19_1.length : Int)) = true := decide_eq_true c26
     clear c26
     by_cases c27 : 0 ≤ x21_1
     ·rw [if_pos c27] at H
      have c27b0 : decide (0 ≤ x21_1) = true := decide_eq_true c27
      clear c27
      by_cases c28 : x21_1 < (x19_1.length : Int)
      ·rw [if_pos c28] at H
       have c28b0 : decide (x21_1 < (x19_1.length : Int)) = true := decide_eq_true c28
       clear c28
       replace H := Option.bind_eq_some_iff.mp H
       obtain ⟨⟨t112, t113, t114, t117⟩, A290, H⟩ := H
       try dsimp only at H
       have A29 := aK A290
       clear A290
       by_cases c30 : t117 = true
       ·subst c30
        rw [if_pos rfl] at H
        replace H := Option.bind_eq_some_iff.mp H
        obtain ⟨t119, A310, H⟩ := H
        try dsimp only at H
        have A31 := aK A310
        clear A310
        by_cases c32 : x21_1 < (t119.length : Int)
        ·rw [if_pos c32] at H
         have c32b0 : decide (x21_1 < (t119.length : Int)) = true := decide_eq_true c32
         clear c32
         obtain ⟨y122, hy122⟩ : ∃ y_ : List (S58), y_ = (t119.set (x21_1 : Int).toNat (⟨t112, t113, t114⟩ : S58)) := ⟨_, rfl⟩
         replace H : (some (x102000_1, x102001_1, y122, true)) = some (r1, r2, r3, r4) := by first | (rw [hy122]; with_reducible exact H) | (have H2_ := (Option.bind_some _ _).symm.trans H; rw [hy122]; with_reducible exact H2_) | (have H2_ := (Option.bind_some _ _).symm.trans H; with_reducible exact H2_) | with_reducible exact H | (rw [hy122]; exact H) | exact H
         have Ny122 := aK hy122
         clear hy122
         simp only [Option.some.injEq, Prod.mk.injEq] at H
         obtain ⟨rfl, rfl, rfl, rfl⟩ := H
         have p110 : 0 ≤ (x21_1 : Int) := dA
         have q110 : x21_1 < (x19_1.length : Int) := dA
         obtain ⟨ad110, A110_2, c110_2, e110, hx110_0, hx110_1, hx110_2, hl110_2, hi110_2⟩ := at_T58 (Kd.V_reads' HO_19.out).2.2 x21_1 p110 q110
         cases e110
         obtain ⟨ce110, hce110, hMe110, hcc110⟩ := Kd.V_get HO_19.out z58 x21_1 p110 (by first | exact q110 | exact dA | (have e_ := (Kd.V_reads' HO_19.out).1; omega))
         obtain ⟨ua110_2, uc110_2, rfl, ul110_2, ge110_2⟩ := k58_openF hMe110
         have hv110_2 := hcc110 2 _ rfl
         rw [add_field _ _ 2 (by omega)] at hv110_2
         replace hv110_2 := Option.some.inj (hv110_2.symm.trans hx110_2)
         injection hv110_2 with hva_ hvn_ hvc_
         rw [hva_] at ge110_2
         rw [hvc_] at ul110_2
         have HL110_2 := aK (show Kd.V k58 58 _ w.heap.size _ _ ((rd_T58 x19_1 x21_1).f2) from Kd.V_mk ul110_2 ge110_2)
         clear hva_ hvn_ hvc_ ge110_2 ul110_2
         clear hcc110 hce110
         have HR110_2 := aK hi110_2
         have HC110_2 := aK hl110_2
         clear hi110_2 hl110_2
         replace p110 := eq_true p110
         replace q110 := eq_true q110
         go_wp2_with (first | ((with_reducible refine gate_dst (N := 7) rfl ?_); refine bE (N := 7) (cs := #[.int .i64 0, .int .i64 0, .slice none 0 0]) (t := 58) ?_; intro gb111 hg w34 hbox hb; have n7_ := aK (Kd.C_below (by repeat (first | (with_reducible exact (Kd.V_reads' HL110_2.out).2.2) | (with_reducible refine Kd.C_alloc ?_ _) | (with_reducible refine Kd.C_drewN ?_ _) | (with_reducible refine Kd.C_drew ?_) | exact (Kd.V_reads' HL110_2.out).2.2)) hb); have GW111 := qw HB hg; have GE111 := qw HB hg; have NB101_111 := ql BK101 hg; have NB111_101 := qg BK101 hg; have NB102_111 := ql BK102 hg; have NB111_102 := qg BK102 hg; have NB109_111 := ql BK109 hg; have NB111_109 := qg BK109 hg; replace HO_19 := qv HO_19 hg hb; replace HO_102002 := qv HO_102002 hg hb; replace HO_110002 := qv HO_110002 hg hb; replace HL110_2 := qv HL110_2 hg hb; replace BK101 := qb BK101 hb; replace BK102 := qb BK102 hb; replace BK109 := qb BK109 hb; have BK111 := aK hbox; clear HR110_2; have HR110_2 := n7_; clear n7_; replace HB := qs HB hb; clear hb hbox hg; have hnb35 := NB111_101.out; have hnc35 := NB101_111.out; have hnb36 := NB111_102.out; have hnc36 := NB102_111.out; have hnb37 := NB111_109.out; have hnc37 := NB109_111.out; have hcz38_0 := k30 BK111; have hcz38_1 := k31 BK111; have hcz38_2 := k32 BK111; have hfz38_0 := fz BK111 0; have hfz38_1 := fz BK111 1; have hfz38_2 := fz BK111 2) | ((with_reducible refine gate_store (t := 58) (p := 7) rfl ?_); refine store_event (t := 58) (p := 7) (v := ?vo_w39) (w1 := (((w34.setCell ⟨gb111, 0, none⟩ (.int .i64 ((rd_T58 x19_1 x21_1).f0))).setCell ⟨gb111, 1, none⟩ (.int .i64 ((rd_T58 x19_1 x21_1).f1))).setCell ⟨gb111, 2, none⟩ (.slice A110_2 ((rd_T58 x19_1 x21_1).f2).length c110_2))) ?hg ?ho ?hn ?hr ?_; (case ho => rfl); (case hg => rfl); (case hn => rfl); (case hr => first | (go_simp; done) | (go_simp; rfl)); intro w39 hw; have n0_ : Aside0 (Kd.V k58 58 w39 w.heap.size (fun k_ => (P0_2_ k_ ∨ w.heap.size ≤ k_) ∧ k_ ≠ gb101 ∧ k_ ≠ gb102 ∧ k_ ≠ gb109 ∧ k_ ≠ gb111) (.slice (some ad110) x19_1.length c0_2) x19_1) := ⟨(by rw [hw]; exact (by (with_reducible repeat (first | apply Kd.V_alloc | apply Kd.V_drewN | apply Kd.V_drew)); exact Kd.V_mono (vF3 gb111 (Kd.V_mono HO_19.out (fun k_ hk => (⟨hk, hk.2⟩ : _ ∧ k_ ≠ gb111))) (fun _ hk => hk.2)) (fun _ hk => ⟨hk.1.1.1, ⟨hk.1.1.2.1, ⟨hk.1.1.2.2.1, ⟨hk.1.1.2.2.2, hk.1.2⟩⟩⟩⟩)))⟩; have n1_ : Aside0 (Kd.V k58 58 w39 w.heap.size (fun k_ => (P0_2_ k_ ∨ w.heap.size ≤ k_) ∧ k_ ≠ gb101 ∧ k_ ≠ gb102 ∧ k_ ≠ gb109 ∧ k_ ≠ gb111) u102002 x102002_1) := ⟨(by rw [hw]; exact (by (with_reducible repeat (first | apply Kd.V_alloc | apply Kd.V_drewN | apply Kd.V_drew)); exact Kd.V_mono (vF3 gb111 (Kd.V_mono HO_102002.out (fun k_ hk => (⟨hk, hk.2⟩ : _ ∧ k_ ≠ gb111))) (fun _ hk => hk.2)) (fun _ hk => ⟨hk.1.1.1, ⟨hk.1.1.2.1, ⟨hk.1.1.2.2.1, ⟨hk.1.1.2.2.2, hk.1.2⟩⟩⟩⟩)))⟩; have n2_ : Aside0 (Kd.V k58 58 w39 w.heap.size (fun k_ => (P0_2_ k_ ∨ w.heap.size ≤ k_) ∧ k_ ≠ gb101 ∧ k_ ≠ gb102 ∧ k_ ≠ gb109 ∧ k_ ≠ gb111) u110002 x110002_1) := ⟨(by rw [hw]; exact (by (with_reducible repeat (first | apply Kd.V_alloc | apply Kd.V_drewN | apply Kd.V_drew)); exact Kd.V_mono (vF3 gb111 (Kd.V_mono HO_110002.out (fun k_ hk => (⟨hk, hk.2⟩ : _ ∧ k_ ≠ gb111))) (fun _ hk => hk.2)) (fun _ hk => ⟨hk.1.1.1, ⟨hk.1.1.2.1, ⟨hk.1.1.2.2.1, ⟨hk.1.1.2.2.2, hk.1.2⟩⟩⟩⟩)))⟩; have n3_ : Aside0 (Kd.V k58 58 w39 w.heap.size (fun k_ => (P0_2_ k_ ∨ w.heap.size ≤ k_) ∧ k_ ≠ gb101 ∧ k_ ≠ gb102 ∧ k_ ≠ gb109 ∧ k_ ≠ gb111) (.slice A110_2 ((rd_T58 x19_1 x21_1).f2).length c110_2) ((rd_T58 x19_1 x21_1).f2)) := ⟨(by rw [hw]; exact (by (with_reducible repeat (first | apply Kd.V_alloc | apply Kd.V_drewN | apply Kd.V_drew)); exact Kd.V_mono (vF3 gb111 (Kd.V_mono HL110_2.out (fun k_ hk => (⟨hk, hk.2⟩ : _ ∧ k_ ≠ gb111))) (fun _ hk => hk.2)) (fun _ hk => ⟨hk.1.1.1, ⟨hk.1.1.2.1, ⟨hk.1.1.2.2.1, ⟨hk.1.1.2.2.2, hk.1.2⟩⟩⟩⟩)))⟩; have n4_ : Aside0 (w39.heap[gb101]? = some (.cells #[.int .i64 x102000_1, .int .i64 x102001_1, u102002] 58 (0, 0))) := ⟨(by rw [hw]; exact (by (repeat first | with_reducible apply zN | with_reducible apply zD | with_reducible apply zA | refine blk_far ?_ NB101_111.out _); exact BK101.out))⟩; have n5_ : Aside0 (w39.heap[gb102]? = some (.cells #[.int .i64 x103000_1, .int .i64 x103001_1, .slice none 0 0] 58 (0, 0))) := ⟨(by rw [hw]; exact (by (repeat first | with_reducible apply zN | with_reducible apply zD | with_reducible apply zA | refine blk_far ?_ NB102_111.out _); exact BK102.out))⟩; have n6_ : Aside0 (w39.heap[gb109]? = some (.cells #[.int .i64 x110000_1, .int .i64 x110001_1, u110002] 58 (0, 0))) := ⟨(by rw [hw]; exact (by (repeat first | with_reducible apply zN | with_reducible apply zD | with_reducible apply zA | refine blk_far ?_ NB109_111.out _); exact BK109.out))⟩; have n7_ : Aside0 (w39.heap[gb111]? = some (.cells #[.int .i64 ((rd_T58 x19_1 x21_1).f0), .int .i64 ((rd_T58 x19_1 x21_1).f1), .slice A110_2 ((rd_T58 x19_1 x21_1).f2).length c110_2] 58 (0, 0))) := ⟨(by rw [hw]; exact (p3 BK111))⟩; have n8_ : Aside0 (Below w.heap.size w w39) := ⟨(by rw [hw]; exact (pH HB))⟩; clear hw; clear HO_19; clear HO_102002; clear HO_110002; clear HL110_2; clear BK101; clear BK102; clear BK109; clear BK111; clear HB; have HO_19 := n0_; have HO_102002 := n1_; have HO_110002 := n2_; have HL110_2 := n3_; have BK101 := n4_; have BK102 := n5_; have BK109 := n6_; have BK111 := n7_; have HB := n8_; clear n0_ n1_ n2_ n3_ n4_ n5_ n6_ n7_ n8_; have hcz40_0 := k30 BK111; have hcz40_1 := k31 BK111; have hcz40_2 := k32 BK111; have hfz40_0 := fz BK111 0; have hfz40_1 := fz BK111 1; have hfz40_2 := fz BK111 2) | ((with_reducible refine gate_callee (f := 56) rfl ?_); refine goesL_ (some 28) rfl rfl Try.func56 (by kernel_rfl) rfl #[.agg #[.int .i64 ((rd_T58 x19_1 x21_1).f0), .int .i64 ((rd_T58 x19_1 x21_1).f1), .slice A110_2 ((rd_T58 x19_1 x21_1).f2).length c110_2]] rfl tA ?_; (with_reducible refine (ih k1 (by have := HK1.out; omega) ((rd_T58 x19_1 x21_1).f0) ((rd_T58 x19_1 x21_1).f1) (fun k_ => ((P0_2_ k_ ∨ w.heap.size ≤ k_) ∧ (k_ ≠ gb101 ∧ (k_ ≠ gb102 ∧ (k_ ≠ gb109 ∧ k_ ≠ gb111))))) _ _ ((rd_T58 x19_1 x21_1).f2) t112 t113 t114 true _ ?side1 A29.out).mono ?_); (case side1 => exact HL110_2.out); rintro e w41 ⟨v115, rfl, ho0, hb⟩; refine ⟨_, rfl, ?_⟩; have n0_ := aK (Kd.V_below HO_19.out hb); have n1_ := aK (Kd.V_below HO_102002.out hb); have n2_ := aK (Kd.V_below HO_110002.out hb); have n3_ := aK (Kd.V_below HL110_2.out hb); have HO116 := aK (Kd.V_lower (Kd.V_mono (ok' := fun k_ => (P0_2_ k_ ∨ w.heap.size ≤ k_) ∧ k_ ≠ gb101 ∧ k_ ≠ gb102 ∧ k_ ≠ gb109 ∧ k_ ≠ gb111) ho0 (fun k_ hk_ => ⟨Or.elim hk_ (fun hs_ => hs_.1) (fun hn_ => (.inr (Nat.le_trans (below_size HB.out) hn_))), Or.elim hk_ (fun hs_ => hs_.2.1) (fun hn_ => (Kd.freshB BK101.out k_ hn_)), Or.elim hk_ (fun hs_ => hs_.2.2.1) (fun hn_ => (Kd.freshB BK102.out k_ hn_)), Or.elim hk_ (fun hs_ => hs_.2.2.2.1) (fun hn_ => (Kd.freshB BK109.out k_ hn_)), Or.elim hk_ (fun hs_ => hs_.2.2.2.2) (fun hn_ => (Kd.freshB BK111.out k_ hn_))⟩)) (below_size HB.out)); have n8_ := aK (Kd.C_below (by repeat (first | (with_reducible exact (Kd.V_reads' HL110_2.out).2.2) | (with_reducible refine Kd.C_alloc ?_ _) | (with_reducible refine Kd.C_drewN ?_ _) | (with_reducible refine Kd.C_drew ?_) | exact (Kd.V_reads' HL110_2.out).2.2)) hb); replace BK101 := qb BK101 hb; replace BK102 := qb BK102 hb; replace BK109 := qb BK109 hb; replace BK111 := qb BK111 hb; clear HO_19; have HO_19 := n0_; clear n0_; clear HO_102002; have HO_102002 := n1_; clear n1_; clear HO_110002; have HO_110002 := n2_; clear n2_; clear HL110_2; have HL110_2 := n3_; clear n3_; clear HR110_2; have HR110_2 := n8_; clear n8_; replace HB := qs HB hb; (try clear hb); (try clear ho0)) | ((with_reducible refine gate_dst (N := 8) rfl ?_); refine bE (N := 8) (cs := #[.int .i64 0, .int .i64 0, .slice none 0 0]) (t := 58) ?_; intro gb118 hg w42 hbox hb; have n8_ := aK (Kd.C_below (by repeat (first | (with_reducible exact (Kd.V_reads' HL110_2.out).2.2) | (with_reducible refine Kd.C_alloc ?_ _) | (with_reducible refine Kd.C_drewN ?_ _) | (with_reducible refine Kd.C_drew ?_) | exact (Kd.V_reads' HL110_2.out).2.2)) hb); have GW118 := qw HB hg; have GE118 := qw HB hg; have NB101_118 := ql BK101 hg; have NB118_101 := qg BK101 hg; have NB102_118 := ql BK102 hg; have NB118_102 := qg BK102 hg; have NB109_118 := ql BK109 hg; have NB118_109 := qg BK109 hg; have NB111_118 := ql BK111 hg; have NB118_111 := qg BK111 hg; replace HO_19 := qv HO_19 hg hb; replace HO_102002 := qv HO_102002 hg hb; replace HO_110002 := qv HO_110002 hg hb; replace HL110_2 := qv HL110_2 hg hb; replace HO116 := qv HO116 hg hb; replace BK101 := qb BK101 hb; replace BK102 := qb BK102 hb; replace BK109 := qb BK109 hb; replace BK111 := qb BK111 hb; have BK118 := aK hbox; clear HR110_2; have HR110_2 := n8_; clear n8_; replace HB := qs HB hb; clear hb hbox hg; have hnb43 := NB118_101.out; have hnc43 := NB101_118.out; have hnb44 := NB118_102.out; have hnc44 := NB102_118.out; have hnb45 := NB118_109.out; have hnc45 := NB109_118.out; have hnb46 := NB118_111.out; have hnc46 := NB111_118.out; have hcz47_0 := k30 BK118; have hcz47_1 := k31 BK118; have hcz47_2 := k32 BK118; have hfz47_0 := fz BK118 0; have hfz47_1 := fz BK118 1; have hfz47_2 := fz BK118 2; obtain ⟨Ao48, co48, eo48⟩ := Kd.V_slice HO116.out; subst eo48) | ((with_reducible refine gate_store (t := 58) (p := 8) rfl ?_); refine store_event (t := 58) (p := 8) (v := ?vo_w49) (w1 := (((w42.setCell ⟨gb118, 0, none⟩ (.int .i64 t112)).setCell ⟨gb118, 1, none⟩ (.int .i64 t113)).setCell ⟨gb118, 2, none⟩ (.slice Ao48 t114.length co48))) ?hg ?ho ?hn ?hr ?_; (case ho => rfl); (case hg => rfl); (case hn => rfl); (case hr => first | (go_simp; done) | (go_simp; rfl)); intro w49 hw; have n0_ : Aside0 (Kd.V k58 58 w49 w.heap.size (fun k_ => (P0_2_ k_ ∨ w.heap.size ≤ k_) ∧ k_ ≠ gb101 ∧ k_ ≠ gb102 ∧ k_ ≠ gb109 ∧ k_ ≠ gb111 ∧ k_ ≠ gb118) (.slice (some ad110) x19_1.length c0_2) x19_1) := ⟨(by rw [hw]; exact (by (with_reducible repeat (first | apply Kd.V_alloc | apply Kd.V_drewN | apply Kd.V_drew)); exact Kd.V_mono (vF3 gb118 (Kd.V_mono HO_19.out (fun k_ hk => (⟨hk, hk.2⟩ : _ ∧ k_ ≠ gb118))) (fun _ hk => hk.2)) (fun _ hk => ⟨hk.1.1.1, ⟨hk.1.1.2.1, ⟨hk.1.1.2.2.1, ⟨hk.1.1.2.2.2.1, ⟨hk.1.1.2.2.2.2, hk.1.2⟩⟩⟩⟩⟩)))⟩; have n1_ : Aside0 (Kd.V k58 58 w49 w.heap.size (fun k_ => (P0_2_ k_ ∨ w.heap.size ≤ k_) ∧ k_ ≠ gb101 ∧ k_ ≠ gb102 ∧ k_ ≠ gb109 ∧ k_ ≠ gb111 ∧ k_ ≠ gb118) u102002 x102002_1) := ⟨(by rw [hw]; exact (by (with_reducible repeat (first | apply Kd.V_alloc | apply Kd.V_drewN | apply Kd.V_drew)); exact Kd.V_mono (vF3 gb118 (Kd.V_mono HO_102002.out (fun k_ hk => (⟨hk, hk.2⟩ : _ ∧ k_ ≠ gb118))) (fun _ hk => hk.2)) (fun _ hk => ⟨hk.1.1.1, ⟨hk.1.1.2.1, ⟨hk.1.1.2.2.1, ⟨hk.1.1.2.2.2.1, ⟨hk.1.1.2.2.2.2, hk.1.2⟩⟩⟩⟩⟩)))⟩; have n2_ : Aside0 (Kd.V k58 58 w49 w.heap.size (fun k_ => (P0_2_ k_ ∨ w.heap.size ≤ k_) ∧ k_ ≠ gb101 ∧ k_ ≠ gb102 ∧ k_ ≠ gb109 ∧ k_ ≠ gb111 ∧ k_ ≠ gb118) u110002 x110002_1) := ⟨(by rw [hw]; exact (by (with_reducible repeat (first | apply Kd.V_alloc | apply Kd.V_drewN | apply Kd.V_drew)); exact Kd.V_mono (vF3 gb118 (Kd.V_mono HO_110002.out (fun k_ hk => (⟨hk, hk.2⟩ : _ ∧ k_ ≠ gb118))) (fun _ hk => hk.2)) (fun _ hk => ⟨hk.1.1.1, ⟨hk.1.1.2.1, ⟨hk.1.1.2.2.1, ⟨hk.1.1.2.2.2.1, ⟨hk.1.1.2.2.2.2, hk.1.2⟩⟩⟩⟩⟩)))⟩; have n3_ : Aside0 (Kd.V k58 58 w49 w.heap.size (fun k_ => (P0_2_ k_ ∨ w.heap.size ≤ k_) ∧ k_ ≠ gb101 ∧ k_ ≠ gb102 ∧ k_ ≠ gb109 ∧ k_ ≠ gb111 ∧ k_ ≠ gb118) (.slice A110_2 ((rd_T58 x19_1 x21_1).f2).length c110_2) ((rd_T58 x19_1 x21_1).f2)) := ⟨(by rw [hw]; exact (by (with_reducible repeat (first | apply Kd.V_alloc | apply Kd.V_drewN | apply Kd.V_drew)); exact Kd.V_mono (vF3 gb118 (Kd.V_mono HL110_2.out (fun k_ hk => (⟨hk, hk.2⟩ : _ ∧ k_ ≠ gb118))) (fun _ hk => hk.2)) (fun _ hk => ⟨hk.1.1.1, ⟨hk.1.1.2.1, ⟨hk.1.1.2.2.1, ⟨hk.1.1.2.2.2.1, ⟨hk.1.1.2.2.2.2, hk.1.2⟩⟩⟩⟩⟩)))⟩; have n4_ : Aside0 (Kd.V k58 58 w49 w.heap.size (fun k_ => (P0_2_ k_ ∨ w.heap.size ≤ k_) ∧ k_ ≠ gb101 ∧ k_ ≠ gb102 ∧ k_ ≠ gb109 ∧ k_ ≠ gb111 ∧ k_ ≠ gb118) (.slice Ao48 t114.length co48) t114) := ⟨(by rw [hw]; exact (by (with_reducible repeat (first | apply Kd.V_alloc | apply Kd.V_drewN | apply Kd.V_drew)); exact Kd.V_mono (vF3 gb118 (Kd.V_mono HO116.out (fun k_ hk => (⟨hk, hk.2⟩ : _ ∧ k_ ≠ gb118))) (fun _ hk => hk.2)) (fun _ hk => ⟨hk.1.1.1, ⟨hk.1.1.2.1, ⟨hk.1.1.2.2.1, ⟨hk.1.1.2.2.2.1, ⟨hk.1.1.2.2.2.2, hk.1.2⟩⟩⟩⟩⟩)))⟩; have n5_ : Aside0 (w49.heap[gb101]? = some (.cells #[.int .i64 x102000_1, .int .i64 x102001_1, u102002] 58 (0, 0))) := ⟨(by rw [hw]; exact (by (repeat first | with_reducible apply zN | with_reducible apply zD | with_reducible apply zA | refine blk_far ?_ NB101_118.out _); exact BK101.out))⟩; have n6_ : Aside0 (w49.heap[gb102]? = some (.cells #[.int .i64 x103000_1, .int .i64 x103001_1, .slice none 0 0] 58 (0, 0))) := ⟨(by rw [hw]; exact (by (repeat first | with_reducible apply zN | with_reducible apply zD | with_reducible apply zA | refine blk_far ?_ NB102_118.out _); exact BK102.out))⟩; have n7_ : Aside0 (w49.heap[gb109]? = some (.cells #[.int .i64 x110000_1, .int .i64 x110001_1, u110002] 58 (0, 0))) := ⟨(by rw [hw]; exact (by (repeat first | with_reducible apply zN | with_reducible apply zD | with_reducible apply zA | refine blk_far ?_ NB109_118.out _); exact BK109.out))⟩; have n8_ : Aside0 (w49.heap[gb111]? = some (.cells #[.int .i64 ((rd_T58 x19_1 x21_1).f0), .int .i64 ((rd_T58 x19_1 x21_1).f1), .slice A110_2 ((rd_T58 x19_1 x21_1).f2).length c110_2] 58 (0, 0))) := ⟨(by rw [hw]; exact (by (repeat first | with_reducible apply zN | with_reducible apply zD | with_reducible apply zA | refine blk_far ?_ NB111_118.out _); exact BK111.out))⟩; have n9_ : Aside0 (w49.heap[gb118]? = some (.cells #[.int .i64 t112, .int .i64 t113, .slice Ao48 t114.length co48] 58 (0, 0))) := ⟨(by rw [hw]; exact (p3 BK118))⟩; have n10_ : Aside0 (Below w.heap.size w w49) := ⟨(by rw [hw]; exact (pH HB))⟩; clear hw; clear HO_19; clear HO_102002; clear HO_110002; clear HL110_2; clear HO116; clear BK101; clear BK102; clear BK109; clear BK111; clear BK118; clear HB; have HO_19 := n0_; have HO_102002 := n1_; have HO_110002 := n2_; have HL110_2 := n3_; have HO116 := n4_; have BK101 := n5_; have BK102 := n6_; have BK109 := n7_; have BK111 := n8_; have BK118 := n9_; have HB := n10_; clear n0_ n1_ n2_ n3_ n4_ n5_ n6_ n7_ n8_ n9_ n10_; have hnb50 := NB101_102.out; have hnc50 := NB102_101.out; have hnb51 := NB101_109.out; have hnc51 := NB109_101.out; have hcz52_0 := k30 BK101; have hcz52_1 := k31 BK101; have hcz52_2 := k32 BK101; have hfz52_0 := fz BK101 0; have hfz52_1 := fz BK101 1; have hfz52_2 := fz BK101 2; obtain ⟨Ao53, co53, eo53⟩ := Kd.V_slice HO_102002.out; subst eo53) | ((with_reducible refine gate_callee (f := 80) rfl ?_); refine goesL_ (some 34) rfl rfl Try.func80 (by kernel_rfl) rfl #[.slice Ao53 x102002_1.length co53] rfl tA ?_; (with_reducible refine (impl_comb_80.calls (fun k_ => ((P0_2_ k_ ∨ w.heap.size ≤ k_) ∧ (k_ ≠ gb101 ∧ (k_ ≠ gb102 ∧ (k_ ≠ gb109 ∧ (k_ ≠ gb111 ∧ k_ ≠ gb118)))))) _ _ x102002_1 t119 _ ?side1 A31.out).mono ?_); (case side1 => exact HO_102002.out); rintro e w54 ⟨v120, rfl, ho0, hb⟩; refine ⟨_, rfl, ?_⟩; have HO121 := aK (Kd.N_lower (Kd.N_mono (ok' := fun k_ => (P0_2_ k_ ∨ w.heap.size ≤ k_) ∧ k_ ≠ gb101 ∧ k_ ≠ gb102 ∧ k_ ≠ gb109 ∧ k_ ≠ gb111 ∧ k_ ≠ gb118) ho0 (fun k_ hk_ => ⟨Or.elim hk_ (fun hs_ => hs_.1) (fun hn_ => (.inr (Nat.le_trans (below_size HB.out) hn_))), Or.elim hk_ (fun hs_ => hs_.2.1) (fun hn_ => (Kd.freshB BK101.out k_ hn_)), Or.elim hk_ (fun hs_ => hs_.2.2.1) (fun hn_ => (Kd.freshB BK102.out k_ hn_)), Or.elim hk_ (fun hs_ => hs_.2.2.2.1) (fun hn_ => (Kd.freshB BK109.out k_ hn_)), Or.elim hk_ (fun hs_ => hs_.2.2.2.2.1) (fun hn_ => (Kd.freshB BK111.out k_ hn_)), Or.elim hk_ (fun hs_ => hs_.2.2.2.2.2) (fun hn_ => (Kd.freshB BK118.out k_ hn_))⟩)) (below_size HB.out)); have n9_ := aK (Kd.C_below (by repeat (first | (with_reducible exact (Kd.V_reads' HL110_2.out).2.2) | (with_reducible refine Kd.C_alloc ?_ _) | (with_reducible refine Kd.C_drewN ?_ _) | (with_reducible refine Kd.C_drew ?_) | exact (Kd.V_reads' HL110_2.out).2.2)) hb); replace HO_19 := qe HO_19 (Kd.N_base ho0) hb; replace HO_102002 := qe HO_102002 (Kd.N_base ho0) hb; replace HO_110002 := qe HO_110002 (Kd.N_base ho0) hb; replace HL110_2 := qe HL110_2 (Kd.N_base ho0) hb; replace HO116 := qe HO116 (Kd.N_base ho0) hb; replace BK101 := qb BK101 hb; replace BK102 := qb BK102 hb; replace BK109 := qb BK109 hb; replace BK111 := qb BK111 hb; replace BK118 := qb BK118 hb; clear HR110_2; have HR110_2 := n9_; clear n9_; replace HB := qs HB hb; (try clear hb); (try clear ho0); have hcz55_0 := k30 BK118; have hcz55_1 := k31 BK118; have hcz55_2 := k32 BK118; have hfz55_0 := fz BK118 0; have hfz55_1 := fz BK118 1; have hfz55_2 := fz BK118 2; have p33 : 0 ≤ (x21_1 : Int) := dA; have q33 : (x21_1 : Int) < ((t119.length : Int) : Int) := dA; obtain ⟨go33, co33, eo33, gb33, gl33, cl33, HG33⟩ := Kd.N_form HO121.out (by omega); (first | cases eo33 | (injection eo33 with ea_ en_ ec_; (first | subst ea_ | (injection ea_ with ea_; subst ea_)); subst ec_; clear en_)); have GB33 := aK gb33; have GG33 := aK HG33; clear gb33 gl33 HG33; obtain ⟨ce33, hcl33, hM33, hcc33, hfr33⟩ := Kd.N_elem HO121.out z58 (x21_1 : Int) p33 q33; obtain ⟨ua33_2, uc33_2, rfl, ul33_2, ge33_2⟩ := k58_openF hM33; have hx33_0 : w54.cell? ⟨go33, (x21_1 : Int).toNat * 3, none⟩ = some (.int .i64 ((rd_T58 t119 x21_1).f0)) := hcc33 0 _ rfl; have hx33_1 : w54.cell? ⟨go33, (x21_1 : Int).toNat * 3 + 1, none⟩ = some (.int .i64 ((rd_T58 t119 x21_1).f1)) := hcc33 1 _ rfl; have hx33_2 : w54.cell? ⟨go33, (x21_1 : Int).toNat * 3 + 2, none⟩ = some (.slice ua33_2 ((rd_T58 t119 x21_1).f2).length uc33_2) := hcc33 2 _ rfl; have hf33_0 : w54.frozen? ⟨go33, (x21_1 : Int).toNat * 3, none⟩ = false := hfr33 0; have hf33_1 : w54.frozen? ⟨go33, (x21_1 : Int).toNat * 3 + 1, none⟩ = false := hfr33 1; have hf33_2 : w54.frozen? ⟨go33, (x21_1 : Int).toNat * 3 + 2, none⟩ = false := hfr33 2; clear hcl33 hcc33 hfr33 hM33; replace p33 := eq_true p33; replace q33 := eq_true q33; have HX56 := aK (show Kd.N k58 58 w54 w.heap.size (fun k_ => (P0_2_ k_ ∨ w.heap.size ≤ k_) ∧ k_ ≠ gb101 ∧ k_ ≠ gb102 ∧ k_ ≠ gb109 ∧ k_ ≠ gb111 ∧ k_ ≠ gb118) (.slice (some ⟨go33, 0, none⟩) t119.length co33) t119 from HO121.out); obtain ⟨ce56, hcl56, hM56, hcc56, hfr56⟩ := Kd.N_elem HX56.out z58 (x21_1 : Int) (dA) (by have h_ : (x21_1 : Int) < ((t119.length : Int) : Int) := dA; first | exact h_ | (have e_ := (Kd.N_reads' HO121.out).1; omega) | simpa using h_); obtain ⟨ua56_2, uc56_2, rfl, ul56_2, ge56_2⟩ := k58_openF hM56; have HP56 := Kd.N_seg HX56.out (x21_1 : Int) (dA) (by have h_ : (x21_1 : Int) < ((t119.length : Int) : Int) := dA; first | exact h_ | (have e_ := (Kd.N_reads' HO121.out).1; omega) | simpa using h_) (seg := [.int .i64 t112, .int .i64 t113, .slice Ao48 t114.length co48]) (j := 0) hcl56 hcc56 (show 3 ≤ 3 from by decide) (x' := (⟨t112, t113, t114⟩ : S58)) (k58_mkF _ _ (⟨t112, t113, t114⟩ : S58) (Kd.V_reads' (Kd.V_mono (ok' := (fun k_ => ((fun k_ => (P0_2_ k_ ∨ w.heap.size ≤ k_) ∧ k_ ≠ gb101 ∧ k_ ≠ gb102 ∧ k_ ≠ gb109 ∧ k_ ≠ gb111 ∧ k_ ≠ gb118)) k_ ∧ k_ ≠ go33)) (HO116.out) (fun k_ hk => ⟨⟨hk.1.1, ⟨hk.1.2.1, ⟨hk.1.2.2.1, ⟨hk.1.2.2.2.1, ⟨hk.1.2.2.2.2.1, hk.1.2.2.2.2.2⟩⟩⟩⟩⟩, fun e_ => (hk.2) (by rw [e_]; rfl)⟩))).2.1 (Kd.V_F (Kd.V_mono (ok' := (fun k_ => ((fun k_ => (P0_2_ k_ ∨ w.heap.size ≤ k_) ∧ k_ ≠ gb101 ∧ k_ ≠ gb102 ∧ k_ ≠ gb109 ∧ k_ ≠ gb111 ∧ k_ ≠ gb118)) k_ ∧ k_ ≠ go33)) (HO116.out) (fun k_ hk => ⟨⟨hk.1.1, ⟨hk.1.2.1, ⟨hk.1.2.2.1, ⟨hk.1.2.2.2.1, ⟨hk.1.2.2.2.2.1, hk.1.2.2.2.2.2⟩⟩⟩⟩⟩, fun e_ => (hk.2) (by rw [e_]; rfl)⟩)))) (fun _ hk => hk); have hx56_0 := hcc56 0 _ rfl; (try simp only [show (k58).sz = 3 from rfl, Nat.mul_one, Nat.add_zero] at hx56_0); have hf56_0 := hfr56 0; (try simp only [show (k58).sz = 3 from rfl, Nat.mul_one, Nat.add_zero] at hf56_0); have hx56_1 := hcc56 1 _ rfl; (try simp only [show (k58).sz = 3 from rfl, Nat.mul_one, Nat.add_zero] at hx56_1); have hf56_1 := hfr56 1; (try simp only [show (k58).sz = 3 from rfl, Nat.mul_one, Nat.add_zero] at hf56_1); have hx56_2 := hcc56 2 _ rfl; (try simp only [show (k58).sz = 3 from rfl, Nat.mul_one, Nat.add_zero] at hx56_2); have hf56_2 := hfr56 2; (try simp only [show (k58).sz = 3 from rfl, Nat.mul_one, Nat.add_zero] at hf56_2); clear hcl56 hcc56 hfr56 hM56) | ((with_reducible refine gate_store (t := 58) (p := 38) rfl ?_); refine store_event (t := 58) (p := 38) (v := ?vo_w57) (w1 := (((w54.setCell ⟨go33, (x21_1 : Int).toNat * 3, none⟩ (.int .i64 t112)).setCell ⟨go33, (x21_1 : Int).toNat * 3 + 1, none⟩ (.int .i64 t113)).setCell ⟨go33, (x21_1 : Int).toNat * 3 + 2, none⟩ (.slice Ao48 t114.length co48))) ?hg ?ho ?hn ?hr ?_; (case ho => rfl); (case hg => rfl); (case hn => rfl); (case hr => first | (go_simp; done) | (go_simp; rfl)); intro w57 hw; have hg : w54.grownBy w57 (some go33) := (by rw [hw]; exact HP56.2); have hp_ : Kd.N k58 58 w57 w.heap.size (fun k_ => (P0_2_ k_ ∨ w.heap.size ≤ k_) ∧ k_ ≠ gb101 ∧ k_ ≠ gb102 ∧ k_ ≠ gb109 ∧ k_ ≠ gb111 ∧ k_ ≠ gb118) (.slice (some ⟨go33, 0, none⟩) t119.length co33) y122 := (by rw [hw, Ny122.out]; exact HP56.1); clear HP56; have n0_ := aK (Kd.V_afterv (v := (.slice (some ⟨go33, 0, none⟩) t119.length co33)) (v1 := (.slice (some ⟨go33, 0, none⟩) t119.length co33)) (ok := (fun k_ => (P0_2_ k_ ∨ w.heap.size ≤ k_) ∧ k_ ≠ gb101 ∧ k_ ≠ gb102 ∧ k_ ≠ gb109 ∧ k_ ≠ gb111 ∧ k_ ≠ gb118)) HO_19.out hg (.inl rfl)); have n1_ := aK (Kd.V_afterv (v := (.slice (some ⟨go33, 0, none⟩) t119.length co33)) (v1 := (.slice (some ⟨go33, 0, none⟩) t119.length co33)) (ok := (fun k_ => (P0_2_ k_ ∨ w.heap.size ≤ k_) ∧ k_ ≠ gb101 ∧ k_ ≠ gb102 ∧ k_ ≠ gb109 ∧ k_ ≠ gb111 ∧ k_ ≠ gb118)) HO_102002.out hg (.inl rfl)); have n2_ := aK (Kd.V_afterv (v := (.slice (some ⟨go33, 0, none⟩) t119.length co33)) (v1 := (.slice (some ⟨go33, 0, none⟩) t119.length co33)) (ok := (fun k_ => (P0_2_ k_ ∨ w.heap.size ≤ k_) ∧ k_ ≠ gb101 ∧ k_ ≠ gb102 ∧ k_ ≠ gb109 ∧ k_ ≠ gb111 ∧ k_ ≠ gb118)) HO_110002.out hg (.inl rfl)); have n3_ := aK (blk_grown BK101.out hg (Kd.N_away HO121.out (fun _ hk => hk.2.1))); have n4_ := aK (blk_grown BK102.out hg (Kd.N_away HO121.out (fun _ hk => hk.2.2.1))); have n5_ := aK (blk_grown BK109.out hg (Kd.N_away HO121.out (fun _ hk => hk.2.2.2.1))); have n6_ := aK (Kd.V_afterv (v := (.slice (some ⟨go33, 0, none⟩) t119.length co33)) (v1 := (.slice (some ⟨go33, 0, none⟩) t119.length co33)) (ok := (fun k_ => (P0_2_ k_ ∨ w.heap.size ≤ k_) ∧ k_ ≠ gb101 ∧ k_ ≠ gb102 ∧ k_ ≠ gb109 ∧ k_ ≠ gb111 ∧ k_ ≠ gb118)) HL110_2.out hg (.inl rfl)); have n7_ := aK (blk_grown BK111.out hg (Kd.N_away HO121.out (fun _ hk => hk.2.2.2.2.1))); have n8_ := aK (Kd.V_afterv (v := (.slice (some ⟨go33, 0, none⟩) t119.length co33)) (v1 := (.slice (some ⟨go33, 0, none⟩) t119.length co33)) (ok := (fun k_ => (P0_2_ k_ ∨ w.heap.size ≤ k_) ∧ k_ ≠ gb101 ∧ k_ ≠ gb102 ∧ k_ ≠ gb109 ∧ k_ ≠ gb111 ∧ k_ ≠ gb118)) HO116.out hg (.inl rfl)); have n9_ := aK (blk_grown BK118.out hg (Kd.N_away HO121.out (fun _ hk => hk.2.2.2.2.2))); have n10_ := aK (hp_); have n11_ := aK ((by rw [hw]; exact below_set (below_set (below_set (HB.out) GB33.out) GB33.out) GB33.out : Below w.heap.size w w57)); clear HO_19; have HO_19 := n0_; clear n0_; clear HO_102002; have HO_102002 := n1_; clear n1_; clear HO_110002; have HO_110002 := n2_; clear n2_; clear BK101; have BK101 := n3_; clear n3_; clear BK102; have BK102 := n4_; clear n4_; clear BK109; have BK109 := n5_; clear n5_; clear HL110_2; have HL110_2 := n6_; clear n6_; clear BK111; have BK111 := n7_; clear n7_; clear HO116; have HO116 := n8_; clear n8_; clear BK118; have BK118 := n9_; clear n9_; clear HO121; have HO121 := n10_; clear n10_; clear HB; have HB := n11_; clear n11_; clear hg hw hp_; have hcz58_0 := k30 BK101; have hcz58_1 := k31 BK101; have hcz58_2 := k32 BK101; have hfz58_0 := fz BK101 0; have hfz58_1 := fz BK101 1; have hfz58_2 := fz BK101 2; have hnb59 := NB102_109.out; have hnc59 := NB109_102.out; have hcz60_0 := k30 BK102; have hcz60_1 := k31 BK102; have hcz60_2 := k32 BK102; have hfz60_0 := fz BK102 0; have hfz60_1 := fz BK102 1; have hfz60_2 := fz BK102 2))
         refine bodyPost_ret (results_ct rfl _ _ gb102 58 #[.int .i64 x102000_1, .int .i64 x102001_1, .slice (some ⟨go33, 0, none⟩) t119.length co33] (0, 0) _ rfl (p3 BK102) Try.underlying58 rfl (by kernel_rfl)) rfl ?_
         exact ⟨_, eW, Kd.N_V (by (with_reducible repeat (first | apply Kd.N_alloc | apply Kd.N_drewN | apply Kd.N_drew)); exact Kd.N_mono (nF3 gb102 (Kd.N_mono HO121.out (fun k_ hk => (⟨hk, hk.2.2.1⟩ : _ ∧ k_ ≠ gb102))) (fun _ hk => hk.2)) (fun _ hk => hk.1.1)), pH HB⟩
        ·rw [if_neg c32] at H
         exact absurd H (by simp)
       ·replace c30 := Bool.eq_false_iff.mpr c30
        subst c30
        rw [if_neg (show ¬ (false = true) by decide)] at H
        have H' := aK H
        clear H
        have p110 : 0 ≤ (x21_1 : Int) := dA
        have q110 : x21_1 < (x19_1.length : Int) := dA
        obtain ⟨ad110, A110_2, c110_2, e110, hx110_0, hx110_1, hx110_2, hl110_2, hi110_2⟩ := at_T58 (Kd.V_reads' HO_19.out).2.2 x21_1 p110 q110
        cases e110
        obtain ⟨ce110, hce110, hMe110, hcc110⟩ := Kd.V_get HO_19.out z58 x21_1 p110 (by first | exact q110 | exact dA | (have e_ := (Kd.V_reads' HO_19.out).1; omega))
        obtain ⟨ua110_2, uc110_2, rfl, ul110_2, ge110_2⟩ := k58_openF hMe110
        have hv110_2 := hcc110 2 _ rfl
        rw [add_field _ _ 2 (by omega)] at hv110_2
        replace hv110_2 := Option.some.inj (hv110_2.symm.trans hx110_2)
        injection hv110_2 with hva_ hvn_ hvc_
        rw [hva_] at ge110_2
        rw [hvc_] at ul110_2
        have HL110_2 := aK (show Kd.V k58 58 _ w.heap.size _ _ ((rd_T58 x19_1 x21_1).f2) from Kd.V_mk ul110_2 ge110_2)
        clear hva_ hvn_ hvc_ ge110_2 ul110_2
        clear hcc110 hce110
        have HR110_2 := aK hi110_2
        have HC110_2 := aK hl110_2
        clear hi110_2 hl110_2
        replace p110 := eq_true p110
        replace q110 := eq_true q110
        go_wp2_with (first | ((with_reducible refine gate_dst (N := 7) rfl ?_); refine bE (N := 7) (cs := #[.int .i64 0, .int .i64 0, .slice none 0 0]) (t := 58) ?_; intro gb111 hg w61 hbox hb; have n7_ := aK (Kd.C_below (by repeat (first | (with_reducible exact (Kd.V_reads' HL110_2.out).2.2) | (with_reducible refine Kd.C_alloc ?_ _) | (with_reducible refine Kd.C_drewN ?_ _) | (with_reducible refine Kd.C_drew ?_) | exact (Kd.V_reads' HL110_2.out).2.2)) hb); have GW111 := qw HB hg; have GE111 := qw HB hg; have NB101_111 := ql BK101 hg; have NB111_101 := qg BK101 hg; have NB102_111 := ql BK102 hg; have NB111_102 := qg BK102 hg; have NB109_111 := ql BK109 hg; have NB111_109 := qg BK109 hg; replace HO_19 := qv HO_19 hg hb; replace HO_102002 := qv HO_102002 hg hb; replace HO_110002 := qv HO_110002 hg hb; replace HL110_2 := qv HL110_2 hg hb; replace BK101 := qb BK101 hb; replace BK102 := qb BK102 hb; replace BK109 := qb BK109 hb; have BK111 := aK hbox; clear HR110_2; have HR110_2 := n7_; clear n7_; replace HB := qs HB hb; clear hb hbox hg; have hnb62 := NB111_101.out; have hnc62 := NB101_111.out; have hnb63 := NB111_102.out; have hnc63 := NB102_111.out; have hnb64 := NB111_109.out; have hnc64 := NB109_111.out; have hcz65_0 := k30 BK111; have hcz65_1 := k31 BK111; have hcz65_2 := k32 BK111; have hfz65_0 := fz BK111 0; have hfz65_1 := fz BK111 1; have hfz65_2 := fz BK111 2) | ((with_reducible refine gate_store (t := 58) (p := 7) rfl ?_); refine store_event (t := 58) (p := 7) (v := ?vo_w66) (w1 := (((w61.setCell ⟨gb111, 0, none⟩ (.int .i64 ((rd_T58 x19_1 x21_1).f0))).setCell ⟨gb111, 1, none⟩ (.int .i64 ((rd_T58 x19_1 x21_1).f1))).setCell ⟨gb111, 2, none⟩ (.slice A110_2 ((rd_T58 x19_1 x21_1).f2).length c110_2))) ?hg ?ho ?hn ?hr ?_; (case ho => rfl); (case hg => rfl); (case hn => rfl); (case hr => first | (go_simp; done) | (go_simp; rfl)); intro w66 hw; have n0_ : Aside0 (Kd.V k58 58 w66 w.heap.size (fun k_ => (P0_2_ k_ ∨ w.heap.size ≤ k_) ∧ k_ ≠ gb101 ∧ k_ ≠ gb102 ∧ k_ ≠ gb109 ∧ k_ ≠ gb111) (.slice (some ad110) x19_1.length c0_2) x19_1) := ⟨(by rw [hw]; exact (by (with_reducible repeat (first | apply Kd.V_alloc | apply Kd.V_drewN | apply Kd.V_drew)); exact Kd.V_mono (vF3 gb111 (Kd.V_mono HO_19.out (fun k_ hk => (⟨hk, hk.2⟩ : _ ∧ k_ ≠ gb111))) (fun _ hk => hk.2)) (fun _ hk => ⟨hk.1.1.1, ⟨hk.1.1.2.1, ⟨hk.1.1.2.2.1, ⟨hk.1.1.2.2.2, hk.1.2⟩⟩⟩⟩)))⟩; have n1_ : Aside0 (Kd.V k58 58 w66 w.heap.size (fun k_ => (P0_2_ k_ ∨ w.heap.size ≤ k_) ∧ k_ ≠ gb101 ∧ k_ ≠ gb102 ∧ k_ ≠ gb109 ∧ k_ ≠ gb111) u102002 x102002_1) := ⟨(by rw [hw]; exact (by (with_reducible repeat (first | apply Kd.V_alloc | apply Kd.V_drewN | apply Kd.V_drew)); exact Kd.V_mono (vF3 gb111 (Kd.V_mono HO_102002.out (fun k_ hk => (⟨hk, hk.2⟩ : _ ∧ k_ ≠ gb111))) (fun _ hk => hk.2)) (fun _ hk => ⟨hk.1.1.1, ⟨hk.1.1.2.1, ⟨hk.1.1.2.2.1, ⟨hk.1.1.2.2.2, hk.1.2⟩⟩⟩⟩)))⟩; have n2_ : Aside0 (Kd.V k58 58 w66 w.heap.size (fun k_ => (P0_2_ k_ ∨ w.heap.size ≤ k_) ∧ k_ ≠ gb101 ∧ k_ ≠ gb102 ∧ k_ ≠ gb109 ∧ k_ ≠ gb111) u110002 x110002_1) := ⟨(by rw [hw]; exact (by (with_reducible repeat (first | apply Kd.V_alloc | apply Kd.V_drewN | apply Kd.V_drew)); exact Kd.V_mono (vF3 gb111 (Kd.V_mono HO_110002.out (fun k_ hk => (⟨hk, hk.2⟩ : _ ∧ k_ ≠ gb111))) (fun _ hk => hk.2)) (fun _ hk => ⟨hk.1.1.1, ⟨hk.1.1.2.1, ⟨hk.1.1.2.2.1, ⟨hk.1.1.2.2.2, hk.1.2⟩⟩⟩⟩)))⟩; have n3_ : Aside0 (Kd.V k58 58 w66 w.heap.size (fun k_ => (P0_2_ k_ ∨ w.heap.size ≤ k_) ∧ k_ ≠ gb101 ∧ k_ ≠ gb102 ∧ k_ ≠ gb109 ∧ k_ ≠ gb111) (.slice A110_2 ((rd_T58 x19_1 x21_1).f2).length c110_2) ((rd_T58 x19_1 x21_1).f2)) := ⟨(by rw [hw]; exact (by (with_reducible repeat (first | apply Kd.V_alloc | apply Kd.V_drewN | apply Kd.V_drew)); exact Kd.V_mono (vF3 gb111 (Kd.V_mono HL110_2.out (fun k_ hk => (⟨hk, hk.2⟩ : _ ∧ k_ ≠ gb111))) (fun _ hk => hk.2)) (fun _ hk => ⟨hk.1.1.1, ⟨hk.1.1.2.1, ⟨hk.1.1.2.2.1, ⟨hk.1.1.2.2.2, hk.1.2⟩⟩⟩⟩)))⟩; have n4_ : Aside0 (w66.heap[gb101]? = some (.cells #[.int .i64 x102000_1, .int .i64 x102001_1, u102002] 58 (0, 0))) := ⟨(by rw [hw]; exact (by (repeat first | with_reducible apply zN | with_reducible apply zD | with_reducible apply zA | refine blk_far ?_ NB101_111.out _); exact BK101.out))⟩; have n5_ : Aside0 (w66.heap[gb102]? = some (.cells #[.int .i64 x103000_1, .int .i64 x103001_1, .slice none 0 0] 58 (0, 0))) := ⟨(by rw [hw]; exact (by (repeat first | with_reducible apply zN | with_reducible apply zD | with_reducible apply zA | refine blk_far ?_ NB102_111.out _); exact BK102.out))⟩; have n6_ : Aside0 (w66.heap[gb109]? = some (.cells #[.int .i64 x110000_1, .int .i64 x110001_1, u110002] 58 (0, 0))) := ⟨(by rw [hw]; exact (by (repeat first | with_reducible apply zN | with_reducible apply zD | with_reducible apply zA | refine blk_far ?_ NB109_111.out _); exact BK109.out))⟩; have n7_ : Aside0 (w66.heap[gb111]? = some (.cells #[.int .i64 ((rd_T58 x19_1 x21_1).f0), .int .i64 ((rd_T58 x19_1 x21_1).f1), .slice A110_2 ((rd_T58 x19_1 x21_1).f2).length c110_2] 58 (0, 0))) := ⟨(by rw [hw]; exact (p3 BK111))⟩; have n8_ : Aside0 (Below w.heap.size w w66) := ⟨(by rw [hw]; exact (pH HB))⟩; clear hw; clear HO_19; clear HO_102002; clear HO_110002; clear HL110_2; clear BK101; clear BK102; clear BK109; clear BK111; clear HB; have HO_19 := n0_; have HO_102002 := n1_; have HO_110002 := n2_; have HL110_2 := n3_; have BK101 := n4_; have BK102 := n5_; have BK109 := n6_; have BK111 := n7_; have HB := n8_; clear n0_ n1_ n2_ n3_ n4_ n5_ n6_ n7_ n8_; have hcz67_0 := k30 BK111; have hcz67_1 := k31 BK111; have hcz67_2 := k32 BK111; have hfz67_0 := fz BK111 0; have hfz67_1 := fz BK111 1; have hfz67_2 := fz BK111 2) | ((with_reducible refine gate_callee (f := 56) rfl ?_); refine goesL_ (some 28) rfl rfl Try.func56 (by kernel_rfl) rfl #[.agg #[.int .i64 ((rd_T58 x19_1 x21_1).f0), .int .i64 ((rd_T58 x19_1 x21_1).f1), .slice A110_2 ((rd_T58 x19_1 x21_1).f2).length c110_2]] rfl tA ?_; (with_reducible refine (ih k1 (by have := HK1.out; omega) ((rd_T58 x19_1 x21_1).f0) ((rd_T58 x19_1 x21_1).f1) (fun k_ => ((P0_2_ k_ ∨ w.heap.size ≤ k_) ∧ (k_ ≠ gb101 ∧ (k_ ≠ gb102 ∧ (k_ ≠ gb109 ∧ k_ ≠ gb111))))) _ _ ((rd_T58 x19_1 x21_1).f2) t112 t113 t114 false _ ?side1 A29.out).mono ?_); (case side1 => exact HL110_2.out); rintro e w68 ⟨v115, rfl, ho0, hb⟩; refine ⟨_, rfl, ?_⟩; have n0_ := aK (Kd.V_below HO_19.out hb); have n1_ := aK (Kd.V_below HO_102002.out hb); have n2_ := aK (Kd.V_below HO_110002.out hb); have n3_ := aK (Kd.V_below HL110_2.out hb); have HO116 := aK (Kd.V_lower (Kd.V_mono (ok' := fun k_ => (P0_2_ k_ ∨ w.heap.size ≤ k_) ∧ k_ ≠ gb101 ∧ k_ ≠ gb102 ∧ k_ ≠ gb109 ∧ k_ ≠ gb111) ho0 (fun k_ hk_ => ⟨Or.elim hk_ (fun hs_ => hs_.1) (fun hn_ => (.inr (Nat.le_trans (below_size HB.out) hn_))), Or.elim hk_ (fun hs_ => hs_.2.1) (fun hn_ => (Kd.freshB BK101.out k_ hn_)), Or.elim hk_ (fun hs_ => hs_.2.2.1) (fun hn_ => (Kd.freshB BK102.out k_ hn_)), Or.elim hk_ (fun hs_ => hs_.2.2.2.1) (fun hn_ => (Kd.freshB BK109.out k_ hn_)), Or.elim hk_ (fun hs_ => hs_.2.2.2.2) (fun hn_ => (Kd.freshB BK111.out k_ hn_))⟩)) (below_size HB.out)); have n8_ := aK (Kd.C_below (by repeat (first | (with_reducible exact (Kd.V_reads' HL110_2.out).2.2) | (with_reducible refine Kd.C_alloc ?_ _) | (with_reducible refine Kd.C_drewN ?_ _) | (with_reducible refine Kd.C_drew ?_) | exact (Kd.V_reads' HL110_2.out).2.2)) hb); replace BK101 := qb BK101 hb; replace BK102 := qb BK102 hb; replace BK109 := qb BK109 hb; replace BK111 := qb BK111 hb; clear HO_19; have HO_19 := n0_; clear n0_; clear HO_102002; have HO_102002 := n1_; clear n1_; clear HO_110002; have HO_110002 := n2_; clear n2_; clear HL110_2; have HL110_2 := n3_; clear n3_; clear HR110_2; have HR110_2 := n8_; clear n8_; replace HB := qs HB hb; (try clear hb); (try clear ho0)) | ((with_reducible refine gate_dst (N := 8) rfl ?_); refine bE (N := 8) (cs := #[.int .i64 0, .int .i64 0, .slice none 0 0]) (t := 58) ?_; intro gb118 hg w69 hbox hb; have n8_ := aK (Kd.C_below (by repeat (first | (with_reducible exact (Kd.V_reads' HL110_2.out).2.2) | (with_reducible refine Kd.C_alloc ?_ _) | (with_reducible refine Kd.C_drewN ?_ _) | (with_reducible refine Kd.C_drew ?_) | exact (Kd.V_reads' HL110_2.out).2.2)) hb); have GW118 := qw HB hg; have GE118 := qw HB hg; have NB101_118 := ql BK101 hg; have NB118_101 := qg BK101 hg; have NB102_118 := ql BK102 hg; have NB118_102 := qg BK102 hg; have NB109_118 := ql BK109 hg; have NB118_109 := qg BK109 hg; have NB111_118 := ql BK111 hg; have NB118_111 := qg BK111 hg; replace HO_19 := qv HO_19 hg hb; replace HO_102002 := qv HO_102002 hg hb; replace HO_110002 := qv HO_110002 hg hb; replace HL110_2 := qv HL110_2 hg hb; replace HO116 := qv HO116 hg hb; replace BK101 := qb BK101 hb; replace BK102 := qb BK102 hb; replace BK109 := qb BK109 hb; replace BK111 := qb BK111 hb; have BK118 := aK hbox; clear HR110_2; have HR110_2 := n8_; clear n8_; replace HB := qs HB hb; clear hb hbox hg; have hnb70 := NB118_101.out; have hnc70 := NB101_118.out; have hnb71 := NB118_102.out; have hnc71 := NB102_118.out; have hnb72 := NB118_109.out; have hnc72 := NB109_118.out; have hnb73 := NB118_111.out; have hnc73 := NB111_118.out; have hcz74_0 := k30 BK118; have hcz74_1 := k31 BK118; have hcz74_2 := k32 BK118; have hfz74_0 := fz BK118 0; have hfz74_1 := fz BK118 1; have hfz74_2 := fz BK118 2; obtain ⟨Ao75, co75, eo75⟩ := Kd.V_slice HO116.out; subst eo75))
        (try simp only [← hl19_1])
        go_roundg k1
        case measure => have := HK1.out; omega
        case rel => exact ⟨(x19_1), (wrap64 (x21_1 + 1)), (x102000_1), (x102001_1), (x102002_1), (x103000_1), (x103001_1), (x110000_1), (x110001_1), (x110002_1), (u102002), (u110002), rS, (by rw [hl19_1]; exact H'), ⟨by have := HK1.out; omega⟩, ⟨by (try simp only [hl19_1]); (with_reducible repeat (first | apply Kd.V_alloc | apply Kd.V_drewN | apply Kd.V_drew)); exact Kd.V_mono (vF3 gb118 (Kd.V_mono HO_19.out (fun k_ hk => (⟨hk, hk.2⟩ : _ ∧ k_ ≠ gb118))) (fun _ hk => hk.2)) (fun _ hk => ⟨hk.1.1.1, ⟨hk.1.1.2.1, ⟨hk.1.1.2.2.1, hk.1.1.2.2.2.1⟩⟩⟩)⟩, ⟨by (try simp only [hl19_1]); (with_reducible repeat (first | apply Kd.V_alloc | apply Kd.V_drewN | apply Kd.V_drew)); exact Kd.V_mono (vF3 gb118 (Kd.V_mono HO_102002.out (fun k_ hk => (⟨hk, hk.2⟩ : _ ∧ k_ ≠ gb118))) (fun _ hk => hk.2)) (fun _ hk => ⟨hk.1.1.1, ⟨hk.1.1.2.1, ⟨hk.1.1.2.2.1, hk.1.1.2.2.2.1⟩⟩⟩)⟩, ⟨by (try simp only [hl19_1]); (with_reducible repeat (first | apply Kd.V_alloc | apply Kd.V_drewN | apply Kd.V_drew)); exact Kd.V_mono (vF3 gb118 (Kd.V_mono HO_110002.out (fun k_ hk => (⟨hk, hk.2⟩ : _ ∧ k_ ≠ gb118))) (fun _ hk => hk.2)) (fun _ hk => ⟨hk.1.1.1, ⟨hk.1.1.2.1, ⟨hk.1.1.2.2.1, hk.1.1.2.2.2.1⟩⟩⟩)⟩, ⟨by (try simp only [hl19_1]); (repeat first | with_reducible apply zN | with_reducible apply zD | with_reducible apply zA | refine blk_far ?_ NB101_118.out _); exact BK101.out⟩, ⟨by (try simp only [hl19_1]); (repeat first | with_reducible apply zN | with_reducible apply zD | with_reducible apply zA | refine blk_far ?_ NB102_118.out _); exact BK102.out⟩, ⟨by (try simp only [hl19_1]); (repeat first | with_reducible apply zN | with_reducible apply zD | with_reducible apply zA | refine blk_far ?_ NB109_118.out _); exact BK109.out⟩, ⟨pH HB⟩⟩
      ·rw [if_neg c28] at H
       exact absurd H (by simp)
     ·rw [if_neg c27] at H
      exact absurd H (by simp)
    ·rw [if_neg c26] at H
     have c26b0 : decide (x21_1 < (x19_1.length : Int)) = false := decide_eq_false c26
     clear c26
     simp only [Option.some.injEq, Prod.mk.injEq] at H
     obtain ⟨rfl, rfl, rfl, rfl⟩ := H
     have hnb76 := NB102_101.out
     have hnc76 := NB101_102.out
     have hnb77 := NB102_109.out
     have hnc77 := NB109_102.out
     have hcz78_0 := k30 BK102
     have hcz78_1 := k31 BK102
     have hcz78_2 := k32 BK102
     have hfz78_0 := fz BK102 0
     have hfz78_1 := fz BK102 1
     have hfz78_2 := fz BK102 2
     go_wp2
     refine bodyPost_ret (results_ct rfl _ _ gb102 58 #[.int .i64 0, .int .i64 0, .slice none 0 0] (0, 0) _ rfl (p3 BK102) Try.underlying58 rfl (by kernel_rfl)) rfl ?_
     exact ⟨_, eW, Kd.N_V (by first | exact Kd.R_nil _ _ _ _ _ | exact Kd.N_nil _ _ _ _ _ | exact Kd.V_nil _ _ _ _ _ | exact Kd.Q_nil _ _ _ _ _ | exact Kd.N_nil _ _ _ 0 _), pH HB⟩

end Go.Proofs.Ytcjhhdecckcibaa.G

namespace Go.Proofs.Ytcjhhdecckcibaa.G
open Go.RowKit Go.Proofs.YtcjhhdecckcibaaW.PrintWords Go.Proofs.YtcjhhdecckcibaaW.PrintLast Go.Proofs.YtcjhhdecckcibaaW.PrintMore
attribute [local go_sem] max2_int min2_int max_two min_two max_three min_three max_four min_four   -- for this text's walks alone
set_option linter.unusedVariables false
set_option linter.unusedSimpArgs false

def impl_isTermFuel.f (a0 : Int) : Option (Bool) := if a0 ≥ 0 then (some (decide (a0 ≤ 1000))) else (some false)
set_option maxHeartbeats 8000000 in
set_option maxRecDepth 100000 in
theorem impl_isTermFuel.calls (a0 : Int) (r : Bool) (w : World) (h : impl_isTermFuel.f a0 = some r) :
    Calls Try.prog 57 #[.int .i64 a0] w fun e w' => e = .returned (.bool r) ∧ Drawn0 w w' := by
  have H : (if a0 ≥ 0 then (some (decide (a0 ≤ 1000))) else (some false)) = some r := h
  clear h
  by_cases c2 : a0 ≥ 0
  · rw [if_pos c2] at H
    have c2b0 : decide (0 ≤ a0) = true := decide_eq_true c2
    clear c2
    obtain rfl := Option.some.inj H
    go_enter Try.func57, Try.ntmps57
    go_wp2
    go_ret
    exact ⟨by first | rfl | (simp; done) | (simp [*]; done), by repeat (first | exact Drawn0.refl _ | apply Drawn0.step)⟩
  · rw [if_neg c2] at H
    have c2b0 : decide (0 ≤ a0) = false := decide_eq_false c2
    clear c2
    obtain rfl := Option.some.inj H
    go_enter Try.func57, Try.ntmps57
    go_wp2
    go_ret
    exact ⟨by first | rfl | (simp; done) | (simp [*]; done), by repeat (first | exact Drawn0.refl _ | apply Drawn0.step)⟩

end Go.Proofs.Ytcjhhdecckcibaa.G

namespace Go.Proofs.Ytcjhhdecckcibaa.G
open Go.RowKit Go.Proofs.YtcjhhdecckcibaaW.PrintWords Go.Proofs.YtcjhhdecckcibaaW.PrintLast Go.Proofs.YtcjhhdecckcibaaW.PrintMore
attribute [local go_sem] max2_int min2_int max_two min_two max_three min_three max_four min_four   -- for this text's walks alone
set_option linter.unusedVariables false
set_option linter.unusedSimpArgs false

mutual
def impl_NormalComb.j0 : Nat → Int → Bool → Int → Int → List (S58) → Option ((List (S52)) × Int × Bool)
 | 0, _, _, _, _, _ => none
 | k + 1, x1, x25, x108000, x108001, x108002 => if x25 = true then (some (([] : List (S52)), 0, false)) else (impl_NormalComb.l0 k x1 0 x108000 x108001 x108002)
def impl_NormalComb.l0 : Nat → Int → Int → Int → Int → List (S58) → Option ((List (S52)) × Int × Bool)
 | 0, _, _, _, _, _ => none
 | k + 1, x1, x9, x108000, x108001, x108002 => (impl_comb_step.f k x108000 x108001 x108002).bind fun bt109 => (if bt109.2.2.2 = true then (if x9 = x1 then (some (([] : List (S52)), 0, false)) else ((impl_comb_isGood.f k bt109.1 bt109.2.1 bt109.2.2.1).bind fun t116 => (if t116 = true then (impl_NormalComb.l0 k x1 (wrap64 (x9 + 1)) bt109.1 bt109.2.1 bt109.2.2.1) else (some (([] : List (S52)), 0, false))))) else ((impl_comb_goodNodes.f k x108000 x108001 x108002).bind fun bt117 => (some (bt117.1, x9, true))))
end
def impl_NormalComb.f (k : Nat) (l0 : List (S52)) (a1 : Int) : Option ((List (S52)) × Int × Bool) := (impl_combRoot.f k l0).bind fun bt101 => (if bt101.2.2.2 = true then ((impl_isTermFuel.f a1).bind fun t108 => (impl_NormalComb.j0 k a1 (!t108) bt101.1 bt101.2.1 bt101.2.2.1)) else (impl_NormalComb.j0 k a1 true bt101.1 bt101.2.1 bt101.2.2.1))
set_option maxHeartbeats 8000000 in
set_option maxRecDepth 100000 in
theorem impl_NormalComb.calls (k : Nat) (A0 : Option Addr) (c0 : Nat) (l0 : List (S52)) (a1 : Int) (r1 : List (S52)) (r2 : Int) (r3 : Bool) (w : World) (hr0 : Kd.C k52 w A0 l0.length l0) (hc0 : l0.length ≤ c0) (h : impl_NormalComb.f k l0 a1 = some (r1, r2, r3)) :
  Calls Try.prog 34 #[.slice A0 l0.length c0, .int .i64 a1] w fun e w' => ∃ v0_ : Value, e = .returned (.tuple #[v0_, .int .i64 r2, .bool r3]) ∧ Kd.R k52 52 w' w.heap.size (fun _ => True) v0_ r1 ∧ Below w.heap.size w w' := by
 have hu58 := Try.underlying58
 have HR0 := aK hr0
 have HC0 := aK hc0
 clear hr0 hc0
 have HB := aK (Below.refl w.heap.size w)
 have H : ((impl_combRoot.f k l0).bind fun bt101 => (if bt101.2.2.2 = true then ((impl_isTermFuel.f a1).bind fun t108 => (impl_NormalComb.j0 k a1 (!t108) bt101.1 bt101.2.1 bt101.2.2.1)) else (impl_NormalComb.j0 k a1 true bt101.1 bt101.2.1 bt101.2.2.1))) = some (r1, r2, r3) := h
 clear h
 replace H := Option.bind_eq_some_iff.mp H
 obtain ⟨⟨t101, t102, t103, t106⟩, A30, H⟩ := H
 try dsimp only at H
 have A3 := aK A30
 clear A30
 have HC4 := aK H
 clear H
 go_enter Try.func34, Try.ntmps34
 go_upto_region 2 with (first | ((with_reducible refine gate_callee (f := 42) rfl ?_); refine goesL_ (some 16) rfl rfl Try.func42 (by kernel_rfl) rfl #[.slice A0 l0.length c0] rfl tA ?_; (with_reducible refine (impl_combRoot.calls k _ _ l0 t101 t102 t103 t106 _ ?side1 ?side2 A3.out).mono ?_); (case side1 => exact sC HR0.out); (case side2 => exact HC0.out); rintro e w5 ⟨v104, rfl, ho0, hb⟩; refine ⟨_, rfl, ?_⟩; have HO105 := aK (Kd.R_lower ho0 (below_size HB.out)); replace HB := qs HB hb; (try clear hb); (try clear ho0)) | ((with_reducible refine gate_dst (N := 7) rfl ?_); refine bE (N := 7) (cs := #[.int .i64 0, .int .i64 0, .slice none 0 0]) (t := 58) ?_; intro gb107 hg w6 hbox hb; have n0_ := aK (Kd.R_below (Kd.R_elderB HO105.out gb107 (Nat.le_of_eq hg.symm)) hb); have GW107 := qw HB hg; have GE107 := qw HB hg; have BK107 := aK hbox; clear HO105; have HO105 := n0_; clear n0_; replace HB := qs HB hb; clear hb hbox hg; have hcz7_0 := k30 BK107; have hcz7_1 := k31 BK107; have hcz7_2 := k32 BK107; have hfz7_0 := fz BK107 0; have hfz7_1 := fz BK107 1; have hfz7_2 := fz BK107 2; obtain ⟨Ao8, co8, eo8⟩ := Kd.R_slice HO105.out; subst eo8))
 (try simp only [Act.put, List.setIfInBounds_toArray, List.set_cons_zero, List.set_cons_succ])
 go_cut [25] (fun v25 wc => ∃ (kq : Nat) (x25_3 : Bool), v25 = .bool x25_3 ∧ Aside0 (impl_NormalComb.j0 kq a1 x25_3 t101 t102 t103 = some (r1, r2, r3)) ∧ Aside0 (kq ≤ k) ∧ Aside0 (Kd.R k58 58 wc w.heap.size (fun k_ => k_ ≠ gb107) (.slice Ao8 t103.length co8) t103) ∧ Aside0 (wc.heap[gb107]? = some (.cells #[.int .i64 t101, .int .i64 t102, (.slice Ao8 t103.length co8)] 58 (0, 0))) ∧ Aside0 (Below w.heap.size w wc))
 case first =>
  have H := HC4.out
  clear HC4
  by_cases c9 : t106 = true
  ·subst c9
   rw [if_pos rfl] at H
   replace H := Option.bind_eq_some_iff.mp H
   obtain ⟨t108, A100, H⟩ := H
   try dsimp only at H
   have A10 := aK A100
   clear A100
   have H' := aK H
   clear H
   go_wp2_with (first | (go_at_call 57; (with_reducible refine (impl_isTermFuel.calls a1 t108 _ A10.out).mono ?_); rintro e w' ⟨rfl, ⟨nd, rfl⟩⟩))
   go_meet
   case rel => exact ⟨_, (!t108), rS, H', ⟨by first | omega | exact Nat.le_refl _⟩, ⟨by (with_reducible repeat (first | apply Kd.R_alloc | apply Kd.R_drewN | apply Kd.R_drew)); exact Kd.R_mono (Kd.R_far (p := ⟨gb107, 2, none⟩) (Kd.R_far (p := ⟨gb107, 1, none⟩) (Kd.R_far (p := ⟨gb107, 0, none⟩) (Kd.R_mono HO105.out (fun k_ hk => (⟨hk, hk.2⟩ : _ ∧ k_ ≠ gb107))) (fun _ hk => hk.2) (.int .i64 t101)) (fun _ hk => hk.2) (.int .i64 t102)) (fun _ hk => hk.2) (.slice Ao8 t103.length co8)) (fun _ hk => hk.1.2)⟩, ⟨p3 BK107⟩, ⟨pH HB⟩⟩
  ·replace c9 := Bool.eq_false_iff.mpr c9
   subst c9
   rw [if_neg (show ¬ (false = true) by decide)] at H
   have H' := aK H
   clear H
   go_wp2
   go_meet
   case rel => exact ⟨_, (true), rS, H', ⟨by first | omega | exact Nat.le_refl _⟩, ⟨by (with_reducible repeat (first | apply Kd.R_alloc | apply Kd.R_drewN | apply Kd.R_drew)); exact Kd.R_mono (Kd.R_far (p := ⟨gb107, 2, none⟩) (Kd.R_far (p := ⟨gb107, 1, none⟩) (Kd.R_far (p := ⟨gb107, 0, none⟩) (Kd.R_mono HO105.out (fun k_ hk => (⟨hk, hk.2⟩ : _ ∧ k_ ≠ gb107))) (fun _ hk => hk.2) (.int .i64 t101)) (fun _ hk => hk.2) (.int .i64 t102)) (fun _ hk => hk.2) (.slice Ao8 t103.length co8)) (fun _ hk => hk.1.2)⟩, ⟨p3 BK107⟩, ⟨pH HB⟩⟩
 case rest =>
  clear HC4
  try clear p2
  try clear c3
  try clear c4
  try clear c9
  try clear hcz7_0
  try clear hcz7_1
  try clear hcz7_2
  try clear hfz7_0
  try clear hfz7_1
  try clear hfz7_2
  obtain ⟨kq, x25_3, rfl, HA, HJ3, HO_108002, BK107, HB⟩ := hcut
  cases kq with
  | zero => exact absurd HA.out (by simp [impl_NormalComb.j0])
  | succ kj3 =>
   have H := HA.out
   clear HA
   simp only [impl_NormalComb.j0] at H
   by_cases c11 : x25_3 = true
   ·subst c11
    rw [if_pos rfl] at H
    simp only [Option.some.injEq, Prod.mk.injEq] at H
    obtain ⟨rfl, rfl, rfl⟩ := H
    go_wp2
    go_ret3
    exact ⟨_, eW, by first | exact Kd.R_nil _ _ _ _ _ | exact Kd.N_nil _ _ _ _ _ | exact Kd.V_nil _ _ _ _ _ | exact Kd.Q_nil _ _ _ _ _ | exact Kd.S_nil _ _ _ _ _, pH HB⟩
   ·replace c11 := Bool.eq_false_iff.mpr c11
    subst c11
    rw [if_neg (show ¬ (false = true) by decide)] at H
    have H' := aK H
    clear H
    go_wp2
    go_loopg [9] kj3 (fun kq v9 w' => ∃ (x9_2 : Int) (x108000_2 : Int) (x108001_2 : Int) (x108002_2 : List (S58)) (u108002 : Value), v9 = .int .i64 x9_2 ∧ Aside0 (impl_NormalComb.l0 kq a1 x9_2 x108000_2 x108001_2 x108002_2 = some (r1, r2, r3)) ∧ Aside0 (kq ≤ kj3) ∧ Aside0 (Kd.V k58 58 w' w.heap.size (fun k_ => k_ ≠ gb107) u108002 x108002_2) ∧ Aside0 (w'.heap[gb107]? = some (.cells #[.int .i64 x108000_2, .int .i64 x108001_2, u108002] 58 (0, 0))) ∧ Aside0 (Below w.heap.size w w'))
    case atStart => exact ⟨(0), (t101), (t102), (t103), (.slice Ao8 t103.length co8), rS, H', ⟨Nat.le_refl _⟩, ⟨Kd.R_V HO_108002.out⟩, ⟨pB BK107⟩, ⟨pH HB⟩⟩
    case round =>
     clear H'
     try clear c1
     try clear p2
     try clear c3
     try clear c4
     try clear c9
     try clear c11
     try clear hcz7_0
     try clear hcz7_1
     try clear hcz7_2
     try clear hfz7_0
     try clear hfz7_1
     try clear hfz7_2
     try clear p2
     obtain ⟨x9_2, x108000_2, x108001_2, x108002_2, u108002, rfl, HA, HK2, HO_108002, BK107, HB⟩ := hrel
     cases gk with
     | zero => exact absurd HA.out (by simp [impl_NormalComb.l0])
     | succ k2 =>
      have H := HA.out
      clear HA
      simp only [impl_NormalComb.l0] at H
      replace H := Option.bind_eq_some_iff.mp H
      obtain ⟨⟨t109, t110, t111, t114⟩, A120, H⟩ := H
      try dsimp only at H
      have A12 := aK A120
      clear A120
      by_cases c13 : t114 = true
      ·subst c13
       rw [if_pos rfl] at H
       by_cases c14 : x9_2 = a1
       ·rw [if_pos c14] at H
        have c14b0 : (x9_2 == a1) = true := beq_iff_eq.mpr c14
        have c14b1 : (x9_2 != a1) = false := bne_eq_false_iff_eq.mpr c14
        clear c14
        simp only [Option.some.injEq, Prod.mk.injEq] at H
        obtain ⟨rfl, rfl, rfl⟩ := H
        have hcz15_0 := k30 BK107
        have hcz15_1 := k31 BK107
        have hcz15_2 := k32 BK107
        have hfz15_0 := fz BK107 0
        have hfz15_1 := fz BK107 1
        have hfz15_2 := fz BK107 2
        obtain ⟨Ao16, co16, eo16⟩ := Kd.V_slice HO_108002.out
        subst eo16
        go_wp2_with (first | ((with_reducible refine gate_callee (f := 56) rfl ?_); refine goesL_ (some 30) rfl rfl Try.func56 (by kernel_rfl) rfl #[.agg #[.int .i64 x108000_2, .int .i64 x108001_2, .slice Ao16 x108002_2.length co16]] rfl tA ?_; (with_reducible refine (impl_comb_step.calls k2 x108000_2 x108001_2 (fun k_ => k_ ≠ gb107) _ _ x108002_2 t109 t110 t111 true _ ?side1 A12.out).mono ?_); (case side1 => exact HO_108002.out); rintro e w17 ⟨v112, rfl, ho0, hb⟩; refine ⟨_, rfl, ?_⟩; have n0_ := aK (Kd.V_below HO_108002.out hb); have HO113 := aK (Kd.V_lower (Kd.V_mono (ok' := fun k_ => k_ ≠ gb107) ho0 (fun k_ hk_ => Or.elim hk_ (fun hs_ => hs_) (fun hn_ => (Kd.freshB BK107.out k_ hn_)))) (below_size HB.out)); replace BK107 := qb BK107 hb; clear HO_108002; have HO_108002 := n0_; clear n0_; replace HB := qs HB hb; (try clear hb); (try clear ho0)) | ((with_reducible refine gate_dst (N := 10) rfl ?_); refine bE (N := 10) (cs := #[.int .i64 0, .int .i64 0, .slice none 0 0]) (t := 58) ?_; intro gb115 hg w18 hbox hb; have GW115 := qw HB hg; have GE115 := qw HB hg; have NB107_115 := ql BK107 hg; have NB115_107 := qg BK107 hg; replace HO_108002 := qv HO_108002 hg hb; replace HO113 := qv HO113 hg hb; replace BK107 := qb BK107 hb; have BK115 := aK hbox; replace HB := qs HB hb; clear hb hbox hg; have hnb19 := NB115_107.out; have hnc19 := NB107_115.out; have hcz20_0 := k30 BK115; have hcz20_1 := k31 BK115; have hcz20_2 := k32 BK115; have hfz20_0 := fz BK115 0; have hfz20_1 := fz BK115 1; have hfz20_2 := fz BK115 2; obtain ⟨Ao21, co21, eo21⟩ := Kd.V_slice HO113.out; subst eo21; have hcz22_0 := k30 BK107; have hcz22_1 := k31 BK107; have hcz22_2 := k32 BK107; have hfz22_0 := fz BK107 0; have hfz22_1 := fz BK107 1; have hfz22_2 := fz BK107 2))
        go_ret3
        exact ⟨_, eW, by first | exact Kd.R_nil _ _ _ _ _ | exact Kd.N_nil _ _ _ _ _ | exact Kd.V_nil _ _ _ _ _ | exact Kd.Q_nil _ _ _ _ _ | exact Kd.S_nil _ _ _ _ _, pH HB⟩
       ·rw [if_neg c14] at H
        have c14b0 : (x9_2 == a1) = false := beq_eq_false_iff_ne.mpr c14
        have c14b1 : (x9_2 != a1) = true := bne_iff_ne.mpr c14
        replace H := Option.bind_eq_some_iff.mp H
        obtain ⟨t116, A230, H⟩ := H
        try dsimp only at H
        have A23 := aK A230
        clear A230
        by_cases c24 : t116 = true
        ·subst c24
         rw [if_pos rfl] at H
         have H' := aK H
         clear H
         have hcz25_0 := k30 BK107
         have hcz25_1 := k31 BK107
         have hcz25_2 := k32 BK107
         have hfz25_0 := fz BK107 0
         have hfz25_1 := fz BK107 1
         have hfz25_2 := fz BK107 2
         obtain ⟨Ao26, co26, eo26⟩ := Kd.V_slice HO_108002.out
         subst eo26
         go_wp2_with (first | ((with_reducible refine gate_callee (f := 56) rfl ?_); refine goesL_ (some 30) rfl rfl Try.func56 (by kernel_rfl) rfl #[.agg #[.int .i64 x108000_2, .int .i64 x108001_2, .slice Ao26 x108002_2.length co26]] rfl tA ?_; (with_reducible refine (impl_comb_step.calls k2 x108000_2 x108001_2 (fun k_ => k_ ≠ gb107) _ _ x108002_2 t109 t110 t111 true _ ?side1 A12.out).mono ?_); (case side1 => exact HO_108002.out); rintro e w27 ⟨v112, rfl, ho0, hb⟩; refine ⟨_, rfl, ?_⟩; have n0_ := aK (Kd.V_below HO_108002.out hb); have HO113 := aK (Kd.V_lower (Kd.V_mono (ok' := fun k_ => k_ ≠ gb107) ho0 (fun k_ hk_ => Or.elim hk_ (fun hs_ => hs_) (fun hn_ => (Kd.freshB BK107.out k_ hn_)))) (below_size HB.out)); replace BK107 := qb BK107 hb; clear HO_108002; have HO_108002 := n0_; clear n0_; replace HB := qs HB hb; (try clear hb); (try clear ho0)) | ((with_reducible refine gate_dst (N := 10) rfl ?_); refine bE (N := 10) (cs := #[.int .i64 0, .int .i64 0, .slice none 0 0]) (t := 58) ?_; intro gb115 hg w28 hbox hb; have GW115 := qw HB hg; have GE115 := qw HB hg; have NB107_115 := ql BK107 hg; have NB115_107 := qg BK107 hg; replace HO_108002 := qv HO_108002 hg hb; replace HO113 := qv HO113 hg hb; replace BK107 := qb BK107 hb; have BK115 := aK hbox; replace HB := qs HB hb; clear hb hbox hg; have hnb29 := NB115_107.out; have hnc29 := NB107_115.out; have hcz30_0 := k30 BK115; have hcz30_1 := k31 BK115; have hcz30_2 := k32 BK115; have hfz30_0 := fz BK115 0; have hfz30_1 := fz BK115 1; have hfz30_2 := fz BK115 2; obtain ⟨Ao31, co31, eo31⟩ := Kd.V_slice HO113.out; subst eo31; have hcz32_0 := k30 BK107; have hcz32_1 := k31 BK107; have hcz32_2 := k32 BK107; have hfz32_0 := fz BK107 0; have hfz32_1 := fz BK107 1; have hfz32_2 := fz BK107 2) | (go_at_call 58; (with_reducible refine (impl_comb_isGood.calls k2 t109 t110 _ _ t111 true _ ?side1 ?side2 A23.out).mono ?_); (case side1 => refine (Kd.V_reads' (e := 58) (base := w.heap.size) (ok := fun k_ => (k_ ≠ gb107 ∧ k_ ≠ gb115)) (n := t111.length) (c := co31) ?_).2.2; exact (by (with_reducible repeat (first | apply Kd.V_alloc | apply Kd.V_drewN | apply Kd.V_drew)); exact (Kd.V_mono (Kd.V_mono (vF3 gb107 (vF3 gb115 (Kd.V_mono (Kd.V_mono HO113.out (fun k_ hk => (⟨hk, hk.2⟩ : _ ∧ k_ ≠ gb115))) (fun k_ hk => (⟨hk, hk.1.1⟩ : _ ∧ k_ ≠ gb107))) (fun _ hk => hk.1.2)) (fun _ hk => hk.2)) (fun _ h_ => h_.1)) (fun _ h_ => h_.1)))); (case side2 => exact (Kd.V_reads' HO113.out).2.1); rintro e w33 ⟨rfl, hb⟩; have n0_ := aK (Kd.V_below (by (with_reducible repeat (first | apply Kd.V_alloc | apply Kd.V_drewN | apply Kd.V_drew)); exact (Kd.V_mono (Kd.V_mono (vF3 gb107 (vF3 gb115 (Kd.V_mono (Kd.V_mono HO_108002.out (fun k_ hk => (⟨hk, hk.2⟩ : _ ∧ k_ ≠ gb115))) (fun k_ hk => (⟨hk, hk.1.1⟩ : _ ∧ k_ ≠ gb107))) (fun _ hk => hk.1.2)) (fun _ hk => hk.2)) (fun _ h_ => h_.1)) (fun _ h_ => h_.1))) hb); have n1_ := aK (Kd.V_below (by (with_reducible repeat (first | apply Kd.V_alloc | apply Kd.V_drewN | apply Kd.V_drew)); exact (Kd.V_mono (Kd.V_mono (vF3 gb107 (vF3 gb115 (Kd.V_mono (Kd.V_mono HO113.out (fun k_ hk => (⟨hk, hk.2⟩ : _ ∧ k_ ≠ gb115))) (fun k_ hk => (⟨hk, hk.1.1⟩ : _ ∧ k_ ≠ gb107))) (fun _ hk => hk.1.2)) (fun _ hk => hk.2)) (fun _ h_ => h_.1)) (fun _ h_ => h_.1))) hb); have n2_ := aK (blk_below (g := gb107) (o := .cells #[.int .i64 t109, .int .i64 t110, .slice Ao31 t111.length co31] 58 (0, 0)) (by (with_reducible repeat first | apply zN | apply zD | apply zA); refine blk_put (cs := #[.int .i64 t109, .int .i64 t110, .slice Ao26 x108002_2.length co26]) ?_ 2 _ rfl; (with_reducible repeat first | apply zN | apply zD | apply zA); refine blk_put (cs := #[.int .i64 t109, .int .i64 x108001_2, .slice Ao26 x108002_2.length co26]) ?_ 1 _ rfl; (with_reducible repeat first | apply zN | apply zD | apply zA); refine blk_put (cs := #[.int .i64 x108000_2, .int .i64 x108001_2, .slice Ao26 x108002_2.length co26]) ?_ 0 _ rfl; (repeat first | with_reducible apply zN | with_reducible apply zD | with_reducible apply zA | refine blk_far ?_ NB107_115.out _); exact BK107.out) hb); have n3_ := aK (blk_below (g := gb115) (o := .cells #[.int .i64 t109, .int .i64 t110, .slice Ao31 t111.length co31] 58 (0, 0)) (by (repeat first | with_reducible apply zN | with_reducible apply zD | with_reducible apply zA | refine blk_far ?_ NB115_107.out _); refine blk_put (cs := #[.int .i64 t109, .int .i64 t110, .slice none 0 0]) ?_ 2 _ rfl; (with_reducible repeat first | apply zN | apply zD | apply zA); refine blk_put (cs := #[.int .i64 t109, .int .i64 0, .slice none 0 0]) ?_ 1 _ rfl; (with_reducible repeat first | apply zN | apply zD | apply zA); refine blk_put (cs := #[.int .i64 0, .int .i64 0, .slice none 0 0]) ?_ 0 _ rfl; (with_reducible repeat first | apply zN | apply zD | apply zA); exact BK115.out) hb); have n4_ := aK (below_step (pH HB) hb); clear HO_108002; clear HO113; clear BK107; clear BK115; clear HB; have HO_108002 := n0_; have HO113 := n1_; have BK107 := n2_; have BK115 := n3_; have HB := n4_; clear n0_ n1_ n2_ n3_ n4_; (try clear hb)))
         go_roundg k2
         case measure => have := HJ3.out; have := HK2.out; omega
         case rel => exact ⟨(wrap64 (x9_2 + 1)), (t109), (t110), (t111), (.slice Ao31 t111.length co31), rS, H', ⟨by have := HJ3.out; have := HK2.out; omega⟩, ⟨by (with_reducible repeat (first | apply Kd.V_alloc | apply Kd.V_drewN | apply Kd.V_drew)); exact Kd.V_mono HO113.out (fun _ hk => hk.1)⟩, ⟨pB BK107⟩, ⟨pH HB⟩⟩
        ·replace c24 := Bool.eq_false_iff.mpr c24
         subst c24
         rw [if_neg (show ¬ (false = true) by decide)] at H
         simp only [Option.some.injEq, Prod.mk.injEq] at H
         obtain ⟨rfl, rfl, rfl⟩ := H
         have hcz34_0 := k30 BK107
         have hcz34_1 := k31 BK107
         have hcz34_2 := k32 BK107
         have hfz34_0 := fz BK107 0
         have hfz34_1 := fz BK107 1
         have hfz34_2 := fz BK107 2
         obtain ⟨Ao35, co35, eo35⟩ := Kd.V_slice HO_108002.out
         subst eo35
         go_wp2_with (first | ((with_reducible refine gate_callee (f := 56) rfl ?_); refine goesL_ (some 30) rfl rfl Try.func56 (by kernel_rfl) rfl #[.agg #[.int .i64 x108000_2, .int .i64 x108001_2, .slice Ao35 x108002_2.length co35]] rfl tA ?_; (with_reducible refine (impl_comb_step.calls k2 x108000_2 x108001_2 (fun k_ => k_ ≠ gb107) _ _ x108002_2 t109 t110 t111 true _ ?side1 A12.out).mono ?_); (case side1 => exact HO_108002.out); rintro e w36 ⟨v112, rfl, ho0, hb⟩; refine ⟨_, rfl, ?_⟩; have n0_ := aK (Kd.V_below HO_108002.out hb); have HO113 := aK (Kd.V_lower (Kd.V_mono (ok' := fun k_ => k_ ≠ gb107) ho0 (fun k_ hk_ => Or.elim hk_ (fun hs_ => hs_) (fun hn_ => (Kd.freshB BK107.out k_ hn_)))) (below_size HB.out)); replace BK107 := qb BK107 hb; clear HO_108002; have HO_108002 := n0_; clear n0_; replace HB := qs HB hb; (try clear hb); (try clear ho0)) | ((with_reducible refine gate_dst (N := 10) rfl ?_); refine bE (N := 10) (cs := #[.int .i64 0, .int .i64 0, .slice none 0 0]) (t := 58) ?_; intro gb115 hg w37 hbox hb; have GW115 := qw HB hg; have GE115 := qw HB hg; have NB107_115 := ql BK107 hg; have NB115_107 := qg BK107 hg; replace HO_108002 := qv HO_108002 hg hb; replace HO113 := qv HO113 hg hb; replace BK107 := qb BK107 hb; have BK115 := aK hbox; replace HB := qs HB hb; clear hb hbox hg; have hnb38 := NB115_107.out; have hnc38 := NB107_115.out; have hcz39_0 := k30 BK115; have hcz39_1 := k31 BK115; have hcz39_2 := k32 BK115; have hfz39_0 := fz BK115 0; have hfz39_1 := fz BK115 1; have hfz39_2 := fz BK115 2; obtain ⟨Ao40, co40, eo40⟩ := Kd.V_slice HO113.out; subst eo40; have hcz41_0 := k30 BK107; have hcz41_1 := k31 BK107; have hcz41_2 := k32 BK107; have hfz41_0 := fz BK107 0; have hfz41_1 := fz BK107 1; have hfz41_2 := fz BK107 2) | (go_at_call 58; (with_reducible refine (impl_comb_isGood.calls k2 t109 t110 _ _ t111 false _ ?side1 ?side2 A23.out).mono ?_); (case side1 => refine (Kd.V_reads' (e := 58) (base := w.heap.size) (ok := fun k_ => (k_ ≠ gb107 ∧ k_ ≠ gb115)) (n := t111.length) (c := co40) ?_).2.2; exact (by (with_reducible repeat (first | apply Kd.V_alloc | apply Kd.V_drewN | apply Kd.V_drew)); exact (Kd.V_mono (Kd.V_mono (vF3 gb107 (vF3 gb115 (Kd.V_mono (Kd.V_mono HO113.out (fun k_ hk => (⟨hk, hk.2⟩ : _ ∧ k_ ≠ gb115))) (fun k_ hk => (⟨hk, hk.1.1⟩ : _ ∧ k_ ≠ gb107))) (fun _ hk => hk.1.2)) (fun _ hk => hk.2)) (fun _ h_ => h_.1)) (fun _ h_ => h_.1)))); (case side2 => exact (Kd.V_reads' HO113.out).2.1); rintro e w42 ⟨rfl, hb⟩; have n0_ := aK (Kd.V_below (by (with_reducible repeat (first | apply Kd.V_alloc | apply Kd.V_drewN | apply Kd.V_drew)); exact (Kd.V_mono (Kd.V_mono (vF3 gb107 (vF3 gb115 (Kd.V_mono (Kd.V_mono HO_108002.out (fun k_ hk => (⟨hk, hk.2⟩ : _ ∧ k_ ≠ gb115))) (fun k_ hk => (⟨hk, hk.1.1⟩ : _ ∧ k_ ≠ gb107))) (fun _ hk => hk.1.2)) (fun _ hk => hk.2)) (fun _ h_ => h_.1)) (fun _ h_ => h_.1))) hb); have n1_ := aK (Kd.V_below (by (with_reducible repeat (first | apply Kd.V_alloc | apply Kd.V_drewN | apply Kd.V_drew)); exact (Kd.V_mono (Kd.V_mono (vF3 gb107 (vF3 gb115 (Kd.V_mono (Kd.V_mono HO113.out (fun k_ hk => (⟨hk, hk.2⟩ : _ ∧ k_ ≠ gb115))) (fun k_ hk => (⟨hk, hk.1.1⟩ : _ ∧ k_ ≠ gb107))) (fun _ hk => hk.1.2)) (fun _ hk => hk.2)) (fun _ h_ => h_.1)) (fun _ h_ => h_.1))) hb); have n2_ := aK (blk_below (g := gb107) (o := .cells #[.int .i64 t109, .int .i64 t110, .slice Ao40 t111.length co40] 58 (0, 0)) (by (with_reducible repeat first | apply zN | apply zD | apply zA); refine blk_put (cs := #[.int .i64 t109, .int .i64 t110, .slice Ao35 x108002_2.length co35]) ?_ 2 _ rfl; (with_reducible repeat first | apply zN | apply zD | apply zA); refine blk_put (cs := #[.int .i64 t109, .int .i64 x108001_2, .slice Ao35 x108002_2.length co35]) ?_ 1 _ rfl; (with_reducible repeat first | apply zN | apply zD | apply zA); refine blk_put (cs := #[.int .i64 x108000_2, .int .i64 x108001_2, .slice Ao35 x108002_2.length co35]) ?_ 0 _ rfl; (repeat first | with_reducible apply zN | with_reducible apply zD | with_reducible apply zA | refine blk_far ?_ NB107_115.out _); exact BK107.out) hb); have n3_ := aK (blk_below (g := gb115) (o := .cells #[.int .i64 t109, .int .i64 t110, .slice Ao40 t111.length co40] 58 (0, 0)) (by (repeat first | with_reducible apply zN | with_reducible apply zD | with_reducible apply zA | refine blk_far ?_ NB115_107.out _); refine blk_put (cs := #[.int .i64 t109, .int .i64 t110, .slice none 0 0]) ?_ 2 _ rfl; (with_reducible repeat first | apply zN | apply zD | apply zA); refine blk_put (cs := #[.int .i64 t109, .int .i64 0, .slice none 0 0]) ?_ 1 _ rfl; (with_reducible repeat first | apply zN | apply zD | apply zA); refine blk_put (cs := #[.int .i64 0, .int .i64 0, .slice none 0 0]) ?_ 0 _ rfl; (with_reducible repeat first | apply zN | apply zD | apply zA); exact BK115.out) hb); have n4_ := aK (below_step (pH HB) hb); clear HO_108002; clear HO113; clear BK107; clear BK115; clear HB; have HO_108002 := n0_; have HO113 := n1_; have BK107 := n2_; have BK115 := n3_; have HB := n4_; clear n0_ n1_ n2_ n3_ n4_; (try clear hb)))
         go_ret3
         exact ⟨_, eW, by first | exact Kd.R_nil _ _ _ _ _ | exact Kd.N_nil _ _ _ _ _ | exact Kd.V_nil _ _ _ _ _ | exact Kd.Q_nil _ _ _ _ _ | exact Kd.S_nil _ _ _ _ _, pH HB⟩
      ·replace c13 := Bool.eq_false_iff.mpr c13
       subst c13
       rw [if_neg (show ¬ (false = true) by decide)] at H
       replace H := Option.bind_eq_some_iff.mp H
       obtain ⟨⟨t117, t120⟩, A430, H⟩ := H
       try dsimp only at H
       have A43 := aK A430
       clear A430
       simp only [Option.some.injEq, Prod.mk.injEq] at H
       obtain ⟨rfl, rfl, rfl⟩ := H
       have hcz44_0 := k30 BK107
       have hcz44_1 := k31 BK107
       have hcz44_2 := k32 BK107
       have hfz44_0 := fz BK107 0
       have hfz44_1 := fz BK107 1
       have hfz44_2 := fz BK107 2
       obtain ⟨Ao45, co45, eo45⟩ := Kd.V_slice HO_108002.out
       subst eo45
       go_wp2_with (first | ((with_reducible refine gate_callee (f := 56) rfl ?_); refine goesL_ (some 30) rfl rfl Try.func56 (by kernel_rfl) rfl #[.agg #[.int .i64 x108000_2, .int .i64 x108001_2, .slice Ao45 x108002_2.length co45]] rfl tA ?_; (with_reducible refine (impl_comb_step.calls k2 x108000_2 x108001_2 (fun k_ => k_ ≠ gb107) _ _ x108002_2 t109 t110 t111 false _ ?side1 A12.out).mono ?_); (case side1 => exact HO_108002.out); rintro e w46 ⟨v112, rfl, ho0, hb⟩; refine ⟨_, rfl, ?_⟩; have n0_ := aK (Kd.V_below HO_108002.out hb); have HO113 := aK (Kd.V_lower (Kd.V_mono (ok' := fun k_ => k_ ≠ gb107) ho0 (fun k_ hk_ => Or.elim hk_ (fun hs_ => hs_) (fun hn_ => (Kd.freshB BK107.out k_ hn_)))) (below_size HB.out)); replace BK107 := qb BK107 hb; clear HO_108002; have HO_108002 := n0_; clear n0_; replace HB := qs HB hb; (try clear hb); (try clear ho0)) | ((with_reducible refine gate_dst (N := 10) rfl ?_); refine bE (N := 10) (cs := #[.int .i64 0, .int .i64 0, .slice none 0 0]) (t := 58) ?_; intro gb115 hg w47 hbox hb; have GW115 := qw HB hg; have GE115 := qw HB hg; have NB107_115 := ql BK107 hg; have NB115_107 := qg BK107 hg; replace HO_108002 := qv HO_108002 hg hb; replace HO113 := qv HO113 hg hb; replace BK107 := qb BK107 hb; have BK115 := aK hbox; replace HB := qs HB hb; clear hb hbox hg; have hnb48 := NB115_107.out; have hnc48 := NB107_115.out; have hcz49_0 := k30 BK115; have hcz49_1 := k31 BK115; have hcz49_2 := k32 BK115; have hfz49_0 := fz BK115 0; have hfz49_1 := fz BK115 1; have hfz49_2 := fz BK115 2; obtain ⟨Ao50, co50, eo50⟩ := Kd.V_slice HO113.out; subst eo50; have hcz51_0 := k30 BK107; have hcz51_1 := k31 BK107; have hcz51_2 := k32 BK107; have hfz51_0 := fz BK107 0; have hfz51_1 := fz BK107 1; have hfz51_2 := fz BK107 2) | ((with_reducible refine gate_callee (f := 54) rfl ?_); refine goesL_ (some 37) rfl rfl Try.func54 (by kernel_rfl) rfl #[.agg #[.int .i64 x108000_2, .int .i64 x108001_2, .slice Ao45 x108002_2.length co45]] rfl tA ?_; (with_reducible refine (impl_comb_goodNodes.calls k2 x108000_2 x108001_2 _ _ x108002_2 t117 t120 _ ?side1 ?side2 A43.out).mono ?_); (case side1 => refine (Kd.V_reads' (e := 58) (base := w.heap.size) (ok := fun k_ => (k_ ≠ gb107 ∧ k_ ≠ gb115)) (n := x108002_2.length) (c := co45) ?_).2.2; exact (by (with_reducible repeat (first | apply Kd.V_alloc | apply Kd.V_drewN | apply Kd.V_drew)); exact (Kd.V_mono (vF3 gb115 (Kd.V_mono HO_108002.out (fun k_ hk => (⟨hk, hk.2⟩ : _ ∧ k_ ≠ gb115))) (fun _ hk => hk.2)) (fun _ h_ => h_.1)))); (case side2 => exact (Kd.V_reads' HO_108002.out).2.1); rintro e w52 ⟨v118, rfl, ho0, hb⟩; refine ⟨_, rfl, ?_⟩; have n0_ := aK (Kd.V_elder' (by (with_reducible repeat (first | apply Kd.V_alloc | apply Kd.V_drewN | apply Kd.V_drew)); exact (Kd.V_mono (vF3 gb115 (Kd.V_mono HO_108002.out (fun k_ hk => (⟨hk, hk.2⟩ : _ ∧ k_ ≠ gb115))) (fun _ hk => hk.2)) (fun _ h_ => h_.1))) (Kd.R_base ho0) hb); have n1_ := aK (Kd.V_elder' (by (with_reducible repeat (first | apply Kd.V_alloc | apply Kd.V_drewN | apply Kd.V_drew)); exact (Kd.V_mono (vF3 gb115 (Kd.V_mono HO113.out (fun k_ hk => (⟨hk, hk.2⟩ : _ ∧ k_ ≠ gb115))) (fun _ hk => hk.2)) (fun _ h_ => h_.1))) (Kd.R_base ho0) hb); have n2_ := aK (Kd.R_lower ho0 (below_size (pH HB))); have n3_ := aK (blk_below (g := gb107) (o := .cells #[.int .i64 x108000_2, .int .i64 x108001_2, .slice Ao45 x108002_2.length co45] 58 (0, 0)) (by (repeat first | with_reducible apply zN | with_reducible apply zD | with_reducible apply zA | refine blk_far ?_ NB107_115.out _); exact BK107.out) hb); have n4_ := aK (blk_below (g := gb115) (o := .cells #[.int .i64 t109, .int .i64 t110, .slice Ao50 t111.length co50] 58 (0, 0)) (p3 BK115) hb); have n5_ := aK (below_step (pH HB) hb); clear HO_108002; clear HO113; clear BK107; clear BK115; clear HB; have HO_108002 := n0_; have HO113 := n1_; have HO119 := n2_; have BK107 := n3_; have BK115 := n4_; have HB := n5_; clear n0_ n1_ n2_ n3_ n4_ n5_; (try clear hb); (try clear ho0)))
       go_ret3
       exact ⟨_, eW, by (with_reducible repeat (first | apply Kd.R_alloc | apply Kd.R_drewN | apply Kd.R_drew)); exact HO119.out, pH HB⟩

end Go.Proofs.Ytcjhhdecckcibaa.G

namespace Go.Proofs.Ytcjhhdecckcibaa.G
open Go.RowKit Go.Proofs.YtcjhhdecckcibaaW.PrintWords Go.Proofs.YtcjhhdecckcibaaW.PrintLast Go.Proofs.YtcjhhdecckcibaaW.PrintMore
attribute [local go_sem] max2_int min2_int max_two min_two max_three min_three max_four min_four   -- for this text's walks alone
set_option linter.unusedVariables false
set_option linter.unusedSimpArgs false

mutual
def laws_FnExactNormalComb.j0 : Nat → List (S55) → Int → List (S52) → Int → Bool → List (S52) → List (S52) → Int → Bool → Bool → Option (Bool)
  | 0, _, _, _, _, _, _, _, _, _, _ => none
  | k + 1, x0, x1, x6, x7, x8, x9, x10, x11, x12, x54 => if x54 = true then (some false) else ((laws_toCombS.f k x0).bind fun t119 => ((laws_eqCombS.f k x9 t119).bind fun t122 => (if t122 = true then ((laws_markCombS.f k x9 1).bind fun bt123 => (if bt123.1 < 0 then (laws_FnExactNormalComb.j1 k x0 x1 x6 x7 x8 x10 true) else ((laws_eqCombS.f k x10 x6).bind fun t125 => (if t125 = true then (if x11 = x7 then (laws_FnExactNormalComb.j1 k x0 x1 x6 x7 x8 x10 (x12 != x8)) else (laws_FnExactNormalComb.j1 k x0 x1 x6 x7 x8 x10 true)) else (laws_FnExactNormalComb.j1 k x0 x1 x6 x7 x8 x10 true))))) else (some false))))
def laws_FnExactNormalComb.j1 : Nat → List (S55) → Int → List (S52) → Int → Bool → List (S52) → Bool → Option (Bool)
  | 0, _, _, _, _, _, _, _ => none
  | k + 1, x0, x1, x6, x7, x8, x10, x80 => if x80 = true then (some false) else ((laws_markCombS.f k x10 1).bind fun bt126 => ((laws_heldCombS.f k bt126.2 1).bind fun t128 => (if t128 < 0 then (some false) else (if t128 = bt126.1 then ((laws_toCombS.f k x0).bind fun t129 => ((impl_NormalComb.f k t129 x1).bind fun bt132 => ((laws_eqCombS.f k bt132.1 x6).bind fun t137 => (if t137 = true then (if bt132.2.1 = x7 then (laws_FnExactNormalComb.j2 k bt126.2 bt126.1 (bt132.2.2 != x8)) else (laws_FnExactNormalComb.j2 k bt126.2 bt126.1 true)) else (laws_FnExactNormalComb.j2 k bt126.2 bt126.1 true))))) else (some false)))))
def laws_FnExactNormalComb.j2 : Nat → List (S52) → Int → Bool → Option (Bool)
  | 0, _, _, _ => none
  | k + 1, x10, x14, x113 => if x113 = true then (some false) else ((laws_heldCombS.f k x10 1).bind fun t138 => (if t138 < 0 then (some false) else (if t138 = x14 then (some true) else (some false))))
end
def laws_FnExactNormalComb.f (k : Nat) (l0 : List (S55)) (a1 : Int) : Option (Bool) := (laws_szCombS.f l0 1048576).bind fun t101 => (if t101 < 0 then (some true) else ((laws_toCombS.f k l0).bind fun t102 => ((spec_NormalComb.f k t102 a1).bind fun bt105 => ((laws_toCombS.f k l0).bind fun t110 => ((impl_NormalComb.f k t110 a1).bind fun bt113 => ((laws_eqCombS.f k bt113.1 bt105.1).bind fun t118 => (if t118 = true then (if bt113.2.1 = bt105.2.1 then (laws_FnExactNormalComb.j0 k l0 a1 bt105.1 bt105.2.1 bt105.2.2 t110 bt113.1 bt113.2.1 bt113.2.2 (bt113.2.2 != bt105.2.2)) else (laws_FnExactNormalComb.j0 k l0 a1 bt105.1 bt105.2.1 bt105.2.2 t110 bt113.1 bt113.2.1 bt113.2.2 true)) else (laws_FnExactNormalComb.j0 k l0 a1 bt105.1 bt105.2.1 bt105.2.2 t110 bt113.1 bt113.2.1 bt113.2.2 true))))))))
set_option maxHeartbeats 8000000 in
set_option maxRecDepth 100000 in
theorem laws_FnExactNormalComb.calls (k : Nat) (A0 : Option Addr) (c0 : Nat) (l0 : List (S55)) (a1 : Int) (r : Bool) (w : World) (hr0 : Kd.C k55 w A0 l0.length l0) (hc0 : l0.length ≤ c0) (h : laws_FnExactNormalComb.f k l0 a1 = some r) :
    Calls Try.prog 8 #[.slice A0 l0.length c0, .int .i64 a1] w fun e w' => e = .returned (.bool r) ∧ Below w.heap.size w w' := by
  have HR0 := Aside0.mk hr0
  have HC0 := Aside0.mk hc0
  clear hr0 hc0
  have HB := Aside0.mk (Below.refl w.heap.size w)
  have H : ((laws_szCombS.f l0 1048576).bind fun t101 => (if t101 < 0 then (some true) else ((laws_toCombS.f k l0).bind fun t102 => ((spec_NormalComb.f k t102 a1).bind fun bt105 => ((laws_toCombS.f k l0).bind fun t110 => ((impl_NormalComb.f k t110 a1).bind fun bt113 => ((laws_eqCombS.f k bt113.1 bt105.1).bind fun t118 => (if t118 = true then (if bt113.2.1 = bt105.2.1 then (laws_FnExactNormalComb.j0 k l0 a1 bt105.1 bt105.2.1 bt105.2.2 t110 bt113.1 bt113.2.1 bt113.2.2 (bt113.2.2 != bt105.2.2)) else (laws_FnExactNormalComb.j0 k l0 a1 bt105.1 bt105.2.1 bt105.2.2 t110 bt113.1 bt113.2.1 bt113.2.2 true)) else (laws_FnExactNormalComb.j0 k l0 a1 bt105.1 bt105.2.1 bt105.2.2 t110 bt113.1 bt113.2.1 bt113.2.2 true))))))))) = some r := h
  clear h
  replace H := Option.bind_eq_some_iff.mp H
  obtain ⟨t101, A30, H⟩ := H
  replace H : (if t101 < 0 then (some true) else ((laws_toCombS.f k l0).bind fun t102 => ((spec_NormalComb.f k t102 a1).bind fun bt105 => ((laws_toCombS.f k l0).bind fun t110 => ((impl_NormalComb.f k t110 a1).bind fun bt113 => ((laws_eqCombS.f k bt113.1 bt105.1).bind fun t118 => (if t118 = true then (if bt113.2.1 = bt105.2.1 then (laws_FnExactNormalComb.j0 k l0 a1 bt105.1 bt105.2.1 bt105.2.2 t110 bt113.1 bt113.2.1 bt113.2.2 (bt113.2.2 != bt105.2.2)) else (laws_FnExactNormalComb.j0 k l0 a1 bt105.1 bt105.2.1 bt105.2.2 t110 bt113.1 bt113.2.1 bt113.2.2 true)) else (laws_FnExactNormalComb.j0 k l0 a1 bt105.1 bt105.2.1 bt105.2.2 t110 bt113.1 bt113.2.1 bt113.2.2 true)))))))) = some r := H
  have A3 := Aside0.mk A30
  clear A30
  by_cases c4 : t101 < 0
  · rw [if_pos c4] at H
    have c4b0 : decide (t101 < 0) = true := decide_eq_true c4
    clear c4
    obtain rfl := Option.some.inj H
    go_enter Try.func8, Try.ntmps8
    go_wp2_with (first | ((with_reducible refine gate_callee (f := 11) rfl ?_); refine goesL_ (some 21) rfl rfl Try.func11 (by kernel_rfl) rfl #[.slice A0 l0.length c0, .int .i64 1048576] rfl (by (try simp only [List.map_toArray, List.map_cons, List.map_nil]); first | done | rfl | (simp only [List.length_drop, List.length_take]; rfl)) ?_; (with_reducible refine (laws_szCombS.calls _ _ l0 1048576 t101 _ ?side1 ?side2 A3.out).mono ?_); (case side1 => repeat (first | exact HR0.out | (with_reducible refine Kd.C_alloc ?_ _) | (with_reducible refine Kd.C_drewN ?_ _) | (with_reducible refine Kd.C_drew ?_))); (case side2 => exact HC0.out); rintro e w' ⟨rfl, ⟨nd, rfl⟩⟩; refine ⟨_, rfl, ?_⟩))
    go_ret
    exact ⟨by first | rfl | (simp [errW_none, errW_some] <;> rfl) | (simp [*, errW_none, errW_some] <;> rfl), by repeat (first | (with_reducible first | exact HB.out | apply below_alloc | apply pw_below_drewN | apply below_drew1) | exact HB.out)⟩
  · rw [if_neg c4] at H
    have c4b0 : decide (t101 < 0) = false := decide_eq_false c4
    clear c4
    replace H := Option.bind_eq_some_iff.mp H
    obtain ⟨t102, A50, H⟩ := H
    replace H : ((spec_NormalComb.f k t102 a1).bind fun bt105 => ((laws_toCombS.f k l0).bind fun t110 => ((impl_NormalComb.f k t110 a1).bind fun bt113 => ((laws_eqCombS.f k bt113.1 bt105.1).bind fun t118 => (if t118 = true then (if bt113.2.1 = bt105.2.1 then (laws_FnExactNormalComb.j0 k l0 a1 bt105.1 bt105.2.1 bt105.2.2 t110 bt113.1 bt113.2.1 bt113.2.2 (bt113.2.2 != bt105.2.2)) else (laws_FnExactNormalComb.j0 k l0 a1 bt105.1 bt105.2.1 bt105.2.2 t110 bt113.1 bt113.2.1 bt113.2.2 true)) else (laws_FnExactNormalComb.j0 k l0 a1 bt105.1 bt105.2.1 bt105.2.2 t110 bt113.1 bt113.2.1 bt113.2.2 true)))))) = some r := H
    have A5 := Aside0.mk A50
    clear A50
    replace H := Option.bind_eq_some_iff.mp H
    obtain ⟨⟨t105, t106, t107⟩, A60, H⟩ := H
    replace H : ((laws_toCombS.f k l0).bind fun t110 => ((impl_NormalComb.f k t110 a1).bind fun bt113 => ((laws_eqCombS.f k bt113.1 t105).bind fun t118 => (if t118 = true then (if bt113.2.1 = t106 then (laws_FnExactNormalComb.j0 k l0 a1 t105 t106 t107 t110 bt113.1 bt113.2.1 bt113.2.2 (bt113.2.2 != t107)) else (laws_FnExactNormalComb.j0 k l0 a1 t105 t106 t107 t110 bt113.1 bt113.2.1 bt113.2.2 true)) else (laws_FnExactNormalComb.j0 k l0 a1 t105 t106 t107 t110 bt113.1 bt113.2.1 bt113.2.2 true))))) = some r := H
    have A6 := Aside0.mk A60
    clear A60
    replace H := Option.bind_eq_some_iff.mp H
    obtain ⟨t110, A70, H⟩ := H
    replace H : ((impl_NormalComb.f k t110 a1).bind fun bt113 => ((laws_eqCombS.f k bt113.1 t105).bind fun t118 => (if t118 = true then (if bt113.2.1 = t106 then (laws_FnExactNormalComb.j0 k l0 a1 t105 t106 t107 t110 bt113.1 bt113.2.1 bt113.2.2 (bt113.2.2 != t107)) else (laws_FnExactNormalComb.j0 k l0 a1 t105 t106 t107 t110 bt113.1 bt113.2.1 bt113.2.2 true)) else (laws_FnExactNormalComb.j0 k l0 a1 t105 t106 t107 t110 bt113.1 bt113.2.1 bt113.2.2 true)))) = some r := H
    have A7 := Aside0.mk A70
    clear A70
    replace H := Option.bind_eq_some_iff.mp H
    obtain ⟨⟨t113, t114, t115⟩, A80, H⟩ := H
    replace H : ((laws_eqCombS.f k t113 t105).bind fun t118 => (if t118 = true then (if t114 = t106 then (laws_FnExactNormalComb.j0 k l0 a1 t105 t106 t107 t110 t113 t114 t115 (t115 != t107)) else (laws_FnExactNormalComb.j0 k l0 a1 t105 t106 t107 t110 t113 t114 t115 true)) else (laws_FnExactNormalComb.j0 k l0 a1 t105 t106 t107 t110 t113 t114 t115 true))) = some r := H
    have A8 := Aside0.mk A80
    clear A80
    have HC9 := Aside0.mk H
    clear H
    go_enter Try.func8, Try.ntmps8
    go_upto_region 8 with (first | ((with_reducible refine gate_callee (f := 11) rfl ?_); refine goesL_ (some 21) rfl rfl Try.func11 (by kernel_rfl) rfl #[.slice A0 l0.length c0, .int .i64 1048576] rfl (by (try simp only [List.map_toArray, List.map_cons, List.map_nil]); first | done | rfl | (simp only [List.length_drop, List.length_take]; rfl)) ?_; (with_reducible refine (laws_szCombS.calls _ _ l0 1048576 t101 _ ?side1 ?side2 A3.out).mono ?_); (case side1 => repeat (first | exact HR0.out | (with_reducible refine Kd.C_alloc ?_ _) | (with_reducible refine Kd.C_drewN ?_ _) | (with_reducible refine Kd.C_drew ?_))); (case side2 => exact HC0.out); rintro e w' ⟨rfl, ⟨nd, rfl⟩⟩; refine ⟨_, rfl, ?_⟩) | ((with_reducible refine gate_callee (f := 13) rfl ?_); refine goesL_ (some 26) rfl rfl Try.func13 (by kernel_rfl) rfl #[.slice A0 l0.length c0] rfl (by (try simp only [List.map_toArray, List.map_cons, List.map_nil]); first | done | rfl | (simp only [List.length_drop, List.length_take]; rfl)) ?_; (with_reducible refine (laws_toCombS.calls k _ _ l0 t102 _ ?side1 ?side2 A5.out).mono ?_); (case side1 => repeat (first | exact HR0.out | (with_reducible refine Kd.C_alloc ?_ _) | (with_reducible refine Kd.C_drewN ?_ _) | (with_reducible refine Kd.C_drew ?_))); (case side2 => exact HC0.out); rintro e w10 ⟨v103, rfl, ho0, hb⟩; refine ⟨_, rfl, ?_⟩; have n0_ := Aside0.mk (Kd.R_lower ho0 (below_size (by repeat (first | (with_reducible first | exact HB.out | apply below_alloc | apply pw_below_drewN | apply below_drew1) | exact HB.out)))); have n1_ := Aside0.mk (below_step (by repeat (first | (with_reducible first | exact HB.out | apply below_alloc | apply pw_below_drewN | apply below_drew1) | exact HB.out)) hb); clear HB; have HO104 := n0_; have HB := n1_; clear n0_ n1_; (try clear hb); (try clear hb2); (try clear hk); (try clear hi); (try clear ho0); obtain ⟨Ao11, co11, eo11⟩ := Kd.R_slice HO104.out; subst eo11) | ((with_reducible refine gate_callee (f := 33) rfl ?_); refine goesL_ (some 28) rfl rfl Try.func33 (by kernel_rfl) rfl #[.slice Ao11 t102.length co11, .int .i64 a1] rfl (by (try simp only [List.map_toArray, List.map_cons, List.map_nil]); first | done | rfl | (simp only [List.length_drop, List.length_take]; rfl)) ?_; (with_reducible refine (spec_NormalComb.calls k _ _ t102 a1 t105 t106 t107 _ ?side1 ?side2 A6.out).mono ?_); (case side1 => repeat (first | exact (Kd.R_reads' HO104.out).2.2 | (with_reducible refine Kd.C_alloc ?_ _) | (with_reducible refine Kd.C_drewN ?_ _) | (with_reducible refine Kd.C_drew ?_))); (case side2 => exact (Kd.R_reads' HO104.out).2.1); rintro e w12 ⟨v108, rfl, ho0, hb⟩; refine ⟨_, rfl, ?_⟩; have n0_ := Aside0.mk (Kd.R_elder' (by (with_reducible repeat (first | apply Kd.R_alloc | apply Kd.R_drewN | apply Kd.R_drew)); exact HO104.out) (Kd.R_base ho0) hb); have n1_ := Aside0.mk (Kd.R_lower (Kd.R_new' ho0 (Kd.R_lt (by (with_reducible repeat (first | apply Kd.R_alloc | apply Kd.R_drewN | apply Kd.R_drew)); exact HO104.out))) (below_size (by repeat (first | (with_reducible first | exact HB.out | apply below_alloc | apply pw_below_drewN | apply below_drew1) | exact HB.out)))); have n2_ := Aside0.mk (below_step (by repeat (first | (with_reducible first | exact HB.out | apply below_alloc | apply pw_below_drewN | apply below_drew1) | exact HB.out)) hb); clear HO104; clear HB; have HO104 := n0_; have HO109 := n1_; have HB := n2_; clear n0_ n1_ n2_; (try clear hb); (try clear hb2); (try clear hk); (try clear hi); (try clear ho0)) | ((with_reducible refine gate_callee (f := 13) rfl ?_); refine goesL_ (some 33) rfl rfl Try.func13 (by kernel_rfl) rfl #[.slice A0 l0.length c0] rfl (by (try simp only [List.map_toArray, List.map_cons, List.map_nil]); first | done | rfl | (simp only [List.length_drop, List.length_take]; rfl)) ?_; (with_reducible refine (laws_toCombS.calls k _ _ l0 t110 _ ?side1 ?side2 A7.out).mono ?_); (case side1 => repeat (first | exact (Kd.C_below HR0.out HB.out) | (with_reducible refine Kd.C_alloc ?_ _) | (with_reducible refine Kd.C_drewN ?_ _) | (with_reducible refine Kd.C_drew ?_))); (case side2 => exact HC0.out); rintro e w13 ⟨v111, rfl, ho0, hb⟩; refine ⟨_, rfl, ?_⟩; have n0_ := Aside0.mk (Kd.R_elder' (by (with_reducible repeat (first | apply Kd.R_alloc | apply Kd.R_drewN | apply Kd.R_drew)); exact HO104.out) (Kd.R_base ho0) hb); have n1_ := Aside0.mk (Kd.R_elder' (by (with_reducible repeat (first | apply Kd.R_alloc | apply Kd.R_drewN | apply Kd.R_drew)); exact HO109.out) (Kd.R_base ho0) hb); have n2_ := Aside0.mk (Kd.R_lower (Kd.R_new' (Kd.R_new' ho0 (Kd.R_lt (by (with_reducible repeat (first | apply Kd.R_alloc | apply Kd.R_drewN | apply Kd.R_drew)); exact HO104.out))) (Kd.R_lt (by (with_reducible repeat (first | apply Kd.R_alloc | apply Kd.R_drewN | apply Kd.R_drew)); exact HO109.out))) (below_size (by repeat (first | (with_reducible first | exact HB.out | apply below_alloc | apply pw_below_drewN | apply below_drew1) | exact HB.out)))); have n3_ := Aside0.mk (below_step (by repeat (first | (with_reducible first | exact HB.out | apply below_alloc | apply pw_below_drewN | apply below_drew1) | exact HB.out)) hb); clear HO104; clear HO109; clear HB; have HO104 := n0_; have HO109 := n1_; have HO112 := n2_; have HB := n3_; clear n0_ n1_ n2_ n3_; (try clear hb); (try clear hb2); (try clear hk); (try clear hi); (try clear ho0); obtain ⟨Ao14, co14, eo14⟩ := Kd.R_slice HO112.out; subst eo14) | ((with_reducible refine gate_callee (f := 34) rfl ?_); refine goesL_ (some 37) rfl rfl Try.func34 (by kernel_rfl) rfl #[.slice Ao14 t110.length co14, .int .i64 a1] rfl (by (try simp only [List.map_toArray, List.map_cons, List.map_nil]); first | done | rfl | (simp only [List.length_drop, List.length_take]; rfl)) ?_; (with_reducible refine (impl_NormalComb.calls k _ _ t110 a1 t113 t114 t115 _ ?side1 ?side2 A8.out).mono ?_); (case side1 => repeat (first | exact (Kd.R_reads' HO112.out).2.2 | (with_reducible refine Kd.C_alloc ?_ _) | (with_reducible refine Kd.C_drewN ?_ _) | (with_reducible refine Kd.C_drew ?_))); (case side2 => exact (Kd.R_reads' HO112.out).2.1); rintro e w15 ⟨v116, rfl, ho0, hb⟩; refine ⟨_, rfl, ?_⟩; have n0_ := Aside0.mk (Kd.R_elder' (by (with_reducible repeat (first | apply Kd.R_alloc | apply Kd.R_drewN | apply Kd.R_drew)); exact HO104.out) (Kd.R_base ho0) hb); have n1_ := Aside0.mk (Kd.R_elder' (by (with_reducible repeat (first | apply Kd.R_alloc | apply Kd.R_drewN | apply Kd.R_drew)); exact HO109.out) (Kd.R_base ho0) hb); have n2_ := Aside0.mk (Kd.R_elder' (by (with_reducible repeat (first | apply Kd.R_alloc | apply Kd.R_drewN | apply Kd.R_drew)); exact HO112.out) (Kd.R_base ho0) hb); have n3_ := Aside0.mk (Kd.R_lower (Kd.R_new' (Kd.R_new' (Kd.R_new' ho0 (Kd.R_lt (by (with_reducible repeat (first | apply Kd.R_alloc | apply Kd.R_drewN | apply Kd.R_drew)); exact HO104.out))) (Kd.R_lt (by (with_reducible repeat (first | apply Kd.R_alloc | apply Kd.R_drewN | apply Kd.R_drew)); exact HO109.out))) (Kd.R_lt (by (with_reducible repeat (first | apply Kd.R_alloc | apply Kd.R_drewN | apply Kd.R_drew)); exact HO112.out))) (below_size (by repeat (first | (with_reducible first | exact HB.out | apply below_alloc | apply pw_below_drewN | apply below_drew1) | exact HB.out)))); have n4_ := Aside0.mk (below_step (by repeat (first | (with_reducible first | exact HB.out | apply below_alloc | apply pw_below_drewN | apply below_drew1) | exact HB.out)) hb); clear HO104; clear HO109; clear HO112; clear HB; have HO104 := n0_; have HO109 := n1_; have HO112 := n2_; have HO117 := n3_; have HB := n4_; clear n0_ n1_ n2_ n3_ n4_; (try clear hb); (try clear hb2); (try clear hk); (try clear hi); (try clear ho0)))
    (try simp only [Act.put, List.setIfInBounds_toArray, List.set_cons_zero, List.set_cons_succ])
    go_cut [54] (fun v54 wc => ∃ (kq : Nat) (x54_8 : Bool), v54 = .bool x54_8 ∧ Aside0 (laws_FnExactNormalComb.j0 kq l0 a1 t105 t106 t107 t110 t113 t114 t115 x54_8 = some r) ∧ Aside0 (kq ≤ k) ∧ Aside0 (Kd.R k52 52 wc w.heap.size (fun k_ => some k_ ≠ ((.slice Ao14 t110.length co14) : Value).ownBlock ∧ some k_ ≠ (v116 : Value).ownBlock) v108 t105) ∧ Aside0 (Kd.R k52 52 wc w.heap.size (fun k_ => some k_ ≠ (v108 : Value).ownBlock ∧ some k_ ≠ (v116 : Value).ownBlock) (.slice Ao14 t110.length co14) t110) ∧ Aside0 (Kd.R k52 52 wc w.heap.size (fun k_ => some k_ ≠ (v108 : Value).ownBlock ∧ some k_ ≠ ((.slice Ao14 t110.length co14) : Value).ownBlock) v116 t113) ∧ Aside0 (Below w.heap.size w wc))
    case first =>
      have H := HC9.out
      clear HC9
      replace H := Option.bind_eq_some_iff.mp H
      obtain ⟨t118, A160, H⟩ := H
      replace H : (if t118 = true then (if t114 = t106 then (laws_FnExactNormalComb.j0 k l0 a1 t105 t106 t107 t110 t113 t114 t115 (t115 != t107)) else (laws_FnExactNormalComb.j0 k l0 a1 t105 t106 t107 t110 t113 t114 t115 true)) else (laws_FnExactNormalComb.j0 k l0 a1 t105 t106 t107 t110 t113 t114 t115 true)) = some r := H
      have A16 := Aside0.mk A160
      clear A160
      by_cases c17 : t118 = true
      · subst c17
        have H1 : (if t114 = t106 then (laws_FnExactNormalComb.j0 k l0 a1 t105 t106 t107 t110 t113 t114 t115 (t115 != t107)) else (laws_FnExactNormalComb.j0 k l0 a1 t105 t106 t107 t110 t113 t114 t115 true)) = some r := by rw [if_pos rfl] at H; exact H
        clear H
        have H := H1
        clear H1
        by_cases c18 : t114 = t106
        · rw [if_pos c18] at H
          have c18b0 : (t114 == t106) = true := beq_iff_eq.mpr c18
          have c18b1 : (t114 != t106) = false := bne_eq_false_iff_eq.mpr c18
          clear c18
          (first | rw [c18b0] | (simp only [i64_w, i32_w]; rw [c18b0]) | skip)
          have H' := Aside0.mk H
          clear H
          obtain ⟨Ao19, co19, eo19⟩ := Kd.R_slice HO117.out
          subst eo19
          obtain ⟨Ao20, co20, eo20⟩ := Kd.R_slice HO109.out
          subst eo20
          go_wp2_with (first | ((with_reducible refine gate_callee (f := 15) rfl ?_); refine goesL_ (some 43) rfl rfl Try.func15 (by kernel_rfl) rfl #[.slice Ao19 t113.length co19, .slice Ao20 t105.length co20] rfl (by (try simp only [List.map_toArray, List.map_cons, List.map_nil]); first | done | rfl | (simp only [List.length_drop, List.length_take]; rfl)) ?_; (with_reducible refine (laws_eqCombS.calls k _ _ t113 _ _ t105 true _ ?side1 ?side2 ?side3 ?side4 A16.out).mono ?_); (case side1 => repeat (first | exact (Kd.R_reads' HO117.out).2.2 | (with_reducible refine Kd.C_alloc ?_ _) | (with_reducible refine Kd.C_drewN ?_ _) | (with_reducible refine Kd.C_drew ?_))); (case side2 => exact (Kd.R_reads' HO117.out).2.1); (case side3 => repeat (first | exact (Kd.R_reads' HO109.out).2.2 | (with_reducible refine Kd.C_alloc ?_ _) | (with_reducible refine Kd.C_drewN ?_ _) | (with_reducible refine Kd.C_drew ?_))); (case side4 => exact (Kd.R_reads' HO109.out).2.1); rintro e w21 ⟨rfl, hb⟩; refine ⟨_, rfl, ?_⟩; have n0_ := Aside0.mk (Kd.R_below (by (with_reducible repeat (first | apply Kd.R_alloc | apply Kd.R_drewN | apply Kd.R_drew)); exact HO104.out) hb); have n1_ := Aside0.mk (Kd.R_below (by (with_reducible repeat (first | apply Kd.R_alloc | apply Kd.R_drewN | apply Kd.R_drew)); exact HO109.out) hb); have n2_ := Aside0.mk (Kd.R_below (by (with_reducible repeat (first | apply Kd.R_alloc | apply Kd.R_drewN | apply Kd.R_drew)); exact HO112.out) hb); have n3_ := Aside0.mk (Kd.R_below (by (with_reducible repeat (first | apply Kd.R_alloc | apply Kd.R_drewN | apply Kd.R_drew)); exact HO117.out) hb); have n4_ := Aside0.mk (below_step (by repeat (first | (with_reducible first | exact HB.out | apply below_alloc | apply pw_below_drewN | apply below_drew1) | exact HB.out)) hb); clear HO104; clear HO109; clear HO112; clear HO117; clear HB; have HO104 := n0_; have HO109 := n1_; have HO112 := n2_; have HO117 := n3_; have HB := n4_; clear n0_ n1_ n2_ n3_ n4_; (try clear hb); (try clear hb2); (try clear hk); (try clear hi)))
          go_meet
          case rel => exact ⟨_, ((t115 != t107)), (by first | rfl | (simp; done) | (simp [*]; done)), H', ⟨by first | omega | exact Nat.le_refl _⟩, ⟨by (with_reducible repeat (first | apply Kd.R_alloc | apply Kd.R_drewN | apply Kd.R_drew)); exact Kd.R_mono HO109.out (fun _ hk => ⟨hk.1.2, hk.2⟩)⟩, ⟨by (with_reducible repeat (first | apply Kd.R_alloc | apply Kd.R_drewN | apply Kd.R_drew)); exact Kd.R_mono HO112.out (fun _ hk => ⟨hk.1.2, hk.2⟩)⟩, ⟨by (with_reducible repeat (first | apply Kd.R_alloc | apply Kd.R_drewN | apply Kd.R_drew)); exact Kd.R_mono HO117.out (fun _ hk => ⟨hk.1.2, hk.2⟩)⟩, ⟨by repeat (first | (with_reducible first | exact HB.out | apply below_alloc | apply pw_below_drewN | apply below_drew1) | exact HB.out)⟩⟩
        · rw [if_neg c18] at H
          have c18b0 : (t114 == t106) = false := beq_eq_false_iff_ne.mpr c18
          have c18b1 : (t114 != t106) = true := bne_iff_ne.mpr c18
          (first | rw [c18b0] | (simp only [i64_w, i32_w]; rw [c18b0]) | skip)
          have H' := Aside0.mk H
          clear H
          obtain ⟨Ao22, co22, eo22⟩ := Kd.R_slice HO117.out
          subst eo22
          obtain ⟨Ao23, co23, eo23⟩ := Kd.R_slice HO109.out
          subst eo23
          go_wp2_with (first | ((with_reducible refine gate_callee (f := 15) rfl ?_); refine goesL_ (some 43) rfl rfl Try.func15 (by kernel_rfl) rfl #[.slice Ao22 t113.length co22, .slice Ao23 t105.length co23] rfl (by (try simp only [List.map_toArray, List.map_cons, List.map_nil]); first | done | rfl | (simp only [List.length_drop, List.length_take]; rfl)) ?_; (with_reducible refine (laws_eqCombS.calls k _ _ t113 _ _ t105 true _ ?side1 ?side2 ?side3 ?side4 A16.out).mono ?_); (case side1 => repeat (first | exact (Kd.R_reads' HO117.out).2.2 | (with_reducible refine Kd.C_alloc ?_ _) | (with_reducible refine Kd.C_drewN ?_ _) | (with_reducible refine Kd.C_drew ?_))); (case side2 => exact (Kd.R_reads' HO117.out).2.1); (case side3 => repeat (first | exact (Kd.R_reads' HO109.out).2.2 | (with_reducible refine Kd.C_alloc ?_ _) | (with_reducible refine Kd.C_drewN ?_ _) | (with_reducible refine Kd.C_drew ?_))); (case side4 => exact (Kd.R_reads' HO109.out).2.1); rintro e w24 ⟨rfl, hb⟩; refine ⟨_, rfl, ?_⟩; have n0_ := Aside0.mk (Kd.R_below (by (with_reducible repeat (first | apply Kd.R_alloc | apply Kd.R_drewN | apply Kd.R_drew)); exact HO104.out) hb); have n1_ := Aside0.mk (Kd.R_below (by (with_reducible repeat (first | apply Kd.R_alloc | apply Kd.R_drewN | apply Kd.R_drew)); exact HO109.out) hb); have n2_ := Aside0.mk (Kd.R_below (by (with_reducible repeat (first | apply Kd.R_alloc | apply Kd.R_drewN | apply Kd.R_drew)); exact HO112.out) hb); have n3_ := Aside0.mk (Kd.R_below (by (with_reducible repeat (first | apply Kd.R_alloc | apply Kd.R_drewN | apply Kd.R_drew)); exact HO117.out) hb); have n4_ := Aside0.mk (below_step (by repeat (first | (with_reducible first | exact HB.out | apply below_alloc | apply pw_below_drewN | apply below_drew1) | exact HB.out)) hb); clear HO104; clear HO109; clear HO112; clear HO117; clear HB; have HO104 := n0_; have HO109 := n1_; have HO112 := n2_; have HO117 := n3_; have HB := n4_; clear n0_ n1_ n2_ n3_ n4_; (try clear hb); (try clear hb2); (try clear hk); (try clear hi)))
          go_meet
          case rel => exact ⟨_, (true), (by first | rfl | (simp; done) | (simp [*]; done)), H', ⟨by first | omega | exact Nat.le_refl _⟩, ⟨by (with_reducible repeat (first | apply Kd.R_alloc | apply Kd.R_drewN | apply Kd.R_drew)); exact Kd.R_mono HO109.out (fun _ hk => ⟨hk.1.2, hk.2⟩)⟩, ⟨by (with_reducible repeat (first | apply Kd.R_alloc | apply Kd.R_drewN | apply Kd.R_drew)); exact Kd.R_mono HO112.out (fun _ hk => ⟨hk.1.2, hk.2⟩)⟩, ⟨by (with_reducible repeat (first | apply Kd.R_alloc | apply Kd.R_drewN | apply Kd.R_drew)); exact Kd.R_mono HO117.out (fun _ hk => ⟨hk.1.2, hk.2⟩)⟩, ⟨by repeat (first | (with_reducible first | exact HB.out | apply below_alloc | apply pw_below_drewN | apply below_drew1) | exact HB.out)⟩⟩
      · replace c17 := Bool.eq_false_iff.mpr c17
        subst c17
        have H1 : (laws_FnExactNormalComb.j0 k l0 a1 t105 t106 t107 t110 t113 t114 t115 true) = some r := by rw [if_neg (show ¬ (false = true) by decide)] at H; exact H
        clear H
        have H := H1
        clear H1
        have H' := Aside0.mk H
        clear H
        obtain ⟨Ao25, co25, eo25⟩ := Kd.R_slice HO117.out
        subst eo25
        obtain ⟨Ao26, co26, eo26⟩ := Kd.R_slice HO109.out
        subst eo26
        go_wp2_with (first | ((with_reducible refine gate_callee (f := 15) rfl ?_); refine goesL_ (some 43) rfl rfl Try.func15 (by kernel_rfl) rfl #[.slice Ao25 t113.length co25, .slice Ao26 t105.length co26] rfl (by (try simp only [List.map_toArray, List.map_cons, List.map_nil]); first | done | rfl | (simp only [List.length_drop, List.length_take]; rfl)) ?_; (with_reducible refine (laws_eqCombS.calls k _ _ t113 _ _ t105 false _ ?side1 ?side2 ?side3 ?side4 A16.out).mono ?_); (case side1 => repeat (first | exact (Kd.R_reads' HO117.out).2.2 | (with_reducible refine Kd.C_alloc ?_ _) | (with_reducible refine Kd.C_drewN ?_ _) | (with_reducible refine Kd.C_drew ?_))); (case side2 => exact (Kd.R_reads' HO117.out).2.1); (case side3 => repeat (first | exact (Kd.R_reads' HO109.out).2.2 | (with_reducible refine Kd.C_alloc ?_ _) | (with_reducible refine Kd.C_drewN ?_ _) | (with_reducible refine Kd.C_drew ?_))); (case side4 => exact (Kd.R_reads' HO109.out).2.1); rintro e w27 ⟨rfl, hb⟩; refine ⟨_, rfl, ?_⟩; have n0_ := Aside0.mk (Kd.R_below (by (with_reducible repeat (first | apply Kd.R_alloc | apply Kd.R_drewN | apply Kd.R_drew)); exact HO104.out) hb); have n1_ := Aside0.mk (Kd.R_below (by (with_reducible repeat (first | apply Kd.R_alloc | apply Kd.R_drewN | apply Kd.R_drew)); exact HO109.out) hb); have n2_ := Aside0.mk (Kd.R_below (by (with_reducible repeat (first | apply Kd.R_alloc | apply Kd.R_drewN | apply Kd.R_drew)); exact HO112.out) hb); have n3_ := Aside0.mk (Kd.R_below (by (with_reducible repeat (first | apply Kd.R_alloc | apply Kd.R_drewN | apply Kd.R_drew)); exact HO117.out) hb); have n4_ := Aside0.mk (below_step (by repeat (first | (with_reducible first | exact HB.out | apply below_alloc | apply pw_below_drewN | apply below_drew1) | exact HB.out)) hb); clear HO104; clear HO109; clear HO112; clear HO117; clear HB; have HO104 := n0_; have HO109 := n1_; have HO112 := n2_; have HO117 := n3_; have HB := n4_; clear n0_ n1_ n2_ n3_ n4_; (try clear hb); (try clear hb2); (try clear hk); (try clear hi)))
        go_meet
        case rel => exact ⟨_, (true), (by first | rfl | (simp; done) | (simp [*]; done)), H', ⟨by first | omega | exact Nat.le_refl _⟩, ⟨by (with_reducible repeat (first | apply Kd.R_alloc | apply Kd.R_drewN | apply Kd.R_drew)); exact Kd.R_mono HO109.out (fun _ hk => ⟨hk.1.2, hk.2⟩)⟩, ⟨by (with_reducible repeat (first | apply Kd.R_alloc | apply Kd.R_drewN | apply Kd.R_drew)); exact Kd.R_mono HO112.out (fun _ hk => ⟨hk.1.2, hk.2⟩)⟩, ⟨by (with_reducible repeat (first | apply Kd.R_alloc | apply Kd.R_drewN | apply Kd.R_drew)); exact Kd.R_mono HO117.out (fun _ hk => ⟨hk.1.2, hk.2⟩)⟩, ⟨by repeat (first | (with_reducible first | exact HB.out | apply below_alloc | apply pw_below_drewN | apply below_drew1) | exact HB.out)⟩⟩
    case rest =>
      clear HC9
      try clear c1
      try clear p2
      try clear c3
      try clear c4
      try clear c4b0
      try clear c8
      try clear c11
      try clear c13
      try clear c15
      try clear c17
      try clear c18
      try clear c18b0
      try clear c18b1
      obtain ⟨kq, x54_8, rfl, HA, HJ8, HO_6, HO_9, HO_10, HB⟩ := hcut
      cases kq with
      | zero => exact absurd HA.out (by simp [laws_FnExactNormalComb.j0])
      | succ kj8 =>
        have H := HA.out
        clear HA
        simp only [laws_FnExactNormalComb.j0] at H
        by_cases c28 : x54_8 = true
        · subst c28
          have H1 : (some false) = some r := by rw [if_pos rfl] at H; exact H
          clear H
          have H := H1
          clear H1
          obtain rfl := Option.some.inj H
          go_wp2
          go_ret
          exact ⟨by first | rfl | (simp [errW_none, errW_some] <;> rfl) | (simp [*, errW_none, errW_some] <;> rfl), by repeat (first | (with_reducible first | exact HB.out | apply below_alloc | apply pw_below_drewN | apply below_drew1) | exact HB.out)⟩
        · replace c28 := Bool.eq_false_iff.mpr c28
          subst c28
          have H1 : ((laws_toCombS.f kj8 l0).bind fun t119 => ((laws_eqCombS.f kj8 t110 t119).bind fun t122 => (if t122 = true then ((laws_markCombS.f kj8 t110 1).bind fun bt123 => (if bt123.1 < 0 then (laws_FnExactNormalComb.j1 kj8 l0 a1 t105 t106 t107 t113 true) else ((laws_eqCombS.f kj8 t113 t105).bind fun t125 => (if t125 = true then (if t114 = t106 then (laws_FnExactNormalComb.j1 kj8 l0 a1 t105 t106 t107 t113 (t115 != t107)) else (laws_FnExactNormalComb.j1 kj8 l0 a1 t105 t106 t107 t113 true)) else (laws_FnExactNormalComb.j1 kj8 l0 a1 t105 t106 t107 t113 true))))) else (some false)))) = some r := by rw [if_neg (show ¬ (false = true) by decide)] at H; exact H
          clear H
          have H := H1
          clear H1
          replace H := Option.bind_eq_some_iff.mp H
          obtain ⟨t119, A290, H⟩ := H
          replace H : ((laws_eqCombS.f kj8 t110 t119).bind fun t122 => (if t122 = true then ((laws_markCombS.f kj8 t110 1).bind fun bt123 => (if bt123.1 < 0 then (laws_FnExactNormalComb.j1 kj8 l0 a1 t105 t106 t107 t113 true) else ((laws_eqCombS.f kj8 t113 t105).bind fun t125 => (if t125 = true then (if t114 = t106 then (laws_FnExactNormalComb.j1 kj8 l0 a1 t105 t106 t107 t113 (t115 != t107)) else (laws_FnExactNormalComb.j1 kj8 l0 a1 t105 t106 t107 t113 true)) else (laws_FnExactNormalComb.j1 kj8 l0 a1 t105 t106 t107 t113 true))))) else (some false))) = some r := H
          have A29 := Aside0.mk A290
          clear A290
          replace H := Option.bind_eq_some_iff.mp H
          obtain ⟨t122, A300, H⟩ := H
          replace H : (if t122 = true then ((laws_markCombS.f kj8 t110 1).bind fun bt123 => (if bt123.1 < 0 then (laws_FnExactNormalComb.j1 kj8 l0 a1 t105 t106 t107 t113 true) else ((laws_eqCombS.f kj8 t113 t105).bind fun t125 => (if t125 = true then (if t114 = t106 then (laws_FnExactNormalComb.j1 kj8 l0 a1 t105 t106 t107 t113 (t115 != t107)) else (laws_FnExactNormalComb.j1 kj8 l0 a1 t105 t106 t107 t113 true)) else (laws_FnExactNormalComb.j1 kj8 l0 a1 t105 t106 t107 t113 true))))) else (some false)) = some r := H
          have A30 := Aside0.mk A300
          clear A300
          by_cases c31 : t122 = true
          · subst c31
            have H1 : ((laws_markCombS.f kj8 t110 1).bind fun bt123 => (if bt123.1 < 0 then (laws_FnExactNormalComb.j1 kj8 l0 a1 t105 t106 t107 t113 true) else ((laws_eqCombS.f kj8 t113 t105).bind fun t125 => (if t125 = true then (if t114 = t106 then (laws_FnExactNormalComb.j1 kj8 l0 a1 t105 t106 t107 t113 (t115 != t107)) else (laws_FnExactNormalComb.j1 kj8 l0 a1 t105 t106 t107 t113 true)) else (laws_FnExactNormalComb.j1 kj8 l0 a1 t105 t106 t107 t113 true))))) = some r := by rw [if_pos rfl] at H; exact H
            clear H
            have H := H1
            clear H1
            replace H := Option.bind_eq_some_iff.mp H
            obtain ⟨⟨t123, t124⟩, A320, H⟩ := H
            replace H : (if t123 < 0 then (laws_FnExactNormalComb.j1 kj8 l0 a1 t105 t106 t107 t113 true) else ((laws_eqCombS.f kj8 t113 t105).bind fun t125 => (if t125 = true then (if t114 = t106 then (laws_FnExactNormalComb.j1 kj8 l0 a1 t105 t106 t107 t113 (t115 != t107)) else (laws_FnExactNormalComb.j1 kj8 l0 a1 t105 t106 t107 t113 true)) else (laws_FnExactNormalComb.j1 kj8 l0 a1 t105 t106 t107 t113 true)))) = some r := H
            have A32 := Aside0.mk A320
            clear A320
            have HC33 := Aside0.mk H
            clear H
            go_upto_region 14 with (first | ((with_reducible refine gate_callee (f := 13) rfl ?_); refine goesL_ (some 57) rfl rfl Try.func13 (by kernel_rfl) rfl #[.slice A0 l0.length c0] rfl (by (try simp only [List.map_toArray, List.map_cons, List.map_nil]); first | done | rfl | (simp only [List.length_drop, List.length_take]; rfl)) ?_; (with_reducible refine (laws_toCombS.calls kj8 _ _ l0 t119 _ ?side1 ?side2 A29.out).mono ?_); (case side1 => repeat (first | exact (Kd.C_below HR0.out HB.out) | (with_reducible refine Kd.C_alloc ?_ _) | (with_reducible refine Kd.C_drewN ?_ _) | (with_reducible refine Kd.C_drew ?_))); (case side2 => exact HC0.out); rintro e w34 ⟨v120, rfl, ho0, hb⟩; refine ⟨_, rfl, ?_⟩; have n0_ := Aside0.mk (Kd.R_elder' (by (with_reducible repeat (first | apply Kd.R_alloc | apply Kd.R_drewN | apply Kd.R_drew)); exact HO_6.out) (Kd.R_base ho0) hb); have n1_ := Aside0.mk (Kd.R_elder' (by (with_reducible repeat (first | apply Kd.R_alloc | apply Kd.R_drewN | apply Kd.R_drew)); exact HO_9.out) (Kd.R_base ho0) hb); have n2_ := Aside0.mk (Kd.R_elder' (by (with_reducible repeat (first | apply Kd.R_alloc | apply Kd.R_drewN | apply Kd.R_drew)); exact HO_10.out) (Kd.R_base ho0) hb); have n3_ := Aside0.mk (Kd.R_lower (Kd.R_new' (Kd.R_new' (Kd.R_new' ho0 (Kd.R_lt (by (with_reducible repeat (first | apply Kd.R_alloc | apply Kd.R_drewN | apply Kd.R_drew)); exact HO_6.out))) (Kd.R_lt (by (with_reducible repeat (first | apply Kd.R_alloc | apply Kd.R_drewN | apply Kd.R_drew)); exact HO_9.out))) (Kd.R_lt (by (with_reducible repeat (first | apply Kd.R_alloc | apply Kd.R_drewN | apply Kd.R_drew)); exact HO_10.out))) (below_size (by repeat (first | (with_reducible first | exact HB.out | apply below_alloc | apply pw_below_drewN | apply below_drew1) | exact HB.out)))); have n4_ := Aside0.mk (below_step (by repeat (first | (with_reducible first | exact HB.out | apply below_alloc | apply pw_below_drewN | apply below_drew1) | exact HB.out)) hb); clear HO_6; clear HO_9; clear HO_10; clear HB; have HO_6 := n0_; have HO_9 := n1_; have HO_10 := n2_; have HO121 := n3_; have HB := n4_; clear n0_ n1_ n2_ n3_ n4_; (try clear hb); (try clear hb2); (try clear hk); (try clear hi); (try clear ho0); obtain ⟨Ao35, co35, eo35⟩ := Kd.R_slice HO121.out; subst eo35) | ((with_reducible refine gate_callee (f := 15) rfl ?_); refine goesL_ (some 58) rfl rfl Try.func15 (by kernel_rfl) rfl #[.slice Ao14 t110.length co14, .slice Ao35 t119.length co35] rfl (by (try simp only [List.map_toArray, List.map_cons, List.map_nil]); first | done | rfl | (simp only [List.length_drop, List.length_take]; rfl)) ?_; (with_reducible refine (laws_eqCombS.calls kj8 _ _ t110 _ _ t119 true _ ?side1 ?side2 ?side3 ?side4 A30.out).mono ?_); (case side1 => repeat (first | exact (Kd.R_reads' HO_9.out).2.2 | (with_reducible refine Kd.C_alloc ?_ _) | (with_reducible refine Kd.C_drewN ?_ _) | (with_reducible refine Kd.C_drew ?_))); (case side2 => exact (Kd.R_reads' HO_9.out).2.1); (case side3 => repeat (first | exact (Kd.R_reads' HO121.out).2.2 | (with_reducible refine Kd.C_alloc ?_ _) | (with_reducible refine Kd.C_drewN ?_ _) | (with_reducible refine Kd.C_drew ?_))); (case side4 => exact (Kd.R_reads' HO121.out).2.1); rintro e w36 ⟨rfl, hb⟩; refine ⟨_, rfl, ?_⟩; have n0_ := Aside0.mk (Kd.R_below (by (with_reducible repeat (first | apply Kd.R_alloc | apply Kd.R_drewN | apply Kd.R_drew)); exact HO_6.out) hb); have n1_ := Aside0.mk (Kd.R_below (by (with_reducible repeat (first | apply Kd.R_alloc | apply Kd.R_drewN | apply Kd.R_drew)); exact HO_9.out) hb); have n2_ := Aside0.mk (Kd.R_below (by (with_reducible repeat (first | apply Kd.R_alloc | apply Kd.R_drewN | apply Kd.R_drew)); exact HO_10.out) hb); have n3_ := Aside0.mk (Kd.R_below (by (with_reducible repeat (first | apply Kd.R_alloc | apply Kd.R_drewN | apply Kd.R_drew)); exact HO121.out) hb); have n4_ := Aside0.mk (below_step (by repeat (first | (with_reducible first | exact HB.out | apply below_alloc | apply pw_below_drewN | apply below_drew1) | exact HB.out)) hb); clear HO_6; clear HO_9; clear HO_10; clear HO121; clear HB; have HO_6 := n0_; have HO_9 := n1_; have HO_10 := n2_; have HO121 := n3_; have HB := n4_; clear n0_ n1_ n2_ n3_ n4_; (try clear hb); (try clear hb2); (try clear hk); (try clear hi)) | ((with_reducible refine gate_callee (f := 29) rfl ?_); refine goesL_ (some 62) rfl rfl Try.func29 (by kernel_rfl) rfl #[.slice Ao14 t110.length co14, .int .i64 1] rfl (by (try simp only [List.map_toArray, List.map_cons, List.map_nil]); first | done | rfl | (simp only [List.length_drop, List.length_take]; rfl)) ?_; (with_reducible refine (laws_markCombS.calls kj8 (fun k_ => some k_ = (.slice Ao14 t110.length co14 : Value).ownBlock) (.slice Ao14 t110.length co14) t110 1 t123 t124 w _ ?side1 ?side2 A32.out).mono ?_); (case side1 => repeat (first | (with_reducible first | exact HB.out | apply below_alloc | apply pw_below_drewN | apply below_drew1) | exact HB.out)); (case side2 => exact Kd.R_tight rfl HO_9.out); rintro e w37 ⟨rfl, hy0, hb, hkp⟩; refine ⟨_, rfl, ?_⟩; have n0_ := Aside0.mk (Kd.R_mono (ok' := fun k_ => some k_ ≠ (.slice Ao14 t110.length co14 : Value).ownBlock ∧ some k_ ≠ (v116 : Value).ownBlock ∧ some k_ ≠ (.slice Ao35 t119.length co35 : Value).ownBlock) (Kd.R_keptB (HO_6.out) hkp (fun k_ hk_ hs_ => (hk_.1.1) hs_)) (fun k_ hk_ => ⟨hk_.1.1.1, hk_.1.1.2, hk_.1.2⟩)); have n1_ := Aside0.mk (Kd.R_reok rfl hy0 (fun k_ e_ => HO_9.out.1 k_ e_)); have n2_ := Aside0.mk (Kd.R_mono (ok' := fun k_ => some k_ ≠ (v108 : Value).ownBlock ∧ some k_ ≠ (.slice Ao14 t110.length co14 : Value).ownBlock ∧ some k_ ≠ (.slice Ao35 t119.length co35 : Value).ownBlock) (Kd.R_keptB (HO_10.out) hkp (fun k_ hk_ hs_ => (hk_.1.2) hs_)) (fun k_ hk_ => ⟨hk_.1.1.1, hk_.1.1.2, hk_.1.2⟩)); have n3_ := Aside0.mk (Kd.R_mono (ok' := fun k_ => some k_ ≠ (v108 : Value).ownBlock ∧ some k_ ≠ (.slice Ao14 t110.length co14 : Value).ownBlock ∧ some k_ ≠ (v116 : Value).ownBlock) (Kd.R_keptB (HO121.out) hkp (fun k_ hk_ hs_ => (hk_.1.2) hs_)) (fun k_ hk_ => ⟨hk_.1.1.1.2, hk_.1.1.2, hk_.1.2⟩)); have n4_ := Aside0.mk (hb); clear HO_6; clear HO_9; clear HO_10; clear HO121; clear HB; have HO_6 := n0_; have HO_9 := n1_; have HO_10 := n2_; have HO121 := n3_; have HB := n4_; clear n0_ n1_ n2_ n3_ n4_; (try clear hb); (try clear hkp); (try clear hy0)))
            (try simp only [Act.put, List.setIfInBounds_toArray, List.set_cons_zero, List.set_cons_succ])
            go_cut [80] (fun v80 wc => ∃ (kq : Nat) (x80_32 : Bool), v80 = .bool x80_32 ∧ Aside0 (laws_FnExactNormalComb.j1 kq l0 a1 t105 t106 t107 t113 x80_32 = some r) ∧ Aside0 (kq ≤ kj8) ∧ Aside0 (Kd.R k52 52 wc w.heap.size (fun k_ => some k_ ≠ (v116 : Value).ownBlock) v108 t105) ∧ Aside0 (Kd.R k52 52 wc w.heap.size (fun k_ => some k_ ≠ (v108 : Value).ownBlock) v116 t113) ∧ Aside0 (Below w.heap.size w wc))
            case first =>
              have H := HC33.out
              clear HC33
              by_cases c38 : t123 < 0
              · rw [if_pos c38] at H
                have c38b0 : decide (t123 < 0) = true := decide_eq_true c38
                clear c38
                (first | rw [c38b0] | (simp only [i64_w, i32_w]; rw [c38b0]) | skip)
                have H' := Aside0.mk H
                clear H
                go_wp2
                go_meet
                case rel => exact ⟨_, (true), (by first | rfl | (simp; done) | (simp [*]; done)), H', ⟨by have := HJ8.out; first | omega | exact Nat.le_refl _⟩, ⟨by (with_reducible repeat (first | apply Kd.R_alloc | apply Kd.R_drewN | apply Kd.R_drew)); exact Kd.R_mono HO_6.out (fun _ hk => hk.2.1)⟩, ⟨by (with_reducible repeat (first | apply Kd.R_alloc | apply Kd.R_drewN | apply Kd.R_drew)); exact Kd.R_mono HO_10.out (fun _ hk => hk.1)⟩, ⟨by repeat (first | (with_reducible first | exact HB.out | apply below_alloc | apply pw_below_drewN | apply below_drew1) | exact HB.out)⟩⟩
              · rw [if_neg c38] at H
                have c38b0 : decide (t123 < 0) = false := decide_eq_false c38
                clear c38
                (first | rw [c38b0] | (simp only [i64_w, i32_w]; rw [c38b0]) | skip)
                replace H := Option.bind_eq_some_iff.mp H
                obtain ⟨t125, A390, H⟩ := H
                replace H : (if t125 = true then (if t114 = t106 then (laws_FnExactNormalComb.j1 kj8 l0 a1 t105 t106 t107 t113 (t115 != t107)) else (laws_FnExactNormalComb.j1 kj8 l0 a1 t105 t106 t107 t113 true)) else (laws_FnExactNormalComb.j1 kj8 l0 a1 t105 t106 t107 t113 true)) = some r := H
                have A39 := Aside0.mk A390
                clear A390
                by_cases c40 : t125 = true
                · subst c40
                  have H1 : (if t114 = t106 then (laws_FnExactNormalComb.j1 kj8 l0 a1 t105 t106 t107 t113 (t115 != t107)) else (laws_FnExactNormalComb.j1 kj8 l0 a1 t105 t106 t107 t113 true)) = some r := by rw [if_pos rfl] at H; exact H
                  clear H
                  have H := H1
                  clear H1
                  by_cases c41 : t114 = t106
                  · rw [if_pos c41] at H
                    have c41b0 : (t114 == t106) = true := beq_iff_eq.mpr c41
                    have c41b1 : (t114 != t106) = false := bne_eq_false_iff_eq.mpr c41
                    clear c41
                    have H' := Aside0.mk H
                    clear H
                    obtain ⟨Ao42, co42, eo42⟩ := Kd.R_slice HO_10.out
                    subst eo42
                    obtain ⟨Ao43, co43, eo43⟩ := Kd.R_slice HO_6.out
                    subst eo43
                    go_wp2_with (first | (go_at_call 15; (with_reducible refine (laws_eqCombS.calls kj8 _ _ t113 _ _ t105 true _ ?side1 ?side2 ?side3 ?side4 A39.out).mono ?_); (case side1 => repeat (first | exact (Kd.R_reads' HO_10.out).2.2 | (with_reducible refine Kd.C_alloc ?_ _) | (with_reducible refine Kd.C_drewN ?_ _) | (with_reducible refine Kd.C_drew ?_))); (case side2 => exact (Kd.R_reads' HO_10.out).2.1); (case side3 => repeat (first | exact (Kd.R_reads' HO_6.out).2.2 | (with_reducible refine Kd.C_alloc ?_ _) | (with_reducible refine Kd.C_drewN ?_ _) | (with_reducible refine Kd.C_drew ?_))); (case side4 => exact (Kd.R_reads' HO_6.out).2.1); rintro e w44 ⟨rfl, hb⟩; have n0_ := Aside0.mk (Kd.R_below (by (with_reducible repeat (first | apply Kd.R_alloc | apply Kd.R_drewN | apply Kd.R_drew)); exact HO_6.out) hb); have n1_ := Aside0.mk (Kd.R_below (by (with_reducible repeat (first | apply Kd.R_alloc | apply Kd.R_drewN | apply Kd.R_drew)); exact HO_9.out) hb); have n2_ := Aside0.mk (Kd.R_below (by (with_reducible repeat (first | apply Kd.R_alloc | apply Kd.R_drewN | apply Kd.R_drew)); exact HO_10.out) hb); have n3_ := Aside0.mk (Kd.R_below (by (with_reducible repeat (first | apply Kd.R_alloc | apply Kd.R_drewN | apply Kd.R_drew)); exact HO121.out) hb); have n4_ := Aside0.mk (below_step (by repeat (first | (with_reducible first | exact HB.out | apply below_alloc | apply pw_below_drewN | apply below_drew1) | exact HB.out)) hb); clear HO_6; clear HO_9; clear HO_10; clear HO121; clear HB; have HO_6 := n0_; have HO_9 := n1_; have HO_10 := n2_; have HO121 := n3_; have HB := n4_; clear n0_ n1_ n2_ n3_ n4_; (try clear hb); (try clear hb2); (try clear hk); (try clear hi)))
                    go_meet
                    case rel => exact ⟨_, ((t115 != t107)), (by first | rfl | (simp; done) | (simp [*]; done)), H', ⟨by have := HJ8.out; first | omega | exact Nat.le_refl _⟩, ⟨by (with_reducible repeat (first | apply Kd.R_alloc | apply Kd.R_drewN | apply Kd.R_drew)); exact Kd.R_mono HO_6.out (fun _ hk => hk.2.1)⟩, ⟨by (with_reducible repeat (first | apply Kd.R_alloc | apply Kd.R_drewN | apply Kd.R_drew)); exact Kd.R_mono HO_10.out (fun _ hk => hk.1)⟩, ⟨by repeat (first | (with_reducible first | exact HB.out | apply below_alloc | apply pw_below_drewN | apply below_drew1) | exact HB.out)⟩⟩
                  · rw [if_neg c41] at H
                    have c41b0 : (t114 == t106) = false := beq_eq_false_iff_ne.mpr c41
                    have c41b1 : (t114 != t106) = true := bne_iff_ne.mpr c41
                    have H' := Aside0.mk H
                    clear H
                    obtain ⟨Ao45, co45, eo45⟩ := Kd.R_slice HO_10.out
                    subst eo45
                    obtain ⟨Ao46, co46, eo46⟩ := Kd.R_slice HO_6.out
                    subst eo46
                    go_wp2_with (first | (go_at_call 15; (with_reducible refine (laws_eqCombS.calls kj8 _ _ t113 _ _ t105 true _ ?side1 ?side2 ?side3 ?side4 A39.out).mono ?_); (case side1 => repeat (first | exact (Kd.R_reads' HO_10.out).2.2 | (with_reducible refine Kd.C_alloc ?_ _) | (with_reducible refine Kd.C_drewN ?_ _) | (with_reducible refine Kd.C_drew ?_))); (case side2 => exact (Kd.R_reads' HO_10.out).2.1); (case side3 => repeat (first | exact (Kd.R_reads' HO_6.out).2.2 | (with_reducible refine Kd.C_alloc ?_ _) | (with_reducible refine Kd.C_drewN ?_ _) | (with_reducible refine Kd.C_drew ?_))); (case side4 => exact (Kd.R_reads' HO_6.out).2.1); rintro e w47 ⟨rfl, hb⟩; have n0_ := Aside0.mk (Kd.R_below (by (with_reducible repeat (first | apply Kd.R_alloc | apply Kd.R_drewN | apply Kd.R_drew)); exact HO_6.out) hb); have n1_ := Aside0.mk (Kd.R_below (by (with_reducible repeat (first | apply Kd.R_alloc | apply Kd.R_drewN | apply Kd.R_drew)); exact HO_9.out) hb); have n2_ := Aside0.mk (Kd.R_below (by (with_reducible repeat (first | apply Kd.R_alloc | apply Kd.R_drewN | apply Kd.R_drew)); exact HO_10.out) hb); have n3_ := Aside0.mk (Kd.R_below (by (with_reducible repeat (first | apply Kd.R_alloc | apply Kd.R_drewN | apply Kd.R_drew)); exact HO121.out) hb); have n4_ := Aside0.mk (below_step (by repeat (first | (with_reducible first | exact HB.out | apply below_alloc | apply pw_below_drewN | apply below_drew1) | exact HB.out)) hb); clear HO_6; clear HO_9; clear HO_10; clear HO121; clear HB; have HO_6 := n0_; have HO_9 := n1_; have HO_10 := n2_; have HO121 := n3_; have HB := n4_; clear n0_ n1_ n2_ n3_ n4_; (try clear hb); (try clear hb2); (try clear hk); (try clear hi)))
                    go_meet
                    case rel => exact ⟨_, (true), (by first | rfl | (simp; done) | (simp [*]; done)), H', ⟨by have := HJ8.out; first | omega | exact Nat.le_refl _⟩, ⟨by (with_reducible repeat (first | apply Kd.R_alloc | apply Kd.R_drewN | apply Kd.R_drew)); exact Kd.R_mono HO_6.out (fun _ hk => hk.2.1)⟩, ⟨by (with_reducible repeat (first | apply Kd.R_alloc | apply Kd.R_drewN | apply Kd.R_drew)); exact Kd.R_mono HO_10.out (fun _ hk => hk.1)⟩, ⟨by repeat (first | (with_reducible first | exact HB.out | apply below_alloc | apply pw_below_drewN | apply below_drew1) | exact HB.out)⟩⟩
                · replace c40 := Bool.eq_false_iff.mpr c40
                  subst c40
                  have H1 : (laws_FnExactNormalComb.j1 kj8 l0 a1 t105 t106 t107 t113 true) = some r := by rw [if_neg (show ¬ (false = true) by decide)] at H; exact H
                  clear H
                  have H := H1
                  clear H1
                  have H' := Aside0.mk H
                  clear H
                  obtain ⟨Ao48, co48, eo48⟩ := Kd.R_slice HO_10.out
                  subst eo48
                  obtain ⟨Ao49, co49, eo49⟩ := Kd.R_slice HO_6.out
                  subst eo49
                  go_wp2_with (first | (go_at_call 15; (with_reducible refine (laws_eqCombS.calls kj8 _ _ t113 _ _ t105 false _ ?side1 ?side2 ?side3 ?side4 A39.out).mono ?_); (case side1 => repeat (first | exact (Kd.R_reads' HO_10.out).2.2 | (with_reducible refine Kd.C_alloc ?_ _) | (with_reducible refine Kd.C_drewN ?_ _) | (with_reducible refine Kd.C_drew ?_))); (case side2 => exact (Kd.R_reads' HO_10.out).2.1); (case side3 => repeat (first | exact (Kd.R_reads' HO_6.out).2.2 | (with_reducible refine Kd.C_alloc ?_ _) | (with_reducible refine Kd.C_drewN ?_ _) | (with_reducible refine Kd.C_drew ?_))); (case side4 => exact (Kd.R_reads' HO_6.out).2.1); rintro e w50 ⟨rfl, hb⟩; have n0_ := Aside0.mk (Kd.R_below (by (with_reducible repeat (first | apply Kd.R_alloc | apply Kd.R_drewN | apply Kd.R_drew)); exact HO_6.out) hb); have n1_ := Aside0.mk (Kd.R_below (by (with_reducible repeat (first | apply Kd.R_alloc | apply Kd.R_drewN | apply Kd.R_drew)); exact HO_9.out) hb); have n2_ := Aside0.mk (Kd.R_below (by (with_reducible repeat (first | apply Kd.R_alloc | apply Kd.R_drewN | apply Kd.R_drew)); exact HO_10.out) hb); have n3_ := Aside0.mk (Kd.R_below (by (with_reducible repeat (first | apply Kd.R_alloc | apply Kd.R_drewN | apply Kd.R_drew)); exact HO121.out) hb); have n4_ := Aside0.mk (below_step (by repeat (first | (with_reducible first | exact HB.out | apply below_alloc | apply pw_below_drewN | apply below_drew1) | exact HB.out)) hb); clear HO_6; clear HO_9; clear HO_10; clear HO121; clear HB; have HO_6 := n0_; have HO_9 := n1_; have HO_10 := n2_; have HO121 := n3_; have HB := n4_; clear n0_ n1_ n2_ n3_ n4_; (try clear hb); (try clear hb2); (try clear hk); (try clear hi)))
                  go_meet
                  case rel => exact ⟨_, (true), (by first | rfl | (simp; done) | (simp [*]; done)), H', ⟨by have := HJ8.out; first | omega | exact Nat.le_refl _⟩, ⟨by (with_reducible repeat (first | apply Kd.R_alloc | apply Kd.R_drewN | apply Kd.R_drew)); exact Kd.R_mono HO_6.out (fun _ hk => hk.2.1)⟩, ⟨by (with_reducible repeat (first | apply Kd.R_alloc | apply Kd.R_drewN | apply Kd.R_drew)); exact Kd.R_mono HO_10.out (fun _ hk => hk.1)⟩, ⟨by repeat (first | (with_reducible first | exact HB.out | apply below_alloc | apply pw_below_drewN | apply below_drew1) | exact HB.out)⟩⟩
            case rest =>
              clear HC33
              try clear c1
              try clear c2
              try clear p2
              try clear c3
              try clear c4
              try clear c4b0
              try clear c8
              try clear c11
              try clear c13
              try clear c15
              try clear c17
              try clear c18
              try clear c18b0
              try clear c18b1
              try clear c28
              try clear c29
              try clear c31
              try clear c33
              try clear c34
              try clear c38
              try clear c38b0
              try clear c40
              try clear c41
              try clear c41b0
              try clear c41b1
              try clear p2
              obtain ⟨kq, x80_32, rfl, HA, HJ32, HO_6, HO_10, HB⟩ := hcut
              cases kq with
              | zero => exact absurd HA.out (by simp [laws_FnExactNormalComb.j1])
              | succ kj32 =>
                have H := HA.out
                clear HA
                simp only [laws_FnExactNormalComb.j1] at H
                by_cases c51 : x80_32 = true
                · subst c51
                  have H1 : (some false) = some r := by rw [if_pos rfl] at H; exact H
                  clear H
                  have H := H1
                  clear H1
                  obtain rfl := Option.some.inj H
                  go_wp2
                  go_ret
                  exact ⟨by first | rfl | (simp [errW_none, errW_some] <;> rfl) | (simp [*, errW_none, errW_some] <;> rfl), by repeat (first | (with_reducible first | exact HB.out | apply below_alloc | apply pw_below_drewN | apply below_drew1) | exact HB.out)⟩
                · replace c51 := Bool.eq_false_iff.mpr c51
                  subst c51
                  have H1 : ((laws_markCombS.f kj32 t113 1).bind fun bt126 => ((laws_heldCombS.f kj32 bt126.2 1).bind fun t128 => (if t128 < 0 then (some false) else (if t128 = bt126.1 then ((laws_toCombS.f kj32 l0).bind fun t129 => ((impl_NormalComb.f kj32 t129 a1).bind fun bt132 => ((laws_eqCombS.f kj32 bt132.1 t105).bind fun t137 => (if t137 = true then (if bt132.2.1 = t106 then (laws_FnExactNormalComb.j2 kj32 bt126.2 bt126.1 (bt132.2.2 != t107)) else (laws_FnExactNormalComb.j2 kj32 bt126.2 bt126.1 true)) else (laws_FnExactNormalComb.j2 kj32 bt126.2 bt126.1 true))))) else (some false))))) = some r := by rw [if_neg (show ¬ (false = true) by decide)] at H; exact H
                  clear H
                  have H := H1
                  clear H1
                  replace H := Option.bind_eq_some_iff.mp H
                  obtain ⟨⟨t126, t127⟩, A520, H⟩ := H
                  replace H : ((laws_heldCombS.f kj32 t127 1).bind fun t128 => (if t128 < 0 then (some false) else (if t128 = t126 then ((laws_toCombS.f kj32 l0).bind fun t129 => ((impl_NormalComb.f kj32 t129 a1).bind fun bt132 => ((laws_eqCombS.f kj32 bt132.1 t105).bind fun t137 => (if t137 = true then (if bt132.2.1 = t106 then (laws_FnExactNormalComb.j2 kj32 t127 t126 (bt132.2.2 != t107)) else (laws_FnExactNormalComb.j2 kj32 t127 t126 true)) else (laws_FnExactNormalComb.j2 kj32 t127 t126 true))))) else (some false)))) = some r := H
                  have A52 := Aside0.mk A520
                  clear A520
                  replace H := Option.bind_eq_some_iff.mp H
                  obtain ⟨t128, A530, H⟩ := H
                  replace H : (if t128 < 0 then (some false) else (if t128 = t126 then ((laws_toCombS.f kj32 l0).bind fun t129 => ((impl_NormalComb.f kj32 t129 a1).bind fun bt132 => ((laws_eqCombS.f kj32 bt132.1 t105).bind fun t137 => (if t137 = true then (if bt132.2.1 = t106 then (laws_FnExactNormalComb.j2 kj32 t127 t126 (bt132.2.2 != t107)) else (laws_FnExactNormalComb.j2 kj32 t127 t126 true)) else (laws_FnExactNormalComb.j2 kj32 t127 t126 true))))) else (some false))) = some r := H
                  have A53 := Aside0.mk A530
                  clear A530
                  by_cases c54 : t128 < 0
                  · rw [if_pos c54] at H
                    have c54b0 : decide (t128 < 0) = true := decide_eq_true c54
                    clear c54
                    obtain rfl := Option.some.inj H
                    obtain ⟨Ao55, co55, eo55⟩ := Kd.R_slice HO_10.out
                    subst eo55
                    go_wp2_with (first | ((with_reducible refine gate_callee (f := 29) rfl ?_); refine goesL_ (some 83) rfl rfl Try.func29 (by kernel_rfl) rfl #[.slice Ao55 t113.length co55, .int .i64 1] rfl (by (try simp only [List.map_toArray, List.map_cons, List.map_nil]); first | done | rfl | (simp only [List.length_drop, List.length_take]; rfl)) ?_; (with_reducible refine (laws_markCombS.calls kj32 (fun k_ => some k_ = (.slice Ao55 t113.length co55 : Value).ownBlock) (.slice Ao55 t113.length co55) t113 1 t126 t127 w _ ?side1 ?side2 A52.out).mono ?_); (case side1 => repeat (first | (with_reducible first | exact HB.out | apply below_alloc | apply pw_below_drewN | apply below_drew1) | exact HB.out)); (case side2 => exact Kd.R_tight rfl HO_10.out); rintro e w56 ⟨rfl, hy0, hb, hkp⟩; refine ⟨_, rfl, ?_⟩; have n0_ := Aside0.mk (Kd.R_mono (ok' := fun k_ => some k_ ≠ (.slice Ao55 t113.length co55 : Value).ownBlock) (Kd.R_keptB (HO_6.out) hkp (fun k_ hk_ hs_ => (hk_) hs_)) (fun k_ hk_ => hk_.1)); have n1_ := Aside0.mk (Kd.R_reok rfl hy0 (fun k_ e_ => HO_10.out.1 k_ e_)); have n2_ := Aside0.mk (hb); clear HO_6; clear HO_10; clear HB; have HO_6 := n0_; have HO_10 := n1_; have HB := n2_; clear n0_ n1_ n2_; (try clear hb); (try clear hkp); (try clear hy0)) | ((with_reducible refine gate_callee (f := 30) rfl ?_); refine goesL_ (some 86) rfl rfl Try.func30 (by kernel_rfl) rfl #[.slice Ao55 t127.length co55, .int .i64 1] rfl (by (try simp only [List.map_toArray, List.map_cons, List.map_nil]); first | done | (rw [show t127.length = t113.length from (Kd.R_reads' HO_10.out).1.symm] <;> rfl) | rfl | (simp only [List.length_drop, List.length_take]; rfl)) ?_; (with_reducible refine (laws_heldCombS.calls kj32 _ _ t127 1 t128 _ ?side1 ?side2 A53.out).mono ?_); (case side1 => repeat (first | exact (Kd.R_reads' HO_10.out).2.2 | (with_reducible refine Kd.C_alloc ?_ _) | (with_reducible refine Kd.C_drewN ?_ _) | (with_reducible refine Kd.C_drew ?_))); (case side2 => rw [show t127.length = t113.length from (Kd.R_reads' HO_10.out).1.symm]; exact (Kd.R_reads' HO_10.out).2.1); rintro e w' ⟨rfl, ⟨nd, rfl⟩⟩; refine ⟨_, rfl, ?_⟩))
                    go_ret
                    exact ⟨by first | rfl | (simp [errW_none, errW_some] <;> rfl) | (simp [*, errW_none, errW_some] <;> rfl), by repeat (first | (with_reducible first | exact HB.out | apply below_alloc | apply pw_below_drewN | apply below_drew1) | exact HB.out)⟩
                  · rw [if_neg c54] at H
                    have c54b0 : decide (t128 < 0) = false := decide_eq_false c54
                    clear c54
                    by_cases c57 : t128 = t126
                    · rw [if_pos c57] at H
                      have c57b0 : (t128 == t126) = true := beq_iff_eq.mpr c57
                      have c57b1 : (t128 != t126) = false := bne_eq_false_iff_eq.mpr c57
                      clear c57
                      replace H := Option.bind_eq_some_iff.mp H
                      obtain ⟨t129, A580, H⟩ := H
                      replace H : ((impl_NormalComb.f kj32 t129 a1).bind fun bt132 => ((laws_eqCombS.f kj32 bt132.1 t105).bind fun t137 => (if t137 = true then (if bt132.2.1 = t106 then (laws_FnExactNormalComb.j2 kj32 t127 t126 (bt132.2.2 != t107)) else (laws_FnExactNormalComb.j2 kj32 t127 t126 true)) else (laws_FnExactNormalComb.j2 kj32 t127 t126 true)))) = some r := H
                      have A58 := Aside0.mk A580
                      clear A580
                      replace H := Option.bind_eq_some_iff.mp H
                      obtain ⟨⟨t132, t133, t134⟩, A590, H⟩ := H
                      replace H : ((laws_eqCombS.f kj32 t132 t105).bind fun t137 => (if t137 = true then (if t133 = t106 then (laws_FnExactNormalComb.j2 kj32 t127 t126 (t134 != t107)) else (laws_FnExactNormalComb.j2 kj32 t127 t126 true)) else (laws_FnExactNormalComb.j2 kj32 t127 t126 true))) = some r := H
                      have A59 := Aside0.mk A590
                      clear A590
                      have HC60 := Aside0.mk H
                      clear H
                      obtain ⟨Ao61, co61, eo61⟩ := Kd.R_slice HO_10.out
                      subst eo61
                      go_upto_region 25 with (first | ((with_reducible refine gate_callee (f := 29) rfl ?_); refine goesL_ (some 83) rfl rfl Try.func29 (by kernel_rfl) rfl #[.slice Ao61 t113.length co61, .int .i64 1] rfl (by (try simp only [List.map_toArray, List.map_cons, List.map_nil]); first | done | rfl | (simp only [List.length_drop, List.length_take]; rfl)) ?_; (with_reducible refine (laws_markCombS.calls kj32 (fun k_ => some k_ = (.slice Ao61 t113.length co61 : Value).ownBlock) (.slice Ao61 t113.length co61) t113 1 t126 t127 w _ ?side1 ?side2 A52.out).mono ?_); (case side1 => repeat (first | (with_reducible first | exact HB.out | apply below_alloc | apply pw_below_drewN | apply below_drew1) | exact HB.out)); (case side2 => exact Kd.R_tight rfl HO_10.out); rintro e w62 ⟨rfl, hy0, hb, hkp⟩; refine ⟨_, rfl, ?_⟩; have n0_ := Aside0.mk (Kd.R_mono (ok' := fun k_ => some k_ ≠ (.slice Ao61 t113.length co61 : Value).ownBlock) (Kd.R_keptB (HO_6.out) hkp (fun k_ hk_ hs_ => (hk_) hs_)) (fun k_ hk_ => hk_.1)); have n1_ := Aside0.mk (Kd.R_reok rfl hy0 (fun k_ e_ => HO_10.out.1 k_ e_)); have n2_ := Aside0.mk (hb); clear HO_6; clear HO_10; clear HB; have HO_6 := n0_; have HO_10 := n1_; have HB := n2_; clear n0_ n1_ n2_; (try clear hb); (try clear hkp); (try clear hy0)) | ((with_reducible refine gate_callee (f := 30) rfl ?_); refine goesL_ (some 86) rfl rfl Try.func30 (by kernel_rfl) rfl #[.slice Ao61 t127.length co61, .int .i64 1] rfl (by (try simp only [List.map_toArray, List.map_cons, List.map_nil]); first | done | (rw [show t127.length = t113.length from (Kd.R_reads' HO_10.out).1.symm] <;> rfl) | rfl | (simp only [List.length_drop, List.length_take]; rfl)) ?_; (with_reducible refine (laws_heldCombS.calls kj32 _ _ t127 1 t128 _ ?side1 ?side2 A53.out).mono ?_); (case side1 => repeat (first | exact (Kd.R_reads' HO_10.out).2.2 | (with_reducible refine Kd.C_alloc ?_ _) | (with_reducible refine Kd.C_drewN ?_ _) | (with_reducible refine Kd.C_drew ?_))); (case side2 => rw [show t127.length = t113.length from (Kd.R_reads' HO_10.out).1.symm]; exact (Kd.R_reads' HO_10.out).2.1); rintro e w' ⟨rfl, ⟨nd, rfl⟩⟩; refine ⟨_, rfl, ?_⟩) | ((with_reducible refine gate_callee (f := 13) rfl ?_); refine goesL_ (some 94) rfl rfl Try.func13 (by kernel_rfl) rfl #[.slice A0 l0.length c0] rfl (by (try simp only [List.map_toArray, List.map_cons, List.map_nil]); first | done | rfl | (simp only [List.length_drop, List.length_take]; rfl)) ?_; (with_reducible refine (laws_toCombS.calls kj32 _ _ l0 t129 _ ?side1 ?side2 A58.out).mono ?_); (case side1 => repeat (first | exact (Kd.C_below HR0.out (by repeat (first | (with_reducible first | exact HB.out | apply below_alloc | apply pw_below_drewN | apply below_drew1) | exact HB.out))) | (with_reducible refine Kd.C_alloc ?_ _) | (with_reducible refine Kd.C_drewN ?_ _) | (with_reducible refine Kd.C_drew ?_))); (case side2 => exact HC0.out); rintro e w63 ⟨v130, rfl, ho0, hb⟩; refine ⟨_, rfl, ?_⟩; have n0_ := Aside0.mk (Kd.R_elder' (by (with_reducible repeat (first | apply Kd.R_alloc | apply Kd.R_drewN | apply Kd.R_drew)); exact HO_6.out) (Kd.R_base ho0) hb); have n1_ := Aside0.mk (Kd.R_elder' (by (with_reducible repeat (first | apply Kd.R_alloc | apply Kd.R_drewN | apply Kd.R_drew)); exact HO_10.out) (Kd.R_base ho0) hb); have n2_ := Aside0.mk (Kd.R_lower (Kd.R_new' (Kd.R_new' ho0 (Kd.R_lt (by (with_reducible repeat (first | apply Kd.R_alloc | apply Kd.R_drewN | apply Kd.R_drew)); exact HO_6.out))) (Kd.R_lt (by (with_reducible repeat (first | apply Kd.R_alloc | apply Kd.R_drewN | apply Kd.R_drew)); exact HO_10.out))) (below_size (by repeat (first | (with_reducible first | exact HB.out | apply below_alloc | apply pw_below_drewN | apply below_drew1) | exact HB.out)))); have n3_ := Aside0.mk (below_step (by repeat (first | (with_reducible first | exact HB.out | apply below_alloc | apply pw_below_drewN | apply below_drew1) | exact HB.out)) hb); clear HO_6; clear HO_10; clear HB; have HO_6 := n0_; have HO_10 := n1_; have HO131 := n2_; have HB := n3_; clear n0_ n1_ n2_ n3_; (try clear hb); (try clear hb2); (try clear hk); (try clear hi); (try clear ho0); obtain ⟨Ao64, co64, eo64⟩ := Kd.R_slice HO131.out; subst eo64) | ((with_reducible refine gate_callee (f := 34) rfl ?_); refine goesL_ (some 96) rfl rfl Try.func34 (by kernel_rfl) rfl #[.slice Ao64 t129.length co64, .int .i64 a1] rfl (by (try simp only [List.map_toArray, List.map_cons, List.map_nil]); first | done | rfl | (simp only [List.length_drop, List.length_take]; rfl)) ?_; (with_reducible refine (impl_NormalComb.calls kj32 _ _ t129 a1 t132 t133 t134 _ ?side1 ?side2 A59.out).mono ?_); (case side1 => repeat (first | exact (Kd.R_reads' HO131.out).2.2 | (with_reducible refine Kd.C_alloc ?_ _) | (with_reducible refine Kd.C_drewN ?_ _) | (with_reducible refine Kd.C_drew ?_))); (case side2 => exact (Kd.R_reads' HO131.out).2.1); rintro e w65 ⟨v135, rfl, ho0, hb⟩; refine ⟨_, rfl, ?_⟩; have n0_ := Aside0.mk (Kd.R_elder' (by (with_reducible repeat (first | apply Kd.R_alloc | apply Kd.R_drewN | apply Kd.R_drew)); exact HO_6.out) (Kd.R_base ho0) hb); have n1_ := Aside0.mk (Kd.R_elder' (by (with_reducible repeat (first | apply Kd.R_alloc | apply Kd.R_drewN | apply Kd.R_drew)); exact HO_10.out) (Kd.R_base ho0) hb); have n2_ := Aside0.mk (Kd.R_elder' (by (with_reducible repeat (first | apply Kd.R_alloc | apply Kd.R_drewN | apply Kd.R_drew)); exact HO131.out) (Kd.R_base ho0) hb); have n3_ := Aside0.mk (Kd.R_lower (Kd.R_new' (Kd.R_new' (Kd.R_new' ho0 (Kd.R_lt (by (with_reducible repeat (first | apply Kd.R_alloc | apply Kd.R_drewN | apply Kd.R_drew)); exact HO_6.out))) (Kd.R_lt (by (with_reducible repeat (first | apply Kd.R_alloc | apply Kd.R_drewN | apply Kd.R_drew)); exact HO_10.out))) (Kd.R_lt (by (with_reducible repeat (first | apply Kd.R_alloc | apply Kd.R_drewN | apply Kd.R_drew)); exact HO131.out))) (below_size (by repeat (first | (with_reducible first | exact HB.out | apply below_alloc | apply pw_below_drewN | apply below_drew1) | exact HB.out)))); have n4_ := Aside0.mk (below_step (by repeat (first | (with_reducible first | exact HB.out | apply below_alloc | apply pw_below_drewN | apply below_drew1) | exact HB.out)) hb); clear HO_6; clear HO_10; clear HO131; clear HB; have HO_6 := n0_; have HO_10 := n1_; have HO131 := n2_; have HO136 := n3_; have HB := n4_; clear n0_ n1_ n2_ n3_ n4_; (try clear hb); (try clear hb2); (try clear hk); (try clear hi); (try clear ho0)))
                      (try simp only [Act.put, List.setIfInBounds_toArray, List.set_cons_zero, List.set_cons_succ])
                      go_cut [113] (fun v113 wc => ∃ (kq : Nat) (x113_59 : Bool), v113 = .bool x113_59 ∧ Aside0 (laws_FnExactNormalComb.j2 kq t127 t126 x113_59 = some r) ∧ Aside0 (kq ≤ kj32) ∧ Aside0 (Kd.R k52 52 wc w.heap.size (fun _ => True) (.slice Ao61 t113.length co61) t127) ∧ Aside0 (Below w.heap.size w wc))
                      case first =>
                        have H := HC60.out
                        clear HC60
                        replace H := Option.bind_eq_some_iff.mp H
                        obtain ⟨t137, A660, H⟩ := H
                        replace H : (if t137 = true then (if t133 = t106 then (laws_FnExactNormalComb.j2 kj32 t127 t126 (t134 != t107)) else (laws_FnExactNormalComb.j2 kj32 t127 t126 true)) else (laws_FnExactNormalComb.j2 kj32 t127 t126 true)) = some r := H
                        have A66 := Aside0.mk A660
                        clear A660
                        by_cases c67 : t137 = true
                        · subst c67
                          have H1 : (if t133 = t106 then (laws_FnExactNormalComb.j2 kj32 t127 t126 (t134 != t107)) else (laws_FnExactNormalComb.j2 kj32 t127 t126 true)) = some r := by rw [if_pos rfl] at H; exact H
                          clear H
                          have H := H1
                          clear H1
                          by_cases c68 : t133 = t106
                          · rw [if_pos c68] at H
                            have c68b0 : (t133 == t106) = true := beq_iff_eq.mpr c68
                            have c68b1 : (t133 != t106) = false := bne_eq_false_iff_eq.mpr c68
                            clear c68
                            (first | rw [c68b0] | (simp only [i64_w, i32_w]; rw [c68b0]) | skip)
                            have H' := Aside0.mk H
                            clear H
                            obtain ⟨Ao69, co69, eo69⟩ := Kd.R_slice HO136.out
                            subst eo69
                            obtain ⟨Ao70, co70, eo70⟩ := Kd.R_slice HO_6.out
                            subst eo70
                            go_wp2_with (first | ((with_reducible refine gate_callee (f := 15) rfl ?_); refine goesL_ (some 102) rfl rfl Try.func15 (by kernel_rfl) rfl #[.slice Ao69 t132.length co69, .slice Ao70 t105.length co70] rfl (by (try simp only [List.map_toArray, List.map_cons, List.map_nil]); first | done | rfl | (simp only [List.length_drop, List.length_take]; rfl)) ?_; (with_reducible refine (laws_eqCombS.calls kj32 _ _ t132 _ _ t105 true _ ?side1 ?side2 ?side3 ?side4 A66.out).mono ?_); (case side1 => repeat (first | exact (Kd.R_reads' HO136.out).2.2 | (with_reducible refine Kd.C_alloc ?_ _) | (with_reducible refine Kd.C_drewN ?_ _) | (with_reducible refine Kd.C_drew ?_))); (case side2 => exact (Kd.R_reads' HO136.out).2.1); (case side3 => repeat (first | exact (Kd.R_reads' HO_6.out).2.2 | (with_reducible refine Kd.C_alloc ?_ _) | (with_reducible refine Kd.C_drewN ?_ _) | (with_reducible refine Kd.C_drew ?_))); (case side4 => exact (Kd.R_reads' HO_6.out).2.1); rintro e w71 ⟨rfl, hb⟩; refine ⟨_, rfl, ?_⟩; have n0_ := Aside0.mk (Kd.R_below (by (with_reducible repeat (first | apply Kd.R_alloc | apply Kd.R_drewN | apply Kd.R_drew)); exact HO_6.out) hb); have n1_ := Aside0.mk (Kd.R_below (by (with_reducible repeat (first | apply Kd.R_alloc | apply Kd.R_drewN | apply Kd.R_drew)); exact HO_10.out) hb); have n2_ := Aside0.mk (Kd.R_below (by (with_reducible repeat (first | apply Kd.R_alloc | apply Kd.R_drewN | apply Kd.R_drew)); exact HO131.out) hb); have n3_ := Aside0.mk (Kd.R_below (by (with_reducible repeat (first | apply Kd.R_alloc | apply Kd.R_drewN | apply Kd.R_drew)); exact HO136.out) hb); have n4_ := Aside0.mk (below_step (by repeat (first | (with_reducible first | exact HB.out | apply below_alloc | apply pw_below_drewN | apply below_drew1) | exact HB.out)) hb); clear HO_6; clear HO_10; clear HO131; clear HO136; clear HB; have HO_6 := n0_; have HO_10 := n1_; have HO131 := n2_; have HO136 := n3_; have HB := n4_; clear n0_ n1_ n2_ n3_ n4_; (try clear hb); (try clear hb2); (try clear hk); (try clear hi)))
                            go_meet
                            case rel => exact ⟨_, ((t134 != t107)), (by first | rfl | (simp; done) | (simp [*]; done)), H', ⟨by have := HJ8.out; have := HJ32.out; first | omega | exact Nat.le_refl _⟩, ⟨by (with_reducible repeat (first | apply Kd.R_alloc | apply Kd.R_drewN | apply Kd.R_drew)); exact Kd.R_mono HO_10.out (fun _ hk => trivial)⟩, ⟨by repeat (first | (with_reducible first | exact HB.out | apply below_alloc | apply pw_below_drewN | apply below_drew1) | exact HB.out)⟩⟩
                          · rw [if_neg c68] at H
                            have c68b0 : (t133 == t106) = false := beq_eq_false_iff_ne.mpr c68
                            have c68b1 : (t133 != t106) = true := bne_iff_ne.mpr c68
                            (first | rw [c68b0] | (simp only [i64_w, i32_w]; rw [c68b0]) | skip)
                            have H' := Aside0.mk H
                            clear H
                            obtain ⟨Ao72, co72, eo72⟩ := Kd.R_slice HO136.out
                            subst eo72
                            obtain ⟨Ao73, co73, eo73⟩ := Kd.R_slice HO_6.out
                            subst eo73
                            go_wp2_with (first | ((with_reducible refine gate_callee (f := 15) rfl ?_); refine goesL_ (some 102) rfl rfl Try.func15 (by kernel_rfl) rfl #[.slice Ao72 t132.length co72, .slice Ao73 t105.length co73] rfl (by (try simp only [List.map_toArray, List.map_cons, List.map_nil]); first | done | rfl | (simp only [List.length_drop, List.length_take]; rfl)) ?_; (with_reducible refine (laws_eqCombS.calls kj32 _ _ t132 _ _ t105 true _ ?side1 ?side2 ?side3 ?side4 A66.out).mono ?_); (case side1 => repeat (first | exact (Kd.R_reads' HO136.out).2.2 | (with_reducible refine Kd.C_alloc ?_ _) | (with_reducible refine Kd.C_drewN ?_ _) | (with_reducible refine Kd.C_drew ?_))); (case side2 => exact (Kd.R_reads' HO136.out).2.1); (case side3 => repeat (first | exact (Kd.R_reads' HO_6.out).2.2 | (with_reducible refine Kd.C_alloc ?_ _) | (with_reducible refine Kd.C_drewN ?_ _) | (with_reducible refine Kd.C_drew ?_))); (case side4 => exact (Kd.R_reads' HO_6.out).2.1); rintro e w74 ⟨rfl, hb⟩; refine ⟨_, rfl, ?_⟩; have n0_ := Aside0.mk (Kd.R_below (by (with_reducible repeat (first | apply Kd.R_alloc | apply Kd.R_drewN | apply Kd.R_drew)); exact HO_6.out) hb); have n1_ := Aside0.mk (Kd.R_below (by (with_reducible repeat (first | apply Kd.R_alloc | apply Kd.R_drewN | apply Kd.R_drew)); exact HO_10.out) hb); have n2_ := Aside0.mk (Kd.R_below (by (with_reducible repeat (first | apply Kd.R_alloc | apply Kd.R_drewN | apply Kd.R_drew)); exact HO131.out) hb); have n3_ := Aside0.mk (Kd.R_below (by (with_reducible repeat (first | apply Kd.R_alloc | apply Kd.R_drewN | apply Kd.R_drew)); exact HO136.out) hb); have n4_ := Aside0.mk (below_step (by repeat (first | (with_reducible first | exact HB.out | apply below_alloc | apply pw_below_drewN | apply below_drew1) | exact HB.out)) hb); clear HO_6; clear HO_10; clear HO131; clear HO136; clear HB; have HO_6 := n0_; have HO_10 := n1_; have HO131 := n2_; have HO136 := n3_; have HB := n4_; clear n0_ n1_ n2_ n3_ n4_; (try clear hb); (try clear hb2); (try clear hk); (try clear hi)))
                            go_meet
                            case rel => exact ⟨_, (true), (by first | rfl | (simp; done) | (simp [*]; done)), H', ⟨by have := HJ8.out; have := HJ32.out; first | omega | exact Nat.le_refl _⟩, ⟨by (with_reducible repeat (first | apply Kd.R_alloc | apply Kd.R_drewN | apply Kd.R_drew)); exact Kd.R_mono HO_10.out (fun _ hk => trivial)⟩, ⟨by repeat (first | (with_reducible first | exact HB.out | apply below_alloc | apply pw_below_drewN | apply below_drew1) | exact HB.out)⟩⟩
                        · replace c67 := Bool.eq_false_iff.mpr c67
                          subst c67
                          have H1 : (laws_FnExactNormalComb.j2 kj32 t127 t126 true) = some r := by rw [if_neg (show ¬ (false = true) by decide)] at H; exact H
                          clear H
                          have H := H1
                          clear H1
                          have H' := Aside0.mk H
                          clear H
                          obtain ⟨Ao75, co75, eo75⟩ := Kd.R_slice HO136.out
                          subst eo75
                          obtain ⟨Ao76, co76, eo76⟩ := Kd.R_slice HO_6.out
                          subst eo76
                          go_wp2_with (first | ((with_reducible refine gate_callee (f := 15) rfl ?_); refine goesL_ (some 102) rfl rfl Try.func15 (by kernel_rfl) rfl #[.slice Ao75 t132.length co75, .slice Ao76 t105.length co76] rfl (by (try simp only [List.map_toArray, List.map_cons, List.map_nil]); first | done | rfl | (simp only [List.length_drop, List.length_take]; rfl)) ?_; (with_reducible refine (laws_eqCombS.calls kj32 _ _ t132 _ _ t105 false _ ?side1 ?side2 ?side3 ?side4 A66.out).mono ?_); (case side1 => repeat (first | exact (Kd.R_reads' HO136.out).2.2 | (with_reducible refine Kd.C_alloc ?_ _) | (with_reducible refine Kd.C_drewN ?_ _) | (with_reducible refine Kd.C_drew ?_))); (case side2 => exact (Kd.R_reads' HO136.out).2.1); (case side3 => repeat (first | exact (Kd.R_reads' HO_6.out).2.2 | (with_reducible refine Kd.C_alloc ?_ _) | (with_reducible refine Kd.C_drewN ?_ _) | (with_reducible refine Kd.C_drew ?_))); (case side4 => exact (Kd.R_reads' HO_6.out).2.1); rintro e w77 ⟨rfl, hb⟩; refine ⟨_, rfl, ?_⟩; have n0_ := Aside0.mk (Kd.R_below (by (with_reducible repeat (first | apply Kd.R_alloc | apply Kd.R_drewN | apply Kd.R_drew)); exact HO_6.out) hb); have n1_ := Aside0.mk (Kd.R_below (by (with_reducible repeat (first | apply Kd.R_alloc | apply Kd.R_drewN | apply Kd.R_drew)); exact HO_10.out) hb); have n2_ := Aside0.mk (Kd.R_below (by (with_reducible repeat (first | apply Kd.R_alloc | apply Kd.R_drewN | apply Kd.R_drew)); exact HO131.out) hb); have n3_ := Aside0.mk (Kd.R_below (by (with_reducible repeat (first | apply Kd.R_alloc | apply Kd.R_drewN | apply Kd.R_drew)); exact HO136.out) hb); have n4_ := Aside0.mk (below_step (by repeat (first | (with_reducible first | exact HB.out | apply below_alloc | apply pw_below_drewN | apply below_drew1) | exact HB.out)) hb); clear HO_6; clear HO_10; clear HO131; clear HO136; clear HB; have HO_6 := n0_; have HO_10 := n1_; have HO131 := n2_; have HO136 := n3_; have HB := n4_; clear n0_ n1_ n2_ n3_ n4_; (try clear hb); (try clear hb2); (try clear hk); (try clear hi)))
                          go_meet
                          case rel => exact ⟨_, (true), (by first | rfl | (simp; done) | (simp [*]; done)), H', ⟨by have := HJ8.out; have := HJ32.out; first | omega | exact Nat.le_refl _⟩, ⟨by (with_reducible repeat (first | apply Kd.R_alloc | apply Kd.R_drewN | apply Kd.R_drew)); exact Kd.R_mono HO_10.out (fun _ hk => trivial)⟩, ⟨by repeat (first | (with_reducible first | exact HB.out | apply below_alloc | apply pw_below_drewN | apply below_drew1) | exact HB.out)⟩⟩
                      case rest =>
                        clear HC60
                        try clear c1
                        try clear c2
                        try clear p2
                        try clear c3
                        try clear c4
                        try clear c4b0
                        try clear c5
                        try clear c6
                        try clear c8
                        try clear c11
                        try clear c13
                        try clear c15
                        try clear c17
                        try clear c18
                        try clear c18b0
                        try clear c18b1
                        try clear c28
                        try clear c29
                        try clear c30
                        try clear c31
                        try clear c33
                        try clear c34
                        try clear c38
                        try clear c38b0
                        try clear c40
                        try clear c41
                        try clear c41b0
                        try clear c41b1
                        try clear c51
                        try clear c54
                        try clear c54b0
                        try clear c57
                        try clear c57b0
                        try clear c57b1
                        try clear c67
                        try clear c68
                        try clear c68b0
                        try clear c68b1
                        try clear p2
                        obtain ⟨kq, x113_59, rfl, HA, HJ59, HO_10, HB⟩ := hcut
                        have hl10_59 := (Kd.R_reads' HO_10.out).1
                        rw [hl10_59] at HO_10
                        (try simp only [hl10_59])
                        cases kq with
                        | zero => exact absurd HA.out (by simp [laws_FnExactNormalComb.j2])
                        | succ kj59 =>
                          have H := HA.out
                          clear HA
                          simp only [laws_FnExactNormalComb.j2] at H
                          by_cases c78 : x113_59 = true
                          · subst c78
                            have H1 : (some false) = some r := by rw [if_pos rfl] at H; exact H
                            clear H
                            have H := H1
                            clear H1
                            obtain rfl := Option.some.inj H
                            go_wp2
                            go_ret
                            exact ⟨by first | rfl | (simp [errW_none, errW_some] <;> rfl) | (simp [*, errW_none, errW_some] <;> rfl), by repeat (first | (with_reducible first | exact HB.out | apply below_alloc | apply pw_below_drewN | apply below_drew1) | exact HB.out)⟩
                          · replace c78 := Bool.eq_false_iff.mpr c78
                            subst c78
                            have H1 : ((laws_heldCombS.f kj59 t127 1).bind fun t138 => (if t138 < 0 then (some false) else (if t138 = t126 then (some true) else (some false)))) = some r := by rw [if_neg (show ¬ (false = true) by decide)] at H; exact H
                            clear H
                            have H := H1
                            clear H1
                            replace H := Option.bind_eq_some_iff.mp H
                            obtain ⟨t138, A790, H⟩ := H
                            replace H : (if t138 < 0 then (some false) else (if t138 = t126 then (some true) else (some false))) = some r := H
                            have A79 := Aside0.mk A790
                            clear A790
                            by_cases c80 : t138 < 0
                            · rw [if_pos c80] at H
                              have c80b0 : decide (t138 < 0) = true := decide_eq_true c80
                              clear c80
                              obtain rfl := Option.some.inj H
                              go_wp2_with (first | ((with_reducible refine gate_callee (f := 30) rfl ?_); refine goesL_ (some 116) rfl rfl Try.func30 (by kernel_rfl) rfl #[.slice Ao61 t127.length co61, .int .i64 1] rfl (by (try simp only [List.map_toArray, List.map_cons, List.map_nil]); first | done | rfl | (simp only [List.length_drop, List.length_take]; rfl)) ?_; (with_reducible refine (laws_heldCombS.calls kj59 _ _ t127 1 t138 _ ?side1 ?side2 A79.out).mono ?_); (case side1 => repeat (first | exact (Kd.R_reads' HO_10.out).2.2 | (with_reducible refine Kd.C_alloc ?_ _) | (with_reducible refine Kd.C_drewN ?_ _) | (with_reducible refine Kd.C_drew ?_))); (case side2 => exact (Kd.R_reads' HO_10.out).2.1); rintro e w' ⟨rfl, ⟨nd, rfl⟩⟩; refine ⟨_, rfl, ?_⟩))
                              go_ret
                              exact ⟨by first | rfl | (simp [errW_none, errW_some] <;> rfl) | (simp [*, errW_none, errW_some] <;> rfl), by repeat (first | (with_reducible first | exact HB.out | apply below_alloc | apply pw_below_drewN | apply below_drew1) | exact HB.out)⟩
                            · rw [if_neg c80] at H
                              have c80b0 : decide (t138 < 0) = false := decide_eq_false c80
                              clear c80
                              by_cases c81 : t138 = t126
                              · rw [if_pos c81] at H
                                have c81b0 : (t138 == t126) = true := beq_iff_eq.mpr c81
                                have c81b1 : (t138 != t126) = false := bne_eq_false_iff_eq.mpr c81
                                clear c81
                                obtain rfl := Option.some.inj H
                                go_wp2_with (first | ((with_reducible refine gate_callee (f := 30) rfl ?_); refine goesL_ (some 116) rfl rfl Try.func30 (by kernel_rfl) rfl #[.slice Ao61 t127.length co61, .int .i64 1] rfl (by (try simp only [List.map_toArray, List.map_cons, List.map_nil]); first | done | rfl | (simp only [List.length_drop, List.length_take]; rfl)) ?_; (with_reducible refine (laws_heldCombS.calls kj59 _ _ t127 1 t138 _ ?side1 ?side2 A79.out).mono ?_); (case side1 => repeat (first | exact (Kd.R_reads' HO_10.out).2.2 | (with_reducible refine Kd.C_alloc ?_ _) | (with_reducible refine Kd.C_drewN ?_ _) | (with_reducible refine Kd.C_drew ?_))); (case side2 => exact (Kd.R_reads' HO_10.out).2.1); rintro e w' ⟨rfl, ⟨nd, rfl⟩⟩; refine ⟨_, rfl, ?_⟩))
                                go_ret
                                exact ⟨by first | rfl | (simp [errW_none, errW_some] <;> rfl) | (simp [*, errW_none, errW_some] <;> rfl), by repeat (first | (with_reducible first | exact HB.out | apply below_alloc | apply pw_below_drewN | apply below_drew1) | exact HB.out)⟩
                              · rw [if_neg c81] at H
                                have c81b0 : (t138 == t126) = false := beq_eq_false_iff_ne.mpr c81
                                have c81b1 : (t138 != t126) = true := bne_iff_ne.mpr c81
                                obtain rfl := Option.some.inj H
                                go_wp2_with (first | ((with_reducible refine gate_callee (f := 30) rfl ?_); refine goesL_ (some 116) rfl rfl Try.func30 (by kernel_rfl) rfl #[.slice Ao61 t127.length co61, .int .i64 1] rfl (by (try simp only [List.map_toArray, List.map_cons, List.map_nil]); first | done | rfl | (simp only [List.length_drop, List.length_take]; rfl)) ?_; (with_reducible refine (laws_heldCombS.calls kj59 _ _ t127 1 t138 _ ?side1 ?side2 A79.out).mono ?_); (case side1 => repeat (first | exact (Kd.R_reads' HO_10.out).2.2 | (with_reducible refine Kd.C_alloc ?_ _) | (with_reducible refine Kd.C_drewN ?_ _) | (with_reducible refine Kd.C_drew ?_))); (case side2 => exact (Kd.R_reads' HO_10.out).2.1); rintro e w' ⟨rfl, ⟨nd, rfl⟩⟩; refine ⟨_, rfl, ?_⟩))
                                go_ret
                                exact ⟨by first | rfl | (simp [errW_none, errW_some] <;> rfl) | (simp [*, errW_none, errW_some] <;> rfl), by repeat (first | (with_reducible first | exact HB.out | apply below_alloc | apply pw_below_drewN | apply below_drew1) | exact HB.out)⟩
                    · rw [if_neg c57] at H
                      have c57b0 : (t128 == t126) = false := beq_eq_false_iff_ne.mpr c57
                      have c57b1 : (t128 != t126) = true := bne_iff_ne.mpr c57
                      obtain rfl := Option.some.inj H
                      obtain ⟨Ao82, co82, eo82⟩ := Kd.R_slice HO_10.out
                      subst eo82
                      go_wp2_with (first | ((with_reducible refine gate_callee (f := 29) rfl ?_); refine goesL_ (some 83) rfl rfl Try.func29 (by kernel_rfl) rfl #[.slice Ao82 t113.length co82, .int .i64 1] rfl (by (try simp only [List.map_toArray, List.map_cons, List.map_nil]); first | done | rfl | (simp only [List.length_drop, List.length_take]; rfl)) ?_; (with_reducible refine (laws_markCombS.calls kj32 (fun k_ => some k_ = (.slice Ao82 t113.length co82 : Value).ownBlock) (.slice Ao82 t113.length co82) t113 1 t126 t127 w _ ?side1 ?side2 A52.out).mono ?_); (case side1 => repeat (first | (with_reducible first | exact HB.out | apply below_alloc | apply pw_below_drewN | apply below_drew1) | exact HB.out)); (case side2 => exact Kd.R_tight rfl HO_10.out); rintro e w83 ⟨rfl, hy0, hb, hkp⟩; refine ⟨_, rfl, ?_⟩; have n0_ := Aside0.mk (Kd.R_mono (ok' := fun k_ => some k_ ≠ (.slice Ao82 t113.length co82 : Value).ownBlock) (Kd.R_keptB (HO_6.out) hkp (fun k_ hk_ hs_ => (hk_) hs_)) (fun k_ hk_ => hk_.1)); have n1_ := Aside0.mk (Kd.R_reok rfl hy0 (fun k_ e_ => HO_10.out.1 k_ e_)); have n2_ := Aside0.mk (hb); clear HO_6; clear HO_10; clear HB; have HO_6 := n0_; have HO_10 := n1_; have HB := n2_; clear n0_ n1_ n2_; (try clear hb); (try clear hkp); (try clear hy0)) | ((with_reducible refine gate_callee (f := 30) rfl ?_); refine goesL_ (some 86) rfl rfl Try.func30 (by kernel_rfl) rfl #[.slice Ao82 t127.length co82, .int .i64 1] rfl (by (try simp only [List.map_toArray, List.map_cons, List.map_nil]); first | done | (rw [show t127.length = t113.length from (Kd.R_reads' HO_10.out).1.symm] <;> rfl) | rfl | (simp only [List.length_drop, List.length_take]; rfl)) ?_; (with_reducible refine (laws_heldCombS.calls kj32 _ _ t127 1 t128 _ ?side1 ?side2 A53.out).mono ?_); (case side1 => repeat (first | exact (Kd.R_reads' HO_10.out).2.2 | (with_reducible refine Kd.C_alloc ?_ _) | (with_reducible refine Kd.C_drewN ?_ _) | (with_reducible refine Kd.C_drew ?_))); (case side2 => rw [show t127.length = t113.length from (Kd.R_reads' HO_10.out).1.symm]; exact (Kd.R_reads' HO_10.out).2.1); rintro e w' ⟨rfl, ⟨nd, rfl⟩⟩; refine ⟨_, rfl, ?_⟩))
                      go_ret
                      exact ⟨by first | rfl | (simp [errW_none, errW_some] <;> rfl) | (simp [*, errW_none, errW_some] <;> rfl), by repeat (first | (with_reducible first | exact HB.out | apply below_alloc | apply pw_below_drewN | apply below_drew1) | exact HB.out)⟩
          · replace c31 := Bool.eq_false_iff.mpr c31
            subst c31
            have H1 : (some false) = some r := by rw [if_neg (show ¬ (false = true) by decide)] at H; exact H
            clear H
            have H := H1
            clear H1
            obtain rfl := Option.some.inj H
            go_wp2_with (first | ((with_reducible refine gate_callee (f := 13) rfl ?_); refine goesL_ (some 57) rfl rfl Try.func13 (by kernel_rfl) rfl #[.slice A0 l0.length c0] rfl (by (try simp only [List.map_toArray, List.map_cons, List.map_nil]); first | done | rfl | (simp only [List.length_drop, List.length_take]; rfl)) ?_; (with_reducible refine (laws_toCombS.calls kj8 _ _ l0 t119 _ ?side1 ?side2 A29.out).mono ?_); (case side1 => repeat (first | exact (Kd.C_below HR0.out HB.out) | (with_reducible refine Kd.C_alloc ?_ _) | (with_reducible refine Kd.C_drewN ?_ _) | (with_reducible refine Kd.C_drew ?_))); (case side2 => exact HC0.out); rintro e w84 ⟨v120, rfl, ho0, hb⟩; refine ⟨_, rfl, ?_⟩; have n0_ := Aside0.mk (Kd.R_elder' (by (with_reducible repeat (first | apply Kd.R_alloc | apply Kd.R_drewN | apply Kd.R_drew)); exact HO_6.out) (Kd.R_base ho0) hb); have n1_ := Aside0.mk (Kd.R_elder' (by (with_reducible repeat (first | apply Kd.R_alloc | apply Kd.R_drewN | apply Kd.R_drew)); exact HO_9.out) (Kd.R_base ho0) hb); have n2_ := Aside0.mk (Kd.R_elder' (by (with_reducible repeat (first | apply Kd.R_alloc | apply Kd.R_drewN | apply Kd.R_drew)); exact HO_10.out) (Kd.R_base ho0) hb); have n3_ := Aside0.mk (Kd.R_lower (Kd.R_new' (Kd.R_new' (Kd.R_new' ho0 (Kd.R_lt (by (with_reducible repeat (first | apply Kd.R_alloc | apply Kd.R_drewN | apply Kd.R_drew)); exact HO_6.out))) (Kd.R_lt (by (with_reducible repeat (first | apply Kd.R_alloc | apply Kd.R_drewN | apply Kd.R_drew)); exact HO_9.out))) (Kd.R_lt (by (with_reducible repeat (first | apply Kd.R_alloc | apply Kd.R_drewN | apply Kd.R_drew)); exact HO_10.out))) (below_size (by repeat (first | (with_reducible first | exact HB.out | apply below_alloc | apply pw_below_drewN | apply below_drew1) | exact HB.out)))); have n4_ := Aside0.mk (below_step (by repeat (first | (with_reducible first | exact HB.out | apply below_alloc | apply pw_below_drewN | apply below_drew1) | exact HB.out)) hb); clear HO_6; clear HO_9; clear HO_10; clear HB; have HO_6 := n0_; have HO_9 := n1_; have HO_10 := n2_; have HO121 := n3_; have HB := n4_; clear n0_ n1_ n2_ n3_ n4_; (try clear hb); (try clear hb2); (try clear hk); (try clear hi); (try clear ho0); obtain ⟨Ao85, co85, eo85⟩ := Kd.R_slice HO121.out; subst eo85) | ((with_reducible refine gate_callee (f := 15) rfl ?_); refine goesL_ (some 58) rfl rfl Try.func15 (by kernel_rfl) rfl #[.slice Ao14 t110.length co14, .slice Ao85 t119.length co85] rfl (by (try simp only [List.map_toArray, List.map_cons, List.map_nil]); first | done | rfl | (simp only [List.length_drop, List.length_take]; rfl)) ?_; (with_reducible refine (laws_eqCombS.calls kj8 _ _ t110 _ _ t119 false _ ?side1 ?side2 ?side3 ?side4 A30.out).mono ?_); (case side1 => repeat (first | exact (Kd.R_reads' HO_9.out).2.2 | (with_reducible refine Kd.C_alloc ?_ _) | (with_reducible refine Kd.C_drewN ?_ _) | (with_reducible refine Kd.C_drew ?_))); (case side2 => exact (Kd.R_reads' HO_9.out).2.1); (case side3 => repeat (first | exact (Kd.R_reads' HO121.out).2.2 | (with_reducible refine Kd.C_alloc ?_ _) | (with_reducible refine Kd.C_drewN ?_ _) | (with_reducible refine Kd.C_drew ?_))); (case side4 => exact (Kd.R_reads' HO121.out).2.1); rintro e w86 ⟨rfl, hb⟩; refine ⟨_, rfl, ?_⟩; have n0_ := Aside0.mk (Kd.R_below (by (with_reducible repeat (first | apply Kd.R_alloc | apply Kd.R_drewN | apply Kd.R_drew)); exact HO_6.out) hb); have n1_ := Aside0.mk (Kd.R_below (by (with_reducible repeat (first | apply Kd.R_alloc | apply Kd.R_drewN | apply Kd.R_drew)); exact HO_9.out) hb); have n2_ := Aside0.mk (Kd.R_below (by (with_reducible repeat (first | apply Kd.R_alloc | apply Kd.R_drewN | apply Kd.R_drew)); exact HO_10.out) hb); have n3_ := Aside0.mk (Kd.R_below (by (with_reducible repeat (first | apply Kd.R_alloc | apply Kd.R_drewN | apply Kd.R_drew)); exact HO121.out) hb); have n4_ := Aside0.mk (below_step (by repeat (first | (with_reducible first | exact HB.out | apply below_alloc | apply pw_below_drewN | apply below_drew1) | exact HB.out)) hb); clear HO_6; clear HO_9; clear HO_10; clear HO121; clear HB; have HO_6 := n0_; have HO_9 := n1_; have HO_10 := n2_; have HO121 := n3_; have HB := n4_; clear n0_ n1_ n2_ n3_ n4_; (try clear hb); (try clear hb2); (try clear hk); (try clear hi)))
            go_ret
            exact ⟨by first | rfl | (simp [errW_none, errW_some] <;> rfl) | (simp [*, errW_none, errW_some] <;> rfl), by repeat (first | (with_reducible first | exact HB.out | apply below_alloc | apply pw_below_drewN | apply below_drew1) | exact HB.out)⟩

def laws_FnExactNormalComb.Pure : Prop := ∀ (l0 : List (S55)) (a1 : Int), (l0.length ≤ 9223372036854775807 ∧ ∀ x_ ∈ l0, ((Lit.int .i64 x_.f0).wf = true ∧ (Lit.int .i64 x_.f1).wf = true ∧ (Lit.int .i64 x_.f2).wf = true)) → (Lit.int .i64 a1).wf = true → ∃ k, laws_FnExactNormalComb.f k l0 a1 = some true

end Go.Proofs.Ytcjhhdecckcibaa.G

namespace Go.Proofs.Ytcjhhdecckcibaa.EvL
open Go.RowKit Go.Proofs.YtcjhhdecckcibaaW.PrintWords
set_option linter.unusedVariables false

theorem w64 {x : Int} (h1 : -9223372036854775808 ≤ x) (h2 : x ≤ 9223372036854775807) : wrap64 x = x := by unfold wrap64; omega
theorem Ev.const {α : Type} {a : Option α} {r : α} (h : a = some r) : Ev (fun _ => a) r := ⟨0, fun _ _ => h⟩
theorem Ev.of_eq {α : Type} {g : Nat → Option α} {r r' : α} (h : Ev g r) (e : r = r') : Ev g r' := e ▸ h
theorem Ev.ite_pos {α : Type} {c : Prop} [Decidable c] {g f : Nat → Option α} {r : α} (hc : c) (h : Ev g r) : Ev (fun k => if c then g k else f k) r := Ev.congr (fun k => if_pos hc) h
theorem Ev.ite_neg {α : Type} {c : Prop} [Decidable c] {g f : Nat → Option α} {r : α} (hc : ¬ c) (h : Ev f r) : Ev (fun k => if c then g k else f k) r := Ev.congr (fun k => if_neg hc) h
theorem Ev.succ {α : Type} {g : Nat → Option α} {r : α} (h : Ev (fun k => g (k + 1)) r) : Ev g r := Ev.step (fun k => rfl) h
theorem Ev.unique {α : Type} {g : Nat → Option α} {r r' : α} (h : Ev g r) (h' : Ev g r') : r = r' := by
  obtain ⟨K, hK⟩ := h
  obtain ⟨K', hK'⟩ := h'
  have h1 := hK (max K K') (Nat.le_max_left ..)
  have h2 := hK' (max K K') (Nat.le_max_right ..)
  rw [h1] at h2
  exact Option.some.inj h2

theorem ev_all (F : Nat → Int → Option Bool) (n : Nat) (p : Nat → Bool) (hs : ∀ (k i : Nat), i < n → F (k + 1) i = if p i = true then F k ((i + 1 : Nat) : Int) else some false) (he : ∀ k, F (k + 1) n = some true) :
    ∀ (d i : Nat), i + d = n → Ev (fun k => F k i) ((List.range d).all fun j => p (i + j)) := by
  intro d
  induction d with
  | zero => intro i hi; obtain rfl : i = n := by omega
            exact Ev.step he (Ev.now _)
  | succ d ih =>
    intro i hi
    have e : ((List.range (d + 1)).all fun j => p (i + j)) = (p i && (List.range d).all fun j => p (i + 1 + j)) := by
      rw [List.range_succ_eq_map, List.all_cons, List.all_map, Nat.add_zero]
      congr 1; congr 1; funext j; show p (i + (j + 1)) = _; congr 1; omega
    rw [e]
    by_cases hp : p i = true
    · refine Ev.step (fun k => (hs k i (by omega)).trans (if_pos hp)) ?_
      rw [hp, Bool.true_and]
      exact ih (i + 1) (by omega)
    · refine Ev.step (fun k => (hs k i (by omega)).trans (if_neg hp)) ?_
      rw [Bool.eq_false_iff.mpr hp, Bool.false_and]
      exact Ev.now _

theorem ev_fill {β : Type} (F : Nat → List β → Int → Option (List β)) (n : Nat) (g : Nat → β) (hs : ∀ (k : Nat) (acc : List β) (i : Nat), i < n → acc.length = n → F (k + 1) acc i = F k (acc.set i (g i)) ((i + 1 : Nat) : Int))
    (he : ∀ (k : Nat) (acc : List β), acc.length = n → F (k + 1) acc n = some acc) :
    ∀ (d i : Nat) (acc : List β), i + d = n → acc.length = n → Ev (fun k => F k acc i) (acc.take i ++ (List.range d).map fun j => g (i + j)) := by
  intro d
  induction d with
  | zero => intro i acc hi hl; obtain rfl : i = n := by omega
            rw [List.range_zero, List.map_nil, List.append_nil, List.take_of_length_le (by omega)]
            exact Ev.step (fun k => he k acc hl) (Ev.now _)
  | succ d ih =>
    intro i acc hi hl
    refine Ev.step (fun k => hs k acc i (by omega) hl) ?_
    refine Ev.of_eq (ih (i + 1) (acc.set i (g i)) (by omega) (by simpa using hl)) ?_
    rw [List.range_succ_eq_map, List.map_cons, List.map_map, Nat.add_zero]
    have e : (acc.set i (g i)).take (i + 1) = acc.take i ++ [g i] := by
      rw [List.take_succ_eq_append_getElem (by simp; omega)]
      simp [List.take_set_of_le]
    rw [e, List.append_assoc]
    congr 1
    rw [List.singleton_append]
    congr 1
    apply List.map_congr_left
    intro j _
    show g (i + 1 + j) = g (i + (j + 1))
    congr 1; omega

theorem range_getD {β : Type} (l : List β) (z : β) : (List.range l.length).map (fun j => l.getD j z) = l := by
  apply List.ext_getElem
  · simp
  · intro i h1 h2; simp [List.getD_eq_getElem?_getD, List.getElem?_eq_getElem h2]

end Go.Proofs.Ytcjhhdecckcibaa.EvL

namespace Go.Proofs.Ytcjhhdecckcibaa.TreeM
set_option linter.unusedVariables false

structure Nd where
  kind : Int
  n : Int
  up : Int
inductive Tr where
  | leaf (k n : Int)
  | un (k n : Int) (a : Tr)
  | bin (k n : Int) (a b : Tr)
def Tr.kind : Tr → Int
  | .leaf k _ => k
  | .un k _ _ => k
  | .bin k _ _ _ => k
def Tr.num : Tr → Int
  | .leaf _ n => n
  | .un _ n _ => n
  | .bin _ n _ _ => n
def Tr.size : Tr → Nat
  | .leaf _ _ => 1
  | .un _ _ a => 1 + a.size
  | .bin _ _ a b => 1 + a.size + b.size
def Tr.depth : Tr → Nat
  | .leaf _ _ => 1
  | .un _ _ a => a.depth + 1
  | .bin _ _ a b => max a.depth b.depth + 1
def Tr.all (p : Int → Int → Prop) : Tr → Prop
  | .leaf k n => p k n
  | .un k n a => p k n ∧ a.all p
  | .bin k n a b => p k n ∧ a.all p ∧ b.all p

def z : Nd := ⟨0, 0, 0⟩
def up (l : List Nd) (i : Nat) : Int := (l.getD i z).up
theorem up_of {l : List Nd} {i : Nat} {x : Nd} (h : l[i]? = some x) : up l i = x.up := by unfold up; rw [List.getD_eq_getElem?_getD, h]; rfl
theorem lt_of {l : List Nd} {i : Nat} {x : Nd} (h : l[i]? = some x) : i < l.length := by
  by_cases hi : i < l.length
  · exact hi
  · rw [List.getElem?_eq_none (by omega)] at h; cases h
theorem get_of {l : List Nd} {i : Nat} (h : i < l.length) : l[i]? = some (l.getD i z) := by rw [List.getD_eq_getElem?_getD, List.getElem?_eq_getElem h]; rfl

def chain (l : List Nd) (i : Nat) : List Nat := i :: if h : 0 ≤ up l i ∧ up l i < (i : Int) then chain l (up l i).toNat else []
termination_by i
decreasing_by omega
theorem chain_self (l : List Nd) (i : Nat) : i ∈ chain l i := by rw [chain]; simp
theorem chain_up {l : List Nd} {i : Nat} (h : 0 ≤ up l i ∧ up l i < (i : Int)) : chain l i = i :: chain l (up l i).toNat := by rw [chain, dif_pos h]
theorem chain_top {l : List Nd} {i : Nat} (h : ¬ (0 ≤ up l i ∧ up l i < (i : Int))) : chain l i = [i] := by rw [chain, dif_neg h]
theorem chain_le {l : List Nd} : ∀ (i j : Nat), j ∈ chain l i → j ≤ i := by
  intro i
  induction i using Nat.strongRecOn with
  | _ i ih =>
    intro j hj
    by_cases h : 0 ≤ up l i ∧ up l i < (i : Int)
    · rw [chain_up h, List.mem_cons] at hj
      rcases hj with rfl | hj
      · exact Nat.le_refl _
      · have := ih _ (by omega) j hj; omega
    · rw [chain_top h] at hj
      have : j = i := by simpa using hj
      omega
theorem chain_trans {l : List Nd} : ∀ (i j x : Nat), j ∈ chain l i → x ∈ chain l j → x ∈ chain l i := by
  intro i
  induction i using Nat.strongRecOn with
  | _ i ih =>
    intro j x hj hx
    by_cases h : 0 ≤ up l i ∧ up l i < (i : Int)
    · rw [chain_up h, List.mem_cons] at hj
      rcases hj with rfl | hj
      · exact hx
      · rw [chain_up h]
        exact List.mem_cons_of_mem _ (ih _ (by omega) j x hj hx)
    · rw [chain_top h] at hj
      obtain rfl : j = i := by simpa using hj
      exact hx
theorem chain_below {l : List Nd} : ∀ (i j x : Nat), j ∈ chain l i → x ∈ chain l i → x ≤ j → x ∈ chain l j := by
  intro i
  induction i using Nat.strongRecOn with
  | _ i ih =>
    intro j x hj hx hle
    by_cases h : 0 ≤ up l i ∧ up l i < (i : Int)
    · rw [chain_up h, List.mem_cons] at hj hx
      rcases hj with rfl | hj
      · rw [chain_up h]; exact List.mem_cons.mpr hx
      · rcases hx with rfl | hx
        · have := chain_le _ _ hj; omega
        · exact ih _ (by omega) j x hj hx hle
    · rw [chain_top h] at hj hx
      obtain rfl : j = i := by simpa using hj
      rw [chain_top h]; exact hx
theorem chain_mem_up {l : List Nd} {i : Nat} (h : 0 ≤ up l i ∧ up l i < (i : Int)) {x : Nat} (hx : x ∈ chain l i) (hne : x ≠ i) : x ∈ chain l (up l i).toNat := by
  rw [chain_up h, List.mem_cons] at hx
  exact hx.resolve_left hne

def cnt (l : List Nd) (i : Nat) : Nat → Nat → Nat
  | _, 0 => 0
  | a, d + 1 => (if up l a = (i : Int) then 1 else 0) + cnt l i (a + 1) d
theorem cnt_add (l : List Nd) (i : Nat) : ∀ (d a d' : Nat), cnt l i a (d + d') = cnt l i a d + cnt l i (a + d) d'
  | 0, a, d' => by simp [cnt]
  | d + 1, a, d' => by
    have e : d + 1 + d' = (d + d') + 1 := by omega
    rw [e]
    show (if up l a = (i : Int) then 1 else 0) + cnt l i (a + 1) (d + d') = (if up l a = (i : Int) then 1 else 0) + cnt l i (a + 1) d + cnt l i (a + (d + 1)) d'
    rw [cnt_add l i d (a + 1) d', show a + 1 + d = a + (d + 1) by omega]; omega
theorem cnt_zero (l : List Nd) (i : Nat) : ∀ (d a : Nat), (∀ m, a ≤ m → m < a + d → up l m ≠ (i : Int)) → cnt l i a d = 0
  | 0, a, h => rfl
  | d + 1, a, h => by
    show (if up l a = (i : Int) then 1 else 0) + cnt l i (a + 1) d = 0
    rw [if_neg (h a (Nat.le_refl _) (by omega)), cnt_zero l i d (a + 1) (fun m h1 h2 => h m (by omega) (by omega))]

structure Arity where
  top : Int
  want : Int → Nat

inductive Par (A : Arity) (l : List Nd) : Nat → Int → Tr → Nat → Prop
  | leaf {i : Nat} {u k n : Int} (h : l[i]? = some ⟨k, n, u⟩) (hk : 1 ≤ k ∧ k ≤ A.top) (hw : A.want k = 0) : Par A l i u (.leaf k n) (i + 1)
  | un {i e : Nat} {u k n : Int} {a : Tr} (h : l[i]? = some ⟨k, n, u⟩) (hk : 1 ≤ k ∧ k ≤ A.top) (hw : A.want k = 1) (ha : Par A l (i + 1) i a e) : Par A l i u (.un k n a) e
  | bin {i e e' : Nat} {u k n : Int} {a b : Tr} (h : l[i]? = some ⟨k, n, u⟩) (hk : 1 ≤ k ∧ k ≤ A.top) (hw : A.want k = 2) (ha : Par A l (i + 1) i a e) (hb : Par A l e i b e') : Par A l i u (.bin k n a b) e'

theorem Par.span {A : Arity} {l : List Nd} {i e : Nat} {u : Int} {t : Tr} (h : Par A l i u t e) : e = i + t.size ∧ e ≤ l.length ∧ up l i = u := by
  induction h with
  | @leaf i u k n h hk hw => exact ⟨rfl, lt_of h, up_of h⟩
  | @un i e u k n a h hk hw ha ih => exact ⟨by rw [ih.1]; show _ = _ + (1 + _); omega, ih.2.1, up_of h⟩
  | @bin i e e' u k n a b h hk hw ha hb ih1 ih2 => exact ⟨by rw [ih2.1, ih1.1]; show _ = _ + (1 + _ + _); omega, ih2.2.1, up_of h⟩
theorem Tr.size_pos (t : Tr) : 0 < t.size := by cases t <;> (simp only [Tr.size]; omega)
theorem Par.lt {A : Arity} {l : List Nd} {i e : Nat} {u : Int} {t : Tr} (h : Par A l i u t e) : i < e := by have := h.span.1; have := t.size_pos; omega

theorem Par.inside {A : Arity} {l : List Nd} {i e : Nat} {u : Int} {t : Tr} (h : Par A l i u t e) : ∀ m, i < m → m < e → (i : Int) ≤ up l m ∧ up l m < (m : Int) := by
  induction h with
  | @leaf i u k n h hk hw => intro m h1 h2; omega
  | @un i e u k n a h hk hw ha ih =>
    intro m h1 h2
    by_cases hm : m = i + 1
    · subst hm; rw [ha.span.2.2]; omega
    · have := ih m (by omega) h2; omega
  | @bin i e e' u k n a b h hk hw ha hb ih1 ih2 =>
    intro m h1 h2
    have := ha.lt
    by_cases hm : m = i + 1
    · subst hm; rw [ha.span.2.2]; omega
    · by_cases hme : m < e
      · have := ih1 m (by omega) hme; omega
      · by_cases hm2 : m = e
        · subst hm2; rw [hb.span.2.2]; omega
        · have := ih2 m (by omega) h2; omega

theorem anc_of_sub {l : List Nd} {i e : Nat} (h : ∀ m, i < m → m < e → (i : Int) ≤ up l m ∧ up l m < (m : Int)) : ∀ m, i ≤ m → m < e → i ∈ chain l m := by
  intro m
  induction m using Nat.strongRecOn with
  | _ m ih =>
    intro h1 h2
    by_cases hm : m = i
    · subst hm; exact chain_self l m
    · have hu := h m (by omega) h2
      rw [chain_up (by omega)]
      exact List.mem_cons_of_mem _ (ih (up l m).toNat (by omega) (by omega) (by omega))

theorem Par.around {A : Arity} {l : List Nd} {i e : Nat} {u : Int} {t : Tr} (h : Par A l i u t e) : ∀ m, i < m → m < e → (up l m).toNat ∈ chain l (m - 1) := by
  induction h with
  | @leaf i u k n h hk hw => intro m h1 h2; omega
  | @un i e u k n a h hk hw ha ih =>
    intro m h1 h2
    by_cases hm : m = i + 1
    · subst hm; rw [ha.span.2.2]; exact chain_self l i
    · exact ih m (by omega) h2
  | @bin i e e' u k n a b h hk hw ha hb ih1 ih2 =>
    intro m h1 h2
    have hlt := ha.lt
    by_cases hm : m = i + 1
    · subst hm; rw [ha.span.2.2]; exact chain_self l i
    · by_cases hme : m < e
      · exact ih1 m (by omega) hme
      · by_cases hm2 : m = e
        · subst hm2
          rw [hb.span.2.2]
          exact anc_of_sub (e := m) (fun q h3 h4 => (Par.bin h hk hw ha hb).inside q h3 (by have := hb.lt; omega)) (m - 1) (by omega) (by omega)
        · exact ih2 m (by omega) h2

theorem Par.counts {A : Arity} {l : List Nd} {i e : Nat} {u : Int} {t : Tr} (h : Par A l i u t e) : ∀ m, i ≤ m → m < e → ∃ k n v, l[m]? = some ⟨k, n, v⟩ ∧ (1 ≤ k ∧ k ≤ A.top) ∧ cnt l m (m + 1) (e - (m + 1)) = A.want k := by
  induction h with
  | @leaf i u k n h hk hw =>
    intro m h1 h2
    obtain rfl : m = i := by omega
    exact ⟨k, n, u, h, hk, by rw [hw, Nat.sub_self]; rfl⟩
  | @un i e u k n a h hk hw ha ih =>
    intro m h1 h2
    have hlt := ha.lt
    by_cases hm : m = i
    · subst hm
      refine ⟨k, n, u, h, hk, ?_⟩
      obtain ⟨d, hd⟩ : ∃ d, e - (m + 1) = d + 1 := ⟨e - (m + 1) - 1, by omega⟩
      rw [hd, hw]
      show (if up l (m + 1) = (m : Int) then 1 else 0) + cnt l m (m + 1 + 1) d = 1
      rw [if_pos ha.span.2.2, cnt_zero]
      intro q h3 h4
      have := ha.inside q (by omega) (by omega); omega
    · exact ih m (by omega) h2
  | @bin i e e' u k n a b h hk hw ha hb ih1 ih2 =>
    intro m h1 h2
    have hlt := ha.lt
    have hlt2 := hb.lt
    by_cases hm : m = i
    · subst hm
      refine ⟨k, n, u, h, hk, ?_⟩
      obtain ⟨d, hd⟩ : ∃ d, e - (m + 1) = d + 1 := ⟨e - (m + 1) - 1, by omega⟩
      obtain ⟨d2, hd2⟩ : ∃ d2, e' - e = d2 + 1 := ⟨e' - e - 1, by omega⟩
      rw [show e' - (m + 1) = (d + 1) + (d2 + 1) by omega, hw, cnt_add, show m + 1 + (d + 1) = e by omega]
      show (if up l (m + 1) = (m : Int) then 1 else 0) + cnt l m (m + 1 + 1) d + ((if up l e = (m : Int) then 1 else 0) + cnt l m (e + 1) d2) = 2
      rw [if_pos ha.span.2.2, if_pos hb.span.2.2, cnt_zero, cnt_zero]
      · intro q h3 h4
        have := hb.inside q (by omega) (by omega); omega
      · intro q h3 h4
        have := ha.inside q (by omega) (by omega); omega
    · by_cases hme : m < e
      · obtain ⟨k', n', v', h3, h4, h5⟩ := ih1 m (by omega) hme
        refine ⟨k', n', v', h3, h4, ?_⟩
        rw [show e' - (m + 1) = (e - (m + 1)) + (e' - e) by omega, cnt_add, h5, show m + 1 + (e - (m + 1)) = e by omega, cnt_zero, Nat.add_zero]
        intro q h6 h7
        by_cases hq : q = e
        · subst hq; rw [hb.span.2.2]; omega
        · have := hb.inside q (by omega) (by omega); omega
      · exact ih2 m (by omega) h2

theorem Par.deep {A : Arity} {l : List Nd} {i e : Nat} {u : Int} {t : Tr} (h : Par A l i u t e) : (∀ m, i ≤ m → m < e → (chain l m).length + 1 ≤ (chain l i).length + t.depth) ∧ ∃ m, i ≤ m ∧ m < e ∧ (chain l m).length + 1 = (chain l i).length + t.depth := by
  have up1 : ∀ (q i : Nat), up l q = (i : Int) → i < q → (chain l q).length = (chain l i).length + 1 := fun q i h1 h2 => by
    rw [chain_up (by omega), h1]; simp
  induction h with
  | @leaf i u k n h hk hw =>
    exact ⟨fun m h1 h2 => by obtain rfl : m = i := by omega
                             exact Nat.le_refl _, i, Nat.le_refl _, by omega, rfl⟩
  | @un i e u k n a h hk hw ha ih =>
    have hlt := ha.lt
    have e1 := up1 (i + 1) i ha.span.2.2 (by omega)
    refine ⟨fun m h1 h2 => ?_, ?_⟩
    · by_cases hm : m = i
      · subst hm; show _ ≤ _ + (a.depth + 1); omega
      · have := ih.1 m (by omega) h2; show _ ≤ _ + (a.depth + 1); omega
    · obtain ⟨m, h1, h2, h3⟩ := ih.2
      exact ⟨m, by omega, h2, by show _ = _ + (a.depth + 1); omega⟩
  | @bin i e e' u k n a b h hk hw ha hb ih1 ih2 =>
    have hlt := ha.lt
    have hlt2 := hb.lt
    have e1 := up1 (i + 1) i ha.span.2.2 (by omega)
    have e2 := up1 e i hb.span.2.2 (by omega)
    refine ⟨fun m h1 h2 => ?_, ?_⟩
    · show _ ≤ _ + (max a.depth b.depth + 1)
      by_cases hm : m = i
      · subst hm; omega
      · by_cases hme : m < e
        · have := ih1.1 m (by omega) hme; omega
        · have := ih2.1 m (by omega) h2; omega
    · by_cases hd : b.depth ≤ a.depth
      · obtain ⟨m, h1, h2, h3⟩ := ih1.2
        exact ⟨m, by omega, by omega, by show _ = _ + (max a.depth b.depth + 1); omega⟩
      · obtain ⟨m, h1, h2, h3⟩ := ih2.2
        exact ⟨m, by omega, by omega, by show _ = _ + (max a.depth b.depth + 1); omega⟩

theorem Par.alls {A : Arity} {l : List Nd} {i e : Nat} {u : Int} {t : Tr} (h : Par A l i u t e) (p : Int → Int → Prop) : t.all p ↔ ∀ m, i ≤ m → m < e → p (l.getD m z).kind (l.getD m z).n := by
  have at1 : ∀ (q : Nat) (x : Nd), l[q]? = some x → l.getD q z = x := fun q x h => by rw [List.getD_eq_getElem?_getD, h]; rfl
  induction h with
  | @leaf i u k n h hk hw =>
    constructor
    · intro h1 m h2 h3
      obtain rfl : m = i := by omega
      rw [at1 _ _ h]; exact h1
    · intro h1
      have := h1 i (Nat.le_refl _) (by omega)
      rw [at1 _ _ h] at this; exact this
  | @un i e u k n a h hk hw ha ih =>
    have hlt := ha.lt
    constructor
    · rintro ⟨h1, h2⟩ m h3 h4
      by_cases hm : m = i
      · subst hm; rw [at1 _ _ h]; exact h1
      · exact ih.mp h2 m (by omega) h4
    · intro h1
      have := h1 i (Nat.le_refl _) (by omega)
      rw [at1 _ _ h] at this
      exact ⟨this, ih.mpr (fun m h3 h4 => h1 m (by omega) h4)⟩
  | @bin i e e' u k n a b h hk hw ha hb ih1 ih2 =>
    have hlt := ha.lt
    have hlt2 := hb.lt
    constructor
    · rintro ⟨h1, h2, h2'⟩ m h3 h4
      by_cases hm : m = i
      · subst hm; rw [at1 _ _ h]; exact h1
      · by_cases hme : m < e
        · exact ih1.mp h2 m (by omega) hme
        · exact ih2.mp h2' m (by omega) h4
    · intro h1
      have := h1 i (Nat.le_refl _) (by omega)
      rw [at1 _ _ h] at this
      exact ⟨this, ih1.mpr (fun m h3 h4 => h1 m (by omega) (by omega)), ih2.mpr (fun m h3 h4 => h1 m (by omega) (by omega))⟩

structure Loc (A : Arity) (l : List Nd) : Prop where
  root : ∀ h : 0 < l.length, up l 0 = -1
  ahead : ∀ m, 0 < m → m < l.length → 0 ≤ up l m ∧ up l m < (m : Int)
  around : ∀ m, 0 < m → m < l.length → (up l m).toNat ∈ chain l (m - 1)
  kinds : ∀ m, m < l.length → 1 ≤ (l.getD m z).kind ∧ (l.getD m z).kind ≤ A.top
  wants : ∀ m, m < l.length → cnt l m (m + 1) (l.length - (m + 1)) = A.want (l.getD m z).kind

theorem Par.loc {A : Arity} {l : List Nd} {t : Tr} (h : Par A l 0 (-1) t l.length) : Loc A l := by
  have at1 : ∀ (q : Nat) (x : Nd), l[q]? = some x → l.getD q z = x := fun q x h => by rw [List.getD_eq_getElem?_getD, h]; rfl
  refine ⟨fun _ => h.span.2.2, fun m h1 h2 => by have := h.inside m h1 h2; omega, fun m h1 h2 => h.around m h1 h2, fun m h1 => ?_, fun m h1 => ?_⟩
  · obtain ⟨k, n, v, h2, h3, _⟩ := h.counts m (by omega) h1
    rw [at1 _ _ h2]; exact h3
  · obtain ⟨k, n, v, h2, _, h3⟩ := h.counts m (by omega) h1
    rw [at1 _ _ h2]; exact h3

theorem Loc.past {A : Arity} {l : List Nd} (L : Loc A l) {i e : Nat} (hi : i < e) (he : e < l.length) (hu : up l e < (i : Int)) : ∀ m, e ≤ m → m < l.length → ∀ x ∈ chain l m, x < i ∨ e ≤ x := by
  intro m
  induction m using Nat.strongRecOn with
  | _ m ih =>
    intro h1 h2 x hx
    have ha := L.ahead m (by omega) h2
    rw [chain_up ha, List.mem_cons] at hx
    rcases hx with rfl | hx
    · exact .inr h1
    · by_cases hm : m = e
      · subst hm
        have := chain_le _ _ hx
        exact .inl (by omega)
      · exact ih (m - 1) (by omega) (by omega) (by omega) x (chain_trans _ _ _ (L.around m (by omega) h2) hx)

theorem Loc.par {A : Arity} {l : List Nd} (L : Loc A l) (hA : ∀ k, A.want k ≤ 2) : ∀ (d i : Nat), i + d = l.length → 0 < d → ∃ t e, Par A l i (up l i) t e ∧ (e = l.length ∨ up l e < (i : Int)) := by
  intro d
  induction d using Nat.strongRecOn with
  | _ d ih =>
    intro i hi hd
    have hlt : i < l.length := by omega
    have hx : l[i]? = some ⟨(l.getD i z).kind, (l.getD i z).n, up l i⟩ := get_of hlt
    have hk := L.kinds i hlt
    have hw := L.wants i hlt
    -- the first part, if there is any
    have first : ∀ h : 0 < A.want (l.getD i z).kind, i + 1 < l.length ∧ up l (i + 1) = (i : Int) := by
      intro h
      have h1 : i + 1 < l.length := by
        by_cases h1 : i + 1 < l.length
        · exact h1
        · rw [show l.length - (i + 1) = 0 by omega] at hw
          have : cnt l i (i + 1) 0 = 0 := rfl
          omega
      refine ⟨h1, ?_⟩
      have ha := L.ahead (i + 1) (by omega) h1
      by_cases hu : up l (i + 1) = (i : Int)
      · exact hu
      · have hz : cnt l i (i + 1) (l.length - (i + 1)) = 0 := cnt_zero l i _ _ (fun m h2 h3 he => by
          have hp := L.past (i := i) (e := i + 1) (by omega) h1 (by omega) m (by omega) (by omega) i (by
            rw [chain_up (L.ahead m (by omega) (by omega)), he, Int.toNat_natCast]
            exact List.mem_cons_of_mem _ (chain_self l i))
          omega)
        omega
    by_cases h0 : A.want (l.getD i z).kind = 0
    · refine ⟨_, i + 1, .leaf hx hk h0, ?_⟩
      by_cases h1 : i + 1 < l.length
      · refine .inr ?_
        have ha := L.ahead (i + 1) (by omega) h1
        by_cases hu : up l (i + 1) = (i : Int)
        · obtain ⟨d', hd'⟩ : ∃ d', l.length - (i + 1) = d' + 1 := ⟨l.length - (i + 1) - 1, by omega⟩
          rw [hd', h0] at hw
          have hw' : (if up l (i + 1) = (i : Int) then 1 else 0) + cnt l i (i + 1 + 1) d' = 0 := hw
          rw [if_pos hu] at hw'; omega
        · omega
      · exact .inl (by omega)
    · obtain ⟨h1, hu1⟩ := first (by omega)
      obtain ⟨a, e1, pa, he1⟩ := ih (l.length - (i + 1)) (by omega) (i + 1) (by omega) (by omega)
      rw [hu1] at pa
      have hs1 := pa.span
      have hl1 := pa.lt
      have c1 : cnt l i (i + 1) (e1 - (i + 1)) = 1 := by
        obtain ⟨d', hd'⟩ : ∃ d', e1 - (i + 1) = d' + 1 := ⟨e1 - (i + 1) - 1, by omega⟩
        rw [hd']
        show (if up l (i + 1) = (i : Int) then 1 else 0) + cnt l i (i + 1 + 1) d' = 1
        rw [if_pos hu1, cnt_zero]
        intro q h3 h4
        have := pa.inside q (by omega) (by omega); omega
      have c2 : cnt l i (i + 1) (l.length - (i + 1)) = 1 + cnt l i e1 (l.length - e1) := by
        rw [show l.length - (i + 1) = (e1 - (i + 1)) + (l.length - e1) by omega, cnt_add, c1, show i + 1 + (e1 - (i + 1)) = e1 by omega]
      by_cases hw1 : A.want (l.getD i z).kind = 1
      · refine ⟨_, e1, .un hx hk hw1 pa, ?_⟩
        by_cases h2 : e1 < l.length
        · refine .inr ?_
          have hu := he1.resolve_left (by omega)
          by_cases hq : up l e1 = (i : Int)
          · obtain ⟨d', hd'⟩ : ∃ d', l.length - e1 = d' + 1 := ⟨l.length - e1 - 1, by omega⟩
            have : cnt l i e1 (l.length - e1) = (if up l e1 = (i : Int) then 1 else 0) + cnt l i (e1 + 1) d' := by rw [hd']; rfl
            rw [if_pos hq] at this; omega
          · omega
        · exact .inl (by omega)
      · have hw2 : A.want (l.getD i z).kind = 2 := by have := hA (l.getD i z).kind; omega
        have h2 : e1 < l.length := by
          by_cases h2 : e1 < l.length
          · exact h2
          · rw [show l.length - e1 = 0 by omega] at c2
            have : cnt l i e1 0 = 0 := rfl
            omega
        have hu := he1.resolve_left (by omega)
        have hu2 : up l e1 = (i : Int) := by
          by_cases hq : up l e1 = (i : Int)
          · exact hq
          · have hz : cnt l i e1 (l.length - e1) = 0 := cnt_zero l i _ _ (fun m h3 h4 he => by
              have hp := L.past (i := i) (e := e1) (by omega) h2 (by omega) m (by omega) (by omega) i (by
                rw [chain_up (L.ahead m (by omega) (by omega)), he, Int.toNat_natCast]
                exact List.mem_cons_of_mem _ (chain_self l i))
              omega)
            omega
        obtain ⟨b, e2, pb, he2⟩ := ih (l.length - e1) (by omega) e1 (by omega) (by omega)
        rw [hu2] at pb
        have hl2 := pb.lt
        have hs2 := pb.span
        refine ⟨_, e2, .bin hx hk hw2 pa pb, ?_⟩
        by_cases h3 : e2 < l.length
        · refine .inr ?_
          have hv := he2.resolve_left (by omega)
          have hav := L.ahead e2 (by omega) h3
          have hanc : e1 ∈ chain l (e2 - 1) := anc_of_sub (e := e2) (fun q h5 h6 => by have := pb.inside q h5 h6; omega) (e2 - 1) (by omega) (by omega)
          have hin := chain_below _ _ _ hanc (L.around e2 (by omega) h3) (by omega)
          have hin2 := chain_mem_up (L.ahead e1 (by omega) h2) hin (by omega)
          rw [hu2, Int.toNat_natCast] at hin2
          have hle := chain_le _ _ hin2
          by_cases hq : up l e2 = (i : Int)
          · obtain ⟨d1, hd1⟩ : ∃ d', e2 - e1 = d' + 1 := ⟨e2 - e1 - 1, by omega⟩
            obtain ⟨d2, hd2⟩ : ∃ d', l.length - e2 = d' + 1 := ⟨l.length - e2 - 1, by omega⟩
            have e3 : cnt l i e1 (l.length - e1) = cnt l i e1 (e2 - e1) + cnt l i e2 (l.length - e2) := by
              rw [show l.length - e1 = (e2 - e1) + (l.length - e2) by omega, cnt_add, show e1 + (e2 - e1) = e2 by omega]
            have e4 : cnt l i e1 (e2 - e1) = (if up l e1 = (i : Int) then 1 else 0) + cnt l i (e1 + 1) d1 := by rw [hd1]; rfl
            have e5 : cnt l i e2 (l.length - e2) = (if up l e2 = (i : Int) then 1 else 0) + cnt l i (e2 + 1) d2 := by rw [hd2]; rfl
            rw [if_pos hu2] at e4
            rw [if_pos hq] at e5
            omega
          · omega
        · exact .inl (by omega)

theorem loc_iff {A : Arity} {l : List Nd} (hA : ∀ k, A.want k ≤ 2) (hl : 0 < l.length) : Loc A l ↔ ∃ t, Par A l 0 (-1) t l.length := by
  constructor
  · intro L
    obtain ⟨t, e, h, he⟩ := L.par hA l.length 0 (by omega) hl
    rw [L.root hl] at h
    rcases he with rfl | he
    · exact ⟨t, h⟩
    · have hlt := h.lt
      have hs := h.span
      by_cases h2 : e < l.length
      · have := L.ahead e (by omega) h2; omega
      · obtain rfl : e = l.length := by omega
        exact ⟨t, h⟩
  · rintro ⟨t, h⟩
    exact h.loc

theorem Par.unique {A : Arity} {l : List Nd} {i e e' : Nat} {u : Int} {t t' : Tr} (h : Par A l i u t e) (h' : Par A l i u t' e') : t = t' ∧ e = e' := by
  induction h generalizing t' e' with
  | @leaf i u k n h hk hw =>
    cases h' with
    | leaf h2 _ _ => rw [h] at h2; injection h2 with h2; injection h2 with a b c; subst a; subst b; exact ⟨rfl, rfl⟩
    | un h2 _ hw2 _ => rw [h] at h2; injection h2 with h2; injection h2 with a b c; subst a; omega
    | bin h2 _ hw2 _ _ => rw [h] at h2; injection h2 with h2; injection h2 with a b c; subst a; omega
  | @un i e u k n a h hk hw ha ih =>
    cases h' with
    | leaf h2 _ hw2 => rw [h] at h2; injection h2 with h2; injection h2 with a b c; subst a; omega
    | un h2 _ _ ha2 =>
      rw [h] at h2; injection h2 with h2; injection h2 with a b c; subst a; subst b
      obtain ⟨rfl, rfl⟩ := ih ha2
      exact ⟨rfl, rfl⟩
    | bin h2 _ hw2 _ _ => rw [h] at h2; injection h2 with h2; injection h2 with a b c; subst a; omega
  | @bin i e e' u k n a b h hk hw ha hb ih1 ih2 =>
    cases h' with
    | leaf h2 _ hw2 => rw [h] at h2; injection h2 with h2; injection h2 with a b c; subst a; omega
    | un h2 _ hw2 _ => rw [h] at h2; injection h2 with h2; injection h2 with a b c; subst a; omega
    | bin h2 _ _ ha2 hb2 =>
      rw [h] at h2; injection h2 with h2; injection h2 with a b c; subst a; subst b
      obtain ⟨rfl, rfl⟩ := ih1 ha2
      obtain ⟨rfl, rfl⟩ := ih2 hb2
      exact ⟨rfl, rfl⟩
end Go.Proofs.Ytcjhhdecckcibaa.TreeM

namespace Go.Proofs.Ytcjhhdecckcibaa.CombL
open Go.RowKit Go.Proofs.Ytcjhhdecckcibaa.G Go.Proofs.Ytcjhhdecckcibaa.EvL Go.Proofs.Ytcjhhdecckcibaa.TreeM Go.Proofs.YtcjhhdecckcibaaW.PrintWords Go.Proofs.YtcjhhdecckcibaaW.PrintLast
set_option linter.unusedVariables false

def conv (c : S55) : S52 := ⟨c.f0, c.f1, c.f2⟩
def nd (c : S52) : Nd := ⟨c.f0, c.f1, c.f2⟩
theorem rdC (l : List S52) (i : Nat) : rd_T52 l (i : Int) = l.getD i z52 := by unfold rd_T52; rw [Int.toNat_natCast]
theorem rdL (l : List S55) (i : Nat) : rd_T55 l (i : Int) = l.getD i z55 := by unfold rd_T55; rw [Int.toNat_natCast]
theorem next (i : Nat) {n : Nat} (h : i < n) (hn : n ≤ 9223372036854775807) : wrap64 ((i : Int) + 1) = ((i + 1 : Nat) : Int) := by rw [w64 (by omega) (by omega)]; omega
theorem getD_nd (l : List S52) (i : Nat) : (l.map nd).getD i z = nd (l.getD i z52) := by
  rw [List.getD_eq_getElem?_getD, List.getD_eq_getElem?_getD, List.getElem?_map]
  cases l[i]? <;> rfl
theorem up_nd (l : List S52) (i : Nat) : (l.getD i z52).f2 = TreeM.up (l.map nd) i := by unfold TreeM.up; rw [getD_nd]; rfl

theorem toCombs (l : List S55) (hl : l.length ≤ 1048576) : Ev (fun k => laws_toCombS.f k l) (l.map conv) := by
  unfold laws_toCombS.f
  refine Ev.ite_pos (by omega) (Ev.ite_pos (by omega) ?_)
  rw [Int.toNat_natCast]
  refine Ev.of_eq (ev_fill (fun k acc i => laws_toCombS.l0 k l acc i) l.length (fun j => conv (l.getD j z55)) ?_ ?_ l.length 0 (List.replicate l.length z52) (by omega) (by simp)) ?_
  · intro k acc i hi hacc
    simp only [laws_toCombS.l0, laws_toComb.f, Option.bind_some]
    rw [if_pos (by omega), if_pos (by omega), if_pos (by omega), next i hi (by omega), rdL, Int.toNat_natCast]
    rfl
  · intro k acc hacc
    simp only [laws_toCombS.l0]
    rw [if_neg (by omega)]
  · rw [List.take_zero, List.nil_append]
    simp only [Nat.zero_add]
    rw [show (List.range l.length).map (fun j => conv (l.getD j z55)) = ((List.range l.length).map fun j => l.getD j z55).map conv by rw [List.map_map]; rfl, range_getD]

theorem eqCombs (a : List S52) (ha : a.length ≤ 9223372036854775807) : Ev (fun k => laws_eqCombS.f k a a) true := by
  unfold laws_eqCombS.f
  refine Ev.ite_pos rfl ?_
  refine Ev.of_eq (ev_all (fun k i => laws_eqCombS.l0 k a a i) a.length (fun _ => true) ?_ ?_ a.length 0 (by omega)) (by simp)
  · intro k i hi
    simp only [laws_eqCombS.l0, laws_eqComb.f]
    rw [if_pos (by omega), if_pos (by omega), if_pos (by omega)]
    simp only [if_true, Option.bind_some]
    rw [next i hi ha]
  · intro k
    simp only [laws_eqCombS.l0]
    rw [if_neg (by omega)]

theorem l1In_eq (a b c : Int) : spec_l1In.f a b c = some (decide (b ≤ a ∧ a ≤ c)) := by
  unfold spec_l1In.f
  by_cases h : a ≥ b
  · rw [if_pos h]; congr 1; exact decide_eq_decide.mpr (by omega)
  · rw [if_neg h, decide_eq_false (by omega)]

def ar : Arity := ⟨5, fun k => if k = 2 then 2 else 0⟩
theorem ar2 (k : Int) : ar.want k ≤ 2 := by show (if k = 2 then 2 else 0) ≤ 2; split <;> omega

structure NodeOk (L : List Nd) (m : Nat) : Prop where
  top : m = 0 ↔ up L m = -1
  ahead : -1 ≤ up L m ∧ up L m < (m : Int)
  kind : 1 ≤ (L.getD m z).kind ∧ (L.getD m z).kind ≤ 5
  num : 0 ≤ (L.getD m z).n ∧ (L.getD m z).n ≤ 999 ∧ ((L.getD m z).kind = 1 ∨ (L.getD m z).n = 0)
  around : m = 0 ∨ ∃ x ∈ chain L (m - 1), (x : Int) = up L m
  deep : (chain L m).length ≤ 60
  wants : cnt L m (m + 1) (L.length - (m + 1)) = ar.want (L.getD m z).kind

theorem parts (l : List S52) (i : Nat) (hl : l.length ≤ 200) : ∀ (d a : Nat) (acc : List Int), a + d = l.length → acc.length + d ≤ 200 → ∃ r, Ev (fun k => spec_ldParts.l0 k l i acc a) r ∧ r.length = acc.length + cnt (l.map nd) i a d := by
  intro d
  induction d with
  | zero =>
    intro a acc ha _
    refine ⟨acc, Ev.step (f := fun _ => some acc) (fun k => ?_) (Ev.now _), rfl⟩
    simp only [spec_ldParts.l0]
    rw [if_neg (by omega)]
  | succ d ih =>
    intro a acc ha hacc
    by_cases h : up (l.map nd) a = (i : Int)
    · obtain ⟨r, hr, hn⟩ := ih (a + 1) (acc ++ [(a : Int)]) (by omega) (by simp; omega)
      refine ⟨r, Ev.step (fun k => ?_) hr, ?_⟩
      · simp only [spec_ldParts.l0]
        rw [if_pos (by omega), if_pos (by omega), rdC, up_nd, if_pos h, if_pos (by omega), next a (n := l.length) (by omega) (by omega)]
      · rw [hn, List.length_append]
        show acc.length + 1 + _ = acc.length + ((if up (l.map nd) a = (i : Int) then 1 else 0) + _)
        rw [if_pos h]; omega
    · obtain ⟨r, hr, hn⟩ := ih (a + 1) acc (by omega) (by omega)
      refine ⟨r, Ev.step (fun k => ?_) hr, ?_⟩
      · simp only [spec_ldParts.l0]
        rw [if_pos (by omega), if_pos (by omega), rdC, up_nd, if_neg h, next a (n := l.length) (by omega) (by omega)]
      · rw [hn]
        show _ = acc.length + ((if up (l.map nd) a = (i : Int) then 1 else 0) + _)
        rw [if_neg h]; omega

theorem ldParts (l : List S52) (i : Nat) (hi : i < l.length) (hl : l.length ≤ 200) : ∃ r, Ev (fun k => spec_ldParts.f k l i) r ∧ r.length = cnt (l.map nd) i (i + 1) (l.length - (i + 1)) := by
  obtain ⟨r, hr, hn⟩ := parts l i hl (l.length - (i + 1)) (i + 1) [] (by omega) (by simp; omega)
  refine ⟨r, ?_, by rw [hn]; simp⟩
  unfold spec_ldParts.f
  rw [next i hi (by omega)]
  exact hr

theorem deepLoop (l : List S52) (hl : l.length ≤ 200) (i : Nat) (hi : i < l.length) (b : Bool) (kd n u : Int) (h : ∀ m, m ≤ i → -1 ≤ up (l.map nd) m ∧ up (l.map nd) m < (m : Int)) {r : Bool} :
    ∀ (j d : Nat), j ≤ i → d + j ≤ 400 → Ev (fun k => spec_GoodComb.l2 k l i b ((d + (chain (l.map nd) j).length : Nat) : Int) (-1) l l.length i kd n u) r → Ev (fun k => spec_GoodComb.l2 k l i b (d : Int) (j : Int) l l.length i kd n u) r := by
  intro j
  induction j using Nat.strongRecOn with
  | _ j ih =>
    intro d hj hd hE
    refine Ev.step (f := fun k => spec_GoodComb.l2 k l i b ((d + 1 : Nat) : Int) (up (l.map nd) j) l l.length i kd n u) (fun k => ?_) ?_
    · show (if (j : Int) ≥ 0 then _ else _) = _
      rw [if_pos (by omega), if_pos (by omega), if_pos (by omega), rdC, up_nd, w64 (by omega) (by omega)]
      rfl
    · have hu := h j hj
      by_cases hu0 : 0 ≤ up (l.map nd) j
      · rw [show up (l.map nd) j = (((up (l.map nd) j).toNat : Nat) : Int) by omega]
        refine ih _ (by omega) (d + 1) (by omega) (by omega) ?_
        rw [chain_up ⟨hu0, hu.2⟩, List.length_cons] at hE
        rw [show d + 1 + (chain (l.map nd) (up (l.map nd) j).toNat).length = d + ((chain (l.map nd) (up (l.map nd) j).toNat).length + 1) by omega]
        exact hE
      · rw [chain_top (by omega)] at hE
        rw [show up (l.map nd) j = -1 by omega]
        exact hE

theorem aroundLoop (l : List S52) (hl : l.length ≤ 200) (i : Nat) (hi : i < l.length) (kd n u : Int) (h : ∀ m, m < i → -1 ≤ up (l.map nd) m ∧ up (l.map nd) m < (m : Int)) {r : Bool} {c : Bool} :
    ∀ (j : Nat), j < i → (c = true ↔ ∃ x ∈ chain (l.map nd) j, (x : Int) = u) → Ev (fun k => spec_GoodComb.j3 k l i c l l.length i kd n u) r → Ev (fun k => spec_GoodComb.l1 k l i false (j : Int) l l.length i kd n u) r := by
  intro j
  induction j using Nat.strongRecOn with
  | _ j ih =>
    intro hj hc hE
    have hu := h j hj
    refine Ev.step (f := fun k => spec_GoodComb.l1 k l i ((j : Int) == u) (up (l.map nd) j) l l.length i kd n u) (fun k => ?_) ?_
    · show (if (j : Int) ≥ 0 then _ else _) = _
      rw [if_pos (by omega), if_neg (by simp), if_pos (by omega), if_pos (by omega), rdC, up_nd]
    · by_cases hju : (j : Int) = u
      · obtain rfl : c = true := hc.mpr ⟨j, chain_self _ _, hju⟩
        rw [show ((j : Int) == u) = true by simpa using hju]
        refine Ev.step (f := fun k => spec_GoodComb.j3 k l i true l l.length i kd n u) (fun k => ?_) hE
        simp only [spec_GoodComb.l1]
        simp
      · rw [show ((j : Int) == u) = false by simpa using hju]
        by_cases hu0 : 0 ≤ up (l.map nd) j
        · rw [show up (l.map nd) j = (((up (l.map nd) j).toNat : Nat) : Int) by omega]
          refine ih _ (by omega) (by omega) (hc.trans ?_) hE
          rw [chain_up ⟨hu0, hu.2⟩]
          simp [hju]
        · obtain rfl : c = false := by
            cases c with
            | false => rfl
            | true =>
              obtain ⟨x, hx, hxu⟩ := hc.mp rfl
              rw [chain_top (by omega)] at hx
              have : x = j := by simpa using hx
              subst this; exact absurd hxu hju
          refine Ev.step (f := fun k => spec_GoodComb.j3 k l i false l l.length i kd n u) (fun k => ?_) hE
          simp only [spec_GoodComb.l1]
          rw [if_neg (by omega)]

theorem badNode (l : List S52) (a b c kd n u : Int) : Ev (fun k => spec_GoodComb.j1 k l a l b c true kd n u) false := by
  refine Ev.step (f := fun _ => some false) (fun k => ?_) (Ev.now _)
  simp only [spec_GoodComb.j1]
  rfl

theorem specLoop (l : List S52) (hl : l.length ≤ 200) : ∀ (d i : Nat), i + d = l.length → (∀ m, m < i → -1 ≤ up (l.map nd) m ∧ up (l.map nd) m < (m : Int)) →
    ∃ b, Ev (fun k => spec_GoodComb.l0 k l l l.length i) b ∧ (b = true ↔ ∀ m, i ≤ m → m < l.length → NodeOk (l.map nd) m) := by
  intro d
  induction d with
  | zero =>
    intro i hi _
    refine ⟨true, Ev.step (f := fun _ => some true) (fun k => ?_) (Ev.now _), ?_⟩
    · simp only [spec_GoodComb.l0]
      rw [if_neg (by omega)]
    · exact ⟨fun _ m h1 h2 => by omega, fun _ => rfl⟩
  | succ d ih =>
    intro i hi hah
    have hil : i < l.length := by omega
    have eu : (l.getD i z52).f2 = TreeM.up (l.map nd) i := up_nd l i
    have ek : (l.getD i z52).f0 = ((l.map nd).getD i z).kind := by rw [getD_nd]; rfl
    have en : (l.getD i z52).f1 = ((l.map nd).getD i z).n := by rw [getD_nd]; rfl
    have hlen : (l.map nd).length = l.length := List.length_map ..
    -- a node that is not good
    have bad : ∀ {F : Nat → Option Bool}, ¬ NodeOk (l.map nd) i → Ev F false → ∃ b, Ev F b ∧ (b = true ↔ ∀ m, i ≤ m → m < l.length → NodeOk (l.map nd) m) :=
      fun hn hE => ⟨false, hE, fun h => absurd h (by simp), fun h => absurd (h i (Nat.le_refl _) hil) hn⟩
    generalize hu : up (l.map nd) i = u at *
    generalize hk : ((l.map nd).getD i z).kind = kd at *
    generalize hn : ((l.map nd).getD i z).n = n at *
    have st : ∀ k, spec_GoodComb.l0 (k + 1) l l l.length i = (if ((((i : Int) == 0) != (u == (-1))) = true) then (spec_GoodComb.j1 k l i l l.length i true kd n u) else if (-1 ≤ u ∧ u ≤ (i : Int) - 1) then (if (1 ≤ kd ∧ kd ≤ 5) then (if (0 ≤ n ∧ n ≤ 999) then (if kd = 1 then (spec_GoodComb.j1 k l i l l.length i false kd n u) else (spec_GoodComb.j1 k l i l l.length i (n != 0) kd n u)) else (spec_GoodComb.j1 k l i l l.length i true kd n u)) else (spec_GoodComb.j1 k l i l l.length i true kd n u)) else (spec_GoodComb.j1 k l i l l.length i true kd n u)) := by
      intro k
      simp only [spec_GoodComb.l0]
      rw [if_pos (by omega), if_pos (by omega), if_pos (by omega), rdC, eu, ek, en, l1In_eq, l1In_eq, l1In_eq, w64 (by omega) (by omega)]
      simp only [Option.bind_some, decide_eq_true_eq]
    have hT : ((((i : Int) == 0) != (u == (-1))) = true) ↔ ¬ (i = 0 ↔ u = -1) := by
      have e1 : ((i : Int) == 0) = decide (i = 0) := by rw [Bool.eq_iff_iff]; simp
      have e2 : (u == (-1)) = decide (u = -1) := by rw [Bool.eq_iff_iff]; simp
      rw [e1, e2]
      by_cases h1 : i = 0 <;> by_cases h2 : u = -1 <;> simp [h1, h2]
    by_cases h1 : i = 0 ↔ u = -1
    case neg =>
      exact bad (fun h => h1 (hu ▸ h.top)) (Ev.step (fun k => (st k).trans (if_pos (hT.mpr h1))) (badNode ..))
    have st := fun k => (st k).trans (if_neg (fun h => hT.mp h h1))
    by_cases h2 : -1 ≤ u ∧ u ≤ (i : Int) - 1
    case neg =>
      exact bad (fun h => h2 (by have := h.ahead; rw [hu] at this; omega)) (Ev.step (fun k => (st k).trans (if_neg h2)) (badNode ..))
    have st := fun k => (st k).trans (if_pos h2)
    by_cases h3 : 1 ≤ kd ∧ kd ≤ 5
    case neg =>
      exact bad (fun h => h3 (hk ▸ h.kind)) (Ev.step (fun k => (st k).trans (if_neg h3)) (badNode ..))
    have st := fun k => (st k).trans (if_pos h3)
    by_cases h4 : 0 ≤ n ∧ n ≤ 999
    case neg =>
      exact bad (fun h => h4 (by have := h.num; rw [hn] at this; omega)) (Ev.step (fun k => (st k).trans (if_neg h4)) (badNode ..))
    have st := fun k => (st k).trans (if_pos h4)
    by_cases h5 : kd = 1 ∨ n = 0
    case neg =>
      refine bad (fun h => h5 (by have := h.num; rw [hn, hk] at this; omega)) (Ev.step (f := fun k => spec_GoodComb.j1 k l i l l.length i true kd n u) (fun k => (st k).trans ?_) (badNode ..))
      rw [if_neg (by omega), show (n != 0) = true by simp; omega]
    -- the node itself is good; what it is in, how deep, how many parts
    have st : ∀ k, spec_GoodComb.l0 (k + 1) l l l.length i = spec_GoodComb.j1 k l i l l.length i false kd n u := by
      intro k
      rw [st k]
      by_cases h6 : kd = 1
      · rw [if_pos h6]
      · rw [if_neg h6, show (n != 0) = false by simp; omega]
    have hah' : ∀ m, m < i + 1 → -1 ≤ up (l.map nd) m ∧ up (l.map nd) m < (m : Int) := by
      intro m hm
      by_cases hmi : m = i
      · subst hmi; rw [hu]; omega
      · exact hah m (by omega)
    obtain ⟨b, hb, hbi⟩ := ih (i + 1) (by omega) hah'
    obtain ⟨ps, hps, hpn⟩ := ldParts l i hil hl
    -- the end
    obtain ⟨c, hc⟩ : ∃ c : Bool, c = true ↔ (i = 0 ∨ ∃ x ∈ chain (l.map nd) (i - 1), (x : Int) = u) := by
      by_cases h : (i = 0 ∨ ∃ x ∈ chain (l.map nd) (i - 1), (x : Int) = u)
      · exact ⟨true, by simp [h]⟩
      · exact ⟨false, by simp [h]⟩
    have go : ∀ {r : Bool}, Ev (fun k => spec_GoodComb.l2 k l i c (((chain (l.map nd) i).length : Nat) : Int) (-1) l l.length i kd n u) r → Ev (fun k => spec_GoodComb.l0 k l l l.length i) r := by
      intro r hE
      refine Ev.step st ?_
      refine Ev.step (f := fun k => spec_GoodComb.l1 k l i ((i : Int) == 0) ((i : Int) - 1) l l.length i kd n u) (fun k => ?_) ?_
      · simp only [spec_GoodComb.j1]
        rw [w64 (by omega) (by omega)]
        rfl
      · have hj3 : Ev (fun k => spec_GoodComb.j3 k l i c l l.length i kd n u) r := by
          refine Ev.step (f := fun k => spec_GoodComb.l2 k l i c ((0 : Nat) : Int) (i : Int) l l.length i kd n u) (fun k => rfl) ?_
          refine deepLoop l hl i hil c kd n u (fun m hm => hah' m (by omega)) i 0 (Nat.le_refl _) (by omega) ?_
          rw [Nat.zero_add]; exact hE
        by_cases hi0 : i = 0
        · obtain rfl : c = true := hc.mpr (.inl hi0)
          subst hi0
          refine Ev.step (f := fun k => spec_GoodComb.j3 k l (0 : Nat) true l l.length (0 : Nat) kd n u) (fun k => ?_) hj3
          simp only [spec_GoodComb.l1]
          rfl
        · rw [show ((i : Int) == 0) = false by simpa using hi0, show (i : Int) - 1 = ((i - 1 : Nat) : Int) by omega]
          refine aroundLoop l hl i hil kd n u hah (i - 1) (by omega) (hc.trans ?_) hj3
          simp [hi0]
    have fin : ∀ k, spec_GoodComb.l2 (k + 1) l i c (((chain (l.map nd) i).length : Nat) : Int) (-1) l l.length i kd n u = (if c = true then (if (chain (l.map nd) i).length ≤ 60 then ((spec_ldParts.f k l i).bind fun t => (if t.length = ar.want kd then (spec_GoodComb.l0 k l l l.length ((i + 1 : Nat) : Int)) else (some false))) else some false) else (some false)) := by
      intro k
      simp only [spec_GoodComb.l2]
      rw [if_neg (by decide), next i hil (by omega)]
      have hd : ((((chain (l.map nd) i).length : Nat) : Int) > 60) ↔ ¬ (chain (l.map nd) i).length ≤ 60 := by omega
      have hw : ∀ (t : List Int), (t.length = ar.want kd) ↔ (if kd = 2 then (t.length : Int) = 2 else (t.length : Int) = 0) := by
        intro t
        show (t.length = if kd = 2 then 2 else 0) ↔ _
        by_cases h6 : kd = 2
        · rw [if_pos h6, if_pos h6]; omega
        · rw [if_neg h6, if_neg h6]; omega
      by_cases h6 : kd = 2
      · simp only [hw, if_pos h6]
        by_cases h7 : (chain (l.map nd) i).length ≤ 60
        · simp only [if_pos h7, if_neg (fun h => hd.mp h h7)]
        · simp only [if_neg h7, if_pos (hd.mpr h7)]
      · simp only [hw, if_neg h6]
        by_cases h7 : (chain (l.map nd) i).length ≤ 60
        · simp only [if_pos h7, if_neg (fun h => hd.mp h h7)]
        · simp only [if_neg h7, if_pos (hd.mpr h7)]
    by_cases h7 : c = true
    case neg =>
      exact bad (fun h => h7 (hc.mpr (hu ▸ h.around))) (go (Ev.step (f := fun _ => some false) (fun k => (fin k).trans (if_neg h7)) (Ev.now _)))
    have fin := fun k => (fin k).trans (if_pos h7)
    by_cases h8 : (chain (l.map nd) i).length ≤ 60
    case neg =>
      exact bad (fun h => h8 h.deep) (go (Ev.step (f := fun _ => some false) (fun k => (fin k).trans (if_neg h8)) (Ev.now _)))
    have fin := fun k => (fin k).trans (if_pos h8)
    by_cases h9 : ps.length = ar.want kd
    case neg =>
      exact bad (fun h => h9 (by have := h.wants; rw [hk, hlen] at this; rw [hpn]; exact this)) (go (Ev.step fin (Ev.bind hps (Ev.ite_neg h9 (Ev.now _)))))
    refine ⟨b, go (Ev.step fin (Ev.bind hps (Ev.ite_pos h9 hb))), hbi.trans ?_⟩
    have good : NodeOk (l.map nd) i := by
      refine ⟨by rw [hu]; exact h1, by rw [hu]; omega, by rw [hk]; exact h3, by rw [hn, hk]; exact ⟨h4.1, h4.2, h5⟩, by rw [hu]; exact hc.mp h7, h8, ?_⟩
      rw [hk, hlen, ← hpn]; exact h9
    constructor
    · intro h m hm1 hm2
      by_cases hmi : m = i
      · subst hmi; exact good
      · exact h m (by omega) hm2
    · intro h m hm1 hm2
      exact h m (by omega) hm2
end Go.Proofs.Ytcjhhdecckcibaa.CombL

namespace Go.Proofs.Ytcjhhdecckcibaa.CombL
open Go.RowKit Go.Proofs.Ytcjhhdecckcibaa.G Go.Proofs.Ytcjhhdecckcibaa.EvL Go.Proofs.Ytcjhhdecckcibaa.TreeM Go.Proofs.YtcjhhdecckcibaaW.PrintWords Go.Proofs.YtcjhhdecckcibaaW.PrintLast
set_option linter.unusedVariables false

def toS : Tr → S58
  | .leaf k n => ⟨k, n, []⟩
  | .un k n a => ⟨k, n, [toS a]⟩
  | .bin k n a b => ⟨k, n, [toS a, toS b]⟩

theorem at_nd {l : List S52} {i : Nat} (h : i < l.length) : (l.map nd)[i]? = some ⟨(l.getD i z52).f0, (l.getD i z52).f1, TreeM.up (l.map nd) i⟩ := by
  rw [get_of (by rw [List.length_map]; exact h), getD_nd, ← up_nd]; rfl

theorem combAt_ev (l : List S52) (hl : l.length ≤ 200) : ∀ (d i : Nat) (u : Int), i + d = l.length →
    (∃ t e, Par ar (l.map nd) i u t e ∧ Ev (fun k => impl_combAt.f k l i u) ((toS t).f0, (toS t).f1, (toS t).f2, (e : Int), true)) ∨
    ((∀ t e, ¬ Par ar (l.map nd) i u t e) ∧ Ev (fun k => impl_combAt.f k l i u) (0, 0, ([] : List S58), 0, false)) := by
  intro d
  induction d using Nat.strongRecOn with
  | _ d ih =>
    intro i u hi
    have bad : ∀ {x}, Ev (fun k => impl_combAt.j0 k l x true) (0, 0, ([] : List S58), 0, false) := fun {x} => Ev.step (f := fun _ => some (0, 0, ([] : List S58), 0, false)) (fun k => by simp only [impl_combAt.j0]; rfl) (Ev.now _)
    have hlen : (l.map nd).length = l.length := List.length_map ..
    by_cases hd : d = 0
    · refine .inr ⟨fun t e h => ?_, Ev.step (f := fun k => impl_combAt.j0 k l i true) (fun k => ?_) bad⟩
      · have := h.lt; have := h.span; omega
      · simp only [impl_combAt.f]; rw [if_pos (by omega)]
    have hil : i < l.length := by omega
    have hx := at_nd hil
    generalize hk : (l.getD i z52).f0 = kd at *
    generalize hn : (l.getD i z52).f1 = n at *
    -- what a tree from here on begins with
    have inv : ∀ {t e}, Par ar (l.map nd) i u t e → TreeM.up (l.map nd) i = u ∧ 1 ≤ kd ∧ kd ≤ 5 := by
      intro t e h
      cases h with
      | leaf h2 h3 _ => rw [hx] at h2; injection h2 with h2; injection h2 with a b c; subst a; exact ⟨c, h3⟩
      | un h2 h3 _ _ => rw [hx] at h2; injection h2 with h2; injection h2 with a b c; subst a; exact ⟨c, h3⟩
      | bin h2 h3 _ _ _ => rw [hx] at h2; injection h2 with h2; injection h2 with a b c; subst a; exact ⟨c, h3⟩
    have st : ∀ k, impl_combAt.f (k + 1) l i u = (if TreeM.up (l.map nd) i = u then (if kd < 1 then (impl_combAt.j0 k l i true) else (impl_combAt.j0 k l i (decide (kd > 5)))) else (impl_combAt.j0 k l i true)) := by
      intro k
      simp only [impl_combAt.f]
      rw [if_neg (by omega), if_pos (by omega), if_pos (by omega), rdC, up_nd, hk]
    by_cases h1 : TreeM.up (l.map nd) i = u
    case neg => exact .inr ⟨fun t e h => h1 (inv h).1, Ev.step (fun k => (st k).trans (if_neg h1)) bad⟩
    have st := fun k => (st k).trans (if_pos h1)
    by_cases h2 : kd < 1
    · exact .inr ⟨fun t e h => by have := inv h; omega, Ev.step (fun k => (st k).trans (if_pos h2)) bad⟩
    have st := fun k => (st k).trans (if_neg h2)
    by_cases h3 : kd > 5
    · refine .inr ⟨fun t e h => by have := inv h; omega, Ev.step (f := fun k => impl_combAt.j0 k l i true) (fun k => ?_) bad⟩
      rw [st k, decide_eq_true h3]
    have hkd : 1 ≤ kd ∧ kd ≤ ar.top := ⟨by omega, by show kd ≤ 5; omega⟩
    -- the rounds over its parts
    have go : ∀ {r}, Ev (fun k => impl_combAt.l0 k l i ((i + 1 : Nat) : Int) kd n []) r → Ev (fun k => impl_combAt.f k l i u) r := by
      intro r hE
      refine Ev.step (f := fun k => impl_combAt.j0 k l i false) (fun k => ?_) (Ev.step (fun k => ?_) hE)
      · rw [st k, decide_eq_false h3]
      · simp only [impl_combAt.j0]
        rw [if_neg (by simp), if_pos (by omega), if_pos (by omega), rdC, hk, hn, next i hil (by omega)]
    have done : ∀ (e : Int) (ps : List S58), (kd = 2 → ps.length = 2) → Ev (fun k => impl_combAt.l0 k l i e kd n ps) (kd, n, ps, e, true) := by
      intro e ps hps
      refine Ev.step (f := fun k => impl_combAt.j2 k l i e false kd n ps) (fun k => ?_) (Ev.step (f := fun _ => some (kd, n, ps, e, true)) (fun k => ?_) (Ev.now _))
      · simp only [impl_combAt.l0]
        by_cases h : kd = 2
        · rw [if_pos h, decide_eq_false (by have := hps h; omega)]
        · rw [if_neg h]
      · simp only [impl_combAt.j2]; rfl
    have one : ∀ (e : Nat) (ps : List S58), kd = 2 → ps.length < 2 → ∀ {r}, Ev (fun k => (impl_combAt.f k l e i).bind fun bt => (if bt.2.2.2.2 = true then (if ps.length < 3518437208883 then (impl_combAt.l0 k l i bt.2.2.2.1 kd n (ps ++ [(⟨bt.1, bt.2.1, bt.2.2.1⟩ : S58)])) else (none)) else (some (0, 0, ([] : List S58), 0, false)))) r → Ev (fun k => impl_combAt.l0 k l i e kd n ps) r := by
      intro e ps hk2 hps r hE
      refine Ev.step (f := fun k => impl_combAt.j2 k l i e true kd n ps) (fun k => ?_) (Ev.step (fun k => ?_) hE)
      · simp only [impl_combAt.l0]
        rw [if_pos hk2, decide_eq_true (by omega)]
      · simp only [impl_combAt.j2]; rfl
    by_cases hk2 : kd = 2
    case neg =>
      refine .inl ⟨.leaf kd n, i + 1, .leaf (by rw [hx, h1]) hkd (by show (if kd = 2 then 2 else 0) = 0; rw [if_neg hk2]), ?_⟩
      exact go (done _ _ (fun h => absurd h hk2))
    have hw : ar.want kd = 2 := by show (if kd = 2 then 2 else 0) = 2; rw [if_pos hk2]
    have invb : ∀ {t e}, Par ar (l.map nd) i u t e → ∃ a b e1, Par ar (l.map nd) (i + 1) i a e1 ∧ Par ar (l.map nd) e1 i b e := by
      intro t e h
      cases h with
      | leaf h2 _ h4 => rw [hx] at h2; injection h2 with h2; injection h2 with a b c; subst a; omega
      | un h2 _ h4 _ => rw [hx] at h2; injection h2 with h2; injection h2 with a b c; subst a; omega
      | bin _ _ _ h5 h6 => exact ⟨_, _, _, h5, h6⟩
    rcases ih (d - 1) (by omega) (i + 1) i (by omega) with ⟨a, e1, pa, ea⟩ | ⟨na, ea⟩
    case inr =>
      refine .inr ⟨fun t e h => ?_, go (one _ _ hk2 (by simp) (Ev.bind ea (Ev.ite_neg (by simp) (Ev.now _))))⟩
      obtain ⟨a, b, e1, h5, _⟩ := invb h
      exact na _ _ h5
    have s1 := pa.span
    have l1 := pa.lt
    rcases ih (l.length - e1) (by omega) e1 i (by omega) with ⟨b, e2, pb, eb⟩ | ⟨nb, eb⟩
    case inr =>
      refine .inr ⟨fun t e h => ?_, go (one _ _ hk2 (by simp) (Ev.bind ea (Ev.ite_pos rfl (Ev.ite_pos (by simp) (one _ _ hk2 (by simp) (Ev.bind eb (Ev.ite_neg (by simp) (Ev.now _))))))))⟩
      obtain ⟨a', b', e1', h5, h6⟩ := invb h
      obtain ⟨_, rfl⟩ := pa.unique h5
      exact nb _ _ h6
    refine .inl ⟨.bin kd n a b, e2, .bin (by rw [hx, h1]) hkd hw pa pb, ?_⟩
    have ea' : (⟨(toS a).f0, (toS a).f1, (toS a).f2⟩ : S58) = toS a := by cases toS a; rfl
    have eb' : (⟨(toS b).f0, (toS b).f1, (toS b).f2⟩ : S58) = toS b := by cases toS b; rfl
    refine go (one _ [] hk2 (by simp) (Ev.bind ea (Ev.ite_pos rfl (Ev.ite_pos (by simp) ?_))))
    show Ev (fun k => impl_combAt.l0 k l i (e1 : Int) kd n ([] ++ [(⟨(toS a).f0, (toS a).f1, (toS a).f2⟩ : S58)])) _
    rw [ea', List.nil_append]
    refine one e1 [toS a] hk2 (by simp) (Ev.bind eb (Ev.ite_pos rfl (Ev.ite_pos (by simp) ?_)))
    show Ev (fun k => impl_combAt.l0 k l i (e2 : Int) kd n ([toS a] ++ [(⟨(toS b).f0, (toS b).f1, (toS b).f2⟩ : S58)])) _
    rw [eb']
    exact done (e2 : Int) [toS a, toS b] (fun _ => rfl)

def numOk (k n : Int) : Prop := 0 ≤ n ∧ n ≤ 999 ∧ (k = 1 ∨ n = 0)

theorem Tr.depth_le (t : Tr) : t.depth ≤ t.size ∧ 1 ≤ t.depth := by
  induction t with
  | leaf k n => exact ⟨Nat.le_refl _, Nat.le_refl _⟩
  | un k n a ih => show a.depth + 1 ≤ 1 + a.size ∧ 1 ≤ a.depth + 1; omega
  | bin k n a b iha ihb => show max a.depth b.depth + 1 ≤ 1 + a.size + b.size ∧ 1 ≤ max a.depth b.depth + 1; omega

theorem measure_ev : ∀ (t : Tr), t.size ≤ 4000 → ∃ b, Ev (fun k => impl_comb_measure.f k (toS t).f0 (toS t).f1 (toS t).f2) ((t.size : Int), (t.depth : Int), b) ∧ (b = true ↔ t.all numOk) := by
  -- the node itself
  have node : ∀ (kd n : Int) (ps : List S58), ∃ c : Bool, (c = true ↔ numOk kd n) ∧ ∀ {r}, Ev (fun k => impl_comb_measure.l0 k 1 0 c ps ps.length 0) r → Ev (fun k => impl_comb_measure.f k kd n ps) r := by
    intro kd n ps
    have fin : ∀ (c : Bool) {r}, Ev (fun k => impl_comb_measure.l0 k 1 0 c ps ps.length 0) r → Ev (fun k => impl_comb_measure.j0 k 1 0 c kd n ps) r := fun c r h => Ev.step (fun k => rfl) h
    unfold numOk
    by_cases h1 : n ≥ 0
    · by_cases h2 : n ≤ 999
      · by_cases h3 : kd = 1
        · exact ⟨true, by simp; omega, fun h => Ev.step (fun k => by simp only [impl_comb_measure.f]; rw [if_pos h1, if_pos h2, if_pos h3]) (fin _ h)⟩
        · exact ⟨n == 0, by simp; omega, fun h => Ev.step (fun k => by simp only [impl_comb_measure.f]; rw [if_pos h1, if_pos h2, if_neg h3]) (fin _ h)⟩
      · exact ⟨false, by simp; omega, fun h => Ev.step (fun k => by simp only [impl_comb_measure.f]; rw [if_pos h1, if_neg h2]) (fin _ h)⟩
    · exact ⟨false, by simp; omega, fun h => Ev.step (fun k => by simp only [impl_comb_measure.f]; rw [if_neg h1]) (fin _ h)⟩
  have fin : ∀ (s dp : Nat) (c : Bool) (ps : List S58), dp ≤ 4000 → Ev (fun k => impl_comb_measure.l0 k s dp c ps ps.length ps.length) ((s : Int), ((dp + 1 : Nat) : Int), c) := by
    intro s dp c ps hd
    refine Ev.step (f := fun _ => some ((s : Int), ((dp + 1 : Nat) : Int), c)) (fun k => ?_) (Ev.now _)
    simp only [impl_comb_measure.l0]
    rw [if_neg (by omega), w64 (by omega) (by omega)]
    rfl
  have part : ∀ (s dp i s2 d2 : Nat) (c b : Bool) (ps : List S58) (x : S58), i < ps.length → ps.length ≤ 2 → rd_T58 ps i = x → s + s2 ≤ 4000 → Ev (fun k => impl_comb_measure.f k x.f0 x.f1 x.f2) ((s2 : Int), (d2 : Int), b) → ∀ {r}, Ev (fun k => impl_comb_measure.l0 k ((s + s2 : Nat) : Int) ((max dp d2 : Nat) : Int) (c && b) ps ps.length ((i + 1 : Nat) : Int)) r → Ev (fun k => impl_comb_measure.l0 k s dp c ps ps.length i) r := by
    intro s dp i s2 d2 c b ps x hi hl hx hs hE r h
    have hm : mx (dp : Int) (d2 : Int) = ((max dp d2 : Nat) : Int) := by unfold mx; split <;> omega
    refine Ev.step (f := fun k => (impl_comb_measure.f k x.f0 x.f1 x.f2).bind fun bt => (if c = true then (impl_comb_measure.l0 k (wrap64 ((s : Int) + bt.1)) (mx dp bt.2.1) bt.2.2 ps ps.length ((i + 1 : Nat) : Int)) else (impl_comb_measure.l0 k (wrap64 ((s : Int) + bt.1)) (mx dp bt.2.1) false ps ps.length ((i + 1 : Nat) : Int)))) (fun k => ?_) (Ev.bind hE ?_)
    · simp only [impl_comb_measure.l0]
      rw [if_pos (by omega), if_pos (by omega), if_pos (by omega), hx, next i hi (by omega)]
    · show Ev (fun k => if c = true then (impl_comb_measure.l0 k (wrap64 ((s : Int) + s2)) (mx dp d2) b ps ps.length ((i + 1 : Nat) : Int)) else (impl_comb_measure.l0 k (wrap64 ((s : Int) + s2)) (mx dp d2) false ps ps.length ((i + 1 : Nat) : Int))) r
      rw [hm, w64 (by omega) (by omega), show (s : Int) + s2 = ((s + s2 : Nat) : Int) by omega]
      by_cases hc : c = true
      · subst hc; rw [Bool.true_and] at h; exact Ev.ite_pos rfl h
      · obtain rfl : c = false := by simpa using hc
        rw [Bool.false_and] at h; exact Ev.ite_neg (by simp) h
  intro t
  induction t with
  | leaf kd n =>
    intro _
    obtain ⟨c, hc, hE⟩ := node kd n []
    exact ⟨c, hE (fin 1 0 c [] (by omega)), hc⟩
  | un kd n a ih =>
    intro hs
    have hs' : 1 + a.size ≤ 4000 := hs
    obtain ⟨b, hb, hbi⟩ := ih (by omega)
    obtain ⟨c, hc, hE⟩ := node kd n [toS a]
    have := Tr.depth_le a
    refine ⟨c && b, ?_, ?_⟩
    · refine hE (part 1 0 0 a.size a.depth c b [toS a] (toS a) (by simp) (by simp) rfl hs' hb (Ev.of_eq (fin (1 + a.size) (max 0 a.depth) (c && b) [toS a] (by omega)) ?_))
      rw [Nat.zero_max]; rfl
    · rw [Bool.and_eq_true, hc, hbi]; exact Iff.rfl
  | bin kd n x y ihx ihy =>
    intro hs
    have hs' : 1 + x.size + y.size ≤ 4000 := hs
    obtain ⟨b1, hb1, hbi1⟩ := ihx (by omega)
    obtain ⟨b2, hb2, hbi2⟩ := ihy (by omega)
    obtain ⟨c, hc, hE⟩ := node kd n [toS x, toS y]
    have := Tr.depth_le x
    have := Tr.depth_le y
    refine ⟨(c && b1) && b2, ?_, ?_⟩
    · refine hE (part 1 0 0 x.size x.depth c b1 [toS x, toS y] (toS x) (by simp) (by simp) rfl (by omega) hb1 ?_)
      refine part (1 + x.size) (max 0 x.depth) 1 y.size y.depth (c && b1) b2 [toS x, toS y] (toS y) (by simp) (by simp) rfl hs' hb2 ?_
      refine Ev.of_eq (fin (1 + x.size + y.size) (max (max 0 x.depth) y.depth) ((c && b1) && b2) [toS x, toS y] (by omega)) ?_
      rw [Nat.zero_max]; rfl
    · rw [Bool.and_eq_true, Bool.and_eq_true, hc, hbi1, hbi2, and_assoc]; exact Iff.rfl
end Go.Proofs.Ytcjhhdecckcibaa.CombL

namespace Go.Proofs.Ytcjhhdecckcibaa.CombL
open Go.RowKit Go.Proofs.Ytcjhhdecckcibaa.G Go.Proofs.Ytcjhhdecckcibaa.EvL Go.Proofs.Ytcjhhdecckcibaa.TreeM Go.Proofs.YtcjhhdecckcibaaW.PrintWords Go.Proofs.YtcjhhdecckcibaaW.PrintLast
set_option linter.unusedVariables false

def Tells (l : List S52) (t : Tr) : Prop := 1 ≤ l.length ∧ l.length ≤ 200 ∧ Par ar (l.map nd) 0 (-1) t l.length ∧ t.all numOk ∧ t.depth ≤ 60

theorem nodes_iff (l : List S52) (h1 : 1 ≤ l.length) (h2 : l.length ≤ 200) : (∀ m, 0 ≤ m → m < l.length → NodeOk (l.map nd) m) ↔ ∃ t, Tells l t := by
  have hlen : (l.map nd).length = l.length := List.length_map ..
  have hli := loc_iff (A := ar) (l := l.map nd) ar2 (by omega)
  constructor
  · intro h
    have L : TreeM.Loc ar (l.map nd) := by
      refine ⟨fun _ => (h 0 (Nat.le_refl _) (by omega)).top.mp rfl, fun m h3 h4 => ?_, fun m h3 h4 => ?_, fun m h3 => (h m (by omega) (by omega)).kind, fun m h3 => (h m (by omega) (by omega)).wants⟩
      · have hm := h m (by omega) (by omega)
        have := hm.ahead
        have := hm.top
        omega
      · have hm := h m (by omega) (by omega)
        obtain ⟨x, hx, hxu⟩ := hm.around.resolve_left (by omega)
        rw [← hxu, Int.toNat_natCast]; exact hx
    obtain ⟨t, ht⟩ := hli.mp L
    rw [hlen] at ht
    refine ⟨t, h1, h2, ht, (ht.alls numOk).mpr (fun m h3 h4 => (h m h3 h4).num), ?_⟩
    obtain ⟨m, h3, h4, h5⟩ := ht.deep.2
    have hm := (h m h3 h4).deep
    have h0 : (chain (l.map nd) 0).length = 1 := by rw [chain_top (by rw [ht.span.2.2]; omega)]; rfl
    omega
  · rintro ⟨t, _, _, ht, hn, hd⟩ m _ hm
    have L : TreeM.Loc ar (l.map nd) := hli.mpr ⟨t, by rw [hlen]; exact ht⟩
    have h0 : (chain (l.map nd) 0).length = 1 := by rw [chain_top (by rw [ht.span.2.2]; omega)]; rfl
    have hr := L.root (by omega)
    refine ⟨?_, ?_, L.kinds m (by omega), (ht.alls numOk).mp hn m (by omega) hm, ?_, by have := ht.deep.1 m (by omega) hm; omega, L.wants m (by omega)⟩
    · by_cases h3 : m = 0
      · subst h3; exact ⟨fun _ => hr, fun _ => rfl⟩
      · have := L.ahead m (by omega) (by omega); omega
    · by_cases h3 : m = 0
      · subst h3; omega
      · have := L.ahead m (by omega) (by omega); omega
    · by_cases h3 : m = 0
      · exact .inl h3
      · have h4 := L.ahead m (by omega) (by omega)
        exact .inr ⟨_, L.around m (by omega) (by omega), by omega⟩

theorem specGood (l : List S52) (hl : l.length ≤ 9223372036854775807) : ∃ b, Ev (fun k => spec_GoodComb.f k l) b ∧ (b = true ↔ ∃ t, Tells l t) := by
  unfold spec_GoodComb.f
  rw [l1In_eq]
  simp only [Option.bind_some, decide_eq_true_eq]
  by_cases h : (1 : Int) ≤ (l.length : Int) ∧ (l.length : Int) ≤ 200
  · obtain ⟨b, hb, hbi⟩ := specLoop l (by omega) l.length 0 (by omega) (fun m hm => by omega)
    exact ⟨b, Ev.ite_pos h hb, hbi.trans (nodes_iff l (by omega) (by omega))⟩
  · exact ⟨false, Ev.ite_neg h (Ev.now _), fun h2 => absurd h2 (by simp), fun ⟨t, h2, h3, _⟩ => absurd ⟨by omega, by omega⟩ h⟩

theorem rootEv (l : List S52) (hl : l.length ≤ 9223372036854775807) : ∃ (x : S58) (b : Bool), Ev (fun k => impl_combRoot.f k l) (x.f0, x.f1, x.f2, b) ∧ (b = true ↔ ∃ t, Tells l t) ∧ (b = true → ∃ t, Tells l t ∧ x = toS t) := by
  have bad : (¬ ∃ t, Tells l t) → ∀ (x : S58), Ev (fun k => impl_combRoot.f k l) (x.f0, x.f1, x.f2, false) → ∃ (x : S58) (b : Bool), Ev (fun k => impl_combRoot.f k l) (x.f0, x.f1, x.f2, b) ∧ (b = true ↔ ∃ t, Tells l t) ∧ (b = true → ∃ t, Tells l t ∧ x = toS t) :=
    fun h x hE => ⟨x, false, hE, ⟨fun h2 => absurd h2 (by simp), fun h2 => absurd h2 h⟩, fun h2 => absurd h2 (by simp)⟩
  have none : Ev (fun k => impl_combRoot.j0 k l true) (0, 0, ([] : List S58), false) := Ev.step (f := fun _ => some (0, 0, ([] : List S58), false)) (fun k => by simp only [impl_combRoot.j0]; rfl) (Ev.now _)
  by_cases h1 : (l.length : Int) < 1
  · refine bad (fun ⟨t, h2, _⟩ => by omega) ⟨0, 0, []⟩ ?_
    unfold impl_combRoot.f
    exact Ev.ite_pos h1 none
  by_cases h2 : (l.length : Int) > 200
  · refine bad (fun ⟨t, _, h3, _⟩ => by omega) ⟨0, 0, []⟩ ?_
    unfold impl_combRoot.f
    refine Ev.ite_neg h1 ?_
    rw [decide_eq_true h2]; exact none
  have go : ∀ {r}, Ev (fun k => (impl_combAt.f k l 0 (-1)).bind fun bt102 => (if bt102.2.2.2.2 = true then (if bt102.2.2.2.1 = (l.length : Int) then ((impl_comb_isGood.f k bt102.1 bt102.2.1 bt102.2.2.1).bind fun t110 => (some (bt102.1, bt102.2.1, bt102.2.2.1, t110))) else (some (bt102.1, bt102.2.1, bt102.2.2.1, false))) else (some (bt102.1, bt102.2.1, bt102.2.2.1, false)))) r → Ev (fun k => impl_combRoot.f k l) r := by
    intro r hE
    unfold impl_combRoot.f
    refine Ev.ite_neg h1 ?_
    rw [decide_eq_false h2]
    exact Ev.step (fun k => by simp only [impl_combRoot.j0]; rfl) hE
  rcases combAt_ev l (by omega) l.length 0 (-1) (by omega) with ⟨t, e, ht, hE⟩ | ⟨hn, hE⟩
  case inr =>
    exact bad (fun ⟨t, _, _, h3, _⟩ => hn _ _ h3) ⟨0, 0, []⟩ (go (Ev.bind hE (Ev.ite_neg (by simp) (Ev.now _))))
  by_cases he : e = l.length
  case neg =>
    refine bad (fun ⟨t', _, _, h3, _⟩ => he (ht.unique h3).2) (toS t) (go (Ev.bind hE (Ev.ite_pos rfl (Ev.ite_neg ?_ (Ev.now _)))))
    show ¬ (e : Int) = _
    omega
  subst he
  have hs := ht.span
  obtain ⟨b, hb, hbi⟩ := measure_ev t (by omega)
  have hd := Tr.depth_le t
  refine ⟨toS t, b && decide (t.depth ≤ 60), go (Ev.bind hE (Ev.ite_pos rfl (Ev.ite_pos rfl ?_))), ?_, ?_⟩
  · unfold impl_comb_isGood.f
    show Ev (fun k => ((impl_comb_measure.f k (toS t).f0 (toS t).f1 (toS t).f2).bind _).bind _) _
    refine Ev.bind (a := b && decide (t.depth ≤ 60)) (Ev.bind hb ?_) (Ev.now _)
    show Ev (fun k => if b = true then (if (t.size : Int) ≤ 200 then some (decide ((t.depth : Int) ≤ 60)) else some false) else some false) _
    by_cases h3 : b = true
    · refine Ev.ite_pos h3 (Ev.ite_pos (by omega) (Ev.of_eq (Ev.now _) ?_))
      rw [h3, Bool.true_and]; exact decide_eq_decide.mpr (by omega)
    · refine Ev.ite_neg h3 (Ev.of_eq (Ev.now _) ?_)
      rw [Bool.eq_false_iff.mpr h3, Bool.false_and]
  · rw [Bool.and_eq_true, hbi, decide_eq_true_iff]
    constructor
    · intro h3; exact ⟨t, by omega, by omega, ht, h3.1, h3.2⟩
    · rintro ⟨t', _, _, h3, h4, h5⟩
      obtain ⟨rfl, _⟩ := ht.unique h3
      exact ⟨h4, h5⟩
  · intro h3
    rw [Bool.and_eq_true, hbi, decide_eq_true_iff] at h3
    exact ⟨t, ⟨by omega, by omega, ht, h3.1, h3.2⟩, rfl⟩

theorem sizes (l : List S55) (hl : l.length ≤ 9223372036854775807) : ∃ t, laws_szCombS.f l 1048576 = some t ∧ (¬ t < 0 → l.length ≤ 1048576) := by
  unfold laws_szCombS.f
  rw [w64 (x := 1048576 - (l.length : Int)) (by omega) (by omega)]
  by_cases h : 1048576 - (l.length : Int) < 0
  · rw [if_pos h]; exact ⟨-1, rfl, fun h => absurd (by decide) h⟩
  · rw [if_neg h]; exact ⟨_, rfl, fun _ => by omega⟩
end Go.Proofs.Ytcjhhdecckcibaa.CombL

namespace Go.Proofs.Ytcjhhdecckcibaa.TreeM
set_option linter.unusedVariables false

def flat : Tr → Nat → Int → List Nd
  | .leaf k n, _, u => [⟨k, n, u⟩]
  | .un k n a, i, u => ⟨k, n, u⟩ :: flat a (i + 1) i
  | .bin k n a b, i, u => ⟨k, n, u⟩ :: (flat a (i + 1) i ++ flat b (i + 1 + a.size) i)
theorem flat_len : ∀ (t : Tr) (i : Nat) (u : Int), (flat t i u).length = t.size
  | .leaf _ _, _, _ => rfl
  | .un k n a, i, u => by show (flat a (i + 1) i).length + 1 = 1 + a.size; rw [flat_len a]; omega
  | .bin k n a b, i, u => by show (flat a (i + 1) i ++ flat b (i + 1 + a.size) i).length + 1 = 1 + a.size + b.size; rw [List.length_append, flat_len a, flat_len b]; omega

def Tr.wf (A : Arity) : Tr → Prop
  | .leaf k _ => (1 ≤ k ∧ k ≤ A.top) ∧ A.want k = 0
  | .un k _ a => ((1 ≤ k ∧ k ≤ A.top) ∧ A.want k = 1) ∧ a.wf A
  | .bin k _ a b => ((1 ≤ k ∧ k ≤ A.top) ∧ A.want k = 2) ∧ a.wf A ∧ b.wf A
theorem Par.wf {A : Arity} {l : List Nd} {i e : Nat} {u : Int} {t : Tr} (h : Par A l i u t e) : t.wf A := by
  induction h with
  | leaf h hk hw => exact ⟨hk, hw⟩
  | un h hk hw ha ih => exact ⟨⟨hk, hw⟩, ih⟩
  | bin h hk hw ha hb ih1 ih2 => exact ⟨⟨hk, hw⟩, ih1, ih2⟩

theorem par_flat {A : Arity} : ∀ (t : Tr) (i : Nat) (u : Int) (l : List Nd), t.wf A → (∀ j x, (flat t i u)[j]? = some x → l[i + j]? = some x) → Par A l i u t (i + t.size)
  | .leaf k n, i, u, l, hw, h => .leaf (h 0 _ rfl) hw.1 hw.2
  | .un k n a, i, u, l, hw, h => by
    have pa := par_flat a (i + 1) i l hw.2 (fun j x hx => by rw [show i + 1 + j = i + (j + 1) by omega]; exact h (j + 1) x hx)
    have e : i + (Tr.un k n a).size = i + 1 + a.size := by show i + (1 + a.size) = _; omega
    rw [e]
    exact .un (h 0 _ rfl) hw.1.1 hw.1.2 pa
  | .bin k n a b, i, u, l, hw, h => by
    have pa := par_flat a (i + 1) i l hw.2.1 (fun j x hx => by
      rw [show i + 1 + j = i + (j + 1) by omega]
      refine h (j + 1) x ?_
      show (flat a (i + 1) i ++ flat b (i + 1 + a.size) i)[j]? = _
      rw [List.getElem?_append_left (by have := lt_of hx; exact this)]; exact hx)
    have pb := par_flat b (i + 1 + a.size) i l hw.2.2 (fun j x hx => by
      rw [show i + 1 + a.size + j = i + (a.size + j + 1) by omega]
      refine h (a.size + j + 1) x ?_
      show (flat a (i + 1) i ++ flat b (i + 1 + a.size) i)[a.size + j]? = _
      rw [List.getElem?_append_right (by rw [flat_len]; omega), flat_len, show a.size + j - a.size = j by omega]; exact hx)
    have e : i + (Tr.bin k n a b).size = i + 1 + a.size + b.size := by show i + (1 + a.size + b.size) = _; omega
    rw [e]
    exact .bin (h 0 _ rfl) hw.1.1 hw.1.2 pa pb

theorem flat_par {A : Arity} (t : Tr) (hw : t.wf A) : Par A (flat t 0 (-1)) 0 (-1) t (flat t 0 (-1)).length := by
  have := par_flat (A := A) t 0 (-1) (flat t 0 (-1)) hw (fun j x hx => by rw [Nat.zero_add]; exact hx)
  rw [flat_len]; rw [Nat.zero_add] at this; exact this

def pts (l : List Nd) (i : Nat) : Nat → Nat → List Nat
  | _, 0 => []
  | a, d + 1 => if up l a = (i : Int) then a :: pts l i (a + 1) d else pts l i (a + 1) d
theorem pts_add (l : List Nd) (i : Nat) : ∀ (d a d' : Nat), pts l i a (d + d') = pts l i a d ++ pts l i (a + d) d'
  | 0, a, d' => by simp [pts]
  | d + 1, a, d' => by
    have e : d + 1 + d' = (d + d') + 1 := by omega
    rw [e]
    show (if up l a = (i : Int) then a :: pts l i (a + 1) (d + d') else pts l i (a + 1) (d + d')) = (if up l a = (i : Int) then a :: pts l i (a + 1) d else pts l i (a + 1) d) ++ pts l i (a + (d + 1)) d'
    rw [pts_add l i d (a + 1) d', show a + 1 + d = a + (d + 1) by omega]
    split <;> rfl
theorem pts_none (l : List Nd) (i : Nat) : ∀ (d a : Nat), (∀ m, a ≤ m → m < a + d → up l m ≠ (i : Int)) → pts l i a d = []
  | 0, a, h => rfl
  | d + 1, a, h => by
    show (if up l a = (i : Int) then a :: pts l i (a + 1) d else pts l i (a + 1) d) = []
    rw [if_neg (h a (Nat.le_refl _) (by omega)), pts_none l i d (a + 1) (fun m h1 h2 => h m (by omega) (by omega))]

def Shut (l : List Nd) (i e : Nat) : Prop := ∀ m, e ≤ m → m < l.length → ¬ ((i : Int) ≤ up l m ∧ up l m < (e : Int))

inductive Parts (A : Arity) (l : List Nd) : Nat → Tr → Nat → Prop
  | leaf {i : Nat} {k n : Int} (h : l.getD i z = ⟨k, n, up l i⟩) (hi : i < l.length) (hw : A.want k = 0) (hp : pts l i (i + 1) (l.length - (i + 1)) = []) : Parts A l i (.leaf k n) (i + 1)
  | un {i e : Nat} {k n : Int} {a : Tr} (h : l.getD i z = ⟨k, n, up l i⟩) (hi : i < l.length) (hw : A.want k = 1) (hp : pts l i (i + 1) (l.length - (i + 1)) = [i + 1]) (ha : Parts A l (i + 1) a e) : Parts A l i (.un k n a) e
  | bin {i e e' : Nat} {k n : Int} {a b : Tr} (h : l.getD i z = ⟨k, n, up l i⟩) (hi : i < l.length) (hw : A.want k = 2) (hp : pts l i (i + 1) (l.length - (i + 1)) = [i + 1, e]) (ha : Parts A l (i + 1) a e) (hb : Parts A l e b e') : Parts A l i (.bin k n a b) e'

theorem Par.parts {A : Arity} {l : List Nd} {i e : Nat} {u : Int} {t : Tr} (h : Par A l i u t e) : Shut l i e → Parts A l i t e := by
  have at1 : ∀ (q : Nat) (k n v : Int), l[q]? = some ⟨k, n, v⟩ → l.getD q z = ⟨k, n, up l q⟩ := fun q k n v h => by rw [up_of h, List.getD_eq_getElem?_getD, h]; rfl
  induction h with
  | @leaf i u k n h hk hw =>
    intro hs
    refine .leaf (at1 _ _ _ _ h) (lt_of h) hw (pts_none _ _ _ _ fun m h1 h2 he => hs m h1 (by have := lt_of h; omega) ?_)
    omega
  | @un i e u k n a h hk hw ha ih =>
    intro hs
    have hlt := ha.lt
    have hsp := ha.span
    refine .un (at1 _ _ _ _ h) (lt_of h) hw ?_ (ih fun m h1 h2 h3 => hs m h1 h2 (by omega))
    obtain ⟨d, hd⟩ : ∃ d, e - (i + 1) = d + 1 := ⟨e - (i + 1) - 1, by omega⟩
    rw [show l.length - (i + 1) = (d + 1) + (l.length - e) by omega, pts_add l i (d + 1) (i + 1) (l.length - e), show i + 1 + (d + 1) = e by omega]
    have e1 : pts l i (i + 1) (d + 1) = [i + 1] := by
      show (if up l (i + 1) = (i : Int) then (i + 1) :: pts l i (i + 1 + 1) d else pts l i (i + 1 + 1) d) = _
      rw [if_pos hsp.2.2, pts_none]
      intro q h3 h4
      have := ha.inside q (by omega) (by omega); omega
    have e2 : pts l i e (l.length - e) = [] := pts_none _ _ _ _ fun m h1 h2 he => hs m h1 (by omega) (by omega)
    rw [e1, e2]; rfl
  | @bin i e e' u k n a b h hk hw ha hb ih1 ih2 =>
    intro hs
    have hlt := ha.lt
    have hsp := ha.span
    have hlt2 := hb.lt
    have hsp2 := hb.span
    refine .bin (at1 _ _ _ _ h) (lt_of h) hw ?_ (ih1 fun m h1 h2 h3 => ?_) (ih2 fun m h1 h2 h3 => hs m h1 h2 (by omega))
    · obtain ⟨d, hd⟩ : ∃ d, e - (i + 1) = d + 1 := ⟨e - (i + 1) - 1, by omega⟩
      obtain ⟨d2, hd2⟩ : ∃ d2, e' - e = d2 + 1 := ⟨e' - e - 1, by omega⟩
      rw [show l.length - (i + 1) = (d + 1) + ((d2 + 1) + (l.length - e')) by omega, pts_add l i (d + 1) (i + 1) ((d2 + 1) + (l.length - e')), show i + 1 + (d + 1) = e by omega, pts_add l i (d2 + 1) e (l.length - e'), show e + (d2 + 1) = e' by omega]
      have e1 : pts l i (i + 1) (d + 1) = [i + 1] := by
        show (if up l (i + 1) = (i : Int) then (i + 1) :: pts l i (i + 1 + 1) d else pts l i (i + 1 + 1) d) = _
        rw [if_pos hsp.2.2, pts_none]
        intro q h3 h4
        have := ha.inside q (by omega) (by omega); omega
      have e2 : pts l i e (d2 + 1) = [e] := by
        show (if up l e = (i : Int) then e :: pts l i (e + 1) d2 else pts l i (e + 1) d2) = _
        rw [if_pos hsp2.2.2, pts_none]
        intro q h3 h4
        have := hb.inside q (by omega) (by omega); omega
      have e3 : pts l i e' (l.length - e') = [] := pts_none _ _ _ _ fun m h1 h2 he => hs m h1 (by omega) (by omega)
      rw [e1, e2, e3]; rfl
    · by_cases hm : m < e'
      · by_cases hme : m = e
        · subst hme; omega
        · have := hb.inside m (by omega) hm; omega
      · exact hs m (by omega) h2 (by omega)

theorem Par.parts_all {A : Arity} {l : List Nd} {t : Tr} (h : Par A l 0 (-1) t l.length) : Parts A l 0 t l.length := h.parts fun m h1 h2 => by omega
end Go.Proofs.Ytcjhhdecckcibaa.TreeM

namespace Go.Proofs.Ytcjhhdecckcibaa.CombL
open Go.RowKit Go.Proofs.Ytcjhhdecckcibaa.G Go.Proofs.Ytcjhhdecckcibaa.EvL Go.Proofs.Ytcjhhdecckcibaa.TreeM Go.Proofs.YtcjhhdecckcibaaW.PrintWords Go.Proofs.YtcjhhdecckcibaaW.PrintLast
set_option linter.unusedVariables false

def toL : Tr → S77
  | .leaf k n => ⟨k, n, []⟩
  | .un k n a => ⟨k, n, [toL a]⟩
  | .bin k n a b => ⟨k, n, [toL a, toL b]⟩
theorem toL_eta (a : Tr) : (⟨(toL a).f0, (toL a).f1, (toL a).f2⟩ : S77) = toL a := by cases toL a; rfl
theorem toS_eta (a : Tr) : (⟨(toS a).f0, (toS a).f1, (toS a).f2⟩ : S58) = toS a := by cases toS a; rfl

theorem want_of {k : Int} (h : ar.want k = 2) : k = 2 := by
  by_cases hk : k = 2
  · exact hk
  · have h2 : (if k = 2 then 2 else 0) = 2 := h
    rw [if_neg hk] at h2; omega
theorem want_one {k : Int} (h : ar.want k = 1) : False := by
  have h2 : (if k = 2 then 2 else 0) = 1 := h
  split at h2 <;> omega
theorem want_zero {k : Int} (h : ar.want k = 0) : k ≠ 2 := by
  rintro rfl
  have h2 : (2 : Nat) = 0 := h
  omega

theorem partsL (l : List S52) (i : Nat) (hl : l.length ≤ 200) : ∀ (d a : Nat) (acc : List Int), a + d = l.length → acc.length + d ≤ 200 → Ev (fun k => spec_ldParts.l0 k l i acc a) (acc ++ (pts (l.map nd) i a d).map fun (m : Nat) => (m : Int)) := by
  intro d
  induction d with
  | zero =>
    intro a acc ha _
    refine Ev.step (f := fun _ => some acc) (fun k => ?_) (Ev.of_eq (Ev.now _) ?_)
    · simp only [spec_ldParts.l0]
      rw [if_neg (by omega)]
    · simp [pts]
  | succ d ih =>
    intro a acc ha hacc
    by_cases h : up (l.map nd) a = (i : Int)
    · refine Ev.step (fun k => ?_) (Ev.of_eq (ih (a + 1) (acc ++ [(a : Int)]) (by omega) (by simp; omega)) ?_)
      · simp only [spec_ldParts.l0]
        rw [if_pos (by omega), if_pos (by omega), rdC, up_nd, if_pos h, if_pos (by omega), next a (n := l.length) (by omega) (by omega)]
      · have e : pts (l.map nd) i a (d + 1) = a :: pts (l.map nd) i (a + 1) d := by
          show (if up (l.map nd) a = (i : Int) then _ else _) = _
          rw [if_pos h]
        rw [e]; simp
    · refine Ev.step (fun k => ?_) (Ev.of_eq (ih (a + 1) acc (by omega) (by omega)) ?_)
      · simp only [spec_ldParts.l0]
        rw [if_pos (by omega), if_pos (by omega), rdC, up_nd, if_neg h, next a (n := l.length) (by omega) (by omega)]
      · have e : pts (l.map nd) i a (d + 1) = pts (l.map nd) i (a + 1) d := by
          show (if up (l.map nd) a = (i : Int) then _ else _) = _
          rw [if_neg h]
        rw [e]
theorem ldPartsL (l : List S52) (i : Nat) (hi : i < l.length) (hl : l.length ≤ 200) : Ev (fun k => spec_ldParts.f k l i) ((pts (l.map nd) i (i + 1) (l.length - (i + 1))).map fun (m : Nat) => (m : Int)) := by
  have := partsL l i hl (l.length - (i + 1)) (i + 1) [] (by omega) (by simp; omega)
  unfold spec_ldParts.f
  rw [next i hi (by omega)]
  rw [List.nil_append] at this
  exact this

theorem rdI (l : List Int) (i : Nat) : rd l (i : Int) = l.getD i 0 := by unfold rd; rw [Int.toNat_natCast]

theorem ldTree_ev (l : List S52) (hl : l.length ≤ 200) {i e : Nat} {t : Tr} (h : Parts ar (l.map nd) i t e) : Ev (fun k => spec_ldTree.f k l i) ((toL t).f0, (toL t).f1, (toL t).f2) := by
  have hlen : (l.map nd).length = l.length := List.length_map ..
  have start : ∀ {i : Nat} {kd n v : Int} {ps : List Nat}, (l.map nd).getD i z = ⟨kd, n, v⟩ → i < (l.map nd).length → pts (l.map nd) i (i + 1) ((l.map nd).length - (i + 1)) = ps → ∀ {r}, Ev (fun k => spec_ldTree.l0 k l (ps.map fun (m : Nat) => (m : Int)) ((ps.map fun (m : Nat) => (m : Int)).length : Int) 0 kd n []) r → Ev (fun k => spec_ldTree.f k l i) r := by
    intro i kd n v ps h0 hi hp r hE
    rw [hlen] at hi hp
    have e0 : (l.getD i z52).f0 = kd := by have := getD_nd l i; rw [h0] at this; exact (congrArg Nd.kind this).symm
    have e1 : (l.getD i z52).f1 = n := by have := getD_nd l i; rw [h0] at this; exact (congrArg Nd.n this).symm
    refine Ev.step (f := fun k => (spec_ldParts.f k l i).bind fun t105 => (spec_ldTree.l0 k l t105 (t105.length : Int) 0 kd n [])) (fun k => ?_) (Ev.bind (ldPartsL l i hi hl) ?_)
    · simp only [spec_ldTree.f]
      rw [if_pos (by omega), if_pos (by omega), rdC, e0, e1]
    · rw [hp]; exact hE
  have fin : ∀ (qs : List Int) (j kd n : Int) (ps : List S77), ¬ j < (qs.length : Int) → Ev (fun k => spec_ldTree.l0 k l qs (qs.length : Int) j kd n ps) (kd, n, ps) := by
    intro qs j kd n ps hj
    refine Ev.step (f := fun _ => some (kd, n, ps)) (fun k => ?_) (Ev.now _)
    simp only [spec_ldTree.l0]
    rw [if_neg hj]
  have one : ∀ (qs : List Int) (j q : Nat) (kd n : Int) (ps : List S77) (t : Tr), j < qs.length → qs.length ≤ 2 → ps.length ≤ 2 → qs.getD j 0 = (q : Int) → Ev (fun k => spec_ldTree.f k l q) ((toL t).f0, (toL t).f1, (toL t).f2) → ∀ {r}, Ev (fun k => spec_ldTree.l0 k l qs (qs.length : Int) ((j + 1 : Nat) : Int) kd n (ps ++ [toL t])) r → Ev (fun k => spec_ldTree.l0 k l qs (qs.length : Int) (j : Int) kd n ps) r := by
    intro qs j q kd n ps t hj hq hp hqe hE r h
    refine Ev.step (f := fun k => (spec_ldTree.f k l (q : Int)).bind fun bt109 => (if ps.length < 3518437208883 then (spec_ldTree.l0 k l qs (qs.length : Int) ((j + 1 : Nat) : Int) kd n (ps ++ [(⟨bt109.1, bt109.2.1, bt109.2.2⟩ : S77)])) else (none))) (fun k => ?_) (Ev.bind hE (Ev.ite_pos (by omega) ?_))
    · simp only [spec_ldTree.l0]
      rw [if_pos (by omega), if_pos (by omega), if_pos (by omega), rdI, hqe, next j hj (by omega)]
    · show Ev (fun k => spec_ldTree.l0 k l qs (qs.length : Int) ((j + 1 : Nat) : Int) kd n (ps ++ [(⟨(toL t).f0, (toL t).f1, (toL t).f2⟩ : S77)])) r
      rw [toL_eta]; exact h
  induction h with
  | @leaf i k n h hi hw hp => exact start h hi hp (fin [] 0 k n [] (by simp))
  | @un i e k n a h hi hw hp ha ih => exact start h hi hp (one [((i + 1 : Nat) : Int)] 0 (i + 1) k n [] a (by simp) (by simp) (by simp) rfl ih (fin [((i + 1 : Nat) : Int)] 1 k n [toL a] (by simp)))
  | @bin i e e' k n a b h hi hw hp ha hb ih1 ih2 =>
    exact start h hi hp (one [((i + 1 : Nat) : Int), (e : Int)] 0 (i + 1) k n [] a (by simp) (by simp) (by simp) rfl ih1 (one [((i + 1 : Nat) : Int), (e : Int)] 1 e k n [toL a] b (by simp) (by simp) (by simp) rfl ih2 (fin [((i + 1 : Nat) : Int), (e : Int)] 2 k n [toL a, toL b] (by simp))))

def back (x : Nd) : S52 := ⟨x.kind, x.n, x.up⟩
theorem nd_back (l : List Nd) : (l.map back).map nd = l := by
  rw [List.map_map]
  have : (nd ∘ back) = id := by funext x; rfl
  rw [this, List.map_id]
def tnodes (t : Tr) : List S52 := (flat t 0 (-1)).map back
theorem tnodes_len (t : Tr) : (tnodes t).length = t.size := by unfold tnodes; rw [List.length_map, flat_len]

theorem fl_spec : ∀ (t : Tr) (up : Int) (l : List S52), l.length ≤ 200 → (l.length + t.size ≤ 201 → Flat77.flT (toL t) up l = l ++ (flat t l.length up).map back) ∧ (201 < l.length + t.size → 201 ≤ (Flat77.flT (toL t) up l).length) := by
  intro t
  induction t with
  | leaf k n =>
    intro up l hl
    have e : Flat77.flT (toL (.leaf k n)) up l = l ++ [⟨k, n, up⟩] := by rw [Flat77.flT_eq]; show Flat77.flL [] _ _ = _; rw [Flat77.flL_nil]; rfl
    have hs : (Tr.leaf k n).size = 1 := rfl
    exact ⟨fun _ => e, fun h => by omega⟩
  | un k n a ih =>
    intro up l hl
    have hs : (Tr.un k n a).size = 1 + a.size := rfl
    have hp := a.size_pos
    have e : Flat77.flT (toL (.un k n a)) up l = (if (l ++ [(⟨k, n, up⟩ : S52)]).length ≤ 200 then Flat77.flT (toL a) (l.length : Int) (l ++ [⟨k, n, up⟩]) else l ++ [⟨k, n, up⟩]) := by
      rw [Flat77.flT_eq]; show Flat77.flL [toL a] _ _ = _; rw [Flat77.flL_cons, Flat77.flL_nil]; rfl
    have e1 : (l ++ [(⟨k, n, up⟩ : S52)]).length = l.length + 1 := by simp
    rw [e, e1]
    by_cases h1 : l.length + 1 ≤ 200
    · rw [if_pos h1]
      have h2 := ih (l.length : Int) (l ++ [⟨k, n, up⟩]) (by omega)
      rw [e1] at h2
      refine ⟨fun h => ?_, fun h => h2.2 (by omega)⟩
      rw [h2.1 (by omega)]
      show _ = l ++ (⟨k, n, up⟩ :: flat a (l.length + 1) l.length).map back
      simp [back]
    · rw [if_neg h1]
      exact ⟨fun h => by omega, fun h => by omega⟩
  | bin k n a b iha ihb =>
    intro up l hl
    have hs : (Tr.bin k n a b).size = 1 + a.size + b.size := rfl
    have hp := a.size_pos
    have hq := b.size_pos
    have e1 : (l ++ [(⟨k, n, up⟩ : S52)]).length = l.length + 1 := by simp
    have e : Flat77.flT (toL (.bin k n a b)) up l = (fun m => if m.length ≤ 200 then Flat77.flT (toL b) (l.length : Int) m else m) (if l.length + 1 ≤ 200 then Flat77.flT (toL a) (l.length : Int) (l ++ [⟨k, n, up⟩]) else l ++ [⟨k, n, up⟩]) := by
      rw [Flat77.flT_eq]; show Flat77.flL [toL a, toL b] _ _ = _; rw [Flat77.flL_cons, Flat77.flL_cons, Flat77.flL_nil, ← e1]; rfl
    rw [e]
    by_cases h1 : l.length + 1 ≤ 200
    · rw [if_pos h1]
      have h2 := iha (l.length : Int) (l ++ [⟨k, n, up⟩]) (by omega)
      rw [e1] at h2
      by_cases h3 : l.length + 1 + a.size ≤ 201
      · rw [h2.1 h3]
        have e2 : (l ++ [(⟨k, n, up⟩ : S52)] ++ (flat a (l.length + 1) l.length).map back).length = l.length + 1 + a.size := by rw [List.length_append, List.length_map, flat_len, e1]
        dsimp only
        rw [e2]
        by_cases h4 : l.length + 1 + a.size ≤ 200
        · rw [if_pos h4]
          have h5 := ihb (l.length : Int) (l ++ [(⟨k, n, up⟩ : S52)] ++ (flat a (l.length + 1) l.length).map back) (by omega)
          rw [e2] at h5
          refine ⟨fun h => ?_, fun h => h5.2 (by omega)⟩
          rw [h5.1 (by omega)]
          show _ = l ++ (⟨k, n, up⟩ :: (flat a (l.length + 1) l.length ++ flat b (l.length + 1 + a.size) l.length)).map back
          simp [back]
        · rw [if_neg h4]
          exact ⟨fun h => by omega, fun h => by omega⟩
      · have h6 := h2.2 (by omega)
        dsimp only
        rw [if_neg (by omega)]
        exact ⟨fun h => by omega, fun h => h6⟩
    · rw [if_neg h1]
      dsimp only
      rw [if_neg (by omega)]
      exact ⟨fun h => by omega, fun h => by omega⟩

theorem fl_impl : ∀ (t : Tr) (up : Int) (l : List S52), Nodes58.flT (toS t) up l = l ++ (flat t l.length up).map back := by
  intro t
  induction t with
  | leaf k n => intro up l; rw [Nodes58.flT_eq]; show Nodes58.flL [] _ _ = _; rw [Nodes58.flL_nil]; rfl
  | un k n a ih =>
    intro up l
    rw [Nodes58.flT_eq]; show Nodes58.flL [toS a] _ _ = _
    rw [Nodes58.flL_cons, Nodes58.flL_nil, ih]
    show _ = l ++ (⟨k, n, up⟩ :: flat a (l.length + 1) l.length).map back
    simp [back, toS]
  | bin k n a b iha ihb =>
    intro up l
    rw [Nodes58.flT_eq]; show Nodes58.flL [toS a, toS b] _ _ = _
    rw [Nodes58.flL_cons, Nodes58.flL_cons, Nodes58.flL_nil, iha, ihb]
    show _ = l ++ (⟨k, n, up⟩ :: (flat a (l.length + 1) l.length ++ flat b (l.length + 1 + a.size) l.length)).map back
    simp [back, toS, flat_len, show l.length + 1 + a.size = l.length + (a.size + 1) by omega]
theorem sz_impl : ∀ (t : Tr), Nodes58.szT (toS t) = t.size := by
  intro t
  induction t with
  | leaf k n => rw [Nodes58.szT_eq]; show 1 + Nodes58.szL [] = 1; rw [Nodes58.szL]
  | un k n a ih => rw [Nodes58.szT_eq]; show 1 + Nodes58.szL [toS a] = 1 + a.size; rw [Nodes58.szL_cons, Nodes58.szL, ih]; omega
  | bin k n a b iha ihb => rw [Nodes58.szT_eq]; show 1 + Nodes58.szL [toS a, toS b] = 1 + a.size + b.size; rw [Nodes58.szL_cons, Nodes58.szL_cons, Nodes58.szL, iha, ihb]; omega

def Good (t : Tr) : Prop := t.size ≤ 200 ∧ t.depth ≤ 60 ∧ t.all numOk

theorem isGood_ev (t : Tr) (hs : t.size ≤ 4000) : ∃ b, Ev (fun k => impl_comb_isGood.f k (toS t).f0 (toS t).f1 (toS t).f2) b ∧ (b = true ↔ Good t) := by
  obtain ⟨b, hb, hbi⟩ := measure_ev t hs
  unfold impl_comb_isGood.f Good
  by_cases h3 : b = true
  case neg => exact ⟨false, Ev.bind hb (Ev.ite_neg h3 (Ev.now _)), fun h => absurd h (by simp), fun h => absurd (hbi.mpr h.2.2) h3⟩
  by_cases h4 : t.size ≤ 200
  case neg => exact ⟨false, Ev.bind hb (Ev.ite_pos h3 (Ev.ite_neg (by omega) (Ev.now _))), fun h => absurd h (by simp), fun h => absurd h.1 h4⟩
  refine ⟨decide (t.depth ≤ 60), Ev.bind hb (Ev.ite_pos h3 (Ev.ite_pos (by omega) (Ev.of_eq (Ev.now _) ?_))), ?_⟩
  · exact decide_eq_decide.mpr (by show ((t.depth : Int) ≤ 60) ↔ _; omega)
  · rw [decide_eq_true_iff]
    exact ⟨fun h => ⟨h4, h, hbi.mp h3⟩, fun h => h.2.1⟩

theorem tells_iff (t : Tr) (hw : t.wf ar) (hs : t.size ≤ 200) : (∃ t', Tells (tnodes t) t') ↔ Good t := by
  have hp := flat_par t hw
  have hm : (tnodes t).map nd = flat t 0 (-1) := nd_back _
  have hl := tnodes_len t
  constructor
  · rintro ⟨t', h1, h2, h3, h4, h5⟩
    rw [hm, hl, ← flat_len t 0 (-1)] at h3
    obtain ⟨rfl, _⟩ := hp.unique h3
    exact ⟨hs, h5, h4⟩
  · rintro ⟨_, h2, h3⟩
    refine ⟨t, ?_, by omega, ?_, h3, h2⟩
    · rw [hl]; exact t.size_pos
    · rw [hm, hl, ← flat_len t 0 (-1)]; exact hp

theorem toldBoth (t : Tr) (hw : t.wf ar) (hs : t.size ≤ 4000) : ∃ (o : List S52) (b : Bool), o.length ≤ 200 ∧ Ev (fun k => spec_ldTold.f k (toL t).f0 (toL t).f1 (toL t).f2) (o, b) ∧ Ev (fun k => impl_comb_goodNodes.f k (toS t).f0 (toS t).f1 (toS t).f2) (o, b) ∧ (b = true ↔ Good t) := by
  obtain ⟨bi, hbi, hg⟩ := isGood_ev t hs
  have hfs := fl_spec t (-1) [] (by simp)
  have e0 : (([] : List S52).length + t.size) = t.size := by simp
  rw [e0] at hfs
  have hsg : ∃ b, Ev (fun k => spec_GoodComb.f k (Flat77.flT (toL t) (-1) [])) b ∧ (b = true ↔ Good t) ∧ (b = true → Flat77.flT (toL t) (-1) [] = tnodes t) := by
    by_cases h : t.size ≤ 201
    · have e : Flat77.flT (toL t) (-1) [] = tnodes t := by rw [hfs.1 h]; rfl
      rw [e]
      obtain ⟨b, hb, hbg⟩ := specGood (tnodes t) (by rw [tnodes_len]; omega)
      refine ⟨b, hb, ?_, fun _ => rfl⟩
      by_cases h2 : t.size ≤ 200
      · rw [hbg, tells_iff t hw h2]
      · rw [hbg]
        constructor
        · rintro ⟨t', _, h3, _⟩; rw [tnodes_len] at h3; omega
        · intro h3; exact absurd h3.1 h2
    · have h1 := hfs.2 (by omega)
      have h2 := Flat77.flT_len (toL t) (-1) [] (by simp)
      obtain ⟨b, hb, hbg⟩ := specGood (Flat77.flT (toL t) (-1) []) (by omega)
      have hf : ¬ b = true := by rw [hbg]; rintro ⟨t', _, h3, _⟩; omega
      exact ⟨b, hb, ⟨fun h3 => absurd h3 hf, fun h3 => absurd h3.1 (by omega)⟩, fun h3 => absurd h3 hf⟩
  obtain ⟨bs, hbs, hgs, hes⟩ := hsg
  obtain rfl : bs = bi := by rw [Bool.eq_iff_iff, hgs, hg]
  unfold spec_ldTold.f impl_comb_goodNodes.f
  rw [toL_eta, toS_eta]
  by_cases h : bs = true
  · have hgood := hgs.mp h
    refine ⟨tnodes t, true, by rw [tnodes_len]; exact hgood.1, Ev.bind hbs (Ev.ite_pos h (Ev.of_eq (Ev.now _) (by rw [hes h]))), Ev.bind hbi (Ev.ite_pos h (Ev.ite_pos (by rw [sz_impl]; omega) (Ev.of_eq (Ev.now _) (by rw [fl_impl]; rfl)))), by simp [hgood]⟩
  · refine ⟨[], false, by simp, Ev.bind hbs (Ev.ite_neg h (Ev.now _)), Ev.bind hbi (Ev.ite_neg h (Ev.now _)), ?_⟩
    constructor
    · intro h2; exact absurd h2 (by simp)
    · intro h2; exact absurd (hgs.mpr h2) h

theorem tree_of (l : List S52) {t : Tr} (h : Tells l t) : Ev (fun k => spec_ldTree.f k l 0) ((toL t).f0, (toL t).f1, (toL t).f2) ∧ t.wf ar ∧ t.size ≤ 200 := by
  have hlen : (l.map nd).length = l.length := List.length_map ..
  obtain ⟨h1, h2, h3, _, _⟩ := h
  have h4 := h3
  rw [← hlen] at h4
  refine ⟨ldTree_ev l h2 h4.parts_all, h3.wf, ?_⟩
  have := h3.span; omega

def mkC (q : Int) : S52 := ⟨q, q + 1, q + 2⟩
def markC (l : List S52) : List S52 := (List.range l.length).map fun (j : Nat) => mkC (1 + 3 * (j : Int))
theorem rd_setC (l : List S52) (i : Nat) (v : S52) (h : i < l.length) : rd_T52 (l.set i v) (i : Int) = v := by
  rw [rdC, List.getD_eq_getElem?_getD, List.getElem?_set_self h]; rfl
theorem markCombs_from (n : Nat) (hn : n ≤ 2000000) : ∀ (d i : Nat) (l : List S52), i + d = n → l.length = n →
    Ev (fun k => laws_markCombS.l0 k l (1 + 3 * (i : Int)) i) (1 + 3 * (n : Int), l.take i ++ (List.range d).map fun (j : Nat) => mkC (1 + 3 * ((i + j : Nat) : Int))) := by
  intro d
  induction d with
  | zero =>
    intro i l hi hl
    obtain rfl : i = n := by omega
    refine Ev.succ (Ev.congr (fun k => ?_) (Ev.now _))
    simp only [laws_markCombS.l0]
    rw [if_neg (by omega), List.range_zero, List.map_nil, List.append_nil, List.take_of_length_le (by omega)]
  | succ d ih =>
    intro i l hi hl
    have hlt : i < l.length := by omega
    refine Ev.step (f := fun k => laws_markCombS.l0 k (l.set i (mkC (1 + 3 * (i : Int)))) (1 + 3 * ((i + 1 : Nat) : Int)) ((i + 1 : Nat) : Int)) (fun k => ?_) ?_
    · have w1 : wrap64 (1 + 3 * (i : Int) + 1) = 1 + 3 * (i : Int) + 1 := w64 (by omega) (by omega)
      have w2 : wrap64 (1 + 3 * (i : Int) + 1 + 1) = 1 + 3 * (i : Int) + 2 := by rw [w64 (by omega) (by omega)]; omega
      have w3 : wrap64 (1 + 3 * (i : Int) + 2 + 1) = 1 + 3 * ((i + 1 : Nat) : Int) := by rw [w64 (by omega) (by omega)]; omega
      simp only [laws_markCombS.l0, w1, w2, w3, Option.bind_some, Int.toNat_natCast]
      rw [if_pos (by omega), if_pos (by omega), next i (n := n) (by omega) (by omega)]
      congr 1
      simp only [rd_setC l i _ hlt, List.set_set]
      rfl
    · refine Ev.of_eq (ih (i + 1) (l.set i (mkC (1 + 3 * (i : Int)))) (by omega) (by simpa using hl)) ?_
      have e : (l.set i (mkC (1 + 3 * (i : Int)))).take (i + 1) = l.take i ++ [mkC (1 + 3 * (i : Int))] := by
        rw [List.take_succ_eq_append_getElem (by simp; omega)]
        simp [List.take_set_of_le]
      rw [e, List.append_assoc, List.range_succ_eq_map, List.map_cons, List.map_map, Nat.add_zero, List.singleton_append]
      congr 2
      congr 1
      apply List.map_congr_left
      intro j _
      show mkC (1 + 3 * ((i + 1 + j : Nat) : Int)) = mkC (1 + 3 * ((i + (j + 1) : Nat) : Int))
      congr 3; omega
theorem markCombs (l : List S52) (hl : l.length ≤ 2000000) : Ev (fun k => laws_markCombS.f k l 1) (1 + 3 * (l.length : Int), markC l) := by
  unfold laws_markCombS.f markC
  have := markCombs_from l.length hl l.length 0 l (by omega) rfl
  simp only [Nat.zero_add, List.take_zero, List.nil_append] at this
  exact this
theorem heldCombs (l : List S52) (hl : l.length ≤ 2000000) : Ev (fun k => laws_heldCombS.f k (markC l) 1) (1 + 3 * (l.length : Int)) := by
  unfold laws_heldCombS.f
  have hlen : (markC l).length = l.length := by unfold markC; simp
  have key : ∀ (d i : Nat), i + d = l.length → Ev (fun k => laws_heldCombS.l0 k (markC l) (1 + 3 * (i : Int)) i) (1 + 3 * (l.length : Int)) := by
    intro d
    induction d with
    | zero =>
      intro i hi
      refine Ev.succ (Ev.congr (fun k => ?_) (Ev.now _))
      simp only [laws_heldCombS.l0, hlen]
      rw [if_neg (by omega), show i = l.length by omega]
    | succ d ih =>
      intro i hi
      have e : rd_T52 (markC l) (i : Int) = mkC (1 + 3 * (i : Int)) := by
        rw [rdC]; unfold markC
        rw [List.getD_eq_getElem?_getD, List.getElem?_map, List.getElem?_range (by omega)]; rfl
      have w1 : wrap64 (1 + 3 * (i : Int) + 1) = 1 + 3 * (i : Int) + 1 := w64 (by omega) (by omega)
      have w2 : wrap64 (1 + 3 * (i : Int) + 1 + 1) = 1 + 3 * (i : Int) + 2 := by rw [w64 (by omega) (by omega)]; omega
      have w3 : wrap64 (1 + 3 * (i : Int) + 2 + 1) = 1 + 3 * ((i + 1 : Nat) : Int) := by rw [w64 (by omega) (by omega)]; omega
      refine Ev.step (f := fun k => laws_heldCombS.l0 k (markC l) (1 + 3 * ((i + 1 : Nat) : Int)) ((i + 1 : Nat) : Int)) (fun k => ?_) (ih (i + 1) (by omega))
      simp only [laws_heldCombS.l0, hlen, e, w1, w2, w3, mkC]
      rw [if_pos (by omega), if_pos (by omega), next i (n := l.length) (by omega) (by omega), if_pos trivial, if_pos trivial, if_pos trivial]
  exact key l.length 0 (by omega)
end Go.Proofs.Ytcjhhdecckcibaa.CombL
