/- Part 4 of 5 of the proof that the law FnExactCombOfTermSaid holds: for every input that can be read the call returns true and leaves its arguments as they were; no condition but those each theorem names. -/
import Derived.Test.YtcjhhdecckcibaaQCombOfTermW1
import Derived.Test.YtcjhhdecckcibaaQCombOfTerm1
import Derived.Test.YtcjhhdecckcibaaQCombOfTerm2
import Derived.Test.YtcjhhdecckcibaaQCombOfTerm3
namespace Go.Proofs.Ytcjhhdecckcibaa.G
open Go.RowKit Go.Proofs.YtcjhhdecckcibaaW.PrintWords Go.Proofs.YtcjhhdecckcibaaW.PrintLast Go.Proofs.YtcjhhdecckcibaaW.PrintMore
attribute [local go_sem] max2_int min2_int max_two min_two max_three min_three max_four min_four   -- for this text's walks alone
set_option linter.unusedVariables false
set_option linter.unusedSimpArgs false

def impl_combOfTerm.f : Nat → Int → Int → List (S68) → Int → Option (Int × Int × (List (S58)) × Bool)
 | 0, _, _, _, _ => none
 | k + 1, a0_0, a0_1, l0_2, a1 => if a0_0 = 1 then (if a0_1 < a1 then ((impl_combVar.f (wrap64 ((wrap64 ((wrap64 (100 + a1)) - 1)) - a0_1))).bind fun bt103 => (some (bt103.1, bt103.2.1, bt103.2.2, true))) else ((impl_combVar.f (wrap64 (a0_1 - a1))).bind fun bt108 => (some (bt108.1, bt108.2.1, bt108.2.2, true)))) else (if a0_0 = 2 then (if 0 < (l0_2.length : Int) then ((impl_combOfTerm.f k ((rd_T68 l0_2 0).f0) ((rd_T68 l0_2 0).f1) ((rd_T68 l0_2 0).f2) (wrap64 (a1 + 1))).bind fun bt114 => (if bt114.2.2.2 = true then ((impl_comb_abstract.f k bt114.1 bt114.2.1 bt114.2.2.1 (wrap64 (100 + a1))).bind fun bt121 => ((impl_comb_isGood.f k bt121.1 bt121.2.1 bt121.2.2).bind fun t127 => (some (bt121.1, bt121.2.1, bt121.2.2, t127)))) else (some (0, 0, ([] : List (S58)), false)))) else (none)) else (if 0 < (l0_2.length : Int) then ((impl_combOfTerm.f k ((rd_T68 l0_2 0).f0) ((rd_T68 l0_2 0).f1) ((rd_T68 l0_2 0).f2) a1).bind fun bt129 => (if 1 < (l0_2.length : Int) then ((impl_combOfTerm.f k ((rd_T68 l0_2 1).f0) ((rd_T68 l0_2 1).f1) ((rd_T68 l0_2 1).f2) a1).bind fun bt137 => ((impl_combApp.f bt129.1 bt129.2.1 bt129.2.2.1 bt137.1 bt137.2.1 bt137.2.2.1).bind fun bt144 => (if bt129.2.2.2 = true then (if bt137.2.2.2 = true then ((impl_comb_isGood.f k bt144.1 bt144.2.1 bt144.2.2).bind fun t150 => (some (bt144.1, bt144.2.1, bt144.2.2, t150))) else (some (bt144.1, bt144.2.1, bt144.2.2, false))) else (some (bt144.1, bt144.2.1, bt144.2.2, false))))) else (none))) else (none)))
def impl_combOfTerm.T15 : Bool × List (List Nat × List Nat) := (true, [([], []), ([], []), ([1], [1]), ([2], [2]), ([2, 3], [2, 3]), ([4, 2], [4]), ([5], [5]), ([6, 5, 5], [5, 6]), ([5, 7], [5, 7]), ([0, 7, 0], [0]), ([8, 9, 0, 1, 2, 3, 4, 5, 6, 7, 8, 9], [8])])
def impl_combOfTerm.B15 : List Nat := [0, 0, 2, 6, 14, 30, 62, 126, 254, 255, 1023]
theorem impl_combOfTerm.tab15 : rtab .any (opsOf Try.f61 15) = impl_combOfTerm.T15 := by kernel_rfl
theorem impl_combOfTerm.bits15 : waitsOk impl_combOfTerm.T15.2 impl_combOfTerm.B15 = true := by kernel_rfl
set_option maxHeartbeats 8000000 in
set_option maxRecDepth 100000 in
theorem impl_combOfTerm.calls (k : Nat) : ∀ (a0_0 : Int) (a0_1 : Int) (A0_2 : Option Addr) (c0_2 : Nat) (l0_2 : List (S68)) (a1 : Int) (r1 : Int) (r2 : Int) (r3 : List (S58)) (r4 : Bool) (w : World) (hr0_2 : Kd.C k68 w A0_2 l0_2.length l0_2) (hc0_2 : l0_2.length ≤ c0_2) (h : impl_combOfTerm.f k a0_0 a0_1 l0_2 a1 = some (r1, r2, r3, r4)),
  Calls Try.prog 61 #[.agg #[.int .i64 a0_0, .int .i64 a0_1, .slice A0_2 l0_2.length c0_2], .int .i64 a1] w fun e w' => ∃ v2_ : Value, e = .returned (.tuple #[.agg #[.int .i64 r1, .int .i64 r2, v2_], .bool r4]) ∧ Kd.V k58 58 w' w.heap.size (fun k_ => (w.heap.size ≤ k_)) v2_ r3 ∧ Below w.heap.size w w' := by
 induction k using Nat.strongRecOn with
 | _ k ih =>
 intro a0_0 a0_1 A0_2 c0_2 l0_2 a1 r1 r2 r3 r4 w hr0_2 hc0_2 h
 cases k with
 | zero => exact absurd h (by simp [impl_combOfTerm.f])
 | succ k =>
 simp only [impl_combOfTerm.f] at h
 have hu68 := Try.underlying68
 have hu58 := Try.underlying58
 have HR0_2 := aK hr0_2
 have HC0_2 := aK hc0_2
 clear hr0_2 hc0_2
 have HB := aK (Below.refl w.heap.size w)
 have H : (if a0_0 = 1 then (if a0_1 < a1 then ((impl_combVar.f (wrap64 ((wrap64 ((wrap64 (100 + a1)) - 1)) - a0_1))).bind fun bt103 => (some (bt103.1, bt103.2.1, bt103.2.2, true))) else ((impl_combVar.f (wrap64 (a0_1 - a1))).bind fun bt108 => (some (bt108.1, bt108.2.1, bt108.2.2, true)))) else (if a0_0 = 2 then (if 0 < (l0_2.length : Int) then ((impl_combOfTerm.f k ((rd_T68 l0_2 0).f0) ((rd_T68 l0_2 0).f1) ((rd_T68 l0_2 0).f2) (wrap64 (a1 + 1))).bind fun bt114 => (if bt114.2.2.2 = true then ((impl_comb_abstract.f k bt114.1 bt114.2.1 bt114.2.2.1 (wrap64 (100 + a1))).bind fun bt121 => ((impl_comb_isGood.f k bt121.1 bt121.2.1 bt121.2.2).bind fun t127 => (some (bt121.1, bt121.2.1, bt121.2.2, t127)))) else (some (0, 0, ([] : List (S58)), false)))) else (none)) else (if 0 < (l0_2.length : Int) then ((impl_combOfTerm.f k ((rd_T68 l0_2 0).f0) ((rd_T68 l0_2 0).f1) ((rd_T68 l0_2 0).f2) a1).bind fun bt129 => (if 1 < (l0_2.length : Int) then ((impl_combOfTerm.f k ((rd_T68 l0_2 1).f0) ((rd_T68 l0_2 1).f1) ((rd_T68 l0_2 1).f2) a1).bind fun bt137 => ((impl_combApp.f bt129.1 bt129.2.1 bt129.2.2.1 bt137.1 bt137.2.1 bt137.2.2.1).bind fun bt144 => (if bt129.2.2.2 = true then (if bt137.2.2.2 = true then ((impl_comb_isGood.f k bt144.1 bt144.2.1 bt144.2.2).bind fun t150 => (some (bt144.1, bt144.2.1, bt144.2.2, t150))) else (some (bt144.1, bt144.2.1, bt144.2.2, false))) else (some (bt144.1, bt144.2.1, bt144.2.2, false))))) else (none))) else (none)))) = some (r1, r2, r3, r4) := h
 clear h
 by_cases c3 : a0_0 = 1
 ·rw [if_pos c3] at H
  have c3b0 : (a0_0 == 1) = true := beq_iff_eq.mpr c3
  have c3b1 : (a0_0 != 1) = false := bne_eq_false_iff_eq.mpr c3
  clear c3
  by_cases c4 : a0_1 < a1
  ·rw [if_pos c4] at H
   have c4b0 : decide (a0_1 < a1) = true := decide_eq_true c4
   clear c4
   replace H := Option.bind_eq_some_iff.mp H
   obtain ⟨⟨t103, t104, t105⟩, A50, H⟩ := H
   try dsimp only at H
   have A5 := aK A50
   clear A50
   simp only [Option.some.injEq, Prod.mk.injEq] at H
   obtain ⟨rfl, rfl, rfl, rfl⟩ := H
   go_enter Try.func61, Try.ntmps61
   go_wp2_with (first | ((with_reducible refine gate_dst (N := 2) rfl ?_); refine bE (N := 2) (cs := #[.int .i64 a0_0, .int .i64 a0_1, .slice A0_2 l0_2.length c0_2]) (t := 68) ?_; intro gb101 hg w6 hbox hb; have GW101 := qw HB hg; have GE101 := qw HB hg; have BK101 := aK hbox; replace HB := qs HB hb; clear hb hbox hg) | ((with_reducible refine gate_dst (N := 4) rfl ?_); refine bE (N := 4) (cs := #[.int .i64 0, .int .i64 0, .slice none 0 0]) (t := 58) ?_; intro gb102 hg w7 hbox hb; have GW102 := qw HB hg; have GE102 := qw HB hg; have NB101_102 := ql BK101 hg; have NB102_101 := qg BK101 hg; replace BK101 := qb BK101 hb; have BK102 := aK hbox; replace HB := qs HB hb; clear hb hbox hg; have hnb8 := NB101_102.out; have hnc8 := NB102_101.out; have hcz9_0 := k30 BK101; have hcz9_1 := k31 BK101; have hcz9_2 := k32 BK101; have hfz9_0 := fz BK101 0; have hfz9_1 := fz BK101 1; have hfz9_2 := fz BK101 2) | ((with_reducible refine gate_callee (f := 82) rfl ?_); refine goesL_ (some 28) rfl rfl Try.func82 (by kernel_rfl) rfl #[.int .i64 (wrap64 ((wrap64 ((wrap64 (100 + a1)) - 1)) - a0_1))] rfl tA ?_; (with_reducible refine (impl_combVar.calls (wrap64 ((wrap64 ((wrap64 (100 + a1)) - 1)) - a0_1)) t103 t104 t105 _ A5.out).mono ?_); rintro e w10 ⟨v106, rfl, ho0, hb⟩; refine ⟨_, rfl, ?_⟩; have HO107 := aK (Kd.N_lower (Kd.N_mono (ok' := fun k_ => (w.heap.size ≤ k_) ∧ k_ ≠ gb101 ∧ k_ ≠ gb102) (Kd.R_N (Kd.R_bound ho0)) (fun k_ hk_ => ⟨(Nat.le_trans (below_size HB.out) hk_.2.1), (Kd.freshB BK101.out k_ hk_.2.1), (Kd.freshB BK102.out k_ hk_.2.1)⟩)) (below_size HB.out)); replace BK101 := qb BK101 hb; replace BK102 := qb BK102 hb; replace HB := qs HB hb; (try clear hb); (try clear ho0); have hcz11_0 := k30 BK102; have hcz11_1 := k31 BK102; have hcz11_2 := k32 BK102; have hfz11_0 := fz BK102 0; have hfz11_1 := fz BK102 1; have hfz11_2 := fz BK102 2; obtain ⟨Ao12, co12, eo12⟩ := Kd.N_slice HO107.out; subst eo12))
   refine bodyPost_ret (results_ct rfl _ _ gb102 58 #[.int .i64 t103, .int .i64 t104, .slice Ao12 t105.length co12] (0, 0) _ rfl (p3 BK102) Try.underlying58 rfl (by kernel_rfl)) rfl ?_
   exact ⟨_, eW, Kd.N_V (by (with_reducible repeat (first | apply Kd.N_alloc | apply Kd.N_drewN | apply Kd.N_drew)); exact Kd.N_mono (nF3 gb102 (Kd.N_mono HO107.out (fun k_ hk => (⟨hk, hk.2.2⟩ : _ ∧ k_ ≠ gb102))) (fun _ hk => hk.2)) (fun _ hk => hk.1.1)), pH HB⟩
  ·rw [if_neg c4] at H
   have c4b0 : decide (a0_1 < a1) = false := decide_eq_false c4
   clear c4
   replace H := Option.bind_eq_some_iff.mp H
   obtain ⟨⟨t108, t109, t110⟩, A130, H⟩ := H
   try dsimp only at H
   have A13 := aK A130
   clear A130
   simp only [Option.some.injEq, Prod.mk.injEq] at H
   obtain ⟨rfl, rfl, rfl, rfl⟩ := H
   go_enter Try.func61, Try.ntmps61
   go_wp2_with (first | ((with_reducible refine gate_dst (N := 2) rfl ?_); refine bE (N := 2) (cs := #[.int .i64 a0_0, .int .i64 a0_1, .slice A0_2 l0_2.length c0_2]) (t := 68) ?_; intro gb101 hg w14 hbox hb; have GW101 := qw HB hg; have GE101 := qw HB hg; have BK101 := aK hbox; replace HB := qs HB hb; clear hb hbox hg) | ((with_reducible refine gate_dst (N := 4) rfl ?_); refine bE (N := 4) (cs := #[.int .i64 0, .int .i64 0, .slice none 0 0]) (t := 58) ?_; intro gb102 hg w15 hbox hb; have GW102 := qw HB hg; have GE102 := qw HB hg; have NB101_102 := ql BK101 hg; have NB102_101 := qg BK101 hg; replace BK101 := qb BK101 hb; have BK102 := aK hbox; replace HB := qs HB hb; clear hb hbox hg; have hnb16 := NB101_102.out; have hnc16 := NB102_101.out; have hcz17_0 := k30 BK101; have hcz17_1 := k31 BK101; have hcz17_2 := k32 BK101; have hfz17_0 := fz BK101 0; have hfz17_1 := fz BK101 1; have hfz17_2 := fz BK101 2) | ((with_reducible refine gate_callee (f := 82) rfl ?_); refine goesL_ (some 33) rfl rfl Try.func82 (by kernel_rfl) rfl #[.int .i64 (wrap64 (a0_1 - a1))] rfl tA ?_; (with_reducible refine (impl_combVar.calls (wrap64 (a0_1 - a1)) t108 t109 t110 _ A13.out).mono ?_); rintro e w18 ⟨v111, rfl, ho0, hb⟩; refine ⟨_, rfl, ?_⟩; have HO112 := aK (Kd.N_lower (Kd.N_mono (ok' := fun k_ => (w.heap.size ≤ k_) ∧ k_ ≠ gb101 ∧ k_ ≠ gb102) (Kd.R_N (Kd.R_bound ho0)) (fun k_ hk_ => ⟨(Nat.le_trans (below_size HB.out) hk_.2.1), (Kd.freshB BK101.out k_ hk_.2.1), (Kd.freshB BK102.out k_ hk_.2.1)⟩)) (below_size HB.out)); replace BK101 := qb BK101 hb; replace BK102 := qb BK102 hb; replace HB := qs HB hb; (try clear hb); (try clear ho0); have hcz19_0 := k30 BK102; have hcz19_1 := k31 BK102; have hcz19_2 := k32 BK102; have hfz19_0 := fz BK102 0; have hfz19_1 := fz BK102 1; have hfz19_2 := fz BK102 2; obtain ⟨Ao20, co20, eo20⟩ := Kd.N_slice HO112.out; subst eo20))
   refine bodyPost_ret (results_ct rfl _ _ gb102 58 #[.int .i64 t108, .int .i64 t109, .slice Ao20 t110.length co20] (0, 0) _ rfl (p3 BK102) Try.underlying58 rfl (by kernel_rfl)) rfl ?_
   exact ⟨_, eW, Kd.N_V (by (with_reducible repeat (first | apply Kd.N_alloc | apply Kd.N_drewN | apply Kd.N_drew)); exact Kd.N_mono (nF3 gb102 (Kd.N_mono HO112.out (fun k_ hk => (⟨hk, hk.2.2⟩ : _ ∧ k_ ≠ gb102))) (fun _ hk => hk.2)) (fun _ hk => hk.1.1)), pH HB⟩
 ·rw [if_neg c3] at H
  have c3b0 : (a0_0 == 1) = false := beq_eq_false_iff_ne.mpr c3
  have c3b1 : (a0_0 != 1) = true := bne_iff_ne.mpr c3
  by_cases c21 : a0_0 = 2
  ·rw [if_pos c21] at H
   have c21b0 : (a0_0 == 2) = true := beq_iff_eq.mpr c21
   have c21b1 : (a0_0 != 2) = false := bne_eq_false_iff_eq.mpr c21
   clear c21
   by_cases c22 : 0 < (l0_2.length : Int)
   ·rw [if_pos c22] at H
    have c22b0 : decide (0 < (l0_2.length : Int)) = true := decide_eq_true c22
    have c22b1 : decide (0 < l0_2.length) = true := decide_eq_true (by omega)
    clear c22
    replace H := Option.bind_eq_some_iff.mp H
    obtain ⟨⟨t114, t115, t116, t119⟩, A230, H⟩ := H
    try dsimp only at H
    have A23 := aK A230
    clear A230
    by_cases c24 : t119 = true
    ·subst c24
     rw [if_pos rfl] at H
     replace H := Option.bind_eq_some_iff.mp H
     obtain ⟨⟨t121, t122, t123⟩, A250, H⟩ := H
     try dsimp only at H
     have A25 := aK A250
     clear A250
     replace H := Option.bind_eq_some_iff.mp H
     obtain ⟨t127, A260, H⟩ := H
     try dsimp only at H
     have A26 := aK A260
     clear A260
     simp only [Option.some.injEq, Prod.mk.injEq] at H
     obtain ⟨rfl, rfl, rfl, rfl⟩ := H
     go_enter Try.func61, Try.ntmps61
     try go_wp2_with (first | ((with_reducible refine gate_dst (N := 2) rfl ?_); refine bE (N := 2) (cs := #[.int .i64 a0_0, .int .i64 a0_1, .slice A0_2 l0_2.length c0_2]) (t := 68) ?_; intro gb101 hg w27 hbox hb; have GW101 := qw HB hg; have GE101 := qw HB hg; have BK101 := aK hbox; replace HB := qs HB hb; clear hb hbox hg) | ((with_reducible refine gate_dst (N := 4) rfl ?_); refine bE (N := 4) (cs := #[.int .i64 0, .int .i64 0, .slice none 0 0]) (t := 58) ?_; intro gb102 hg w28 hbox hb; have GW102 := qw HB hg; have GE102 := qw HB hg; have NB101_102 := ql BK101 hg; have NB102_101 := qg BK101 hg; replace BK101 := qb BK101 hb; have BK102 := aK hbox; replace HB := qs HB hb; clear hb hbox hg; have hnb29 := NB101_102.out; have hnc29 := NB102_101.out; have hcz30_0 := k30 BK101; have hcz30_1 := k31 BK101; have hcz30_2 := k32 BK101; have hfz30_0 := fz BK101 0; have hfz30_1 := fz BK101 1; have hfz30_2 := fz BK101 2; have p113 : 0 ≤ (0 : Int) := (by omega); have q113 : 0 < (l0_2.length : Int) := dA; obtain ⟨ad113, A113_2, c113_2, e113, hx113_0, hx113_1, hx113_2, hl113_2, hi113_2⟩ := at_T68 HR0_2.out 0 p113 q113; cases e113; have qi113 : (0 < l0_2.length) = True := eq_true (by omega); (try rw [show ((0 : Int)).toNat = 0 from rfl] at hx113_0); (try rw [show 0 * 3 = 0 from rfl] at hx113_0); (try rw [Addr.add_zero'] at hx113_0); (try rw [show ((0 : Int)).toNat = 0 from rfl] at hx113_1); (try rw [show 0 * 3 = 0 from rfl] at hx113_1); (try rw [Addr.add_zero'] at hx113_1); (try rw [show ((0 : Int)).toNat = 0 from rfl] at hx113_2); (try rw [show 0 * 3 = 0 from rfl] at hx113_2); (try rw [Addr.add_zero'] at hx113_2); replace hx113_0 := uC HB hx113_0; replace hx113_1 := uC HB hx113_1; replace hx113_2 := uC HB hx113_2; have HR113_2 := aK hi113_2; have HC113_2 := aK hl113_2; clear hi113_2 hl113_2; replace p113 := eq_true p113; replace q113 := eq_true q113) | ((with_reducible refine gate_callee (f := 61) rfl ?_); refine goesL_ (some 43) rfl rfl Try.func61 (by kernel_rfl) rfl #[.agg #[.int .i64 ((rd_T68 l0_2 0).f0), .int .i64 ((rd_T68 l0_2 0).f1), .slice A113_2 ((rd_T68 l0_2 0).f2).length c113_2], .int .i64 (wrap64 (a1 + 1))] rfl tA ?_; (with_reducible refine (ih k (by omega) ((rd_T68 l0_2 0).f0) ((rd_T68 l0_2 0).f1) _ _ ((rd_T68 l0_2 0).f2) (wrap64 (a1 + 1)) t114 t115 t116 true _ ?side1 ?side2 A23.out).mono ?_); (case side1 => exact sC (Kd.C_below HR113_2.out HB.out)); (case side2 => exact HC113_2.out); rintro e w31 ⟨v117, rfl, ho0, hb⟩; refine ⟨_, rfl, ?_⟩; have HO118 := aK (Kd.V_lower (Kd.V_mono (ok' := fun k_ => (w.heap.size ≤ k_) ∧ k_ ≠ gb101 ∧ k_ ≠ gb102) ho0 (fun k_ hk_ => ⟨(Nat.le_trans (below_size HB.out) hk_), (Kd.freshB BK101.out k_ hk_), (Kd.freshB BK102.out k_ hk_)⟩)) (below_size HB.out)); replace BK101 := qb BK101 hb; replace BK102 := qb BK102 hb; replace HB := qs HB hb; (try clear hb); (try clear ho0)) | ((with_reducible refine gate_dst (N := 6) rfl ?_); refine bE (N := 6) (cs := #[.int .i64 0, .int .i64 0, .slice none 0 0]) (t := 58) ?_; intro gb120 hg w32 hbox hb; have GW120 := qw HB hg; have GE120 := qw HB hg; have NB101_120 := ql BK101 hg; have NB120_101 := qg BK101 hg; have NB102_120 := ql BK102 hg; have NB120_102 := qg BK102 hg; replace HO118 := qv HO118 hg hb; replace BK101 := qb BK101 hb; replace BK102 := qb BK102 hb; have BK120 := aK hbox; replace HB := qs HB hb; clear hb hbox hg; have hnb33 := NB120_101.out; have hnc33 := NB101_120.out; have hnb34 := NB120_102.out; have hnc34 := NB102_120.out; have hcz35_0 := k30 BK120; have hcz35_1 := k31 BK120; have hcz35_2 := k32 BK120; have hfz35_0 := fz BK120 0; have hfz35_1 := fz BK120 1; have hfz35_2 := fz BK120 2; obtain ⟨Ao36, co36, eo36⟩ := Kd.V_slice HO118.out; subst eo36) | ((with_reducible refine gate_store (t := 58) (p := 6) rfl ?_); refine store_event (t := 58) (p := 6) (v := ?vo_w37) (w1 := (((w32.setCell ⟨gb120, 0, none⟩ (.int .i64 t114)).setCell ⟨gb120, 1, none⟩ (.int .i64 t115)).setCell ⟨gb120, 2, none⟩ (.slice Ao36 t116.length co36))) ?hg ?ho ?hn ?hr ?_; (case ho => rfl); (case hg => rfl); (case hn => rfl); (case hr => first | (go_simp; done) | (go_simp; rfl)); intro w37 hw; have n0_ : Aside0 (Kd.V k58 58 w37 w.heap.size (fun k_ => (w.heap.size ≤ k_) ∧ k_ ≠ gb101 ∧ k_ ≠ gb102 ∧ k_ ≠ gb120) (.slice Ao36 t116.length co36) t116) := ⟨(by rw [hw]; exact (by (with_reducible repeat (first | apply Kd.V_alloc | apply Kd.V_drewN | apply Kd.V_drew)); exact Kd.V_mono (vF3 gb120 (Kd.V_mono HO118.out (fun k_ hk => (⟨hk, hk.2⟩ : _ ∧ k_ ≠ gb120))) (fun _ hk => hk.2)) (fun _ hk => ⟨hk.1.1.1, ⟨hk.1.1.2.1, ⟨hk.1.1.2.2, hk.1.2⟩⟩⟩)))⟩; have n1_ : Aside0 (w37.heap[gb101]? = some (.cells #[.int .i64 a0_0, .int .i64 a0_1, .slice (some ad113) l0_2.length c0_2] 68 (0, 0))) := ⟨(by rw [hw]; exact (by (repeat first | with_reducible apply zN | with_reducible apply zD | with_reducible apply zA | refine blk_far ?_ NB101_120.out _); exact BK101.out))⟩; have n2_ : Aside0 (w37.heap[gb102]? = some (.cells #[.int .i64 0, .int .i64 0, .slice none 0 0] 58 (0, 0))) := ⟨(by rw [hw]; exact (by (repeat first | with_reducible apply zN | with_reducible apply zD | with_reducible apply zA | refine blk_far ?_ NB102_120.out _); exact BK102.out))⟩; have n3_ : Aside0 (w37.heap[gb120]? = some (.cells #[.int .i64 t114, .int .i64 t115, .slice Ao36 t116.length co36] 58 (0, 0))) := ⟨(by rw [hw]; exact (p3 BK120))⟩; have n4_ : Aside0 (Below w.heap.size w w37) := ⟨(by rw [hw]; exact (pH HB))⟩; clear hw; clear HO118; clear BK101; clear BK102; clear BK120; clear HB; have HO118 := n0_; have BK101 := n1_; have BK102 := n2_; have BK120 := n3_; have HB := n4_; clear n0_ n1_ n2_ n3_ n4_; have hcz38_0 := k30 BK120; have hcz38_1 := k31 BK120; have hcz38_2 := k32 BK120; have hfz38_0 := fz BK120 0; have hfz38_1 := fz BK120 1; have hfz38_2 := fz BK120 2) | ((with_reducible refine gate_callee (f := 53) rfl ?_); refine goesL_ (some 52) rfl rfl Try.func53 (by kernel_rfl) rfl #[.agg #[.int .i64 t114, .int .i64 t115, .slice Ao36 t116.length co36], .int .i64 (wrap64 (100 + a1))] rfl tA ?_; (with_reducible refine (impl_comb_abstract.calls k t114 t115 (fun k_ => ((w.heap.size ≤ k_) ∧ (k_ ≠ gb101 ∧ (k_ ≠ gb102 ∧ k_ ≠ gb120)))) _ _ t116 (wrap64 (100 + a1)) t121 t122 t123 _ ?side1 A25.out).mono ?_); (case side1 => exact HO118.out); rintro e w39 ⟨v124, rfl, ho0, hb⟩; refine ⟨_, rfl, ?_⟩; have n0_ := aK (Kd.V_below HO118.out hb); have HO125 := aK (Kd.V_lower (Kd.V_mono (ok' := fun k_ => (w.heap.size ≤ k_) ∧ k_ ≠ gb101 ∧ k_ ≠ gb102 ∧ k_ ≠ gb120) ho0 (fun k_ hk_ => ⟨Or.elim hk_ (fun hs_ => hs_.1) (fun hn_ => (Nat.le_trans (below_size HB.out) hn_)), Or.elim hk_ (fun hs_ => hs_.2.1) (fun hn_ => (Kd.freshB BK101.out k_ hn_)), Or.elim hk_ (fun hs_ => hs_.2.2.1) (fun hn_ => (Kd.freshB BK102.out k_ hn_)), Or.elim hk_ (fun hs_ => hs_.2.2.2) (fun hn_ => (Kd.freshB BK120.out k_ hn_))⟩)) (below_size HB.out)); replace BK101 := qb BK101 hb; replace BK102 := qb BK102 hb; replace BK120 := qb BK120 hb; clear HO118; have HO118 := n0_; clear n0_; replace HB := qs HB hb; (try clear hb); (try clear ho0)) | ((with_reducible refine gate_dst (N := 8) rfl ?_); refine bE (N := 8) (cs := #[.int .i64 0, .int .i64 0, .slice none 0 0]) (t := 58) ?_; intro gb126 hg w40 hbox hb; have GW126 := qw HB hg; have GE126 := qw HB hg; have NB101_126 := ql BK101 hg; have NB126_101 := qg BK101 hg; have NB102_126 := ql BK102 hg; have NB126_102 := qg BK102 hg; have NB120_126 := ql BK120 hg; have NB126_120 := qg BK120 hg; replace HO118 := qv HO118 hg hb; replace HO125 := qv HO125 hg hb; replace BK101 := qb BK101 hb; replace BK102 := qb BK102 hb; replace BK120 := qb BK120 hb; have BK126 := aK hbox; replace HB := qs HB hb; clear hb hbox hg; have hnb41 := NB126_101.out; have hnc41 := NB101_126.out; have hnb42 := NB126_102.out; have hnc42 := NB102_126.out; have hnb43 := NB126_120.out; have hnc43 := NB120_126.out; have hcz44_0 := k30 BK126; have hcz44_1 := k31 BK126; have hcz44_2 := k32 BK126; have hfz44_0 := fz BK126 0; have hfz44_1 := fz BK126 1; have hfz44_2 := fz BK126 2; obtain ⟨Ao45, co45, eo45⟩ := Kd.V_slice HO125.out; subst eo45))
     have n0_ : Aside0 (Kd.V k58 58 (((w40.setCell ⟨gb126, 0, none⟩ (.int .i64 t121)).setCell ⟨gb126, 1, none⟩ (.int .i64 t122)).setCell ⟨gb126, 2, none⟩ (.slice Ao45 t123.length co45)) w.heap.size (fun k_ => (w.heap.size ≤ k_) ∧ k_ ≠ gb101 ∧ k_ ≠ gb102 ∧ k_ ≠ gb120 ∧ k_ ≠ gb126) (.slice Ao36 t116.length co36) t116) := ⟨by (with_reducible repeat (first | apply Kd.V_alloc | apply Kd.V_drewN | apply Kd.V_drew)); exact Kd.V_mono (vF3 gb126 (Kd.V_mono HO118.out (fun k_ hk => (⟨hk, hk.2⟩ : _ ∧ k_ ≠ gb126))) (fun _ hk => hk.2)) (fun _ hk => ⟨hk.1.1.1, ⟨hk.1.1.2.1, ⟨hk.1.1.2.2.1, ⟨hk.1.1.2.2.2, hk.1.2⟩⟩⟩⟩)⟩
     have n1_ : Aside0 (Kd.V k58 58 (((w40.setCell ⟨gb126, 0, none⟩ (.int .i64 t121)).setCell ⟨gb126, 1, none⟩ (.int .i64 t122)).setCell ⟨gb126, 2, none⟩ (.slice Ao45 t123.length co45)) w.heap.size (fun k_ => (w.heap.size ≤ k_) ∧ k_ ≠ gb101 ∧ k_ ≠ gb102 ∧ k_ ≠ gb120 ∧ k_ ≠ gb126) (.slice Ao45 t123.length co45) t123) := ⟨by (with_reducible repeat (first | apply Kd.V_alloc | apply Kd.V_drewN | apply Kd.V_drew)); exact Kd.V_mono (vF3 gb126 (Kd.V_mono HO125.out (fun k_ hk => (⟨hk, hk.2⟩ : _ ∧ k_ ≠ gb126))) (fun _ hk => hk.2)) (fun _ hk => ⟨hk.1.1.1, ⟨hk.1.1.2.1, ⟨hk.1.1.2.2.1, ⟨hk.1.1.2.2.2, hk.1.2⟩⟩⟩⟩)⟩
     have n2_ : Aside0 ((((w40.setCell ⟨gb126, 0, none⟩ (.int .i64 t121)).setCell ⟨gb126, 1, none⟩ (.int .i64 t122)).setCell ⟨gb126, 2, none⟩ (.slice Ao45 t123.length co45)).heap[gb101]? = some (.cells #[.int .i64 a0_0, .int .i64 a0_1, .slice (some ad113) l0_2.length c0_2] 68 (0, 0))) := ⟨by (repeat first | with_reducible apply zN | with_reducible apply zD | with_reducible apply zA | refine blk_far ?_ NB101_126.out _); exact BK101.out⟩
     have n3_ : Aside0 ((((w40.setCell ⟨gb126, 0, none⟩ (.int .i64 t121)).setCell ⟨gb126, 1, none⟩ (.int .i64 t122)).setCell ⟨gb126, 2, none⟩ (.slice Ao45 t123.length co45)).heap[gb102]? = some (.cells #[.int .i64 0, .int .i64 0, .slice none 0 0] 58 (0, 0))) := ⟨by (repeat first | with_reducible apply zN | with_reducible apply zD | with_reducible apply zA | refine blk_far ?_ NB102_126.out _); exact BK102.out⟩
     have n4_ : Aside0 ((((w40.setCell ⟨gb126, 0, none⟩ (.int .i64 t121)).setCell ⟨gb126, 1, none⟩ (.int .i64 t122)).setCell ⟨gb126, 2, none⟩ (.slice Ao45 t123.length co45)).heap[gb120]? = some (.cells #[.int .i64 t114, .int .i64 t115, .slice Ao36 t116.length co36] 58 (0, 0))) := ⟨by (repeat first | with_reducible apply zN | with_reducible apply zD | with_reducible apply zA | refine blk_far ?_ NB120_126.out _); exact BK120.out⟩
     have n5_ : Aside0 ((((w40.setCell ⟨gb126, 0, none⟩ (.int .i64 t121)).setCell ⟨gb126, 1, none⟩ (.int .i64 t122)).setCell ⟨gb126, 2, none⟩ (.slice Ao45 t123.length co45)).heap[gb126]? = some (.cells #[.int .i64 t121, .int .i64 t122, .slice Ao45 t123.length co45] 58 (0, 0))) := ⟨p3 BK126⟩
     have n6_ : Aside0 (Below w.heap.size w (((w40.setCell ⟨gb126, 0, none⟩ (.int .i64 t121)).setCell ⟨gb126, 1, none⟩ (.int .i64 t122)).setCell ⟨gb126, 2, none⟩ (.slice Ao45 t123.length co45))) := ⟨pH HB⟩
     (try clear HO118)
     (try clear HO125)
     (try clear BK101)
     (try clear BK102)
     (try clear BK120)
     (try clear BK126)
     (try clear HB)
     generalize (((w40.setCell ⟨gb126, 0, none⟩ (.int .i64 t121)).setCell ⟨gb126, 1, none⟩ (.int .i64 t122)).setCell ⟨gb126, 2, none⟩ (.slice Ao45 t123.length co45)) = w46 at n0_ n1_ n2_ n3_ n4_ n5_ n6_ ⊢
     have HO118 := n0_
     have HO125 := n1_
     have BK101 := n2_
     have BK102 := n3_
     have BK120 := n4_
     have BK126 := n5_
     have HB := n6_
     clear n0_ n1_ n2_ n3_ n4_ n5_ n6_
     have n0_ := aK (Kd.V_drew HO118.out)
     have n1_ := aK (Kd.V_drew HO125.out)
     have n2_ := aK (blk_drew BK101.out)
     have n3_ := aK (blk_drew BK102.out)
     have n4_ := aK (blk_drew BK120.out)
     have n5_ := aK (blk_drew BK126.out)
     have n6_ := aK (below_drew1 HB.out)
     clear HO118
     clear HO125
     clear BK101
     clear BK102
     clear BK120
     clear BK126
     clear HB
     have HO118 := n0_
     have HO125 := n1_
     have BK101 := n2_
     have BK102 := n3_
     have BK120 := n4_
     have BK126 := n5_
     have HB := n6_
     clear n0_ n1_ n2_ n3_ n4_ n5_ n6_
     refine start_ (n := 5) (S := fun w' => w'.cell? ⟨gb126, 0, none⟩ = some (.int .i64 t121) ∧ w'.cell? ⟨gb126, 1, none⟩ = some (.int .i64 t122) ∧ w'.cell? ⟨gb126, 2, none⟩ = some (.slice Ao45 t123.length co45)) (ds := []) (bs 0 5) (by kernel_rfl) rfl rfl ⟨(blk_cell BK126.out 0).trans rfl, (blk_cell BK126.out 1).trans rfl, (blk_cell BK126.out 2).trans rfl⟩ (fun hHeld => ?_)
     generalize w46.drew = w47 at HO118 HO125 BK101 BK102 BK120 BK126 HB hHeld ⊢
     refine take_ (i := 0) (N := some 53) (v := ?_) (a' := ?_) (bs 1 4) rfl rfl (by kernel_rfl) (fun _ _ _ h => h) (Or.inl ⟨by rfl, ?_⟩) hHeld ?_ ?_
     rotate_left
     ·rintro w' ⟨s0, s1, s2⟩
      go_simp
      with_reducible rfl
     rotate_left
     ·simp only [sP, i64_w, i32_w]
      rfl
     refine take_ (i := 1) (N := some 54) (v := ?_) (a' := ?_) (bs 2 3) rfl rfl (by kernel_rfl) (fun _ _ _ h => h) (Or.inl ⟨by rfl, ?_⟩) hHeld ?_ ?_
     rotate_left
     ·rintro w' ⟨s0, s1, s2⟩
      go_simp
      with_reducible rfl
     rotate_left
     ·simp only [sP, i64_w, i32_w]
      rfl
     refine one_ (i := 2) (N := some 55) (bs 3 2) rfl rfl (by kernel_rfl) (by decide) (fun K hK => ?_)
     refine goes_ Try.func58 (by kernel_rfl) rfl #[.agg #[.int .i64 t121, .int .i64 t122, .slice Ao45 t123.length co45]] (by rfl) rfl rfl tA ?_
     with_reducible refine (impl_comb_isGood.calls k t121 t122 _ _ t123 t127 _ ?side1 ?side2 A26.out).mono ?_
     (case side1 => exact sC ((Kd.V_reads' HO125.out).2.2))
     (case side2 => exact (Kd.V_reads' HO125.out).2.1)
     rintro e w48 ⟨rfl, hb⟩
     refine ⟨_, rfl, ?_⟩
     have n0_ := aK (Kd.V_below HO118.out hb)
     have n1_ := aK (Kd.V_below HO125.out hb)
     have n2_ := aK (blk_below BK101.out hb)
     have n3_ := aK (blk_below BK102.out hb)
     have n4_ := aK (blk_below BK120.out hb)
     have n5_ := aK (blk_below BK126.out hb)
     have n6_ := aK (below_step (pH HB) hb)
     clear HO118
     clear HO125
     clear BK101
     clear BK102
     clear BK120
     clear BK126
     clear HB
     have HO118 := n0_
     have HO125 := n1_
     have BK101 := n2_
     have BK102 := n3_
     have BK120 := n4_
     have BK126 := n5_
     have HB := n6_
     clear n0_ n1_ n2_ n3_ n4_ n5_ n6_
     (try clear hb)
     (try clear hb2)
     (try clear hk)
     (try clear hi)
     refine hK.out _ _ ⟨(blk_cell BK126.out 0).trans rfl, (blk_cell BK126.out 1).trans rfl, (blk_cell BK126.out 2).trans rfl⟩ (fun hHeld => ?_)
     clear hK K
     refine norm_ (a' := ?_) ?_ ?_
     rotate_left
     ·show Act.put _ (some 55) _ = _
      simp only [sP, i64_w, i32_w]
      rfl
     refine one_ (i := 3) (N := none) (bs 4 1) rfl rfl (by kernel_rfl) (by decide) (fun K hK => ?_)
     have hs49 : w48.cell? ⟨gb102, 0, none⟩ = some (.int .i64 0) := (blk_cell BK102.out 0).trans rfl
     have hfs49 := blk_frozen BK102.out 0
     have hns49_0 := NB101_102.out
     have hns49_2 := NB120_102.out
     have hns49_3 := NB126_102.out
     have hms49_0 := NB102_101.out
     have hms49_2 := NB102_120.out
     have hms49_3 := NB102_126.out
     have hs50 : w48.cell? ⟨gb102, 1, none⟩ = some (.int .i64 0) := (blk_cell BK102.out 1).trans rfl
     have hfs50 := blk_frozen BK102.out 1
     have hns50_0 := NB101_102.out
     have hns50_2 := NB120_102.out
     have hns50_3 := NB126_102.out
     have hms50_0 := NB102_101.out
     have hms50_2 := NB102_120.out
     have hms50_3 := NB102_126.out
     have hs51 : w48.cell? ⟨gb102, 2, none⟩ = some (.slice none 0 0) := (blk_cell BK102.out 2).trans rfl
     have hfs51 := blk_frozen BK102.out 2
     have hns51_0 := NB101_102.out
     have hns51_2 := NB120_102.out
     have hns51_3 := NB126_102.out
     have hms51_0 := NB102_101.out
     have hms51_2 := NB102_120.out
     have hms51_3 := NB102_126.out
     refine skip_ (w1 := ?_) (by rfl) rfl ?_ ?_
     rotate_left
     ·go_simp
      rfl
     refine hK.out _ _ ⟨((cell_far (p := ⟨gb102, _, none⟩) NB126_102.out _).trans (((cell_far (p := ⟨gb102, _, none⟩) NB126_102.out _).trans (((cell_far (p := ⟨gb102, _, none⟩) NB126_102.out _).trans (hHeld.1)))))), ((cell_far (p := ⟨gb102, _, none⟩) NB126_102.out _).trans (((cell_far (p := ⟨gb102, _, none⟩) NB126_102.out _).trans (((cell_far (p := ⟨gb102, _, none⟩) NB126_102.out _).trans (hHeld.2.1)))))), ((cell_far (p := ⟨gb102, _, none⟩) NB126_102.out _).trans (((cell_far (p := ⟨gb102, _, none⟩) NB126_102.out _).trans (((cell_far (p := ⟨gb102, _, none⟩) NB126_102.out _).trans (hHeld.2.2))))))⟩ (fun hHeld => ?_)
     clear hK K
     refine pure_ (i := 4) (N := some 5) (v := ?_) (a' := ?_) (bs 5 0) rfl rfl (by kernel_rfl) (fun _ _ _ h => h) (Or.inl ⟨by rfl, ?_⟩) ?_ ?_
     rotate_left
     ·intro w'
      go_simp
      with_reducible rfl
     rotate_left
     ·simp only [sP, i64_w, i32_w]
      rfl
     refine done_ (by kernel_rfl) ?_
     try go_wp2
     refine bodyPost_ret (results_ct rfl _ _ gb102 58 #[.int .i64 t121, .int .i64 t122, .slice Ao45 t123.length co45] (0, 0) _ rfl (p3 BK102) Try.underlying58 rfl (by kernel_rfl)) rfl ?_
     exact ⟨_, eW, by (with_reducible repeat (first | apply Kd.V_alloc | apply Kd.V_drewN | apply Kd.V_drew)); exact Kd.V_mono (vF3 gb102 (Kd.V_mono HO125.out (fun k_ hk => (⟨hk, hk.2.2.1⟩ : _ ∧ k_ ≠ gb102))) (fun _ hk => hk.2)) (fun _ hk => hk.1.1), pH HB⟩
    ·replace c24 := Bool.eq_false_iff.mpr c24
     subst c24
     rw [if_neg (show ¬ (false = true) by decide)] at H
     simp only [Option.some.injEq, Prod.mk.injEq] at H
     obtain ⟨rfl, rfl, rfl, rfl⟩ := H
     go_enter Try.func61, Try.ntmps61
     go_wp2_with (first | ((with_reducible refine gate_dst (N := 2) rfl ?_); refine bE (N := 2) (cs := #[.int .i64 a0_0, .int .i64 a0_1, .slice A0_2 l0_2.length c0_2]) (t := 68) ?_; intro gb101 hg w52 hbox hb; have GW101 := qw HB hg; have GE101 := qw HB hg; have BK101 := aK hbox; replace HB := qs HB hb; clear hb hbox hg) | ((with_reducible refine gate_dst (N := 4) rfl ?_); refine bE (N := 4) (cs := #[.int .i64 0, .int .i64 0, .slice none 0 0]) (t := 58) ?_; intro gb102 hg w53 hbox hb; have GW102 := qw HB hg; have GE102 := qw HB hg; have NB101_102 := ql BK101 hg; have NB102_101 := qg BK101 hg; replace BK101 := qb BK101 hb; have BK102 := aK hbox; replace HB := qs HB hb; clear hb hbox hg; have hnb54 := NB101_102.out; have hnc54 := NB102_101.out; have hcz55_0 := k30 BK101; have hcz55_1 := k31 BK101; have hcz55_2 := k32 BK101; have hfz55_0 := fz BK101 0; have hfz55_1 := fz BK101 1; have hfz55_2 := fz BK101 2; have p113 : 0 ≤ (0 : Int) := (by omega); have q113 : 0 < (l0_2.length : Int) := dA; obtain ⟨ad113, A113_2, c113_2, e113, hx113_0, hx113_1, hx113_2, hl113_2, hi113_2⟩ := at_T68 HR0_2.out 0 p113 q113; cases e113; have qi113 : (0 < l0_2.length) = True := eq_true (by omega); (try rw [show ((0 : Int)).toNat = 0 from rfl] at hx113_0); (try rw [show 0 * 3 = 0 from rfl] at hx113_0); (try rw [Addr.add_zero'] at hx113_0); (try rw [show ((0 : Int)).toNat = 0 from rfl] at hx113_1); (try rw [show 0 * 3 = 0 from rfl] at hx113_1); (try rw [Addr.add_zero'] at hx113_1); (try rw [show ((0 : Int)).toNat = 0 from rfl] at hx113_2); (try rw [show 0 * 3 = 0 from rfl] at hx113_2); (try rw [Addr.add_zero'] at hx113_2); replace hx113_0 := uC HB hx113_0; replace hx113_1 := uC HB hx113_1; replace hx113_2 := uC HB hx113_2; have HR113_2 := aK hi113_2; have HC113_2 := aK hl113_2; clear hi113_2 hl113_2; replace p113 := eq_true p113; replace q113 := eq_true q113) | ((with_reducible refine gate_callee (f := 61) rfl ?_); refine goesL_ (some 43) rfl rfl Try.func61 (by kernel_rfl) rfl #[.agg #[.int .i64 ((rd_T68 l0_2 0).f0), .int .i64 ((rd_T68 l0_2 0).f1), .slice A113_2 ((rd_T68 l0_2 0).f2).length c113_2], .int .i64 (wrap64 (a1 + 1))] rfl tA ?_; (with_reducible refine (ih k (by omega) ((rd_T68 l0_2 0).f0) ((rd_T68 l0_2 0).f1) _ _ ((rd_T68 l0_2 0).f2) (wrap64 (a1 + 1)) t114 t115 t116 false _ ?side1 ?side2 A23.out).mono ?_); (case side1 => exact sC (Kd.C_below HR113_2.out HB.out)); (case side2 => exact HC113_2.out); rintro e w56 ⟨v117, rfl, ho0, hb⟩; refine ⟨_, rfl, ?_⟩; have HO118 := aK (Kd.V_lower (Kd.V_mono (ok' := fun k_ => (w.heap.size ≤ k_) ∧ k_ ≠ gb101 ∧ k_ ≠ gb102) ho0 (fun k_ hk_ => ⟨(Nat.le_trans (below_size HB.out) hk_), (Kd.freshB BK101.out k_ hk_), (Kd.freshB BK102.out k_ hk_)⟩)) (below_size HB.out)); replace BK101 := qb BK101 hb; replace BK102 := qb BK102 hb; replace HB := qs HB hb; (try clear hb); (try clear ho0)) | ((with_reducible refine gate_dst (N := 6) rfl ?_); refine bE (N := 6) (cs := #[.int .i64 0, .int .i64 0, .slice none 0 0]) (t := 58) ?_; intro gb120 hg w57 hbox hb; have GW120 := qw HB hg; have GE120 := qw HB hg; have NB101_120 := ql BK101 hg; have NB120_101 := qg BK101 hg; have NB102_120 := ql BK102 hg; have NB120_102 := qg BK102 hg; replace HO118 := qv HO118 hg hb; replace BK101 := qb BK101 hb; replace BK102 := qb BK102 hb; have BK120 := aK hbox; replace HB := qs HB hb; clear hb hbox hg; have hnb58 := NB120_101.out; have hnc58 := NB101_120.out; have hnb59 := NB120_102.out; have hnc59 := NB102_120.out; have hcz60_0 := k30 BK120; have hcz60_1 := k31 BK120; have hcz60_2 := k32 BK120; have hfz60_0 := fz BK120 0; have hfz60_1 := fz BK120 1; have hfz60_2 := fz BK120 2; obtain ⟨Ao61, co61, eo61⟩ := Kd.V_slice HO118.out; subst eo61; have hcz62_0 := k30 BK102; have hcz62_1 := k31 BK102; have hcz62_2 := k32 BK102; have hfz62_0 := fz BK102 0; have hfz62_1 := fz BK102 1; have hfz62_2 := fz BK102 2))
     refine bodyPost_ret (results_ct rfl _ _ gb102 58 #[.int .i64 0, .int .i64 0, .slice none 0 0] (0, 0) _ rfl (by (with_reducible repeat first | apply zN | apply zD | apply zA); refine blk_put (cs := #[.int .i64 0, .int .i64 0, .slice none 0 0]) ?_ 2 _ rfl; (with_reducible repeat first | apply zN | apply zD | apply zA); refine blk_put (cs := #[.int .i64 0, .int .i64 0, .slice none 0 0]) ?_ 1 _ rfl; (with_reducible repeat first | apply zN | apply zD | apply zA); refine blk_put (cs := #[.int .i64 0, .int .i64 0, .slice none 0 0]) ?_ 0 _ rfl; (repeat first | with_reducible apply zN | with_reducible apply zD | with_reducible apply zA | refine blk_far ?_ NB102_120.out _); exact BK102.out) Try.underlying58 rfl (by kernel_rfl)) rfl ?_
     exact ⟨_, eW, (by exact Kd.V_nil _ _ _ _ _), pH HB⟩
   ·rw [if_neg c22] at H
    exact absurd H (by simp)
  ·rw [if_neg c21] at H
   have c21b0 : (a0_0 == 2) = false := beq_eq_false_iff_ne.mpr c21
   have c21b1 : (a0_0 != 2) = true := bne_iff_ne.mpr c21
   by_cases c63 : 0 < (l0_2.length : Int)
   ·rw [if_pos c63] at H
    have c63b0 : decide (0 < (l0_2.length : Int)) = true := decide_eq_true c63
    have c63b1 : decide (0 < l0_2.length) = true := decide_eq_true (by omega)
    clear c63
    replace H := Option.bind_eq_some_iff.mp H
    obtain ⟨⟨t129, t130, t131, t134⟩, A640, H⟩ := H
    try dsimp only at H
    have A64 := aK A640
    clear A640
    by_cases c65 : 1 < (l0_2.length : Int)
    ·rw [if_pos c65] at H
     have c65b0 : decide (1 < (l0_2.length : Int)) = true := decide_eq_true c65
     have c65b1 : decide (1 < l0_2.length) = true := decide_eq_true (by omega)
     clear c65
     replace H := Option.bind_eq_some_iff.mp H
     obtain ⟨⟨t137, t138, t139, t142⟩, A660, H⟩ := H
     try dsimp only at H
     have A66 := aK A660
     clear A660
     replace H := Option.bind_eq_some_iff.mp H
     obtain ⟨⟨t144, t145, t146⟩, A670, H⟩ := H
     try dsimp only at H
     have A67 := aK A670
     clear A670
     by_cases c68 : t134 = true
     ·subst c68
      rw [if_pos rfl] at H
      by_cases c69 : t142 = true
      ·subst c69
       rw [if_pos rfl] at H
       replace H := Option.bind_eq_some_iff.mp H
       obtain ⟨t150, A700, H⟩ := H
       try dsimp only at H
       have A70 := aK A700
       clear A700
       simp only [Option.some.injEq, Prod.mk.injEq] at H
       obtain ⟨rfl, rfl, rfl, rfl⟩ := H
       go_enter Try.func61, Try.ntmps61
       try go_wp2_with (first | ((with_reducible refine gate_dst (N := 2) rfl ?_); refine bE (N := 2) (cs := #[.int .i64 a0_0, .int .i64 a0_1, .slice A0_2 l0_2.length c0_2]) (t := 68) ?_; intro gb101 hg w71 hbox hb; have GW101 := qw HB hg; have GE101 := qw HB hg; have BK101 := aK hbox; replace HB := qs HB hb; clear hb hbox hg) | ((with_reducible refine gate_dst (N := 4) rfl ?_); refine bE (N := 4) (cs := #[.int .i64 0, .int .i64 0, .slice none 0 0]) (t := 58) ?_; intro gb102 hg w72 hbox hb; have GW102 := qw HB hg; have GE102 := qw HB hg; have NB101_102 := ql BK101 hg; have NB102_101 := qg BK101 hg; replace BK101 := qb BK101 hb; have BK102 := aK hbox; replace HB := qs HB hb; clear hb hbox hg; have hnb73 := NB101_102.out; have hnc73 := NB102_101.out; have hcz74_0 := k30 BK101; have hcz74_1 := k31 BK101; have hcz74_2 := k32 BK101; have hfz74_0 := fz BK101 0; have hfz74_1 := fz BK101 1; have hfz74_2 := fz BK101 2; have p128 : 0 ≤ (0 : Int) := (by omega); have q128 : 0 < (l0_2.length : Int) := dA; obtain ⟨ad128, A128_2, c128_2, e128, hx128_0, hx128_1, hx128_2, hl128_2, hi128_2⟩ := at_T68 HR0_2.out 0 p128 q128; cases e128; have qi128 : (0 < l0_2.length) = True := eq_true (by omega); (try rw [show ((0 : Int)).toNat = 0 from rfl] at hx128_0); (try rw [show 0 * 3 = 0 from rfl] at hx128_0); (try rw [Addr.add_zero'] at hx128_0); (try rw [show ((0 : Int)).toNat = 0 from rfl] at hx128_1); (try rw [show 0 * 3 = 0 from rfl] at hx128_1); (try rw [Addr.add_zero'] at hx128_1); (try rw [show ((0 : Int)).toNat = 0 from rfl] at hx128_2); (try rw [show 0 * 3 = 0 from rfl] at hx128_2); (try rw [Addr.add_zero'] at hx128_2); replace hx128_0 := uC HB hx128_0; replace hx128_1 := uC HB hx128_1; replace hx128_2 := uC HB hx128_2; have HR128_2 := aK hi128_2; have HC128_2 := aK hl128_2; clear hi128_2 hl128_2; replace p128 := eq_true p128; replace q128 := eq_true q128) | ((with_reducible refine gate_callee (f := 61) rfl ?_); refine goesL_ (some 62) rfl rfl Try.func61 (by kernel_rfl) rfl #[.agg #[.int .i64 ((rd_T68 l0_2 0).f0), .int .i64 ((rd_T68 l0_2 0).f1), .slice A128_2 ((rd_T68 l0_2 0).f2).length c128_2], .int .i64 a1] rfl tA ?_; (with_reducible refine (ih k (by omega) ((rd_T68 l0_2 0).f0) ((rd_T68 l0_2 0).f1) _ _ ((rd_T68 l0_2 0).f2) a1 t129 t130 t131 true _ ?side1 ?side2 A64.out).mono ?_); (case side1 => exact sC (Kd.C_below HR128_2.out HB.out)); (case side2 => exact HC128_2.out); rintro e w75 ⟨v132, rfl, ho0, hb⟩; refine ⟨_, rfl, ?_⟩; have HO133 := aK (Kd.V_lower (Kd.V_mono (ok' := fun k_ => (w.heap.size ≤ k_) ∧ k_ ≠ gb101 ∧ k_ ≠ gb102) ho0 (fun k_ hk_ => ⟨(Nat.le_trans (below_size HB.out) hk_), (Kd.freshB BK101.out k_ hk_), (Kd.freshB BK102.out k_ hk_)⟩)) (below_size HB.out)); replace BK101 := qb BK101 hb; replace BK102 := qb BK102 hb; replace HB := qs HB hb; (try clear hb); (try clear ho0)) | ((with_reducible refine gate_dst (N := 9) rfl ?_); refine bE (N := 9) (cs := #[.int .i64 0, .int .i64 0, .slice none 0 0]) (t := 58) ?_; intro gb135 hg w76 hbox hb; have GW135 := qw HB hg; have GE135 := qw HB hg; have NB101_135 := ql BK101 hg; have NB135_101 := qg BK101 hg; have NB102_135 := ql BK102 hg; have NB135_102 := qg BK102 hg; replace HO133 := qv HO133 hg hb; replace BK101 := qb BK101 hb; replace BK102 := qb BK102 hb; have BK135 := aK hbox; replace HB := qs HB hb; clear hb hbox hg; have hnb77 := NB135_101.out; have hnc77 := NB101_135.out; have hnb78 := NB135_102.out; have hnc78 := NB102_135.out; have hcz79_0 := k30 BK135; have hcz79_1 := k31 BK135; have hcz79_2 := k32 BK135; have hfz79_0 := fz BK135 0; have hfz79_1 := fz BK135 1; have hfz79_2 := fz BK135 2; obtain ⟨Ao80, co80, eo80⟩ := Kd.V_slice HO133.out; subst eo80; have hcz81_0 := k30 BK101; have hcz81_1 := k31 BK101; have hcz81_2 := k32 BK101; have hfz81_0 := fz BK101 0; have hfz81_1 := fz BK101 1; have hfz81_2 := fz BK101 2; have p136 : 0 ≤ (1 : Int) := (by omega); have q136 : 1 < (l0_2.length : Int) := dA; obtain ⟨ad136, A136_2, c136_2, e136, hx136_0, hx136_1, hx136_2, hl136_2, hi136_2⟩ := at_T68 HR0_2.out 1 p136 q136; obtain rfl : ad128 = ad136 := (by injection e136); (try simp only [show (1 : Int).toNat = 1 from rfl, Nat.reduceMul, Nat.reduceEqDiff, Go.Addr.add, ↓reduceIte] at hx136_0); (try simp only [show (1 : Int).toNat = 1 from rfl, Nat.reduceMul, Nat.reduceEqDiff, Go.Addr.add, ↓reduceIte] at hx136_1); (try simp only [show (1 : Int).toNat = 1 from rfl, Nat.reduceMul, Nat.reduceEqDiff, Go.Addr.add, ↓reduceIte] at hx136_2); have qi136 : (1 < l0_2.length) = True := eq_true (by omega); (try rw [show ((1 : Int)).toNat = 1 from rfl] at hx136_0); (try rw [show 1 * 3 = 3 from rfl] at hx136_0); (try rw [show ((1 : Int)).toNat = 1 from rfl] at hx136_1); (try rw [show 1 * 3 = 3 from rfl] at hx136_1); (try rw [show ((1 : Int)).toNat = 1 from rfl] at hx136_2); (try rw [show 1 * 3 = 3 from rfl] at hx136_2); have hn136_0 : ad128.block ≠ gb135 := nF hx136_0 GW135; have hn136_1 : ad128.block ≠ gb135 := nF hx136_0 GW135; have hn136_2 : ad128.block ≠ gb135 := nF hx136_0 GW135; replace hx136_0 := uC HB hx136_0; replace hx136_1 := uC HB hx136_1; replace hx136_2 := uC HB hx136_2; have HR136_2 := aK hi136_2; have HC136_2 := aK hl136_2; clear hi136_2 hl136_2; replace hx136_0 := (cell_far (p := ⟨gb135, 0, none⟩) (cB hn136_0) (.int .i64 t129)).trans hx136_0; replace hx136_1 := (cell_far (p := ⟨gb135, 0, none⟩) (cB hn136_0) (.int .i64 t129)).trans hx136_1; replace hx136_2 := (cell_far (p := ⟨gb135, 0, none⟩) (cB hn136_0) (.int .i64 t129)).trans hx136_2; replace hx136_0 := (cell_far (p := ⟨gb135, 1, none⟩) (cB hn136_1) (.int .i64 t130)).trans hx136_0; replace hx136_1 := (cell_far (p := ⟨gb135, 1, none⟩) (cB hn136_1) (.int .i64 t130)).trans hx136_1; replace hx136_2 := (cell_far (p := ⟨gb135, 1, none⟩) (cB hn136_1) (.int .i64 t130)).trans hx136_2; replace hx136_0 := (cell_far (p := ⟨gb135, 2, none⟩) (cB hn136_2) (.slice Ao80 t131.length co80)).trans hx136_0; replace hx136_1 := (cell_far (p := ⟨gb135, 2, none⟩) (cB hn136_2) (.slice Ao80 t131.length co80)).trans hx136_1; replace hx136_2 := (cell_far (p := ⟨gb135, 2, none⟩) (cB hn136_2) (.slice Ao80 t131.length co80)).trans hx136_2; clear hn136_0; clear hn136_1; clear hn136_2; replace p136 := eq_true p136; replace q136 := eq_true q136) | ((with_reducible refine gate_callee (f := 61) rfl ?_); refine goesL_ (some 71) rfl rfl Try.func61 (by kernel_rfl) rfl #[.agg #[.int .i64 ((rd_T68 l0_2 1).f0), .int .i64 ((rd_T68 l0_2 1).f1), .slice A136_2 ((rd_T68 l0_2 1).f2).length c136_2], .int .i64 a1] rfl tA ?_; (with_reducible refine (ih k (by omega) ((rd_T68 l0_2 1).f0) ((rd_T68 l0_2 1).f1) _ _ ((rd_T68 l0_2 1).f2) a1 t137 t138 t139 true _ ?side1 ?side2 A66.out).mono ?_); (case side1 => exact Kd.C_below HR136_2.out (pH HB)); (case side2 => exact HC136_2.out); rintro e w82 ⟨v140, rfl, ho0, hb⟩; refine ⟨_, rfl, ?_⟩; have n0_ := aK (Kd.V_below (by (with_reducible repeat (first | apply Kd.V_alloc | apply Kd.V_drewN | apply Kd.V_drew)); exact (Kd.V_mono (vF3 gb135 (Kd.V_mono HO133.out (fun k_ hk => (⟨hk, hk.2⟩ : _ ∧ k_ ≠ gb135))) (fun _ hk => hk.2)) (fun _ h_ => h_.1))) hb); have n1_ := aK (Kd.V_lower (Kd.V_mono (ok' := fun k_ => (w.heap.size ≤ k_) ∧ k_ ≠ gb101 ∧ k_ ≠ gb102 ∧ k_ ≠ gb135) ho0 (fun k_ hk_ => ⟨(Nat.le_trans (below_size (pH HB)) hk_), (Kd.freshB (g := gb101) (o := .cells #[.int .i64 a0_0, .int .i64 a0_1, .slice (some ad128) l0_2.length c0_2] 68 (0, 0)) (by (repeat first | with_reducible apply zN | with_reducible apply zD | with_reducible apply zA | refine blk_far ?_ NB101_135.out _); exact BK101.out) k_ hk_), (Kd.freshB (g := gb102) (o := .cells #[.int .i64 0, .int .i64 0, .slice none 0 0] 58 (0, 0)) (by (repeat first | with_reducible apply zN | with_reducible apply zD | with_reducible apply zA | refine blk_far ?_ NB102_135.out _); exact BK102.out) k_ hk_), (Kd.freshB (g := gb135) (o := .cells #[.int .i64 t129, .int .i64 t130, .slice Ao80 t131.length co80] 58 (0, 0)) (p3 BK135) k_ hk_)⟩)) (below_size (pH HB))); have n2_ := aK (blk_below (g := gb101) (o := .cells #[.int .i64 a0_0, .int .i64 a0_1, .slice (some ad128) l0_2.length c0_2] 68 (0, 0)) (by (repeat first | with_reducible apply zN | with_reducible apply zD | with_reducible apply zA | refine blk_far ?_ NB101_135.out _); exact BK101.out) hb); have n3_ := aK (blk_below (g := gb102) (o := .cells #[.int .i64 0, .int .i64 0, .slice none 0 0] 58 (0, 0)) (by (repeat first | with_reducible apply zN | with_reducible apply zD | with_reducible apply zA | refine blk_far ?_ NB102_135.out _); exact BK102.out) hb); have n4_ := aK (blk_below (g := gb135) (o := .cells #[.int .i64 t129, .int .i64 t130, .slice Ao80 t131.length co80] 58 (0, 0)) (p3 BK135) hb); have n5_ := aK (below_step (pH HB) hb); clear HO133; clear BK101; clear BK102; clear BK135; clear HB; have HO133 := n0_; have HO141 := n1_; have BK101 := n2_; have BK102 := n3_; have BK135 := n4_; have HB := n5_; clear n0_ n1_ n2_ n3_ n4_ n5_; (try clear hb); (try clear ho0)) | ((with_reducible refine gate_dst (N := 11) rfl ?_); refine bE (N := 11) (cs := #[.int .i64 0, .int .i64 0, .slice none 0 0]) (t := 58) ?_; intro gb143 hg w83 hbox hb; have GW143 := qw HB hg; have GE143 := qw HB hg; have NB101_143 := ql BK101 hg; have NB143_101 := qg BK101 hg; have NB102_143 := ql BK102 hg; have NB143_102 := qg BK102 hg; have NB135_143 := ql BK135 hg; have NB143_135 := qg BK135 hg; replace HO133 := qv HO133 hg hb; replace HO141 := qv HO141 hg hb; replace BK101 := qb BK101 hb; replace BK102 := qb BK102 hb; replace BK135 := qb BK135 hb; have BK143 := aK hbox; replace HB := qs HB hb; clear hb hbox hg; have hnb84 := NB143_101.out; have hnc84 := NB101_143.out; have hnb85 := NB143_102.out; have hnc85 := NB102_143.out; have hnb86 := NB143_135.out; have hnc86 := NB135_143.out; have hcz87_0 := k30 BK143; have hcz87_1 := k31 BK143; have hcz87_2 := k32 BK143; have hfz87_0 := fz BK143 0; have hfz87_1 := fz BK143 1; have hfz87_2 := fz BK143 2; obtain ⟨Ao88, co88, eo88⟩ := Kd.V_slice HO141.out; subst eo88) | ((with_reducible refine gate_store (t := 58) (p := 11) rfl ?_); refine store_event (t := 58) (p := 11) (v := ?vo_w89) (w1 := (((w83.setCell ⟨gb143, 0, none⟩ (.int .i64 t137)).setCell ⟨gb143, 1, none⟩ (.int .i64 t138)).setCell ⟨gb143, 2, none⟩ (.slice Ao88 t139.length co88))) ?hg ?ho ?hn ?hr ?_; (case ho => rfl); (case hg => rfl); (case hn => rfl); (case hr => first | (go_simp; done) | (go_simp; rfl)); intro w89 hw; have n0_ : Aside0 (Kd.V k58 58 w89 w.heap.size (fun k_ => (w.heap.size ≤ k_) ∧ k_ ≠ gb101 ∧ k_ ≠ gb102 ∧ k_ ≠ gb135 ∧ k_ ≠ gb143) (.slice Ao80 t131.length co80) t131) := ⟨(by rw [hw]; exact (by (with_reducible repeat (first | apply Kd.V_alloc | apply Kd.V_drewN | apply Kd.V_drew)); exact Kd.V_mono (vF3 gb143 (Kd.V_mono HO133.out (fun k_ hk => (⟨hk, hk.2⟩ : _ ∧ k_ ≠ gb143))) (fun _ hk => hk.2)) (fun _ hk => ⟨hk.1.1.1.1, ⟨hk.1.1.1.2.1, ⟨hk.1.1.1.2.2, ⟨hk.1.1.2, hk.1.2⟩⟩⟩⟩)))⟩; have n1_ : Aside0 (Kd.V k58 58 w89 w.heap.size (fun k_ => (w.heap.size ≤ k_) ∧ k_ ≠ gb101 ∧ k_ ≠ gb102 ∧ k_ ≠ gb135 ∧ k_ ≠ gb143) (.slice Ao88 t139.length co88) t139) := ⟨(by rw [hw]; exact (by (with_reducible repeat (first | apply Kd.V_alloc | apply Kd.V_drewN | apply Kd.V_drew)); exact Kd.V_mono (vF3 gb143 (Kd.V_mono HO141.out (fun k_ hk => (⟨hk, hk.2⟩ : _ ∧ k_ ≠ gb143))) (fun _ hk => hk.2)) (fun _ hk => ⟨hk.1.1.1, ⟨hk.1.1.2.1, ⟨hk.1.1.2.2.1, ⟨hk.1.1.2.2.2, hk.1.2⟩⟩⟩⟩)))⟩; have n2_ : Aside0 (w89.heap[gb101]? = some (.cells #[.int .i64 a0_0, .int .i64 a0_1, .slice (some ad128) l0_2.length c0_2] 68 (0, 0))) := ⟨(by rw [hw]; exact (by (repeat first | with_reducible apply zN | with_reducible apply zD | with_reducible apply zA | refine blk_far ?_ NB101_143.out _); exact BK101.out))⟩; have n3_ : Aside0 (w89.heap[gb102]? = some (.cells #[.int .i64 0, .int .i64 0, .slice none 0 0] 58 (0, 0))) := ⟨(by rw [hw]; exact (by (repeat first | with_reducible apply zN | with_reducible apply zD | with_reducible apply zA | refine blk_far ?_ NB102_143.out _); exact BK102.out))⟩; have n4_ : Aside0 (w89.heap[gb135]? = some (.cells #[.int .i64 t129, .int .i64 t130, .slice Ao80 t131.length co80] 58 (0, 0))) := ⟨(by rw [hw]; exact (by (repeat first | with_reducible apply zN | with_reducible apply zD | with_reducible apply zA | refine blk_far ?_ NB135_143.out _); exact BK135.out))⟩; have n5_ : Aside0 (w89.heap[gb143]? = some (.cells #[.int .i64 t137, .int .i64 t138, .slice Ao88 t139.length co88] 58 (0, 0))) := ⟨(by rw [hw]; exact (p3 BK143))⟩; have n6_ : Aside0 (Below w.heap.size w w89) := ⟨(by rw [hw]; exact (pH HB))⟩; clear hw; clear HO133; clear HO141; clear BK101; clear BK102; clear BK135; clear BK143; clear HB; have HO133 := n0_; have HO141 := n1_; have BK101 := n2_; have BK102 := n3_; have BK135 := n4_; have BK143 := n5_; have HB := n6_; clear n0_ n1_ n2_ n3_ n4_ n5_ n6_; have hcz90_0 := k30 BK135; have hcz90_1 := k31 BK135; have hcz90_2 := k32 BK135; have hfz90_0 := fz BK135 0; have hfz90_1 := fz BK135 1; have hfz90_2 := fz BK135 2; have hcz91_0 := k30 BK143; have hcz91_1 := k31 BK143; have hcz91_2 := k32 BK143; have hfz91_0 := fz BK143 0; have hfz91_1 := fz BK143 1; have hfz91_2 := fz BK143 2) | ((with_reducible refine gate_callee (f := 75) rfl ?_); refine goesL_ (some 76) rfl rfl Try.func75 (by kernel_rfl) rfl #[.agg #[.int .i64 t129, .int .i64 t130, .slice Ao80 t131.length co80], .agg #[.int .i64 t137, .int .i64 t138, .slice Ao88 t139.length co88]] rfl tA ?_; (with_reducible refine (impl_combApp.calls t129 t130 (fun k_ => ((w.heap.size ≤ k_) ∧ (k_ ≠ gb101 ∧ (k_ ≠ gb102 ∧ (k_ ≠ gb135 ∧ k_ ≠ gb143))))) _ _ t131 t137 t138 (fun k_ => ((w.heap.size ≤ k_) ∧ (k_ ≠ gb101 ∧ (k_ ≠ gb102 ∧ (k_ ≠ gb135 ∧ k_ ≠ gb143))))) _ _ t139 t144 t145 t146 _ ?side1 ?side2 A67.out).mono ?_); (case side1 => exact HO133.out); (case side2 => exact HO141.out); rintro e w92 ⟨v147, rfl, ho0, hb⟩; refine ⟨_, rfl, ?_⟩; have HO148 := aK (Kd.N_lower (Kd.N_mono (ok' := fun k_ => (w.heap.size ≤ k_) ∧ k_ ≠ gb101 ∧ k_ ≠ gb102 ∧ k_ ≠ gb135 ∧ k_ ≠ gb143) ho0 (fun k_ hk_ => ⟨Or.elim hk_ (fun hs_ => Or.elim hs_ (fun hs_ => hs_.1) (fun hs_ => hs_.1)) (fun hn_ => (Nat.le_trans (below_size HB.out) hn_)), Or.elim hk_ (fun hs_ => Or.elim hs_ (fun hs_ => hs_.2.1) (fun hs_ => hs_.2.1)) (fun hn_ => (Kd.freshB BK101.out k_ hn_)), Or.elim hk_ (fun hs_ => Or.elim hs_ (fun hs_ => hs_.2.2.1) (fun hs_ => hs_.2.2.1)) (fun hn_ => (Kd.freshB BK102.out k_ hn_)), Or.elim hk_ (fun hs_ => Or.elim hs_ (fun hs_ => hs_.2.2.2.1) (fun hs_ => hs_.2.2.2.1)) (fun hn_ => (Kd.freshB BK135.out k_ hn_)), Or.elim hk_ (fun hs_ => Or.elim hs_ (fun hs_ => hs_.2.2.2.2) (fun hs_ => hs_.2.2.2.2)) (fun hn_ => (Kd.freshB BK143.out k_ hn_))⟩)) (below_size HB.out)); replace HO133 := qe HO133 (by first | exact Kd.N_base ho0 | exact Kd.R_base ho0) hb; replace HO141 := qe HO141 (by first | exact Kd.N_base ho0 | exact Kd.R_base ho0) hb; replace BK101 := qb BK101 hb; replace BK102 := qb BK102 hb; replace BK135 := qb BK135 hb; replace BK143 := qb BK143 hb; replace HB := qs HB hb; (try clear hb); (try clear ho0)) | ((with_reducible refine gate_dst (N := 13) rfl ?_); refine bE (N := 13) (cs := #[.int .i64 0, .int .i64 0, .slice none 0 0]) (t := 58) ?_; intro gb149 hg w93 hbox hb; have GW149 := qw HB hg; have GE149 := qw HB hg; have NB101_149 := ql BK101 hg; have NB149_101 := qg BK101 hg; have NB102_149 := ql BK102 hg; have NB149_102 := qg BK102 hg; have NB135_149 := ql BK135 hg; have NB149_135 := qg BK135 hg; have NB143_149 := ql BK143 hg; have NB149_143 := qg BK143 hg; replace HO133 := qv HO133 hg hb; replace HO141 := qv HO141 hg hb; replace HO148 := qn HO148 hg hb; replace BK101 := qb BK101 hb; replace BK102 := qb BK102 hb; replace BK135 := qb BK135 hb; replace BK143 := qb BK143 hb; have BK149 := aK hbox; replace HB := qs HB hb; clear hb hbox hg; have hnb94 := NB149_101.out; have hnc94 := NB101_149.out; have hnb95 := NB149_102.out; have hnc95 := NB102_149.out; have hnb96 := NB149_135.out; have hnc96 := NB135_149.out; have hnb97 := NB149_143.out; have hnc97 := NB143_149.out; have hcz98_0 := k30 BK149; have hcz98_1 := k31 BK149; have hcz98_2 := k32 BK149; have hfz98_0 := fz BK149 0; have hfz98_1 := fz BK149 1; have hfz98_2 := fz BK149 2; obtain ⟨Ao99, co99, eo99⟩ := Kd.N_slice HO148.out; subst eo99))
       have n0_ : Aside0 (Kd.V k58 58 (((w93.setCell ⟨gb149, 0, none⟩ (.int .i64 t144)).setCell ⟨gb149, 1, none⟩ (.int .i64 t145)).setCell ⟨gb149, 2, none⟩ (.slice Ao99 t146.length co99)) w.heap.size (fun k_ => (w.heap.size ≤ k_) ∧ some k_ ≠ (.slice Ao99 t146.length co99 : Value).ownBlock ∧ k_ ≠ gb101 ∧ k_ ≠ gb102 ∧ k_ ≠ gb135 ∧ k_ ≠ gb143 ∧ k_ ≠ gb149) (.slice Ao80 t131.length co80) t131) := ⟨by (with_reducible repeat (first | apply Kd.V_alloc | apply Kd.V_drewN | apply Kd.V_drew)); exact Kd.V_mono (vF3 gb149 (Kd.V_mono HO133.out (fun k_ hk => (⟨hk, hk.2⟩ : _ ∧ k_ ≠ gb149))) (fun _ hk => hk.2)) (fun _ hk => ⟨hk.1.1.1.1, ⟨hk.1.1.2, ⟨hk.1.1.1.2.1, ⟨hk.1.1.1.2.2.1, ⟨hk.1.1.1.2.2.2.1, ⟨hk.1.1.1.2.2.2.2, hk.1.2⟩⟩⟩⟩⟩⟩)⟩
       have n1_ : Aside0 (Kd.V k58 58 (((w93.setCell ⟨gb149, 0, none⟩ (.int .i64 t144)).setCell ⟨gb149, 1, none⟩ (.int .i64 t145)).setCell ⟨gb149, 2, none⟩ (.slice Ao99 t146.length co99)) w.heap.size (fun k_ => (w.heap.size ≤ k_) ∧ some k_ ≠ (.slice Ao99 t146.length co99 : Value).ownBlock ∧ k_ ≠ gb101 ∧ k_ ≠ gb102 ∧ k_ ≠ gb135 ∧ k_ ≠ gb143 ∧ k_ ≠ gb149) (.slice Ao88 t139.length co88) t139) := ⟨by (with_reducible repeat (first | apply Kd.V_alloc | apply Kd.V_drewN | apply Kd.V_drew)); exact Kd.V_mono (vF3 gb149 (Kd.V_mono HO141.out (fun k_ hk => (⟨hk, hk.2⟩ : _ ∧ k_ ≠ gb149))) (fun _ hk => hk.2)) (fun _ hk => ⟨hk.1.1.1.1, ⟨hk.1.1.2, ⟨hk.1.1.1.2.1, ⟨hk.1.1.1.2.2.1, ⟨hk.1.1.1.2.2.2.1, ⟨hk.1.1.1.2.2.2.2, hk.1.2⟩⟩⟩⟩⟩⟩)⟩
       have n2_ : Aside0 (Kd.N k58 58 (((w93.setCell ⟨gb149, 0, none⟩ (.int .i64 t144)).setCell ⟨gb149, 1, none⟩ (.int .i64 t145)).setCell ⟨gb149, 2, none⟩ (.slice Ao99 t146.length co99)) w.heap.size (fun k_ => (w.heap.size ≤ k_) ∧ k_ ≠ gb101 ∧ k_ ≠ gb102 ∧ k_ ≠ gb135 ∧ k_ ≠ gb143 ∧ k_ ≠ gb149) (.slice Ao99 t146.length co99) t146) := ⟨by (with_reducible repeat (first | apply Kd.N_alloc | apply Kd.N_drewN | apply Kd.N_drew)); exact Kd.N_mono (nF3 gb149 (Kd.N_mono HO148.out (fun k_ hk => (⟨hk, hk.2⟩ : _ ∧ k_ ≠ gb149))) (fun _ hk => hk.2)) (fun _ hk => ⟨hk.1.1.1, ⟨hk.1.1.2.1, ⟨hk.1.1.2.2.1, ⟨hk.1.1.2.2.2.1, ⟨hk.1.1.2.2.2.2, hk.1.2⟩⟩⟩⟩⟩)⟩
       have n3_ : Aside0 ((((w93.setCell ⟨gb149, 0, none⟩ (.int .i64 t144)).setCell ⟨gb149, 1, none⟩ (.int .i64 t145)).setCell ⟨gb149, 2, none⟩ (.slice Ao99 t146.length co99)).heap[gb101]? = some (.cells #[.int .i64 a0_0, .int .i64 a0_1, .slice (some ad128) l0_2.length c0_2] 68 (0, 0))) := ⟨by (repeat first | with_reducible apply zN | with_reducible apply zD | with_reducible apply zA | refine blk_far ?_ NB101_149.out _); exact BK101.out⟩
       have n4_ : Aside0 ((((w93.setCell ⟨gb149, 0, none⟩ (.int .i64 t144)).setCell ⟨gb149, 1, none⟩ (.int .i64 t145)).setCell ⟨gb149, 2, none⟩ (.slice Ao99 t146.length co99)).heap[gb102]? = some (.cells #[.int .i64 0, .int .i64 0, .slice none 0 0] 58 (0, 0))) := ⟨by (repeat first | with_reducible apply zN | with_reducible apply zD | with_reducible apply zA | refine blk_far ?_ NB102_149.out _); exact BK102.out⟩
       have n5_ : Aside0 ((((w93.setCell ⟨gb149, 0, none⟩ (.int .i64 t144)).setCell ⟨gb149, 1, none⟩ (.int .i64 t145)).setCell ⟨gb149, 2, none⟩ (.slice Ao99 t146.length co99)).heap[gb135]? = some (.cells #[.int .i64 t129, .int .i64 t130, .slice Ao80 t131.length co80] 58 (0, 0))) := ⟨by (repeat first | with_reducible apply zN | with_reducible apply zD | with_reducible apply zA | refine blk_far ?_ NB135_149.out _); exact BK135.out⟩
       have n6_ : Aside0 ((((w93.setCell ⟨gb149, 0, none⟩ (.int .i64 t144)).setCell ⟨gb149, 1, none⟩ (.int .i64 t145)).setCell ⟨gb149, 2, none⟩ (.slice Ao99 t146.length co99)).heap[gb143]? = some (.cells #[.int .i64 t137, .int .i64 t138, .slice Ao88 t139.length co88] 58 (0, 0))) := ⟨by (repeat first | with_reducible apply zN | with_reducible apply zD | with_reducible apply zA | refine blk_far ?_ NB143_149.out _); exact BK143.out⟩
       have n7_ : Aside0 ((((w93.setCell ⟨gb149, 0, none⟩ (.int .i64 t144)).setCell ⟨gb149, 1, none⟩ (.int .i64 t145)).setCell ⟨gb149, 2, none⟩ (.slice Ao99 t146.length co99)).heap[gb149]? = some (.cells #[.int .i64 t144, .int .i64 t145, .slice Ao99 t146.length co99] 58 (0, 0))) := ⟨p3 BK149⟩
       have n8_ : Aside0 (Below w.heap.size w (((w93.setCell ⟨gb149, 0, none⟩ (.int .i64 t144)).setCell ⟨gb149, 1, none⟩ (.int .i64 t145)).setCell ⟨gb149, 2, none⟩ (.slice Ao99 t146.length co99))) := ⟨pH HB⟩
       (try clear HO133)
       (try clear HO141)
       (try clear HO148)
       (try clear BK101)
       (try clear BK102)
       (try clear BK135)
       (try clear BK143)
       (try clear BK149)
       (try clear HB)
       generalize (((w93.setCell ⟨gb149, 0, none⟩ (.int .i64 t144)).setCell ⟨gb149, 1, none⟩ (.int .i64 t145)).setCell ⟨gb149, 2, none⟩ (.slice Ao99 t146.length co99)) = w100 at n0_ n1_ n2_ n3_ n4_ n5_ n6_ n7_ n8_ ⊢
       have HO133 := n0_
       have HO141 := n1_
       have HO148 := n2_
       have BK101 := n3_
       have BK102 := n4_
       have BK135 := n5_
       have BK143 := n6_
       have BK149 := n7_
       have HB := n8_
       clear n0_ n1_ n2_ n3_ n4_ n5_ n6_ n7_ n8_
       have n0_ := aK (Kd.V_drew HO133.out)
       have n1_ := aK (Kd.V_drew HO141.out)
       have n2_ := aK (Kd.N_drew HO148.out)
       have n3_ := aK (blk_drew BK101.out)
       have n4_ := aK (blk_drew BK102.out)
       have n5_ := aK (blk_drew BK135.out)
       have n6_ := aK (blk_drew BK143.out)
       have n7_ := aK (blk_drew BK149.out)
       have n8_ := aK (below_drew1 HB.out)
       clear HO133
       clear HO141
       clear HO148
       clear BK101
       clear BK102
       clear BK135
       clear BK143
       clear BK149
       clear HB
       have HO133 := n0_
       have HO141 := n1_
       have HO148 := n2_
       have BK101 := n3_
       have BK102 := n4_
       have BK135 := n5_
       have BK143 := n6_
       have BK149 := n7_
       have HB := n8_
       clear n0_ n1_ n2_ n3_ n4_ n5_ n6_ n7_ n8_
       refine start_ (n := 11) (S := fun w' => w'.cell? ⟨gb149, 0, none⟩ = some (.int .i64 t144) ∧ w'.cell? ⟨gb149, 1, none⟩ = some (.int .i64 t145) ∧ w'.cell? ⟨gb149, 2, none⟩ = some (.slice Ao99 t146.length co99)) (ds := []) (bs 0 11) (by kernel_rfl) rfl rfl ⟨(blk_cell BK149.out 0).trans rfl, (blk_cell BK149.out 1).trans rfl, (blk_cell BK149.out 2).trans rfl⟩ (fun hHeld => ?_); refine with_tabW impl_combOfTerm.tab15 impl_combOfTerm.bits15 (fun HT_ HW_ => ?_)
       generalize w100.drew = w101 at HO133 HO141 HO148 BK101 BK102 BK135 BK143 BK149 HB hHeld ⊢
       refine pure_ (i := 1) (N := some 78) (v := ?_) (a' := ?_) #[false, true, false, false, false, false, false, false, false, false, false] rfl rfl (any_of HT_.out (by kernel_rfl)) (fun _ _ _ h => h) (Or.inl ⟨by rfl, ?_⟩) ?_ ?_
       rotate_left
       ·intro w'
        go_simp
        with_reducible rfl
       rotate_left
       ·simp only [sP, i64_w, i32_w]
        rfl
       refine pure_ (i := 2) (N := some 79) (v := ?_) (a' := ?_) #[false, true, true, false, false, false, false, false, false, false, false] rfl rfl (any_of HT_.out (by kernel_rfl)) (fun _ _ _ h => h) (Or.inl ⟨by rfl, ?_⟩) ?_ ?_
       rotate_left
       ·intro w'
        go_simp
        with_reducible rfl
       rotate_left
       ·simp only [sP, i64_w, i32_w]
        rfl
       refine pure_ (i := 3) (N := some 80) (v := ?_) (a' := ?_) #[false, true, true, true, false, false, false, false, false, false, false] rfl rfl (any_of HT_.out (by kernel_rfl)) (fun _ _ _ h => h) (Or.inl ⟨by rfl, ?_⟩) ?_ ?_
       rotate_left
       ·intro w'
        go_simp
        with_reducible rfl
       rotate_left
       ·simp only [sP, i64_w, i32_w]
        rfl
       refine pure_ (i := 4) (N := some 81) (v := ?_) (a' := ?_) #[false, true, true, true, true, false, false, false, false, false, false] rfl rfl (any_of HT_.out (by kernel_rfl)) (fun _ _ _ h => h) (Or.inl ⟨by rfl, ?_⟩) ?_ ?_
       rotate_left
       ·intro w'
        go_simp
        with_reducible rfl
       rotate_left
       ·simp only [sP, i64_w, i32_w]
        rfl
       refine pure_ (i := 5) (N := some 82) (v := ?_) (a' := ?_) #[false, true, true, true, true, true, false, false, false, false, false] rfl rfl (any_of HT_.out (by kernel_rfl)) (fun _ _ _ h => h) (Or.inl ⟨by rfl, ?_⟩) ?_ ?_
       rotate_left
       ·intro w'
        go_simp
        with_reducible rfl
       rotate_left
       ·simp only [sP, i64_w, i32_w]
        rfl
       refine take_ (i := 0) (N := some 77) (v := ?_) (a' := ?_) (bs 6 5) rfl rfl (take_ofW HT_.out HW_.out (by kernel_rfl)) (fun _ _ _ h => h) (Or.inl ⟨by rfl, ?_⟩) hHeld ?_ ?_
       rotate_left
       ·rintro w' ⟨s0, s1, s2⟩
        go_simp
        with_reducible rfl
       rotate_left
       ·simp only [sP, i64_w, i32_w]
        rfl
       refine take_ (i := 6) (N := some 83) (v := ?_) (a' := ?_) (bs 7 4) rfl rfl (take_ofW HT_.out HW_.out (by kernel_rfl)) (fun _ _ _ h => h) (Or.inl ⟨by rfl, ?_⟩) hHeld ?_ ?_
       rotate_left
       ·rintro w' ⟨s0, s1, s2⟩
        go_simp
        with_reducible rfl
       rotate_left
       ·simp only [sP, i64_w, i32_w]
        rfl
       refine one_ (i := 7) (N := some 84) (bs 8 3) rfl rfl (one_of HT_.out (by kernel_rfl)) (by decide) (fun K hK => ?_)
       refine goes_ Try.func58 (by kernel_rfl) rfl #[.agg #[.int .i64 t144, .int .i64 t145, .slice Ao99 t146.length co99]] (by rfl) rfl rfl tA ?_
       with_reducible refine (impl_comb_isGood.calls k t144 t145 _ _ t146 t150 _ ?side1 ?side2 A70.out).mono ?_
       (case side1 => exact sC ((Kd.N_reads' HO148.out).2.2))
       (case side2 => exact (Kd.N_reads' HO148.out).2.1)
       rintro e w102 ⟨rfl, hb⟩
       refine ⟨_, rfl, ?_⟩
       have n0_ := aK (Kd.V_below HO133.out hb)
       have n1_ := aK (Kd.V_below HO141.out hb)
       have n2_ := aK (Kd.N_below HO148.out hb)
       have n3_ := aK (blk_below BK101.out hb)
       have n4_ := aK (blk_below BK102.out hb)
       have n5_ := aK (blk_below BK135.out hb)
       have n6_ := aK (blk_below BK143.out hb)
       have n7_ := aK (blk_below BK149.out hb)
       have n8_ := aK (below_step (pH HB) hb)
       clear HO133
       clear HO141
       clear HO148
       clear BK101
       clear BK102
       clear BK135
       clear BK143
       clear BK149
       clear HB
       have HO133 := n0_
       have HO141 := n1_
       have HO148 := n2_
       have BK101 := n3_
       have BK102 := n4_
       have BK135 := n5_
       have BK143 := n6_
       have BK149 := n7_
       have HB := n8_
       clear n0_ n1_ n2_ n3_ n4_ n5_ n6_ n7_ n8_
       (try clear hb)
       (try clear hb2)
       (try clear hk)
       (try clear hi)
       refine hK.out _ _ ⟨(blk_cell BK149.out 0).trans rfl, (blk_cell BK149.out 1).trans rfl, (blk_cell BK149.out 2).trans rfl⟩ (fun hHeld => ?_)
       clear hK K
       refine norm_ (a' := ?_) ?_ ?_
       rotate_left
       ·show Act.put _ (some 84) _ = _
        simp only [sP, i64_w, i32_w]
        rfl
       refine pure_ (i := 8) (N := some 85) (v := ?_) (a' := ?_) (bs 9 2) rfl rfl (any_of HT_.out (by kernel_rfl)) (fun _ _ _ h => h) (Or.inl ⟨by rfl, ?_⟩) ?_ ?_
       rotate_left
       ·intro w'
        go_simp
        with_reducible rfl
       rotate_left
       ·simp only [sP, i64_w, i32_w]
        rfl
       refine one_ (i := 9) (N := none) (bs 10 1) rfl rfl (one_of HT_.out (by kernel_rfl)) (by decide) (fun K hK => ?_)
       have hs103 : w102.cell? ⟨gb102, 0, none⟩ = some (.int .i64 0) := (blk_cell BK102.out 0).trans rfl
       have hfs103 := blk_frozen BK102.out 0
       have hns103_0 := NB101_102.out
       have hns103_2 := NB135_102.out
       have hns103_3 := NB143_102.out
       have hns103_4 := NB149_102.out
       have hms103_0 := NB102_101.out
       have hms103_2 := NB102_135.out
       have hms103_3 := NB102_143.out
       have hms103_4 := NB102_149.out
       have hs104 : w102.cell? ⟨gb102, 1, none⟩ = some (.int .i64 0) := (blk_cell BK102.out 1).trans rfl
       have hfs104 := blk_frozen BK102.out 1
       have hns104_0 := NB101_102.out
       have hns104_2 := NB135_102.out
       have hns104_3 := NB143_102.out
       have hns104_4 := NB149_102.out
       have hms104_0 := NB102_101.out
       have hms104_2 := NB102_135.out
       have hms104_3 := NB102_143.out
       have hms104_4 := NB102_149.out
       have hs105 : w102.cell? ⟨gb102, 2, none⟩ = some (.slice none 0 0) := (blk_cell BK102.out 2).trans rfl
       have hfs105 := blk_frozen BK102.out 2
       have hns105_0 := NB101_102.out
       have hns105_2 := NB135_102.out
       have hns105_3 := NB143_102.out
       have hns105_4 := NB149_102.out
       have hms105_0 := NB102_101.out
       have hms105_2 := NB102_135.out
       have hms105_3 := NB102_143.out
       have hms105_4 := NB102_149.out
       refine skip_ (w1 := ?_) (by rfl) rfl ?_ ?_
       rotate_left
       ·go_simp
        rfl
       refine hK.out _ _ ⟨((cell_far (p := ⟨gb102, _, none⟩) NB149_102.out _).trans (((cell_far (p := ⟨gb102, _, none⟩) NB149_102.out _).trans (((cell_far (p := ⟨gb102, _, none⟩) NB149_102.out _).trans (hHeld.1)))))), ((cell_far (p := ⟨gb102, _, none⟩) NB149_102.out _).trans (((cell_far (p := ⟨gb102, _, none⟩) NB149_102.out _).trans (((cell_far (p := ⟨gb102, _, none⟩) NB149_102.out _).trans (hHeld.2.1)))))), ((cell_far (p := ⟨gb102, _, none⟩) NB149_102.out _).trans (((cell_far (p := ⟨gb102, _, none⟩) NB149_102.out _).trans (((cell_far (p := ⟨gb102, _, none⟩) NB149_102.out _).trans (hHeld.2.2))))))⟩ (fun hHeld => ?_)
       clear hK K
       refine pure_ (i := 10) (N := some 5) (v := ?_) (a' := ?_) (bs 11 0) rfl rfl (any_of HT_.out (by kernel_rfl)) (fun _ _ _ h => h) (Or.inl ⟨by rfl, ?_⟩) ?_ ?_
       rotate_left
       ·intro w'
        go_simp
        with_reducible rfl
       rotate_left
       ·simp only [sP, i64_w, i32_w]
        rfl
       refine done_ (done_of HT_.out (by kernel_rfl)) ?_
       try go_wp2
       refine bodyPost_ret (results_ct rfl _ _ gb102 58 #[.int .i64 t144, .int .i64 t145, .slice Ao99 t146.length co99] (0, 0) _ rfl (p3 BK102) Try.underlying58 rfl (by kernel_rfl)) rfl ?_
       exact ⟨_, eW, Kd.N_V (by (with_reducible repeat (first | apply Kd.N_alloc | apply Kd.N_drewN | apply Kd.N_drew)); exact Kd.N_mono (nF3 gb102 (Kd.N_mono HO148.out (fun k_ hk => (⟨hk, hk.2.2.1⟩ : _ ∧ k_ ≠ gb102))) (fun _ hk => hk.2)) (fun _ hk => hk.1.1)), pH HB⟩
      ·replace c69 := Bool.eq_false_iff.mpr c69
       subst c69
       rw [if_neg (show ¬ (false = true) by decide)] at H
       simp only [Option.some.injEq, Prod.mk.injEq] at H
       obtain ⟨rfl, rfl, rfl, rfl⟩ := H
       go_enter Try.func61, Try.ntmps61
       try go_wp2_with (first | ((with_reducible refine gate_dst (N := 2) rfl ?_); refine bE (N := 2) (cs := #[.int .i64 a0_0, .int .i64 a0_1, .slice A0_2 l0_2.length c0_2]) (t := 68) ?_; intro gb101 hg w106 hbox hb; have GW101 := qw HB hg; have GE101 := qw HB hg; have BK101 := aK hbox; replace HB := qs HB hb; clear hb hbox hg) | ((with_reducible refine gate_dst (N := 4) rfl ?_); refine bE (N := 4) (cs := #[.int .i64 0, .int .i64 0, .slice none 0 0]) (t := 58) ?_; intro gb102 hg w107 hbox hb; have GW102 := qw HB hg; have GE102 := qw HB hg; have NB101_102 := ql BK101 hg; have NB102_101 := qg BK101 hg; replace BK101 := qb BK101 hb; have BK102 := aK hbox; replace HB := qs HB hb; clear hb hbox hg; have hnb108 := NB101_102.out; have hnc108 := NB102_101.out; have hcz109_0 := k30 BK101; have hcz109_1 := k31 BK101; have hcz109_2 := k32 BK101; have hfz109_0 := fz BK101 0; have hfz109_1 := fz BK101 1; have hfz109_2 := fz BK101 2; have p128 : 0 ≤ (0 : Int) := (by omega); have q128 : 0 < (l0_2.length : Int) := dA; obtain ⟨ad128, A128_2, c128_2, e128, hx128_0, hx128_1, hx128_2, hl128_2, hi128_2⟩ := at_T68 HR0_2.out 0 p128 q128; cases e128; have qi128 : (0 < l0_2.length) = True := eq_true (by omega); (try rw [show ((0 : Int)).toNat = 0 from rfl] at hx128_0); (try rw [show 0 * 3 = 0 from rfl] at hx128_0); (try rw [Addr.add_zero'] at hx128_0); (try rw [show ((0 : Int)).toNat = 0 from rfl] at hx128_1); (try rw [show 0 * 3 = 0 from rfl] at hx128_1); (try rw [Addr.add_zero'] at hx128_1); (try rw [show ((0 : Int)).toNat = 0 from rfl] at hx128_2); (try rw [show 0 * 3 = 0 from rfl] at hx128_2); (try rw [Addr.add_zero'] at hx128_2); replace hx128_0 := uC HB hx128_0; replace hx128_1 := uC HB hx128_1; replace hx128_2 := uC HB hx128_2; have HR128_2 := aK hi128_2; have HC128_2 := aK hl128_2; clear hi128_2 hl128_2; replace p128 := eq_true p128; replace q128 := eq_true q128) | ((with_reducible refine gate_callee (f := 61) rfl ?_); refine goesL_ (some 62) rfl rfl Try.func61 (by kernel_rfl) rfl #[.agg #[.int .i64 ((rd_T68 l0_2 0).f0), .int .i64 ((rd_T68 l0_2 0).f1), .slice A128_2 ((rd_T68 l0_2 0).f2).length c128_2], .int .i64 a1] rfl tA ?_; (with_reducible refine (ih k (by omega) ((rd_T68 l0_2 0).f0) ((rd_T68 l0_2 0).f1) _ _ ((rd_T68 l0_2 0).f2) a1 t129 t130 t131 true _ ?side1 ?side2 A64.out).mono ?_); (case side1 => exact sC (Kd.C_below HR128_2.out HB.out)); (case side2 => exact HC128_2.out); rintro e w110 ⟨v132, rfl, ho0, hb⟩; refine ⟨_, rfl, ?_⟩; have HO133 := aK (Kd.V_lower (Kd.V_mono (ok' := fun k_ => (w.heap.size ≤ k_) ∧ k_ ≠ gb101 ∧ k_ ≠ gb102) ho0 (fun k_ hk_ => ⟨(Nat.le_trans (below_size HB.out) hk_), (Kd.freshB BK101.out k_ hk_), (Kd.freshB BK102.out k_ hk_)⟩)) (below_size HB.out)); replace BK101 := qb BK101 hb; replace BK102 := qb BK102 hb; replace HB := qs HB hb; (try clear hb); (try clear ho0)) | ((with_reducible refine gate_dst (N := 9) rfl ?_); refine bE (N := 9) (cs := #[.int .i64 0, .int .i64 0, .slice none 0 0]) (t := 58) ?_; intro gb135 hg w111 hbox hb; have GW135 := qw HB hg; have GE135 := qw HB hg; have NB101_135 := ql BK101 hg; have NB135_101 := qg BK101 hg; have NB102_135 := ql BK102 hg; have NB135_102 := qg BK102 hg; replace HO133 := qv HO133 hg hb; replace BK101 := qb BK101 hb; replace BK102 := qb BK102 hb; have BK135 := aK hbox; replace HB := qs HB hb; clear hb hbox hg; have hnb112 := NB135_101.out; have hnc112 := NB101_135.out; have hnb113 := NB135_102.out; have hnc113 := NB102_135.out; have hcz114_0 := k30 BK135; have hcz114_1 := k31 BK135; have hcz114_2 := k32 BK135; have hfz114_0 := fz BK135 0; have hfz114_1 := fz BK135 1; have hfz114_2 := fz BK135 2; obtain ⟨Ao115, co115, eo115⟩ := Kd.V_slice HO133.out; subst eo115; have hcz116_0 := k30 BK101; have hcz116_1 := k31 BK101; have hcz116_2 := k32 BK101; have hfz116_0 := fz BK101 0; have hfz116_1 := fz BK101 1; have hfz116_2 := fz BK101 2; have p136 : 0 ≤ (1 : Int) := (by omega); have q136 : 1 < (l0_2.length : Int) := dA; obtain ⟨ad136, A136_2, c136_2, e136, hx136_0, hx136_1, hx136_2, hl136_2, hi136_2⟩ := at_T68 HR0_2.out 1 p136 q136; obtain rfl : ad128 = ad136 := (by injection e136); (try simp only [show (1 : Int).toNat = 1 from rfl, Nat.reduceMul, Nat.reduceEqDiff, Go.Addr.add, ↓reduceIte] at hx136_0); (try simp only [show (1 : Int).toNat = 1 from rfl, Nat.reduceMul, Nat.reduceEqDiff, Go.Addr.add, ↓reduceIte] at hx136_1); (try simp only [show (1 : Int).toNat = 1 from rfl, Nat.reduceMul, Nat.reduceEqDiff, Go.Addr.add, ↓reduceIte] at hx136_2); have qi136 : (1 < l0_2.length) = True := eq_true (by omega); (try rw [show ((1 : Int)).toNat = 1 from rfl] at hx136_0); (try rw [show 1 * 3 = 3 from rfl] at hx136_0); (try rw [show ((1 : Int)).toNat = 1 from rfl] at hx136_1); (try rw [show 1 * 3 = 3 from rfl] at hx136_1); (try rw [show ((1 : Int)).toNat = 1 from rfl] at hx136_2); (try rw [show 1 * 3 = 3 from rfl] at hx136_2); have hn136_0 : ad128.block ≠ gb135 := nF hx136_0 GW135; have hn136_1 : ad128.block ≠ gb135 := nF hx136_0 GW135; have hn136_2 : ad128.block ≠ gb135 := nF hx136_0 GW135; replace hx136_0 := uC HB hx136_0; replace hx136_1 := uC HB hx136_1; replace hx136_2 := uC HB hx136_2; have HR136_2 := aK hi136_2; have HC136_2 := aK hl136_2; clear hi136_2 hl136_2; replace hx136_0 := (cell_far (p := ⟨gb135, 0, none⟩) (cB hn136_0) (.int .i64 t129)).trans hx136_0; replace hx136_1 := (cell_far (p := ⟨gb135, 0, none⟩) (cB hn136_0) (.int .i64 t129)).trans hx136_1; replace hx136_2 := (cell_far (p := ⟨gb135, 0, none⟩) (cB hn136_0) (.int .i64 t129)).trans hx136_2; replace hx136_0 := (cell_far (p := ⟨gb135, 1, none⟩) (cB hn136_1) (.int .i64 t130)).trans hx136_0; replace hx136_1 := (cell_far (p := ⟨gb135, 1, none⟩) (cB hn136_1) (.int .i64 t130)).trans hx136_1; replace hx136_2 := (cell_far (p := ⟨gb135, 1, none⟩) (cB hn136_1) (.int .i64 t130)).trans hx136_2; replace hx136_0 := (cell_far (p := ⟨gb135, 2, none⟩) (cB hn136_2) (.slice Ao115 t131.length co115)).trans hx136_0; replace hx136_1 := (cell_far (p := ⟨gb135, 2, none⟩) (cB hn136_2) (.slice Ao115 t131.length co115)).trans hx136_1; replace hx136_2 := (cell_far (p := ⟨gb135, 2, none⟩) (cB hn136_2) (.slice Ao115 t131.length co115)).trans hx136_2; clear hn136_0; clear hn136_1; clear hn136_2; replace p136 := eq_true p136; replace q136 := eq_true q136) | ((with_reducible refine gate_callee (f := 61) rfl ?_); refine goesL_ (some 71) rfl rfl Try.func61 (by kernel_rfl) rfl #[.agg #[.int .i64 ((rd_T68 l0_2 1).f0), .int .i64 ((rd_T68 l0_2 1).f1), .slice A136_2 ((rd_T68 l0_2 1).f2).length c136_2], .int .i64 a1] rfl tA ?_; (with_reducible refine (ih k (by omega) ((rd_T68 l0_2 1).f0) ((rd_T68 l0_2 1).f1) _ _ ((rd_T68 l0_2 1).f2) a1 t137 t138 t139 false _ ?side1 ?side2 A66.out).mono ?_); (case side1 => exact Kd.C_below HR136_2.out (pH HB)); (case side2 => exact HC136_2.out); rintro e w117 ⟨v140, rfl, ho0, hb⟩; refine ⟨_, rfl, ?_⟩; have n0_ := aK (Kd.V_below (by (with_reducible repeat (first | apply Kd.V_alloc | apply Kd.V_drewN | apply Kd.V_drew)); exact (Kd.V_mono (vF3 gb135 (Kd.V_mono HO133.out (fun k_ hk => (⟨hk, hk.2⟩ : _ ∧ k_ ≠ gb135))) (fun _ hk => hk.2)) (fun _ h_ => h_.1))) hb); have n1_ := aK (Kd.V_lower (Kd.V_mono (ok' := fun k_ => (w.heap.size ≤ k_) ∧ k_ ≠ gb101 ∧ k_ ≠ gb102 ∧ k_ ≠ gb135) ho0 (fun k_ hk_ => ⟨(Nat.le_trans (below_size (pH HB)) hk_), (Kd.freshB (g := gb101) (o := .cells #[.int .i64 a0_0, .int .i64 a0_1, .slice (some ad128) l0_2.length c0_2] 68 (0, 0)) (by (repeat first | with_reducible apply zN | with_reducible apply zD | with_reducible apply zA | refine blk_far ?_ NB101_135.out _); exact BK101.out) k_ hk_), (Kd.freshB (g := gb102) (o := .cells #[.int .i64 0, .int .i64 0, .slice none 0 0] 58 (0, 0)) (by (repeat first | with_reducible apply zN | with_reducible apply zD | with_reducible apply zA | refine blk_far ?_ NB102_135.out _); exact BK102.out) k_ hk_), (Kd.freshB (g := gb135) (o := .cells #[.int .i64 t129, .int .i64 t130, .slice Ao115 t131.length co115] 58 (0, 0)) (p3 BK135) k_ hk_)⟩)) (below_size (pH HB))); have n2_ := aK (blk_below (g := gb101) (o := .cells #[.int .i64 a0_0, .int .i64 a0_1, .slice (some ad128) l0_2.length c0_2] 68 (0, 0)) (by (repeat first | with_reducible apply zN | with_reducible apply zD | with_reducible apply zA | refine blk_far ?_ NB101_135.out _); exact BK101.out) hb); have n3_ := aK (blk_below (g := gb102) (o := .cells #[.int .i64 0, .int .i64 0, .slice none 0 0] 58 (0, 0)) (by (repeat first | with_reducible apply zN | with_reducible apply zD | with_reducible apply zA | refine blk_far ?_ NB102_135.out _); exact BK102.out) hb); have n4_ := aK (blk_below (g := gb135) (o := .cells #[.int .i64 t129, .int .i64 t130, .slice Ao115 t131.length co115] 58 (0, 0)) (p3 BK135) hb); have n5_ := aK (below_step (pH HB) hb); clear HO133; clear BK101; clear BK102; clear BK135; clear HB; have HO133 := n0_; have HO141 := n1_; have BK101 := n2_; have BK102 := n3_; have BK135 := n4_; have HB := n5_; clear n0_ n1_ n2_ n3_ n4_ n5_; (try clear hb); (try clear ho0)) | ((with_reducible refine gate_dst (N := 11) rfl ?_); refine bE (N := 11) (cs := #[.int .i64 0, .int .i64 0, .slice none 0 0]) (t := 58) ?_; intro gb143 hg w118 hbox hb; have GW143 := qw HB hg; have GE143 := qw HB hg; have NB101_143 := ql BK101 hg; have NB143_101 := qg BK101 hg; have NB102_143 := ql BK102 hg; have NB143_102 := qg BK102 hg; have NB135_143 := ql BK135 hg; have NB143_135 := qg BK135 hg; replace HO133 := qv HO133 hg hb; replace HO141 := qv HO141 hg hb; replace BK101 := qb BK101 hb; replace BK102 := qb BK102 hb; replace BK135 := qb BK135 hb; have BK143 := aK hbox; replace HB := qs HB hb; clear hb hbox hg; have hnb119 := NB143_101.out; have hnc119 := NB101_143.out; have hnb120 := NB143_102.out; have hnc120 := NB102_143.out; have hnb121 := NB143_135.out; have hnc121 := NB135_143.out; have hcz122_0 := k30 BK143; have hcz122_1 := k31 BK143; have hcz122_2 := k32 BK143; have hfz122_0 := fz BK143 0; have hfz122_1 := fz BK143 1; have hfz122_2 := fz BK143 2; obtain ⟨Ao123, co123, eo123⟩ := Kd.V_slice HO141.out; subst eo123) | ((with_reducible refine gate_store (t := 58) (p := 11) rfl ?_); refine store_event (t := 58) (p := 11) (v := ?vo_w124) (w1 := (((w118.setCell ⟨gb143, 0, none⟩ (.int .i64 t137)).setCell ⟨gb143, 1, none⟩ (.int .i64 t138)).setCell ⟨gb143, 2, none⟩ (.slice Ao123 t139.length co123))) ?hg ?ho ?hn ?hr ?_; (case ho => rfl); (case hg => rfl); (case hn => rfl); (case hr => first | (go_simp; done) | (go_simp; rfl)); intro w124 hw; have n0_ : Aside0 (Kd.V k58 58 w124 w.heap.size (fun k_ => (w.heap.size ≤ k_) ∧ k_ ≠ gb101 ∧ k_ ≠ gb102 ∧ k_ ≠ gb135 ∧ k_ ≠ gb143) (.slice Ao115 t131.length co115) t131) := ⟨(by rw [hw]; exact (by (with_reducible repeat (first | apply Kd.V_alloc | apply Kd.V_drewN | apply Kd.V_drew)); exact Kd.V_mono (vF3 gb143 (Kd.V_mono HO133.out (fun k_ hk => (⟨hk, hk.2⟩ : _ ∧ k_ ≠ gb143))) (fun _ hk => hk.2)) (fun _ hk => ⟨hk.1.1.1.1, ⟨hk.1.1.1.2.1, ⟨hk.1.1.1.2.2, ⟨hk.1.1.2, hk.1.2⟩⟩⟩⟩)))⟩; have n1_ : Aside0 (Kd.V k58 58 w124 w.heap.size (fun k_ => (w.heap.size ≤ k_) ∧ k_ ≠ gb101 ∧ k_ ≠ gb102 ∧ k_ ≠ gb135 ∧ k_ ≠ gb143) (.slice Ao123 t139.length co123) t139) := ⟨(by rw [hw]; exact (by (with_reducible repeat (first | apply Kd.V_alloc | apply Kd.V_drewN | apply Kd.V_drew)); exact Kd.V_mono (vF3 gb143 (Kd.V_mono HO141.out (fun k_ hk => (⟨hk, hk.2⟩ : _ ∧ k_ ≠ gb143))) (fun _ hk => hk.2)) (fun _ hk => ⟨hk.1.1.1, ⟨hk.1.1.2.1, ⟨hk.1.1.2.2.1, ⟨hk.1.1.2.2.2, hk.1.2⟩⟩⟩⟩)))⟩; have n2_ : Aside0 (w124.heap[gb101]? = some (.cells #[.int .i64 a0_0, .int .i64 a0_1, .slice (some ad128) l0_2.length c0_2] 68 (0, 0))) := ⟨(by rw [hw]; exact (by (repeat first | with_reducible apply zN | with_reducible apply zD | with_reducible apply zA | refine blk_far ?_ NB101_143.out _); exact BK101.out))⟩; have n3_ : Aside0 (w124.heap[gb102]? = some (.cells #[.int .i64 0, .int .i64 0, .slice none 0 0] 58 (0, 0))) := ⟨(by rw [hw]; exact (by (repeat first | with_reducible apply zN | with_reducible apply zD | with_reducible apply zA | refine blk_far ?_ NB102_143.out _); exact BK102.out))⟩; have n4_ : Aside0 (w124.heap[gb135]? = some (.cells #[.int .i64 t129, .int .i64 t130, .slice Ao115 t131.length co115] 58 (0, 0))) := ⟨(by rw [hw]; exact (by (repeat first | with_reducible apply zN | with_reducible apply zD | with_reducible apply zA | refine blk_far ?_ NB135_143.out _); exact BK135.out))⟩; have n5_ : Aside0 (w124.heap[gb143]? = some (.cells #[.int .i64 t137, .int .i64 t138, .slice Ao123 t139.length co123] 58 (0, 0))) := ⟨(by rw [hw]; exact (p3 BK143))⟩; have n6_ : Aside0 (Below w.heap.size w w124) := ⟨(by rw [hw]; exact (pH HB))⟩; clear hw; clear HO133; clear HO141; clear BK101; clear BK102; clear BK135; clear BK143; clear HB; have HO133 := n0_; have HO141 := n1_; have BK101 := n2_; have BK102 := n3_; have BK135 := n4_; have BK143 := n5_; have HB := n6_; clear n0_ n1_ n2_ n3_ n4_ n5_ n6_; have hcz125_0 := k30 BK135; have hcz125_1 := k31 BK135; have hcz125_2 := k32 BK135; have hfz125_0 := fz BK135 0; have hfz125_1 := fz BK135 1; have hfz125_2 := fz BK135 2; have hcz126_0 := k30 BK143; have hcz126_1 := k31 BK143; have hcz126_2 := k32 BK143; have hfz126_0 := fz BK143 0; have hfz126_1 := fz BK143 1; have hfz126_2 := fz BK143 2) | ((with_reducible refine gate_callee (f := 75) rfl ?_); refine goesL_ (some 76) rfl rfl Try.func75 (by kernel_rfl) rfl #[.agg #[.int .i64 t129, .int .i64 t130, .slice Ao115 t131.length co115], .agg #[.int .i64 t137, .int .i64 t138, .slice Ao123 t139.length co123]] rfl tA ?_; (with_reducible refine (impl_combApp.calls t129 t130 (fun k_ => ((w.heap.size ≤ k_) ∧ (k_ ≠ gb101 ∧ (k_ ≠ gb102 ∧ (k_ ≠ gb135 ∧ k_ ≠ gb143))))) _ _ t131 t137 t138 (fun k_ => ((w.heap.size ≤ k_) ∧ (k_ ≠ gb101 ∧ (k_ ≠ gb102 ∧ (k_ ≠ gb135 ∧ k_ ≠ gb143))))) _ _ t139 t144 t145 t146 _ ?side1 ?side2 A67.out).mono ?_); (case side1 => exact HO133.out); (case side2 => exact HO141.out); rintro e w127 ⟨v147, rfl, ho0, hb⟩; refine ⟨_, rfl, ?_⟩; have HO148 := aK (Kd.N_lower (Kd.N_mono (ok' := fun k_ => (w.heap.size ≤ k_) ∧ k_ ≠ gb101 ∧ k_ ≠ gb102 ∧ k_ ≠ gb135 ∧ k_ ≠ gb143) ho0 (fun k_ hk_ => ⟨Or.elim hk_ (fun hs_ => Or.elim hs_ (fun hs_ => hs_.1) (fun hs_ => hs_.1)) (fun hn_ => (Nat.le_trans (below_size HB.out) hn_)), Or.elim hk_ (fun hs_ => Or.elim hs_ (fun hs_ => hs_.2.1) (fun hs_ => hs_.2.1)) (fun hn_ => (Kd.freshB BK101.out k_ hn_)), Or.elim hk_ (fun hs_ => Or.elim hs_ (fun hs_ => hs_.2.2.1) (fun hs_ => hs_.2.2.1)) (fun hn_ => (Kd.freshB BK102.out k_ hn_)), Or.elim hk_ (fun hs_ => Or.elim hs_ (fun hs_ => hs_.2.2.2.1) (fun hs_ => hs_.2.2.2.1)) (fun hn_ => (Kd.freshB BK135.out k_ hn_)), Or.elim hk_ (fun hs_ => Or.elim hs_ (fun hs_ => hs_.2.2.2.2) (fun hs_ => hs_.2.2.2.2)) (fun hn_ => (Kd.freshB BK143.out k_ hn_))⟩)) (below_size HB.out)); replace HO133 := qe HO133 (by first | exact Kd.N_base ho0 | exact Kd.R_base ho0) hb; replace HO141 := qe HO141 (by first | exact Kd.N_base ho0 | exact Kd.R_base ho0) hb; replace BK101 := qb BK101 hb; replace BK102 := qb BK102 hb; replace BK135 := qb BK135 hb; replace BK143 := qb BK143 hb; replace HB := qs HB hb; (try clear hb); (try clear ho0)) | ((with_reducible refine gate_dst (N := 13) rfl ?_); refine bE (N := 13) (cs := #[.int .i64 0, .int .i64 0, .slice none 0 0]) (t := 58) ?_; intro gb149 hg w128 hbox hb; have GW149 := qw HB hg; have GE149 := qw HB hg; have NB101_149 := ql BK101 hg; have NB149_101 := qg BK101 hg; have NB102_149 := ql BK102 hg; have NB149_102 := qg BK102 hg; have NB135_149 := ql BK135 hg; have NB149_135 := qg BK135 hg; have NB143_149 := ql BK143 hg; have NB149_143 := qg BK143 hg; replace HO133 := qv HO133 hg hb; replace HO141 := qv HO141 hg hb; replace HO148 := qn HO148 hg hb; replace BK101 := qb BK101 hb; replace BK102 := qb BK102 hb; replace BK135 := qb BK135 hb; replace BK143 := qb BK143 hb; have BK149 := aK hbox; replace HB := qs HB hb; clear hb hbox hg; have hnb129 := NB149_101.out; have hnc129 := NB101_149.out; have hnb130 := NB149_102.out; have hnc130 := NB102_149.out; have hnb131 := NB149_135.out; have hnc131 := NB135_149.out; have hnb132 := NB149_143.out; have hnc132 := NB143_149.out; have hcz133_0 := k30 BK149; have hcz133_1 := k31 BK149; have hcz133_2 := k32 BK149; have hfz133_0 := fz BK149 0; have hfz133_1 := fz BK149 1; have hfz133_2 := fz BK149 2; obtain ⟨Ao134, co134, eo134⟩ := Kd.N_slice HO148.out; subst eo134))
       have n0_ : Aside0 (Kd.V k58 58 (((w128.setCell ⟨gb149, 0, none⟩ (.int .i64 t144)).setCell ⟨gb149, 1, none⟩ (.int .i64 t145)).setCell ⟨gb149, 2, none⟩ (.slice Ao134 t146.length co134)) w.heap.size (fun k_ => (w.heap.size ≤ k_) ∧ some k_ ≠ (.slice Ao134 t146.length co134 : Value).ownBlock ∧ k_ ≠ gb101 ∧ k_ ≠ gb102 ∧ k_ ≠ gb135 ∧ k_ ≠ gb143 ∧ k_ ≠ gb149) (.slice Ao115 t131.length co115) t131) := ⟨by (with_reducible repeat (first | apply Kd.V_alloc | apply Kd.V_drewN | apply Kd.V_drew)); exact Kd.V_mono (vF3 gb149 (Kd.V_mono HO133.out (fun k_ hk => (⟨hk, hk.2⟩ : _ ∧ k_ ≠ gb149))) (fun _ hk => hk.2)) (fun _ hk => ⟨hk.1.1.1.1, ⟨hk.1.1.2, ⟨hk.1.1.1.2.1, ⟨hk.1.1.1.2.2.1, ⟨hk.1.1.1.2.2.2.1, ⟨hk.1.1.1.2.2.2.2, hk.1.2⟩⟩⟩⟩⟩⟩)⟩
       have n1_ : Aside0 (Kd.V k58 58 (((w128.setCell ⟨gb149, 0, none⟩ (.int .i64 t144)).setCell ⟨gb149, 1, none⟩ (.int .i64 t145)).setCell ⟨gb149, 2, none⟩ (.slice Ao134 t146.length co134)) w.heap.size (fun k_ => (w.heap.size ≤ k_) ∧ some k_ ≠ (.slice Ao134 t146.length co134 : Value).ownBlock ∧ k_ ≠ gb101 ∧ k_ ≠ gb102 ∧ k_ ≠ gb135 ∧ k_ ≠ gb143 ∧ k_ ≠ gb149) (.slice Ao123 t139.length co123) t139) := ⟨by (with_reducible repeat (first | apply Kd.V_alloc | apply Kd.V_drewN | apply Kd.V_drew)); exact Kd.V_mono (vF3 gb149 (Kd.V_mono HO141.out (fun k_ hk => (⟨hk, hk.2⟩ : _ ∧ k_ ≠ gb149))) (fun _ hk => hk.2)) (fun _ hk => ⟨hk.1.1.1.1, ⟨hk.1.1.2, ⟨hk.1.1.1.2.1, ⟨hk.1.1.1.2.2.1, ⟨hk.1.1.1.2.2.2.1, ⟨hk.1.1.1.2.2.2.2, hk.1.2⟩⟩⟩⟩⟩⟩)⟩
       have n2_ : Aside0 (Kd.N k58 58 (((w128.setCell ⟨gb149, 0, none⟩ (.int .i64 t144)).setCell ⟨gb149, 1, none⟩ (.int .i64 t145)).setCell ⟨gb149, 2, none⟩ (.slice Ao134 t146.length co134)) w.heap.size (fun k_ => (w.heap.size ≤ k_) ∧ k_ ≠ gb101 ∧ k_ ≠ gb102 ∧ k_ ≠ gb135 ∧ k_ ≠ gb143 ∧ k_ ≠ gb149) (.slice Ao134 t146.length co134) t146) := ⟨by (with_reducible repeat (first | apply Kd.N_alloc | apply Kd.N_drewN | apply Kd.N_drew)); exact Kd.N_mono (nF3 gb149 (Kd.N_mono HO148.out (fun k_ hk => (⟨hk, hk.2⟩ : _ ∧ k_ ≠ gb149))) (fun _ hk => hk.2)) (fun _ hk => ⟨hk.1.1.1, ⟨hk.1.1.2.1, ⟨hk.1.1.2.2.1, ⟨hk.1.1.2.2.2.1, ⟨hk.1.1.2.2.2.2, hk.1.2⟩⟩⟩⟩⟩)⟩
       have n3_ : Aside0 ((((w128.setCell ⟨gb149, 0, none⟩ (.int .i64 t144)).setCell ⟨gb149, 1, none⟩ (.int .i64 t145)).setCell ⟨gb149, 2, none⟩ (.slice Ao134 t146.length co134)).heap[gb101]? = some (.cells #[.int .i64 a0_0, .int .i64 a0_1, .slice (some ad128) l0_2.length c0_2] 68 (0, 0))) := ⟨by (repeat first | with_reducible apply zN | with_reducible apply zD | with_reducible apply zA | refine blk_far ?_ NB101_149.out _); exact BK101.out⟩
       have n4_ : Aside0 ((((w128.setCell ⟨gb149, 0, none⟩ (.int .i64 t144)).setCell ⟨gb149, 1, none⟩ (.int .i64 t145)).setCell ⟨gb149, 2, none⟩ (.slice Ao134 t146.length co134)).heap[gb102]? = some (.cells #[.int .i64 0, .int .i64 0, .slice none 0 0] 58 (0, 0))) := ⟨by (repeat first | with_reducible apply zN | with_reducible apply zD | with_reducible apply zA | refine blk_far ?_ NB102_149.out _); exact BK102.out⟩
       have n5_ : Aside0 ((((w128.setCell ⟨gb149, 0, none⟩ (.int .i64 t144)).setCell ⟨gb149, 1, none⟩ (.int .i64 t145)).setCell ⟨gb149, 2, none⟩ (.slice Ao134 t146.length co134)).heap[gb135]? = some (.cells #[.int .i64 t129, .int .i64 t130, .slice Ao115 t131.length co115] 58 (0, 0))) := ⟨by (repeat first | with_reducible apply zN | with_reducible apply zD | with_reducible apply zA | refine blk_far ?_ NB135_149.out _); exact BK135.out⟩
       have n6_ : Aside0 ((((w128.setCell ⟨gb149, 0, none⟩ (.int .i64 t144)).setCell ⟨gb149, 1, none⟩ (.int .i64 t145)).setCell ⟨gb149, 2, none⟩ (.slice Ao134 t146.length co134)).heap[gb143]? = some (.cells #[.int .i64 t137, .int .i64 t138, .slice Ao123 t139.length co123] 58 (0, 0))) := ⟨by (repeat first | with_reducible apply zN | with_reducible apply zD | with_reducible apply zA | refine blk_far ?_ NB143_149.out _); exact BK143.out⟩
       have n7_ : Aside0 ((((w128.setCell ⟨gb149, 0, none⟩ (.int .i64 t144)).setCell ⟨gb149, 1, none⟩ (.int .i64 t145)).setCell ⟨gb149, 2, none⟩ (.slice Ao134 t146.length co134)).heap[gb149]? = some (.cells #[.int .i64 t144, .int .i64 t145, .slice Ao134 t146.length co134] 58 (0, 0))) := ⟨p3 BK149⟩
       have n8_ : Aside0 (Below w.heap.size w (((w128.setCell ⟨gb149, 0, none⟩ (.int .i64 t144)).setCell ⟨gb149, 1, none⟩ (.int .i64 t145)).setCell ⟨gb149, 2, none⟩ (.slice Ao134 t146.length co134))) := ⟨pH HB⟩
       (try clear HO133)
       (try clear HO141)
       (try clear HO148)
       (try clear BK101)
       (try clear BK102)
       (try clear BK135)
       (try clear BK143)
       (try clear BK149)
       (try clear HB)
       generalize (((w128.setCell ⟨gb149, 0, none⟩ (.int .i64 t144)).setCell ⟨gb149, 1, none⟩ (.int .i64 t145)).setCell ⟨gb149, 2, none⟩ (.slice Ao134 t146.length co134)) = w135 at n0_ n1_ n2_ n3_ n4_ n5_ n6_ n7_ n8_ ⊢
       have HO133 := n0_
       have HO141 := n1_
       have HO148 := n2_
       have BK101 := n3_
       have BK102 := n4_
       have BK135 := n5_
       have BK143 := n6_
       have BK149 := n7_
       have HB := n8_
       clear n0_ n1_ n2_ n3_ n4_ n5_ n6_ n7_ n8_
       have n0_ := aK (Kd.V_drew HO133.out)
       have n1_ := aK (Kd.V_drew HO141.out)
       have n2_ := aK (Kd.N_drew HO148.out)
       have n3_ := aK (blk_drew BK101.out)
       have n4_ := aK (blk_drew BK102.out)
       have n5_ := aK (blk_drew BK135.out)
       have n6_ := aK (blk_drew BK143.out)
       have n7_ := aK (blk_drew BK149.out)
       have n8_ := aK (below_drew1 HB.out)
       clear HO133
       clear HO141
       clear HO148
       clear BK101
       clear BK102
       clear BK135
       clear BK143
       clear BK149
       clear HB
       have HO133 := n0_
       have HO141 := n1_
       have HO148 := n2_
       have BK101 := n3_
       have BK102 := n4_
       have BK135 := n5_
       have BK143 := n6_
       have BK149 := n7_
       have HB := n8_
       clear n0_ n1_ n2_ n3_ n4_ n5_ n6_ n7_ n8_
       refine start_ (n := 11) (S := fun w' => w'.cell? ⟨gb149, 0, none⟩ = some (.int .i64 t144) ∧ w'.cell? ⟨gb149, 1, none⟩ = some (.int .i64 t145) ∧ w'.cell? ⟨gb149, 2, none⟩ = some (.slice Ao134 t146.length co134)) (ds := []) (bs 0 11) (by kernel_rfl) rfl rfl ⟨(blk_cell BK149.out 0).trans rfl, (blk_cell BK149.out 1).trans rfl, (blk_cell BK149.out 2).trans rfl⟩ (fun hHeld => ?_); refine with_tabW impl_combOfTerm.tab15 impl_combOfTerm.bits15 (fun HT_ HW_ => ?_)
       generalize w135.drew = w136 at HO133 HO141 HO148 BK101 BK102 BK135 BK143 BK149 HB hHeld ⊢
       refine pure_ (i := 1) (N := some 78) (v := ?_) (a' := ?_) #[false, true, false, false, false, false, false, false, false, false, false] rfl rfl (any_of HT_.out (by kernel_rfl)) (fun _ _ _ h => h) (Or.inl ⟨by rfl, ?_⟩) ?_ ?_
       rotate_left
       ·intro w'
        go_simp
        with_reducible rfl
       rotate_left
       ·simp only [sP, i64_w, i32_w]
        rfl
       refine pure_ (i := 2) (N := some 79) (v := ?_) (a' := ?_) #[false, true, true, false, false, false, false, false, false, false, false] rfl rfl (any_of HT_.out (by kernel_rfl)) (fun _ _ _ h => h) (Or.inl ⟨by rfl, ?_⟩) ?_ ?_
       rotate_left
       ·intro w'
        go_simp
        with_reducible rfl
       rotate_left
       ·simp only [sP, i64_w, i32_w]
        rfl
       refine pure_ (i := 3) (N := some 80) (v := ?_) (a' := ?_) #[false, true, true, true, false, false, false, false, false, false, false] rfl rfl (any_of HT_.out (by kernel_rfl)) (fun _ _ _ h => h) (Or.inl ⟨by rfl, ?_⟩) ?_ ?_
       rotate_left
       ·intro w'
        go_simp
        with_reducible rfl
       rotate_left
       ·simp only [sP, i64_w, i32_w]
        rfl
       refine pure_ (i := 4) (N := some 81) (v := ?_) (a' := ?_) #[false, true, true, true, true, false, false, false, false, false, false] rfl rfl (any_of HT_.out (by kernel_rfl)) (fun _ _ _ h => h) (Or.inl ⟨by rfl, ?_⟩) ?_ ?_
       rotate_left
       ·intro w'
        go_simp
        with_reducible rfl
       rotate_left
       ·simp only [sP, i64_w, i32_w]
        rfl
       refine pure_ (i := 5) (N := some 82) (v := ?_) (a' := ?_) #[false, true, true, true, true, true, false, false, false, false, false] rfl rfl (any_of HT_.out (by kernel_rfl)) (fun _ _ _ h => h) (Or.inl ⟨by rfl, ?_⟩) ?_ ?_
       rotate_left
       ·intro w'
        go_simp
        with_reducible rfl
       rotate_left
       ·simp only [sP, i64_w, i32_w]
        rfl
       refine pure_ (i := 6) (N := some 83) (v := undef) (a' := ?_) #[false, true, true, true, true, true, true, false, false, false, false] rfl rfl (any_of HT_.out (by kernel_rfl)) (fun _ _ _ h => h) (Or.inr ⟨by rfl, rfl⟩) ?_ ?_
       rotate_left
       ·simp only [sP, i64_w, i32_w]
        rfl
       refine pure_ (i := 7) (N := some 84) (v := undef) (a' := ?_) #[false, true, true, true, true, true, true, true, false, false, false] rfl rfl (any_of HT_.out (by kernel_rfl)) (fun _ _ _ h => h) (Or.inr ⟨by rfl, rfl⟩) ?_ ?_
       rotate_left
       ·simp only [sP, i64_w, i32_w]
        rfl
       refine pure_ (i := 8) (N := some 85) (v := ?_) (a' := ?_) #[false, true, true, true, true, true, true, true, true, false, false] rfl rfl (any_of HT_.out (by kernel_rfl)) (fun _ _ _ h => h) (Or.inl ⟨by rfl, ?_⟩) ?_ ?_
       rotate_left
       ·intro w'
        go_simp
        with_reducible rfl
       rotate_left
       ·simp only [sP, i64_w, i32_w]
        rfl
       refine take_ (i := 0) (N := some 77) (v := ?_) (a' := ?_) (bs 9 2) rfl rfl (take_ofW HT_.out HW_.out (by kernel_rfl)) (fun _ _ _ h => h) (Or.inl ⟨by rfl, ?_⟩) hHeld ?_ ?_
       rotate_left
       ·rintro w' ⟨s0, s1, s2⟩
        go_simp
        with_reducible rfl
       rotate_left
       ·simp only [sP, i64_w, i32_w]
        rfl
       refine one_ (i := 9) (N := none) (bs 10 1) rfl rfl (one_of HT_.out (by kernel_rfl)) (by decide) (fun K hK => ?_)
       have hs137 : w136.cell? ⟨gb102, 0, none⟩ = some (.int .i64 0) := (blk_cell BK102.out 0).trans rfl
       have hfs137 := blk_frozen BK102.out 0
       have hns137_0 := NB101_102.out
       have hns137_2 := NB135_102.out
       have hns137_3 := NB143_102.out
       have hns137_4 := NB149_102.out
       have hms137_0 := NB102_101.out
       have hms137_2 := NB102_135.out
       have hms137_3 := NB102_143.out
       have hms137_4 := NB102_149.out
       have hs138 : w136.cell? ⟨gb102, 1, none⟩ = some (.int .i64 0) := (blk_cell BK102.out 1).trans rfl
       have hfs138 := blk_frozen BK102.out 1
       have hns138_0 := NB101_102.out
       have hns138_2 := NB135_102.out
       have hns138_3 := NB143_102.out
       have hns138_4 := NB149_102.out
       have hms138_0 := NB102_101.out
       have hms138_2 := NB102_135.out
       have hms138_3 := NB102_143.out
       have hms138_4 := NB102_149.out
       have hs139 : w136.cell? ⟨gb102, 2, none⟩ = some (.slice none 0 0) := (blk_cell BK102.out 2).trans rfl
       have hfs139 := blk_frozen BK102.out 2
       have hns139_0 := NB101_102.out
       have hns139_2 := NB135_102.out
       have hns139_3 := NB143_102.out
       have hns139_4 := NB149_102.out
       have hms139_0 := NB102_101.out
       have hms139_2 := NB102_135.out
       have hms139_3 := NB102_143.out
       have hms139_4 := NB102_149.out
       refine skip_ (w1 := ?_) (by rfl) rfl ?_ ?_
       rotate_left
       ·go_simp
        rfl
       refine hK.out _ _ ⟨((cell_far (p := ⟨gb102, _, none⟩) NB149_102.out _).trans (((cell_far (p := ⟨gb102, _, none⟩) NB149_102.out _).trans (((cell_far (p := ⟨gb102, _, none⟩) NB149_102.out _).trans (hHeld.1)))))), ((cell_far (p := ⟨gb102, _, none⟩) NB149_102.out _).trans (((cell_far (p := ⟨gb102, _, none⟩) NB149_102.out _).trans (((cell_far (p := ⟨gb102, _, none⟩) NB149_102.out _).trans (hHeld.2.1)))))), ((cell_far (p := ⟨gb102, _, none⟩) NB149_102.out _).trans (((cell_far (p := ⟨gb102, _, none⟩) NB149_102.out _).trans (((cell_far (p := ⟨gb102, _, none⟩) NB149_102.out _).trans (hHeld.2.2))))))⟩ (fun hHeld => ?_)
       clear hK K
       refine pure_ (i := 10) (N := some 5) (v := ?_) (a' := ?_) (bs 11 0) rfl rfl (any_of HT_.out (by kernel_rfl)) (fun _ _ _ h => h) (Or.inl ⟨by rfl, ?_⟩) ?_ ?_
       rotate_left
       ·intro w'
        go_simp
        with_reducible rfl
       rotate_left
       ·simp only [sP, i64_w, i32_w]
        rfl
       refine done_ (done_of HT_.out (by kernel_rfl)) ?_
       try go_wp2
       refine bodyPost_ret (results_ct rfl _ _ gb102 58 #[.int .i64 t144, .int .i64 t145, .slice Ao134 t146.length co134] (0, 0) _ rfl (p3 BK102) Try.underlying58 rfl (by kernel_rfl)) rfl ?_
       exact ⟨_, eW, Kd.N_V (by (with_reducible repeat (first | apply Kd.N_alloc | apply Kd.N_drewN | apply Kd.N_drew)); exact Kd.N_mono (nF3 gb102 (Kd.N_mono HO148.out (fun k_ hk => (⟨hk, hk.2.2.1⟩ : _ ∧ k_ ≠ gb102))) (fun _ hk => hk.2)) (fun _ hk => hk.1.1)), pH HB⟩
     ·replace c68 := Bool.eq_false_iff.mpr c68
      subst c68
      rw [if_neg (show ¬ (false = true) by decide)] at H
      simp only [Option.some.injEq, Prod.mk.injEq] at H
      obtain ⟨rfl, rfl, rfl, rfl⟩ := H
      go_enter Try.func61, Try.ntmps61
      try go_wp2_with (first | ((with_reducible refine gate_dst (N := 2) rfl ?_); refine bE (N := 2) (cs := #[.int .i64 a0_0, .int .i64 a0_1, .slice A0_2 l0_2.length c0_2]) (t := 68) ?_; intro gb101 hg w140 hbox hb; have GW101 := qw HB hg; have GE101 := qw HB hg; have BK101 := aK hbox; replace HB := qs HB hb; clear hb hbox hg) | ((with_reducible refine gate_dst (N := 4) rfl ?_); refine bE (N := 4) (cs := #[.int .i64 0, .int .i64 0, .slice none 0 0]) (t := 58) ?_; intro gb102 hg w141 hbox hb; have GW102 := qw HB hg; have GE102 := qw HB hg; have NB101_102 := ql BK101 hg; have NB102_101 := qg BK101 hg; replace BK101 := qb BK101 hb; have BK102 := aK hbox; replace HB := qs HB hb; clear hb hbox hg; have hnb142 := NB101_102.out; have hnc142 := NB102_101.out; have hcz143_0 := k30 BK101; have hcz143_1 := k31 BK101; have hcz143_2 := k32 BK101; have hfz143_0 := fz BK101 0; have hfz143_1 := fz BK101 1; have hfz143_2 := fz BK101 2; have p128 : 0 ≤ (0 : Int) := (by omega); have q128 : 0 < (l0_2.length : Int) := dA; obtain ⟨ad128, A128_2, c128_2, e128, hx128_0, hx128_1, hx128_2, hl128_2, hi128_2⟩ := at_T68 HR0_2.out 0 p128 q128; cases e128; have qi128 : (0 < l0_2.length) = True := eq_true (by omega); (try rw [show ((0 : Int)).toNat = 0 from rfl] at hx128_0); (try rw [show 0 * 3 = 0 from rfl] at hx128_0); (try rw [Addr.add_zero'] at hx128_0); (try rw [show ((0 : Int)).toNat = 0 from rfl] at hx128_1); (try rw [show 0 * 3 = 0 from rfl] at hx128_1); (try rw [Addr.add_zero'] at hx128_1); (try rw [show ((0 : Int)).toNat = 0 from rfl] at hx128_2); (try rw [show 0 * 3 = 0 from rfl] at hx128_2); (try rw [Addr.add_zero'] at hx128_2); replace hx128_0 := uC HB hx128_0; replace hx128_1 := uC HB hx128_1; replace hx128_2 := uC HB hx128_2; have HR128_2 := aK hi128_2; have HC128_2 := aK hl128_2; clear hi128_2 hl128_2; replace p128 := eq_true p128; replace q128 := eq_true q128) | ((with_reducible refine gate_callee (f := 61) rfl ?_); refine goesL_ (some 62) rfl rfl Try.func61 (by kernel_rfl) rfl #[.agg #[.int .i64 ((rd_T68 l0_2 0).f0), .int .i64 ((rd_T68 l0_2 0).f1), .slice A128_2 ((rd_T68 l0_2 0).f2).length c128_2], .int .i64 a1] rfl tA ?_; (with_reducible refine (ih k (by omega) ((rd_T68 l0_2 0).f0) ((rd_T68 l0_2 0).f1) _ _ ((rd_T68 l0_2 0).f2) a1 t129 t130 t131 false _ ?side1 ?side2 A64.out).mono ?_); (case side1 => exact sC (Kd.C_below HR128_2.out HB.out)); (case side2 => exact HC128_2.out); rintro e w144 ⟨v132, rfl, ho0, hb⟩; refine ⟨_, rfl, ?_⟩; have HO133 := aK (Kd.V_lower (Kd.V_mono (ok' := fun k_ => (w.heap.size ≤ k_) ∧ k_ ≠ gb101 ∧ k_ ≠ gb102) ho0 (fun k_ hk_ => ⟨(Nat.le_trans (below_size HB.out) hk_), (Kd.freshB BK101.out k_ hk_), (Kd.freshB BK102.out k_ hk_)⟩)) (below_size HB.out)); replace BK101 := qb BK101 hb; replace BK102 := qb BK102 hb; replace HB := qs HB hb; (try clear hb); (try clear ho0)) | ((with_reducible refine gate_dst (N := 9) rfl ?_); refine bE (N := 9) (cs := #[.int .i64 0, .int .i64 0, .slice none 0 0]) (t := 58) ?_; intro gb135 hg w145 hbox hb; have GW135 := qw HB hg; have GE135 := qw HB hg; have NB101_135 := ql BK101 hg; have NB135_101 := qg BK101 hg; have NB102_135 := ql BK102 hg; have NB135_102 := qg BK102 hg; replace HO133 := qv HO133 hg hb; replace BK101 := qb BK101 hb; replace BK102 := qb BK102 hb; have BK135 := aK hbox; replace HB := qs HB hb; clear hb hbox hg; have hnb146 := NB135_101.out; have hnc146 := NB101_135.out; have hnb147 := NB135_102.out; have hnc147 := NB102_135.out; have hcz148_0 := k30 BK135; have hcz148_1 := k31 BK135; have hcz148_2 := k32 BK135; have hfz148_0 := fz BK135 0; have hfz148_1 := fz BK135 1; have hfz148_2 := fz BK135 2; obtain ⟨Ao149, co149, eo149⟩ := Kd.V_slice HO133.out; subst eo149; have hcz150_0 := k30 BK101; have hcz150_1 := k31 BK101; have hcz150_2 := k32 BK101; have hfz150_0 := fz BK101 0; have hfz150_1 := fz BK101 1; have hfz150_2 := fz BK101 2; have p136 : 0 ≤ (1 : Int) := (by omega); have q136 : 1 < (l0_2.length : Int) := dA; obtain ⟨ad136, A136_2, c136_2, e136, hx136_0, hx136_1, hx136_2, hl136_2, hi136_2⟩ := at_T68 HR0_2.out 1 p136 q136; obtain rfl : ad128 = ad136 := (by injection e136); (try simp only [show (1 : Int).toNat = 1 from rfl, Nat.reduceMul, Nat.reduceEqDiff, Go.Addr.add, ↓reduceIte] at hx136_0); (try simp only [show (1 : Int).toNat = 1 from rfl, Nat.reduceMul, Nat.reduceEqDiff, Go.Addr.add, ↓reduceIte] at hx136_1); (try simp only [show (1 : Int).toNat = 1 from rfl, Nat.reduceMul, Nat.reduceEqDiff, Go.Addr.add, ↓reduceIte] at hx136_2); have qi136 : (1 < l0_2.length) = True := eq_true (by omega); (try rw [show ((1 : Int)).toNat = 1 from rfl] at hx136_0); (try rw [show 1 * 3 = 3 from rfl] at hx136_0); (try rw [show ((1 : Int)).toNat = 1 from rfl] at hx136_1); (try rw [show 1 * 3 = 3 from rfl] at hx136_1); (try rw [show ((1 : Int)).toNat = 1 from rfl] at hx136_2); (try rw [show 1 * 3 = 3 from rfl] at hx136_2); have hn136_0 : ad128.block ≠ gb135 := nF hx136_0 GW135; have hn136_1 : ad128.block ≠ gb135 := nF hx136_0 GW135; have hn136_2 : ad128.block ≠ gb135 := nF hx136_0 GW135; replace hx136_0 := uC HB hx136_0; replace hx136_1 := uC HB hx136_1; replace hx136_2 := uC HB hx136_2; have HR136_2 := aK hi136_2; have HC136_2 := aK hl136_2; clear hi136_2 hl136_2; replace hx136_0 := (cell_far (p := ⟨gb135, 0, none⟩) (cB hn136_0) (.int .i64 t129)).trans hx136_0; replace hx136_1 := (cell_far (p := ⟨gb135, 0, none⟩) (cB hn136_0) (.int .i64 t129)).trans hx136_1; replace hx136_2 := (cell_far (p := ⟨gb135, 0, none⟩) (cB hn136_0) (.int .i64 t129)).trans hx136_2; replace hx136_0 := (cell_far (p := ⟨gb135, 1, none⟩) (cB hn136_1) (.int .i64 t130)).trans hx136_0; replace hx136_1 := (cell_far (p := ⟨gb135, 1, none⟩) (cB hn136_1) (.int .i64 t130)).trans hx136_1; replace hx136_2 := (cell_far (p := ⟨gb135, 1, none⟩) (cB hn136_1) (.int .i64 t130)).trans hx136_2; replace hx136_0 := (cell_far (p := ⟨gb135, 2, none⟩) (cB hn136_2) (.slice Ao149 t131.length co149)).trans hx136_0; replace hx136_1 := (cell_far (p := ⟨gb135, 2, none⟩) (cB hn136_2) (.slice Ao149 t131.length co149)).trans hx136_1; replace hx136_2 := (cell_far (p := ⟨gb135, 2, none⟩) (cB hn136_2) (.slice Ao149 t131.length co149)).trans hx136_2; clear hn136_0; clear hn136_1; clear hn136_2; replace p136 := eq_true p136; replace q136 := eq_true q136) | ((with_reducible refine gate_callee (f := 61) rfl ?_); refine goesL_ (some 71) rfl rfl Try.func61 (by kernel_rfl) rfl #[.agg #[.int .i64 ((rd_T68 l0_2 1).f0), .int .i64 ((rd_T68 l0_2 1).f1), .slice A136_2 ((rd_T68 l0_2 1).f2).length c136_2], .int .i64 a1] rfl tA ?_; (with_reducible refine (ih k (by omega) ((rd_T68 l0_2 1).f0) ((rd_T68 l0_2 1).f1) _ _ ((rd_T68 l0_2 1).f2) a1 t137 t138 t139 t142 _ ?side1 ?side2 A66.out).mono ?_); (case side1 => exact Kd.C_below HR136_2.out (pH HB)); (case side2 => exact HC136_2.out); rintro e w151 ⟨v140, rfl, ho0, hb⟩; refine ⟨_, rfl, ?_⟩; have n0_ := aK (Kd.V_below (by (with_reducible repeat (first | apply Kd.V_alloc | apply Kd.V_drewN | apply Kd.V_drew)); exact (Kd.V_mono (vF3 gb135 (Kd.V_mono HO133.out (fun k_ hk => (⟨hk, hk.2⟩ : _ ∧ k_ ≠ gb135))) (fun _ hk => hk.2)) (fun _ h_ => h_.1))) hb); have n1_ := aK (Kd.V_lower (Kd.V_mono (ok' := fun k_ => (w.heap.size ≤ k_) ∧ k_ ≠ gb101 ∧ k_ ≠ gb102 ∧ k_ ≠ gb135) ho0 (fun k_ hk_ => ⟨(Nat.le_trans (below_size (pH HB)) hk_), (Kd.freshB (g := gb101) (o := .cells #[.int .i64 a0_0, .int .i64 a0_1, .slice (some ad128) l0_2.length c0_2] 68 (0, 0)) (by (repeat first | with_reducible apply zN | with_reducible apply zD | with_reducible apply zA | refine blk_far ?_ NB101_135.out _); exact BK101.out) k_ hk_), (Kd.freshB (g := gb102) (o := .cells #[.int .i64 0, .int .i64 0, .slice none 0 0] 58 (0, 0)) (by (repeat first | with_reducible apply zN | with_reducible apply zD | with_reducible apply zA | refine blk_far ?_ NB102_135.out _); exact BK102.out) k_ hk_), (Kd.freshB (g := gb135) (o := .cells #[.int .i64 t129, .int .i64 t130, .slice Ao149 t131.length co149] 58 (0, 0)) (p3 BK135) k_ hk_)⟩)) (below_size (pH HB))); have n2_ := aK (blk_below (g := gb101) (o := .cells #[.int .i64 a0_0, .int .i64 a0_1, .slice (some ad128) l0_2.length c0_2] 68 (0, 0)) (by (repeat first | with_reducible apply zN | with_reducible apply zD | with_reducible apply zA | refine blk_far ?_ NB101_135.out _); exact BK101.out) hb); have n3_ := aK (blk_below (g := gb102) (o := .cells #[.int .i64 0, .int .i64 0, .slice none 0 0] 58 (0, 0)) (by (repeat first | with_reducible apply zN | with_reducible apply zD | with_reducible apply zA | refine blk_far ?_ NB102_135.out _); exact BK102.out) hb); have n4_ := aK (blk_below (g := gb135) (o := .cells #[.int .i64 t129, .int .i64 t130, .slice Ao149 t131.length co149] 58 (0, 0)) (p3 BK135) hb); have n5_ := aK (below_step (pH HB) hb); clear HO133; clear BK101; clear BK102; clear BK135; clear HB; have HO133 := n0_; have HO141 := n1_; have BK101 := n2_; have BK102 := n3_; have BK135 := n4_; have HB := n5_; clear n0_ n1_ n2_ n3_ n4_ n5_; (try clear hb); (try clear ho0)) | ((with_reducible refine gate_dst (N := 11) rfl ?_); refine bE (N := 11) (cs := #[.int .i64 0, .int .i64 0, .slice none 0 0]) (t := 58) ?_; intro gb143 hg w152 hbox hb; have GW143 := qw HB hg; have GE143 := qw HB hg; have NB101_143 := ql BK101 hg; have NB143_101 := qg BK101 hg; have NB102_143 := ql BK102 hg; have NB143_102 := qg BK102 hg; have NB135_143 := ql BK135 hg; have NB143_135 := qg BK135 hg; replace HO133 := qv HO133 hg hb; replace HO141 := qv HO141 hg hb; replace BK101 := qb BK101 hb; replace BK102 := qb BK102 hb; replace BK135 := qb BK135 hb; have BK143 := aK hbox; replace HB := qs HB hb; clear hb hbox hg; have hnb153 := NB143_101.out; have hnc153 := NB101_143.out; have hnb154 := NB143_102.out; have hnc154 := NB102_143.out; have hnb155 := NB143_135.out; have hnc155 := NB135_143.out; have hcz156_0 := k30 BK143; have hcz156_1 := k31 BK143; have hcz156_2 := k32 BK143; have hfz156_0 := fz BK143 0; have hfz156_1 := fz BK143 1; have hfz156_2 := fz BK143 2; obtain ⟨Ao157, co157, eo157⟩ := Kd.V_slice HO141.out; subst eo157) | ((with_reducible refine gate_store (t := 58) (p := 11) rfl ?_); refine store_event (t := 58) (p := 11) (v := ?vo_w158) (w1 := (((w152.setCell ⟨gb143, 0, none⟩ (.int .i64 t137)).setCell ⟨gb143, 1, none⟩ (.int .i64 t138)).setCell ⟨gb143, 2, none⟩ (.slice Ao157 t139.length co157))) ?hg ?ho ?hn ?hr ?_; (case ho => rfl); (case hg => rfl); (case hn => rfl); (case hr => first | (go_simp; done) | (go_simp; rfl)); intro w158 hw; have n0_ : Aside0 (Kd.V k58 58 w158 w.heap.size (fun k_ => (w.heap.size ≤ k_) ∧ k_ ≠ gb101 ∧ k_ ≠ gb102 ∧ k_ ≠ gb135 ∧ k_ ≠ gb143) (.slice Ao149 t131.length co149) t131) := ⟨(by rw [hw]; exact (by (with_reducible repeat (first | apply Kd.V_alloc | apply Kd.V_drewN | apply Kd.V_drew)); exact Kd.V_mono (vF3 gb143 (Kd.V_mono HO133.out (fun k_ hk => (⟨hk, hk.2⟩ : _ ∧ k_ ≠ gb143))) (fun _ hk => hk.2)) (fun _ hk => ⟨hk.1.1.1.1, ⟨hk.1.1.1.2.1, ⟨hk.1.1.1.2.2, ⟨hk.1.1.2, hk.1.2⟩⟩⟩⟩)))⟩; have n1_ : Aside0 (Kd.V k58 58 w158 w.heap.size (fun k_ => (w.heap.size ≤ k_) ∧ k_ ≠ gb101 ∧ k_ ≠ gb102 ∧ k_ ≠ gb135 ∧ k_ ≠ gb143) (.slice Ao157 t139.length co157) t139) := ⟨(by rw [hw]; exact (by (with_reducible repeat (first | apply Kd.V_alloc | apply Kd.V_drewN | apply Kd.V_drew)); exact Kd.V_mono (vF3 gb143 (Kd.V_mono HO141.out (fun k_ hk => (⟨hk, hk.2⟩ : _ ∧ k_ ≠ gb143))) (fun _ hk => hk.2)) (fun _ hk => ⟨hk.1.1.1, ⟨hk.1.1.2.1, ⟨hk.1.1.2.2.1, ⟨hk.1.1.2.2.2, hk.1.2⟩⟩⟩⟩)))⟩; have n2_ : Aside0 (w158.heap[gb101]? = some (.cells #[.int .i64 a0_0, .int .i64 a0_1, .slice (some ad128) l0_2.length c0_2] 68 (0, 0))) := ⟨(by rw [hw]; exact (by (repeat first | with_reducible apply zN | with_reducible apply zD | with_reducible apply zA | refine blk_far ?_ NB101_143.out _); exact BK101.out))⟩; have n3_ : Aside0 (w158.heap[gb102]? = some (.cells #[.int .i64 0, .int .i64 0, .slice none 0 0] 58 (0, 0))) := ⟨(by rw [hw]; exact (by (repeat first | with_reducible apply zN | with_reducible apply zD | with_reducible apply zA | refine blk_far ?_ NB102_143.out _); exact BK102.out))⟩; have n4_ : Aside0 (w158.heap[gb135]? = some (.cells #[.int .i64 t129, .int .i64 t130, .slice Ao149 t131.length co149] 58 (0, 0))) := ⟨(by rw [hw]; exact (by (repeat first | with_reducible apply zN | with_reducible apply zD | with_reducible apply zA | refine blk_far ?_ NB135_143.out _); exact BK135.out))⟩; have n5_ : Aside0 (w158.heap[gb143]? = some (.cells #[.int .i64 t137, .int .i64 t138, .slice Ao157 t139.length co157] 58 (0, 0))) := ⟨(by rw [hw]; exact (p3 BK143))⟩; have n6_ : Aside0 (Below w.heap.size w w158) := ⟨(by rw [hw]; exact (pH HB))⟩; clear hw; clear HO133; clear HO141; clear BK101; clear BK102; clear BK135; clear BK143; clear HB; have HO133 := n0_; have HO141 := n1_; have BK101 := n2_; have BK102 := n3_; have BK135 := n4_; have BK143 := n5_; have HB := n6_; clear n0_ n1_ n2_ n3_ n4_ n5_ n6_; have hcz159_0 := k30 BK135; have hcz159_1 := k31 BK135; have hcz159_2 := k32 BK135; have hfz159_0 := fz BK135 0; have hfz159_1 := fz BK135 1; have hfz159_2 := fz BK135 2; have hcz160_0 := k30 BK143; have hcz160_1 := k31 BK143; have hcz160_2 := k32 BK143; have hfz160_0 := fz BK143 0; have hfz160_1 := fz BK143 1; have hfz160_2 := fz BK143 2) | ((with_reducible refine gate_callee (f := 75) rfl ?_); refine goesL_ (some 76) rfl rfl Try.func75 (by kernel_rfl) rfl #[.agg #[.int .i64 t129, .int .i64 t130, .slice Ao149 t131.length co149], .agg #[.int .i64 t137, .int .i64 t138, .slice Ao157 t139.length co157]] rfl tA ?_; (with_reducible refine (impl_combApp.calls t129 t130 (fun k_ => ((w.heap.size ≤ k_) ∧ (k_ ≠ gb101 ∧ (k_ ≠ gb102 ∧ (k_ ≠ gb135 ∧ k_ ≠ gb143))))) _ _ t131 t137 t138 (fun k_ => ((w.heap.size ≤ k_) ∧ (k_ ≠ gb101 ∧ (k_ ≠ gb102 ∧ (k_ ≠ gb135 ∧ k_ ≠ gb143))))) _ _ t139 t144 t145 t146 _ ?side1 ?side2 A67.out).mono ?_); (case side1 => exact HO133.out); (case side2 => exact HO141.out); rintro e w161 ⟨v147, rfl, ho0, hb⟩; refine ⟨_, rfl, ?_⟩; have HO148 := aK (Kd.N_lower (Kd.N_mono (ok' := fun k_ => (w.heap.size ≤ k_) ∧ k_ ≠ gb101 ∧ k_ ≠ gb102 ∧ k_ ≠ gb135 ∧ k_ ≠ gb143) ho0 (fun k_ hk_ => ⟨Or.elim hk_ (fun hs_ => Or.elim hs_ (fun hs_ => hs_.1) (fun hs_ => hs_.1)) (fun hn_ => (Nat.le_trans (below_size HB.out) hn_)), Or.elim hk_ (fun hs_ => Or.elim hs_ (fun hs_ => hs_.2.1) (fun hs_ => hs_.2.1)) (fun hn_ => (Kd.freshB BK101.out k_ hn_)), Or.elim hk_ (fun hs_ => Or.elim hs_ (fun hs_ => hs_.2.2.1) (fun hs_ => hs_.2.2.1)) (fun hn_ => (Kd.freshB BK102.out k_ hn_)), Or.elim hk_ (fun hs_ => Or.elim hs_ (fun hs_ => hs_.2.2.2.1) (fun hs_ => hs_.2.2.2.1)) (fun hn_ => (Kd.freshB BK135.out k_ hn_)), Or.elim hk_ (fun hs_ => Or.elim hs_ (fun hs_ => hs_.2.2.2.2) (fun hs_ => hs_.2.2.2.2)) (fun hn_ => (Kd.freshB BK143.out k_ hn_))⟩)) (below_size HB.out)); replace HO133 := qe HO133 (by first | exact Kd.N_base ho0 | exact Kd.R_base ho0) hb; replace HO141 := qe HO141 (by first | exact Kd.N_base ho0 | exact Kd.R_base ho0) hb; replace BK101 := qb BK101 hb; replace BK102 := qb BK102 hb; replace BK135 := qb BK135 hb; replace BK143 := qb BK143 hb; replace HB := qs HB hb; (try clear hb); (try clear ho0)) | ((with_reducible refine gate_dst (N := 13) rfl ?_); refine bE (N := 13) (cs := #[.int .i64 0, .int .i64 0, .slice none 0 0]) (t := 58) ?_; intro gb149 hg w162 hbox hb; have GW149 := qw HB hg; have GE149 := qw HB hg; have NB101_149 := ql BK101 hg; have NB149_101 := qg BK101 hg; have NB102_149 := ql BK102 hg; have NB149_102 := qg BK102 hg; have NB135_149 := ql BK135 hg; have NB149_135 := qg BK135 hg; have NB143_149 := ql BK143 hg; have NB149_143 := qg BK143 hg; replace HO133 := qv HO133 hg hb; replace HO141 := qv HO141 hg hb; replace HO148 := qn HO148 hg hb; replace BK101 := qb BK101 hb; replace BK102 := qb BK102 hb; replace BK135 := qb BK135 hb; replace BK143 := qb BK143 hb; have BK149 := aK hbox; replace HB := qs HB hb; clear hb hbox hg; have hnb163 := NB149_101.out; have hnc163 := NB101_149.out; have hnb164 := NB149_102.out; have hnc164 := NB102_149.out; have hnb165 := NB149_135.out; have hnc165 := NB135_149.out; have hnb166 := NB149_143.out; have hnc166 := NB143_149.out; have hcz167_0 := k30 BK149; have hcz167_1 := k31 BK149; have hcz167_2 := k32 BK149; have hfz167_0 := fz BK149 0; have hfz167_1 := fz BK149 1; have hfz167_2 := fz BK149 2; obtain ⟨Ao168, co168, eo168⟩ := Kd.N_slice HO148.out; subst eo168))
      have n0_ : Aside0 (Kd.V k58 58 (((w162.setCell ⟨gb149, 0, none⟩ (.int .i64 t144)).setCell ⟨gb149, 1, none⟩ (.int .i64 t145)).setCell ⟨gb149, 2, none⟩ (.slice Ao168 t146.length co168)) w.heap.size (fun k_ => (w.heap.size ≤ k_) ∧ some k_ ≠ (.slice Ao168 t146.length co168 : Value).ownBlock ∧ k_ ≠ gb101 ∧ k_ ≠ gb102 ∧ k_ ≠ gb135 ∧ k_ ≠ gb143 ∧ k_ ≠ gb149) (.slice Ao149 t131.length co149) t131) := ⟨by (with_reducible repeat (first | apply Kd.V_alloc | apply Kd.V_drewN | apply Kd.V_drew)); exact Kd.V_mono (vF3 gb149 (Kd.V_mono HO133.out (fun k_ hk => (⟨hk, hk.2⟩ : _ ∧ k_ ≠ gb149))) (fun _ hk => hk.2)) (fun _ hk => ⟨hk.1.1.1.1, ⟨hk.1.1.2, ⟨hk.1.1.1.2.1, ⟨hk.1.1.1.2.2.1, ⟨hk.1.1.1.2.2.2.1, ⟨hk.1.1.1.2.2.2.2, hk.1.2⟩⟩⟩⟩⟩⟩)⟩
      have n1_ : Aside0 (Kd.V k58 58 (((w162.setCell ⟨gb149, 0, none⟩ (.int .i64 t144)).setCell ⟨gb149, 1, none⟩ (.int .i64 t145)).setCell ⟨gb149, 2, none⟩ (.slice Ao168 t146.length co168)) w.heap.size (fun k_ => (w.heap.size ≤ k_) ∧ some k_ ≠ (.slice Ao168 t146.length co168 : Value).ownBlock ∧ k_ ≠ gb101 ∧ k_ ≠ gb102 ∧ k_ ≠ gb135 ∧ k_ ≠ gb143 ∧ k_ ≠ gb149) (.slice Ao157 t139.length co157) t139) := ⟨by (with_reducible repeat (first | apply Kd.V_alloc | apply Kd.V_drewN | apply Kd.V_drew)); exact Kd.V_mono (vF3 gb149 (Kd.V_mono HO141.out (fun k_ hk => (⟨hk, hk.2⟩ : _ ∧ k_ ≠ gb149))) (fun _ hk => hk.2)) (fun _ hk => ⟨hk.1.1.1.1, ⟨hk.1.1.2, ⟨hk.1.1.1.2.1, ⟨hk.1.1.1.2.2.1, ⟨hk.1.1.1.2.2.2.1, ⟨hk.1.1.1.2.2.2.2, hk.1.2⟩⟩⟩⟩⟩⟩)⟩
      have n2_ : Aside0 (Kd.N k58 58 (((w162.setCell ⟨gb149, 0, none⟩ (.int .i64 t144)).setCell ⟨gb149, 1, none⟩ (.int .i64 t145)).setCell ⟨gb149, 2, none⟩ (.slice Ao168 t146.length co168)) w.heap.size (fun k_ => (w.heap.size ≤ k_) ∧ k_ ≠ gb101 ∧ k_ ≠ gb102 ∧ k_ ≠ gb135 ∧ k_ ≠ gb143 ∧ k_ ≠ gb149) (.slice Ao168 t146.length co168) t146) := ⟨by (with_reducible repeat (first | apply Kd.N_alloc | apply Kd.N_drewN | apply Kd.N_drew)); exact Kd.N_mono (nF3 gb149 (Kd.N_mono HO148.out (fun k_ hk => (⟨hk, hk.2⟩ : _ ∧ k_ ≠ gb149))) (fun _ hk => hk.2)) (fun _ hk => ⟨hk.1.1.1, ⟨hk.1.1.2.1, ⟨hk.1.1.2.2.1, ⟨hk.1.1.2.2.2.1, ⟨hk.1.1.2.2.2.2, hk.1.2⟩⟩⟩⟩⟩)⟩
      have n3_ : Aside0 ((((w162.setCell ⟨gb149, 0, none⟩ (.int .i64 t144)).setCell ⟨gb149, 1, none⟩ (.int .i64 t145)).setCell ⟨gb149, 2, none⟩ (.slice Ao168 t146.length co168)).heap[gb101]? = some (.cells #[.int .i64 a0_0, .int .i64 a0_1, .slice (some ad128) l0_2.length c0_2] 68 (0, 0))) := ⟨by (repeat first | with_reducible apply zN | with_reducible apply zD | with_reducible apply zA | refine blk_far ?_ NB101_149.out _); exact BK101.out⟩
      have n4_ : Aside0 ((((w162.setCell ⟨gb149, 0, none⟩ (.int .i64 t144)).setCell ⟨gb149, 1, none⟩ (.int .i64 t145)).setCell ⟨gb149, 2, none⟩ (.slice Ao168 t146.length co168)).heap[gb102]? = some (.cells #[.int .i64 0, .int .i64 0, .slice none 0 0] 58 (0, 0))) := ⟨by (repeat first | with_reducible apply zN | with_reducible apply zD | with_reducible apply zA | refine blk_far ?_ NB102_149.out _); exact BK102.out⟩
      have n5_ : Aside0 ((((w162.setCell ⟨gb149, 0, none⟩ (.int .i64 t144)).setCell ⟨gb149, 1, none⟩ (.int .i64 t145)).setCell ⟨gb149, 2, none⟩ (.slice Ao168 t146.length co168)).heap[gb135]? = some (.cells #[.int .i64 t129, .int .i64 t130, .slice Ao149 t131.length co149] 58 (0, 0))) := ⟨by (repeat first | with_reducible apply zN | with_reducible apply zD | with_reducible apply zA | refine blk_far ?_ NB135_149.out _); exact BK135.out⟩
      have n6_ : Aside0 ((((w162.setCell ⟨gb149, 0, none⟩ (.int .i64 t144)).setCell ⟨gb149, 1, none⟩ (.int .i64 t145)).setCell ⟨gb149, 2, none⟩ (.slice Ao168 t146.length co168)).heap[gb143]? = some (.cells #[.int .i64 t137, .int .i64 t138, .slice Ao157 t139.length co157] 58 (0, 0))) := ⟨by (repeat first | with_reducible apply zN | with_reducible apply zD | with_reducible apply zA | refine blk_far ?_ NB143_149.out _); exact BK143.out⟩
      have n7_ : Aside0 ((((w162.setCell ⟨gb149, 0, none⟩ (.int .i64 t144)).setCell ⟨gb149, 1, none⟩ (.int .i64 t145)).setCell ⟨gb149, 2, none⟩ (.slice Ao168 t146.length co168)).heap[gb149]? = some (.cells #[.int .i64 t144, .int .i64 t145, .slice Ao168 t146.length co168] 58 (0, 0))) := ⟨p3 BK149⟩
      have n8_ : Aside0 (Below w.heap.size w (((w162.setCell ⟨gb149, 0, none⟩ (.int .i64 t144)).setCell ⟨gb149, 1, none⟩ (.int .i64 t145)).setCell ⟨gb149, 2, none⟩ (.slice Ao168 t146.length co168))) := ⟨pH HB⟩
      (try clear HO133)
      (try clear HO141)
      (try clear HO148)
      (try clear BK101)
      (try clear BK102)
      (try clear BK135)
      (try clear BK143)
      (try clear BK149)
      (try clear HB)
      generalize (((w162.setCell ⟨gb149, 0, none⟩ (.int .i64 t144)).setCell ⟨gb149, 1, none⟩ (.int .i64 t145)).setCell ⟨gb149, 2, none⟩ (.slice Ao168 t146.length co168)) = w169 at n0_ n1_ n2_ n3_ n4_ n5_ n6_ n7_ n8_ ⊢
      have HO133 := n0_
      have HO141 := n1_
      have HO148 := n2_
      have BK101 := n3_
      have BK102 := n4_
      have BK135 := n5_
      have BK143 := n6_
      have BK149 := n7_
      have HB := n8_
      clear n0_ n1_ n2_ n3_ n4_ n5_ n6_ n7_ n8_
      have n0_ := aK (Kd.V_drew HO133.out)
      have n1_ := aK (Kd.V_drew HO141.out)
      have n2_ := aK (Kd.N_drew HO148.out)
      have n3_ := aK (blk_drew BK101.out)
      have n4_ := aK (blk_drew BK102.out)
      have n5_ := aK (blk_drew BK135.out)
      have n6_ := aK (blk_drew BK143.out)
      have n7_ := aK (blk_drew BK149.out)
      have n8_ := aK (below_drew1 HB.out)
      clear HO133
      clear HO141
      clear HO148
      clear BK101
      clear BK102
      clear BK135
      clear BK143
      clear BK149
      clear HB
      have HO133 := n0_
      have HO141 := n1_
      have HO148 := n2_
      have BK101 := n3_
      have BK102 := n4_
      have BK135 := n5_
      have BK143 := n6_
      have BK149 := n7_
      have HB := n8_
      clear n0_ n1_ n2_ n3_ n4_ n5_ n6_ n7_ n8_
      refine start_ (n := 11) (S := fun w' => w'.cell? ⟨gb149, 0, none⟩ = some (.int .i64 t144) ∧ w'.cell? ⟨gb149, 1, none⟩ = some (.int .i64 t145) ∧ w'.cell? ⟨gb149, 2, none⟩ = some (.slice Ao168 t146.length co168)) (ds := []) (bs 0 11) (by kernel_rfl) rfl rfl ⟨(blk_cell BK149.out 0).trans rfl, (blk_cell BK149.out 1).trans rfl, (blk_cell BK149.out 2).trans rfl⟩ (fun hHeld => ?_); refine with_tabW impl_combOfTerm.tab15 impl_combOfTerm.bits15 (fun HT_ HW_ => ?_)
      generalize w169.drew = w170 at HO133 HO141 HO148 BK101 BK102 BK135 BK143 BK149 HB hHeld ⊢
      refine pure_ (i := 1) (N := some 78) (v := ?_) (a' := ?_) #[false, true, false, false, false, false, false, false, false, false, false] rfl rfl (any_of HT_.out (by kernel_rfl)) (fun _ _ _ h => h) (Or.inl ⟨by rfl, ?_⟩) ?_ ?_
      rotate_left
      ·intro w'
       go_simp
       with_reducible rfl
      rotate_left
      ·simp only [sP, i64_w, i32_w]
       rfl
      refine pure_ (i := 2) (N := some 79) (v := ?_) (a' := ?_) #[false, true, true, false, false, false, false, false, false, false, false] rfl rfl (any_of HT_.out (by kernel_rfl)) (fun _ _ _ h => h) (Or.inl ⟨by rfl, ?_⟩) ?_ ?_
      rotate_left
      ·intro w'
       go_simp
       with_reducible rfl
      rotate_left
      ·simp only [sP, i64_w, i32_w]
       rfl
      refine pure_ (i := 3) (N := some 80) (v := undef) (a' := ?_) #[false, true, true, true, false, false, false, false, false, false, false] rfl rfl (any_of HT_.out (by kernel_rfl)) (fun _ _ _ h => h) (Or.inr ⟨by rfl, rfl⟩) ?_ ?_
      rotate_left
      ·simp only [sP, i64_w, i32_w]
       rfl
      refine pure_ (i := 4) (N := some 81) (v := ?_) (a' := ?_) #[false, true, true, true, true, false, false, false, false, false, false] rfl rfl (any_of HT_.out (by kernel_rfl)) (fun _ _ _ h => h) (Or.inl ⟨by rfl, ?_⟩) ?_ ?_
      rotate_left
      ·intro w'
       go_simp
       with_reducible rfl
      rotate_left
      ·simp only [sP, i64_w, i32_w]
       rfl
      refine pure_ (i := 5) (N := some 82) (v := ?_) (a' := ?_) #[false, true, true, true, true, true, false, false, false, false, false] rfl rfl (any_of HT_.out (by kernel_rfl)) (fun _ _ _ h => h) (Or.inl ⟨by rfl, ?_⟩) ?_ ?_
      rotate_left
      ·intro w'
       go_simp
       with_reducible rfl
      rotate_left
      ·simp only [sP, i64_w, i32_w]
       rfl
      refine pure_ (i := 6) (N := some 83) (v := undef) (a' := ?_) #[false, true, true, true, true, true, true, false, false, false, false] rfl rfl (any_of HT_.out (by kernel_rfl)) (fun _ _ _ h => h) (Or.inr ⟨by rfl, rfl⟩) ?_ ?_
      rotate_left
      ·simp only [sP, i64_w, i32_w]
       rfl
      refine pure_ (i := 7) (N := some 84) (v := undef) (a' := ?_) #[false, true, true, true, true, true, true, true, false, false, false] rfl rfl (any_of HT_.out (by kernel_rfl)) (fun _ _ _ h => h) (Or.inr ⟨by rfl, rfl⟩) ?_ ?_
      rotate_left
      ·simp only [sP, i64_w, i32_w]
       rfl
      refine pure_ (i := 8) (N := some 85) (v := ?_) (a' := ?_) #[false, true, true, true, true, true, true, true, true, false, false] rfl rfl (any_of HT_.out (by kernel_rfl)) (fun _ _ _ h => h) (Or.inl ⟨by rfl, ?_⟩) ?_ ?_
      rotate_left
      ·intro w'
       go_simp
       with_reducible rfl
      rotate_left
      ·simp only [sP, i64_w, i32_w]
       rfl
      refine take_ (i := 0) (N := some 77) (v := ?_) (a' := ?_) (bs 9 2) rfl rfl (take_ofW HT_.out HW_.out (by kernel_rfl)) (fun _ _ _ h => h) (Or.inl ⟨by rfl, ?_⟩) hHeld ?_ ?_
      rotate_left
      ·rintro w' ⟨s0, s1, s2⟩
       go_simp
       with_reducible rfl
      rotate_left
      ·simp only [sP, i64_w, i32_w]
       rfl
      refine one_ (i := 9) (N := none) (bs 10 1) rfl rfl (one_of HT_.out (by kernel_rfl)) (by decide) (fun K hK => ?_)
      have hs171 : w170.cell? ⟨gb102, 0, none⟩ = some (.int .i64 0) := (blk_cell BK102.out 0).trans rfl
      have hfs171 := blk_frozen BK102.out 0
      have hns171_0 := NB101_102.out
      have hns171_2 := NB135_102.out
      have hns171_3 := NB143_102.out
      have hns171_4 := NB149_102.out
      have hms171_0 := NB102_101.out
      have hms171_2 := NB102_135.out
      have hms171_3 := NB102_143.out
      have hms171_4 := NB102_149.out
      have hs172 : w170.cell? ⟨gb102, 1, none⟩ = some (.int .i64 0) := (blk_cell BK102.out 1).trans rfl
      have hfs172 := blk_frozen BK102.out 1
      have hns172_0 := NB101_102.out
      have hns172_2 := NB135_102.out
      have hns172_3 := NB143_102.out
      have hns172_4 := NB149_102.out
      have hms172_0 := NB102_101.out
      have hms172_2 := NB102_135.out
      have hms172_3 := NB102_143.out
      have hms172_4 := NB102_149.out
      have hs173 : w170.cell? ⟨gb102, 2, none⟩ = some (.slice none 0 0) := (blk_cell BK102.out 2).trans rfl
      have hfs173 := blk_frozen BK102.out 2
      have hns173_0 := NB101_102.out
      have hns173_2 := NB135_102.out
      have hns173_3 := NB143_102.out
      have hns173_4 := NB149_102.out
      have hms173_0 := NB102_101.out
      have hms173_2 := NB102_135.out
      have hms173_3 := NB102_143.out
      have hms173_4 := NB102_149.out
      refine skip_ (w1 := ?_) (by rfl) rfl ?_ ?_
      rotate_left
      ·go_simp
       rfl
      refine hK.out _ _ ⟨((cell_far (p := ⟨gb102, _, none⟩) NB149_102.out _).trans (((cell_far (p := ⟨gb102, _, none⟩) NB149_102.out _).trans (((cell_far (p := ⟨gb102, _, none⟩) NB149_102.out _).trans (hHeld.1)))))), ((cell_far (p := ⟨gb102, _, none⟩) NB149_102.out _).trans (((cell_far (p := ⟨gb102, _, none⟩) NB149_102.out _).trans (((cell_far (p := ⟨gb102, _, none⟩) NB149_102.out _).trans (hHeld.2.1)))))), ((cell_far (p := ⟨gb102, _, none⟩) NB149_102.out _).trans (((cell_far (p := ⟨gb102, _, none⟩) NB149_102.out _).trans (((cell_far (p := ⟨gb102, _, none⟩) NB149_102.out _).trans (hHeld.2.2))))))⟩ (fun hHeld => ?_)
      clear hK K
      refine pure_ (i := 10) (N := some 5) (v := ?_) (a' := ?_) (bs 11 0) rfl rfl (any_of HT_.out (by kernel_rfl)) (fun _ _ _ h => h) (Or.inl ⟨by rfl, ?_⟩) ?_ ?_
      rotate_left
      ·intro w'
       go_simp
       with_reducible rfl
      rotate_left
      ·simp only [sP, i64_w, i32_w]
       rfl
      refine done_ (done_of HT_.out (by kernel_rfl)) ?_
      try go_wp2
      refine bodyPost_ret (results_ct rfl _ _ gb102 58 #[.int .i64 t144, .int .i64 t145, .slice Ao168 t146.length co168] (0, 0) _ rfl (p3 BK102) Try.underlying58 rfl (by kernel_rfl)) rfl ?_
      exact ⟨_, eW, Kd.N_V (by (with_reducible repeat (first | apply Kd.N_alloc | apply Kd.N_drewN | apply Kd.N_drew)); exact Kd.N_mono (nF3 gb102 (Kd.N_mono HO148.out (fun k_ hk => (⟨hk, hk.2.2.1⟩ : _ ∧ k_ ≠ gb102))) (fun _ hk => hk.2)) (fun _ hk => hk.1.1)), pH HB⟩
    ·rw [if_neg c65] at H
     exact absurd H (by simp)
   ·rw [if_neg c63] at H
    exact absurd H (by simp)

end Go.Proofs.Ytcjhhdecckcibaa.G

namespace Go.Proofs.Ytcjhhdecckcibaa.G
open Go.RowKit Go.Proofs.YtcjhhdecckcibaaW.PrintWords Go.Proofs.YtcjhhdecckcibaaW.PrintLast Go.Proofs.YtcjhhdecckcibaaW.PrintMore
attribute [local go_sem] max2_int min2_int max_two min_two max_three min_three max_four min_four   -- for this text's walks alone
set_option linter.unusedVariables false
set_option linter.unusedSimpArgs false

def impl_CombOfTerm.f (k : Nat) (l0 : List (S62)) : Option ((List (S52)) × Bool) := (impl_termOf.f k l0).bind fun bt101 => (if bt101.2.2.2 = true then ((impl_combOfTerm.f k bt101.1 bt101.2.1 bt101.2.2.1 0).bind fun bt108 => (if bt108.2.2.2 = true then ((impl_comb_goodNodes.f k bt108.1 bt108.2.1 bt108.2.2.1).bind fun bt115 => (some (bt115.1, bt115.2))) else (some (([] : List (S52)), false)))) else (some (([] : List (S52)), false)))
set_option maxHeartbeats 8000000 in
set_option maxRecDepth 100000 in
theorem impl_CombOfTerm.calls (k : Nat) (A0 : Option Addr) (c0 : Nat) (l0 : List (S62)) (r1 : List (S52)) (r2 : Bool) (w : World) (hr0 : Kd.C k62 w A0 l0.length l0) (hc0 : l0.length ≤ c0) (h : impl_CombOfTerm.f k l0 = some (r1, r2)) :
  Calls Try.prog 36 #[.slice A0 l0.length c0] w fun e w' => ∃ v0_ : Value, e = .returned (.tuple #[v0_, .bool r2]) ∧ Kd.R k52 52 w' w.heap.size (fun _ => True) v0_ r1 ∧ Below w.heap.size w w' := by
 have hu68 := Try.underlying68
 have hu58 := Try.underlying58
 have HR0 := aK hr0
 have HC0 := aK hc0
 clear hr0 hc0
 have HB := aK (Below.refl w.heap.size w)
 have H : ((impl_termOf.f k l0).bind fun bt101 => (if bt101.2.2.2 = true then ((impl_combOfTerm.f k bt101.1 bt101.2.1 bt101.2.2.1 0).bind fun bt108 => (if bt108.2.2.2 = true then ((impl_comb_goodNodes.f k bt108.1 bt108.2.1 bt108.2.2.1).bind fun bt115 => (some (bt115.1, bt115.2))) else (some (([] : List (S52)), false)))) else (some (([] : List (S52)), false)))) = some (r1, r2) := h
 clear h
 replace H := Option.bind_eq_some_iff.mp H
 obtain ⟨⟨t101, t102, t103, t106⟩, A20, H⟩ := H
 try dsimp only at H
 have A2 := aK A20
 clear A20
 by_cases c3 : t106 = true
 ·subst c3
  rw [if_pos rfl] at H
  replace H := Option.bind_eq_some_iff.mp H
  obtain ⟨⟨t108, t109, t110, t113⟩, A40, H⟩ := H
  try dsimp only at H
  have A4 := aK A40
  clear A40
  by_cases c5 : t113 = true
  ·subst c5
   rw [if_pos rfl] at H
   replace H := Option.bind_eq_some_iff.mp H
   obtain ⟨⟨t115, t118⟩, A60, H⟩ := H
   try dsimp only at H
   have A6 := aK A60
   clear A60
   simp only [Option.some.injEq, Prod.mk.injEq] at H
   obtain ⟨rfl, rfl⟩ := H
   go_enter Try.func36, Try.ntmps36
   go_wp2_with (first | ((with_reducible refine gate_callee (f := 46) rfl ?_); refine goesL_ (some 9) rfl rfl Try.func46 (by kernel_rfl) rfl #[.slice A0 l0.length c0] rfl tA ?_; (with_reducible refine (impl_termOf.calls k _ _ l0 t101 t102 t103 true _ ?side1 ?side2 A2.out).mono ?_); (case side1 => exact sC HR0.out); (case side2 => exact HC0.out); rintro e w7 ⟨v104, rfl, ho0, hb⟩; refine ⟨_, rfl, ?_⟩; have HO105 := aK (Kd.R_lower ho0 (below_size HB.out)); replace HB := qs HB hb; (try clear hb); (try clear ho0)) | ((with_reducible refine gate_dst (N := 4) rfl ?_); refine bE (N := 4) (cs := #[.int .i64 0, .int .i64 0, .slice none 0 0]) (t := 68) ?_; intro gb107 hg w8 hbox hb; have n0_ := aK (Kd.R_below (Kd.R_elderB HO105.out gb107 (Nat.le_of_eq hg.symm)) hb); have GW107 := qw HB hg; have GE107 := qw HB hg; have BK107 := aK hbox; clear HO105; have HO105 := n0_; clear n0_; replace HB := qs HB hb; clear hb hbox hg; have hcz9_0 := k30 BK107; have hcz9_1 := k31 BK107; have hcz9_2 := k32 BK107; have hfz9_0 := fz BK107 0; have hfz9_1 := fz BK107 1; have hfz9_2 := fz BK107 2; obtain ⟨Ao10, co10, eo10⟩ := Kd.R_slice HO105.out; subst eo10) | ((with_reducible refine gate_callee (f := 61) rfl ?_); refine goesL_ (some 16) rfl rfl Try.func61 (by kernel_rfl) rfl #[.agg #[.int .i64 t101, .int .i64 t102, .slice Ao10 t103.length co10], .int .i64 0] rfl tA ?_; (with_reducible refine (impl_combOfTerm.calls k t101 t102 _ _ t103 0 t108 t109 t110 true _ ?side1 ?side2 A4.out).mono ?_); (case side1 => refine (Kd.R_reads' (e := 68) (base := w.heap.size) (ok := fun k_ => (True ∧ k_ ≠ gb107)) (n := t103.length) (c := co10) ?_).2.2; exact (by (with_reducible repeat (first | apply Kd.R_alloc | apply Kd.R_drewN | apply Kd.R_drew)); exact (Kd.R_mono (Kd.R_far (p := ⟨gb107, 2, none⟩) (Kd.R_far (p := ⟨gb107, 1, none⟩) (Kd.R_far (p := ⟨gb107, 0, none⟩) (Kd.R_mono HO105.out (fun k_ hk => (⟨hk, hk.2⟩ : _ ∧ k_ ≠ gb107))) (fun _ hk => hk.2) (.int .i64 t101)) (fun _ hk => hk.2) (.int .i64 t102)) (fun _ hk => hk.2) (.slice Ao10 t103.length co10)) (fun _ h_ => h_.1)))); (case side2 => exact (Kd.R_reads' HO105.out).2.1); rintro e w11 ⟨v111, rfl, ho0, hb⟩; refine ⟨_, rfl, ?_⟩; have n0_ := aK (Kd.R_below (by (with_reducible repeat (first | apply Kd.R_alloc | apply Kd.R_drewN | apply Kd.R_drew)); exact (Kd.R_mono (Kd.R_far (p := ⟨gb107, 2, none⟩) (Kd.R_far (p := ⟨gb107, 1, none⟩) (Kd.R_far (p := ⟨gb107, 0, none⟩) (Kd.R_mono HO105.out (fun k_ hk => (⟨hk, hk.2⟩ : _ ∧ k_ ≠ gb107))) (fun _ hk => hk.2) (.int .i64 t101)) (fun _ hk => hk.2) (.int .i64 t102)) (fun _ hk => hk.2) (.slice Ao10 t103.length co10)) (fun _ h_ => h_.1))) hb); have n1_ := aK (Kd.V_lower (Kd.V_mono (ok' := fun k_ => some k_ ≠ (.slice Ao10 t103.length co10 : Value).ownBlock ∧ k_ ≠ gb107) ho0 (fun k_ hk_ => ⟨(Kd.fresh' (Kd.R_lt (by (with_reducible repeat (first | apply Kd.R_alloc | apply Kd.R_drewN | apply Kd.R_drew)); exact (Kd.R_mono (Kd.R_far (p := ⟨gb107, 2, none⟩) (Kd.R_far (p := ⟨gb107, 1, none⟩) (Kd.R_far (p := ⟨gb107, 0, none⟩) (Kd.R_mono HO105.out (fun k_ hk => (⟨hk, hk.2⟩ : _ ∧ k_ ≠ gb107))) (fun _ hk => hk.2) (.int .i64 t101)) (fun _ hk => hk.2) (.int .i64 t102)) (fun _ hk => hk.2) (.slice Ao10 t103.length co10)) (fun _ h_ => h_.1)))) k_ hk_), (Kd.freshB (g := gb107) (o := .cells #[.int .i64 t101, .int .i64 t102, .slice Ao10 t103.length co10] 68 (0, 0)) (p3 BK107) k_ hk_)⟩)) (below_size (pH HB))); have n2_ := aK (blk_below (g := gb107) (o := .cells #[.int .i64 t101, .int .i64 t102, .slice Ao10 t103.length co10] 68 (0, 0)) (p3 BK107) hb); have n3_ := aK (below_step (pH HB) hb); clear HO105; clear BK107; clear HB; have HO105 := n0_; have HO112 := n1_; have BK107 := n2_; have HB := n3_; clear n0_ n1_ n2_ n3_; (try clear hb); (try clear ho0)) | ((with_reducible refine gate_dst (N := 6) rfl ?_); refine bE (N := 6) (cs := #[.int .i64 0, .int .i64 0, .slice none 0 0]) (t := 58) ?_; intro gb114 hg w12 hbox hb; have n0_ := aK (Kd.R_below HO105.out hb); have GW114 := qw HB hg; have GE114 := qw HB hg; have NB107_114 := ql BK107 hg; have NB114_107 := qg BK107 hg; replace HO112 := qv HO112 hg hb; replace BK107 := qb BK107 hb; have BK114 := aK hbox; clear HO105; have HO105 := n0_; clear n0_; replace HB := qs HB hb; clear hb hbox hg; have hnb13 := NB114_107.out; have hnc13 := NB107_114.out; have hcz14_0 := k30 BK114; have hcz14_1 := k31 BK114; have hcz14_2 := k32 BK114; have hfz14_0 := fz BK114 0; have hfz14_1 := fz BK114 1; have hfz14_2 := fz BK114 2; obtain ⟨Ao15, co15, eo15⟩ := Kd.V_slice HO112.out; subst eo15) | ((with_reducible refine gate_callee (f := 54) rfl ?_); refine goesL_ (some 22) rfl rfl Try.func54 (by kernel_rfl) rfl #[.agg #[.int .i64 t108, .int .i64 t109, .slice Ao15 t110.length co15]] rfl tA ?_; (with_reducible refine (impl_comb_goodNodes.calls k t108 t109 _ _ t110 t115 t118 _ ?side1 ?side2 A6.out).mono ?_); (case side1 => refine (Kd.V_reads' (e := 58) (base := w.heap.size) (ok := fun k_ => ((some k_ ≠ (.slice Ao10 t103.length co10 : Value).ownBlock ∧ k_ ≠ gb107) ∧ k_ ≠ gb114)) (n := t110.length) (c := co15) ?_).2.2; exact (by (with_reducible repeat (first | apply Kd.V_alloc | apply Kd.V_drewN | apply Kd.V_drew)); exact (Kd.V_mono (vF3 gb114 (Kd.V_mono HO112.out (fun k_ hk => (⟨hk, hk.2⟩ : _ ∧ k_ ≠ gb114))) (fun _ hk => hk.2)) (fun _ h_ => h_.1)))); (case side2 => exact (Kd.V_reads' HO112.out).2.1); rintro e w16 ⟨v116, rfl, ho0, hb⟩; refine ⟨_, rfl, ?_⟩; have n0_ := aK (Kd.R_below (by (with_reducible repeat (first | apply Kd.R_alloc | apply Kd.R_drewN | apply Kd.R_drew)); exact (Kd.R_mono (Kd.R_far (p := ⟨gb114, 2, none⟩) (Kd.R_far (p := ⟨gb114, 1, none⟩) (Kd.R_far (p := ⟨gb114, 0, none⟩) (Kd.R_types HO105.out BK114.out (by decide)) (fun _ hk => hk.2) (.int .i64 t108)) (fun _ hk => hk.2) (.int .i64 t109)) (fun _ hk => hk.2) (.slice Ao15 t110.length co15)) (fun _ h_ => h_.1))) hb); have n1_ := aK (Kd.V_elder' (by (with_reducible repeat (first | apply Kd.V_alloc | apply Kd.V_drewN | apply Kd.V_drew)); exact (Kd.V_mono (vF3 gb114 (Kd.V_mono HO112.out (fun k_ hk => (⟨hk, hk.2⟩ : _ ∧ k_ ≠ gb114))) (fun _ hk => hk.2)) (fun _ h_ => h_.1))) (Kd.R_base ho0) hb); have n2_ := aK (Kd.R_lower ho0 (below_size (pH HB))); have n3_ := aK (blk_below (g := gb107) (o := .cells #[.int .i64 t101, .int .i64 t102, .slice Ao10 t103.length co10] 68 (0, 0)) (by (repeat first | with_reducible apply zN | with_reducible apply zD | with_reducible apply zA | refine blk_far ?_ NB107_114.out _); exact BK107.out) hb); have n4_ := aK (blk_below (g := gb114) (o := .cells #[.int .i64 t108, .int .i64 t109, .slice Ao15 t110.length co15] 58 (0, 0)) (p3 BK114) hb); have n5_ := aK (below_step (pH HB) hb); clear HO105; clear HO112; clear BK107; clear BK114; clear HB; have HO105 := n0_; have HO112 := n1_; have HO117 := n2_; have BK107 := n3_; have BK114 := n4_; have HB := n5_; clear n0_ n1_ n2_ n3_ n4_ n5_; (try clear hb); (try clear ho0)))
   go_ret2
   exact ⟨_, eW, by (with_reducible repeat (first | apply Kd.R_alloc | apply Kd.R_drewN | apply Kd.R_drew)); exact HO117.out, pH HB⟩
  ·replace c5 := Bool.eq_false_iff.mpr c5
   subst c5
   rw [if_neg (show ¬ (false = true) by decide)] at H
   simp only [Option.some.injEq, Prod.mk.injEq] at H
   obtain ⟨rfl, rfl⟩ := H
   go_enter Try.func36, Try.ntmps36
   go_wp2_with (first | ((with_reducible refine gate_callee (f := 46) rfl ?_); refine goesL_ (some 9) rfl rfl Try.func46 (by kernel_rfl) rfl #[.slice A0 l0.length c0] rfl tA ?_; (with_reducible refine (impl_termOf.calls k _ _ l0 t101 t102 t103 true _ ?side1 ?side2 A2.out).mono ?_); (case side1 => exact sC HR0.out); (case side2 => exact HC0.out); rintro e w17 ⟨v104, rfl, ho0, hb⟩; refine ⟨_, rfl, ?_⟩; have HO105 := aK (Kd.R_lower ho0 (below_size HB.out)); replace HB := qs HB hb; (try clear hb); (try clear ho0)) | ((with_reducible refine gate_dst (N := 4) rfl ?_); refine bE (N := 4) (cs := #[.int .i64 0, .int .i64 0, .slice none 0 0]) (t := 68) ?_; intro gb107 hg w18 hbox hb; have n0_ := aK (Kd.R_below (Kd.R_elderB HO105.out gb107 (Nat.le_of_eq hg.symm)) hb); have GW107 := qw HB hg; have GE107 := qw HB hg; have BK107 := aK hbox; clear HO105; have HO105 := n0_; clear n0_; replace HB := qs HB hb; clear hb hbox hg; have hcz19_0 := k30 BK107; have hcz19_1 := k31 BK107; have hcz19_2 := k32 BK107; have hfz19_0 := fz BK107 0; have hfz19_1 := fz BK107 1; have hfz19_2 := fz BK107 2; obtain ⟨Ao20, co20, eo20⟩ := Kd.R_slice HO105.out; subst eo20) | ((with_reducible refine gate_callee (f := 61) rfl ?_); refine goesL_ (some 16) rfl rfl Try.func61 (by kernel_rfl) rfl #[.agg #[.int .i64 t101, .int .i64 t102, .slice Ao20 t103.length co20], .int .i64 0] rfl tA ?_; (with_reducible refine (impl_combOfTerm.calls k t101 t102 _ _ t103 0 t108 t109 t110 false _ ?side1 ?side2 A4.out).mono ?_); (case side1 => refine (Kd.R_reads' (e := 68) (base := w.heap.size) (ok := fun k_ => (True ∧ k_ ≠ gb107)) (n := t103.length) (c := co20) ?_).2.2; exact (by (with_reducible repeat (first | apply Kd.R_alloc | apply Kd.R_drewN | apply Kd.R_drew)); exact (Kd.R_mono (Kd.R_far (p := ⟨gb107, 2, none⟩) (Kd.R_far (p := ⟨gb107, 1, none⟩) (Kd.R_far (p := ⟨gb107, 0, none⟩) (Kd.R_mono HO105.out (fun k_ hk => (⟨hk, hk.2⟩ : _ ∧ k_ ≠ gb107))) (fun _ hk => hk.2) (.int .i64 t101)) (fun _ hk => hk.2) (.int .i64 t102)) (fun _ hk => hk.2) (.slice Ao20 t103.length co20)) (fun _ h_ => h_.1)))); (case side2 => exact (Kd.R_reads' HO105.out).2.1); rintro e w21 ⟨v111, rfl, ho0, hb⟩; refine ⟨_, rfl, ?_⟩; have n0_ := aK (Kd.R_below (by (with_reducible repeat (first | apply Kd.R_alloc | apply Kd.R_drewN | apply Kd.R_drew)); exact (Kd.R_mono (Kd.R_far (p := ⟨gb107, 2, none⟩) (Kd.R_far (p := ⟨gb107, 1, none⟩) (Kd.R_far (p := ⟨gb107, 0, none⟩) (Kd.R_mono HO105.out (fun k_ hk => (⟨hk, hk.2⟩ : _ ∧ k_ ≠ gb107))) (fun _ hk => hk.2) (.int .i64 t101)) (fun _ hk => hk.2) (.int .i64 t102)) (fun _ hk => hk.2) (.slice Ao20 t103.length co20)) (fun _ h_ => h_.1))) hb); have n1_ := aK (Kd.V_lower (Kd.V_mono (ok' := fun k_ => some k_ ≠ (.slice Ao20 t103.length co20 : Value).ownBlock ∧ k_ ≠ gb107) ho0 (fun k_ hk_ => ⟨(Kd.fresh' (Kd.R_lt (by (with_reducible repeat (first | apply Kd.R_alloc | apply Kd.R_drewN | apply Kd.R_drew)); exact (Kd.R_mono (Kd.R_far (p := ⟨gb107, 2, none⟩) (Kd.R_far (p := ⟨gb107, 1, none⟩) (Kd.R_far (p := ⟨gb107, 0, none⟩) (Kd.R_mono HO105.out (fun k_ hk => (⟨hk, hk.2⟩ : _ ∧ k_ ≠ gb107))) (fun _ hk => hk.2) (.int .i64 t101)) (fun _ hk => hk.2) (.int .i64 t102)) (fun _ hk => hk.2) (.slice Ao20 t103.length co20)) (fun _ h_ => h_.1)))) k_ hk_), (Kd.freshB (g := gb107) (o := .cells #[.int .i64 t101, .int .i64 t102, .slice Ao20 t103.length co20] 68 (0, 0)) (p3 BK107) k_ hk_)⟩)) (below_size (pH HB))); have n2_ := aK (blk_below (g := gb107) (o := .cells #[.int .i64 t101, .int .i64 t102, .slice Ao20 t103.length co20] 68 (0, 0)) (p3 BK107) hb); have n3_ := aK (below_step (pH HB) hb); clear HO105; clear BK107; clear HB; have HO105 := n0_; have HO112 := n1_; have BK107 := n2_; have HB := n3_; clear n0_ n1_ n2_ n3_; (try clear hb); (try clear ho0)) | ((with_reducible refine gate_dst (N := 6) rfl ?_); refine bE (N := 6) (cs := #[.int .i64 0, .int .i64 0, .slice none 0 0]) (t := 58) ?_; intro gb114 hg w22 hbox hb; have n0_ := aK (Kd.R_below HO105.out hb); have GW114 := qw HB hg; have GE114 := qw HB hg; have NB107_114 := ql BK107 hg; have NB114_107 := qg BK107 hg; replace HO112 := qv HO112 hg hb; replace BK107 := qb BK107 hb; have BK114 := aK hbox; clear HO105; have HO105 := n0_; clear n0_; replace HB := qs HB hb; clear hb hbox hg; have hnb23 := NB114_107.out; have hnc23 := NB107_114.out; have hcz24_0 := k30 BK114; have hcz24_1 := k31 BK114; have hcz24_2 := k32 BK114; have hfz24_0 := fz BK114 0; have hfz24_1 := fz BK114 1; have hfz24_2 := fz BK114 2; obtain ⟨Ao25, co25, eo25⟩ := Kd.V_slice HO112.out; subst eo25))
   go_ret2
   exact ⟨_, eW, by first | exact Kd.R_nil _ _ _ _ _ | exact Kd.N_nil _ _ _ _ _ | exact Kd.V_nil _ _ _ _ _ | exact Kd.Q_nil _ _ _ _ _ | exact Kd.S_nil _ _ _ _ _, pH HB⟩
 ·replace c3 := Bool.eq_false_iff.mpr c3
  subst c3
  rw [if_neg (show ¬ (false = true) by decide)] at H
  simp only [Option.some.injEq, Prod.mk.injEq] at H
  obtain ⟨rfl, rfl⟩ := H
  go_enter Try.func36, Try.ntmps36
  go_wp2_with (first | ((with_reducible refine gate_callee (f := 46) rfl ?_); refine goesL_ (some 9) rfl rfl Try.func46 (by kernel_rfl) rfl #[.slice A0 l0.length c0] rfl tA ?_; (with_reducible refine (impl_termOf.calls k _ _ l0 t101 t102 t103 false _ ?side1 ?side2 A2.out).mono ?_); (case side1 => exact sC HR0.out); (case side2 => exact HC0.out); rintro e w26 ⟨v104, rfl, ho0, hb⟩; refine ⟨_, rfl, ?_⟩; have HO105 := aK (Kd.R_lower ho0 (below_size HB.out)); replace HB := qs HB hb; (try clear hb); (try clear ho0)) | ((with_reducible refine gate_dst (N := 4) rfl ?_); refine bE (N := 4) (cs := #[.int .i64 0, .int .i64 0, .slice none 0 0]) (t := 68) ?_; intro gb107 hg w27 hbox hb; have n0_ := aK (Kd.R_below (Kd.R_elderB HO105.out gb107 (Nat.le_of_eq hg.symm)) hb); have GW107 := qw HB hg; have GE107 := qw HB hg; have BK107 := aK hbox; clear HO105; have HO105 := n0_; clear n0_; replace HB := qs HB hb; clear hb hbox hg; have hcz28_0 := k30 BK107; have hcz28_1 := k31 BK107; have hcz28_2 := k32 BK107; have hfz28_0 := fz BK107 0; have hfz28_1 := fz BK107 1; have hfz28_2 := fz BK107 2; obtain ⟨Ao29, co29, eo29⟩ := Kd.R_slice HO105.out; subst eo29))
  go_ret2
  exact ⟨_, eW, by first | exact Kd.R_nil _ _ _ _ _ | exact Kd.N_nil _ _ _ _ _ | exact Kd.V_nil _ _ _ _ _ | exact Kd.Q_nil _ _ _ _ _ | exact Kd.S_nil _ _ _ _ _, pH HB⟩

end Go.Proofs.Ytcjhhdecckcibaa.G

namespace Go.Proofs.Ytcjhhdecckcibaa.G
open Go.RowKit Go.Proofs.YtcjhhdecckcibaaW.PrintWords Go.Proofs.YtcjhhdecckcibaaW.PrintLast Go.Proofs.YtcjhhdecckcibaaW.PrintMore
attribute [local go_sem] max2_int min2_int max_two min_two max_three min_three max_four min_four   -- for this text's walks alone
set_option linter.unusedVariables false
set_option linter.unusedSimpArgs false

mutual
def laws_FnExactCombOfTerm.j0 : Nat → List (S65) → List (S52) → Bool → List (S62) → List (S52) → Bool → Bool → Option (Bool)
  | 0, _, _, _, _, _, _, _ => none
  | k + 1, x0, x4, x5, x6, x7, x8, x40 => if x40 = true then (some false) else ((laws_toTermS.f k x0).bind fun t117 => ((laws_eqTermS.f k x6 t117).bind fun t120 => (if t120 = true then ((laws_markTermS.f k x6 1).bind fun bt121 => (if bt121.1 < 0 then (laws_FnExactCombOfTerm.j1 k x0 x4 x5 x7 true) else ((laws_eqCombS.f k x7 x4).bind fun t123 => (if t123 = true then (laws_FnExactCombOfTerm.j1 k x0 x4 x5 x7 (x8 != x5)) else (laws_FnExactCombOfTerm.j1 k x0 x4 x5 x7 true))))) else (some false))))
def laws_FnExactCombOfTerm.j1 : Nat → List (S65) → List (S52) → Bool → List (S52) → Bool → Option (Bool)
  | 0, _, _, _, _, _ => none
  | k + 1, x0, x4, x5, x7, x61 => if x61 = true then (some false) else ((laws_markCombS.f k x7 1).bind fun bt124 => ((laws_heldCombS.f k bt124.2 1).bind fun t126 => (if t126 < 0 then (some false) else (if t126 = bt124.1 then ((laws_toTermS.f k x0).bind fun t127 => ((impl_CombOfTerm.f k t127).bind fun bt130 => ((laws_eqCombS.f k bt130.1 x4).bind fun t134 => (if t134 = true then (laws_FnExactCombOfTerm.j2 k bt124.2 bt124.1 (bt130.2 != x5)) else (laws_FnExactCombOfTerm.j2 k bt124.2 bt124.1 true))))) else (some false)))))
def laws_FnExactCombOfTerm.j2 : Nat → List (S52) → Int → Bool → Option (Bool)
  | 0, _, _, _ => none
  | k + 1, x7, x10, x87 => if x87 = true then (some false) else ((laws_heldCombS.f k x7 1).bind fun t135 => (if t135 < 0 then (some false) else (if t135 = x10 then (some true) else (some false))))
end
def laws_FnExactCombOfTerm.f (k : Nat) (l0 : List (S65)) : Option (Bool) := (laws_szTermS.f l0 1048576).bind fun t101 => (if t101 < 0 then (some true) else ((laws_toTermS.f k l0).bind fun t102 => ((spec_CombOfTerm.f k t102).bind fun bt105 => ((laws_toTermS.f k l0).bind fun t109 => ((impl_CombOfTerm.f k t109).bind fun bt112 => ((laws_eqCombS.f k bt112.1 bt105.1).bind fun t116 => (if t116 = true then (laws_FnExactCombOfTerm.j0 k l0 bt105.1 bt105.2 t109 bt112.1 bt112.2 (bt112.2 != bt105.2)) else (laws_FnExactCombOfTerm.j0 k l0 bt105.1 bt105.2 t109 bt112.1 bt112.2 true))))))))
set_option maxHeartbeats 8000000 in
set_option maxRecDepth 100000 in
theorem laws_FnExactCombOfTerm.calls (k : Nat) (A0 : Option Addr) (c0 : Nat) (l0 : List (S65)) (r : Bool) (w : World) (hr0 : Kd.C k65 w A0 l0.length l0) (hc0 : l0.length ≤ c0) (h : laws_FnExactCombOfTerm.f k l0 = some r) :
    Calls Try.prog 9 #[.slice A0 l0.length c0] w fun e w' => e = .returned (.bool r) ∧ Below w.heap.size w w' := by
  have HR0 := Aside0.mk hr0
  have HC0 := Aside0.mk hc0
  clear hr0 hc0
  have HB := Aside0.mk (Below.refl w.heap.size w)
  have H : ((laws_szTermS.f l0 1048576).bind fun t101 => (if t101 < 0 then (some true) else ((laws_toTermS.f k l0).bind fun t102 => ((spec_CombOfTerm.f k t102).bind fun bt105 => ((laws_toTermS.f k l0).bind fun t109 => ((impl_CombOfTerm.f k t109).bind fun bt112 => ((laws_eqCombS.f k bt112.1 bt105.1).bind fun t116 => (if t116 = true then (laws_FnExactCombOfTerm.j0 k l0 bt105.1 bt105.2 t109 bt112.1 bt112.2 (bt112.2 != bt105.2)) else (laws_FnExactCombOfTerm.j0 k l0 bt105.1 bt105.2 t109 bt112.1 bt112.2 true))))))))) = some r := h
  clear h
  replace H := Option.bind_eq_some_iff.mp H
  obtain ⟨t101, A20, H⟩ := H
  replace H : (if t101 < 0 then (some true) else ((laws_toTermS.f k l0).bind fun t102 => ((spec_CombOfTerm.f k t102).bind fun bt105 => ((laws_toTermS.f k l0).bind fun t109 => ((impl_CombOfTerm.f k t109).bind fun bt112 => ((laws_eqCombS.f k bt112.1 bt105.1).bind fun t116 => (if t116 = true then (laws_FnExactCombOfTerm.j0 k l0 bt105.1 bt105.2 t109 bt112.1 bt112.2 (bt112.2 != bt105.2)) else (laws_FnExactCombOfTerm.j0 k l0 bt105.1 bt105.2 t109 bt112.1 bt112.2 true)))))))) = some r := H
  have A2 := Aside0.mk A20
  clear A20
  by_cases c3 : t101 < 0
  · rw [if_pos c3] at H
    have c3b0 : decide (t101 < 0) = true := decide_eq_true c3
    clear c3
    obtain rfl := Option.some.inj H
    go_enter Try.func9, Try.ntmps9
    go_wp2_with (first | ((with_reducible refine gate_callee (f := 16) rfl ?_); refine goesL_ (some 16) rfl rfl Try.func16 (by kernel_rfl) rfl #[.slice A0 l0.length c0, .int .i64 1048576] rfl (by (try simp only [List.map_toArray, List.map_cons, List.map_nil]); first | done | rfl | (simp only [List.length_drop, List.length_take]; rfl)) ?_; (with_reducible refine (laws_szTermS.calls _ _ l0 1048576 t101 _ ?side1 ?side2 A2.out).mono ?_); (case side1 => repeat (first | exact HR0.out | (with_reducible refine Kd.C_alloc ?_ _) | (with_reducible refine Kd.C_drewN ?_ _) | (with_reducible refine Kd.C_drew ?_))); (case side2 => exact HC0.out); rintro e w' ⟨rfl, ⟨nd, rfl⟩⟩; refine ⟨_, rfl, ?_⟩))
    go_ret
    exact ⟨by first | rfl | (simp [errW_none, errW_some] <;> rfl) | (simp [*, errW_none, errW_some] <;> rfl), by repeat (first | (with_reducible first | exact HB.out | apply below_alloc | apply pw_below_drewN | apply below_drew1) | exact HB.out)⟩
  · rw [if_neg c3] at H
    have c3b0 : decide (t101 < 0) = false := decide_eq_false c3
    clear c3
    replace H := Option.bind_eq_some_iff.mp H
    obtain ⟨t102, A40, H⟩ := H
    replace H : ((spec_CombOfTerm.f k t102).bind fun bt105 => ((laws_toTermS.f k l0).bind fun t109 => ((impl_CombOfTerm.f k t109).bind fun bt112 => ((laws_eqCombS.f k bt112.1 bt105.1).bind fun t116 => (if t116 = true then (laws_FnExactCombOfTerm.j0 k l0 bt105.1 bt105.2 t109 bt112.1 bt112.2 (bt112.2 != bt105.2)) else (laws_FnExactCombOfTerm.j0 k l0 bt105.1 bt105.2 t109 bt112.1 bt112.2 true)))))) = some r := H
    have A4 := Aside0.mk A40
    clear A40
    replace H := Option.bind_eq_some_iff.mp H
    obtain ⟨⟨t105, t106⟩, A50, H⟩ := H
    replace H : ((laws_toTermS.f k l0).bind fun t109 => ((impl_CombOfTerm.f k t109).bind fun bt112 => ((laws_eqCombS.f k bt112.1 t105).bind fun t116 => (if t116 = true then (laws_FnExactCombOfTerm.j0 k l0 t105 t106 t109 bt112.1 bt112.2 (bt112.2 != t106)) else (laws_FnExactCombOfTerm.j0 k l0 t105 t106 t109 bt112.1 bt112.2 true))))) = some r := H
    have A5 := Aside0.mk A50
    clear A50
    replace H := Option.bind_eq_some_iff.mp H
    obtain ⟨t109, A60, H⟩ := H
    replace H : ((impl_CombOfTerm.f k t109).bind fun bt112 => ((laws_eqCombS.f k bt112.1 t105).bind fun t116 => (if t116 = true then (laws_FnExactCombOfTerm.j0 k l0 t105 t106 t109 bt112.1 bt112.2 (bt112.2 != t106)) else (laws_FnExactCombOfTerm.j0 k l0 t105 t106 t109 bt112.1 bt112.2 true)))) = some r := H
    have A6 := Aside0.mk A60
    clear A60
    replace H := Option.bind_eq_some_iff.mp H
    obtain ⟨⟨t112, t113⟩, A70, H⟩ := H
    replace H : ((laws_eqCombS.f k t112 t105).bind fun t116 => (if t116 = true then (laws_FnExactCombOfTerm.j0 k l0 t105 t106 t109 t112 t113 (t113 != t106)) else (laws_FnExactCombOfTerm.j0 k l0 t105 t106 t109 t112 t113 true))) = some r := H
    have A7 := Aside0.mk A70
    clear A70
    have HC8 := Aside0.mk H
    clear H
    go_enter Try.func9, Try.ntmps9
    go_upto_region 8 with (first | ((with_reducible refine gate_callee (f := 16) rfl ?_); refine goesL_ (some 16) rfl rfl Try.func16 (by kernel_rfl) rfl #[.slice A0 l0.length c0, .int .i64 1048576] rfl (by (try simp only [List.map_toArray, List.map_cons, List.map_nil]); first | done | rfl | (simp only [List.length_drop, List.length_take]; rfl)) ?_; (with_reducible refine (laws_szTermS.calls _ _ l0 1048576 t101 _ ?side1 ?side2 A2.out).mono ?_); (case side1 => repeat (first | exact HR0.out | (with_reducible refine Kd.C_alloc ?_ _) | (with_reducible refine Kd.C_drewN ?_ _) | (with_reducible refine Kd.C_drew ?_))); (case side2 => exact HC0.out); rintro e w' ⟨rfl, ⟨nd, rfl⟩⟩; refine ⟨_, rfl, ?_⟩) | ((with_reducible refine gate_callee (f := 18) rfl ?_); refine goesL_ (some 21) rfl rfl Try.func18 (by kernel_rfl) rfl #[.slice A0 l0.length c0] rfl (by (try simp only [List.map_toArray, List.map_cons, List.map_nil]); first | done | rfl | (simp only [List.length_drop, List.length_take]; rfl)) ?_; (with_reducible refine (laws_toTermS.calls k _ _ l0 t102 _ ?side1 ?side2 A4.out).mono ?_); (case side1 => repeat (first | exact HR0.out | (with_reducible refine Kd.C_alloc ?_ _) | (with_reducible refine Kd.C_drewN ?_ _) | (with_reducible refine Kd.C_drew ?_))); (case side2 => exact HC0.out); rintro e w9 ⟨v103, rfl, ho0, hb⟩; refine ⟨_, rfl, ?_⟩; have n0_ := Aside0.mk (Kd.R_lower ho0 (below_size (by repeat (first | (with_reducible first | exact HB.out | apply below_alloc | apply pw_below_drewN | apply below_drew1) | exact HB.out)))); have n1_ := Aside0.mk (below_step (by repeat (first | (with_reducible first | exact HB.out | apply below_alloc | apply pw_below_drewN | apply below_drew1) | exact HB.out)) hb); clear HB; have HO104 := n0_; have HB := n1_; clear n0_ n1_; (try clear hb); (try clear hb2); (try clear hk); (try clear hi); (try clear ho0); obtain ⟨Ao10, co10, eo10⟩ := Kd.R_slice HO104.out; subst eo10) | ((with_reducible refine gate_callee (f := 35) rfl ?_); refine goesL_ (some 22) rfl rfl Try.func35 (by kernel_rfl) rfl #[.slice Ao10 t102.length co10] rfl (by (try simp only [List.map_toArray, List.map_cons, List.map_nil]); first | done | rfl | (simp only [List.length_drop, List.length_take]; rfl)) ?_; (with_reducible refine (spec_CombOfTerm.calls k _ _ t102 t105 t106 _ ?side1 ?side2 A5.out).mono ?_); (case side1 => repeat (first | exact (Kd.R_reads' HO104.out).2.2 | (with_reducible refine Kd.C_alloc ?_ _) | (with_reducible refine Kd.C_drewN ?_ _) | (with_reducible refine Kd.C_drew ?_))); (case side2 => exact (Kd.R_reads' HO104.out).2.1); rintro e w11 ⟨v107, rfl, ho0, hb⟩; refine ⟨_, rfl, ?_⟩; have n0_ := Aside0.mk (Kd.R_below (by (with_reducible repeat (first | apply Kd.R_alloc | apply Kd.R_drewN | apply Kd.R_drew)); exact HO104.out) hb); have n1_ := Aside0.mk (Kd.R_lower ho0 (below_size (by repeat (first | (with_reducible first | exact HB.out | apply below_alloc | apply pw_below_drewN | apply below_drew1) | exact HB.out)))); have n2_ := Aside0.mk (below_step (by repeat (first | (with_reducible first | exact HB.out | apply below_alloc | apply pw_below_drewN | apply below_drew1) | exact HB.out)) hb); clear HO104; clear HB; have HO104 := n0_; have HO108 := n1_; have HB := n2_; clear n0_ n1_ n2_; (try clear hb); (try clear hb2); (try clear hk); (try clear hi); (try clear ho0)) | ((with_reducible refine gate_callee (f := 18) rfl ?_); refine goesL_ (some 26) rfl rfl Try.func18 (by kernel_rfl) rfl #[.slice A0 l0.length c0] rfl (by (try simp only [List.map_toArray, List.map_cons, List.map_nil]); first | done | rfl | (simp only [List.length_drop, List.length_take]; rfl)) ?_; (with_reducible refine (laws_toTermS.calls k _ _ l0 t109 _ ?side1 ?side2 A6.out).mono ?_); (case side1 => repeat (first | exact (Kd.C_below HR0.out HB.out) | (with_reducible refine Kd.C_alloc ?_ _) | (with_reducible refine Kd.C_drewN ?_ _) | (with_reducible refine Kd.C_drew ?_))); (case side2 => exact HC0.out); rintro e w12 ⟨v110, rfl, ho0, hb⟩; refine ⟨_, rfl, ?_⟩; have n0_ := Aside0.mk (Kd.R_elder' (by (with_reducible repeat (first | apply Kd.R_alloc | apply Kd.R_drewN | apply Kd.R_drew)); exact HO104.out) (Kd.R_base ho0) hb); have n1_ := Aside0.mk (Kd.R_below (by (with_reducible repeat (first | apply Kd.R_alloc | apply Kd.R_drewN | apply Kd.R_drew)); exact HO108.out) hb); have n2_ := Aside0.mk (Kd.R_lower (Kd.R_new' ho0 (Kd.R_lt (by (with_reducible repeat (first | apply Kd.R_alloc | apply Kd.R_drewN | apply Kd.R_drew)); exact HO104.out))) (below_size (by repeat (first | (with_reducible first | exact HB.out | apply below_alloc | apply pw_below_drewN | apply below_drew1) | exact HB.out)))); have n3_ := Aside0.mk (below_step (by repeat (first | (with_reducible first | exact HB.out | apply below_alloc | apply pw_below_drewN | apply below_drew1) | exact HB.out)) hb); clear HO104; clear HO108; clear HB; have HO104 := n0_; have HO108 := n1_; have HO111 := n2_; have HB := n3_; clear n0_ n1_ n2_ n3_; (try clear hb); (try clear hb2); (try clear hk); (try clear hi); (try clear ho0); obtain ⟨Ao13, co13, eo13⟩ := Kd.R_slice HO111.out; subst eo13) | ((with_reducible refine gate_callee (f := 36) rfl ?_); refine goesL_ (some 29) rfl rfl Try.func36 (by kernel_rfl) rfl #[.slice Ao13 t109.length co13] rfl (by (try simp only [List.map_toArray, List.map_cons, List.map_nil]); first | done | rfl | (simp only [List.length_drop, List.length_take]; rfl)) ?_; (with_reducible refine (impl_CombOfTerm.calls k _ _ t109 t112 t113 _ ?side1 ?side2 A7.out).mono ?_); (case side1 => repeat (first | exact (Kd.R_reads' HO111.out).2.2 | (with_reducible refine Kd.C_alloc ?_ _) | (with_reducible refine Kd.C_drewN ?_ _) | (with_reducible refine Kd.C_drew ?_))); (case side2 => exact (Kd.R_reads' HO111.out).2.1); rintro e w14 ⟨v114, rfl, ho0, hb⟩; refine ⟨_, rfl, ?_⟩; have n0_ := Aside0.mk (Kd.R_below (by (with_reducible repeat (first | apply Kd.R_alloc | apply Kd.R_drewN | apply Kd.R_drew)); exact HO104.out) hb); have n1_ := Aside0.mk (Kd.R_elder' (by (with_reducible repeat (first | apply Kd.R_alloc | apply Kd.R_drewN | apply Kd.R_drew)); exact HO108.out) (Kd.R_base ho0) hb); have n2_ := Aside0.mk (Kd.R_below (by (with_reducible repeat (first | apply Kd.R_alloc | apply Kd.R_drewN | apply Kd.R_drew)); exact HO111.out) hb); have n3_ := Aside0.mk (Kd.R_lower (Kd.R_new' ho0 (Kd.R_lt (by (with_reducible repeat (first | apply Kd.R_alloc | apply Kd.R_drewN | apply Kd.R_drew)); exact HO108.out))) (below_size (by repeat (first | (with_reducible first | exact HB.out | apply below_alloc | apply pw_below_drewN | apply below_drew1) | exact HB.out)))); have n4_ := Aside0.mk (below_step (by repeat (first | (with_reducible first | exact HB.out | apply below_alloc | apply pw_below_drewN | apply below_drew1) | exact HB.out)) hb); clear HO104; clear HO108; clear HO111; clear HB; have HO104 := n0_; have HO108 := n1_; have HO111 := n2_; have HO115 := n3_; have HB := n4_; clear n0_ n1_ n2_ n3_ n4_; (try clear hb); (try clear hb2); (try clear hk); (try clear hi); (try clear ho0)))
    (try simp only [Act.put, List.setIfInBounds_toArray, List.set_cons_zero, List.set_cons_succ])
    go_cut [40] (fun v40 wc => ∃ (kq : Nat) (x40_7 : Bool), v40 = .bool x40_7 ∧ Aside0 (laws_FnExactCombOfTerm.j0 kq l0 t105 t106 t109 t112 t113 x40_7 = some r) ∧ Aside0 (kq ≤ k) ∧ Aside0 (Kd.R k52 52 wc w.heap.size (fun k_ => some k_ ≠ (v114 : Value).ownBlock) v107 t105) ∧ Aside0 (Kd.R k62 62 wc w.heap.size (fun _ => True) (.slice Ao13 t109.length co13) t109) ∧ Aside0 (Kd.R k52 52 wc w.heap.size (fun k_ => some k_ ≠ (v107 : Value).ownBlock) v114 t112) ∧ Aside0 (Below w.heap.size w wc))
    case first =>
      have H := HC8.out
      clear HC8
      replace H := Option.bind_eq_some_iff.mp H
      obtain ⟨t116, A150, H⟩ := H
      replace H : (if t116 = true then (laws_FnExactCombOfTerm.j0 k l0 t105 t106 t109 t112 t113 (t113 != t106)) else (laws_FnExactCombOfTerm.j0 k l0 t105 t106 t109 t112 t113 true)) = some r := H
      have A15 := Aside0.mk A150
      clear A150
      by_cases c16 : t116 = true
      · subst c16
        have H1 : (laws_FnExactCombOfTerm.j0 k l0 t105 t106 t109 t112 t113 (t113 != t106)) = some r := by rw [if_pos rfl] at H; exact H
        clear H
        have H := H1
        clear H1
        have H' := Aside0.mk H
        clear H
        obtain ⟨Ao17, co17, eo17⟩ := Kd.R_slice HO115.out
        subst eo17
        obtain ⟨Ao18, co18, eo18⟩ := Kd.R_slice HO108.out
        subst eo18
        go_wp2_with (first | ((with_reducible refine gate_callee (f := 15) rfl ?_); refine goesL_ (some 34) rfl rfl Try.func15 (by kernel_rfl) rfl #[.slice Ao17 t112.length co17, .slice Ao18 t105.length co18] rfl (by (try simp only [List.map_toArray, List.map_cons, List.map_nil]); first | done | rfl | (simp only [List.length_drop, List.length_take]; rfl)) ?_; (with_reducible refine (laws_eqCombS.calls k _ _ t112 _ _ t105 true _ ?side1 ?side2 ?side3 ?side4 A15.out).mono ?_); (case side1 => repeat (first | exact (Kd.R_reads' HO115.out).2.2 | (with_reducible refine Kd.C_alloc ?_ _) | (with_reducible refine Kd.C_drewN ?_ _) | (with_reducible refine Kd.C_drew ?_))); (case side2 => exact (Kd.R_reads' HO115.out).2.1); (case side3 => repeat (first | exact (Kd.R_reads' HO108.out).2.2 | (with_reducible refine Kd.C_alloc ?_ _) | (with_reducible refine Kd.C_drewN ?_ _) | (with_reducible refine Kd.C_drew ?_))); (case side4 => exact (Kd.R_reads' HO108.out).2.1); rintro e w19 ⟨rfl, hb⟩; refine ⟨_, rfl, ?_⟩; have n0_ := Aside0.mk (Kd.R_below (by (with_reducible repeat (first | apply Kd.R_alloc | apply Kd.R_drewN | apply Kd.R_drew)); exact HO104.out) hb); have n1_ := Aside0.mk (Kd.R_below (by (with_reducible repeat (first | apply Kd.R_alloc | apply Kd.R_drewN | apply Kd.R_drew)); exact HO108.out) hb); have n2_ := Aside0.mk (Kd.R_below (by (with_reducible repeat (first | apply Kd.R_alloc | apply Kd.R_drewN | apply Kd.R_drew)); exact HO111.out) hb); have n3_ := Aside0.mk (Kd.R_below (by (with_reducible repeat (first | apply Kd.R_alloc | apply Kd.R_drewN | apply Kd.R_drew)); exact HO115.out) hb); have n4_ := Aside0.mk (below_step (by repeat (first | (with_reducible first | exact HB.out | apply below_alloc | apply pw_below_drewN | apply below_drew1) | exact HB.out)) hb); clear HO104; clear HO108; clear HO111; clear HO115; clear HB; have HO104 := n0_; have HO108 := n1_; have HO111 := n2_; have HO115 := n3_; have HB := n4_; clear n0_ n1_ n2_ n3_ n4_; (try clear hb); (try clear hb2); (try clear hk); (try clear hi)))
        go_meet
        case rel => exact ⟨_, ((t113 != t106)), (by first | rfl | (simp; done) | (simp [*]; done)), H', ⟨by first | omega | exact Nat.le_refl _⟩, ⟨by (with_reducible repeat (first | apply Kd.R_alloc | apply Kd.R_drewN | apply Kd.R_drew)); exact Kd.R_mono HO108.out (fun _ hk => hk.2)⟩, ⟨by (with_reducible repeat (first | apply Kd.R_alloc | apply Kd.R_drewN | apply Kd.R_drew)); exact Kd.R_mono HO111.out (fun _ hk => trivial)⟩, ⟨by (with_reducible repeat (first | apply Kd.R_alloc | apply Kd.R_drewN | apply Kd.R_drew)); exact Kd.R_mono HO115.out (fun _ hk => hk.2)⟩, ⟨by repeat (first | (with_reducible first | exact HB.out | apply below_alloc | apply pw_below_drewN | apply below_drew1) | exact HB.out)⟩⟩
      · replace c16 := Bool.eq_false_iff.mpr c16
        subst c16
        have H1 : (laws_FnExactCombOfTerm.j0 k l0 t105 t106 t109 t112 t113 true) = some r := by rw [if_neg (show ¬ (false = true) by decide)] at H; exact H
        clear H
        have H := H1
        clear H1
        have H' := Aside0.mk H
        clear H
        obtain ⟨Ao20, co20, eo20⟩ := Kd.R_slice HO115.out
        subst eo20
        obtain ⟨Ao21, co21, eo21⟩ := Kd.R_slice HO108.out
        subst eo21
        go_wp2_with (first | ((with_reducible refine gate_callee (f := 15) rfl ?_); refine goesL_ (some 34) rfl rfl Try.func15 (by kernel_rfl) rfl #[.slice Ao20 t112.length co20, .slice Ao21 t105.length co21] rfl (by (try simp only [List.map_toArray, List.map_cons, List.map_nil]); first | done | rfl | (simp only [List.length_drop, List.length_take]; rfl)) ?_; (with_reducible refine (laws_eqCombS.calls k _ _ t112 _ _ t105 false _ ?side1 ?side2 ?side3 ?side4 A15.out).mono ?_); (case side1 => repeat (first | exact (Kd.R_reads' HO115.out).2.2 | (with_reducible refine Kd.C_alloc ?_ _) | (with_reducible refine Kd.C_drewN ?_ _) | (with_reducible refine Kd.C_drew ?_))); (case side2 => exact (Kd.R_reads' HO115.out).2.1); (case side3 => repeat (first | exact (Kd.R_reads' HO108.out).2.2 | (with_reducible refine Kd.C_alloc ?_ _) | (with_reducible refine Kd.C_drewN ?_ _) | (with_reducible refine Kd.C_drew ?_))); (case side4 => exact (Kd.R_reads' HO108.out).2.1); rintro e w22 ⟨rfl, hb⟩; refine ⟨_, rfl, ?_⟩; have n0_ := Aside0.mk (Kd.R_below (by (with_reducible repeat (first | apply Kd.R_alloc | apply Kd.R_drewN | apply Kd.R_drew)); exact HO104.out) hb); have n1_ := Aside0.mk (Kd.R_below (by (with_reducible repeat (first | apply Kd.R_alloc | apply Kd.R_drewN | apply Kd.R_drew)); exact HO108.out) hb); have n2_ := Aside0.mk (Kd.R_below (by (with_reducible repeat (first | apply Kd.R_alloc | apply Kd.R_drewN | apply Kd.R_drew)); exact HO111.out) hb); have n3_ := Aside0.mk (Kd.R_below (by (with_reducible repeat (first | apply Kd.R_alloc | apply Kd.R_drewN | apply Kd.R_drew)); exact HO115.out) hb); have n4_ := Aside0.mk (below_step (by repeat (first | (with_reducible first | exact HB.out | apply below_alloc | apply pw_below_drewN | apply below_drew1) | exact HB.out)) hb); clear HO104; clear HO108; clear HO111; clear HO115; clear HB; have HO104 := n0_; have HO108 := n1_; have HO111 := n2_; have HO115 := n3_; have HB := n4_; clear n0_ n1_ n2_ n3_ n4_; (try clear hb); (try clear hb2); (try clear hk); (try clear hi)))
        go_meet
        case rel => exact ⟨_, (true), (by first | rfl | (simp; done) | (simp [*]; done)), H', ⟨by first | omega | exact Nat.le_refl _⟩, ⟨by (with_reducible repeat (first | apply Kd.R_alloc | apply Kd.R_drewN | apply Kd.R_drew)); exact Kd.R_mono HO108.out (fun _ hk => hk.2)⟩, ⟨by (with_reducible repeat (first | apply Kd.R_alloc | apply Kd.R_drewN | apply Kd.R_drew)); exact Kd.R_mono HO111.out (fun _ hk => trivial)⟩, ⟨by (with_reducible repeat (first | apply Kd.R_alloc | apply Kd.R_drewN | apply Kd.R_drew)); exact Kd.R_mono HO115.out (fun _ hk => hk.2)⟩, ⟨by repeat (first | (with_reducible first | exact HB.out | apply below_alloc | apply pw_below_drewN | apply below_drew1) | exact HB.out)⟩⟩
    case rest =>
      clear HC8
      try clear c1
      try clear p2
      try clear c3
      try clear c3b0
      try clear c9
      try clear c15
      try clear c16
      try clear c18
      obtain ⟨kq, x40_7, rfl, HA, HJ7, HO_4, HO_6, HO_7, HB⟩ := hcut
      cases kq with
      | zero => exact absurd HA.out (by simp [laws_FnExactCombOfTerm.j0])
      | succ kj7 =>
        have H := HA.out
        clear HA
        simp only [laws_FnExactCombOfTerm.j0] at H
        by_cases c23 : x40_7 = true
        · subst c23
          have H1 : (some false) = some r := by rw [if_pos rfl] at H; exact H
          clear H
          have H := H1
          clear H1
          obtain rfl := Option.some.inj H
          go_wp2
          go_ret
          exact ⟨by first | rfl | (simp [errW_none, errW_some] <;> rfl) | (simp [*, errW_none, errW_some] <;> rfl), by repeat (first | (with_reducible first | exact HB.out | apply below_alloc | apply pw_below_drewN | apply below_drew1) | exact HB.out)⟩
        · replace c23 := Bool.eq_false_iff.mpr c23
          subst c23
          have H1 : ((laws_toTermS.f kj7 l0).bind fun t117 => ((laws_eqTermS.f kj7 t109 t117).bind fun t120 => (if t120 = true then ((laws_markTermS.f kj7 t109 1).bind fun bt121 => (if bt121.1 < 0 then (laws_FnExactCombOfTerm.j1 kj7 l0 t105 t106 t112 true) else ((laws_eqCombS.f kj7 t112 t105).bind fun t123 => (if t123 = true then (laws_FnExactCombOfTerm.j1 kj7 l0 t105 t106 t112 (t113 != t106)) else (laws_FnExactCombOfTerm.j1 kj7 l0 t105 t106 t112 true))))) else (some false)))) = some r := by rw [if_neg (show ¬ (false = true) by decide)] at H; exact H
          clear H
          have H := H1
          clear H1
          replace H := Option.bind_eq_some_iff.mp H
          obtain ⟨t117, A240, H⟩ := H
          replace H : ((laws_eqTermS.f kj7 t109 t117).bind fun t120 => (if t120 = true then ((laws_markTermS.f kj7 t109 1).bind fun bt121 => (if bt121.1 < 0 then (laws_FnExactCombOfTerm.j1 kj7 l0 t105 t106 t112 true) else ((laws_eqCombS.f kj7 t112 t105).bind fun t123 => (if t123 = true then (laws_FnExactCombOfTerm.j1 kj7 l0 t105 t106 t112 (t113 != t106)) else (laws_FnExactCombOfTerm.j1 kj7 l0 t105 t106 t112 true))))) else (some false))) = some r := H
          have A24 := Aside0.mk A240
          clear A240
          replace H := Option.bind_eq_some_iff.mp H
          obtain ⟨t120, A250, H⟩ := H
          replace H : (if t120 = true then ((laws_markTermS.f kj7 t109 1).bind fun bt121 => (if bt121.1 < 0 then (laws_FnExactCombOfTerm.j1 kj7 l0 t105 t106 t112 true) else ((laws_eqCombS.f kj7 t112 t105).bind fun t123 => (if t123 = true then (laws_FnExactCombOfTerm.j1 kj7 l0 t105 t106 t112 (t113 != t106)) else (laws_FnExactCombOfTerm.j1 kj7 l0 t105 t106 t112 true))))) else (some false)) = some r := H
          have A25 := Aside0.mk A250
          clear A250
          by_cases c26 : t120 = true
          · subst c26
            have H1 : ((laws_markTermS.f kj7 t109 1).bind fun bt121 => (if bt121.1 < 0 then (laws_FnExactCombOfTerm.j1 kj7 l0 t105 t106 t112 true) else ((laws_eqCombS.f kj7 t112 t105).bind fun t123 => (if t123 = true then (laws_FnExactCombOfTerm.j1 kj7 l0 t105 t106 t112 (t113 != t106)) else (laws_FnExactCombOfTerm.j1 kj7 l0 t105 t106 t112 true))))) = some r := by rw [if_pos rfl] at H; exact H
            clear H
            have H := H1
            clear H1
            replace H := Option.bind_eq_some_iff.mp H
            obtain ⟨⟨t121, t122⟩, A270, H⟩ := H
            replace H : (if t121 < 0 then (laws_FnExactCombOfTerm.j1 kj7 l0 t105 t106 t112 true) else ((laws_eqCombS.f kj7 t112 t105).bind fun t123 => (if t123 = true then (laws_FnExactCombOfTerm.j1 kj7 l0 t105 t106 t112 (t113 != t106)) else (laws_FnExactCombOfTerm.j1 kj7 l0 t105 t106 t112 true)))) = some r := H
            have A27 := Aside0.mk A270
            clear A270
            have HC28 := Aside0.mk H
            clear H
            go_upto_region 14 with (first | ((with_reducible refine gate_callee (f := 18) rfl ?_); refine goesL_ (some 43) rfl rfl Try.func18 (by kernel_rfl) rfl #[.slice A0 l0.length c0] rfl (by (try simp only [List.map_toArray, List.map_cons, List.map_nil]); first | done | rfl | (simp only [List.length_drop, List.length_take]; rfl)) ?_; (with_reducible refine (laws_toTermS.calls kj7 _ _ l0 t117 _ ?side1 ?side2 A24.out).mono ?_); (case side1 => repeat (first | exact (Kd.C_below HR0.out HB.out) | (with_reducible refine Kd.C_alloc ?_ _) | (with_reducible refine Kd.C_drewN ?_ _) | (with_reducible refine Kd.C_drew ?_))); (case side2 => exact HC0.out); rintro e w29 ⟨v118, rfl, ho0, hb⟩; refine ⟨_, rfl, ?_⟩; have n0_ := Aside0.mk (Kd.R_below (by (with_reducible repeat (first | apply Kd.R_alloc | apply Kd.R_drewN | apply Kd.R_drew)); exact HO_4.out) hb); have n1_ := Aside0.mk (Kd.R_elder' (by (with_reducible repeat (first | apply Kd.R_alloc | apply Kd.R_drewN | apply Kd.R_drew)); exact HO_6.out) (Kd.R_base ho0) hb); have n2_ := Aside0.mk (Kd.R_below (by (with_reducible repeat (first | apply Kd.R_alloc | apply Kd.R_drewN | apply Kd.R_drew)); exact HO_7.out) hb); have n3_ := Aside0.mk (Kd.R_lower (Kd.R_new' ho0 (Kd.R_lt (by (with_reducible repeat (first | apply Kd.R_alloc | apply Kd.R_drewN | apply Kd.R_drew)); exact HO_6.out))) (below_size (by repeat (first | (with_reducible first | exact HB.out | apply below_alloc | apply pw_below_drewN | apply below_drew1) | exact HB.out)))); have n4_ := Aside0.mk (below_step (by repeat (first | (with_reducible first | exact HB.out | apply below_alloc | apply pw_below_drewN | apply below_drew1) | exact HB.out)) hb); clear HO_4; clear HO_6; clear HO_7; clear HB; have HO_4 := n0_; have HO_6 := n1_; have HO_7 := n2_; have HO119 := n3_; have HB := n4_; clear n0_ n1_ n2_ n3_ n4_; (try clear hb); (try clear hb2); (try clear hk); (try clear hi); (try clear ho0); obtain ⟨Ao30, co30, eo30⟩ := Kd.R_slice HO119.out; subst eo30) | ((with_reducible refine gate_callee (f := 20) rfl ?_); refine goesL_ (some 44) rfl rfl Try.func20 (by kernel_rfl) rfl #[.slice Ao13 t109.length co13, .slice Ao30 t117.length co30] rfl (by (try simp only [List.map_toArray, List.map_cons, List.map_nil]); first | done | rfl | (simp only [List.length_drop, List.length_take]; rfl)) ?_; (with_reducible refine (laws_eqTermS.calls kj7 _ _ t109 _ _ t117 true _ ?side1 ?side2 ?side3 ?side4 A25.out).mono ?_); (case side1 => repeat (first | exact (Kd.R_reads' HO_6.out).2.2 | (with_reducible refine Kd.C_alloc ?_ _) | (with_reducible refine Kd.C_drewN ?_ _) | (with_reducible refine Kd.C_drew ?_))); (case side2 => exact (Kd.R_reads' HO_6.out).2.1); (case side3 => repeat (first | exact (Kd.R_reads' HO119.out).2.2 | (with_reducible refine Kd.C_alloc ?_ _) | (with_reducible refine Kd.C_drewN ?_ _) | (with_reducible refine Kd.C_drew ?_))); (case side4 => exact (Kd.R_reads' HO119.out).2.1); rintro e w31 ⟨rfl, hb⟩; refine ⟨_, rfl, ?_⟩; have n0_ := Aside0.mk (Kd.R_below (by (with_reducible repeat (first | apply Kd.R_alloc | apply Kd.R_drewN | apply Kd.R_drew)); exact HO_4.out) hb); have n1_ := Aside0.mk (Kd.R_below (by (with_reducible repeat (first | apply Kd.R_alloc | apply Kd.R_drewN | apply Kd.R_drew)); exact HO_6.out) hb); have n2_ := Aside0.mk (Kd.R_below (by (with_reducible repeat (first | apply Kd.R_alloc | apply Kd.R_drewN | apply Kd.R_drew)); exact HO_7.out) hb); have n3_ := Aside0.mk (Kd.R_below (by (with_reducible repeat (first | apply Kd.R_alloc | apply Kd.R_drewN | apply Kd.R_drew)); exact HO119.out) hb); have n4_ := Aside0.mk (below_step (by repeat (first | (with_reducible first | exact HB.out | apply below_alloc | apply pw_below_drewN | apply below_drew1) | exact HB.out)) hb); clear HO_4; clear HO_6; clear HO_7; clear HO119; clear HB; have HO_4 := n0_; have HO_6 := n1_; have HO_7 := n2_; have HO119 := n3_; have HB := n4_; clear n0_ n1_ n2_ n3_ n4_; (try clear hb); (try clear hb2); (try clear hk); (try clear hi)) | ((with_reducible refine gate_callee (f := 24) rfl ?_); refine goesL_ (some 48) rfl rfl Try.func24 (by kernel_rfl) rfl #[.slice Ao13 t109.length co13, .int .i64 1] rfl (by (try simp only [List.map_toArray, List.map_cons, List.map_nil]); first | done | rfl | (simp only [List.length_drop, List.length_take]; rfl)) ?_; (with_reducible refine (laws_markTermS.calls kj7 (fun k_ => some k_ = (.slice Ao13 t109.length co13 : Value).ownBlock) (.slice Ao13 t109.length co13) t109 1 t121 t122 w _ ?side1 ?side2 A27.out).mono ?_); (case side1 => repeat (first | (with_reducible first | exact HB.out | apply below_alloc | apply pw_below_drewN | apply below_drew1) | exact HB.out)); (case side2 => exact Kd.R_tight rfl HO_6.out); rintro e w32 ⟨rfl, hy0, hb, hkp⟩; refine ⟨_, rfl, ?_⟩; have n0_ := Aside0.mk (Kd.R_mono (ok' := fun k_ => some k_ ≠ (v114 : Value).ownBlock) (Kd.R_keptB ((Kd.R_apart' HO_4.out (Kd.R_typed HO_6.out) (by decide))) hkp (fun k_ hk_ hs_ => (hk_.2) hs_)) (fun k_ hk_ => hk_.1.1)); have n1_ := Aside0.mk (Kd.R_reok rfl hy0 (fun k_ e_ => HO_6.out.1 k_ e_)); have n2_ := Aside0.mk (Kd.R_mono (ok' := fun k_ => some k_ ≠ (v107 : Value).ownBlock) (Kd.R_keptB ((Kd.R_apart' HO_7.out (Kd.R_typed HO_6.out) (by decide))) hkp (fun k_ hk_ hs_ => (hk_.2) hs_)) (fun k_ hk_ => hk_.1.1)); have n3_ := Aside0.mk (Kd.R_mono (ok' := fun k_ => some k_ ≠ (.slice Ao13 t109.length co13 : Value).ownBlock) (Kd.R_keptB (HO119.out) hkp (fun k_ hk_ hs_ => (hk_.2) hs_)) (fun k_ hk_ => hk_.1.2)); have n4_ := Aside0.mk (hb); clear HO_4; clear HO_6; clear HO_7; clear HO119; clear HB; have HO_4 := n0_; have HO_6 := n1_; have HO_7 := n2_; have HO119 := n3_; have HB := n4_; clear n0_ n1_ n2_ n3_ n4_; (try clear hb); (try clear hkp); (try clear hy0)))
            (try simp only [Act.put, List.setIfInBounds_toArray, List.set_cons_zero, List.set_cons_succ])
            go_cut [61] (fun v61 wc => ∃ (kq : Nat) (x61_27 : Bool), v61 = .bool x61_27 ∧ Aside0 (laws_FnExactCombOfTerm.j1 kq l0 t105 t106 t112 x61_27 = some r) ∧ Aside0 (kq ≤ kj7) ∧ Aside0 (Kd.R k52 52 wc w.heap.size (fun k_ => some k_ ≠ (v114 : Value).ownBlock) v107 t105) ∧ Aside0 (Kd.R k52 52 wc w.heap.size (fun k_ => some k_ ≠ (v107 : Value).ownBlock) v114 t112) ∧ Aside0 (Below w.heap.size w wc))
            case first =>
              have H := HC28.out
              clear HC28
              by_cases c33 : t121 < 0
              · rw [if_pos c33] at H
                have c33b0 : decide (t121 < 0) = true := decide_eq_true c33
                clear c33
                (first | rw [c33b0] | (simp only [i64_w, i32_w]; rw [c33b0]) | skip)
                have H' := Aside0.mk H
                clear H
                go_wp2
                go_meet
                case rel => exact ⟨_, (true), (by first | rfl | (simp; done) | (simp [*]; done)), H', ⟨by have := HJ7.out; first | omega | exact Nat.le_refl _⟩, ⟨by (with_reducible repeat (first | apply Kd.R_alloc | apply Kd.R_drewN | apply Kd.R_drew)); exact HO_4.out⟩, ⟨by (with_reducible repeat (first | apply Kd.R_alloc | apply Kd.R_drewN | apply Kd.R_drew)); exact HO_7.out⟩, ⟨by repeat (first | (with_reducible first | exact HB.out | apply below_alloc | apply pw_below_drewN | apply below_drew1) | exact HB.out)⟩⟩
              · rw [if_neg c33] at H
                have c33b0 : decide (t121 < 0) = false := decide_eq_false c33
                clear c33
                (first | rw [c33b0] | (simp only [i64_w, i32_w]; rw [c33b0]) | skip)
                replace H := Option.bind_eq_some_iff.mp H
                obtain ⟨t123, A340, H⟩ := H
                replace H : (if t123 = true then (laws_FnExactCombOfTerm.j1 kj7 l0 t105 t106 t112 (t113 != t106)) else (laws_FnExactCombOfTerm.j1 kj7 l0 t105 t106 t112 true)) = some r := H
                have A34 := Aside0.mk A340
                clear A340
                by_cases c35 : t123 = true
                · subst c35
                  have H1 : (laws_FnExactCombOfTerm.j1 kj7 l0 t105 t106 t112 (t113 != t106)) = some r := by rw [if_pos rfl] at H; exact H
                  clear H
                  have H := H1
                  clear H1
                  have H' := Aside0.mk H
                  clear H
                  obtain ⟨Ao36, co36, eo36⟩ := Kd.R_slice HO_7.out
                  subst eo36
                  obtain ⟨Ao37, co37, eo37⟩ := Kd.R_slice HO_4.out
                  subst eo37
                  go_wp2_with (first | (go_at_call 15; (with_reducible refine (laws_eqCombS.calls kj7 _ _ t112 _ _ t105 true _ ?side1 ?side2 ?side3 ?side4 A34.out).mono ?_); (case side1 => repeat (first | exact (Kd.R_reads' HO_7.out).2.2 | (with_reducible refine Kd.C_alloc ?_ _) | (with_reducible refine Kd.C_drewN ?_ _) | (with_reducible refine Kd.C_drew ?_))); (case side2 => exact (Kd.R_reads' HO_7.out).2.1); (case side3 => repeat (first | exact (Kd.R_reads' HO_4.out).2.2 | (with_reducible refine Kd.C_alloc ?_ _) | (with_reducible refine Kd.C_drewN ?_ _) | (with_reducible refine Kd.C_drew ?_))); (case side4 => exact (Kd.R_reads' HO_4.out).2.1); rintro e w38 ⟨rfl, hb⟩; have n0_ := Aside0.mk (Kd.R_below (by (with_reducible repeat (first | apply Kd.R_alloc | apply Kd.R_drewN | apply Kd.R_drew)); exact HO_4.out) hb); have n1_ := Aside0.mk (Kd.R_below (by (with_reducible repeat (first | apply Kd.R_alloc | apply Kd.R_drewN | apply Kd.R_drew)); exact HO_6.out) hb); have n2_ := Aside0.mk (Kd.R_below (by (with_reducible repeat (first | apply Kd.R_alloc | apply Kd.R_drewN | apply Kd.R_drew)); exact HO_7.out) hb); have n3_ := Aside0.mk (Kd.R_below (by (with_reducible repeat (first | apply Kd.R_alloc | apply Kd.R_drewN | apply Kd.R_drew)); exact HO119.out) hb); have n4_ := Aside0.mk (below_step (by repeat (first | (with_reducible first | exact HB.out | apply below_alloc | apply pw_below_drewN | apply below_drew1) | exact HB.out)) hb); clear HO_4; clear HO_6; clear HO_7; clear HO119; clear HB; have HO_4 := n0_; have HO_6 := n1_; have HO_7 := n2_; have HO119 := n3_; have HB := n4_; clear n0_ n1_ n2_ n3_ n4_; (try clear hb); (try clear hb2); (try clear hk); (try clear hi)))
                  go_meet
                  case rel => exact ⟨_, ((t113 != t106)), (by first | rfl | (simp; done) | (simp [*]; done)), H', ⟨by have := HJ7.out; first | omega | exact Nat.le_refl _⟩, ⟨by (with_reducible repeat (first | apply Kd.R_alloc | apply Kd.R_drewN | apply Kd.R_drew)); exact HO_4.out⟩, ⟨by (with_reducible repeat (first | apply Kd.R_alloc | apply Kd.R_drewN | apply Kd.R_drew)); exact HO_7.out⟩, ⟨by repeat (first | (with_reducible first | exact HB.out | apply below_alloc | apply pw_below_drewN | apply below_drew1) | exact HB.out)⟩⟩
                · replace c35 := Bool.eq_false_iff.mpr c35
                  subst c35
                  have H1 : (laws_FnExactCombOfTerm.j1 kj7 l0 t105 t106 t112 true) = some r := by rw [if_neg (show ¬ (false = true) by decide)] at H; exact H
                  clear H
                  have H := H1
                  clear H1
                  have H' := Aside0.mk H
                  clear H
                  obtain ⟨Ao39, co39, eo39⟩ := Kd.R_slice HO_7.out
                  subst eo39
                  obtain ⟨Ao40, co40, eo40⟩ := Kd.R_slice HO_4.out
                  subst eo40
                  go_wp2_with (first | (go_at_call 15; (with_reducible refine (laws_eqCombS.calls kj7 _ _ t112 _ _ t105 false _ ?side1 ?side2 ?side3 ?side4 A34.out).mono ?_); (case side1 => repeat (first | exact (Kd.R_reads' HO_7.out).2.2 | (with_reducible refine Kd.C_alloc ?_ _) | (with_reducible refine Kd.C_drewN ?_ _) | (with_reducible refine Kd.C_drew ?_))); (case side2 => exact (Kd.R_reads' HO_7.out).2.1); (case side3 => repeat (first | exact (Kd.R_reads' HO_4.out).2.2 | (with_reducible refine Kd.C_alloc ?_ _) | (with_reducible refine Kd.C_drewN ?_ _) | (with_reducible refine Kd.C_drew ?_))); (case side4 => exact (Kd.R_reads' HO_4.out).2.1); rintro e w41 ⟨rfl, hb⟩; have n0_ := Aside0.mk (Kd.R_below (by (with_reducible repeat (first | apply Kd.R_alloc | apply Kd.R_drewN | apply Kd.R_drew)); exact HO_4.out) hb); have n1_ := Aside0.mk (Kd.R_below (by (with_reducible repeat (first | apply Kd.R_alloc | apply Kd.R_drewN | apply Kd.R_drew)); exact HO_6.out) hb); have n2_ := Aside0.mk (Kd.R_below (by (with_reducible repeat (first | apply Kd.R_alloc | apply Kd.R_drewN | apply Kd.R_drew)); exact HO_7.out) hb); have n3_ := Aside0.mk (Kd.R_below (by (with_reducible repeat (first | apply Kd.R_alloc | apply Kd.R_drewN | apply Kd.R_drew)); exact HO119.out) hb); have n4_ := Aside0.mk (below_step (by repeat (first | (with_reducible first | exact HB.out | apply below_alloc | apply pw_below_drewN | apply below_drew1) | exact HB.out)) hb); clear HO_4; clear HO_6; clear HO_7; clear HO119; clear HB; have HO_4 := n0_; have HO_6 := n1_; have HO_7 := n2_; have HO119 := n3_; have HB := n4_; clear n0_ n1_ n2_ n3_ n4_; (try clear hb); (try clear hb2); (try clear hk); (try clear hi)))
                  go_meet
                  case rel => exact ⟨_, (true), (by first | rfl | (simp; done) | (simp [*]; done)), H', ⟨by have := HJ7.out; first | omega | exact Nat.le_refl _⟩, ⟨by (with_reducible repeat (first | apply Kd.R_alloc | apply Kd.R_drewN | apply Kd.R_drew)); exact HO_4.out⟩, ⟨by (with_reducible repeat (first | apply Kd.R_alloc | apply Kd.R_drewN | apply Kd.R_drew)); exact HO_7.out⟩, ⟨by repeat (first | (with_reducible first | exact HB.out | apply below_alloc | apply pw_below_drewN | apply below_drew1) | exact HB.out)⟩⟩
            case rest =>
              clear HC28
              try clear c1
              try clear c2
              try clear p2
              try clear c3
              try clear c3b0
              try clear c9
              try clear c15
              try clear c16
              try clear c18
              try clear c20
              try clear c23
              try clear c24
              try clear c26
              try clear c33
              try clear c33b0
              try clear c35
              try clear c36
              try clear p2
              obtain ⟨kq, x61_27, rfl, HA, HJ27, HO_4, HO_7, HB⟩ := hcut
              cases kq with
              | zero => exact absurd HA.out (by simp [laws_FnExactCombOfTerm.j1])
              | succ kj27 =>
                have H := HA.out
                clear HA
                simp only [laws_FnExactCombOfTerm.j1] at H
                by_cases c42 : x61_27 = true
                · subst c42
                  have H1 : (some false) = some r := by rw [if_pos rfl] at H; exact H
                  clear H
                  have H := H1
                  clear H1
                  obtain rfl := Option.some.inj H
                  go_wp2
                  go_ret
                  exact ⟨by first | rfl | (simp [errW_none, errW_some] <;> rfl) | (simp [*, errW_none, errW_some] <;> rfl), by repeat (first | (with_reducible first | exact HB.out | apply below_alloc | apply pw_below_drewN | apply below_drew1) | exact HB.out)⟩
                · replace c42 := Bool.eq_false_iff.mpr c42
                  subst c42
                  have H1 : ((laws_markCombS.f kj27 t112 1).bind fun bt124 => ((laws_heldCombS.f kj27 bt124.2 1).bind fun t126 => (if t126 < 0 then (some false) else (if t126 = bt124.1 then ((laws_toTermS.f kj27 l0).bind fun t127 => ((impl_CombOfTerm.f kj27 t127).bind fun bt130 => ((laws_eqCombS.f kj27 bt130.1 t105).bind fun t134 => (if t134 = true then (laws_FnExactCombOfTerm.j2 kj27 bt124.2 bt124.1 (bt130.2 != t106)) else (laws_FnExactCombOfTerm.j2 kj27 bt124.2 bt124.1 true))))) else (some false))))) = some r := by rw [if_neg (show ¬ (false = true) by decide)] at H; exact H
                  clear H
                  have H := H1
                  clear H1
                  replace H := Option.bind_eq_some_iff.mp H
                  obtain ⟨⟨t124, t125⟩, A430, H⟩ := H
                  replace H : ((laws_heldCombS.f kj27 t125 1).bind fun t126 => (if t126 < 0 then (some false) else (if t126 = t124 then ((laws_toTermS.f kj27 l0).bind fun t127 => ((impl_CombOfTerm.f kj27 t127).bind fun bt130 => ((laws_eqCombS.f kj27 bt130.1 t105).bind fun t134 => (if t134 = true then (laws_FnExactCombOfTerm.j2 kj27 t125 t124 (bt130.2 != t106)) else (laws_FnExactCombOfTerm.j2 kj27 t125 t124 true))))) else (some false)))) = some r := H
                  have A43 := Aside0.mk A430
                  clear A430
                  replace H := Option.bind_eq_some_iff.mp H
                  obtain ⟨t126, A440, H⟩ := H
                  replace H : (if t126 < 0 then (some false) else (if t126 = t124 then ((laws_toTermS.f kj27 l0).bind fun t127 => ((impl_CombOfTerm.f kj27 t127).bind fun bt130 => ((laws_eqCombS.f kj27 bt130.1 t105).bind fun t134 => (if t134 = true then (laws_FnExactCombOfTerm.j2 kj27 t125 t124 (bt130.2 != t106)) else (laws_FnExactCombOfTerm.j2 kj27 t125 t124 true))))) else (some false))) = some r := H
                  have A44 := Aside0.mk A440
                  clear A440
                  by_cases c45 : t126 < 0
                  · rw [if_pos c45] at H
                    have c45b0 : decide (t126 < 0) = true := decide_eq_true c45
                    clear c45
                    obtain rfl := Option.some.inj H
                    obtain ⟨Ao46, co46, eo46⟩ := Kd.R_slice HO_7.out
                    subst eo46
                    go_wp2_with (first | ((with_reducible refine gate_callee (f := 29) rfl ?_); refine goesL_ (some 64) rfl rfl Try.func29 (by kernel_rfl) rfl #[.slice Ao46 t112.length co46, .int .i64 1] rfl (by (try simp only [List.map_toArray, List.map_cons, List.map_nil]); first | done | rfl | (simp only [List.length_drop, List.length_take]; rfl)) ?_; (with_reducible refine (laws_markCombS.calls kj27 (fun k_ => some k_ = (.slice Ao46 t112.length co46 : Value).ownBlock) (.slice Ao46 t112.length co46) t112 1 t124 t125 w _ ?side1 ?side2 A43.out).mono ?_); (case side1 => repeat (first | (with_reducible first | exact HB.out | apply below_alloc | apply pw_below_drewN | apply below_drew1) | exact HB.out)); (case side2 => exact Kd.R_tight rfl HO_7.out); rintro e w47 ⟨rfl, hy0, hb, hkp⟩; refine ⟨_, rfl, ?_⟩; have n0_ := Aside0.mk (Kd.R_mono (ok' := fun k_ => some k_ ≠ (.slice Ao46 t112.length co46 : Value).ownBlock) (Kd.R_keptB (HO_4.out) hkp (fun k_ hk_ hs_ => (hk_) hs_)) (fun k_ hk_ => hk_.1)); have n1_ := Aside0.mk (Kd.R_reok rfl hy0 (fun k_ e_ => HO_7.out.1 k_ e_)); have n2_ := Aside0.mk (hb); clear HO_4; clear HO_7; clear HB; have HO_4 := n0_; have HO_7 := n1_; have HB := n2_; clear n0_ n1_ n2_; (try clear hb); (try clear hkp); (try clear hy0)) | ((with_reducible refine gate_callee (f := 30) rfl ?_); refine goesL_ (some 67) rfl rfl Try.func30 (by kernel_rfl) rfl #[.slice Ao46 t125.length co46, .int .i64 1] rfl (by (try simp only [List.map_toArray, List.map_cons, List.map_nil]); first | done | (rw [show t125.length = t112.length from (Kd.R_reads' HO_7.out).1.symm] <;> rfl) | rfl | (simp only [List.length_drop, List.length_take]; rfl)) ?_; (with_reducible refine (laws_heldCombS.calls kj27 _ _ t125 1 t126 _ ?side1 ?side2 A44.out).mono ?_); (case side1 => repeat (first | exact (Kd.R_reads' HO_7.out).2.2 | (with_reducible refine Kd.C_alloc ?_ _) | (with_reducible refine Kd.C_drewN ?_ _) | (with_reducible refine Kd.C_drew ?_))); (case side2 => rw [show t125.length = t112.length from (Kd.R_reads' HO_7.out).1.symm]; exact (Kd.R_reads' HO_7.out).2.1); rintro e w' ⟨rfl, ⟨nd, rfl⟩⟩; refine ⟨_, rfl, ?_⟩))
                    go_ret
                    exact ⟨by first | rfl | (simp [errW_none, errW_some] <;> rfl) | (simp [*, errW_none, errW_some] <;> rfl), by repeat (first | (with_reducible first | exact HB.out | apply below_alloc | apply pw_below_drewN | apply below_drew1) | exact HB.out)⟩
                  · rw [if_neg c45] at H
                    have c45b0 : decide (t126 < 0) = false := decide_eq_false c45
                    clear c45
                    by_cases c48 : t126 = t124
                    · rw [if_pos c48] at H
                      have c48b0 : (t126 == t124) = true := beq_iff_eq.mpr c48
                      have c48b1 : (t126 != t124) = false := bne_eq_false_iff_eq.mpr c48
                      clear c48
                      replace H := Option.bind_eq_some_iff.mp H
                      obtain ⟨t127, A490, H⟩ := H
                      replace H : ((impl_CombOfTerm.f kj27 t127).bind fun bt130 => ((laws_eqCombS.f kj27 bt130.1 t105).bind fun t134 => (if t134 = true then (laws_FnExactCombOfTerm.j2 kj27 t125 t124 (bt130.2 != t106)) else (laws_FnExactCombOfTerm.j2 kj27 t125 t124 true)))) = some r := H
                      have A49 := Aside0.mk A490
                      clear A490
                      replace H := Option.bind_eq_some_iff.mp H
                      obtain ⟨⟨t130, t131⟩, A500, H⟩ := H
                      replace H : ((laws_eqCombS.f kj27 t130 t105).bind fun t134 => (if t134 = true then (laws_FnExactCombOfTerm.j2 kj27 t125 t124 (t131 != t106)) else (laws_FnExactCombOfTerm.j2 kj27 t125 t124 true))) = some r := H
                      have A50 := Aside0.mk A500
                      clear A500
                      have HC51 := Aside0.mk H
                      clear H
                      obtain ⟨Ao52, co52, eo52⟩ := Kd.R_slice HO_7.out
                      subst eo52
                      go_upto_region 25 with (first | ((with_reducible refine gate_callee (f := 29) rfl ?_); refine goesL_ (some 64) rfl rfl Try.func29 (by kernel_rfl) rfl #[.slice Ao52 t112.length co52, .int .i64 1] rfl (by (try simp only [List.map_toArray, List.map_cons, List.map_nil]); first | done | rfl | (simp only [List.length_drop, List.length_take]; rfl)) ?_; (with_reducible refine (laws_markCombS.calls kj27 (fun k_ => some k_ = (.slice Ao52 t112.length co52 : Value).ownBlock) (.slice Ao52 t112.length co52) t112 1 t124 t125 w _ ?side1 ?side2 A43.out).mono ?_); (case side1 => repeat (first | (with_reducible first | exact HB.out | apply below_alloc | apply pw_below_drewN | apply below_drew1) | exact HB.out)); (case side2 => exact Kd.R_tight rfl HO_7.out); rintro e w53 ⟨rfl, hy0, hb, hkp⟩; refine ⟨_, rfl, ?_⟩; have n0_ := Aside0.mk (Kd.R_mono (ok' := fun k_ => some k_ ≠ (.slice Ao52 t112.length co52 : Value).ownBlock) (Kd.R_keptB (HO_4.out) hkp (fun k_ hk_ hs_ => (hk_) hs_)) (fun k_ hk_ => hk_.1)); have n1_ := Aside0.mk (Kd.R_reok rfl hy0 (fun k_ e_ => HO_7.out.1 k_ e_)); have n2_ := Aside0.mk (hb); clear HO_4; clear HO_7; clear HB; have HO_4 := n0_; have HO_7 := n1_; have HB := n2_; clear n0_ n1_ n2_; (try clear hb); (try clear hkp); (try clear hy0)) | ((with_reducible refine gate_callee (f := 30) rfl ?_); refine goesL_ (some 67) rfl rfl Try.func30 (by kernel_rfl) rfl #[.slice Ao52 t125.length co52, .int .i64 1] rfl (by (try simp only [List.map_toArray, List.map_cons, List.map_nil]); first | done | (rw [show t125.length = t112.length from (Kd.R_reads' HO_7.out).1.symm] <;> rfl) | rfl | (simp only [List.length_drop, List.length_take]; rfl)) ?_; (with_reducible refine (laws_heldCombS.calls kj27 _ _ t125 1 t126 _ ?side1 ?side2 A44.out).mono ?_); (case side1 => repeat (first | exact (Kd.R_reads' HO_7.out).2.2 | (with_reducible refine Kd.C_alloc ?_ _) | (with_reducible refine Kd.C_drewN ?_ _) | (with_reducible refine Kd.C_drew ?_))); (case side2 => rw [show t125.length = t112.length from (Kd.R_reads' HO_7.out).1.symm]; exact (Kd.R_reads' HO_7.out).2.1); rintro e w' ⟨rfl, ⟨nd, rfl⟩⟩; refine ⟨_, rfl, ?_⟩) | ((with_reducible refine gate_callee (f := 18) rfl ?_); refine goesL_ (some 75) rfl rfl Try.func18 (by kernel_rfl) rfl #[.slice A0 l0.length c0] rfl (by (try simp only [List.map_toArray, List.map_cons, List.map_nil]); first | done | rfl | (simp only [List.length_drop, List.length_take]; rfl)) ?_; (with_reducible refine (laws_toTermS.calls kj27 _ _ l0 t127 _ ?side1 ?side2 A49.out).mono ?_); (case side1 => repeat (first | exact (Kd.C_below HR0.out (by repeat (first | (with_reducible first | exact HB.out | apply below_alloc | apply pw_below_drewN | apply below_drew1) | exact HB.out))) | (with_reducible refine Kd.C_alloc ?_ _) | (with_reducible refine Kd.C_drewN ?_ _) | (with_reducible refine Kd.C_drew ?_))); (case side2 => exact HC0.out); rintro e w54 ⟨v128, rfl, ho0, hb⟩; refine ⟨_, rfl, ?_⟩; have n0_ := Aside0.mk (Kd.R_below (by (with_reducible repeat (first | apply Kd.R_alloc | apply Kd.R_drewN | apply Kd.R_drew)); exact HO_4.out) hb); have n1_ := Aside0.mk (Kd.R_below (by (with_reducible repeat (first | apply Kd.R_alloc | apply Kd.R_drewN | apply Kd.R_drew)); exact HO_7.out) hb); have n2_ := Aside0.mk (Kd.R_lower ho0 (below_size (by repeat (first | (with_reducible first | exact HB.out | apply below_alloc | apply pw_below_drewN | apply below_drew1) | exact HB.out)))); have n3_ := Aside0.mk (below_step (by repeat (first | (with_reducible first | exact HB.out | apply below_alloc | apply pw_below_drewN | apply below_drew1) | exact HB.out)) hb); clear HO_4; clear HO_7; clear HB; have HO_4 := n0_; have HO_7 := n1_; have HO129 := n2_; have HB := n3_; clear n0_ n1_ n2_ n3_; (try clear hb); (try clear hb2); (try clear hk); (try clear hi); (try clear ho0); obtain ⟨Ao55, co55, eo55⟩ := Kd.R_slice HO129.out; subst eo55) | ((with_reducible refine gate_callee (f := 36) rfl ?_); refine goesL_ (some 76) rfl rfl Try.func36 (by kernel_rfl) rfl #[.slice Ao55 t127.length co55] rfl (by (try simp only [List.map_toArray, List.map_cons, List.map_nil]); first | done | rfl | (simp only [List.length_drop, List.length_take]; rfl)) ?_; (with_reducible refine (impl_CombOfTerm.calls kj27 _ _ t127 t130 t131 _ ?side1 ?side2 A50.out).mono ?_); (case side1 => repeat (first | exact (Kd.R_reads' HO129.out).2.2 | (with_reducible refine Kd.C_alloc ?_ _) | (with_reducible refine Kd.C_drewN ?_ _) | (with_reducible refine Kd.C_drew ?_))); (case side2 => exact (Kd.R_reads' HO129.out).2.1); rintro e w56 ⟨v132, rfl, ho0, hb⟩; refine ⟨_, rfl, ?_⟩; have n0_ := Aside0.mk (Kd.R_elder' (by (with_reducible repeat (first | apply Kd.R_alloc | apply Kd.R_drewN | apply Kd.R_drew)); exact HO_4.out) (Kd.R_base ho0) hb); have n1_ := Aside0.mk (Kd.R_elder' (by (with_reducible repeat (first | apply Kd.R_alloc | apply Kd.R_drewN | apply Kd.R_drew)); exact HO_7.out) (Kd.R_base ho0) hb); have n2_ := Aside0.mk (Kd.R_below (by (with_reducible repeat (first | apply Kd.R_alloc | apply Kd.R_drewN | apply Kd.R_drew)); exact HO129.out) hb); have n3_ := Aside0.mk (Kd.R_lower (Kd.R_new' (Kd.R_new' ho0 (Kd.R_lt (by (with_reducible repeat (first | apply Kd.R_alloc | apply Kd.R_drewN | apply Kd.R_drew)); exact HO_4.out))) (Kd.R_lt (by (with_reducible repeat (first | apply Kd.R_alloc | apply Kd.R_drewN | apply Kd.R_drew)); exact HO_7.out))) (below_size (by repeat (first | (with_reducible first | exact HB.out | apply below_alloc | apply pw_below_drewN | apply below_drew1) | exact HB.out)))); have n4_ := Aside0.mk (below_step (by repeat (first | (with_reducible first | exact HB.out | apply below_alloc | apply pw_below_drewN | apply below_drew1) | exact HB.out)) hb); clear HO_4; clear HO_7; clear HO129; clear HB; have HO_4 := n0_; have HO_7 := n1_; have HO129 := n2_; have HO133 := n3_; have HB := n4_; clear n0_ n1_ n2_ n3_ n4_; (try clear hb); (try clear hb2); (try clear hk); (try clear hi); (try clear ho0)))
                      (try simp only [Act.put, List.setIfInBounds_toArray, List.set_cons_zero, List.set_cons_succ])
                      go_cut [87] (fun v87 wc => ∃ (kq : Nat) (x87_50 : Bool), v87 = .bool x87_50 ∧ Aside0 (laws_FnExactCombOfTerm.j2 kq t125 t124 x87_50 = some r) ∧ Aside0 (kq ≤ kj27) ∧ Aside0 (Kd.R k52 52 wc w.heap.size (fun _ => True) (.slice Ao52 t112.length co52) t125) ∧ Aside0 (Below w.heap.size w wc))
                      case first =>
                        have H := HC51.out
                        clear HC51
                        replace H := Option.bind_eq_some_iff.mp H
                        obtain ⟨t134, A570, H⟩ := H
                        replace H : (if t134 = true then (laws_FnExactCombOfTerm.j2 kj27 t125 t124 (t131 != t106)) else (laws_FnExactCombOfTerm.j2 kj27 t125 t124 true)) = some r := H
                        have A57 := Aside0.mk A570
                        clear A570
                        by_cases c58 : t134 = true
                        · subst c58
                          have H1 : (laws_FnExactCombOfTerm.j2 kj27 t125 t124 (t131 != t106)) = some r := by rw [if_pos rfl] at H; exact H
                          clear H
                          have H := H1
                          clear H1
                          have H' := Aside0.mk H
                          clear H
                          obtain ⟨Ao59, co59, eo59⟩ := Kd.R_slice HO133.out
                          subst eo59
                          obtain ⟨Ao60, co60, eo60⟩ := Kd.R_slice HO_4.out
                          subst eo60
                          go_wp2_with (first | ((with_reducible refine gate_callee (f := 15) rfl ?_); refine goesL_ (some 81) rfl rfl Try.func15 (by kernel_rfl) rfl #[.slice Ao59 t130.length co59, .slice Ao60 t105.length co60] rfl (by (try simp only [List.map_toArray, List.map_cons, List.map_nil]); first | done | rfl | (simp only [List.length_drop, List.length_take]; rfl)) ?_; (with_reducible refine (laws_eqCombS.calls kj27 _ _ t130 _ _ t105 true _ ?side1 ?side2 ?side3 ?side4 A57.out).mono ?_); (case side1 => repeat (first | exact (Kd.R_reads' HO133.out).2.2 | (with_reducible refine Kd.C_alloc ?_ _) | (with_reducible refine Kd.C_drewN ?_ _) | (with_reducible refine Kd.C_drew ?_))); (case side2 => exact (Kd.R_reads' HO133.out).2.1); (case side3 => repeat (first | exact (Kd.R_reads' HO_4.out).2.2 | (with_reducible refine Kd.C_alloc ?_ _) | (with_reducible refine Kd.C_drewN ?_ _) | (with_reducible refine Kd.C_drew ?_))); (case side4 => exact (Kd.R_reads' HO_4.out).2.1); rintro e w61 ⟨rfl, hb⟩; refine ⟨_, rfl, ?_⟩; have n0_ := Aside0.mk (Kd.R_below (by (with_reducible repeat (first | apply Kd.R_alloc | apply Kd.R_drewN | apply Kd.R_drew)); exact HO_4.out) hb); have n1_ := Aside0.mk (Kd.R_below (by (with_reducible repeat (first | apply Kd.R_alloc | apply Kd.R_drewN | apply Kd.R_drew)); exact HO_7.out) hb); have n2_ := Aside0.mk (Kd.R_below (by (with_reducible repeat (first | apply Kd.R_alloc | apply Kd.R_drewN | apply Kd.R_drew)); exact HO129.out) hb); have n3_ := Aside0.mk (Kd.R_below (by (with_reducible repeat (first | apply Kd.R_alloc | apply Kd.R_drewN | apply Kd.R_drew)); exact HO133.out) hb); have n4_ := Aside0.mk (below_step (by repeat (first | (with_reducible first | exact HB.out | apply below_alloc | apply pw_below_drewN | apply below_drew1) | exact HB.out)) hb); clear HO_4; clear HO_7; clear HO129; clear HO133; clear HB; have HO_4 := n0_; have HO_7 := n1_; have HO129 := n2_; have HO133 := n3_; have HB := n4_; clear n0_ n1_ n2_ n3_ n4_; (try clear hb); (try clear hb2); (try clear hk); (try clear hi)))
                          go_meet
                          case rel => exact ⟨_, ((t131 != t106)), (by first | rfl | (simp; done) | (simp [*]; done)), H', ⟨by have := HJ7.out; have := HJ27.out; first | omega | exact Nat.le_refl _⟩, ⟨by (with_reducible repeat (first | apply Kd.R_alloc | apply Kd.R_drewN | apply Kd.R_drew)); exact Kd.R_mono HO_7.out (fun _ hk => trivial)⟩, ⟨by repeat (first | (with_reducible first | exact HB.out | apply below_alloc | apply pw_below_drewN | apply below_drew1) | exact HB.out)⟩⟩
                        · replace c58 := Bool.eq_false_iff.mpr c58
                          subst c58
                          have H1 : (laws_FnExactCombOfTerm.j2 kj27 t125 t124 true) = some r := by rw [if_neg (show ¬ (false = true) by decide)] at H; exact H
                          clear H
                          have H := H1
                          clear H1
                          have H' := Aside0.mk H
                          clear H
                          obtain ⟨Ao62, co62, eo62⟩ := Kd.R_slice HO133.out
                          subst eo62
                          obtain ⟨Ao63, co63, eo63⟩ := Kd.R_slice HO_4.out
                          subst eo63
                          go_wp2_with (first | ((with_reducible refine gate_callee (f := 15) rfl ?_); refine goesL_ (some 81) rfl rfl Try.func15 (by kernel_rfl) rfl #[.slice Ao62 t130.length co62, .slice Ao63 t105.length co63] rfl (by (try simp only [List.map_toArray, List.map_cons, List.map_nil]); first | done | rfl | (simp only [List.length_drop, List.length_take]; rfl)) ?_; (with_reducible refine (laws_eqCombS.calls kj27 _ _ t130 _ _ t105 false _ ?side1 ?side2 ?side3 ?side4 A57.out).mono ?_); (case side1 => repeat (first | exact (Kd.R_reads' HO133.out).2.2 | (with_reducible refine Kd.C_alloc ?_ _) | (with_reducible refine Kd.C_drewN ?_ _) | (with_reducible refine Kd.C_drew ?_))); (case side2 => exact (Kd.R_reads' HO133.out).2.1); (case side3 => repeat (first | exact (Kd.R_reads' HO_4.out).2.2 | (with_reducible refine Kd.C_alloc ?_ _) | (with_reducible refine Kd.C_drewN ?_ _) | (with_reducible refine Kd.C_drew ?_))); (case side4 => exact (Kd.R_reads' HO_4.out).2.1); rintro e w64 ⟨rfl, hb⟩; refine ⟨_, rfl, ?_⟩; have n0_ := Aside0.mk (Kd.R_below (by (with_reducible repeat (first | apply Kd.R_alloc | apply Kd.R_drewN | apply Kd.R_drew)); exact HO_4.out) hb); have n1_ := Aside0.mk (Kd.R_below (by (with_reducible repeat (first | apply Kd.R_alloc | apply Kd.R_drewN | apply Kd.R_drew)); exact HO_7.out) hb); have n2_ := Aside0.mk (Kd.R_below (by (with_reducible repeat (first | apply Kd.R_alloc | apply Kd.R_drewN | apply Kd.R_drew)); exact HO129.out) hb); have n3_ := Aside0.mk (Kd.R_below (by (with_reducible repeat (first | apply Kd.R_alloc | apply Kd.R_drewN | apply Kd.R_drew)); exact HO133.out) hb); have n4_ := Aside0.mk (below_step (by repeat (first | (with_reducible first | exact HB.out | apply below_alloc | apply pw_below_drewN | apply below_drew1) | exact HB.out)) hb); clear HO_4; clear HO_7; clear HO129; clear HO133; clear HB; have HO_4 := n0_; have HO_7 := n1_; have HO129 := n2_; have HO133 := n3_; have HB := n4_; clear n0_ n1_ n2_ n3_ n4_; (try clear hb); (try clear hb2); (try clear hk); (try clear hi)))
                          go_meet
                          case rel => exact ⟨_, (true), (by first | rfl | (simp; done) | (simp [*]; done)), H', ⟨by have := HJ7.out; have := HJ27.out; first | omega | exact Nat.le_refl _⟩, ⟨by (with_reducible repeat (first | apply Kd.R_alloc | apply Kd.R_drewN | apply Kd.R_drew)); exact Kd.R_mono HO_7.out (fun _ hk => trivial)⟩, ⟨by repeat (first | (with_reducible first | exact HB.out | apply below_alloc | apply pw_below_drewN | apply below_drew1) | exact HB.out)⟩⟩
                      case rest =>
                        clear HC51
                        try clear c1
                        try clear c2
                        try clear p2
                        try clear c3
                        try clear c3b0
                        try clear c4
                        try clear c5
                        try clear c9
                        try clear c15
                        try clear c16
                        try clear c18
                        try clear c20
                        try clear c23
                        try clear c24
                        try clear c26
                        try clear c29
                        try clear c30
                        try clear c33
                        try clear c33b0
                        try clear c35
                        try clear c36
                        try clear c42
                        try clear c45
                        try clear c45b0
                        try clear c48
                        try clear c48b0
                        try clear c48b1
                        try clear c58
                        try clear p2
                        obtain ⟨kq, x87_50, rfl, HA, HJ50, HO_7, HB⟩ := hcut
                        have hl7_50 := (Kd.R_reads' HO_7.out).1
                        rw [hl7_50] at HO_7
                        (try simp only [hl7_50])
                        cases kq with
                        | zero => exact absurd HA.out (by simp [laws_FnExactCombOfTerm.j2])
                        | succ kj50 =>
                          have H := HA.out
                          clear HA
                          simp only [laws_FnExactCombOfTerm.j2] at H
                          by_cases c65 : x87_50 = true
                          · subst c65
                            have H1 : (some false) = some r := by rw [if_pos rfl] at H; exact H
                            clear H
                            have H := H1
                            clear H1
                            obtain rfl := Option.some.inj H
                            go_wp2
                            go_ret
                            exact ⟨by first | rfl | (simp [errW_none, errW_some] <;> rfl) | (simp [*, errW_none, errW_some] <;> rfl), by repeat (first | (with_reducible first | exact HB.out | apply below_alloc | apply pw_below_drewN | apply below_drew1) | exact HB.out)⟩
                          · replace c65 := Bool.eq_false_iff.mpr c65
                            subst c65
                            have H1 : ((laws_heldCombS.f kj50 t125 1).bind fun t135 => (if t135 < 0 then (some false) else (if t135 = t124 then (some true) else (some false)))) = some r := by rw [if_neg (show ¬ (false = true) by decide)] at H; exact H
                            clear H
                            have H := H1
                            clear H1
                            replace H := Option.bind_eq_some_iff.mp H
                            obtain ⟨t135, A660, H⟩ := H
                            replace H : (if t135 < 0 then (some false) else (if t135 = t124 then (some true) else (some false))) = some r := H
                            have A66 := Aside0.mk A660
                            clear A660
                            by_cases c67 : t135 < 0
                            · rw [if_pos c67] at H
                              have c67b0 : decide (t135 < 0) = true := decide_eq_true c67
                              clear c67
                              obtain rfl := Option.some.inj H
                              go_wp2_with (first | ((with_reducible refine gate_callee (f := 30) rfl ?_); refine goesL_ (some 90) rfl rfl Try.func30 (by kernel_rfl) rfl #[.slice Ao52 t125.length co52, .int .i64 1] rfl (by (try simp only [List.map_toArray, List.map_cons, List.map_nil]); first | done | rfl | (simp only [List.length_drop, List.length_take]; rfl)) ?_; (with_reducible refine (laws_heldCombS.calls kj50 _ _ t125 1 t135 _ ?side1 ?side2 A66.out).mono ?_); (case side1 => repeat (first | exact (Kd.R_reads' HO_7.out).2.2 | (with_reducible refine Kd.C_alloc ?_ _) | (with_reducible refine Kd.C_drewN ?_ _) | (with_reducible refine Kd.C_drew ?_))); (case side2 => exact (Kd.R_reads' HO_7.out).2.1); rintro e w' ⟨rfl, ⟨nd, rfl⟩⟩; refine ⟨_, rfl, ?_⟩))
                              go_ret
                              exact ⟨by first | rfl | (simp [errW_none, errW_some] <;> rfl) | (simp [*, errW_none, errW_some] <;> rfl), by repeat (first | (with_reducible first | exact HB.out | apply below_alloc | apply pw_below_drewN | apply below_drew1) | exact HB.out)⟩
                            · rw [if_neg c67] at H
                              have c67b0 : decide (t135 < 0) = false := decide_eq_false c67
                              clear c67
                              by_cases c68 : t135 = t124
                              · rw [if_pos c68] at H
                                have c68b0 : (t135 == t124) = true := beq_iff_eq.mpr c68
                                have c68b1 : (t135 != t124) = false := bne_eq_false_iff_eq.mpr c68
                                clear c68
                                obtain rfl := Option.some.inj H
                                go_wp2_with (first | ((with_reducible refine gate_callee (f := 30) rfl ?_); refine goesL_ (some 90) rfl rfl Try.func30 (by kernel_rfl) rfl #[.slice Ao52 t125.length co52, .int .i64 1] rfl (by (try simp only [List.map_toArray, List.map_cons, List.map_nil]); first | done | rfl | (simp only [List.length_drop, List.length_take]; rfl)) ?_; (with_reducible refine (laws_heldCombS.calls kj50 _ _ t125 1 t135 _ ?side1 ?side2 A66.out).mono ?_); (case side1 => repeat (first | exact (Kd.R_reads' HO_7.out).2.2 | (with_reducible refine Kd.C_alloc ?_ _) | (with_reducible refine Kd.C_drewN ?_ _) | (with_reducible refine Kd.C_drew ?_))); (case side2 => exact (Kd.R_reads' HO_7.out).2.1); rintro e w' ⟨rfl, ⟨nd, rfl⟩⟩; refine ⟨_, rfl, ?_⟩))
                                go_ret
                                exact ⟨by first | rfl | (simp [errW_none, errW_some] <;> rfl) | (simp [*, errW_none, errW_some] <;> rfl), by repeat (first | (with_reducible first | exact HB.out | apply below_alloc | apply pw_below_drewN | apply below_drew1) | exact HB.out)⟩
                              · rw [if_neg c68] at H
                                have c68b0 : (t135 == t124) = false := beq_eq_false_iff_ne.mpr c68
                                have c68b1 : (t135 != t124) = true := bne_iff_ne.mpr c68
                                obtain rfl := Option.some.inj H
                                go_wp2_with (first | ((with_reducible refine gate_callee (f := 30) rfl ?_); refine goesL_ (some 90) rfl rfl Try.func30 (by kernel_rfl) rfl #[.slice Ao52 t125.length co52, .int .i64 1] rfl (by (try simp only [List.map_toArray, List.map_cons, List.map_nil]); first | done | rfl | (simp only [List.length_drop, List.length_take]; rfl)) ?_; (with_reducible refine (laws_heldCombS.calls kj50 _ _ t125 1 t135 _ ?side1 ?side2 A66.out).mono ?_); (case side1 => repeat (first | exact (Kd.R_reads' HO_7.out).2.2 | (with_reducible refine Kd.C_alloc ?_ _) | (with_reducible refine Kd.C_drewN ?_ _) | (with_reducible refine Kd.C_drew ?_))); (case side2 => exact (Kd.R_reads' HO_7.out).2.1); rintro e w' ⟨rfl, ⟨nd, rfl⟩⟩; refine ⟨_, rfl, ?_⟩))
                                go_ret
                                exact ⟨by first | rfl | (simp [errW_none, errW_some] <;> rfl) | (simp [*, errW_none, errW_some] <;> rfl), by repeat (first | (with_reducible first | exact HB.out | apply below_alloc | apply pw_below_drewN | apply below_drew1) | exact HB.out)⟩
                    · rw [if_neg c48] at H
                      have c48b0 : (t126 == t124) = false := beq_eq_false_iff_ne.mpr c48
                      have c48b1 : (t126 != t124) = true := bne_iff_ne.mpr c48
                      obtain rfl := Option.some.inj H
                      obtain ⟨Ao69, co69, eo69⟩ := Kd.R_slice HO_7.out
                      subst eo69
                      go_wp2_with (first | ((with_reducible refine gate_callee (f := 29) rfl ?_); refine goesL_ (some 64) rfl rfl Try.func29 (by kernel_rfl) rfl #[.slice Ao69 t112.length co69, .int .i64 1] rfl (by (try simp only [List.map_toArray, List.map_cons, List.map_nil]); first | done | rfl | (simp only [List.length_drop, List.length_take]; rfl)) ?_; (with_reducible refine (laws_markCombS.calls kj27 (fun k_ => some k_ = (.slice Ao69 t112.length co69 : Value).ownBlock) (.slice Ao69 t112.length co69) t112 1 t124 t125 w _ ?side1 ?side2 A43.out).mono ?_); (case side1 => repeat (first | (with_reducible first | exact HB.out | apply below_alloc | apply pw_below_drewN | apply below_drew1) | exact HB.out)); (case side2 => exact Kd.R_tight rfl HO_7.out); rintro e w70 ⟨rfl, hy0, hb, hkp⟩; refine ⟨_, rfl, ?_⟩; have n0_ := Aside0.mk (Kd.R_mono (ok' := fun k_ => some k_ ≠ (.slice Ao69 t112.length co69 : Value).ownBlock) (Kd.R_keptB (HO_4.out) hkp (fun k_ hk_ hs_ => (hk_) hs_)) (fun k_ hk_ => hk_.1)); have n1_ := Aside0.mk (Kd.R_reok rfl hy0 (fun k_ e_ => HO_7.out.1 k_ e_)); have n2_ := Aside0.mk (hb); clear HO_4; clear HO_7; clear HB; have HO_4 := n0_; have HO_7 := n1_; have HB := n2_; clear n0_ n1_ n2_; (try clear hb); (try clear hkp); (try clear hy0)) | ((with_reducible refine gate_callee (f := 30) rfl ?_); refine goesL_ (some 67) rfl rfl Try.func30 (by kernel_rfl) rfl #[.slice Ao69 t125.length co69, .int .i64 1] rfl (by (try simp only [List.map_toArray, List.map_cons, List.map_nil]); first | done | (rw [show t125.length = t112.length from (Kd.R_reads' HO_7.out).1.symm] <;> rfl) | rfl | (simp only [List.length_drop, List.length_take]; rfl)) ?_; (with_reducible refine (laws_heldCombS.calls kj27 _ _ t125 1 t126 _ ?side1 ?side2 A44.out).mono ?_); (case side1 => repeat (first | exact (Kd.R_reads' HO_7.out).2.2 | (with_reducible refine Kd.C_alloc ?_ _) | (with_reducible refine Kd.C_drewN ?_ _) | (with_reducible refine Kd.C_drew ?_))); (case side2 => rw [show t125.length = t112.length from (Kd.R_reads' HO_7.out).1.symm]; exact (Kd.R_reads' HO_7.out).2.1); rintro e w' ⟨rfl, ⟨nd, rfl⟩⟩; refine ⟨_, rfl, ?_⟩))
                      go_ret
                      exact ⟨by first | rfl | (simp [errW_none, errW_some] <;> rfl) | (simp [*, errW_none, errW_some] <;> rfl), by repeat (first | (with_reducible first | exact HB.out | apply below_alloc | apply pw_below_drewN | apply below_drew1) | exact HB.out)⟩
          · replace c26 := Bool.eq_false_iff.mpr c26
            subst c26
            have H1 : (some false) = some r := by rw [if_neg (show ¬ (false = true) by decide)] at H; exact H
            clear H
            have H := H1
            clear H1
            obtain rfl := Option.some.inj H
            go_wp2_with (first | ((with_reducible refine gate_callee (f := 18) rfl ?_); refine goesL_ (some 43) rfl rfl Try.func18 (by kernel_rfl) rfl #[.slice A0 l0.length c0] rfl (by (try simp only [List.map_toArray, List.map_cons, List.map_nil]); first | done | rfl | (simp only [List.length_drop, List.length_take]; rfl)) ?_; (with_reducible refine (laws_toTermS.calls kj7 _ _ l0 t117 _ ?side1 ?side2 A24.out).mono ?_); (case side1 => repeat (first | exact (Kd.C_below HR0.out HB.out) | (with_reducible refine Kd.C_alloc ?_ _) | (with_reducible refine Kd.C_drewN ?_ _) | (with_reducible refine Kd.C_drew ?_))); (case side2 => exact HC0.out); rintro e w71 ⟨v118, rfl, ho0, hb⟩; refine ⟨_, rfl, ?_⟩; have n0_ := Aside0.mk (Kd.R_below (by (with_reducible repeat (first | apply Kd.R_alloc | apply Kd.R_drewN | apply Kd.R_drew)); exact HO_4.out) hb); have n1_ := Aside0.mk (Kd.R_elder' (by (with_reducible repeat (first | apply Kd.R_alloc | apply Kd.R_drewN | apply Kd.R_drew)); exact HO_6.out) (Kd.R_base ho0) hb); have n2_ := Aside0.mk (Kd.R_below (by (with_reducible repeat (first | apply Kd.R_alloc | apply Kd.R_drewN | apply Kd.R_drew)); exact HO_7.out) hb); have n3_ := Aside0.mk (Kd.R_lower (Kd.R_new' ho0 (Kd.R_lt (by (with_reducible repeat (first | apply Kd.R_alloc | apply Kd.R_drewN | apply Kd.R_drew)); exact HO_6.out))) (below_size (by repeat (first | (with_reducible first | exact HB.out | apply below_alloc | apply pw_below_drewN | apply below_drew1) | exact HB.out)))); have n4_ := Aside0.mk (below_step (by repeat (first | (with_reducible first | exact HB.out | apply below_alloc | apply pw_below_drewN | apply below_drew1) | exact HB.out)) hb); clear HO_4; clear HO_6; clear HO_7; clear HB; have HO_4 := n0_; have HO_6 := n1_; have HO_7 := n2_; have HO119 := n3_; have HB := n4_; clear n0_ n1_ n2_ n3_ n4_; (try clear hb); (try clear hb2); (try clear hk); (try clear hi); (try clear ho0); obtain ⟨Ao72, co72, eo72⟩ := Kd.R_slice HO119.out; subst eo72) | ((with_reducible refine gate_callee (f := 20) rfl ?_); refine goesL_ (some 44) rfl rfl Try.func20 (by kernel_rfl) rfl #[.slice Ao13 t109.length co13, .slice Ao72 t117.length co72] rfl (by (try simp only [List.map_toArray, List.map_cons, List.map_nil]); first | done | rfl | (simp only [List.length_drop, List.length_take]; rfl)) ?_; (with_reducible refine (laws_eqTermS.calls kj7 _ _ t109 _ _ t117 false _ ?side1 ?side2 ?side3 ?side4 A25.out).mono ?_); (case side1 => repeat (first | exact (Kd.R_reads' HO_6.out).2.2 | (with_reducible refine Kd.C_alloc ?_ _) | (with_reducible refine Kd.C_drewN ?_ _) | (with_reducible refine Kd.C_drew ?_))); (case side2 => exact (Kd.R_reads' HO_6.out).2.1); (case side3 => repeat (first | exact (Kd.R_reads' HO119.out).2.2 | (with_reducible refine Kd.C_alloc ?_ _) | (with_reducible refine Kd.C_drewN ?_ _) | (with_reducible refine Kd.C_drew ?_))); (case side4 => exact (Kd.R_reads' HO119.out).2.1); rintro e w73 ⟨rfl, hb⟩; refine ⟨_, rfl, ?_⟩; have n0_ := Aside0.mk (Kd.R_below (by (with_reducible repeat (first | apply Kd.R_alloc | apply Kd.R_drewN | apply Kd.R_drew)); exact HO_4.out) hb); have n1_ := Aside0.mk (Kd.R_below (by (with_reducible repeat (first | apply Kd.R_alloc | apply Kd.R_drewN | apply Kd.R_drew)); exact HO_6.out) hb); have n2_ := Aside0.mk (Kd.R_below (by (with_reducible repeat (first | apply Kd.R_alloc | apply Kd.R_drewN | apply Kd.R_drew)); exact HO_7.out) hb); have n3_ := Aside0.mk (Kd.R_below (by (with_reducible repeat (first | apply Kd.R_alloc | apply Kd.R_drewN | apply Kd.R_drew)); exact HO119.out) hb); have n4_ := Aside0.mk (below_step (by repeat (first | (with_reducible first | exact HB.out | apply below_alloc | apply pw_below_drewN | apply below_drew1) | exact HB.out)) hb); clear HO_4; clear HO_6; clear HO_7; clear HO119; clear HB; have HO_4 := n0_; have HO_6 := n1_; have HO_7 := n2_; have HO119 := n3_; have HB := n4_; clear n0_ n1_ n2_ n3_ n4_; (try clear hb); (try clear hb2); (try clear hk); (try clear hi)))
            go_ret
            exact ⟨by first | rfl | (simp [errW_none, errW_some] <;> rfl) | (simp [*, errW_none, errW_some] <;> rfl), by repeat (first | (with_reducible first | exact HB.out | apply below_alloc | apply pw_below_drewN | apply below_drew1) | exact HB.out)⟩

def laws_FnExactCombOfTerm.Pure : Prop := ∀ (l0 : List (S65)), (l0.length ≤ 9223372036854775807 ∧ ∀ x_ ∈ l0, ((Lit.int .i64 x_.f0).wf = true ∧ (Lit.int .i64 x_.f1).wf = true ∧ (Lit.int .i64 x_.f2).wf = true)) → ∃ k, laws_FnExactCombOfTerm.f k l0 = some true

end Go.Proofs.Ytcjhhdecckcibaa.G

namespace Go.Proofs.Ytcjhhdecckcibaa.G
open Go.RowKit Go.Proofs.YtcjhhdecckcibaaW.PrintWords Go.Proofs.YtcjhhdecckcibaaW.PrintLast Go.Proofs.YtcjhhdecckcibaaW.PrintMore
attribute [local go_sem] max2_int min2_int max_two min_two max_three min_three max_four min_four   -- for this text's walks alone
set_option linter.unusedVariables false
set_option linter.unusedSimpArgs false

def laws_szCombS.f (l0 : List (S55)) (a1 : Int) : Option (Int) := if (wrap64 (a1 - (l0.length : Int))) < 0 then (some (-1)) else (some (wrap64 (a1 - (l0.length : Int))))
end Go.Proofs.Ytcjhhdecckcibaa.G

namespace Go.Proofs.Ytcjhhdecckcibaa.G
open Go.RowKit Go.Proofs.YtcjhhdecckcibaaW.PrintWords Go.Proofs.YtcjhhdecckcibaaW.PrintLast Go.Proofs.YtcjhhdecckcibaaW.PrintMore
attribute [local go_sem] max2_int min2_int max_two min_two max_three min_three max_four min_four   -- for this text's walks alone
set_option linter.unusedVariables false
set_option linter.unusedSimpArgs false

mutual
def impl_combAt.j0 : Nat → List (S52) → Int → Bool → Option (Int × Int × (List (S58)) × Int × Bool)
  | 0, _, _, _ => none
  | k + 1, x0, x1, x42 => if x42 = true then (some (0, 0, ([] : List (S58)), 0, false)) else (if 0 ≤ x1 then (if x1 < (x0.length : Int) then (impl_combAt.l0 k x0 x1 (wrap64 (x1 + 1)) ((rd_T52 x0 x1).f0) ((rd_T52 x0 x1).f1) ([] : List (S58))) else (none)) else (none))
def impl_combAt.l0 : Nat → List (S52) → Int → Int → Int → Int → List (S58) → Option (Int × Int × (List (S58)) × Int × Bool)
  | 0, _, _, _, _, _, _ => none
  | k + 1, x0, x1, x10, x108000, x108001, x108002 => if x108000 = 2 then (impl_combAt.j2 k x0 x1 x10 (decide ((x108002.length : Int) < 2)) x108000 x108001 x108002) else (impl_combAt.j2 k x0 x1 x10 false x108000 x108001 x108002)
def impl_combAt.j2 : Nat → List (S52) → Int → Int → Bool → Int → Int → List (S58) → Option (Int × Int × (List (S58)) × Int × Bool)
  | 0, _, _, _, _, _, _, _ => none
  | k + 1, x0, x1, x10, x65, x108000, x108001, x108002 => if x65 = true then ((impl_combAt.f k x0 x10 x1).bind fun bt108 => (if bt108.2.2.2.2 = true then (if x108002.length < 3518437208883 then (impl_combAt.l0 k x0 x1 bt108.2.2.2.1 x108000 x108001 (x108002 ++ [(⟨bt108.1, bt108.2.1, bt108.2.2.1⟩ : S58)])) else (none)) else (some (0, 0, ([] : List (S58)), 0, false)))) else (some (x108000, x108001, x108002, x10, true))
def impl_combAt.f : Nat → List (S52) → Int → Int → Option (Int × Int × (List (S58)) × Int × Bool)
  | 0, _, _, _ => none
  | k + 1, l0, a1, a2 => if a1 = (l0.length : Int) then (impl_combAt.j0 k l0 a1 true) else (if 0 ≤ a1 then (if a1 < (l0.length : Int) then (if ((rd_T52 l0 a1).f2) = a2 then (if ((rd_T52 l0 a1).f0) < 1 then (impl_combAt.j0 k l0 a1 true) else (impl_combAt.j0 k l0 a1 (decide (((rd_T52 l0 a1).f0) > 5)))) else (impl_combAt.j0 k l0 a1 true)) else (none)) else (none))
end
end Go.Proofs.Ytcjhhdecckcibaa.G

namespace Go.Proofs.Ytcjhhdecckcibaa.G
open Go.RowKit Go.Proofs.YtcjhhdecckcibaaW.PrintWords Go.Proofs.YtcjhhdecckcibaaW.PrintLast Go.Proofs.YtcjhhdecckcibaaW.PrintMore
attribute [local go_sem] max2_int min2_int max_two min_two max_three min_three max_four min_four   -- for this text's walks alone
set_option linter.unusedVariables false
set_option linter.unusedSimpArgs false

def impl_combRoot.j0 : Nat → List (S52) → Bool → Option (Int × Int × (List (S58)) × Bool)
  | 0, _, _ => none
  | k + 1, x0, x14 => if x14 = true then (some (0, 0, ([] : List (S58)), false)) else ((impl_combAt.f k x0 0 (-1)).bind fun bt102 => (if bt102.2.2.2.2 = true then (if bt102.2.2.2.1 = (x0.length : Int) then ((impl_comb_isGood.f k bt102.1 bt102.2.1 bt102.2.2.1).bind fun t110 => (some (bt102.1, bt102.2.1, bt102.2.2.1, t110))) else (some (bt102.1, bt102.2.1, bt102.2.2.1, false))) else (some (bt102.1, bt102.2.1, bt102.2.2.1, false))))
def impl_combRoot.f (k : Nat) (l0 : List (S52)) : Option (Int × Int × (List (S58)) × Bool) := if (l0.length : Int) < 1 then (impl_combRoot.j0 k l0 true) else (impl_combRoot.j0 k l0 (decide ((l0.length : Int) > 200)))
end Go.Proofs.Ytcjhhdecckcibaa.G

namespace Go.Proofs.Ytcjhhdecckcibaa.EvL
open Go.RowKit Go.Proofs.YtcjhhdecckcibaaW.PrintWords
set_option linter.unusedVariables false

theorem w64 {x : Int} (h1 : -9223372036854775808 ≤ x) (h2 : x ≤ 9223372036854775807) : wrap64 x = x := by unfold wrap64; omega
theorem Ev.const {α : Type} {a : Option α} {r : α} (h : a = some r) : Ev (fun _ => a) r := ⟨0, fun _ _ => h⟩
theorem Ev.of_eq {α : Type} {g : Nat → Option α} {r r' : α} (h : Ev g r) (e : r = r') : Ev g r' := e ▸ h
theorem Ev.ite_pos {α : Type} {c : Prop} [Decidable c] {g f : Nat → Option α} {r : α} (hc : c) (h : Ev g r) : Ev (fun k => if c then g k else f k) r := Ev.congr (fun k => if_pos hc) h
theorem Ev.ite_neg {α : Type} {c : Prop} [Decidable c] {g f : Nat → Option α} {r : α} (hc : ¬ c) (h : Ev f r) : Ev (fun k => if c then g k else f k) r := Ev.congr (fun k => if_neg hc) h
theorem Ev.succ {α : Type} {g : Nat → Option α} {r : α} (h : Ev (fun k => g (k + 1)) r) : Ev g r := Ev.step (fun k => rfl) h
theorem Ev.unique {α : Type} {g : Nat → Option α} {r r' : α} (h : Ev g r) (h' : Ev g r') : r = r' := by
  obtain ⟨K, hK⟩ := h
  obtain ⟨K', hK'⟩ := h'
  have h1 := hK (max K K') (Nat.le_max_left ..)
  have h2 := hK' (max K K') (Nat.le_max_right ..)
  rw [h1] at h2
  exact Option.some.inj h2

theorem ev_all (F : Nat → Int → Option Bool) (n : Nat) (p : Nat → Bool) (hs : ∀ (k i : Nat), i < n → F (k + 1) i = if p i = true then F k ((i + 1 : Nat) : Int) else some false) (he : ∀ k, F (k + 1) n = some true) :
    ∀ (d i : Nat), i + d = n → Ev (fun k => F k i) ((List.range d).all fun j => p (i + j)) := by
  intro d
  induction d with
  | zero => intro i hi; obtain rfl : i = n := by omega
            exact Ev.step he (Ev.now _)
  | succ d ih =>
    intro i hi
    have e : ((List.range (d + 1)).all fun j => p (i + j)) = (p i && (List.range d).all fun j => p (i + 1 + j)) := by
      rw [List.range_succ_eq_map, List.all_cons, List.all_map, Nat.add_zero]
      congr 1; congr 1; funext j; show p (i + (j + 1)) = _; congr 1; omega
    rw [e]
    by_cases hp : p i = true
    · refine Ev.step (fun k => (hs k i (by omega)).trans (if_pos hp)) ?_
      rw [hp, Bool.true_and]
      exact ih (i + 1) (by omega)
    · refine Ev.step (fun k => (hs k i (by omega)).trans (if_neg hp)) ?_
      rw [Bool.eq_false_iff.mpr hp, Bool.false_and]
      exact Ev.now _

theorem ev_fill {β : Type} (F : Nat → List β → Int → Option (List β)) (n : Nat) (g : Nat → β) (hs : ∀ (k : Nat) (acc : List β) (i : Nat), i < n → acc.length = n → F (k + 1) acc i = F k (acc.set i (g i)) ((i + 1 : Nat) : Int))
    (he : ∀ (k : Nat) (acc : List β), acc.length = n → F (k + 1) acc n = some acc) :
    ∀ (d i : Nat) (acc : List β), i + d = n → acc.length = n → Ev (fun k => F k acc i) (acc.take i ++ (List.range d).map fun j => g (i + j)) := by
  intro d
  induction d with
  | zero => intro i acc hi hl; obtain rfl : i = n := by omega
            rw [List.range_zero, List.map_nil, List.append_nil, List.take_of_length_le (by omega)]
            exact Ev.step (fun k => he k acc hl) (Ev.now _)
  | succ d ih =>
    intro i acc hi hl
    refine Ev.step (fun k => hs k acc i (by omega) hl) ?_
    refine Ev.of_eq (ih (i + 1) (acc.set i (g i)) (by omega) (by simpa using hl)) ?_
    rw [List.range_succ_eq_map, List.map_cons, List.map_map, Nat.add_zero]
    have e : (acc.set i (g i)).take (i + 1) = acc.take i ++ [g i] := by
      rw [List.take_succ_eq_append_getElem (by simp; omega)]
      simp [List.take_set_of_le]
    rw [e, List.append_assoc]
    congr 1
    rw [List.singleton_append]
    congr 1
    apply List.map_congr_left
    intro j _
    show g (i + 1 + j) = g (i + (j + 1))
    congr 1; omega

theorem range_getD {β : Type} (l : List β) (z : β) : (List.range l.length).map (fun j => l.getD j z) = l := by
  apply List.ext_getElem
  · simp
  · intro i h1 h2; simp [List.getD_eq_getElem?_getD, List.getElem?_eq_getElem h2]

end Go.Proofs.Ytcjhhdecckcibaa.EvL

namespace Go.Proofs.Ytcjhhdecckcibaa.TreeM
set_option linter.unusedVariables false

structure Nd where
  kind : Int
  n : Int
  up : Int
inductive Tr where
  | leaf (k n : Int)
  | un (k n : Int) (a : Tr)
  | bin (k n : Int) (a b : Tr)
def Tr.kind : Tr → Int
  | .leaf k _ => k
  | .un k _ _ => k
  | .bin k _ _ _ => k
def Tr.num : Tr → Int
  | .leaf _ n => n
  | .un _ n _ => n
  | .bin _ n _ _ => n
def Tr.size : Tr → Nat
  | .leaf _ _ => 1
  | .un _ _ a => 1 + a.size
  | .bin _ _ a b => 1 + a.size + b.size
def Tr.depth : Tr → Nat
  | .leaf _ _ => 1
  | .un _ _ a => a.depth + 1
  | .bin _ _ a b => max a.depth b.depth + 1
def Tr.all (p : Int → Int → Prop) : Tr → Prop
  | .leaf k n => p k n
  | .un k n a => p k n ∧ a.all p
  | .bin k n a b => p k n ∧ a.all p ∧ b.all p

def z : Nd := ⟨0, 0, 0⟩
def up (l : List Nd) (i : Nat) : Int := (l.getD i z).up
theorem up_of {l : List Nd} {i : Nat} {x : Nd} (h : l[i]? = some x) : up l i = x.up := by unfold up; rw [List.getD_eq_getElem?_getD, h]; rfl
theorem lt_of {l : List Nd} {i : Nat} {x : Nd} (h : l[i]? = some x) : i < l.length := by
  by_cases hi : i < l.length
  · exact hi
  · rw [List.getElem?_eq_none (by omega)] at h; cases h
theorem get_of {l : List Nd} {i : Nat} (h : i < l.length) : l[i]? = some (l.getD i z) := by rw [List.getD_eq_getElem?_getD, List.getElem?_eq_getElem h]; rfl

def chain (l : List Nd) (i : Nat) : List Nat := i :: if h : 0 ≤ up l i ∧ up l i < (i : Int) then chain l (up l i).toNat else []
termination_by i
decreasing_by omega
theorem chain_self (l : List Nd) (i : Nat) : i ∈ chain l i := by rw [chain]; simp
theorem chain_up {l : List Nd} {i : Nat} (h : 0 ≤ up l i ∧ up l i < (i : Int)) : chain l i = i :: chain l (up l i).toNat := by rw [chain, dif_pos h]
theorem chain_top {l : List Nd} {i : Nat} (h : ¬ (0 ≤ up l i ∧ up l i < (i : Int))) : chain l i = [i] := by rw [chain, dif_neg h]
theorem chain_le {l : List Nd} : ∀ (i j : Nat), j ∈ chain l i → j ≤ i := by
  intro i
  induction i using Nat.strongRecOn with
  | _ i ih =>
    intro j hj
    by_cases h : 0 ≤ up l i ∧ up l i < (i : Int)
    · rw [chain_up h, List.mem_cons] at hj
      rcases hj with rfl | hj
      · exact Nat.le_refl _
      · have := ih _ (by omega) j hj; omega
    · rw [chain_top h] at hj
      have : j = i := by simpa using hj
      omega
theorem chain_trans {l : List Nd} : ∀ (i j x : Nat), j ∈ chain l i → x ∈ chain l j → x ∈ chain l i := by
  intro i
  induction i using Nat.strongRecOn with
  | _ i ih =>
    intro j x hj hx
    by_cases h : 0 ≤ up l i ∧ up l i < (i : Int)
    · rw [chain_up h, List.mem_cons] at hj
      rcases hj with rfl | hj
      · exact hx
      · rw [chain_up h]
        exact List.mem_cons_of_mem _ (ih _ (by omega) j x hj hx)
    · rw [chain_top h] at hj
      obtain rfl : j = i := by simpa using hj
      exact hx
theorem chain_below {l : List Nd} : ∀ (i j x : Nat), j ∈ chain l i → x ∈ chain l i → x ≤ j → x ∈ chain l j := by
  intro i
  induction i using Nat.strongRecOn with
  | _ i ih =>
    intro j x hj hx hle
    by_cases h : 0 ≤ up l i ∧ up l i < (i : Int)
    · rw [chain_up h, List.mem_cons] at hj hx
      rcases hj with rfl | hj
      · rw [chain_up h]; exact List.mem_cons.mpr hx
      · rcases hx with rfl | hx
        · have := chain_le _ _ hj; omega
        · exact ih _ (by omega) j x hj hx hle
    · rw [chain_top h] at hj hx
      obtain rfl : j = i := by simpa using hj
      rw [chain_top h]; exact hx
theorem chain_mem_up {l : List Nd} {i : Nat} (h : 0 ≤ up l i ∧ up l i < (i : Int)) {x : Nat} (hx : x ∈ chain l i) (hne : x ≠ i) : x ∈ chain l (up l i).toNat := by
  rw [chain_up h, List.mem_cons] at hx
  exact hx.resolve_left hne

def cnt (l : List Nd) (i : Nat) : Nat → Nat → Nat
  | _, 0 => 0
  | a, d + 1 => (if up l a = (i : Int) then 1 else 0) + cnt l i (a + 1) d
theorem cnt_add (l : List Nd) (i : Nat) : ∀ (d a d' : Nat), cnt l i a (d + d') = cnt l i a d + cnt l i (a + d) d'
  | 0, a, d' => by simp [cnt]
  | d + 1, a, d' => by
    have e : d + 1 + d' = (d + d') + 1 := by omega
    rw [e]
    show (if up l a = (i : Int) then 1 else 0) + cnt l i (a + 1) (d + d') = (if up l a = (i : Int) then 1 else 0) + cnt l i (a + 1) d + cnt l i (a + (d + 1)) d'
    rw [cnt_add l i d (a + 1) d', show a + 1 + d = a + (d + 1) by omega]; omega
theorem cnt_zero (l : List Nd) (i : Nat) : ∀ (d a : Nat), (∀ m, a ≤ m → m < a + d → up l m ≠ (i : Int)) → cnt l i a d = 0
  | 0, a, h => rfl
  | d + 1, a, h => by
    show (if up l a = (i : Int) then 1 else 0) + cnt l i (a + 1) d = 0
    rw [if_neg (h a (Nat.le_refl _) (by omega)), cnt_zero l i d (a + 1) (fun m h1 h2 => h m (by omega) (by omega))]

structure Arity where
  top : Int
  want : Int → Nat

inductive Par (A : Arity) (l : List Nd) : Nat → Int → Tr → Nat → Prop
  | leaf {i : Nat} {u k n : Int} (h : l[i]? = some ⟨k, n, u⟩) (hk : 1 ≤ k ∧ k ≤ A.top) (hw : A.want k = 0) : Par A l i u (.leaf k n) (i + 1)
  | un {i e : Nat} {u k n : Int} {a : Tr} (h : l[i]? = some ⟨k, n, u⟩) (hk : 1 ≤ k ∧ k ≤ A.top) (hw : A.want k = 1) (ha : Par A l (i + 1) i a e) : Par A l i u (.un k n a) e
  | bin {i e e' : Nat} {u k n : Int} {a b : Tr} (h : l[i]? = some ⟨k, n, u⟩) (hk : 1 ≤ k ∧ k ≤ A.top) (hw : A.want k = 2) (ha : Par A l (i + 1) i a e) (hb : Par A l e i b e') : Par A l i u (.bin k n a b) e'

theorem Par.span {A : Arity} {l : List Nd} {i e : Nat} {u : Int} {t : Tr} (h : Par A l i u t e) : e = i + t.size ∧ e ≤ l.length ∧ up l i = u := by
  induction h with
  | @leaf i u k n h hk hw => exact ⟨rfl, lt_of h, up_of h⟩
  | @un i e u k n a h hk hw ha ih => exact ⟨by rw [ih.1]; show _ = _ + (1 + _); omega, ih.2.1, up_of h⟩
  | @bin i e e' u k n a b h hk hw ha hb ih1 ih2 => exact ⟨by rw [ih2.1, ih1.1]; show _ = _ + (1 + _ + _); omega, ih2.2.1, up_of h⟩
theorem Tr.size_pos (t : Tr) : 0 < t.size := by cases t <;> (simp only [Tr.size]; omega)
theorem Par.lt {A : Arity} {l : List Nd} {i e : Nat} {u : Int} {t : Tr} (h : Par A l i u t e) : i < e := by have := h.span.1; have := t.size_pos; omega

theorem Par.inside {A : Arity} {l : List Nd} {i e : Nat} {u : Int} {t : Tr} (h : Par A l i u t e) : ∀ m, i < m → m < e → (i : Int) ≤ up l m ∧ up l m < (m : Int) := by
  induction h with
  | @leaf i u k n h hk hw => intro m h1 h2; omega
  | @un i e u k n a h hk hw ha ih =>
    intro m h1 h2
    by_cases hm : m = i + 1
    · subst hm; rw [ha.span.2.2]; omega
    · have := ih m (by omega) h2; omega
  | @bin i e e' u k n a b h hk hw ha hb ih1 ih2 =>
    intro m h1 h2
    have := ha.lt
    by_cases hm : m = i + 1
    · subst hm; rw [ha.span.2.2]; omega
    · by_cases hme : m < e
      · have := ih1 m (by omega) hme; omega
      · by_cases hm2 : m = e
        · subst hm2; rw [hb.span.2.2]; omega
        · have := ih2 m (by omega) h2; omega

theorem anc_of_sub {l : List Nd} {i e : Nat} (h : ∀ m, i < m → m < e → (i : Int) ≤ up l m ∧ up l m < (m : Int)) : ∀ m, i ≤ m → m < e → i ∈ chain l m := by
  intro m
  induction m using Nat.strongRecOn with
  | _ m ih =>
    intro h1 h2
    by_cases hm : m = i
    · subst hm; exact chain_self l m
    · have hu := h m (by omega) h2
      rw [chain_up (by omega)]
      exact List.mem_cons_of_mem _ (ih (up l m).toNat (by omega) (by omega) (by omega))

theorem Par.around {A : Arity} {l : List Nd} {i e : Nat} {u : Int} {t : Tr} (h : Par A l i u t e) : ∀ m, i < m → m < e → (up l m).toNat ∈ chain l (m - 1) := by
  induction h with
  | @leaf i u k n h hk hw => intro m h1 h2; omega
  | @un i e u k n a h hk hw ha ih =>
    intro m h1 h2
    by_cases hm : m = i + 1
    · subst hm; rw [ha.span.2.2]; exact chain_self l i
    · exact ih m (by omega) h2
  | @bin i e e' u k n a b h hk hw ha hb ih1 ih2 =>
    intro m h1 h2
    have hlt := ha.lt
    by_cases hm : m = i + 1
    · subst hm; rw [ha.span.2.2]; exact chain_self l i
    · by_cases hme : m < e
      · exact ih1 m (by omega) hme
      · by_cases hm2 : m = e
        · subst hm2
          rw [hb.span.2.2]
          exact anc_of_sub (e := m) (fun q h3 h4 => (Par.bin h hk hw ha hb).inside q h3 (by have := hb.lt; omega)) (m - 1) (by omega) (by omega)
        · exact ih2 m (by omega) h2

theorem Par.counts {A : Arity} {l : List Nd} {i e : Nat} {u : Int} {t : Tr} (h : Par A l i u t e) : ∀ m, i ≤ m → m < e → ∃ k n v, l[m]? = some ⟨k, n, v⟩ ∧ (1 ≤ k ∧ k ≤ A.top) ∧ cnt l m (m + 1) (e - (m + 1)) = A.want k := by
  induction h with
  | @leaf i u k n h hk hw =>
    intro m h1 h2
    obtain rfl : m = i := by omega
    exact ⟨k, n, u, h, hk, by rw [hw, Nat.sub_self]; rfl⟩
  | @un i e u k n a h hk hw ha ih =>
    intro m h1 h2
    have hlt := ha.lt
    by_cases hm : m = i
    · subst hm
      refine ⟨k, n, u, h, hk, ?_⟩
      obtain ⟨d, hd⟩ : ∃ d, e - (m + 1) = d + 1 := ⟨e - (m + 1) - 1, by omega⟩
      rw [hd, hw]
      show (if up l (m + 1) = (m : Int) then 1 else 0) + cnt l m (m + 1 + 1) d = 1
      rw [if_pos ha.span.2.2, cnt_zero]
      intro q h3 h4
      have := ha.inside q (by omega) (by omega); omega
    · exact ih m (by omega) h2
  | @bin i e e' u k n a b h hk hw ha hb ih1 ih2 =>
    intro m h1 h2
    have hlt := ha.lt
    have hlt2 := hb.lt
    by_cases hm : m = i
    · subst hm
      refine ⟨k, n, u, h, hk, ?_⟩
      obtain ⟨d, hd⟩ : ∃ d, e - (m + 1) = d + 1 := ⟨e - (m + 1) - 1, by omega⟩
      obtain ⟨d2, hd2⟩ : ∃ d2, e' - e = d2 + 1 := ⟨e' - e - 1, by omega⟩
      rw [show e' - (m + 1) = (d + 1) + (d2 + 1) by omega, hw, cnt_add, show m + 1 + (d + 1) = e by omega]
      show (if up l (m + 1) = (m : Int) then 1 else 0) + cnt l m (m + 1 + 1) d + ((if up l e = (m : Int) then 1 else 0) + cnt l m (e + 1) d2) = 2
      rw [if_pos ha.span.2.2, if_pos hb.span.2.2, cnt_zero, cnt_zero]
      · intro q h3 h4
        have := hb.inside q (by omega) (by omega); omega
      · intro q h3 h4
        have := ha.inside q (by omega) (by omega); omega
    · by_cases hme : m < e
      · obtain ⟨k', n', v', h3, h4, h5⟩ := ih1 m (by omega) hme
        refine ⟨k', n', v', h3, h4, ?_⟩
        rw [show e' - (m + 1) = (e - (m + 1)) + (e' - e) by omega, cnt_add, h5, show m + 1 + (e - (m + 1)) = e by omega, cnt_zero, Nat.add_zero]
        intro q h6 h7
        by_cases hq : q = e
        · subst hq; rw [hb.span.2.2]; omega
        · have := hb.inside q (by omega) (by omega); omega
      · exact ih2 m (by omega) h2

theorem Par.deep {A : Arity} {l : List Nd} {i e : Nat} {u : Int} {t : Tr} (h : Par A l i u t e) : (∀ m, i ≤ m → m < e → (chain l m).length + 1 ≤ (chain l i).length + t.depth) ∧ ∃ m, i ≤ m ∧ m < e ∧ (chain l m).length + 1 = (chain l i).length + t.depth := by
  have up1 : ∀ (q i : Nat), up l q = (i : Int) → i < q → (chain l q).length = (chain l i).length + 1 := fun q i h1 h2 => by
    rw [chain_up (by omega), h1]; simp
  induction h with
  | @leaf i u k n h hk hw =>
    exact ⟨fun m h1 h2 => by obtain rfl : m = i := by omega
                             exact Nat.le_refl _, i, Nat.le_refl _, by omega, rfl⟩
  | @un i e u k n a h hk hw ha ih =>
    have hlt := ha.lt
    have e1 := up1 (i + 1) i ha.span.2.2 (by omega)
    refine ⟨fun m h1 h2 => ?_, ?_⟩
    · by_cases hm : m = i
      · subst hm; show _ ≤ _ + (a.depth + 1); omega
      · have := ih.1 m (by omega) h2; show _ ≤ _ + (a.depth + 1); omega
    · obtain ⟨m, h1, h2, h3⟩ := ih.2
      exact ⟨m, by omega, h2, by show _ = _ + (a.depth + 1); omega⟩
  | @bin i e e' u k n a b h hk hw ha hb ih1 ih2 =>
    have hlt := ha.lt
    have hlt2 := hb.lt
    have e1 := up1 (i + 1) i ha.span.2.2 (by omega)
    have e2 := up1 e i hb.span.2.2 (by omega)
    refine ⟨fun m h1 h2 => ?_, ?_⟩
    · show _ ≤ _ + (max a.depth b.depth + 1)
      by_cases hm : m = i
      · subst hm; omega
      · by_cases hme : m < e
        · have := ih1.1 m (by omega) hme; omega
        · have := ih2.1 m (by omega) h2; omega
    · by_cases hd : b.depth ≤ a.depth
      · obtain ⟨m, h1, h2, h3⟩ := ih1.2
        exact ⟨m, by omega, by omega, by show _ = _ + (max a.depth b.depth + 1); omega⟩
      · obtain ⟨m, h1, h2, h3⟩ := ih2.2
        exact ⟨m, by omega, by omega, by show _ = _ + (max a.depth b.depth + 1); omega⟩

theorem Par.alls {A : Arity} {l : List Nd} {i e : Nat} {u : Int} {t : Tr} (h : Par A l i u t e) (p : Int → Int → Prop) : t.all p ↔ ∀ m, i ≤ m → m < e → p (l.getD m z).kind (l.getD m z).n := by
  have at1 : ∀ (q : Nat) (x : Nd), l[q]? = some x → l.getD q z = x := fun q x h => by rw [List.getD_eq_getElem?_getD, h]; rfl
  induction h with
  | @leaf i u k n h hk hw =>
    constructor
    · intro h1 m h2 h3
      obtain rfl : m = i := by omega
      rw [at1 _ _ h]; exact h1
    · intro h1
      have := h1 i (Nat.le_refl _) (by omega)
      rw [at1 _ _ h] at this; exact this
  | @un i e u k n a h hk hw ha ih =>
    have hlt := ha.lt
    constructor
    · rintro ⟨h1, h2⟩ m h3 h4
      by_cases hm : m = i
      · subst hm; rw [at1 _ _ h]; exact h1
      · exact ih.mp h2 m (by omega) h4
    · intro h1
      have := h1 i (Nat.le_refl _) (by omega)
      rw [at1 _ _ h] at this
      exact ⟨this, ih.mpr (fun m h3 h4 => h1 m (by omega) h4)⟩
  | @bin i e e' u k n a b h hk hw ha hb ih1 ih2 =>
    have hlt := ha.lt
    have hlt2 := hb.lt
    constructor
    · rintro ⟨h1, h2, h2'⟩ m h3 h4
      by_cases hm : m = i
      · subst hm; rw [at1 _ _ h]; exact h1
      · by_cases hme : m < e
        · exact ih1.mp h2 m (by omega) hme
        · exact ih2.mp h2' m (by omega) h4
    · intro h1
      have := h1 i (Nat.le_refl _) (by omega)
      rw [at1 _ _ h] at this
      exact ⟨this, ih1.mpr (fun m h3 h4 => h1 m (by omega) (by omega)), ih2.mpr (fun m h3 h4 => h1 m (by omega) (by omega))⟩

structure Loc (A : Arity) (l : List Nd) : Prop where
  root : ∀ h : 0 < l.length, up l 0 = -1
  ahead : ∀ m, 0 < m → m < l.length → 0 ≤ up l m ∧ up l m < (m : Int)
  around : ∀ m, 0 < m → m < l.length → (up l m).toNat ∈ chain l (m - 1)
  kinds : ∀ m, m < l.length → 1 ≤ (l.getD m z).kind ∧ (l.getD m z).kind ≤ A.top
  wants : ∀ m, m < l.length → cnt l m (m + 1) (l.length - (m + 1)) = A.want (l.getD m z).kind

theorem Par.loc {A : Arity} {l : List Nd} {t : Tr} (h : Par A l 0 (-1) t l.length) : Loc A l := by
  have at1 : ∀ (q : Nat) (x : Nd), l[q]? = some x → l.getD q z = x := fun q x h => by rw [List.getD_eq_getElem?_getD, h]; rfl
  refine ⟨fun _ => h.span.2.2, fun m h1 h2 => by have := h.inside m h1 h2; omega, fun m h1 h2 => h.around m h1 h2, fun m h1 => ?_, fun m h1 => ?_⟩
  · obtain ⟨k, n, v, h2, h3, _⟩ := h.counts m (by omega) h1
    rw [at1 _ _ h2]; exact h3
  · obtain ⟨k, n, v, h2, _, h3⟩ := h.counts m (by omega) h1
    rw [at1 _ _ h2]; exact h3

theorem Loc.past {A : Arity} {l : List Nd} (L : Loc A l) {i e : Nat} (hi : i < e) (he : e < l.length) (hu : up l e < (i : Int)) : ∀ m, e ≤ m → m < l.length → ∀ x ∈ chain l m, x < i ∨ e ≤ x := by
  intro m
  induction m using Nat.strongRecOn with
  | _ m ih =>
    intro h1 h2 x hx
    have ha := L.ahead m (by omega) h2
    rw [chain_up ha, List.mem_cons] at hx
    rcases hx with rfl | hx
    · exact .inr h1
    · by_cases hm : m = e
      · subst hm
        have := chain_le _ _ hx
        exact .inl (by omega)
      · exact ih (m - 1) (by omega) (by omega) (by omega) x (chain_trans _ _ _ (L.around m (by omega) h2) hx)

theorem Loc.par {A : Arity} {l : List Nd} (L : Loc A l) (hA : ∀ k, A.want k ≤ 2) : ∀ (d i : Nat), i + d = l.length → 0 < d → ∃ t e, Par A l i (up l i) t e ∧ (e = l.length ∨ up l e < (i : Int)) := by
  intro d
  induction d using Nat.strongRecOn with
  | _ d ih =>
    intro i hi hd
    have hlt : i < l.length := by omega
    have hx : l[i]? = some ⟨(l.getD i z).kind, (l.getD i z).n, up l i⟩ := get_of hlt
    have hk := L.kinds i hlt
    have hw := L.wants i hlt
    -- the first part, if there is any
    have first : ∀ h : 0 < A.want (l.getD i z).kind, i + 1 < l.length ∧ up l (i + 1) = (i : Int) := by
      intro h
      have h1 : i + 1 < l.length := by
        by_cases h1 : i + 1 < l.length
        · exact h1
        · rw [show l.length - (i + 1) = 0 by omega] at hw
          have : cnt l i (i + 1) 0 = 0 := rfl
          omega
      refine ⟨h1, ?_⟩
      have ha := L.ahead (i + 1) (by omega) h1
      by_cases hu : up l (i + 1) = (i : Int)
      · exact hu
      · have hz : cnt l i (i + 1) (l.length - (i + 1)) = 0 := cnt_zero l i _ _ (fun m h2 h3 he => by
          have hp := L.past (i := i) (e := i + 1) (by omega) h1 (by omega) m (by omega) (by omega) i (by
            rw [chain_up (L.ahead m (by omega) (by omega)), he, Int.toNat_natCast]
            exact List.mem_cons_of_mem _ (chain_self l i))
          omega)
        omega
    by_cases h0 : A.want (l.getD i z).kind = 0
    · refine ⟨_, i + 1, .leaf hx hk h0, ?_⟩
      by_cases h1 : i + 1 < l.length
      · refine .inr ?_
        have ha := L.ahead (i + 1) (by omega) h1
        by_cases hu : up l (i + 1) = (i : Int)
        · obtain ⟨d', hd'⟩ : ∃ d', l.length - (i + 1) = d' + 1 := ⟨l.length - (i + 1) - 1, by omega⟩
          rw [hd', h0] at hw
          have hw' : (if up l (i + 1) = (i : Int) then 1 else 0) + cnt l i (i + 1 + 1) d' = 0 := hw
          rw [if_pos hu] at hw'; omega
        · omega
      · exact .inl (by omega)
    · obtain ⟨h1, hu1⟩ := first (by omega)
      obtain ⟨a, e1, pa, he1⟩ := ih (l.length - (i + 1)) (by omega) (i + 1) (by omega) (by omega)
      rw [hu1] at pa
      have hs1 := pa.span
      have hl1 := pa.lt
      have c1 : cnt l i (i + 1) (e1 - (i + 1)) = 1 := by
        obtain ⟨d', hd'⟩ : ∃ d', e1 - (i + 1) = d' + 1 := ⟨e1 - (i + 1) - 1, by omega⟩
        rw [hd']
        show (if up l (i + 1) = (i : Int) then 1 else 0) + cnt l i (i + 1 + 1) d' = 1
        rw [if_pos hu1, cnt_zero]
        intro q h3 h4
        have := pa.inside q (by omega) (by omega); omega
      have c2 : cnt l i (i + 1) (l.length - (i + 1)) = 1 + cnt l i e1 (l.length - e1) := by
        rw [show l.length - (i + 1) = (e1 - (i + 1)) + (l.length - e1) by omega, cnt_add, c1, show i + 1 + (e1 - (i + 1)) = e1 by omega]
      by_cases hw1 : A.want (l.getD i z).kind = 1
      · refine ⟨_, e1, .un hx hk hw1 pa, ?_⟩
        by_cases h2 : e1 < l.length
        · refine .inr ?_
          have hu := he1.resolve_left (by omega)
          by_cases hq : up l e1 = (i : Int)
          · obtain ⟨d', hd'⟩ : ∃ d', l.length - e1 = d' + 1 := ⟨l.length - e1 - 1, by omega⟩
            have : cnt l i e1 (l.length - e1) = (if up l e1 = (i : Int) then 1 else 0) + cnt l i (e1 + 1) d' := by rw [hd']; rfl
            rw [if_pos hq] at this; omega
          · omega
        · exact .inl (by omega)
      · have hw2 : A.want (l.getD i z).kind = 2 := by have := hA (l.getD i z).kind; omega
        have h2 : e1 < l.length := by
          by_cases h2 : e1 < l.length
          · exact h2
          · rw [show l.length - e1 = 0 by omega] at c2
            have : cnt l i e1 0 = 0 := rfl
            omega
        have hu := he1.resolve_left (by omega)
        have hu2 : up l e1 = (i : Int) := by
          by_cases hq : up l e1 = (i : Int)
          · exact hq
          · have hz : cnt l i e1 (l.length - e1) = 0 := cnt_zero l i _ _ (fun m h3 h4 he => by
              have hp := L.past (i := i) (e := e1) (by omega) h2 (by omega) m (by omega) (by omega) i (by
                rw [chain_up (L.ahead m (by omega) (by omega)), he, Int.toNat_natCast]
                exact List.mem_cons_of_mem _ (chain_self l i))
              omega)
            omega
        obtain ⟨b, e2, pb, he2⟩ := ih (l.length - e1) (by omega) e1 (by omega) (by omega)
        rw [hu2] at pb
        have hl2 := pb.lt
        have hs2 := pb.span
        refine ⟨_, e2, .bin hx hk hw2 pa pb, ?_⟩
        by_cases h3 : e2 < l.length
        · refine .inr ?_
          have hv := he2.resolve_left (by omega)
          have hav := L.ahead e2 (by omega) h3
          have hanc : e1 ∈ chain l (e2 - 1) := anc_of_sub (e := e2) (fun q h5 h6 => by have := pb.inside q h5 h6; omega) (e2 - 1) (by omega) (by omega)
          have hin := chain_below _ _ _ hanc (L.around e2 (by omega) h3) (by omega)
          have hin2 := chain_mem_up (L.ahead e1 (by omega) h2) hin (by omega)
          rw [hu2, Int.toNat_natCast] at hin2
          have hle := chain_le _ _ hin2
          by_cases hq : up l e2 = (i : Int)
          · obtain ⟨d1, hd1⟩ : ∃ d', e2 - e1 = d' + 1 := ⟨e2 - e1 - 1, by omega⟩
            obtain ⟨d2, hd2⟩ : ∃ d', l.length - e2 = d' + 1 := ⟨l.length - e2 - 1, by omega⟩
            have e3 : cnt l i e1 (l.length - e1) = cnt l i e1 (e2 - e1) + cnt l i e2 (l.length - e2) := by
              rw [show l.length - e1 = (e2 - e1) + (l.length - e2) by omega, cnt_add, show e1 + (e2 - e1) = e2 by omega]
            have e4 : cnt l i e1 (e2 - e1) = (if up l e1 = (i : Int) then 1 else 0) + cnt l i (e1 + 1) d1 := by rw [hd1]; rfl
            have e5 : cnt l i e2 (l.length - e2) = (if up l e2 = (i : Int) then 1 else 0) + cnt l i (e2 + 1) d2 := by rw [hd2]; rfl
            rw [if_pos hu2] at e4
            rw [if_pos hq] at e5
            omega
          · omega
        · exact .inl (by omega)

theorem loc_iff {A : Arity} {l : List Nd} (hA : ∀ k, A.want k ≤ 2) (hl : 0 < l.length) : Loc A l ↔ ∃ t, Par A l 0 (-1) t l.length := by
  constructor
  · intro L
    obtain ⟨t, e, h, he⟩ := L.par hA l.length 0 (by omega) hl
    rw [L.root hl] at h
    rcases he with rfl | he
    · exact ⟨t, h⟩
    · have hlt := h.lt
      have hs := h.span
      by_cases h2 : e < l.length
      · have := L.ahead e (by omega) h2; omega
      · obtain rfl : e = l.length := by omega
        exact ⟨t, h⟩
  · rintro ⟨t, h⟩
    exact h.loc

theorem Par.unique {A : Arity} {l : List Nd} {i e e' : Nat} {u : Int} {t t' : Tr} (h : Par A l i u t e) (h' : Par A l i u t' e') : t = t' ∧ e = e' := by
  induction h generalizing t' e' with
  | @leaf i u k n h hk hw =>
    cases h' with
    | leaf h2 _ _ => rw [h] at h2; injection h2 with h2; injection h2 with a b c; subst a; subst b; exact ⟨rfl, rfl⟩
    | un h2 _ hw2 _ => rw [h] at h2; injection h2 with h2; injection h2 with a b c; subst a; omega
    | bin h2 _ hw2 _ _ => rw [h] at h2; injection h2 with h2; injection h2 with a b c; subst a; omega
  | @un i e u k n a h hk hw ha ih =>
    cases h' with
    | leaf h2 _ hw2 => rw [h] at h2; injection h2 with h2; injection h2 with a b c; subst a; omega
    | un h2 _ _ ha2 =>
      rw [h] at h2; injection h2 with h2; injection h2 with a b c; subst a; subst b
      obtain ⟨rfl, rfl⟩ := ih ha2
      exact ⟨rfl, rfl⟩
    | bin h2 _ hw2 _ _ => rw [h] at h2; injection h2 with h2; injection h2 with a b c; subst a; omega
  | @bin i e e' u k n a b h hk hw ha hb ih1 ih2 =>
    cases h' with
    | leaf h2 _ hw2 => rw [h] at h2; injection h2 with h2; injection h2 with a b c; subst a; omega
    | un h2 _ hw2 _ => rw [h] at h2; injection h2 with h2; injection h2 with a b c; subst a; omega
    | bin h2 _ _ ha2 hb2 =>
      rw [h] at h2; injection h2 with h2; injection h2 with a b c; subst a; subst b
      obtain ⟨rfl, rfl⟩ := ih1 ha2
      obtain ⟨rfl, rfl⟩ := ih2 hb2
      exact ⟨rfl, rfl⟩
end Go.Proofs.Ytcjhhdecckcibaa.TreeM

namespace Go.Proofs.Ytcjhhdecckcibaa.CombL
open Go.RowKit Go.Proofs.Ytcjhhdecckcibaa.G Go.Proofs.Ytcjhhdecckcibaa.EvL Go.Proofs.Ytcjhhdecckcibaa.TreeM Go.Proofs.YtcjhhdecckcibaaW.PrintWords Go.Proofs.YtcjhhdecckcibaaW.PrintLast
set_option linter.unusedVariables false

def conv (c : S55) : S52 := ⟨c.f0, c.f1, c.f2⟩
def nd (c : S52) : Nd := ⟨c.f0, c.f1, c.f2⟩
theorem rdC (l : List S52) (i : Nat) : rd_T52 l (i : Int) = l.getD i z52 := by unfold rd_T52; rw [Int.toNat_natCast]
theorem rdL (l : List S55) (i : Nat) : rd_T55 l (i : Int) = l.getD i z55 := by unfold rd_T55; rw [Int.toNat_natCast]
theorem next (i : Nat) {n : Nat} (h : i < n) (hn : n ≤ 9223372036854775807) : wrap64 ((i : Int) + 1) = ((i + 1 : Nat) : Int) := by rw [w64 (by omega) (by omega)]; omega
theorem getD_nd (l : List S52) (i : Nat) : (l.map nd).getD i z = nd (l.getD i z52) := by
  rw [List.getD_eq_getElem?_getD, List.getD_eq_getElem?_getD, List.getElem?_map]
  cases l[i]? <;> rfl
theorem up_nd (l : List S52) (i : Nat) : (l.getD i z52).f2 = TreeM.up (l.map nd) i := by unfold TreeM.up; rw [getD_nd]; rfl

theorem eqCombs (a : List S52) (ha : a.length ≤ 9223372036854775807) : Ev (fun k => laws_eqCombS.f k a a) true := by
  unfold laws_eqCombS.f
  refine Ev.ite_pos rfl ?_
  refine Ev.of_eq (ev_all (fun k i => laws_eqCombS.l0 k a a i) a.length (fun _ => true) ?_ ?_ a.length 0 (by omega)) (by simp)
  · intro k i hi
    simp only [laws_eqCombS.l0, laws_eqComb.f]
    rw [if_pos (by omega), if_pos (by omega), if_pos (by omega)]
    simp only [if_true, Option.bind_some]
    rw [next i hi ha]
  · intro k
    simp only [laws_eqCombS.l0]
    rw [if_neg (by omega)]

theorem l1In_eq (a b c : Int) : spec_l1In.f a b c = some (decide (b ≤ a ∧ a ≤ c)) := by
  unfold spec_l1In.f
  by_cases h : a ≥ b
  · rw [if_pos h]; congr 1; exact decide_eq_decide.mpr (by omega)
  · rw [if_neg h, decide_eq_false (by omega)]

def ar : Arity := ⟨5, fun k => if k = 2 then 2 else 0⟩
theorem ar2 (k : Int) : ar.want k ≤ 2 := by show (if k = 2 then 2 else 0) ≤ 2; split <;> omega

structure NodeOk (L : List Nd) (m : Nat) : Prop where
  top : m = 0 ↔ up L m = -1
  ahead : -1 ≤ up L m ∧ up L m < (m : Int)
  kind : 1 ≤ (L.getD m z).kind ∧ (L.getD m z).kind ≤ 5
  num : 0 ≤ (L.getD m z).n ∧ (L.getD m z).n ≤ 999 ∧ ((L.getD m z).kind = 1 ∨ (L.getD m z).n = 0)
  around : m = 0 ∨ ∃ x ∈ chain L (m - 1), (x : Int) = up L m
  deep : (chain L m).length ≤ 60
  wants : cnt L m (m + 1) (L.length - (m + 1)) = ar.want (L.getD m z).kind

theorem parts (l : List S52) (i : Nat) (hl : l.length ≤ 200) : ∀ (d a : Nat) (acc : List Int), a + d = l.length → acc.length + d ≤ 200 → ∃ r, Ev (fun k => spec_ldParts.l0 k l i acc a) r ∧ r.length = acc.length + cnt (l.map nd) i a d := by
  intro d
  induction d with
  | zero =>
    intro a acc ha _
    refine ⟨acc, Ev.step (f := fun _ => some acc) (fun k => ?_) (Ev.now _), rfl⟩
    simp only [spec_ldParts.l0]
    rw [if_neg (by omega)]
  | succ d ih =>
    intro a acc ha hacc
    by_cases h : up (l.map nd) a = (i : Int)
    · obtain ⟨r, hr, hn⟩ := ih (a + 1) (acc ++ [(a : Int)]) (by omega) (by simp; omega)
      refine ⟨r, Ev.step (fun k => ?_) hr, ?_⟩
      · simp only [spec_ldParts.l0]
        rw [if_pos (by omega), if_pos (by omega), rdC, up_nd, if_pos h, if_pos (by omega), next a (n := l.length) (by omega) (by omega)]
      · rw [hn, List.length_append]
        show acc.length + 1 + _ = acc.length + ((if up (l.map nd) a = (i : Int) then 1 else 0) + _)
        rw [if_pos h]; omega
    · obtain ⟨r, hr, hn⟩ := ih (a + 1) acc (by omega) (by omega)
      refine ⟨r, Ev.step (fun k => ?_) hr, ?_⟩
      · simp only [spec_ldParts.l0]
        rw [if_pos (by omega), if_pos (by omega), rdC, up_nd, if_neg h, next a (n := l.length) (by omega) (by omega)]
      · rw [hn]
        show _ = acc.length + ((if up (l.map nd) a = (i : Int) then 1 else 0) + _)
        rw [if_neg h]; omega

theorem ldParts (l : List S52) (i : Nat) (hi : i < l.length) (hl : l.length ≤ 200) : ∃ r, Ev (fun k => spec_ldParts.f k l i) r ∧ r.length = cnt (l.map nd) i (i + 1) (l.length - (i + 1)) := by
  obtain ⟨r, hr, hn⟩ := parts l i hl (l.length - (i + 1)) (i + 1) [] (by omega) (by simp; omega)
  refine ⟨r, ?_, by rw [hn]; simp⟩
  unfold spec_ldParts.f
  rw [next i hi (by omega)]
  exact hr

theorem deepLoop (l : List S52) (hl : l.length ≤ 200) (i : Nat) (hi : i < l.length) (b : Bool) (kd n u : Int) (h : ∀ m, m ≤ i → -1 ≤ up (l.map nd) m ∧ up (l.map nd) m < (m : Int)) {r : Bool} :
    ∀ (j d : Nat), j ≤ i → d + j ≤ 400 → Ev (fun k => spec_GoodComb.l2 k l i b ((d + (chain (l.map nd) j).length : Nat) : Int) (-1) l l.length i kd n u) r → Ev (fun k => spec_GoodComb.l2 k l i b (d : Int) (j : Int) l l.length i kd n u) r := by
  intro j
  induction j using Nat.strongRecOn with
  | _ j ih =>
    intro d hj hd hE
    refine Ev.step (f := fun k => spec_GoodComb.l2 k l i b ((d + 1 : Nat) : Int) (up (l.map nd) j) l l.length i kd n u) (fun k => ?_) ?_
    · show (if (j : Int) ≥ 0 then _ else _) = _
      rw [if_pos (by omega), if_pos (by omega), if_pos (by omega), rdC, up_nd, w64 (by omega) (by omega)]
      rfl
    · have hu := h j hj
      by_cases hu0 : 0 ≤ up (l.map nd) j
      · rw [show up (l.map nd) j = (((up (l.map nd) j).toNat : Nat) : Int) by omega]
        refine ih _ (by omega) (d + 1) (by omega) (by omega) ?_
        rw [chain_up ⟨hu0, hu.2⟩, List.length_cons] at hE
        rw [show d + 1 + (chain (l.map nd) (up (l.map nd) j).toNat).length = d + ((chain (l.map nd) (up (l.map nd) j).toNat).length + 1) by omega]
        exact hE
      · rw [chain_top (by omega)] at hE
        rw [show up (l.map nd) j = -1 by omega]
        exact hE

theorem aroundLoop (l : List S52) (hl : l.length ≤ 200) (i : Nat) (hi : i < l.length) (kd n u : Int) (h : ∀ m, m < i → -1 ≤ up (l.map nd) m ∧ up (l.map nd) m < (m : Int)) {r : Bool} {c : Bool} :
    ∀ (j : Nat), j < i → (c = true ↔ ∃ x ∈ chain (l.map nd) j, (x : Int) = u) → Ev (fun k => spec_GoodComb.j3 k l i c l l.length i kd n u) r → Ev (fun k => spec_GoodComb.l1 k l i false (j : Int) l l.length i kd n u) r := by
  intro j
  induction j using Nat.strongRecOn with
  | _ j ih =>
    intro hj hc hE
    have hu := h j hj
    refine Ev.step (f := fun k => spec_GoodComb.l1 k l i ((j : Int) == u) (up (l.map nd) j) l l.length i kd n u) (fun k => ?_) ?_
    · show (if (j : Int) ≥ 0 then _ else _) = _
      rw [if_pos (by omega), if_neg (by simp), if_pos (by omega), if_pos (by omega), rdC, up_nd]
    · by_cases hju : (j : Int) = u
      · obtain rfl : c = true := hc.mpr ⟨j, chain_self _ _, hju⟩
        rw [show ((j : Int) == u) = true by simpa using hju]
        refine Ev.step (f := fun k => spec_GoodComb.j3 k l i true l l.length i kd n u) (fun k => ?_) hE
        simp only [spec_GoodComb.l1]
        simp
      · rw [show ((j : Int) == u) = false by simpa using hju]
        by_cases hu0 : 0 ≤ up (l.map nd) j
        · rw [show up (l.map nd) j = (((up (l.map nd) j).toNat : Nat) : Int) by omega]
          refine ih _ (by omega) (by omega) (hc.trans ?_) hE
          rw [chain_up ⟨hu0, hu.2⟩]
          simp [hju]
        · obtain rfl : c = false := by
            cases c with
            | false => rfl
            | true =>
              obtain ⟨x, hx, hxu⟩ := hc.mp rfl
              rw [chain_top (by omega)] at hx
              have : x = j := by simpa using hx
              subst this; exact absurd hxu hju
          refine Ev.step (f := fun k => spec_GoodComb.j3 k l i false l l.length i kd n u) (fun k => ?_) hE
          simp only [spec_GoodComb.l1]
          rw [if_neg (by omega)]

theorem badNode (l : List S52) (a b c kd n u : Int) : Ev (fun k => spec_GoodComb.j1 k l a l b c true kd n u) false := by
  refine Ev.step (f := fun _ => some false) (fun k => ?_) (Ev.now _)
  simp only [spec_GoodComb.j1]
  rfl

theorem specLoop (l : List S52) (hl : l.length ≤ 200) : ∀ (d i : Nat), i + d = l.length → (∀ m, m < i → -1 ≤ up (l.map nd) m ∧ up (l.map nd) m < (m : Int)) →
    ∃ b, Ev (fun k => spec_GoodComb.l0 k l l l.length i) b ∧ (b = true ↔ ∀ m, i ≤ m → m < l.length → NodeOk (l.map nd) m) := by
  intro d
  induction d with
  | zero =>
    intro i hi _
    refine ⟨true, Ev.step (f := fun _ => some true) (fun k => ?_) (Ev.now _), ?_⟩
    · simp only [spec_GoodComb.l0]
      rw [if_neg (by omega)]
    · exact ⟨fun _ m h1 h2 => by omega, fun _ => rfl⟩
  | succ d ih =>
    intro i hi hah
    have hil : i < l.length := by omega
    have eu : (l.getD i z52).f2 = TreeM.up (l.map nd) i := up_nd l i
    have ek : (l.getD i z52).f0 = ((l.map nd).getD i z).kind := by rw [getD_nd]; rfl
    have en : (l.getD i z52).f1 = ((l.map nd).getD i z).n := by rw [getD_nd]; rfl
    have hlen : (l.map nd).length = l.length := List.length_map ..
    -- a node that is not good
    have bad : ∀ {F : Nat → Option Bool}, ¬ NodeOk (l.map nd) i → Ev F false → ∃ b, Ev F b ∧ (b = true ↔ ∀ m, i ≤ m → m < l.length → NodeOk (l.map nd) m) :=
      fun hn hE => ⟨false, hE, fun h => absurd h (by simp), fun h => absurd (h i (Nat.le_refl _) hil) hn⟩
    generalize hu : up (l.map nd) i = u at *
    generalize hk : ((l.map nd).getD i z).kind = kd at *
    generalize hn : ((l.map nd).getD i z).n = n at *
    have st : ∀ k, spec_GoodComb.l0 (k + 1) l l l.length i = (if ((((i : Int) == 0) != (u == (-1))) = true) then (spec_GoodComb.j1 k l i l l.length i true kd n u) else if (-1 ≤ u ∧ u ≤ (i : Int) - 1) then (if (1 ≤ kd ∧ kd ≤ 5) then (if (0 ≤ n ∧ n ≤ 999) then (if kd = 1 then (spec_GoodComb.j1 k l i l l.length i false kd n u) else (spec_GoodComb.j1 k l i l l.length i (n != 0) kd n u)) else (spec_GoodComb.j1 k l i l l.length i true kd n u)) else (spec_GoodComb.j1 k l i l l.length i true kd n u)) else (spec_GoodComb.j1 k l i l l.length i true kd n u)) := by
      intro k
      simp only [spec_GoodComb.l0]
      rw [if_pos (by omega), if_pos (by omega), if_pos (by omega), rdC, eu, ek, en, l1In_eq, l1In_eq, l1In_eq, w64 (by omega) (by omega)]
      simp only [Option.bind_some, decide_eq_true_eq]
    have hT : ((((i : Int) == 0) != (u == (-1))) = true) ↔ ¬ (i = 0 ↔ u = -1) := by
      have e1 : ((i : Int) == 0) = decide (i = 0) := by rw [Bool.eq_iff_iff]; simp
      have e2 : (u == (-1)) = decide (u = -1) := by rw [Bool.eq_iff_iff]; simp
      rw [e1, e2]
      by_cases h1 : i = 0 <;> by_cases h2 : u = -1 <;> simp [h1, h2]
    by_cases h1 : i = 0 ↔ u = -1
    case neg =>
      exact bad (fun h => h1 (hu ▸ h.top)) (Ev.step (fun k => (st k).trans (if_pos (hT.mpr h1))) (badNode ..))
    have st := fun k => (st k).trans (if_neg (fun h => hT.mp h h1))
    by_cases h2 : -1 ≤ u ∧ u ≤ (i : Int) - 1
    case neg =>
      exact bad (fun h => h2 (by have := h.ahead; rw [hu] at this; omega)) (Ev.step (fun k => (st k).trans (if_neg h2)) (badNode ..))
    have st := fun k => (st k).trans (if_pos h2)
    by_cases h3 : 1 ≤ kd ∧ kd ≤ 5
    case neg =>
      exact bad (fun h => h3 (hk ▸ h.kind)) (Ev.step (fun k => (st k).trans (if_neg h3)) (badNode ..))
    have st := fun k => (st k).trans (if_pos h3)
    by_cases h4 : 0 ≤ n ∧ n ≤ 999
    case neg =>
      exact bad (fun h => h4 (by have := h.num; rw [hn] at this; omega)) (Ev.step (fun k => (st k).trans (if_neg h4)) (badNode ..))
    have st := fun k => (st k).trans (if_pos h4)
    by_cases h5 : kd = 1 ∨ n = 0
    case neg =>
      refine bad (fun h => h5 (by have := h.num; rw [hn, hk] at this; omega)) (Ev.step (f := fun k => spec_GoodComb.j1 k l i l l.length i true kd n u) (fun k => (st k).trans ?_) (badNode ..))
      rw [if_neg (by omega), show (n != 0) = true by simp; omega]
    -- the node itself is good; what it is in, how deep, how many parts
    have st : ∀ k, spec_GoodComb.l0 (k + 1) l l l.length i = spec_GoodComb.j1 k l i l l.length i false kd n u := by
      intro k
      rw [st k]
      by_cases h6 : kd = 1
      · rw [if_pos h6]
      · rw [if_neg h6, show (n != 0) = false by simp; omega]
    have hah' : ∀ m, m < i + 1 → -1 ≤ up (l.map nd) m ∧ up (l.map nd) m < (m : Int) := by
      intro m hm
      by_cases hmi : m = i
      · subst hmi; rw [hu]; omega
      · exact hah m (by omega)
    obtain ⟨b, hb, hbi⟩ := ih (i + 1) (by omega) hah'
    obtain ⟨ps, hps, hpn⟩ := ldParts l i hil hl
    -- the end
    obtain ⟨c, hc⟩ : ∃ c : Bool, c = true ↔ (i = 0 ∨ ∃ x ∈ chain (l.map nd) (i - 1), (x : Int) = u) := by
      by_cases h : (i = 0 ∨ ∃ x ∈ chain (l.map nd) (i - 1), (x : Int) = u)
      · exact ⟨true, by simp [h]⟩
      · exact ⟨false, by simp [h]⟩
    have go : ∀ {r : Bool}, Ev (fun k => spec_GoodComb.l2 k l i c (((chain (l.map nd) i).length : Nat) : Int) (-1) l l.length i kd n u) r → Ev (fun k => spec_GoodComb.l0 k l l l.length i) r := by
      intro r hE
      refine Ev.step st ?_
      refine Ev.step (f := fun k => spec_GoodComb.l1 k l i ((i : Int) == 0) ((i : Int) - 1) l l.length i kd n u) (fun k => ?_) ?_
      · simp only [spec_GoodComb.j1]
        rw [w64 (by omega) (by omega)]
        rfl
      · have hj3 : Ev (fun k => spec_GoodComb.j3 k l i c l l.length i kd n u) r := by
          refine Ev.step (f := fun k => spec_GoodComb.l2 k l i c ((0 : Nat) : Int) (i : Int) l l.length i kd n u) (fun k => rfl) ?_
          refine deepLoop l hl i hil c kd n u (fun m hm => hah' m (by omega)) i 0 (Nat.le_refl _) (by omega) ?_
          rw [Nat.zero_add]; exact hE
        by_cases hi0 : i = 0
        · obtain rfl : c = true := hc.mpr (.inl hi0)
          subst hi0
          refine Ev.step (f := fun k => spec_GoodComb.j3 k l (0 : Nat) true l l.length (0 : Nat) kd n u) (fun k => ?_) hj3
          simp only [spec_GoodComb.l1]
          rfl
        · rw [show ((i : Int) == 0) = false by simpa using hi0, show (i : Int) - 1 = ((i - 1 : Nat) : Int) by omega]
          refine aroundLoop l hl i hil kd n u hah (i - 1) (by omega) (hc.trans ?_) hj3
          simp [hi0]
    have fin : ∀ k, spec_GoodComb.l2 (k + 1) l i c (((chain (l.map nd) i).length : Nat) : Int) (-1) l l.length i kd n u = (if c = true then (if (chain (l.map nd) i).length ≤ 60 then ((spec_ldParts.f k l i).bind fun t => (if t.length = ar.want kd then (spec_GoodComb.l0 k l l l.length ((i + 1 : Nat) : Int)) else (some false))) else some false) else (some false)) := by
      intro k
      simp only [spec_GoodComb.l2]
      rw [if_neg (by decide), next i hil (by omega)]
      have hd : ((((chain (l.map nd) i).length : Nat) : Int) > 60) ↔ ¬ (chain (l.map nd) i).length ≤ 60 := by omega
      have hw : ∀ (t : List Int), (t.length = ar.want kd) ↔ (if kd = 2 then (t.length : Int) = 2 else (t.length : Int) = 0) := by
        intro t
        show (t.length = if kd = 2 then 2 else 0) ↔ _
        by_cases h6 : kd = 2
        · rw [if_pos h6, if_pos h6]; omega
        · rw [if_neg h6, if_neg h6]; omega
      by_cases h6 : kd = 2
      · simp only [hw, if_pos h6]
        by_cases h7 : (chain (l.map nd) i).length ≤ 60
        · simp only [if_pos h7, if_neg (fun h => hd.mp h h7)]
        · simp only [if_neg h7, if_pos (hd.mpr h7)]
      · simp only [hw, if_neg h6]
        by_cases h7 : (chain (l.map nd) i).length ≤ 60
        · simp only [if_pos h7, if_neg (fun h => hd.mp h h7)]
        · simp only [if_neg h7, if_pos (hd.mpr h7)]
    by_cases h7 : c = true
    case neg =>
      exact bad (fun h => h7 (hc.mpr (hu ▸ h.around))) (go (Ev.step (f := fun _ => some false) (fun k => (fin k).trans (if_neg h7)) (Ev.now _)))
    have fin := fun k => (fin k).trans (if_pos h7)
    by_cases h8 : (chain (l.map nd) i).length ≤ 60
    case neg =>
      exact bad (fun h => h8 h.deep) (go (Ev.step (f := fun _ => some false) (fun k => (fin k).trans (if_neg h8)) (Ev.now _)))
    have fin := fun k => (fin k).trans (if_pos h8)
    by_cases h9 : ps.length = ar.want kd
    case neg =>
      exact bad (fun h => h9 (by have := h.wants; rw [hk, hlen] at this; rw [hpn]; exact this)) (go (Ev.step fin (Ev.bind hps (Ev.ite_neg h9 (Ev.now _)))))
    refine ⟨b, go (Ev.step fin (Ev.bind hps (Ev.ite_pos h9 hb))), hbi.trans ?_⟩
    have good : NodeOk (l.map nd) i := by
      refine ⟨by rw [hu]; exact h1, by rw [hu]; omega, by rw [hk]; exact h3, by rw [hn, hk]; exact ⟨h4.1, h4.2, h5⟩, by rw [hu]; exact hc.mp h7, h8, ?_⟩
      rw [hk, hlen, ← hpn]; exact h9
    constructor
    · intro h m hm1 hm2
      by_cases hmi : m = i
      · subst hmi; exact good
      · exact h m (by omega) hm2
    · intro h m hm1 hm2
      exact h m (by omega) hm2
end Go.Proofs.Ytcjhhdecckcibaa.CombL

namespace Go.Proofs.Ytcjhhdecckcibaa.CombL
open Go.RowKit Go.Proofs.Ytcjhhdecckcibaa.G Go.Proofs.Ytcjhhdecckcibaa.EvL Go.Proofs.Ytcjhhdecckcibaa.TreeM Go.Proofs.YtcjhhdecckcibaaW.PrintWords Go.Proofs.YtcjhhdecckcibaaW.PrintLast
set_option linter.unusedVariables false

def toS : Tr → S58
  | .leaf k n => ⟨k, n, []⟩
  | .un k n a => ⟨k, n, [toS a]⟩
  | .bin k n a b => ⟨k, n, [toS a, toS b]⟩

theorem at_nd {l : List S52} {i : Nat} (h : i < l.length) : (l.map nd)[i]? = some ⟨(l.getD i z52).f0, (l.getD i z52).f1, TreeM.up (l.map nd) i⟩ := by
  rw [get_of (by rw [List.length_map]; exact h), getD_nd, ← up_nd]; rfl

theorem combAt_ev (l : List S52) (hl : l.length ≤ 200) : ∀ (d i : Nat) (u : Int), i + d = l.length →
    (∃ t e, Par ar (l.map nd) i u t e ∧ Ev (fun k => impl_combAt.f k l i u) ((toS t).f0, (toS t).f1, (toS t).f2, (e : Int), true)) ∨
    ((∀ t e, ¬ Par ar (l.map nd) i u t e) ∧ Ev (fun k => impl_combAt.f k l i u) (0, 0, ([] : List S58), 0, false)) := by
  intro d
  induction d using Nat.strongRecOn with
  | _ d ih =>
    intro i u hi
    have bad : ∀ {x}, Ev (fun k => impl_combAt.j0 k l x true) (0, 0, ([] : List S58), 0, false) := fun {x} => Ev.step (f := fun _ => some (0, 0, ([] : List S58), 0, false)) (fun k => by simp only [impl_combAt.j0]; rfl) (Ev.now _)
    have hlen : (l.map nd).length = l.length := List.length_map ..
    by_cases hd : d = 0
    · refine .inr ⟨fun t e h => ?_, Ev.step (f := fun k => impl_combAt.j0 k l i true) (fun k => ?_) bad⟩
      · have := h.lt; have := h.span; omega
      · simp only [impl_combAt.f]; rw [if_pos (by omega)]
    have hil : i < l.length := by omega
    have hx := at_nd hil
    generalize hk : (l.getD i z52).f0 = kd at *
    generalize hn : (l.getD i z52).f1 = n at *
    -- what a tree from here on begins with
    have inv : ∀ {t e}, Par ar (l.map nd) i u t e → TreeM.up (l.map nd) i = u ∧ 1 ≤ kd ∧ kd ≤ 5 := by
      intro t e h
      cases h with
      | leaf h2 h3 _ => rw [hx] at h2; injection h2 with h2; injection h2 with a b c; subst a; exact ⟨c, h3⟩
      | un h2 h3 _ _ => rw [hx] at h2; injection h2 with h2; injection h2 with a b c; subst a; exact ⟨c, h3⟩
      | bin h2 h3 _ _ _ => rw [hx] at h2; injection h2 with h2; injection h2 with a b c; subst a; exact ⟨c, h3⟩
    have st : ∀ k, impl_combAt.f (k + 1) l i u = (if TreeM.up (l.map nd) i = u then (if kd < 1 then (impl_combAt.j0 k l i true) else (impl_combAt.j0 k l i (decide (kd > 5)))) else (impl_combAt.j0 k l i true)) := by
      intro k
      simp only [impl_combAt.f]
      rw [if_neg (by omega), if_pos (by omega), if_pos (by omega), rdC, up_nd, hk]
    by_cases h1 : TreeM.up (l.map nd) i = u
    case neg => exact .inr ⟨fun t e h => h1 (inv h).1, Ev.step (fun k => (st k).trans (if_neg h1)) bad⟩
    have st := fun k => (st k).trans (if_pos h1)
    by_cases h2 : kd < 1
    · exact .inr ⟨fun t e h => by have := inv h; omega, Ev.step (fun k => (st k).trans (if_pos h2)) bad⟩
    have st := fun k => (st k).trans (if_neg h2)
    by_cases h3 : kd > 5
    · refine .inr ⟨fun t e h => by have := inv h; omega, Ev.step (f := fun k => impl_combAt.j0 k l i true) (fun k => ?_) bad⟩
      rw [st k, decide_eq_true h3]
    have hkd : 1 ≤ kd ∧ kd ≤ ar.top := ⟨by omega, by show kd ≤ 5; omega⟩
    -- the rounds over its parts
    have go : ∀ {r}, Ev (fun k => impl_combAt.l0 k l i ((i + 1 : Nat) : Int) kd n []) r → Ev (fun k => impl_combAt.f k l i u) r := by
      intro r hE
      refine Ev.step (f := fun k => impl_combAt.j0 k l i false) (fun k => ?_) (Ev.step (fun k => ?_) hE)
      · rw [st k, decide_eq_false h3]
      · simp only [impl_combAt.j0]
        rw [if_neg (by simp), if_pos (by omega), if_pos (by omega), rdC, hk, hn, next i hil (by omega)]
    have done : ∀ (e : Int) (ps : List S58), (kd = 2 → ps.length = 2) → Ev (fun k => impl_combAt.l0 k l i e kd n ps) (kd, n, ps, e, true) := by
      intro e ps hps
      refine Ev.step (f := fun k => impl_combAt.j2 k l i e false kd n ps) (fun k => ?_) (Ev.step (f := fun _ => some (kd, n, ps, e, true)) (fun k => ?_) (Ev.now _))
      · simp only [impl_combAt.l0]
        by_cases h : kd = 2
        · rw [if_pos h, decide_eq_false (by have := hps h; omega)]
        · rw [if_neg h]
      · simp only [impl_combAt.j2]; rfl
    have one : ∀ (e : Nat) (ps : List S58), kd = 2 → ps.length < 2 → ∀ {r}, Ev (fun k => (impl_combAt.f k l e i).bind fun bt => (if bt.2.2.2.2 = true then (if ps.length < 3518437208883 then (impl_combAt.l0 k l i bt.2.2.2.1 kd n (ps ++ [(⟨bt.1, bt.2.1, bt.2.2.1⟩ : S58)])) else (none)) else (some (0, 0, ([] : List S58), 0, false)))) r → Ev (fun k => impl_combAt.l0 k l i e kd n ps) r := by
      intro e ps hk2 hps r hE
      refine Ev.step (f := fun k => impl_combAt.j2 k l i e true kd n ps) (fun k => ?_) (Ev.step (fun k => ?_) hE)
      · simp only [impl_combAt.l0]
        rw [if_pos hk2, decide_eq_true (by omega)]
      · simp only [impl_combAt.j2]; rfl
    by_cases hk2 : kd = 2
    case neg =>
      refine .inl ⟨.leaf kd n, i + 1, .leaf (by rw [hx, h1]) hkd (by show (if kd = 2 then 2 else 0) = 0; rw [if_neg hk2]), ?_⟩
      exact go (done _ _ (fun h => absurd h hk2))
    have hw : ar.want kd = 2 := by show (if kd = 2 then 2 else 0) = 2; rw [if_pos hk2]
    have invb : ∀ {t e}, Par ar (l.map nd) i u t e → ∃ a b e1, Par ar (l.map nd) (i + 1) i a e1 ∧ Par ar (l.map nd) e1 i b e := by
      intro t e h
      cases h with
      | leaf h2 _ h4 => rw [hx] at h2; injection h2 with h2; injection h2 with a b c; subst a; omega
      | un h2 _ h4 _ => rw [hx] at h2; injection h2 with h2; injection h2 with a b c; subst a; omega
      | bin _ _ _ h5 h6 => exact ⟨_, _, _, h5, h6⟩
    rcases ih (d - 1) (by omega) (i + 1) i (by omega) with ⟨a, e1, pa, ea⟩ | ⟨na, ea⟩
    case inr =>
      refine .inr ⟨fun t e h => ?_, go (one _ _ hk2 (by simp) (Ev.bind ea (Ev.ite_neg (by simp) (Ev.now _))))⟩
      obtain ⟨a, b, e1, h5, _⟩ := invb h
      exact na _ _ h5
    have s1 := pa.span
    have l1 := pa.lt
    rcases ih (l.length - e1) (by omega) e1 i (by omega) with ⟨b, e2, pb, eb⟩ | ⟨nb, eb⟩
    case inr =>
      refine .inr ⟨fun t e h => ?_, go (one _ _ hk2 (by simp) (Ev.bind ea (Ev.ite_pos rfl (Ev.ite_pos (by simp) (one _ _ hk2 (by simp) (Ev.bind eb (Ev.ite_neg (by simp) (Ev.now _))))))))⟩
      obtain ⟨a', b', e1', h5, h6⟩ := invb h
      obtain ⟨_, rfl⟩ := pa.unique h5
      exact nb _ _ h6
    refine .inl ⟨.bin kd n a b, e2, .bin (by rw [hx, h1]) hkd hw pa pb, ?_⟩
    have ea' : (⟨(toS a).f0, (toS a).f1, (toS a).f2⟩ : S58) = toS a := by cases toS a; rfl
    have eb' : (⟨(toS b).f0, (toS b).f1, (toS b).f2⟩ : S58) = toS b := by cases toS b; rfl
    refine go (one _ [] hk2 (by simp) (Ev.bind ea (Ev.ite_pos rfl (Ev.ite_pos (by simp) ?_))))
    show Ev (fun k => impl_combAt.l0 k l i (e1 : Int) kd n ([] ++ [(⟨(toS a).f0, (toS a).f1, (toS a).f2⟩ : S58)])) _
    rw [ea', List.nil_append]
    refine one e1 [toS a] hk2 (by simp) (Ev.bind eb (Ev.ite_pos rfl (Ev.ite_pos (by simp) ?_)))
    show Ev (fun k => impl_combAt.l0 k l i (e2 : Int) kd n ([toS a] ++ [(⟨(toS b).f0, (toS b).f1, (toS b).f2⟩ : S58)])) _
    rw [eb']
    exact done (e2 : Int) [toS a, toS b] (fun _ => rfl)

def numOk (k n : Int) : Prop := 0 ≤ n ∧ n ≤ 999 ∧ (k = 1 ∨ n = 0)

theorem Tr.depth_le (t : Tr) : t.depth ≤ t.size ∧ 1 ≤ t.depth := by
  induction t with
  | leaf k n => exact ⟨Nat.le_refl _, Nat.le_refl _⟩
  | un k n a ih => show a.depth + 1 ≤ 1 + a.size ∧ 1 ≤ a.depth + 1; omega
  | bin k n a b iha ihb => show max a.depth b.depth + 1 ≤ 1 + a.size + b.size ∧ 1 ≤ max a.depth b.depth + 1; omega

theorem measure_ev : ∀ (t : Tr), t.size ≤ 4000 → ∃ b, Ev (fun k => impl_comb_measure.f k (toS t).f0 (toS t).f1 (toS t).f2) ((t.size : Int), (t.depth : Int), b) ∧ (b = true ↔ t.all numOk) := by
  -- the node itself
  have node : ∀ (kd n : Int) (ps : List S58), ∃ c : Bool, (c = true ↔ numOk kd n) ∧ ∀ {r}, Ev (fun k => impl_comb_measure.l0 k 1 0 c ps ps.length 0) r → Ev (fun k => impl_comb_measure.f k kd n ps) r := by
    intro kd n ps
    have fin : ∀ (c : Bool) {r}, Ev (fun k => impl_comb_measure.l0 k 1 0 c ps ps.length 0) r → Ev (fun k => impl_comb_measure.j0 k 1 0 c kd n ps) r := fun c r h => Ev.step (fun k => rfl) h
    unfold numOk
    by_cases h1 : n ≥ 0
    · by_cases h2 : n ≤ 999
      · by_cases h3 : kd = 1
        · exact ⟨true, by simp; omega, fun h => Ev.step (fun k => by simp only [impl_comb_measure.f]; rw [if_pos h1, if_pos h2, if_pos h3]) (fin _ h)⟩
        · exact ⟨n == 0, by simp; omega, fun h => Ev.step (fun k => by simp only [impl_comb_measure.f]; rw [if_pos h1, if_pos h2, if_neg h3]) (fin _ h)⟩
      · exact ⟨false, by simp; omega, fun h => Ev.step (fun k => by simp only [impl_comb_measure.f]; rw [if_pos h1, if_neg h2]) (fin _ h)⟩
    · exact ⟨false, by simp; omega, fun h => Ev.step (fun k => by simp only [impl_comb_measure.f]; rw [if_neg h1]) (fin _ h)⟩
  have fin : ∀ (s dp : Nat) (c : Bool) (ps : List S58), dp ≤ 4000 → Ev (fun k => impl_comb_measure.l0 k s dp c ps ps.length ps.length) ((s : Int), ((dp + 1 : Nat) : Int), c) := by
    intro s dp c ps hd
    refine Ev.step (f := fun _ => some ((s : Int), ((dp + 1 : Nat) : Int), c)) (fun k => ?_) (Ev.now _)
    simp only [impl_comb_measure.l0]
    rw [if_neg (by omega), w64 (by omega) (by omega)]
    rfl
  have part : ∀ (s dp i s2 d2 : Nat) (c b : Bool) (ps : List S58) (x : S58), i < ps.length → ps.length ≤ 2 → rd_T58 ps i = x → s + s2 ≤ 4000 → Ev (fun k => impl_comb_measure.f k x.f0 x.f1 x.f2) ((s2 : Int), (d2 : Int), b) → ∀ {r}, Ev (fun k => impl_comb_measure.l0 k ((s + s2 : Nat) : Int) ((max dp d2 : Nat) : Int) (c && b) ps ps.length ((i + 1 : Nat) : Int)) r → Ev (fun k => impl_comb_measure.l0 k s dp c ps ps.length i) r := by
    intro s dp i s2 d2 c b ps x hi hl hx hs hE r h
    have hm : mx (dp : Int) (d2 : Int) = ((max dp d2 : Nat) : Int) := by unfold mx; split <;> omega
    refine Ev.step (f := fun k => (impl_comb_measure.f k x.f0 x.f1 x.f2).bind fun bt => (if c = true then (impl_comb_measure.l0 k (wrap64 ((s : Int) + bt.1)) (mx dp bt.2.1) bt.2.2 ps ps.length ((i + 1 : Nat) : Int)) else (impl_comb_measure.l0 k (wrap64 ((s : Int) + bt.1)) (mx dp bt.2.1) false ps ps.length ((i + 1 : Nat) : Int)))) (fun k => ?_) (Ev.bind hE ?_)
    · simp only [impl_comb_measure.l0]
      rw [if_pos (by omega), if_pos (by omega), if_pos (by omega), hx, next i hi (by omega)]
    · show Ev (fun k => if c = true then (impl_comb_measure.l0 k (wrap64 ((s : Int) + s2)) (mx dp d2) b ps ps.length ((i + 1 : Nat) : Int)) else (impl_comb_measure.l0 k (wrap64 ((s : Int) + s2)) (mx dp d2) false ps ps.length ((i + 1 : Nat) : Int))) r
      rw [hm, w64 (by omega) (by omega), show (s : Int) + s2 = ((s + s2 : Nat) : Int) by omega]
      by_cases hc : c = true
      · subst hc; rw [Bool.true_and] at h; exact Ev.ite_pos rfl h
      · obtain rfl : c = false := by simpa using hc
        rw [Bool.false_and] at h; exact Ev.ite_neg (by simp) h
  intro t
  induction t with
  | leaf kd n =>
    intro _
    obtain ⟨c, hc, hE⟩ := node kd n []
    exact ⟨c, hE (fin 1 0 c [] (by omega)), hc⟩
  | un kd n a ih =>
    intro hs
    have hs' : 1 + a.size ≤ 4000 := hs
    obtain ⟨b, hb, hbi⟩ := ih (by omega)
    obtain ⟨c, hc, hE⟩ := node kd n [toS a]
    have := Tr.depth_le a
    refine ⟨c && b, ?_, ?_⟩
    · refine hE (part 1 0 0 a.size a.depth c b [toS a] (toS a) (by simp) (by simp) rfl hs' hb (Ev.of_eq (fin (1 + a.size) (max 0 a.depth) (c && b) [toS a] (by omega)) ?_))
      rw [Nat.zero_max]; rfl
    · rw [Bool.and_eq_true, hc, hbi]; exact Iff.rfl
  | bin kd n x y ihx ihy =>
    intro hs
    have hs' : 1 + x.size + y.size ≤ 4000 := hs
    obtain ⟨b1, hb1, hbi1⟩ := ihx (by omega)
    obtain ⟨b2, hb2, hbi2⟩ := ihy (by omega)
    obtain ⟨c, hc, hE⟩ := node kd n [toS x, toS y]
    have := Tr.depth_le x
    have := Tr.depth_le y
    refine ⟨(c && b1) && b2, ?_, ?_⟩
    · refine hE (part 1 0 0 x.size x.depth c b1 [toS x, toS y] (toS x) (by simp) (by simp) rfl (by omega) hb1 ?_)
      refine part (1 + x.size) (max 0 x.depth) 1 y.size y.depth (c && b1) b2 [toS x, toS y] (toS y) (by simp) (by simp) rfl hs' hb2 ?_
      refine Ev.of_eq (fin (1 + x.size + y.size) (max (max 0 x.depth) y.depth) ((c && b1) && b2) [toS x, toS y] (by omega)) ?_
      rw [Nat.zero_max]; rfl
    · rw [Bool.and_eq_true, Bool.and_eq_true, hc, hbi1, hbi2, and_assoc]; exact Iff.rfl
end Go.Proofs.Ytcjhhdecckcibaa.CombL

namespace Go.Proofs.Ytcjhhdecckcibaa.CombL
open Go.RowKit Go.Proofs.Ytcjhhdecckcibaa.G Go.Proofs.Ytcjhhdecckcibaa.EvL Go.Proofs.Ytcjhhdecckcibaa.TreeM Go.Proofs.YtcjhhdecckcibaaW.PrintWords Go.Proofs.YtcjhhdecckcibaaW.PrintLast
set_option linter.unusedVariables false

def Tells (l : List S52) (t : Tr) : Prop := 1 ≤ l.length ∧ l.length ≤ 200 ∧ Par ar (l.map nd) 0 (-1) t l.length ∧ t.all numOk ∧ t.depth ≤ 60

theorem nodes_iff (l : List S52) (h1 : 1 ≤ l.length) (h2 : l.length ≤ 200) : (∀ m, 0 ≤ m → m < l.length → NodeOk (l.map nd) m) ↔ ∃ t, Tells l t := by
  have hlen : (l.map nd).length = l.length := List.length_map ..
  have hli := loc_iff (A := ar) (l := l.map nd) ar2 (by omega)
  constructor
  · intro h
    have L : TreeM.Loc ar (l.map nd) := by
      refine ⟨fun _ => (h 0 (Nat.le_refl _) (by omega)).top.mp rfl, fun m h3 h4 => ?_, fun m h3 h4 => ?_, fun m h3 => (h m (by omega) (by omega)).kind, fun m h3 => (h m (by omega) (by omega)).wants⟩
      · have hm := h m (by omega) (by omega)
        have := hm.ahead
        have := hm.top
        omega
      · have hm := h m (by omega) (by omega)
        obtain ⟨x, hx, hxu⟩ := hm.around.resolve_left (by omega)
        rw [← hxu, Int.toNat_natCast]; exact hx
    obtain ⟨t, ht⟩ := hli.mp L
    rw [hlen] at ht
    refine ⟨t, h1, h2, ht, (ht.alls numOk).mpr (fun m h3 h4 => (h m h3 h4).num), ?_⟩
    obtain ⟨m, h3, h4, h5⟩ := ht.deep.2
    have hm := (h m h3 h4).deep
    have h0 : (chain (l.map nd) 0).length = 1 := by rw [chain_top (by rw [ht.span.2.2]; omega)]; rfl
    omega
  · rintro ⟨t, _, _, ht, hn, hd⟩ m _ hm
    have L : TreeM.Loc ar (l.map nd) := hli.mpr ⟨t, by rw [hlen]; exact ht⟩
    have h0 : (chain (l.map nd) 0).length = 1 := by rw [chain_top (by rw [ht.span.2.2]; omega)]; rfl
    have hr := L.root (by omega)
    refine ⟨?_, ?_, L.kinds m (by omega), (ht.alls numOk).mp hn m (by omega) hm, ?_, by have := ht.deep.1 m (by omega) hm; omega, L.wants m (by omega)⟩
    · by_cases h3 : m = 0
      · subst h3; exact ⟨fun _ => hr, fun _ => rfl⟩
      · have := L.ahead m (by omega) (by omega); omega
    · by_cases h3 : m = 0
      · subst h3; omega
      · have := L.ahead m (by omega) (by omega); omega
    · by_cases h3 : m = 0
      · exact .inl h3
      · have h4 := L.ahead m (by omega) (by omega)
        exact .inr ⟨_, L.around m (by omega) (by omega), by omega⟩

theorem specGood (l : List S52) (hl : l.length ≤ 9223372036854775807) : ∃ b, Ev (fun k => spec_GoodComb.f k l) b ∧ (b = true ↔ ∃ t, Tells l t) := by
  unfold spec_GoodComb.f
  rw [l1In_eq]
  simp only [Option.bind_some, decide_eq_true_eq]
  by_cases h : (1 : Int) ≤ (l.length : Int) ∧ (l.length : Int) ≤ 200
  · obtain ⟨b, hb, hbi⟩ := specLoop l (by omega) l.length 0 (by omega) (fun m hm => by omega)
    exact ⟨b, Ev.ite_pos h hb, hbi.trans (nodes_iff l (by omega) (by omega))⟩
  · exact ⟨false, Ev.ite_neg h (Ev.now _), fun h2 => absurd h2 (by simp), fun ⟨t, h2, h3, _⟩ => absurd ⟨by omega, by omega⟩ h⟩

theorem rootEv (l : List S52) (hl : l.length ≤ 9223372036854775807) : ∃ (x : S58) (b : Bool), Ev (fun k => impl_combRoot.f k l) (x.f0, x.f1, x.f2, b) ∧ (b = true ↔ ∃ t, Tells l t) ∧ (b = true → ∃ t, Tells l t ∧ x = toS t) := by
  have bad : (¬ ∃ t, Tells l t) → ∀ (x : S58), Ev (fun k => impl_combRoot.f k l) (x.f0, x.f1, x.f2, false) → ∃ (x : S58) (b : Bool), Ev (fun k => impl_combRoot.f k l) (x.f0, x.f1, x.f2, b) ∧ (b = true ↔ ∃ t, Tells l t) ∧ (b = true → ∃ t, Tells l t ∧ x = toS t) :=
    fun h x hE => ⟨x, false, hE, ⟨fun h2 => absurd h2 (by simp), fun h2 => absurd h2 h⟩, fun h2 => absurd h2 (by simp)⟩
  have none : Ev (fun k => impl_combRoot.j0 k l true) (0, 0, ([] : List S58), false) := Ev.step (f := fun _ => some (0, 0, ([] : List S58), false)) (fun k => by simp only [impl_combRoot.j0]; rfl) (Ev.now _)
  by_cases h1 : (l.length : Int) < 1
  · refine bad (fun ⟨t, h2, _⟩ => by omega) ⟨0, 0, []⟩ ?_
    unfold impl_combRoot.f
    exact Ev.ite_pos h1 none
  by_cases h2 : (l.length : Int) > 200
  · refine bad (fun ⟨t, _, h3, _⟩ => by omega) ⟨0, 0, []⟩ ?_
    unfold impl_combRoot.f
    refine Ev.ite_neg h1 ?_
    rw [decide_eq_true h2]; exact none
  have go : ∀ {r}, Ev (fun k => (impl_combAt.f k l 0 (-1)).bind fun bt102 => (if bt102.2.2.2.2 = true then (if bt102.2.2.2.1 = (l.length : Int) then ((impl_comb_isGood.f k bt102.1 bt102.2.1 bt102.2.2.1).bind fun t110 => (some (bt102.1, bt102.2.1, bt102.2.2.1, t110))) else (some (bt102.1, bt102.2.1, bt102.2.2.1, false))) else (some (bt102.1, bt102.2.1, bt102.2.2.1, false)))) r → Ev (fun k => impl_combRoot.f k l) r := by
    intro r hE
    unfold impl_combRoot.f
    refine Ev.ite_neg h1 ?_
    rw [decide_eq_false h2]
    exact Ev.step (fun k => by simp only [impl_combRoot.j0]; rfl) hE
  rcases combAt_ev l (by omega) l.length 0 (-1) (by omega) with ⟨t, e, ht, hE⟩ | ⟨hn, hE⟩
  case inr =>
    exact bad (fun ⟨t, _, _, h3, _⟩ => hn _ _ h3) ⟨0, 0, []⟩ (go (Ev.bind hE (Ev.ite_neg (by simp) (Ev.now _))))
  by_cases he : e = l.length
  case neg =>
    refine bad (fun ⟨t', _, _, h3, _⟩ => he (ht.unique h3).2) (toS t) (go (Ev.bind hE (Ev.ite_pos rfl (Ev.ite_neg ?_ (Ev.now _)))))
    show ¬ (e : Int) = _
    omega
  subst he
  have hs := ht.span
  obtain ⟨b, hb, hbi⟩ := measure_ev t (by omega)
  have hd := Tr.depth_le t
  refine ⟨toS t, b && decide (t.depth ≤ 60), go (Ev.bind hE (Ev.ite_pos rfl (Ev.ite_pos rfl ?_))), ?_, ?_⟩
  · unfold impl_comb_isGood.f
    show Ev (fun k => ((impl_comb_measure.f k (toS t).f0 (toS t).f1 (toS t).f2).bind _).bind _) _
    refine Ev.bind (a := b && decide (t.depth ≤ 60)) (Ev.bind hb ?_) (Ev.now _)
    show Ev (fun k => if b = true then (if (t.size : Int) ≤ 200 then some (decide ((t.depth : Int) ≤ 60)) else some false) else some false) _
    by_cases h3 : b = true
    · refine Ev.ite_pos h3 (Ev.ite_pos (by omega) (Ev.of_eq (Ev.now _) ?_))
      rw [h3, Bool.true_and]; exact decide_eq_decide.mpr (by omega)
    · refine Ev.ite_neg h3 (Ev.of_eq (Ev.now _) ?_)
      rw [Bool.eq_false_iff.mpr h3, Bool.false_and]
  · rw [Bool.and_eq_true, hbi, decide_eq_true_iff]
    constructor
    · intro h3; exact ⟨t, by omega, by omega, ht, h3.1, h3.2⟩
    · rintro ⟨t', _, _, h3, h4, h5⟩
      obtain ⟨rfl, _⟩ := ht.unique h3
      exact ⟨h4, h5⟩
  · intro h3
    rw [Bool.and_eq_true, hbi, decide_eq_true_iff] at h3
    exact ⟨t, ⟨by omega, by omega, ht, h3.1, h3.2⟩, rfl⟩

theorem sizes (l : List S55) (hl : l.length ≤ 9223372036854775807) : ∃ t, laws_szCombS.f l 1048576 = some t ∧ (¬ t < 0 → l.length ≤ 1048576) := by
  unfold laws_szCombS.f
  rw [w64 (x := 1048576 - (l.length : Int)) (by omega) (by omega)]
  by_cases h : 1048576 - (l.length : Int) < 0
  · rw [if_pos h]; exact ⟨-1, rfl, fun h => absurd (by decide) h⟩
  · rw [if_neg h]; exact ⟨_, rfl, fun _ => by omega⟩
end Go.Proofs.Ytcjhhdecckcibaa.CombL
