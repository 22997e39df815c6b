/- Part 3 of 5 of the proof that the law FnClosedSaid holds: for every input that can be read the call returns true and leaves its arguments as they were; no condition but those each theorem names. -/
import Derived.Test.YtmcmclcebnepgaaQClosedW1
import Derived.Test.YtmcmclcebnepgaaQClosed1
import Derived.Test.YtmcmclcebnepgaaQClosed2
namespace Go.Proofs.Ytmcmclcebnepgaa.G
open Go.RowKit Go.Proofs.YtmcmclcebnepgaaW.PrintWords Go.Proofs.YtmcmclcebnepgaaW.PrintLast Go.Proofs.YtmcmclcebnepgaaW.PrintMore
attribute [local go_sem] max2_int min2_int max_two min_two max_three min_three max_four min_four   -- for this text's walks alone
set_option linter.unusedVariables false
set_option linter.unusedSimpArgs false

def impl_combOfTerm.f : Nat → Int → Int → List (S37) → Int → Option (Int × Int × (List (S42)) × Bool)
 | 0, _, _, _, _ => none
 | k + 1, a0_0, a0_1, l0_2, a1 => if a0_0 = 1 then (if a0_1 < a1 then ((impl_combVar.f (wrap64 ((wrap64 ((wrap64 (100 + a1)) - 1)) - a0_1))).bind fun bt103 => (some (bt103.1, bt103.2.1, bt103.2.2, true))) else ((impl_combVar.f (wrap64 (a0_1 - a1))).bind fun bt108 => (some (bt108.1, bt108.2.1, bt108.2.2, true)))) else (if a0_0 = 2 then (if 0 < (l0_2.length : Int) then ((impl_combOfTerm.f k ((rd_T37 l0_2 0).f0) ((rd_T37 l0_2 0).f1) ((rd_T37 l0_2 0).f2) (wrap64 (a1 + 1))).bind fun bt114 => (if bt114.2.2.2 = true then ((impl_comb_abstract.f k bt114.1 bt114.2.1 bt114.2.2.1 (wrap64 (100 + a1))).bind fun bt121 => ((impl_comb_isGood.f k bt121.1 bt121.2.1 bt121.2.2).bind fun t127 => (some (bt121.1, bt121.2.1, bt121.2.2, t127)))) else (some (0, 0, ([] : List (S42)), false)))) else (none)) else (if 0 < (l0_2.length : Int) then ((impl_combOfTerm.f k ((rd_T37 l0_2 0).f0) ((rd_T37 l0_2 0).f1) ((rd_T37 l0_2 0).f2) a1).bind fun bt129 => (if 1 < (l0_2.length : Int) then ((impl_combOfTerm.f k ((rd_T37 l0_2 1).f0) ((rd_T37 l0_2 1).f1) ((rd_T37 l0_2 1).f2) a1).bind fun bt137 => ((impl_combApp.f bt129.1 bt129.2.1 bt129.2.2.1 bt137.1 bt137.2.1 bt137.2.2.1).bind fun bt144 => (if bt129.2.2.2 = true then (if bt137.2.2.2 = true then ((impl_comb_isGood.f k bt144.1 bt144.2.1 bt144.2.2).bind fun t150 => (some (bt144.1, bt144.2.1, bt144.2.2, t150))) else (some (bt144.1, bt144.2.1, bt144.2.2, false))) else (some (bt144.1, bt144.2.1, bt144.2.2, false))))) else (none))) else (none)))
def impl_combOfTerm.T15 : Bool × List (List Nat × List Nat) := (true, [([], []), ([], []), ([1], [1]), ([2], [2]), ([2, 3], [2, 3]), ([4, 2], [4]), ([5], [5]), ([6, 5, 5], [5, 6]), ([5, 7], [5, 7]), ([0, 7, 0], [0]), ([8, 9, 0, 1, 2, 3, 4, 5, 6, 7, 8, 9], [8])])
def impl_combOfTerm.B15 : List Nat := [0, 0, 2, 6, 14, 30, 62, 126, 254, 255, 1023]
theorem impl_combOfTerm.tab15 : rtab .any (opsOf Try.f11 15) = impl_combOfTerm.T15 := by kernel_rfl
theorem impl_combOfTerm.bits15 : waitsOk impl_combOfTerm.T15.2 impl_combOfTerm.B15 = true := by kernel_rfl
set_option maxHeartbeats 8000000 in
set_option maxRecDepth 100000 in
theorem impl_combOfTerm.calls (k : Nat) : ∀ (a0_0 : Int) (a0_1 : Int) (A0_2 : Option Addr) (c0_2 : Nat) (l0_2 : List (S37)) (a1 : Int) (r1 : Int) (r2 : Int) (r3 : List (S42)) (r4 : Bool) (w : World) (hr0_2 : Kd.C k37 w A0_2 l0_2.length l0_2) (hc0_2 : l0_2.length ≤ c0_2) (h : impl_combOfTerm.f k a0_0 a0_1 l0_2 a1 = some (r1, r2, r3, r4)),
  Calls Try.prog 11 #[.agg #[.int .i64 a0_0, .int .i64 a0_1, .slice A0_2 l0_2.length c0_2], .int .i64 a1] w fun e w' => ∃ v2_ : Value, e = .returned (.tuple #[.agg #[.int .i64 r1, .int .i64 r2, v2_], .bool r4]) ∧ Kd.V k42 42 w' w.heap.size (fun k_ => (w.heap.size ≤ k_)) v2_ r3 ∧ Below w.heap.size w w' := by
 induction k using Nat.strongRecOn with
 | _ k ih =>
 intro a0_0 a0_1 A0_2 c0_2 l0_2 a1 r1 r2 r3 r4 w hr0_2 hc0_2 h
 cases k with
 | zero => exact absurd h (by simp [impl_combOfTerm.f])
 | succ k =>
 simp only [impl_combOfTerm.f] at h
 have hu37 := Try.underlying37
 have hu42 := Try.underlying42
 have HR0_2 := aK hr0_2
 have HC0_2 := aK hc0_2
 clear hr0_2 hc0_2
 have HB := aK (Below.refl w.heap.size w)
 have H : (if a0_0 = 1 then (if a0_1 < a1 then ((impl_combVar.f (wrap64 ((wrap64 ((wrap64 (100 + a1)) - 1)) - a0_1))).bind fun bt103 => (some (bt103.1, bt103.2.1, bt103.2.2, true))) else ((impl_combVar.f (wrap64 (a0_1 - a1))).bind fun bt108 => (some (bt108.1, bt108.2.1, bt108.2.2, true)))) else (if a0_0 = 2 then (if 0 < (l0_2.length : Int) then ((impl_combOfTerm.f k ((rd_T37 l0_2 0).f0) ((rd_T37 l0_2 0).f1) ((rd_T37 l0_2 0).f2) (wrap64 (a1 + 1))).bind fun bt114 => (if bt114.2.2.2 = true then ((impl_comb_abstract.f k bt114.1 bt114.2.1 bt114.2.2.1 (wrap64 (100 + a1))).bind fun bt121 => ((impl_comb_isGood.f k bt121.1 bt121.2.1 bt121.2.2).bind fun t127 => (some (bt121.1, bt121.2.1, bt121.2.2, t127)))) else (some (0, 0, ([] : List (S42)), false)))) else (none)) else (if 0 < (l0_2.length : Int) then ((impl_combOfTerm.f k ((rd_T37 l0_2 0).f0) ((rd_T37 l0_2 0).f1) ((rd_T37 l0_2 0).f2) a1).bind fun bt129 => (if 1 < (l0_2.length : Int) then ((impl_combOfTerm.f k ((rd_T37 l0_2 1).f0) ((rd_T37 l0_2 1).f1) ((rd_T37 l0_2 1).f2) a1).bind fun bt137 => ((impl_combApp.f bt129.1 bt129.2.1 bt129.2.2.1 bt137.1 bt137.2.1 bt137.2.2.1).bind fun bt144 => (if bt129.2.2.2 = true then (if bt137.2.2.2 = true then ((impl_comb_isGood.f k bt144.1 bt144.2.1 bt144.2.2).bind fun t150 => (some (bt144.1, bt144.2.1, bt144.2.2, t150))) else (some (bt144.1, bt144.2.1, bt144.2.2, false))) else (some (bt144.1, bt144.2.1, bt144.2.2, false))))) else (none))) else (none)))) = some (r1, r2, r3, r4) := h
 clear h
 by_cases c3 : a0_0 = 1
 ·rw [if_pos c3] at H
  have c3b0 : (a0_0 == 1) = true := beq_iff_eq.mpr c3
  have c3b1 : (a0_0 != 1) = false := bne_eq_false_iff_eq.mpr c3
  clear c3
  by_cases c4 : a0_1 < a1
  ·rw [if_pos c4] at H
   have c4b0 : decide (a0_1 < a1) = true := decide_eq_true c4
   clear c4
   replace H := Option.bind_eq_some_iff.mp H
   obtain ⟨⟨t103, t104, t105⟩, A50, H⟩ := H
   try dsimp only at H
   have A5 := aK A50
   clear A50
   simp only [Option.some.injEq, Prod.mk.injEq] at H
   obtain ⟨rfl, rfl, rfl, rfl⟩ := H
   go_enter Try.func11, Try.ntmps11
   go_wp2_with (first | ((with_reducible refine gate_dst (N := 2) rfl ?_); refine bE (N := 2) (cs := #[.int .i64 a0_0, .int .i64 a0_1, .slice A0_2 l0_2.length c0_2]) (t := 37) ?_; intro gb101 hg w6 hbox hb; have GW101 := qw HB hg; have GE101 := qw HB hg; have BK101 := aK hbox; replace HB := qs HB hb; clear hb hbox hg) | ((with_reducible refine gate_dst (N := 4) rfl ?_); refine bE (N := 4) (cs := #[.int .i64 0, .int .i64 0, .slice none 0 0]) (t := 42) ?_; intro gb102 hg w7 hbox hb; have GW102 := qw HB hg; have GE102 := qw HB hg; have NB101_102 := ql BK101 hg; have NB102_101 := qg BK101 hg; replace BK101 := qb BK101 hb; have BK102 := aK hbox; replace HB := qs HB hb; clear hb hbox hg; have hnb8 := NB101_102.out; have hnc8 := NB102_101.out; obtain ⟨hcz9_0, hcz9_1, hcz9_2, hfz9_0, hfz9_1, hfz9_2⟩ := cA3 BK101) | ((with_reducible refine gate_callee (f := 21) rfl ?_); refine goesL_ (some 28) rfl rfl Try.func21 (by kernel_rfl) rfl #[.int .i64 (wrap64 ((wrap64 ((wrap64 (100 + a1)) - 1)) - a0_1))] rfl tA ?_; (with_reducible refine (impl_combVar.calls (wrap64 ((wrap64 ((wrap64 (100 + a1)) - 1)) - a0_1)) t103 t104 t105 _ A5.out).mono ?_); rintro e w10 ⟨v106, rfl, ho0, hb⟩; refine ⟨_, rfl, ?_⟩; have HO107 := aK (Kd.N_lower (Kd.N_mono (ok' := fun k_ => (w.heap.size ≤ k_) ∧ k_ ≠ gb101 ∧ k_ ≠ gb102) (Kd.R_N (Kd.R_bound ho0)) (fun k_ hk_ => ⟨(Nat.le_trans (below_size HB.out) hk_.2.1), (Kd.freshB BK101.out k_ hk_.2.1), (Kd.freshB BK102.out k_ hk_.2.1)⟩)) (below_size HB.out)); replace BK101 := qb BK101 hb; replace BK102 := qb BK102 hb; replace HB := qs HB hb; (try clear hb); (try clear ho0); obtain ⟨hcz11_0, hcz11_1, hcz11_2, hfz11_0, hfz11_1, hfz11_2⟩ := cA3 BK102; obtain ⟨Ao12, co12, eo12⟩ := Kd.N_slice HO107.out; subst eo12))
   refine bodyPost_ret (results_ct rfl _ _ gb102 42 #[.int .i64 t103, .int .i64 t104, .slice Ao12 t105.length co12] (0, 0) _ rfl (p3 BK102) Try.underlying42 rfl (by kernel_rfl)) rfl ?_
   exact ⟨_, eW, Kd.N_V (by (with_reducible repeat (first | apply Kd.N_alloc | apply Kd.N_drewN | apply Kd.N_drew)); exact Kd.N_mono (nF3 gb102 (Kd.N_mono HO107.out (fun k_ hk => (⟨hk, hk.2.2⟩ : _ ∧ k_ ≠ gb102))) (fun _ hk => hk.2)) (fun _ hk => hk.1.1)), pH HB⟩
  ·rw [if_neg c4] at H
   have c4b0 : decide (a0_1 < a1) = false := decide_eq_false c4
   clear c4
   replace H := Option.bind_eq_some_iff.mp H
   obtain ⟨⟨t108, t109, t110⟩, A130, H⟩ := H
   try dsimp only at H
   have A13 := aK A130
   clear A130
   simp only [Option.some.injEq, Prod.mk.injEq] at H
   obtain ⟨rfl, rfl, rfl, rfl⟩ := H
   go_enter Try.func11, Try.ntmps11
   go_wp2_with (first | ((with_reducible refine gate_dst (N := 2) rfl ?_); refine bE (N := 2) (cs := #[.int .i64 a0_0, .int .i64 a0_1, .slice A0_2 l0_2.length c0_2]) (t := 37) ?_; intro gb101 hg w14 hbox hb; have GW101 := qw HB hg; have GE101 := qw HB hg; have BK101 := aK hbox; replace HB := qs HB hb; clear hb hbox hg) | ((with_reducible refine gate_dst (N := 4) rfl ?_); refine bE (N := 4) (cs := #[.int .i64 0, .int .i64 0, .slice none 0 0]) (t := 42) ?_; intro gb102 hg w15 hbox hb; have GW102 := qw HB hg; have GE102 := qw HB hg; have NB101_102 := ql BK101 hg; have NB102_101 := qg BK101 hg; replace BK101 := qb BK101 hb; have BK102 := aK hbox; replace HB := qs HB hb; clear hb hbox hg; have hnb16 := NB101_102.out; have hnc16 := NB102_101.out; obtain ⟨hcz17_0, hcz17_1, hcz17_2, hfz17_0, hfz17_1, hfz17_2⟩ := cA3 BK101) | ((with_reducible refine gate_callee (f := 21) rfl ?_); refine goesL_ (some 33) rfl rfl Try.func21 (by kernel_rfl) rfl #[.int .i64 (wrap64 (a0_1 - a1))] rfl tA ?_; (with_reducible refine (impl_combVar.calls (wrap64 (a0_1 - a1)) t108 t109 t110 _ A13.out).mono ?_); rintro e w18 ⟨v111, rfl, ho0, hb⟩; refine ⟨_, rfl, ?_⟩; have HO112 := aK (Kd.N_lower (Kd.N_mono (ok' := fun k_ => (w.heap.size ≤ k_) ∧ k_ ≠ gb101 ∧ k_ ≠ gb102) (Kd.R_N (Kd.R_bound ho0)) (fun k_ hk_ => ⟨(Nat.le_trans (below_size HB.out) hk_.2.1), (Kd.freshB BK101.out k_ hk_.2.1), (Kd.freshB BK102.out k_ hk_.2.1)⟩)) (below_size HB.out)); replace BK101 := qb BK101 hb; replace BK102 := qb BK102 hb; replace HB := qs HB hb; (try clear hb); (try clear ho0); obtain ⟨hcz19_0, hcz19_1, hcz19_2, hfz19_0, hfz19_1, hfz19_2⟩ := cA3 BK102; obtain ⟨Ao20, co20, eo20⟩ := Kd.N_slice HO112.out; subst eo20))
   refine bodyPost_ret (results_ct rfl _ _ gb102 42 #[.int .i64 t108, .int .i64 t109, .slice Ao20 t110.length co20] (0, 0) _ rfl (p3 BK102) Try.underlying42 rfl (by kernel_rfl)) rfl ?_
   exact ⟨_, eW, Kd.N_V (by (with_reducible repeat (first | apply Kd.N_alloc | apply Kd.N_drewN | apply Kd.N_drew)); exact Kd.N_mono (nF3 gb102 (Kd.N_mono HO112.out (fun k_ hk => (⟨hk, hk.2.2⟩ : _ ∧ k_ ≠ gb102))) (fun _ hk => hk.2)) (fun _ hk => hk.1.1)), pH HB⟩
 ·rw [if_neg c3] at H
  have c3b0 : (a0_0 == 1) = false := beq_eq_false_iff_ne.mpr c3
  have c3b1 : (a0_0 != 1) = true := bne_iff_ne.mpr c3
  by_cases c21 : a0_0 = 2
  ·rw [if_pos c21] at H
   have c21b0 : (a0_0 == 2) = true := beq_iff_eq.mpr c21
   have c21b1 : (a0_0 != 2) = false := bne_eq_false_iff_eq.mpr c21
   clear c21
   by_cases c22 : 0 < (l0_2.length : Int)
   ·rw [if_pos c22] at H
    have c22b0 : decide (0 < (l0_2.length : Int)) = true := decide_eq_true c22
    have c22b1 : decide (0 < l0_2.length) = true := decide_eq_true (by omega)
    clear c22
    replace H := Option.bind_eq_some_iff.mp H
    obtain ⟨⟨t114, t115, t116, t119⟩, A230, H⟩ := H
    try dsimp only at H
    have A23 := aK A230
    clear A230
    by_cases c24 : t119 = true
    ·subst c24
     rw [if_pos rfl] at H
     replace H := Option.bind_eq_some_iff.mp H
     obtain ⟨⟨t121, t122, t123⟩, A250, H⟩ := H
     try dsimp only at H
     have A25 := aK A250
     clear A250
     replace H := Option.bind_eq_some_iff.mp H
     obtain ⟨t127, A260, H⟩ := H
     try dsimp only at H
     have A26 := aK A260
     clear A260
     simp only [Option.some.injEq, Prod.mk.injEq] at H
     obtain ⟨rfl, rfl, rfl, rfl⟩ := H
     go_enter Try.func11, Try.ntmps11
     try go_wp2_with (first | ((with_reducible refine gate_dst (N := 2) rfl ?_); refine bE (N := 2) (cs := #[.int .i64 a0_0, .int .i64 a0_1, .slice A0_2 l0_2.length c0_2]) (t := 37) ?_; intro gb101 hg w27 hbox hb; have GW101 := qw HB hg; have GE101 := qw HB hg; have BK101 := aK hbox; replace HB := qs HB hb; clear hb hbox hg) | ((with_reducible refine gate_dst (N := 4) rfl ?_); refine bE (N := 4) (cs := #[.int .i64 0, .int .i64 0, .slice none 0 0]) (t := 42) ?_; intro gb102 hg w28 hbox hb; have GW102 := qw HB hg; have GE102 := qw HB hg; have NB101_102 := ql BK101 hg; have NB102_101 := qg BK101 hg; replace BK101 := qb BK101 hb; have BK102 := aK hbox; replace HB := qs HB hb; clear hb hbox hg; have hnb29 := NB101_102.out; have hnc29 := NB102_101.out; obtain ⟨hcz30_0, hcz30_1, hcz30_2, hfz30_0, hfz30_1, hfz30_2⟩ := cA3 BK101; have p113 : 0 ≤ (0 : Int) := (by omega); have q113 : 0 < (l0_2.length : Int) := dA; obtain ⟨ad113, A113_2, c113_2, e113, hx113_0, hx113_1, hx113_2, hl113_2, hi113_2⟩ := at_T37 HR0_2.out 0 p113 q113; cases e113; have qi113 : (0 < l0_2.length) = True := eq_true (by omega); (try rw [show ((0 : Int)).toNat = 0 from rfl] at hx113_0); (try rw [show 0 * 3 = 0 from rfl] at hx113_0); (try rw [Addr.add_zero'] at hx113_0); (try rw [show ((0 : Int)).toNat = 0 from rfl] at hx113_1); (try rw [show 0 * 3 = 0 from rfl] at hx113_1); (try rw [Addr.add_zero'] at hx113_1); (try rw [show ((0 : Int)).toNat = 0 from rfl] at hx113_2); (try rw [show 0 * 3 = 0 from rfl] at hx113_2); (try rw [Addr.add_zero'] at hx113_2); replace hx113_0 := uC HB hx113_0; replace hx113_1 := uC HB hx113_1; replace hx113_2 := uC HB hx113_2; have HR113_2 := aK hi113_2; have HC113_2 := aK hl113_2; clear hi113_2 hl113_2; replace p113 := eq_true p113; replace q113 := eq_true q113) | ((with_reducible refine gate_callee (f := 11) rfl ?_); refine goesL_ (some 43) rfl rfl Try.func11 (by kernel_rfl) rfl #[.agg #[.int .i64 ((rd_T37 l0_2 0).f0), .int .i64 ((rd_T37 l0_2 0).f1), .slice A113_2 ((rd_T37 l0_2 0).f2).length c113_2], .int .i64 (wrap64 (a1 + 1))] rfl tA ?_; (with_reducible refine (ih k (by omega) ((rd_T37 l0_2 0).f0) ((rd_T37 l0_2 0).f1) _ _ ((rd_T37 l0_2 0).f2) (wrap64 (a1 + 1)) t114 t115 t116 true _ ?side1 ?side2 A23.out).mono ?_); (case side1 => exact sC (Kd.C_below HR113_2.out HB.out)); (case side2 => exact HC113_2.out); rintro e w31 ⟨v117, rfl, ho0, hb⟩; refine ⟨_, rfl, ?_⟩; have HO118 := aK (Kd.V_lower (Kd.V_mono (ok' := fun k_ => (w.heap.size ≤ k_) ∧ k_ ≠ gb101 ∧ k_ ≠ gb102) ho0 (fun k_ hk_ => ⟨(Nat.le_trans (below_size HB.out) hk_), (Kd.freshB BK101.out k_ hk_), (Kd.freshB BK102.out k_ hk_)⟩)) (below_size HB.out)); replace BK101 := qb BK101 hb; replace BK102 := qb BK102 hb; replace HB := qs HB hb; (try clear hb); (try clear ho0)) | ((with_reducible refine gate_dst (N := 6) rfl ?_); refine bE (N := 6) (cs := #[.int .i64 0, .int .i64 0, .slice none 0 0]) (t := 42) ?_; intro gb120 hg w32 hbox hb; have GW120 := qw HB hg; have GE120 := qw HB hg; have NB101_120 := ql BK101 hg; have NB120_101 := qg BK101 hg; have NB102_120 := ql BK102 hg; have NB120_102 := qg BK102 hg; replace HO118 := qv HO118 hg hb; replace BK101 := qb BK101 hb; replace BK102 := qb BK102 hb; have BK120 := aK hbox; replace HB := qs HB hb; clear hb hbox hg; have hnb33 := NB120_101.out; have hnc33 := NB101_120.out; have hnb34 := NB120_102.out; have hnc34 := NB102_120.out; obtain ⟨hcz35_0, hcz35_1, hcz35_2, hfz35_0, hfz35_1, hfz35_2⟩ := cA3 BK120; obtain ⟨Ao36, co36, eo36⟩ := Kd.V_slice HO118.out; subst eo36) | ((with_reducible refine gate_store (t := 42) (p := 6) rfl ?_); refine store_event (t := 42) (p := 6) (v := ?vo_w37) (w1 := (((w32.setCell ⟨gb120, 0, none⟩ (.int .i64 t114)).setCell ⟨gb120, 1, none⟩ (.int .i64 t115)).setCell ⟨gb120, 2, none⟩ (.slice Ao36 t116.length co36))) ?hg ?ho ?hn ?hr ?_; (case ho => rfl); (case hg => rfl); (case hn => rfl); (case hr => first | (go_simp; done) | (go_simp; rfl)); intro w37 hw; have n0_ : Aside0 (Kd.V k42 42 w37 w.heap.size (fun k_ => (w.heap.size ≤ k_) ∧ k_ ≠ gb101 ∧ k_ ≠ gb102 ∧ k_ ≠ gb120) (.slice Ao36 t116.length co36) t116) := ⟨(by rw [hw]; exact (by (with_reducible repeat (first | apply Kd.V_alloc | apply Kd.V_drewN | apply Kd.V_drew)); exact Kd.V_mono (vF3 gb120 (Kd.V_mono HO118.out (fun k_ hk => (⟨hk, hk.2⟩ : _ ∧ k_ ≠ gb120))) (fun _ hk => hk.2)) (fun _ hk => ⟨hk.1.1.1, ⟨hk.1.1.2.1, ⟨hk.1.1.2.2, hk.1.2⟩⟩⟩)))⟩; have n1_ : Aside0 (w37.heap[gb101]? = some (.cells #[.int .i64 a0_0, .int .i64 a0_1, .slice (some ad113) l0_2.length c0_2] 37 (0, 0))) := ⟨(by rw [hw]; exact (by (repeat first | with_reducible apply zN | with_reducible apply zD | with_reducible apply zA | refine blk_far ?_ NB101_120.out _); exact BK101.out))⟩; have n2_ : Aside0 (w37.heap[gb102]? = some (.cells #[.int .i64 0, .int .i64 0, .slice none 0 0] 42 (0, 0))) := ⟨(by rw [hw]; exact (by (repeat first | with_reducible apply zN | with_reducible apply zD | with_reducible apply zA | refine blk_far ?_ NB102_120.out _); exact BK102.out))⟩; have n3_ : Aside0 (w37.heap[gb120]? = some (.cells #[.int .i64 t114, .int .i64 t115, .slice Ao36 t116.length co36] 42 (0, 0))) := ⟨(by rw [hw]; exact (p3 BK120))⟩; have n4_ : Aside0 (Below w.heap.size w w37) := ⟨(by rw [hw]; exact (pH HB))⟩; clear hw; clear HO118; clear BK101; clear BK102; clear BK120; clear HB; have HO118 := n0_; have BK101 := n1_; have BK102 := n2_; have BK120 := n3_; have HB := n4_; clear n0_ n1_ n2_ n3_ n4_; obtain ⟨hcz38_0, hcz38_1, hcz38_2, hfz38_0, hfz38_1, hfz38_2⟩ := cA3 BK120) | ((with_reducible refine gate_callee (f := 22) rfl ?_); refine goesL_ (some 52) rfl rfl Try.func22 (by kernel_rfl) rfl #[.agg #[.int .i64 t114, .int .i64 t115, .slice Ao36 t116.length co36], .int .i64 (wrap64 (100 + a1))] rfl tA ?_; (with_reducible refine (impl_comb_abstract.calls k t114 t115 (fun k_ => ((w.heap.size ≤ k_) ∧ (k_ ≠ gb101 ∧ (k_ ≠ gb102 ∧ k_ ≠ gb120)))) _ _ t116 (wrap64 (100 + a1)) t121 t122 t123 _ ?side1 A25.out).mono ?_); (case side1 => exact HO118.out); rintro e w39 ⟨v124, rfl, ho0, hb⟩; refine ⟨_, rfl, ?_⟩; have n0_ := aK (Kd.V_below HO118.out hb); have HO125 := aK (Kd.V_lower (Kd.V_mono (ok' := fun k_ => (w.heap.size ≤ k_) ∧ k_ ≠ gb101 ∧ k_ ≠ gb102 ∧ k_ ≠ gb120) ho0 (fun k_ hk_ => ⟨Or.elim hk_ (fun hs_ => hs_.1) (fun hn_ => (Nat.le_trans (below_size HB.out) hn_)), Or.elim hk_ (fun hs_ => hs_.2.1) (fun hn_ => (Kd.freshB BK101.out k_ hn_)), Or.elim hk_ (fun hs_ => hs_.2.2.1) (fun hn_ => (Kd.freshB BK102.out k_ hn_)), Or.elim hk_ (fun hs_ => hs_.2.2.2) (fun hn_ => (Kd.freshB BK120.out k_ hn_))⟩)) (below_size HB.out)); replace BK101 := qb BK101 hb; replace BK102 := qb BK102 hb; replace BK120 := qb BK120 hb; clear HO118; have HO118 := n0_; clear n0_; replace HB := qs HB hb; (try clear hb); (try clear ho0)) | ((with_reducible refine gate_dst (N := 8) rfl ?_); refine bE (N := 8) (cs := #[.int .i64 0, .int .i64 0, .slice none 0 0]) (t := 42) ?_; intro gb126 hg w40 hbox hb; have GW126 := qw HB hg; have GE126 := qw HB hg; have NB101_126 := ql BK101 hg; have NB126_101 := qg BK101 hg; have NB102_126 := ql BK102 hg; have NB126_102 := qg BK102 hg; have NB120_126 := ql BK120 hg; have NB126_120 := qg BK120 hg; replace HO118 := qv HO118 hg hb; replace HO125 := qv HO125 hg hb; replace BK101 := qb BK101 hb; replace BK102 := qb BK102 hb; replace BK120 := qb BK120 hb; have BK126 := aK hbox; replace HB := qs HB hb; clear hb hbox hg; have hnb41 := NB126_101.out; have hnc41 := NB101_126.out; have hnb42 := NB126_102.out; have hnc42 := NB102_126.out; have hnb43 := NB126_120.out; have hnc43 := NB120_126.out; obtain ⟨hcz44_0, hcz44_1, hcz44_2, hfz44_0, hfz44_1, hfz44_2⟩ := cA3 BK126; obtain ⟨Ao45, co45, eo45⟩ := Kd.V_slice HO125.out; subst eo45))
     have n0_ : Aside0 (Kd.V k42 42 (((w40.setCell ⟨gb126, 0, none⟩ (.int .i64 t121)).setCell ⟨gb126, 1, none⟩ (.int .i64 t122)).setCell ⟨gb126, 2, none⟩ (.slice Ao45 t123.length co45)) w.heap.size (fun k_ => (w.heap.size ≤ k_) ∧ k_ ≠ gb101 ∧ k_ ≠ gb102 ∧ k_ ≠ gb120 ∧ k_ ≠ gb126) (.slice Ao36 t116.length co36) t116) := ⟨by (with_reducible repeat (first | apply Kd.V_alloc | apply Kd.V_drewN | apply Kd.V_drew)); exact Kd.V_mono (vF3 gb126 (Kd.V_mono HO118.out (fun k_ hk => (⟨hk, hk.2⟩ : _ ∧ k_ ≠ gb126))) (fun _ hk => hk.2)) (fun _ hk => ⟨hk.1.1.1, ⟨hk.1.1.2.1, ⟨hk.1.1.2.2.1, ⟨hk.1.1.2.2.2, hk.1.2⟩⟩⟩⟩)⟩
     have n1_ : Aside0 (Kd.V k42 42 (((w40.setCell ⟨gb126, 0, none⟩ (.int .i64 t121)).setCell ⟨gb126, 1, none⟩ (.int .i64 t122)).setCell ⟨gb126, 2, none⟩ (.slice Ao45 t123.length co45)) w.heap.size (fun k_ => (w.heap.size ≤ k_) ∧ k_ ≠ gb101 ∧ k_ ≠ gb102 ∧ k_ ≠ gb120 ∧ k_ ≠ gb126) (.slice Ao45 t123.length co45) t123) := ⟨by (with_reducible repeat (first | apply Kd.V_alloc | apply Kd.V_drewN | apply Kd.V_drew)); exact Kd.V_mono (vF3 gb126 (Kd.V_mono HO125.out (fun k_ hk => (⟨hk, hk.2⟩ : _ ∧ k_ ≠ gb126))) (fun _ hk => hk.2)) (fun _ hk => ⟨hk.1.1.1, ⟨hk.1.1.2.1, ⟨hk.1.1.2.2.1, ⟨hk.1.1.2.2.2, hk.1.2⟩⟩⟩⟩)⟩
     have n2_ : Aside0 ((((w40.setCell ⟨gb126, 0, none⟩ (.int .i64 t121)).setCell ⟨gb126, 1, none⟩ (.int .i64 t122)).setCell ⟨gb126, 2, none⟩ (.slice Ao45 t123.length co45)).heap[gb101]? = some (.cells #[.int .i64 a0_0, .int .i64 a0_1, .slice (some ad113) l0_2.length c0_2] 37 (0, 0))) := ⟨by (repeat first | with_reducible apply zN | with_reducible apply zD | with_reducible apply zA | refine blk_far ?_ NB101_126.out _); exact BK101.out⟩
     have n3_ : Aside0 ((((w40.setCell ⟨gb126, 0, none⟩ (.int .i64 t121)).setCell ⟨gb126, 1, none⟩ (.int .i64 t122)).setCell ⟨gb126, 2, none⟩ (.slice Ao45 t123.length co45)).heap[gb102]? = some (.cells #[.int .i64 0, .int .i64 0, .slice none 0 0] 42 (0, 0))) := ⟨by (repeat first | with_reducible apply zN | with_reducible apply zD | with_reducible apply zA | refine blk_far ?_ NB102_126.out _); exact BK102.out⟩
     have n4_ : Aside0 ((((w40.setCell ⟨gb126, 0, none⟩ (.int .i64 t121)).setCell ⟨gb126, 1, none⟩ (.int .i64 t122)).setCell ⟨gb126, 2, none⟩ (.slice Ao45 t123.length co45)).heap[gb120]? = some (.cells #[.int .i64 t114, .int .i64 t115, .slice Ao36 t116.length co36] 42 (0, 0))) := ⟨by (repeat first | with_reducible apply zN | with_reducible apply zD | with_reducible apply zA | refine blk_far ?_ NB120_126.out _); exact BK120.out⟩
     have n5_ : Aside0 ((((w40.setCell ⟨gb126, 0, none⟩ (.int .i64 t121)).setCell ⟨gb126, 1, none⟩ (.int .i64 t122)).setCell ⟨gb126, 2, none⟩ (.slice Ao45 t123.length co45)).heap[gb126]? = some (.cells #[.int .i64 t121, .int .i64 t122, .slice Ao45 t123.length co45] 42 (0, 0))) := ⟨p3 BK126⟩
     have n6_ : Aside0 (Below w.heap.size w (((w40.setCell ⟨gb126, 0, none⟩ (.int .i64 t121)).setCell ⟨gb126, 1, none⟩ (.int .i64 t122)).setCell ⟨gb126, 2, none⟩ (.slice Ao45 t123.length co45))) := ⟨pH HB⟩
     (try clear HO118)
     (try clear HO125)
     (try clear BK101)
     (try clear BK102)
     (try clear BK120)
     (try clear BK126)
     (try clear HB)
     generalize (((w40.setCell ⟨gb126, 0, none⟩ (.int .i64 t121)).setCell ⟨gb126, 1, none⟩ (.int .i64 t122)).setCell ⟨gb126, 2, none⟩ (.slice Ao45 t123.length co45)) = w46 at n0_ n1_ n2_ n3_ n4_ n5_ n6_ ⊢
     have HO118 := n0_
     have HO125 := n1_
     have BK101 := n2_
     have BK102 := n3_
     have BK120 := n4_
     have BK126 := n5_
     have HB := n6_
     clear n0_ n1_ n2_ n3_ n4_ n5_ n6_
     have n0_ := aK (Kd.V_drew HO118.out)
     have n1_ := aK (Kd.V_drew HO125.out)
     have n2_ := aK (blk_drew BK101.out)
     have n3_ := aK (blk_drew BK102.out)
     have n4_ := aK (blk_drew BK120.out)
     have n5_ := aK (blk_drew BK126.out)
     have n6_ := aK (below_drew1 HB.out)
     clear HO118
     clear HO125
     clear BK101
     clear BK102
     clear BK120
     clear BK126
     clear HB
     have HO118 := n0_
     have HO125 := n1_
     have BK101 := n2_
     have BK102 := n3_
     have BK120 := n4_
     have BK126 := n5_
     have HB := n6_
     clear n0_ n1_ n2_ n3_ n4_ n5_ n6_
     refine start_ (n := 5) (S := fun w' => w'.cell? ⟨gb126, 0, none⟩ = some (.int .i64 t121) ∧ w'.cell? ⟨gb126, 1, none⟩ = some (.int .i64 t122) ∧ w'.cell? ⟨gb126, 2, none⟩ = some (.slice Ao45 t123.length co45)) (ds := []) (bs 0 5) (by kernel_rfl) rfl rfl ⟨(blk_cell BK126.out 0).trans rfl, (blk_cell BK126.out 1).trans rfl, (blk_cell BK126.out 2).trans rfl⟩ (fun hHeld => ?_)
     generalize w46.drew = w47 at HO118 HO125 BK101 BK102 BK120 BK126 HB hHeld ⊢
     refine take_ (i := 0) (N := some 53) (v := ?_) (a' := ?_) (bs 1 4) rfl rfl (by kernel_rfl) (fun _ _ _ h => h) (Or.inl ⟨by rfl, ?_⟩) hHeld ?_ ?_
     rotate_left
     ·rintro w' ⟨s0, s1, s2⟩
      go_simp
      with_reducible rfl
     rotate_left
     ·simp only [sP, i64_w, i32_w]
      rfl
     refine take_ (i := 1) (N := some 54) (v := ?_) (a' := ?_) (bs 2 3) rfl rfl (by kernel_rfl) (fun _ _ _ h => h) (Or.inl ⟨by rfl, ?_⟩) hHeld ?_ ?_
     rotate_left
     ·rintro w' ⟨s0, s1, s2⟩
      go_simp
      with_reducible rfl
     rotate_left
     ·simp only [sP, i64_w, i32_w]
      rfl
     refine one_ (i := 2) (N := some 55) (bs 3 2) rfl rfl (by kernel_rfl) (by decide) (fun K hK => ?_)
     refine goes_ Try.func23 (by kernel_rfl) rfl #[.agg #[.int .i64 t121, .int .i64 t122, .slice Ao45 t123.length co45]] (by rfl) rfl rfl tA ?_
     with_reducible refine (impl_comb_isGood.calls k t121 t122 _ _ t123 t127 _ ?side1 ?side2 A26.out).mono ?_
     (case side1 => exact sC ((Kd.V_reads' HO125.out).2.2))
     (case side2 => exact (Kd.V_reads' HO125.out).2.1)
     rintro e w48 ⟨rfl, hb⟩
     refine ⟨_, rfl, ?_⟩
     have n0_ := aK (Kd.V_below HO118.out hb)
     have n1_ := aK (Kd.V_below HO125.out hb)
     have n2_ := aK (blk_below BK101.out hb)
     have n3_ := aK (blk_below BK102.out hb)
     have n4_ := aK (blk_below BK120.out hb)
     have n5_ := aK (blk_below BK126.out hb)
     have n6_ := aK (below_step (pH HB) hb)
     clear HO118
     clear HO125
     clear BK101
     clear BK102
     clear BK120
     clear BK126
     clear HB
     have HO118 := n0_
     have HO125 := n1_
     have BK101 := n2_
     have BK102 := n3_
     have BK120 := n4_
     have BK126 := n5_
     have HB := n6_
     clear n0_ n1_ n2_ n3_ n4_ n5_ n6_
     (try clear hb)
     (try clear hb2)
     (try clear hk)
     (try clear hi)
     refine hK.out _ _ ⟨(blk_cell BK126.out 0).trans rfl, (blk_cell BK126.out 1).trans rfl, (blk_cell BK126.out 2).trans rfl⟩ (fun hHeld => ?_)
     clear hK K
     refine norm_ (a' := ?_) ?_ ?_
     rotate_left
     ·show Act.put _ (some 55) _ = _
      simp only [sP, i64_w, i32_w]
      rfl
     refine one_ (i := 3) (N := none) (bs 4 1) rfl rfl (by kernel_rfl) (by decide) (fun K hK => ?_)
     have hs49 : w48.cell? ⟨gb102, 0, none⟩ = some (.int .i64 0) := (blk_cell BK102.out 0).trans rfl
     have hfs49 := blk_frozen BK102.out 0
     have hns49_0 := NB101_102.out
     have hns49_2 := NB120_102.out
     have hns49_3 := NB126_102.out
     have hms49_0 := NB102_101.out
     have hms49_2 := NB102_120.out
     have hms49_3 := NB102_126.out
     have hs50 : w48.cell? ⟨gb102, 1, none⟩ = some (.int .i64 0) := (blk_cell BK102.out 1).trans rfl
     have hfs50 := blk_frozen BK102.out 1
     have hns50_0 := NB101_102.out
     have hns50_2 := NB120_102.out
     have hns50_3 := NB126_102.out
     have hms50_0 := NB102_101.out
     have hms50_2 := NB102_120.out
     have hms50_3 := NB102_126.out
     have hs51 : w48.cell? ⟨gb102, 2, none⟩ = some (.slice none 0 0) := (blk_cell BK102.out 2).trans rfl
     have hfs51 := blk_frozen BK102.out 2
     have hns51_0 := NB101_102.out
     have hns51_2 := NB120_102.out
     have hns51_3 := NB126_102.out
     have hms51_0 := NB102_101.out
     have hms51_2 := NB102_120.out
     have hms51_3 := NB102_126.out
     refine skip_ (w1 := ?_) (by rfl) rfl ?_ ?_
     rotate_left
     ·go_simp
      rfl
     refine hK.out _ _ ⟨(cF3 NB126_102.out (hHeld.1)), (cF3 NB126_102.out (hHeld.2.1)), (cF3 NB126_102.out (hHeld.2.2))⟩ (fun hHeld => ?_)
     clear hK K
     refine pure_ (i := 4) (N := some 5) (v := ?_) (a' := ?_) (bs 5 0) rfl rfl (by kernel_rfl) (fun _ _ _ h => h) (Or.inl ⟨by rfl, ?_⟩) ?_ ?_
     rotate_left
     ·intro w'
      go_simp
      with_reducible rfl
     rotate_left
     ·simp only [sP, i64_w, i32_w]
      rfl
     refine done_ (by kernel_rfl) ?_
     try go_wp2
     refine bodyPost_ret (results_ct rfl _ _ gb102 42 #[.int .i64 t121, .int .i64 t122, .slice Ao45 t123.length co45] (0, 0) _ rfl (p3 BK102) Try.underlying42 rfl (by kernel_rfl)) rfl ?_
     exact ⟨_, eW, by (with_reducible repeat (first | apply Kd.V_alloc | apply Kd.V_drewN | apply Kd.V_drew)); exact Kd.V_mono (vF3 gb102 (Kd.V_mono HO125.out (fun k_ hk => (⟨hk, hk.2.2.1⟩ : _ ∧ k_ ≠ gb102))) (fun _ hk => hk.2)) (fun _ hk => hk.1.1), pH HB⟩
    ·replace c24 := Bool.eq_false_iff.mpr c24
     subst c24
     rw [if_neg (show ¬ (false = true) by decide)] at H
     simp only [Option.some.injEq, Prod.mk.injEq] at H
     obtain ⟨rfl, rfl, rfl, rfl⟩ := H
     go_enter Try.func11, Try.ntmps11
     go_wp2_with (first | ((with_reducible refine gate_dst (N := 2) rfl ?_); refine bE (N := 2) (cs := #[.int .i64 a0_0, .int .i64 a0_1, .slice A0_2 l0_2.length c0_2]) (t := 37) ?_; intro gb101 hg w52 hbox hb; have GW101 := qw HB hg; have GE101 := qw HB hg; have BK101 := aK hbox; replace HB := qs HB hb; clear hb hbox hg) | ((with_reducible refine gate_dst (N := 4) rfl ?_); refine bE (N := 4) (cs := #[.int .i64 0, .int .i64 0, .slice none 0 0]) (t := 42) ?_; intro gb102 hg w53 hbox hb; have GW102 := qw HB hg; have GE102 := qw HB hg; have NB101_102 := ql BK101 hg; have NB102_101 := qg BK101 hg; replace BK101 := qb BK101 hb; have BK102 := aK hbox; replace HB := qs HB hb; clear hb hbox hg; have hnb54 := NB101_102.out; have hnc54 := NB102_101.out; obtain ⟨hcz55_0, hcz55_1, hcz55_2, hfz55_0, hfz55_1, hfz55_2⟩ := cA3 BK101; have p113 : 0 ≤ (0 : Int) := (by omega); have q113 : 0 < (l0_2.length : Int) := dA; obtain ⟨ad113, A113_2, c113_2, e113, hx113_0, hx113_1, hx113_2, hl113_2, hi113_2⟩ := at_T37 HR0_2.out 0 p113 q113; cases e113; have qi113 : (0 < l0_2.length) = True := eq_true (by omega); (try rw [show ((0 : Int)).toNat = 0 from rfl] at hx113_0); (try rw [show 0 * 3 = 0 from rfl] at hx113_0); (try rw [Addr.add_zero'] at hx113_0); (try rw [show ((0 : Int)).toNat = 0 from rfl] at hx113_1); (try rw [show 0 * 3 = 0 from rfl] at hx113_1); (try rw [Addr.add_zero'] at hx113_1); (try rw [show ((0 : Int)).toNat = 0 from rfl] at hx113_2); (try rw [show 0 * 3 = 0 from rfl] at hx113_2); (try rw [Addr.add_zero'] at hx113_2); replace hx113_0 := uC HB hx113_0; replace hx113_1 := uC HB hx113_1; replace hx113_2 := uC HB hx113_2; have HR113_2 := aK hi113_2; have HC113_2 := aK hl113_2; clear hi113_2 hl113_2; replace p113 := eq_true p113; replace q113 := eq_true q113) | ((with_reducible refine gate_callee (f := 11) rfl ?_); refine goesL_ (some 43) rfl rfl Try.func11 (by kernel_rfl) rfl #[.agg #[.int .i64 ((rd_T37 l0_2 0).f0), .int .i64 ((rd_T37 l0_2 0).f1), .slice A113_2 ((rd_T37 l0_2 0).f2).length c113_2], .int .i64 (wrap64 (a1 + 1))] rfl tA ?_; (with_reducible refine (ih k (by omega) ((rd_T37 l0_2 0).f0) ((rd_T37 l0_2 0).f1) _ _ ((rd_T37 l0_2 0).f2) (wrap64 (a1 + 1)) t114 t115 t116 false _ ?side1 ?side2 A23.out).mono ?_); (case side1 => exact sC (Kd.C_below HR113_2.out HB.out)); (case side2 => exact HC113_2.out); rintro e w56 ⟨v117, rfl, ho0, hb⟩; refine ⟨_, rfl, ?_⟩; have HO118 := aK (Kd.V_lower (Kd.V_mono (ok' := fun k_ => (w.heap.size ≤ k_) ∧ k_ ≠ gb101 ∧ k_ ≠ gb102) ho0 (fun k_ hk_ => ⟨(Nat.le_trans (below_size HB.out) hk_), (Kd.freshB BK101.out k_ hk_), (Kd.freshB BK102.out k_ hk_)⟩)) (below_size HB.out)); replace BK101 := qb BK101 hb; replace BK102 := qb BK102 hb; replace HB := qs HB hb; (try clear hb); (try clear ho0)) | ((with_reducible refine gate_dst (N := 6) rfl ?_); refine bE (N := 6) (cs := #[.int .i64 0, .int .i64 0, .slice none 0 0]) (t := 42) ?_; intro gb120 hg w57 hbox hb; have GW120 := qw HB hg; have GE120 := qw HB hg; have NB101_120 := ql BK101 hg; have NB120_101 := qg BK101 hg; have NB102_120 := ql BK102 hg; have NB120_102 := qg BK102 hg; replace HO118 := qv HO118 hg hb; replace BK101 := qb BK101 hb; replace BK102 := qb BK102 hb; have BK120 := aK hbox; replace HB := qs HB hb; clear hb hbox hg; have hnb58 := NB120_101.out; have hnc58 := NB101_120.out; have hnb59 := NB120_102.out; have hnc59 := NB102_120.out; obtain ⟨hcz60_0, hcz60_1, hcz60_2, hfz60_0, hfz60_1, hfz60_2⟩ := cA3 BK120; obtain ⟨Ao61, co61, eo61⟩ := Kd.V_slice HO118.out; subst eo61; obtain ⟨hcz62_0, hcz62_1, hcz62_2, hfz62_0, hfz62_1, hfz62_2⟩ := cA3 BK102))
     refine bodyPost_ret (results_ct rfl _ _ gb102 42 #[.int .i64 0, .int .i64 0, .slice none 0 0] (0, 0) _ rfl (by (with_reducible repeat first | apply zN | apply zD | apply zA); refine blk_put (cs := #[.int .i64 0, .int .i64 0, .slice none 0 0]) ?_ 2 _ rfl; (with_reducible repeat first | apply zN | apply zD | apply zA); refine blk_put (cs := #[.int .i64 0, .int .i64 0, .slice none 0 0]) ?_ 1 _ rfl; (with_reducible repeat first | apply zN | apply zD | apply zA); refine blk_put (cs := #[.int .i64 0, .int .i64 0, .slice none 0 0]) ?_ 0 _ rfl; (repeat first | with_reducible apply zN | with_reducible apply zD | with_reducible apply zA | refine blk_far ?_ NB102_120.out _); exact BK102.out) Try.underlying42 rfl (by kernel_rfl)) rfl ?_
     exact ⟨_, eW, (by exact Kd.V_nil _ _ _ _ _), pH HB⟩
   ·rw [if_neg c22] at H
    exact absurd H (by simp)
  ·rw [if_neg c21] at H
   have c21b0 : (a0_0 == 2) = false := beq_eq_false_iff_ne.mpr c21
   have c21b1 : (a0_0 != 2) = true := bne_iff_ne.mpr c21
   by_cases c63 : 0 < (l0_2.length : Int)
   ·rw [if_pos c63] at H
    have c63b0 : decide (0 < (l0_2.length : Int)) = true := decide_eq_true c63
    have c63b1 : decide (0 < l0_2.length) = true := decide_eq_true (by omega)
    clear c63
    replace H := Option.bind_eq_some_iff.mp H
    obtain ⟨⟨t129, t130, t131, t134⟩, A640, H⟩ := H
    try dsimp only at H
    have A64 := aK A640
    clear A640
    by_cases c65 : 1 < (l0_2.length : Int)
    ·rw [if_pos c65] at H
     have c65b0 : decide (1 < (l0_2.length : Int)) = true := decide_eq_true c65
     have c65b1 : decide (1 < l0_2.length) = true := decide_eq_true (by omega)
     clear c65
     replace H := Option.bind_eq_some_iff.mp H
     obtain ⟨⟨t137, t138, t139, t142⟩, A660, H⟩ := H
     try dsimp only at H
     have A66 := aK A660
     clear A660
     replace H := Option.bind_eq_some_iff.mp H
     obtain ⟨⟨t144, t145, t146⟩, A670, H⟩ := H
     try dsimp only at H
     have A67 := aK A670
     clear A670
     by_cases c68 : t134 = true
     ·subst c68
      rw [if_pos rfl] at H
      by_cases c69 : t142 = true
      ·subst c69
       rw [if_pos rfl] at H
       replace H := Option.bind_eq_some_iff.mp H
       obtain ⟨t150, A700, H⟩ := H
       try dsimp only at H
       have A70 := aK A700
       clear A700
       simp only [Option.some.injEq, Prod.mk.injEq] at H
       obtain ⟨rfl, rfl, rfl, rfl⟩ := H
       go_enter Try.func11, Try.ntmps11
       try go_wp2_with (first | ((with_reducible refine gate_dst (N := 2) rfl ?_); refine bE (N := 2) (cs := #[.int .i64 a0_0, .int .i64 a0_1, .slice A0_2 l0_2.length c0_2]) (t := 37) ?_; intro gb101 hg w71 hbox hb; have GW101 := qw HB hg; have GE101 := qw HB hg; have BK101 := aK hbox; replace HB := qs HB hb; clear hb hbox hg) | ((with_reducible refine gate_dst (N := 4) rfl ?_); refine bE (N := 4) (cs := #[.int .i64 0, .int .i64 0, .slice none 0 0]) (t := 42) ?_; intro gb102 hg w72 hbox hb; have GW102 := qw HB hg; have GE102 := qw HB hg; have NB101_102 := ql BK101 hg; have NB102_101 := qg BK101 hg; replace BK101 := qb BK101 hb; have BK102 := aK hbox; replace HB := qs HB hb; clear hb hbox hg; have hnb73 := NB101_102.out; have hnc73 := NB102_101.out; obtain ⟨hcz74_0, hcz74_1, hcz74_2, hfz74_0, hfz74_1, hfz74_2⟩ := cA3 BK101; have p128 : 0 ≤ (0 : Int) := (by omega); have q128 : 0 < (l0_2.length : Int) := dA; obtain ⟨ad128, A128_2, c128_2, e128, hx128_0, hx128_1, hx128_2, hl128_2, hi128_2⟩ := at_T37 HR0_2.out 0 p128 q128; cases e128; have qi128 : (0 < l0_2.length) = True := eq_true (by omega); (try rw [show ((0 : Int)).toNat = 0 from rfl] at hx128_0); (try rw [show 0 * 3 = 0 from rfl] at hx128_0); (try rw [Addr.add_zero'] at hx128_0); (try rw [show ((0 : Int)).toNat = 0 from rfl] at hx128_1); (try rw [show 0 * 3 = 0 from rfl] at hx128_1); (try rw [Addr.add_zero'] at hx128_1); (try rw [show ((0 : Int)).toNat = 0 from rfl] at hx128_2); (try rw [show 0 * 3 = 0 from rfl] at hx128_2); (try rw [Addr.add_zero'] at hx128_2); replace hx128_0 := uC HB hx128_0; replace hx128_1 := uC HB hx128_1; replace hx128_2 := uC HB hx128_2; have HR128_2 := aK hi128_2; have HC128_2 := aK hl128_2; clear hi128_2 hl128_2; replace p128 := eq_true p128; replace q128 := eq_true q128) | ((with_reducible refine gate_callee (f := 11) rfl ?_); refine goesL_ (some 62) rfl rfl Try.func11 (by kernel_rfl) rfl #[.agg #[.int .i64 ((rd_T37 l0_2 0).f0), .int .i64 ((rd_T37 l0_2 0).f1), .slice A128_2 ((rd_T37 l0_2 0).f2).length c128_2], .int .i64 a1] rfl tA ?_; (with_reducible refine (ih k (by omega) ((rd_T37 l0_2 0).f0) ((rd_T37 l0_2 0).f1) _ _ ((rd_T37 l0_2 0).f2) a1 t129 t130 t131 true _ ?side1 ?side2 A64.out).mono ?_); (case side1 => exact sC (Kd.C_below HR128_2.out HB.out)); (case side2 => exact HC128_2.out); rintro e w75 ⟨v132, rfl, ho0, hb⟩; refine ⟨_, rfl, ?_⟩; have HO133 := aK (Kd.V_lower (Kd.V_mono (ok' := fun k_ => (w.heap.size ≤ k_) ∧ k_ ≠ gb101 ∧ k_ ≠ gb102) ho0 (fun k_ hk_ => ⟨(Nat.le_trans (below_size HB.out) hk_), (Kd.freshB BK101.out k_ hk_), (Kd.freshB BK102.out k_ hk_)⟩)) (below_size HB.out)); replace BK101 := qb BK101 hb; replace BK102 := qb BK102 hb; replace HB := qs HB hb; (try clear hb); (try clear ho0)) | ((with_reducible refine gate_dst (N := 9) rfl ?_); refine bE (N := 9) (cs := #[.int .i64 0, .int .i64 0, .slice none 0 0]) (t := 42) ?_; intro gb135 hg w76 hbox hb; have GW135 := qw HB hg; have GE135 := qw HB hg; have NB101_135 := ql BK101 hg; have NB135_101 := qg BK101 hg; have NB102_135 := ql BK102 hg; have NB135_102 := qg BK102 hg; replace HO133 := qv HO133 hg hb; replace BK101 := qb BK101 hb; replace BK102 := qb BK102 hb; have BK135 := aK hbox; replace HB := qs HB hb; clear hb hbox hg; have hnb77 := NB135_101.out; have hnc77 := NB101_135.out; have hnb78 := NB135_102.out; have hnc78 := NB102_135.out; obtain ⟨hcz79_0, hcz79_1, hcz79_2, hfz79_0, hfz79_1, hfz79_2⟩ := cA3 BK135; obtain ⟨Ao80, co80, eo80⟩ := Kd.V_slice HO133.out; subst eo80; obtain ⟨hcz81_0, hcz81_1, hcz81_2, hfz81_0, hfz81_1, hfz81_2⟩ := cA3 BK101; have p136 : 0 ≤ (1 : Int) := (by omega); have q136 : 1 < (l0_2.length : Int) := dA; obtain ⟨ad136, A136_2, c136_2, e136, hx136_0, hx136_1, hx136_2, hl136_2, hi136_2⟩ := at_T37 HR0_2.out 1 p136 q136; obtain rfl : ad128 = ad136 := (by injection e136); (try simp only [show (1 : Int).toNat = 1 from rfl, Nat.reduceMul, Nat.reduceEqDiff, Go.Addr.add, ↓reduceIte] at hx136_0); (try simp only [show (1 : Int).toNat = 1 from rfl, Nat.reduceMul, Nat.reduceEqDiff, Go.Addr.add, ↓reduceIte] at hx136_1); (try simp only [show (1 : Int).toNat = 1 from rfl, Nat.reduceMul, Nat.reduceEqDiff, Go.Addr.add, ↓reduceIte] at hx136_2); have qi136 : (1 < l0_2.length) = True := eq_true (by omega); (try rw [show ((1 : Int)).toNat = 1 from rfl] at hx136_0); (try rw [show 1 * 3 = 3 from rfl] at hx136_0); (try rw [show ((1 : Int)).toNat = 1 from rfl] at hx136_1); (try rw [show 1 * 3 = 3 from rfl] at hx136_1); (try rw [show ((1 : Int)).toNat = 1 from rfl] at hx136_2); (try rw [show 1 * 3 = 3 from rfl] at hx136_2); have hn136_0 : ad128.block ≠ gb135 := nF hx136_0 GW135; have hn136_1 : ad128.block ≠ gb135 := nF hx136_0 GW135; have hn136_2 : ad128.block ≠ gb135 := nF hx136_0 GW135; replace hx136_0 := uC HB hx136_0; replace hx136_1 := uC HB hx136_1; replace hx136_2 := uC HB hx136_2; have HR136_2 := aK hi136_2; have HC136_2 := aK hl136_2; clear hi136_2 hl136_2; replace hx136_0 := (cell_far (p := ⟨gb135, 0, none⟩) (cB hn136_0) (.int .i64 t129)).trans hx136_0; replace hx136_1 := (cell_far (p := ⟨gb135, 0, none⟩) (cB hn136_0) (.int .i64 t129)).trans hx136_1; replace hx136_2 := (cell_far (p := ⟨gb135, 0, none⟩) (cB hn136_0) (.int .i64 t129)).trans hx136_2; replace hx136_0 := (cell_far (p := ⟨gb135, 1, none⟩) (cB hn136_1) (.int .i64 t130)).trans hx136_0; replace hx136_1 := (cell_far (p := ⟨gb135, 1, none⟩) (cB hn136_1) (.int .i64 t130)).trans hx136_1; replace hx136_2 := (cell_far (p := ⟨gb135, 1, none⟩) (cB hn136_1) (.int .i64 t130)).trans hx136_2; replace hx136_0 := (cell_far (p := ⟨gb135, 2, none⟩) (cB hn136_2) (.slice Ao80 t131.length co80)).trans hx136_0; replace hx136_1 := (cell_far (p := ⟨gb135, 2, none⟩) (cB hn136_2) (.slice Ao80 t131.length co80)).trans hx136_1; replace hx136_2 := (cell_far (p := ⟨gb135, 2, none⟩) (cB hn136_2) (.slice Ao80 t131.length co80)).trans hx136_2; clear hn136_0; clear hn136_1; clear hn136_2; replace p136 := eq_true p136; replace q136 := eq_true q136) | ((with_reducible refine gate_callee (f := 11) rfl ?_); refine goesL_ (some 71) rfl rfl Try.func11 (by kernel_rfl) rfl #[.agg #[.int .i64 ((rd_T37 l0_2 1).f0), .int .i64 ((rd_T37 l0_2 1).f1), .slice A136_2 ((rd_T37 l0_2 1).f2).length c136_2], .int .i64 a1] rfl tA ?_; (with_reducible refine (ih k (by omega) ((rd_T37 l0_2 1).f0) ((rd_T37 l0_2 1).f1) _ _ ((rd_T37 l0_2 1).f2) a1 t137 t138 t139 true _ ?side1 ?side2 A66.out).mono ?_); (case side1 => exact Kd.C_below HR136_2.out (pH HB)); (case side2 => exact HC136_2.out); rintro e w82 ⟨v140, rfl, ho0, hb⟩; refine ⟨_, rfl, ?_⟩; have n0_ := aK (Kd.V_below (by (with_reducible repeat (first | apply Kd.V_alloc | apply Kd.V_drewN | apply Kd.V_drew)); exact (Kd.V_mono (vF3 gb135 (Kd.V_mono HO133.out (fun k_ hk => (⟨hk, hk.2⟩ : _ ∧ k_ ≠ gb135))) (fun _ hk => hk.2)) (fun _ h_ => h_.1))) hb); have n1_ := aK (Kd.V_lower (Kd.V_mono (ok' := fun k_ => (w.heap.size ≤ k_) ∧ k_ ≠ gb101 ∧ k_ ≠ gb102 ∧ k_ ≠ gb135) ho0 (fun k_ hk_ => ⟨(Nat.le_trans (below_size (pH HB)) hk_), (Kd.freshB (g := gb101) (o := .cells #[.int .i64 a0_0, .int .i64 a0_1, .slice (some ad128) l0_2.length c0_2] 37 (0, 0)) (by (repeat first | with_reducible apply zN | with_reducible apply zD | with_reducible apply zA | refine blk_far ?_ NB101_135.out _); exact BK101.out) k_ hk_), (Kd.freshB (g := gb102) (o := .cells #[.int .i64 0, .int .i64 0, .slice none 0 0] 42 (0, 0)) (by (repeat first | with_reducible apply zN | with_reducible apply zD | with_reducible apply zA | refine blk_far ?_ NB102_135.out _); exact BK102.out) k_ hk_), (Kd.freshB (g := gb135) (o := .cells #[.int .i64 t129, .int .i64 t130, .slice Ao80 t131.length co80] 42 (0, 0)) (p3 BK135) k_ hk_)⟩)) (below_size (pH HB))); have n2_ := aK (blk_below (g := gb101) (o := .cells #[.int .i64 a0_0, .int .i64 a0_1, .slice (some ad128) l0_2.length c0_2] 37 (0, 0)) (by (repeat first | with_reducible apply zN | with_reducible apply zD | with_reducible apply zA | refine blk_far ?_ NB101_135.out _); exact BK101.out) hb); have n3_ := aK (blk_below (g := gb102) (o := .cells #[.int .i64 0, .int .i64 0, .slice none 0 0] 42 (0, 0)) (by (repeat first | with_reducible apply zN | with_reducible apply zD | with_reducible apply zA | refine blk_far ?_ NB102_135.out _); exact BK102.out) hb); have n4_ := aK (blk_below (g := gb135) (o := .cells #[.int .i64 t129, .int .i64 t130, .slice Ao80 t131.length co80] 42 (0, 0)) (p3 BK135) hb); have n5_ := aK (below_step (pH HB) hb); clear HO133; clear BK101; clear BK102; clear BK135; clear HB; have HO133 := n0_; have HO141 := n1_; have BK101 := n2_; have BK102 := n3_; have BK135 := n4_; have HB := n5_; clear n0_ n1_ n2_ n3_ n4_ n5_; (try clear hb); (try clear ho0)) | ((with_reducible refine gate_dst (N := 11) rfl ?_); refine bE (N := 11) (cs := #[.int .i64 0, .int .i64 0, .slice none 0 0]) (t := 42) ?_; intro gb143 hg w83 hbox hb; have GW143 := qw HB hg; have GE143 := qw HB hg; have NB101_143 := ql BK101 hg; have NB143_101 := qg BK101 hg; have NB102_143 := ql BK102 hg; have NB143_102 := qg BK102 hg; have NB135_143 := ql BK135 hg; have NB143_135 := qg BK135 hg; replace HO133 := qv HO133 hg hb; replace HO141 := qv HO141 hg hb; replace BK101 := qb BK101 hb; replace BK102 := qb BK102 hb; replace BK135 := qb BK135 hb; have BK143 := aK hbox; replace HB := qs HB hb; clear hb hbox hg; have hnb84 := NB143_101.out; have hnc84 := NB101_143.out; have hnb85 := NB143_102.out; have hnc85 := NB102_143.out; have hnb86 := NB143_135.out; have hnc86 := NB135_143.out; obtain ⟨hcz87_0, hcz87_1, hcz87_2, hfz87_0, hfz87_1, hfz87_2⟩ := cA3 BK143; obtain ⟨Ao88, co88, eo88⟩ := Kd.V_slice HO141.out; subst eo88) | ((with_reducible refine gate_store (t := 42) (p := 11) rfl ?_); refine store_event (t := 42) (p := 11) (v := ?vo_w89) (w1 := (((w83.setCell ⟨gb143, 0, none⟩ (.int .i64 t137)).setCell ⟨gb143, 1, none⟩ (.int .i64 t138)).setCell ⟨gb143, 2, none⟩ (.slice Ao88 t139.length co88))) ?hg ?ho ?hn ?hr ?_; (case ho => rfl); (case hg => rfl); (case hn => rfl); (case hr => first | (go_simp; done) | (go_simp; rfl)); intro w89 hw; have n0_ : Aside0 (Kd.V k42 42 w89 w.heap.size (fun k_ => (w.heap.size ≤ k_) ∧ k_ ≠ gb101 ∧ k_ ≠ gb102 ∧ k_ ≠ gb135 ∧ k_ ≠ gb143) (.slice Ao80 t131.length co80) t131) := ⟨(by rw [hw]; exact (by (with_reducible repeat (first | apply Kd.V_alloc | apply Kd.V_drewN | apply Kd.V_drew)); exact Kd.V_mono (vF3 gb143 (Kd.V_mono HO133.out (fun k_ hk => (⟨hk, hk.2⟩ : _ ∧ k_ ≠ gb143))) (fun _ hk => hk.2)) (fun _ hk => ⟨hk.1.1.1.1, ⟨hk.1.1.1.2.1, ⟨hk.1.1.1.2.2, ⟨hk.1.1.2, hk.1.2⟩⟩⟩⟩)))⟩; have n1_ : Aside0 (Kd.V k42 42 w89 w.heap.size (fun k_ => (w.heap.size ≤ k_) ∧ k_ ≠ gb101 ∧ k_ ≠ gb102 ∧ k_ ≠ gb135 ∧ k_ ≠ gb143) (.slice Ao88 t139.length co88) t139) := ⟨(by rw [hw]; exact (by (with_reducible repeat (first | apply Kd.V_alloc | apply Kd.V_drewN | apply Kd.V_drew)); exact Kd.V_mono (vF3 gb143 (Kd.V_mono HO141.out (fun k_ hk => (⟨hk, hk.2⟩ : _ ∧ k_ ≠ gb143))) (fun _ hk => hk.2)) (fun _ hk => ⟨hk.1.1.1, ⟨hk.1.1.2.1, ⟨hk.1.1.2.2.1, ⟨hk.1.1.2.2.2, hk.1.2⟩⟩⟩⟩)))⟩; have n2_ : Aside0 (w89.heap[gb101]? = some (.cells #[.int .i64 a0_0, .int .i64 a0_1, .slice (some ad128) l0_2.length c0_2] 37 (0, 0))) := ⟨(by rw [hw]; exact (by (repeat first | with_reducible apply zN | with_reducible apply zD | with_reducible apply zA | refine blk_far ?_ NB101_143.out _); exact BK101.out))⟩; have n3_ : Aside0 (w89.heap[gb102]? = some (.cells #[.int .i64 0, .int .i64 0, .slice none 0 0] 42 (0, 0))) := ⟨(by rw [hw]; exact (by (repeat first | with_reducible apply zN | with_reducible apply zD | with_reducible apply zA | refine blk_far ?_ NB102_143.out _); exact BK102.out))⟩; have n4_ : Aside0 (w89.heap[gb135]? = some (.cells #[.int .i64 t129, .int .i64 t130, .slice Ao80 t131.length co80] 42 (0, 0))) := ⟨(by rw [hw]; exact (by (repeat first | with_reducible apply zN | with_reducible apply zD | with_reducible apply zA | refine blk_far ?_ NB135_143.out _); exact BK135.out))⟩; have n5_ : Aside0 (w89.heap[gb143]? = some (.cells #[.int .i64 t137, .int .i64 t138, .slice Ao88 t139.length co88] 42 (0, 0))) := ⟨(by rw [hw]; exact (p3 BK143))⟩; have n6_ : Aside0 (Below w.heap.size w w89) := ⟨(by rw [hw]; exact (pH HB))⟩; clear hw; clear HO133; clear HO141; clear BK101; clear BK102; clear BK135; clear BK143; clear HB; have HO133 := n0_; have HO141 := n1_; have BK101 := n2_; have BK102 := n3_; have BK135 := n4_; have BK143 := n5_; have HB := n6_; clear n0_ n1_ n2_ n3_ n4_ n5_ n6_; obtain ⟨hcz90_0, hcz90_1, hcz90_2, hfz90_0, hfz90_1, hfz90_2⟩ := cA3 BK135; obtain ⟨hcz91_0, hcz91_1, hcz91_2, hfz91_0, hfz91_1, hfz91_2⟩ := cA3 BK143) | ((with_reducible refine gate_callee (f := 24) rfl ?_); refine goesL_ (some 76) rfl rfl Try.func24 (by kernel_rfl) rfl #[.agg #[.int .i64 t129, .int .i64 t130, .slice Ao80 t131.length co80], .agg #[.int .i64 t137, .int .i64 t138, .slice Ao88 t139.length co88]] rfl tA ?_; (with_reducible refine (impl_combApp.calls t129 t130 (fun k_ => ((w.heap.size ≤ k_) ∧ (k_ ≠ gb101 ∧ (k_ ≠ gb102 ∧ (k_ ≠ gb135 ∧ k_ ≠ gb143))))) _ _ t131 t137 t138 (fun k_ => ((w.heap.size ≤ k_) ∧ (k_ ≠ gb101 ∧ (k_ ≠ gb102 ∧ (k_ ≠ gb135 ∧ k_ ≠ gb143))))) _ _ t139 t144 t145 t146 _ ?side1 ?side2 A67.out).mono ?_); (case side1 => exact HO133.out); (case side2 => exact HO141.out); rintro e w92 ⟨v147, rfl, ho0, hb⟩; refine ⟨_, rfl, ?_⟩; have HO148 := aK (Kd.N_lower (Kd.N_mono (ok' := fun k_ => (w.heap.size ≤ k_) ∧ k_ ≠ gb101 ∧ k_ ≠ gb102 ∧ k_ ≠ gb135 ∧ k_ ≠ gb143) ho0 (fun k_ hk_ => ⟨Or.elim hk_ (fun hs_ => Or.elim hs_ (fun hs_ => hs_.1) (fun hs_ => hs_.1)) (fun hn_ => (Nat.le_trans (below_size HB.out) hn_)), Or.elim hk_ (fun hs_ => Or.elim hs_ (fun hs_ => hs_.2.1) (fun hs_ => hs_.2.1)) (fun hn_ => (Kd.freshB BK101.out k_ hn_)), Or.elim hk_ (fun hs_ => Or.elim hs_ (fun hs_ => hs_.2.2.1) (fun hs_ => hs_.2.2.1)) (fun hn_ => (Kd.freshB BK102.out k_ hn_)), Or.elim hk_ (fun hs_ => Or.elim hs_ (fun hs_ => hs_.2.2.2.1) (fun hs_ => hs_.2.2.2.1)) (fun hn_ => (Kd.freshB BK135.out k_ hn_)), Or.elim hk_ (fun hs_ => Or.elim hs_ (fun hs_ => hs_.2.2.2.2) (fun hs_ => hs_.2.2.2.2)) (fun hn_ => (Kd.freshB BK143.out k_ hn_))⟩)) (below_size HB.out)); replace HO133 := qe HO133 (by first | exact Kd.N_base ho0 | exact Kd.R_base ho0) hb; replace HO141 := qe HO141 (by first | exact Kd.N_base ho0 | exact Kd.R_base ho0) hb; replace BK101 := qb BK101 hb; replace BK102 := qb BK102 hb; replace BK135 := qb BK135 hb; replace BK143 := qb BK143 hb; replace HB := qs HB hb; (try clear hb); (try clear ho0)) | ((with_reducible refine gate_dst (N := 13) rfl ?_); refine bE (N := 13) (cs := #[.int .i64 0, .int .i64 0, .slice none 0 0]) (t := 42) ?_; intro gb149 hg w93 hbox hb; have GW149 := qw HB hg; have GE149 := qw HB hg; have NB101_149 := ql BK101 hg; have NB149_101 := qg BK101 hg; have NB102_149 := ql BK102 hg; have NB149_102 := qg BK102 hg; have NB135_149 := ql BK135 hg; have NB149_135 := qg BK135 hg; have NB143_149 := ql BK143 hg; have NB149_143 := qg BK143 hg; replace HO133 := qv HO133 hg hb; replace HO141 := qv HO141 hg hb; replace HO148 := qn HO148 hg hb; replace BK101 := qb BK101 hb; replace BK102 := qb BK102 hb; replace BK135 := qb BK135 hb; replace BK143 := qb BK143 hb; have BK149 := aK hbox; replace HB := qs HB hb; clear hb hbox hg; have hnb94 := NB149_101.out; have hnc94 := NB101_149.out; have hnb95 := NB149_102.out; have hnc95 := NB102_149.out; have hnb96 := NB149_135.out; have hnc96 := NB135_149.out; have hnb97 := NB149_143.out; have hnc97 := NB143_149.out; obtain ⟨hcz98_0, hcz98_1, hcz98_2, hfz98_0, hfz98_1, hfz98_2⟩ := cA3 BK149; obtain ⟨Ao99, co99, eo99⟩ := Kd.N_slice HO148.out; subst eo99))
       have n0_ : Aside0 (Kd.V k42 42 (((w93.setCell ⟨gb149, 0, none⟩ (.int .i64 t144)).setCell ⟨gb149, 1, none⟩ (.int .i64 t145)).setCell ⟨gb149, 2, none⟩ (.slice Ao99 t146.length co99)) w.heap.size (fun k_ => (w.heap.size ≤ k_) ∧ some k_ ≠ (.slice Ao99 t146.length co99 : Value).ownBlock ∧ k_ ≠ gb101 ∧ k_ ≠ gb102 ∧ k_ ≠ gb135 ∧ k_ ≠ gb143 ∧ k_ ≠ gb149) (.slice Ao80 t131.length co80) t131) := ⟨by (with_reducible repeat (first | apply Kd.V_alloc | apply Kd.V_drewN | apply Kd.V_drew)); exact Kd.V_mono (vF3 gb149 (Kd.V_mono HO133.out (fun k_ hk => (⟨hk, hk.2⟩ : _ ∧ k_ ≠ gb149))) (fun _ hk => hk.2)) (fun _ hk => ⟨hk.1.1.1.1, ⟨hk.1.1.2, ⟨hk.1.1.1.2.1, ⟨hk.1.1.1.2.2.1, ⟨hk.1.1.1.2.2.2.1, ⟨hk.1.1.1.2.2.2.2, hk.1.2⟩⟩⟩⟩⟩⟩)⟩
       have n1_ : Aside0 (Kd.V k42 42 (((w93.setCell ⟨gb149, 0, none⟩ (.int .i64 t144)).setCell ⟨gb149, 1, none⟩ (.int .i64 t145)).setCell ⟨gb149, 2, none⟩ (.slice Ao99 t146.length co99)) w.heap.size (fun k_ => (w.heap.size ≤ k_) ∧ some k_ ≠ (.slice Ao99 t146.length co99 : Value).ownBlock ∧ k_ ≠ gb101 ∧ k_ ≠ gb102 ∧ k_ ≠ gb135 ∧ k_ ≠ gb143 ∧ k_ ≠ gb149) (.slice Ao88 t139.length co88) t139) := ⟨by (with_reducible repeat (first | apply Kd.V_alloc | apply Kd.V_drewN | apply Kd.V_drew)); exact Kd.V_mono (vF3 gb149 (Kd.V_mono HO141.out (fun k_ hk => (⟨hk, hk.2⟩ : _ ∧ k_ ≠ gb149))) (fun _ hk => hk.2)) (fun _ hk => ⟨hk.1.1.1.1, ⟨hk.1.1.2, ⟨hk.1.1.1.2.1, ⟨hk.1.1.1.2.2.1, ⟨hk.1.1.1.2.2.2.1, ⟨hk.1.1.1.2.2.2.2, hk.1.2⟩⟩⟩⟩⟩⟩)⟩
       have n2_ : Aside0 (Kd.N k42 42 (((w93.setCell ⟨gb149, 0, none⟩ (.int .i64 t144)).setCell ⟨gb149, 1, none⟩ (.int .i64 t145)).setCell ⟨gb149, 2, none⟩ (.slice Ao99 t146.length co99)) w.heap.size (fun k_ => (w.heap.size ≤ k_) ∧ k_ ≠ gb101 ∧ k_ ≠ gb102 ∧ k_ ≠ gb135 ∧ k_ ≠ gb143 ∧ k_ ≠ gb149) (.slice Ao99 t146.length co99) t146) := ⟨by (with_reducible repeat (first | apply Kd.N_alloc | apply Kd.N_drewN | apply Kd.N_drew)); exact Kd.N_mono (nF3 gb149 (Kd.N_mono HO148.out (fun k_ hk => (⟨hk, hk.2⟩ : _ ∧ k_ ≠ gb149))) (fun _ hk => hk.2)) (fun _ hk => ⟨hk.1.1.1, ⟨hk.1.1.2.1, ⟨hk.1.1.2.2.1, ⟨hk.1.1.2.2.2.1, ⟨hk.1.1.2.2.2.2, hk.1.2⟩⟩⟩⟩⟩)⟩
       have n3_ : Aside0 ((((w93.setCell ⟨gb149, 0, none⟩ (.int .i64 t144)).setCell ⟨gb149, 1, none⟩ (.int .i64 t145)).setCell ⟨gb149, 2, none⟩ (.slice Ao99 t146.length co99)).heap[gb101]? = some (.cells #[.int .i64 a0_0, .int .i64 a0_1, .slice (some ad128) l0_2.length c0_2] 37 (0, 0))) := ⟨by (repeat first | with_reducible apply zN | with_reducible apply zD | with_reducible apply zA | refine blk_far ?_ NB101_149.out _); exact BK101.out⟩
       have n4_ : Aside0 ((((w93.setCell ⟨gb149, 0, none⟩ (.int .i64 t144)).setCell ⟨gb149, 1, none⟩ (.int .i64 t145)).setCell ⟨gb149, 2, none⟩ (.slice Ao99 t146.length co99)).heap[gb102]? = some (.cells #[.int .i64 0, .int .i64 0, .slice none 0 0] 42 (0, 0))) := ⟨by (repeat first | with_reducible apply zN | with_reducible apply zD | with_reducible apply zA | refine blk_far ?_ NB102_149.out _); exact BK102.out⟩
       have n5_ : Aside0 ((((w93.setCell ⟨gb149, 0, none⟩ (.int .i64 t144)).setCell ⟨gb149, 1, none⟩ (.int .i64 t145)).setCell ⟨gb149, 2, none⟩ (.slice Ao99 t146.length co99)).heap[gb135]? = some (.cells #[.int .i64 t129, .int .i64 t130, .slice Ao80 t131.length co80] 42 (0, 0))) := ⟨by (repeat first | with_reducible apply zN | with_reducible apply zD | with_reducible apply zA | refine blk_far ?_ NB135_149.out _); exact BK135.out⟩
       have n6_ : Aside0 ((((w93.setCell ⟨gb149, 0, none⟩ (.int .i64 t144)).setCell ⟨gb149, 1, none⟩ (.int .i64 t145)).setCell ⟨gb149, 2, none⟩ (.slice Ao99 t146.length co99)).heap[gb143]? = some (.cells #[.int .i64 t137, .int .i64 t138, .slice Ao88 t139.length co88] 42 (0, 0))) := ⟨by (repeat first | with_reducible apply zN | with_reducible apply zD | with_reducible apply zA | refine blk_far ?_ NB143_149.out _); exact BK143.out⟩
       have n7_ : Aside0 ((((w93.setCell ⟨gb149, 0, none⟩ (.int .i64 t144)).setCell ⟨gb149, 1, none⟩ (.int .i64 t145)).setCell ⟨gb149, 2, none⟩ (.slice Ao99 t146.length co99)).heap[gb149]? = some (.cells #[.int .i64 t144, .int .i64 t145, .slice Ao99 t146.length co99] 42 (0, 0))) := ⟨p3 BK149⟩
       have n8_ : Aside0 (Below w.heap.size w (((w93.setCell ⟨gb149, 0, none⟩ (.int .i64 t144)).setCell ⟨gb149, 1, none⟩ (.int .i64 t145)).setCell ⟨gb149, 2, none⟩ (.slice Ao99 t146.length co99))) := ⟨pH HB⟩
       (try clear HO133)
       (try clear HO141)
       (try clear HO148)
       (try clear BK101)
       (try clear BK102)
       (try clear BK135)
       (try clear BK143)
       (try clear BK149)
       (try clear HB)
       generalize (((w93.setCell ⟨gb149, 0, none⟩ (.int .i64 t144)).setCell ⟨gb149, 1, none⟩ (.int .i64 t145)).setCell ⟨gb149, 2, none⟩ (.slice Ao99 t146.length co99)) = w100 at n0_ n1_ n2_ n3_ n4_ n5_ n6_ n7_ n8_ ⊢
       have HO133 := n0_
       have HO141 := n1_
       have HO148 := n2_
       have BK101 := n3_
       have BK102 := n4_
       have BK135 := n5_
       have BK143 := n6_
       have BK149 := n7_
       have HB := n8_
       clear n0_ n1_ n2_ n3_ n4_ n5_ n6_ n7_ n8_
       have n0_ := aK (Kd.V_drew HO133.out)
       have n1_ := aK (Kd.V_drew HO141.out)
       have n2_ := aK (Kd.N_drew HO148.out)
       have n3_ := aK (blk_drew BK101.out)
       have n4_ := aK (blk_drew BK102.out)
       have n5_ := aK (blk_drew BK135.out)
       have n6_ := aK (blk_drew BK143.out)
       have n7_ := aK (blk_drew BK149.out)
       have n8_ := aK (below_drew1 HB.out)
       clear HO133
       clear HO141
       clear HO148
       clear BK101
       clear BK102
       clear BK135
       clear BK143
       clear BK149
       clear HB
       have HO133 := n0_
       have HO141 := n1_
       have HO148 := n2_
       have BK101 := n3_
       have BK102 := n4_
       have BK135 := n5_
       have BK143 := n6_
       have BK149 := n7_
       have HB := n8_
       clear n0_ n1_ n2_ n3_ n4_ n5_ n6_ n7_ n8_
       refine start_ (n := 11) (S := fun w' => w'.cell? ⟨gb149, 0, none⟩ = some (.int .i64 t144) ∧ w'.cell? ⟨gb149, 1, none⟩ = some (.int .i64 t145) ∧ w'.cell? ⟨gb149, 2, none⟩ = some (.slice Ao99 t146.length co99)) (ds := []) (bs 0 11) (by kernel_rfl) rfl rfl ⟨(blk_cell BK149.out 0).trans rfl, (blk_cell BK149.out 1).trans rfl, (blk_cell BK149.out 2).trans rfl⟩ (fun hHeld => ?_); refine with_tabW impl_combOfTerm.tab15 impl_combOfTerm.bits15 (fun HT_ HW_ => ?_)
       generalize w100.drew = w101 at HO133 HO141 HO148 BK101 BK102 BK135 BK143 BK149 HB hHeld ⊢
       refine pure_ (i := 1) (N := some 78) (v := ?_) (a' := ?_) #[false, true, false, false, false, false, false, false, false, false, false] rfl rfl (any_of HT_.out (by kernel_rfl)) (fun _ _ _ h => h) (Or.inl ⟨by rfl, ?_⟩) ?_ ?_
       rotate_left
       ·intro w'
        go_simp
        with_reducible rfl
       rotate_left
       ·simp only [sP, i64_w, i32_w]
        rfl
       refine pure_ (i := 2) (N := some 79) (v := ?_) (a' := ?_) #[false, true, true, false, false, false, false, false, false, false, false] rfl rfl (any_of HT_.out (by kernel_rfl)) (fun _ _ _ h => h) (Or.inl ⟨by rfl, ?_⟩) ?_ ?_
       rotate_left
       ·intro w'
        go_simp
        with_reducible rfl
       rotate_left
       ·simp only [sP, i64_w, i32_w]
        rfl
       refine pure_ (i := 3) (N := some 80) (v := ?_) (a' := ?_) #[false, true, true, true, false, false, false, false, false, false, false] rfl rfl (any_of HT_.out (by kernel_rfl)) (fun _ _ _ h => h) (Or.inl ⟨by rfl, ?_⟩) ?_ ?_
       rotate_left
       ·intro w'
        go_simp
        with_reducible rfl
       rotate_left
       ·simp only [sP, i64_w, i32_w]
        rfl
       refine pure_ (i := 4) (N := some 81) (v := ?_) (a' := ?_) #[false, true, true, true, true, false, false, false, false, false, false] rfl rfl (any_of HT_.out (by kernel_rfl)) (fun _ _ _ h => h) (Or.inl ⟨by rfl, ?_⟩) ?_ ?_
       rotate_left
       ·intro w'
        go_simp
        with_reducible rfl
       rotate_left
       ·simp only [sP, i64_w, i32_w]
        rfl
       refine pure_ (i := 5) (N := some 82) (v := ?_) (a' := ?_) #[false, true, true, true, true, true, false, false, false, false, false] rfl rfl (any_of HT_.out (by kernel_rfl)) (fun _ _ _ h => h) (Or.inl ⟨by rfl, ?_⟩) ?_ ?_
       rotate_left
       ·intro w'
        go_simp
        with_reducible rfl
       rotate_left
       ·simp only [sP, i64_w, i32_w]
        rfl
       refine take_ (i := 0) (N := some 77) (v := ?_) (a' := ?_) (bs 6 5) rfl rfl (take_ofW HT_.out HW_.out (by kernel_rfl)) (fun _ _ _ h => h) (Or.inl ⟨by rfl, ?_⟩) hHeld ?_ ?_
       rotate_left
       ·rintro w' ⟨s0, s1, s2⟩
        go_simp
        with_reducible rfl
       rotate_left
       ·simp only [sP, i64_w, i32_w]
        rfl
       refine take_ (i := 6) (N := some 83) (v := ?_) (a' := ?_) (bs 7 4) rfl rfl (take_ofW HT_.out HW_.out (by kernel_rfl)) (fun _ _ _ h => h) (Or.inl ⟨by rfl, ?_⟩) hHeld ?_ ?_
       rotate_left
       ·rintro w' ⟨s0, s1, s2⟩
        go_simp
        with_reducible rfl
       rotate_left
       ·simp only [sP, i64_w, i32_w]
        rfl
       refine one_ (i := 7) (N := some 84) (bs 8 3) rfl rfl (one_of HT_.out (by kernel_rfl)) (by decide) (fun K hK => ?_)
       refine goes_ Try.func23 (by kernel_rfl) rfl #[.agg #[.int .i64 t144, .int .i64 t145, .slice Ao99 t146.length co99]] (by rfl) rfl rfl tA ?_
       with_reducible refine (impl_comb_isGood.calls k t144 t145 _ _ t146 t150 _ ?side1 ?side2 A70.out).mono ?_
       (case side1 => exact sC ((Kd.N_reads' HO148.out).2.2))
       (case side2 => exact (Kd.N_reads' HO148.out).2.1)
       rintro e w102 ⟨rfl, hb⟩
       refine ⟨_, rfl, ?_⟩
       have n0_ := aK (Kd.V_below HO133.out hb)
       have n1_ := aK (Kd.V_below HO141.out hb)
       have n2_ := aK (Kd.N_below HO148.out hb)
       have n3_ := aK (blk_below BK101.out hb)
       have n4_ := aK (blk_below BK102.out hb)
       have n5_ := aK (blk_below BK135.out hb)
       have n6_ := aK (blk_below BK143.out hb)
       have n7_ := aK (blk_below BK149.out hb)
       have n8_ := aK (below_step (pH HB) hb)
       clear HO133
       clear HO141
       clear HO148
       clear BK101
       clear BK102
       clear BK135
       clear BK143
       clear BK149
       clear HB
       have HO133 := n0_
       have HO141 := n1_
       have HO148 := n2_
       have BK101 := n3_
       have BK102 := n4_
       have BK135 := n5_
       have BK143 := n6_
       have BK149 := n7_
       have HB := n8_
       clear n0_ n1_ n2_ n3_ n4_ n5_ n6_ n7_ n8_
       (try clear hb)
       (try clear hb2)
       (try clear hk)
       (try clear hi)
       refine hK.out _ _ ⟨(blk_cell BK149.out 0).trans rfl, (blk_cell BK149.out 1).trans rfl, (blk_cell BK149.out 2).trans rfl⟩ (fun hHeld => ?_)
       clear hK K
       refine norm_ (a' := ?_) ?_ ?_
       rotate_left
       ·show Act.put _ (some 84) _ = _
        simp only [sP, i64_w, i32_w]
        rfl
       refine pure_ (i := 8) (N := some 85) (v := ?_) (a' := ?_) (bs 9 2) rfl rfl (any_of HT_.out (by kernel_rfl)) (fun _ _ _ h => h) (Or.inl ⟨by rfl, ?_⟩) ?_ ?_
       rotate_left
       ·intro w'
        go_simp
        with_reducible rfl
       rotate_left
       ·simp only [sP, i64_w, i32_w]
        rfl
       refine one_ (i := 9) (N := none) (bs 10 1) rfl rfl (one_of HT_.out (by kernel_rfl)) (by decide) (fun K hK => ?_)
       have hs103 : w102.cell? ⟨gb102, 0, none⟩ = some (.int .i64 0) := (blk_cell BK102.out 0).trans rfl
       have hfs103 := blk_frozen BK102.out 0
       have hns103_0 := NB101_102.out
       have hns103_2 := NB135_102.out
       have hns103_3 := NB143_102.out
       have hns103_4 := NB149_102.out
       have hms103_0 := NB102_101.out
       have hms103_2 := NB102_135.out
       have hms103_3 := NB102_143.out
       have hms103_4 := NB102_149.out
       have hs104 : w102.cell? ⟨gb102, 1, none⟩ = some (.int .i64 0) := (blk_cell BK102.out 1).trans rfl
       have hfs104 := blk_frozen BK102.out 1
       have hns104_0 := NB101_102.out
       have hns104_2 := NB135_102.out
       have hns104_3 := NB143_102.out
       have hns104_4 := NB149_102.out
       have hms104_0 := NB102_101.out
       have hms104_2 := NB102_135.out
       have hms104_3 := NB102_143.out
       have hms104_4 := NB102_149.out
       have hs105 : w102.cell? ⟨gb102, 2, none⟩ = some (.slice none 0 0) := (blk_cell BK102.out 2).trans rfl
       have hfs105 := blk_frozen BK102.out 2
       have hns105_0 := NB101_102.out
       have hns105_2 := NB135_102.out
       have hns105_3 := NB143_102.out
       have hns105_4 := NB149_102.out
       have hms105_0 := NB102_101.out
       have hms105_2 := NB102_135.out
       have hms105_3 := NB102_143.out
       have hms105_4 := NB102_149.out
       refine skip_ (w1 := ?_) (by rfl) rfl ?_ ?_
       rotate_left
       ·go_simp
        rfl
       refine hK.out _ _ ⟨(cF3 NB149_102.out (hHeld.1)), (cF3 NB149_102.out (hHeld.2.1)), (cF3 NB149_102.out (hHeld.2.2))⟩ (fun hHeld => ?_)
       clear hK K
       refine pure_ (i := 10) (N := some 5) (v := ?_) (a' := ?_) (bs 11 0) rfl rfl (any_of HT_.out (by kernel_rfl)) (fun _ _ _ h => h) (Or.inl ⟨by rfl, ?_⟩) ?_ ?_
       rotate_left
       ·intro w'
        go_simp
        with_reducible rfl
       rotate_left
       ·simp only [sP, i64_w, i32_w]
        rfl
       refine done_ (done_of HT_.out (by kernel_rfl)) ?_
       try go_wp2
       refine bodyPost_ret (results_ct rfl _ _ gb102 42 #[.int .i64 t144, .int .i64 t145, .slice Ao99 t146.length co99] (0, 0) _ rfl (p3 BK102) Try.underlying42 rfl (by kernel_rfl)) rfl ?_
       exact ⟨_, eW, Kd.N_V (by (with_reducible repeat (first | apply Kd.N_alloc | apply Kd.N_drewN | apply Kd.N_drew)); exact Kd.N_mono (nF3 gb102 (Kd.N_mono HO148.out (fun k_ hk => (⟨hk, hk.2.2.1⟩ : _ ∧ k_ ≠ gb102))) (fun _ hk => hk.2)) (fun _ hk => hk.1.1)), pH HB⟩
      ·replace c69 := Bool.eq_false_iff.mpr c69
       subst c69
       rw [if_neg (show ¬ (false = true) by decide)] at H
       simp only [Option.some.injEq, Prod.mk.injEq] at H
       obtain ⟨rfl, rfl, rfl, rfl⟩ := H
       go_enter Try.func11, Try.ntmps11
       try go_wp2_with (first | ((with_reducible refine gate_dst (N := 2) rfl ?_); refine bE (N := 2) (cs := #[.int .i64 a0_0, .int .i64 a0_1, .slice A0_2 l0_2.length c0_2]) (t := 37) ?_; intro gb101 hg w106 hbox hb; have GW101 := qw HB hg; have GE101 := qw HB hg; have BK101 := aK hbox; replace HB := qs HB hb; clear hb hbox hg) | ((with_reducible refine gate_dst (N := 4) rfl ?_); refine bE (N := 4) (cs := #[.int .i64 0, .int .i64 0, .slice none 0 0]) (t := 42) ?_; intro gb102 hg w107 hbox hb; have GW102 := qw HB hg; have GE102 := qw HB hg; have NB101_102 := ql BK101 hg; have NB102_101 := qg BK101 hg; replace BK101 := qb BK101 hb; have BK102 := aK hbox; replace HB := qs HB hb; clear hb hbox hg; have hnb108 := NB101_102.out; have hnc108 := NB102_101.out; obtain ⟨hcz109_0, hcz109_1, hcz109_2, hfz109_0, hfz109_1, hfz109_2⟩ := cA3 BK101; have p128 : 0 ≤ (0 : Int) := (by omega); have q128 : 0 < (l0_2.length : Int) := dA; obtain ⟨ad128, A128_2, c128_2, e128, hx128_0, hx128_1, hx128_2, hl128_2, hi128_2⟩ := at_T37 HR0_2.out 0 p128 q128; cases e128; have qi128 : (0 < l0_2.length) = True := eq_true (by omega); (try rw [show ((0 : Int)).toNat = 0 from rfl] at hx128_0); (try rw [show 0 * 3 = 0 from rfl] at hx128_0); (try rw [Addr.add_zero'] at hx128_0); (try rw [show ((0 : Int)).toNat = 0 from rfl] at hx128_1); (try rw [show 0 * 3 = 0 from rfl] at hx128_1); (try rw [Addr.add_zero'] at hx128_1); (try rw [show ((0 : Int)).toNat = 0 from rfl] at hx128_2); (try rw [show 0 * 3 = 0 from rfl] at hx128_2); (try rw [Addr.add_zero'] at hx128_2); replace hx128_0 := uC HB hx128_0; replace hx128_1 := uC HB hx128_1; replace hx128_2 := uC HB hx128_2; have HR128_2 := aK hi128_2; have HC128_2 := aK hl128_2; clear hi128_2 hl128_2; replace p128 := eq_true p128; replace q128 := eq_true q128) | ((with_reducible refine gate_callee (f := 11) rfl ?_); refine goesL_ (some 62) rfl rfl Try.func11 (by kernel_rfl) rfl #[.agg #[.int .i64 ((rd_T37 l0_2 0).f0), .int .i64 ((rd_T37 l0_2 0).f1), .slice A128_2 ((rd_T37 l0_2 0).f2).length c128_2], .int .i64 a1] rfl tA ?_; (with_reducible refine (ih k (by omega) ((rd_T37 l0_2 0).f0) ((rd_T37 l0_2 0).f1) _ _ ((rd_T37 l0_2 0).f2) a1 t129 t130 t131 true _ ?side1 ?side2 A64.out).mono ?_); (case side1 => exact sC (Kd.C_below HR128_2.out HB.out)); (case side2 => exact HC128_2.out); rintro e w110 ⟨v132, rfl, ho0, hb⟩; refine ⟨_, rfl, ?_⟩; have HO133 := aK (Kd.V_lower (Kd.V_mono (ok' := fun k_ => (w.heap.size ≤ k_) ∧ k_ ≠ gb101 ∧ k_ ≠ gb102) ho0 (fun k_ hk_ => ⟨(Nat.le_trans (below_size HB.out) hk_), (Kd.freshB BK101.out k_ hk_), (Kd.freshB BK102.out k_ hk_)⟩)) (below_size HB.out)); replace BK101 := qb BK101 hb; replace BK102 := qb BK102 hb; replace HB := qs HB hb; (try clear hb); (try clear ho0)) | ((with_reducible refine gate_dst (N := 9) rfl ?_); refine bE (N := 9) (cs := #[.int .i64 0, .int .i64 0, .slice none 0 0]) (t := 42) ?_; intro gb135 hg w111 hbox hb; have GW135 := qw HB hg; have GE135 := qw HB hg; have NB101_135 := ql BK101 hg; have NB135_101 := qg BK101 hg; have NB102_135 := ql BK102 hg; have NB135_102 := qg BK102 hg; replace HO133 := qv HO133 hg hb; replace BK101 := qb BK101 hb; replace BK102 := qb BK102 hb; have BK135 := aK hbox; replace HB := qs HB hb; clear hb hbox hg; have hnb112 := NB135_101.out; have hnc112 := NB101_135.out; have hnb113 := NB135_102.out; have hnc113 := NB102_135.out; obtain ⟨hcz114_0, hcz114_1, hcz114_2, hfz114_0, hfz114_1, hfz114_2⟩ := cA3 BK135; obtain ⟨Ao115, co115, eo115⟩ := Kd.V_slice HO133.out; subst eo115; obtain ⟨hcz116_0, hcz116_1, hcz116_2, hfz116_0, hfz116_1, hfz116_2⟩ := cA3 BK101; have p136 : 0 ≤ (1 : Int) := (by omega); have q136 : 1 < (l0_2.length : Int) := dA; obtain ⟨ad136, A136_2, c136_2, e136, hx136_0, hx136_1, hx136_2, hl136_2, hi136_2⟩ := at_T37 HR0_2.out 1 p136 q136; obtain rfl : ad128 = ad136 := (by injection e136); (try simp only [show (1 : Int).toNat = 1 from rfl, Nat.reduceMul, Nat.reduceEqDiff, Go.Addr.add, ↓reduceIte] at hx136_0); (try simp only [show (1 : Int).toNat = 1 from rfl, Nat.reduceMul, Nat.reduceEqDiff, Go.Addr.add, ↓reduceIte] at hx136_1); (try simp only [show (1 : Int).toNat = 1 from rfl, Nat.reduceMul, Nat.reduceEqDiff, Go.Addr.add, ↓reduceIte] at hx136_2); have qi136 : (1 < l0_2.length) = True := eq_true (by omega); (try rw [show ((1 : Int)).toNat = 1 from rfl] at hx136_0); (try rw [show 1 * 3 = 3 from rfl] at hx136_0); (try rw [show ((1 : Int)).toNat = 1 from rfl] at hx136_1); (try rw [show 1 * 3 = 3 from rfl] at hx136_1); (try rw [show ((1 : Int)).toNat = 1 from rfl] at hx136_2); (try rw [show 1 * 3 = 3 from rfl] at hx136_2); have hn136_0 : ad128.block ≠ gb135 := nF hx136_0 GW135; have hn136_1 : ad128.block ≠ gb135 := nF hx136_0 GW135; have hn136_2 : ad128.block ≠ gb135 := nF hx136_0 GW135; replace hx136_0 := uC HB hx136_0; replace hx136_1 := uC HB hx136_1; replace hx136_2 := uC HB hx136_2; have HR136_2 := aK hi136_2; have HC136_2 := aK hl136_2; clear hi136_2 hl136_2; replace hx136_0 := (cell_far (p := ⟨gb135, 0, none⟩) (cB hn136_0) (.int .i64 t129)).trans hx136_0; replace hx136_1 := (cell_far (p := ⟨gb135, 0, none⟩) (cB hn136_0) (.int .i64 t129)).trans hx136_1; replace hx136_2 := (cell_far (p := ⟨gb135, 0, none⟩) (cB hn136_0) (.int .i64 t129)).trans hx136_2; replace hx136_0 := (cell_far (p := ⟨gb135, 1, none⟩) (cB hn136_1) (.int .i64 t130)).trans hx136_0; replace hx136_1 := (cell_far (p := ⟨gb135, 1, none⟩) (cB hn136_1) (.int .i64 t130)).trans hx136_1; replace hx136_2 := (cell_far (p := ⟨gb135, 1, none⟩) (cB hn136_1) (.int .i64 t130)).trans hx136_2; replace hx136_0 := (cell_far (p := ⟨gb135, 2, none⟩) (cB hn136_2) (.slice Ao115 t131.length co115)).trans hx136_0; replace hx136_1 := (cell_far (p := ⟨gb135, 2, none⟩) (cB hn136_2) (.slice Ao115 t131.length co115)).trans hx136_1; replace hx136_2 := (cell_far (p := ⟨gb135, 2, none⟩) (cB hn136_2) (.slice Ao115 t131.length co115)).trans hx136_2; clear hn136_0; clear hn136_1; clear hn136_2; replace p136 := eq_true p136; replace q136 := eq_true q136) | ((with_reducible refine gate_callee (f := 11) rfl ?_); refine goesL_ (some 71) rfl rfl Try.func11 (by kernel_rfl) rfl #[.agg #[.int .i64 ((rd_T37 l0_2 1).f0), .int .i64 ((rd_T37 l0_2 1).f1), .slice A136_2 ((rd_T37 l0_2 1).f2).length c136_2], .int .i64 a1] rfl tA ?_; (with_reducible refine (ih k (by omega) ((rd_T37 l0_2 1).f0) ((rd_T37 l0_2 1).f1) _ _ ((rd_T37 l0_2 1).f2) a1 t137 t138 t139 false _ ?side1 ?side2 A66.out).mono ?_); (case side1 => exact Kd.C_below HR136_2.out (pH HB)); (case side2 => exact HC136_2.out); rintro e w117 ⟨v140, rfl, ho0, hb⟩; refine ⟨_, rfl, ?_⟩; have n0_ := aK (Kd.V_below (by (with_reducible repeat (first | apply Kd.V_alloc | apply Kd.V_drewN | apply Kd.V_drew)); exact (Kd.V_mono (vF3 gb135 (Kd.V_mono HO133.out (fun k_ hk => (⟨hk, hk.2⟩ : _ ∧ k_ ≠ gb135))) (fun _ hk => hk.2)) (fun _ h_ => h_.1))) hb); have n1_ := aK (Kd.V_lower (Kd.V_mono (ok' := fun k_ => (w.heap.size ≤ k_) ∧ k_ ≠ gb101 ∧ k_ ≠ gb102 ∧ k_ ≠ gb135) ho0 (fun k_ hk_ => ⟨(Nat.le_trans (below_size (pH HB)) hk_), (Kd.freshB (g := gb101) (o := .cells #[.int .i64 a0_0, .int .i64 a0_1, .slice (some ad128) l0_2.length c0_2] 37 (0, 0)) (by (repeat first | with_reducible apply zN | with_reducible apply zD | with_reducible apply zA | refine blk_far ?_ NB101_135.out _); exact BK101.out) k_ hk_), (Kd.freshB (g := gb102) (o := .cells #[.int .i64 0, .int .i64 0, .slice none 0 0] 42 (0, 0)) (by (repeat first | with_reducible apply zN | with_reducible apply zD | with_reducible apply zA | refine blk_far ?_ NB102_135.out _); exact BK102.out) k_ hk_), (Kd.freshB (g := gb135) (o := .cells #[.int .i64 t129, .int .i64 t130, .slice Ao115 t131.length co115] 42 (0, 0)) (p3 BK135) k_ hk_)⟩)) (below_size (pH HB))); have n2_ := aK (blk_below (g := gb101) (o := .cells #[.int .i64 a0_0, .int .i64 a0_1, .slice (some ad128) l0_2.length c0_2] 37 (0, 0)) (by (repeat first | with_reducible apply zN | with_reducible apply zD | with_reducible apply zA | refine blk_far ?_ NB101_135.out _); exact BK101.out) hb); have n3_ := aK (blk_below (g := gb102) (o := .cells #[.int .i64 0, .int .i64 0, .slice none 0 0] 42 (0, 0)) (by (repeat first | with_reducible apply zN | with_reducible apply zD | with_reducible apply zA | refine blk_far ?_ NB102_135.out _); exact BK102.out) hb); have n4_ := aK (blk_below (g := gb135) (o := .cells #[.int .i64 t129, .int .i64 t130, .slice Ao115 t131.length co115] 42 (0, 0)) (p3 BK135) hb); have n5_ := aK (below_step (pH HB) hb); clear HO133; clear BK101; clear BK102; clear BK135; clear HB; have HO133 := n0_; have HO141 := n1_; have BK101 := n2_; have BK102 := n3_; have BK135 := n4_; have HB := n5_; clear n0_ n1_ n2_ n3_ n4_ n5_; (try clear hb); (try clear ho0)) | ((with_reducible refine gate_dst (N := 11) rfl ?_); refine bE (N := 11) (cs := #[.int .i64 0, .int .i64 0, .slice none 0 0]) (t := 42) ?_; intro gb143 hg w118 hbox hb; have GW143 := qw HB hg; have GE143 := qw HB hg; have NB101_143 := ql BK101 hg; have NB143_101 := qg BK101 hg; have NB102_143 := ql BK102 hg; have NB143_102 := qg BK102 hg; have NB135_143 := ql BK135 hg; have NB143_135 := qg BK135 hg; replace HO133 := qv HO133 hg hb; replace HO141 := qv HO141 hg hb; replace BK101 := qb BK101 hb; replace BK102 := qb BK102 hb; replace BK135 := qb BK135 hb; have BK143 := aK hbox; replace HB := qs HB hb; clear hb hbox hg; have hnb119 := NB143_101.out; have hnc119 := NB101_143.out; have hnb120 := NB143_102.out; have hnc120 := NB102_143.out; have hnb121 := NB143_135.out; have hnc121 := NB135_143.out; obtain ⟨hcz122_0, hcz122_1, hcz122_2, hfz122_0, hfz122_1, hfz122_2⟩ := cA3 BK143; obtain ⟨Ao123, co123, eo123⟩ := Kd.V_slice HO141.out; subst eo123) | ((with_reducible refine gate_store (t := 42) (p := 11) rfl ?_); refine store_event (t := 42) (p := 11) (v := ?vo_w124) (w1 := (((w118.setCell ⟨gb143, 0, none⟩ (.int .i64 t137)).setCell ⟨gb143, 1, none⟩ (.int .i64 t138)).setCell ⟨gb143, 2, none⟩ (.slice Ao123 t139.length co123))) ?hg ?ho ?hn ?hr ?_; (case ho => rfl); (case hg => rfl); (case hn => rfl); (case hr => first | (go_simp; done) | (go_simp; rfl)); intro w124 hw; have n0_ : Aside0 (Kd.V k42 42 w124 w.heap.size (fun k_ => (w.heap.size ≤ k_) ∧ k_ ≠ gb101 ∧ k_ ≠ gb102 ∧ k_ ≠ gb135 ∧ k_ ≠ gb143) (.slice Ao115 t131.length co115) t131) := ⟨(by rw [hw]; exact (by (with_reducible repeat (first | apply Kd.V_alloc | apply Kd.V_drewN | apply Kd.V_drew)); exact Kd.V_mono (vF3 gb143 (Kd.V_mono HO133.out (fun k_ hk => (⟨hk, hk.2⟩ : _ ∧ k_ ≠ gb143))) (fun _ hk => hk.2)) (fun _ hk => ⟨hk.1.1.1.1, ⟨hk.1.1.1.2.1, ⟨hk.1.1.1.2.2, ⟨hk.1.1.2, hk.1.2⟩⟩⟩⟩)))⟩; have n1_ : Aside0 (Kd.V k42 42 w124 w.heap.size (fun k_ => (w.heap.size ≤ k_) ∧ k_ ≠ gb101 ∧ k_ ≠ gb102 ∧ k_ ≠ gb135 ∧ k_ ≠ gb143) (.slice Ao123 t139.length co123) t139) := ⟨(by rw [hw]; exact (by (with_reducible repeat (first | apply Kd.V_alloc | apply Kd.V_drewN | apply Kd.V_drew)); exact Kd.V_mono (vF3 gb143 (Kd.V_mono HO141.out (fun k_ hk => (⟨hk, hk.2⟩ : _ ∧ k_ ≠ gb143))) (fun _ hk => hk.2)) (fun _ hk => ⟨hk.1.1.1, ⟨hk.1.1.2.1, ⟨hk.1.1.2.2.1, ⟨hk.1.1.2.2.2, hk.1.2⟩⟩⟩⟩)))⟩; have n2_ : Aside0 (w124.heap[gb101]? = some (.cells #[.int .i64 a0_0, .int .i64 a0_1, .slice (some ad128) l0_2.length c0_2] 37 (0, 0))) := ⟨(by rw [hw]; exact (by (repeat first | with_reducible apply zN | with_reducible apply zD | with_reducible apply zA | refine blk_far ?_ NB101_143.out _); exact BK101.out))⟩; have n3_ : Aside0 (w124.heap[gb102]? = some (.cells #[.int .i64 0, .int .i64 0, .slice none 0 0] 42 (0, 0))) := ⟨(by rw [hw]; exact (by (repeat first | with_reducible apply zN | with_reducible apply zD | with_reducible apply zA | refine blk_far ?_ NB102_143.out _); exact BK102.out))⟩; have n4_ : Aside0 (w124.heap[gb135]? = some (.cells #[.int .i64 t129, .int .i64 t130, .slice Ao115 t131.length co115] 42 (0, 0))) := ⟨(by rw [hw]; exact (by (repeat first | with_reducible apply zN | with_reducible apply zD | with_reducible apply zA | refine blk_far ?_ NB135_143.out _); exact BK135.out))⟩; have n5_ : Aside0 (w124.heap[gb143]? = some (.cells #[.int .i64 t137, .int .i64 t138, .slice Ao123 t139.length co123] 42 (0, 0))) := ⟨(by rw [hw]; exact (p3 BK143))⟩; have n6_ : Aside0 (Below w.heap.size w w124) := ⟨(by rw [hw]; exact (pH HB))⟩; clear hw; clear HO133; clear HO141; clear BK101; clear BK102; clear BK135; clear BK143; clear HB; have HO133 := n0_; have HO141 := n1_; have BK101 := n2_; have BK102 := n3_; have BK135 := n4_; have BK143 := n5_; have HB := n6_; clear n0_ n1_ n2_ n3_ n4_ n5_ n6_; obtain ⟨hcz125_0, hcz125_1, hcz125_2, hfz125_0, hfz125_1, hfz125_2⟩ := cA3 BK135; obtain ⟨hcz126_0, hcz126_1, hcz126_2, hfz126_0, hfz126_1, hfz126_2⟩ := cA3 BK143) | ((with_reducible refine gate_callee (f := 24) rfl ?_); refine goesL_ (some 76) rfl rfl Try.func24 (by kernel_rfl) rfl #[.agg #[.int .i64 t129, .int .i64 t130, .slice Ao115 t131.length co115], .agg #[.int .i64 t137, .int .i64 t138, .slice Ao123 t139.length co123]] rfl tA ?_; (with_reducible refine (impl_combApp.calls t129 t130 (fun k_ => ((w.heap.size ≤ k_) ∧ (k_ ≠ gb101 ∧ (k_ ≠ gb102 ∧ (k_ ≠ gb135 ∧ k_ ≠ gb143))))) _ _ t131 t137 t138 (fun k_ => ((w.heap.size ≤ k_) ∧ (k_ ≠ gb101 ∧ (k_ ≠ gb102 ∧ (k_ ≠ gb135 ∧ k_ ≠ gb143))))) _ _ t139 t144 t145 t146 _ ?side1 ?side2 A67.out).mono ?_); (case side1 => exact HO133.out); (case side2 => exact HO141.out); rintro e w127 ⟨v147, rfl, ho0, hb⟩; refine ⟨_, rfl, ?_⟩; have HO148 := aK (Kd.N_lower (Kd.N_mono (ok' := fun k_ => (w.heap.size ≤ k_) ∧ k_ ≠ gb101 ∧ k_ ≠ gb102 ∧ k_ ≠ gb135 ∧ k_ ≠ gb143) ho0 (fun k_ hk_ => ⟨Or.elim hk_ (fun hs_ => Or.elim hs_ (fun hs_ => hs_.1) (fun hs_ => hs_.1)) (fun hn_ => (Nat.le_trans (below_size HB.out) hn_)), Or.elim hk_ (fun hs_ => Or.elim hs_ (fun hs_ => hs_.2.1) (fun hs_ => hs_.2.1)) (fun hn_ => (Kd.freshB BK101.out k_ hn_)), Or.elim hk_ (fun hs_ => Or.elim hs_ (fun hs_ => hs_.2.2.1) (fun hs_ => hs_.2.2.1)) (fun hn_ => (Kd.freshB BK102.out k_ hn_)), Or.elim hk_ (fun hs_ => Or.elim hs_ (fun hs_ => hs_.2.2.2.1) (fun hs_ => hs_.2.2.2.1)) (fun hn_ => (Kd.freshB BK135.out k_ hn_)), Or.elim hk_ (fun hs_ => Or.elim hs_ (fun hs_ => hs_.2.2.2.2) (fun hs_ => hs_.2.2.2.2)) (fun hn_ => (Kd.freshB BK143.out k_ hn_))⟩)) (below_size HB.out)); replace HO133 := qe HO133 (by first | exact Kd.N_base ho0 | exact Kd.R_base ho0) hb; replace HO141 := qe HO141 (by first | exact Kd.N_base ho0 | exact Kd.R_base ho0) hb; replace BK101 := qb BK101 hb; replace BK102 := qb BK102 hb; replace BK135 := qb BK135 hb; replace BK143 := qb BK143 hb; replace HB := qs HB hb; (try clear hb); (try clear ho0)) | ((with_reducible refine gate_dst (N := 13) rfl ?_); refine bE (N := 13) (cs := #[.int .i64 0, .int .i64 0, .slice none 0 0]) (t := 42) ?_; intro gb149 hg w128 hbox hb; have GW149 := qw HB hg; have GE149 := qw HB hg; have NB101_149 := ql BK101 hg; have NB149_101 := qg BK101 hg; have NB102_149 := ql BK102 hg; have NB149_102 := qg BK102 hg; have NB135_149 := ql BK135 hg; have NB149_135 := qg BK135 hg; have NB143_149 := ql BK143 hg; have NB149_143 := qg BK143 hg; replace HO133 := qv HO133 hg hb; replace HO141 := qv HO141 hg hb; replace HO148 := qn HO148 hg hb; replace BK101 := qb BK101 hb; replace BK102 := qb BK102 hb; replace BK135 := qb BK135 hb; replace BK143 := qb BK143 hb; have BK149 := aK hbox; replace HB := qs HB hb; clear hb hbox hg; have hnb129 := NB149_101.out; have hnc129 := NB101_149.out; have hnb130 := NB149_102.out; have hnc130 := NB102_149.out; have hnb131 := NB149_135.out; have hnc131 := NB135_149.out; have hnb132 := NB149_143.out; have hnc132 := NB143_149.out; obtain ⟨hcz133_0, hcz133_1, hcz133_2, hfz133_0, hfz133_1, hfz133_2⟩ := cA3 BK149; obtain ⟨Ao134, co134, eo134⟩ := Kd.N_slice HO148.out; subst eo134))
       have n0_ : Aside0 (Kd.V k42 42 (((w128.setCell ⟨gb149, 0, none⟩ (.int .i64 t144)).setCell ⟨gb149, 1, none⟩ (.int .i64 t145)).setCell ⟨gb149, 2, none⟩ (.slice Ao134 t146.length co134)) w.heap.size (fun k_ => (w.heap.size ≤ k_) ∧ some k_ ≠ (.slice Ao134 t146.length co134 : Value).ownBlock ∧ k_ ≠ gb101 ∧ k_ ≠ gb102 ∧ k_ ≠ gb135 ∧ k_ ≠ gb143 ∧ k_ ≠ gb149) (.slice Ao115 t131.length co115) t131) := ⟨by (with_reducible repeat (first | apply Kd.V_alloc | apply Kd.V_drewN | apply Kd.V_drew)); exact Kd.V_mono (vF3 gb149 (Kd.V_mono HO133.out (fun k_ hk => (⟨hk, hk.2⟩ : _ ∧ k_ ≠ gb149))) (fun _ hk => hk.2)) (fun _ hk => ⟨hk.1.1.1.1, ⟨hk.1.1.2, ⟨hk.1.1.1.2.1, ⟨hk.1.1.1.2.2.1, ⟨hk.1.1.1.2.2.2.1, ⟨hk.1.1.1.2.2.2.2, hk.1.2⟩⟩⟩⟩⟩⟩)⟩
       have n1_ : Aside0 (Kd.V k42 42 (((w128.setCell ⟨gb149, 0, none⟩ (.int .i64 t144)).setCell ⟨gb149, 1, none⟩ (.int .i64 t145)).setCell ⟨gb149, 2, none⟩ (.slice Ao134 t146.length co134)) w.heap.size (fun k_ => (w.heap.size ≤ k_) ∧ some k_ ≠ (.slice Ao134 t146.length co134 : Value).ownBlock ∧ k_ ≠ gb101 ∧ k_ ≠ gb102 ∧ k_ ≠ gb135 ∧ k_ ≠ gb143 ∧ k_ ≠ gb149) (.slice Ao123 t139.length co123) t139) := ⟨by (with_reducible repeat (first | apply Kd.V_alloc | apply Kd.V_drewN | apply Kd.V_drew)); exact Kd.V_mono (vF3 gb149 (Kd.V_mono HO141.out (fun k_ hk => (⟨hk, hk.2⟩ : _ ∧ k_ ≠ gb149))) (fun _ hk => hk.2)) (fun _ hk => ⟨hk.1.1.1.1, ⟨hk.1.1.2, ⟨hk.1.1.1.2.1, ⟨hk.1.1.1.2.2.1, ⟨hk.1.1.1.2.2.2.1, ⟨hk.1.1.1.2.2.2.2, hk.1.2⟩⟩⟩⟩⟩⟩)⟩
       have n2_ : Aside0 (Kd.N k42 42 (((w128.setCell ⟨gb149, 0, none⟩ (.int .i64 t144)).setCell ⟨gb149, 1, none⟩ (.int .i64 t145)).setCell ⟨gb149, 2, none⟩ (.slice Ao134 t146.length co134)) w.heap.size (fun k_ => (w.heap.size ≤ k_) ∧ k_ ≠ gb101 ∧ k_ ≠ gb102 ∧ k_ ≠ gb135 ∧ k_ ≠ gb143 ∧ k_ ≠ gb149) (.slice Ao134 t146.length co134) t146) := ⟨by (with_reducible repeat (first | apply Kd.N_alloc | apply Kd.N_drewN | apply Kd.N_drew)); exact Kd.N_mono (nF3 gb149 (Kd.N_mono HO148.out (fun k_ hk => (⟨hk, hk.2⟩ : _ ∧ k_ ≠ gb149))) (fun _ hk => hk.2)) (fun _ hk => ⟨hk.1.1.1, ⟨hk.1.1.2.1, ⟨hk.1.1.2.2.1, ⟨hk.1.1.2.2.2.1, ⟨hk.1.1.2.2.2.2, hk.1.2⟩⟩⟩⟩⟩)⟩
       have n3_ : Aside0 ((((w128.setCell ⟨gb149, 0, none⟩ (.int .i64 t144)).setCell ⟨gb149, 1, none⟩ (.int .i64 t145)).setCell ⟨gb149, 2, none⟩ (.slice Ao134 t146.length co134)).heap[gb101]? = some (.cells #[.int .i64 a0_0, .int .i64 a0_1, .slice (some ad128) l0_2.length c0_2] 37 (0, 0))) := ⟨by (repeat first | with_reducible apply zN | with_reducible apply zD | with_reducible apply zA | refine blk_far ?_ NB101_149.out _); exact BK101.out⟩
       have n4_ : Aside0 ((((w128.setCell ⟨gb149, 0, none⟩ (.int .i64 t144)).setCell ⟨gb149, 1, none⟩ (.int .i64 t145)).setCell ⟨gb149, 2, none⟩ (.slice Ao134 t146.length co134)).heap[gb102]? = some (.cells #[.int .i64 0, .int .i64 0, .slice none 0 0] 42 (0, 0))) := ⟨by (repeat first | with_reducible apply zN | with_reducible apply zD | with_reducible apply zA | refine blk_far ?_ NB102_149.out _); exact BK102.out⟩
       have n5_ : Aside0 ((((w128.setCell ⟨gb149, 0, none⟩ (.int .i64 t144)).setCell ⟨gb149, 1, none⟩ (.int .i64 t145)).setCell ⟨gb149, 2, none⟩ (.slice Ao134 t146.length co134)).heap[gb135]? = some (.cells #[.int .i64 t129, .int .i64 t130, .slice Ao115 t131.length co115] 42 (0, 0))) := ⟨by (repeat first | with_reducible apply zN | with_reducible apply zD | with_reducible apply zA | refine blk_far ?_ NB135_149.out _); exact BK135.out⟩
       have n6_ : Aside0 ((((w128.setCell ⟨gb149, 0, none⟩ (.int .i64 t144)).setCell ⟨gb149, 1, none⟩ (.int .i64 t145)).setCell ⟨gb149, 2, none⟩ (.slice Ao134 t146.length co134)).heap[gb143]? = some (.cells #[.int .i64 t137, .int .i64 t138, .slice Ao123 t139.length co123] 42 (0, 0))) := ⟨by (repeat first | with_reducible apply zN | with_reducible apply zD | with_reducible apply zA | refine blk_far ?_ NB143_149.out _); exact BK143.out⟩
       have n7_ : Aside0 ((((w128.setCell ⟨gb149, 0, none⟩ (.int .i64 t144)).setCell ⟨gb149, 1, none⟩ (.int .i64 t145)).setCell ⟨gb149, 2, none⟩ (.slice Ao134 t146.length co134)).heap[gb149]? = some (.cells #[.int .i64 t144, .int .i64 t145, .slice Ao134 t146.length co134] 42 (0, 0))) := ⟨p3 BK149⟩
       have n8_ : Aside0 (Below w.heap.size w (((w128.setCell ⟨gb149, 0, none⟩ (.int .i64 t144)).setCell ⟨gb149, 1, none⟩ (.int .i64 t145)).setCell ⟨gb149, 2, none⟩ (.slice Ao134 t146.length co134))) := ⟨pH HB⟩
       (try clear HO133)
       (try clear HO141)
       (try clear HO148)
       (try clear BK101)
       (try clear BK102)
       (try clear BK135)
       (try clear BK143)
       (try clear BK149)
       (try clear HB)
       generalize (((w128.setCell ⟨gb149, 0, none⟩ (.int .i64 t144)).setCell ⟨gb149, 1, none⟩ (.int .i64 t145)).setCell ⟨gb149, 2, none⟩ (.slice Ao134 t146.length co134)) = w135 at n0_ n1_ n2_ n3_ n4_ n5_ n6_ n7_ n8_ ⊢
       have HO133 := n0_
       have HO141 := n1_
       have HO148 := n2_
       have BK101 := n3_
       have BK102 := n4_
       have BK135 := n5_
       have BK143 := n6_
       have BK149 := n7_
       have HB := n8_
       clear n0_ n1_ n2_ n3_ n4_ n5_ n6_ n7_ n8_
       have n0_ := aK (Kd.V_drew HO133.out)
       have n1_ := aK (Kd.V_drew HO141.out)
       have n2_ := aK (Kd.N_drew HO148.out)
       have n3_ := aK (blk_drew BK101.out)
       have n4_ := aK (blk_drew BK102.out)
       have n5_ := aK (blk_drew BK135.out)
       have n6_ := aK (blk_drew BK143.out)
       have n7_ := aK (blk_drew BK149.out)
       have n8_ := aK (below_drew1 HB.out)
       clear HO133
       clear HO141
       clear HO148
       clear BK101
       clear BK102
       clear BK135
       clear BK143
       clear BK149
       clear HB
       have HO133 := n0_
       have HO141 := n1_
       have HO148 := n2_
       have BK101 := n3_
       have BK102 := n4_
       have BK135 := n5_
       have BK143 := n6_
       have BK149 := n7_
       have HB := n8_
       clear n0_ n1_ n2_ n3_ n4_ n5_ n6_ n7_ n8_
       refine start_ (n := 11) (S := fun w' => w'.cell? ⟨gb149, 0, none⟩ = some (.int .i64 t144) ∧ w'.cell? ⟨gb149, 1, none⟩ = some (.int .i64 t145) ∧ w'.cell? ⟨gb149, 2, none⟩ = some (.slice Ao134 t146.length co134)) (ds := []) (bs 0 11) (by kernel_rfl) rfl rfl ⟨(blk_cell BK149.out 0).trans rfl, (blk_cell BK149.out 1).trans rfl, (blk_cell BK149.out 2).trans rfl⟩ (fun hHeld => ?_); refine with_tabW impl_combOfTerm.tab15 impl_combOfTerm.bits15 (fun HT_ HW_ => ?_)
       generalize w135.drew = w136 at HO133 HO141 HO148 BK101 BK102 BK135 BK143 BK149 HB hHeld ⊢
       refine pure_ (i := 1) (N := some 78) (v := ?_) (a' := ?_) #[false, true, false, false, false, false, false, false, false, false, false] rfl rfl (any_of HT_.out (by kernel_rfl)) (fun _ _ _ h => h) (Or.inl ⟨by rfl, ?_⟩) ?_ ?_
       rotate_left
       ·intro w'
        go_simp
        with_reducible rfl
       rotate_left
       ·simp only [sP, i64_w, i32_w]
        rfl
       refine pure_ (i := 2) (N := some 79) (v := ?_) (a' := ?_) #[false, true, true, false, false, false, false, false, false, false, false] rfl rfl (any_of HT_.out (by kernel_rfl)) (fun _ _ _ h => h) (Or.inl ⟨by rfl, ?_⟩) ?_ ?_
       rotate_left
       ·intro w'
        go_simp
        with_reducible rfl
       rotate_left
       ·simp only [sP, i64_w, i32_w]
        rfl
       refine pure_ (i := 3) (N := some 80) (v := ?_) (a' := ?_) #[false, true, true, true, false, false, false, false, false, false, false] rfl rfl (any_of HT_.out (by kernel_rfl)) (fun _ _ _ h => h) (Or.inl ⟨by rfl, ?_⟩) ?_ ?_
       rotate_left
       ·intro w'
        go_simp
        with_reducible rfl
       rotate_left
       ·simp only [sP, i64_w, i32_w]
        rfl
       refine pure_ (i := 4) (N := some 81) (v := ?_) (a' := ?_) #[false, true, true, true, true, false, false, false, false, false, false] rfl rfl (any_of HT_.out (by kernel_rfl)) (fun _ _ _ h => h) (Or.inl ⟨by rfl, ?_⟩) ?_ ?_
       rotate_left
       ·intro w'
        go_simp
        with_reducible rfl
       rotate_left
       ·simp only [sP, i64_w, i32_w]
        rfl
       refine pure_ (i := 5) (N := some 82) (v := ?_) (a' := ?_) #[false, true, true, true, true, true, false, false, false, false, false] rfl rfl (any_of HT_.out (by kernel_rfl)) (fun _ _ _ h => h) (Or.inl ⟨by rfl, ?_⟩) ?_ ?_
       rotate_left
       ·intro w'
        go_simp
        with_reducible rfl
       rotate_left
       ·simp only [sP, i64_w, i32_w]
        rfl
       refine pure_ (i := 6) (N := some 83) (v := undef) (a' := ?_) #[false, true, true, true, true, true, true, false, false, false, false] rfl rfl (any_of HT_.out (by kernel_rfl)) (fun _ _ _ h => h) (Or.inr ⟨by rfl, rfl⟩) ?_ ?_
       rotate_left
       ·simp only [sP, i64_w, i32_w]
        rfl
       refine pure_ (i := 7) (N := some 84) (v := undef) (a' := ?_) #[false, true, true, true, true, true, true, true, false, false, false] rfl rfl (any_of HT_.out (by kernel_rfl)) (fun _ _ _ h => h) (Or.inr ⟨by rfl, rfl⟩) ?_ ?_
       rotate_left
       ·simp only [sP, i64_w, i32_w]
        rfl
       refine pure_ (i := 8) (N := some 85) (v := ?_) (a' := ?_) #[false, true, true, true, true, true, true, true, true, false, false] rfl rfl (any_of HT_.out (by kernel_rfl)) (fun _ _ _ h => h) (Or.inl ⟨by rfl, ?_⟩) ?_ ?_
       rotate_left
       ·intro w'
        go_simp
        with_reducible rfl
       rotate_left
       ·simp only [sP, i64_w, i32_w]
        rfl
       refine take_ (i := 0) (N := some 77) (v := ?_) (a' := ?_) (bs 9 2) rfl rfl (take_ofW HT_.out HW_.out (by kernel_rfl)) (fun _ _ _ h => h) (Or.inl ⟨by rfl, ?_⟩) hHeld ?_ ?_
       rotate_left
       ·rintro w' ⟨s0, s1, s2⟩
        go_simp
        with_reducible rfl
       rotate_left
       ·simp only [sP, i64_w, i32_w]
        rfl
       refine one_ (i := 9) (N := none) (bs 10 1) rfl rfl (one_of HT_.out (by kernel_rfl)) (by decide) (fun K hK => ?_)
       have hs137 : w136.cell? ⟨gb102, 0, none⟩ = some (.int .i64 0) := (blk_cell BK102.out 0).trans rfl
       have hfs137 := blk_frozen BK102.out 0
       have hns137_0 := NB101_102.out
       have hns137_2 := NB135_102.out
       have hns137_3 := NB143_102.out
       have hns137_4 := NB149_102.out
       have hms137_0 := NB102_101.out
       have hms137_2 := NB102_135.out
       have hms137_3 := NB102_143.out
       have hms137_4 := NB102_149.out
       have hs138 : w136.cell? ⟨gb102, 1, none⟩ = some (.int .i64 0) := (blk_cell BK102.out 1).trans rfl
       have hfs138 := blk_frozen BK102.out 1
       have hns138_0 := NB101_102.out
       have hns138_2 := NB135_102.out
       have hns138_3 := NB143_102.out
       have hns138_4 := NB149_102.out
       have hms138_0 := NB102_101.out
       have hms138_2 := NB102_135.out
       have hms138_3 := NB102_143.out
       have hms138_4 := NB102_149.out
       have hs139 : w136.cell? ⟨gb102, 2, none⟩ = some (.slice none 0 0) := (blk_cell BK102.out 2).trans rfl
       have hfs139 := blk_frozen BK102.out 2
       have hns139_0 := NB101_102.out
       have hns139_2 := NB135_102.out
       have hns139_3 := NB143_102.out
       have hns139_4 := NB149_102.out
       have hms139_0 := NB102_101.out
       have hms139_2 := NB102_135.out
       have hms139_3 := NB102_143.out
       have hms139_4 := NB102_149.out
       refine skip_ (w1 := ?_) (by rfl) rfl ?_ ?_
       rotate_left
       ·go_simp
        rfl
       refine hK.out _ _ ⟨(cF3 NB149_102.out (hHeld.1)), (cF3 NB149_102.out (hHeld.2.1)), (cF3 NB149_102.out (hHeld.2.2))⟩ (fun hHeld => ?_)
       clear hK K
       refine pure_ (i := 10) (N := some 5) (v := ?_) (a' := ?_) (bs 11 0) rfl rfl (any_of HT_.out (by kernel_rfl)) (fun _ _ _ h => h) (Or.inl ⟨by rfl, ?_⟩) ?_ ?_
       rotate_left
       ·intro w'
        go_simp
        with_reducible rfl
       rotate_left
       ·simp only [sP, i64_w, i32_w]
        rfl
       refine done_ (done_of HT_.out (by kernel_rfl)) ?_
       try go_wp2
       refine bodyPost_ret (results_ct rfl _ _ gb102 42 #[.int .i64 t144, .int .i64 t145, .slice Ao134 t146.length co134] (0, 0) _ rfl (p3 BK102) Try.underlying42 rfl (by kernel_rfl)) rfl ?_
       exact ⟨_, eW, Kd.N_V (by (with_reducible repeat (first | apply Kd.N_alloc | apply Kd.N_drewN | apply Kd.N_drew)); exact Kd.N_mono (nF3 gb102 (Kd.N_mono HO148.out (fun k_ hk => (⟨hk, hk.2.2.1⟩ : _ ∧ k_ ≠ gb102))) (fun _ hk => hk.2)) (fun _ hk => hk.1.1)), pH HB⟩
     ·replace c68 := Bool.eq_false_iff.mpr c68
      subst c68
      rw [if_neg (show ¬ (false = true) by decide)] at H
      simp only [Option.some.injEq, Prod.mk.injEq] at H
      obtain ⟨rfl, rfl, rfl, rfl⟩ := H
      go_enter Try.func11, Try.ntmps11
      try go_wp2_with (first | ((with_reducible refine gate_dst (N := 2) rfl ?_); refine bE (N := 2) (cs := #[.int .i64 a0_0, .int .i64 a0_1, .slice A0_2 l0_2.length c0_2]) (t := 37) ?_; intro gb101 hg w140 hbox hb; have GW101 := qw HB hg; have GE101 := qw HB hg; have BK101 := aK hbox; replace HB := qs HB hb; clear hb hbox hg) | ((with_reducible refine gate_dst (N := 4) rfl ?_); refine bE (N := 4) (cs := #[.int .i64 0, .int .i64 0, .slice none 0 0]) (t := 42) ?_; intro gb102 hg w141 hbox hb; have GW102 := qw HB hg; have GE102 := qw HB hg; have NB101_102 := ql BK101 hg; have NB102_101 := qg BK101 hg; replace BK101 := qb BK101 hb; have BK102 := aK hbox; replace HB := qs HB hb; clear hb hbox hg; have hnb142 := NB101_102.out; have hnc142 := NB102_101.out; obtain ⟨hcz143_0, hcz143_1, hcz143_2, hfz143_0, hfz143_1, hfz143_2⟩ := cA3 BK101; have p128 : 0 ≤ (0 : Int) := (by omega); have q128 : 0 < (l0_2.length : Int) := dA; obtain ⟨ad128, A128_2, c128_2, e128, hx128_0, hx128_1, hx128_2, hl128_2, hi128_2⟩ := at_T37 HR0_2.out 0 p128 q128; cases e128; have qi128 : (0 < l0_2.length) = True := eq_true (by omega); (try rw [show ((0 : Int)).toNat = 0 from rfl] at hx128_0); (try rw [show 0 * 3 = 0 from rfl] at hx128_0); (try rw [Addr.add_zero'] at hx128_0); (try rw [show ((0 : Int)).toNat = 0 from rfl] at hx128_1); (try rw [show 0 * 3 = 0 from rfl] at hx128_1); (try rw [Addr.add_zero'] at hx128_1); (try rw [show ((0 : Int)).toNat = 0 from rfl] at hx128_2); (try rw [show 0 * 3 = 0 from rfl] at hx128_2); (try rw [Addr.add_zero'] at hx128_2); replace hx128_0 := uC HB hx128_0; replace hx128_1 := uC HB hx128_1; replace hx128_2 := uC HB hx128_2; have HR128_2 := aK hi128_2; have HC128_2 := aK hl128_2; clear hi128_2 hl128_2; replace p128 := eq_true p128; replace q128 := eq_true q128) | ((with_reducible refine gate_callee (f := 11) rfl ?_); refine goesL_ (some 62) rfl rfl Try.func11 (by kernel_rfl) rfl #[.agg #[.int .i64 ((rd_T37 l0_2 0).f0), .int .i64 ((rd_T37 l0_2 0).f1), .slice A128_2 ((rd_T37 l0_2 0).f2).length c128_2], .int .i64 a1] rfl tA ?_; (with_reducible refine (ih k (by omega) ((rd_T37 l0_2 0).f0) ((rd_T37 l0_2 0).f1) _ _ ((rd_T37 l0_2 0).f2) a1 t129 t130 t131 false _ ?side1 ?side2 A64.out).mono ?_); (case side1 => exact sC (Kd.C_below HR128_2.out HB.out)); (case side2 => exact HC128_2.out); rintro e w144 ⟨v132, rfl, ho0, hb⟩; refine ⟨_, rfl, ?_⟩; have HO133 := aK (Kd.V_lower (Kd.V_mono (ok' := fun k_ => (w.heap.size ≤ k_) ∧ k_ ≠ gb101 ∧ k_ ≠ gb102) ho0 (fun k_ hk_ => ⟨(Nat.le_trans (below_size HB.out) hk_), (Kd.freshB BK101.out k_ hk_), (Kd.freshB BK102.out k_ hk_)⟩)) (below_size HB.out)); replace BK101 := qb BK101 hb; replace BK102 := qb BK102 hb; replace HB := qs HB hb; (try clear hb); (try clear ho0)) | ((with_reducible refine gate_dst (N := 9) rfl ?_); refine bE (N := 9) (cs := #[.int .i64 0, .int .i64 0, .slice none 0 0]) (t := 42) ?_; intro gb135 hg w145 hbox hb; have GW135 := qw HB hg; have GE135 := qw HB hg; have NB101_135 := ql BK101 hg; have NB135_101 := qg BK101 hg; have NB102_135 := ql BK102 hg; have NB135_102 := qg BK102 hg; replace HO133 := qv HO133 hg hb; replace BK101 := qb BK101 hb; replace BK102 := qb BK102 hb; have BK135 := aK hbox; replace HB := qs HB hb; clear hb hbox hg; have hnb146 := NB135_101.out; have hnc146 := NB101_135.out; have hnb147 := NB135_102.out; have hnc147 := NB102_135.out; obtain ⟨hcz148_0, hcz148_1, hcz148_2, hfz148_0, hfz148_1, hfz148_2⟩ := cA3 BK135; obtain ⟨Ao149, co149, eo149⟩ := Kd.V_slice HO133.out; subst eo149; obtain ⟨hcz150_0, hcz150_1, hcz150_2, hfz150_0, hfz150_1, hfz150_2⟩ := cA3 BK101; have p136 : 0 ≤ (1 : Int) := (by omega); have q136 : 1 < (l0_2.length : Int) := dA; obtain ⟨ad136, A136_2, c136_2, e136, hx136_0, hx136_1, hx136_2, hl136_2, hi136_2⟩ := at_T37 HR0_2.out 1 p136 q136; obtain rfl : ad128 = ad136 := (by injection e136); (try simp only [show (1 : Int).toNat = 1 from rfl, Nat.reduceMul, Nat.reduceEqDiff, Go.Addr.add, ↓reduceIte] at hx136_0); (try simp only [show (1 : Int).toNat = 1 from rfl, Nat.reduceMul, Nat.reduceEqDiff, Go.Addr.add, ↓reduceIte] at hx136_1); (try simp only [show (1 : Int).toNat = 1 from rfl, Nat.reduceMul, Nat.reduceEqDiff, Go.Addr.add, ↓reduceIte] at hx136_2); have qi136 : (1 < l0_2.length) = True := eq_true (by omega); (try rw [show ((1 : Int)).toNat = 1 from rfl] at hx136_0); (try rw [show 1 * 3 = 3 from rfl] at hx136_0); (try rw [show ((1 : Int)).toNat = 1 from rfl] at hx136_1); (try rw [show 1 * 3 = 3 from rfl] at hx136_1); (try rw [show ((1 : Int)).toNat = 1 from rfl] at hx136_2); (try rw [show 1 * 3 = 3 from rfl] at hx136_2); have hn136_0 : ad128.block ≠ gb135 := nF hx136_0 GW135; have hn136_1 : ad128.block ≠ gb135 := nF hx136_0 GW135; have hn136_2 : ad128.block ≠ gb135 := nF hx136_0 GW135; replace hx136_0 := uC HB hx136_0; replace hx136_1 := uC HB hx136_1; replace hx136_2 := uC HB hx136_2; have HR136_2 := aK hi136_2; have HC136_2 := aK hl136_2; clear hi136_2 hl136_2; replace hx136_0 := (cell_far (p := ⟨gb135, 0, none⟩) (cB hn136_0) (.int .i64 t129)).trans hx136_0; replace hx136_1 := (cell_far (p := ⟨gb135, 0, none⟩) (cB hn136_0) (.int .i64 t129)).trans hx136_1; replace hx136_2 := (cell_far (p := ⟨gb135, 0, none⟩) (cB hn136_0) (.int .i64 t129)).trans hx136_2; replace hx136_0 := (cell_far (p := ⟨gb135, 1, none⟩) (cB hn136_1) (.int .i64 t130)).trans hx136_0; replace hx136_1 := (cell_far (p := ⟨gb135, 1, none⟩) (cB hn136_1) (.int .i64 t130)).trans hx136_1; replace hx136_2 := (cell_far (p := ⟨gb135, 1, none⟩) (cB hn136_1) (.int .i64 t130)).trans hx136_2; replace hx136_0 := (cell_far (p := ⟨gb135, 2, none⟩) (cB hn136_2) (.slice Ao149 t131.length co149)).trans hx136_0; replace hx136_1 := (cell_far (p := ⟨gb135, 2, none⟩) (cB hn136_2) (.slice Ao149 t131.length co149)).trans hx136_1; replace hx136_2 := (cell_far (p := ⟨gb135, 2, none⟩) (cB hn136_2) (.slice Ao149 t131.length co149)).trans hx136_2; clear hn136_0; clear hn136_1; clear hn136_2; replace p136 := eq_true p136; replace q136 := eq_true q136) | ((with_reducible refine gate_callee (f := 11) rfl ?_); refine goesL_ (some 71) rfl rfl Try.func11 (by kernel_rfl) rfl #[.agg #[.int .i64 ((rd_T37 l0_2 1).f0), .int .i64 ((rd_T37 l0_2 1).f1), .slice A136_2 ((rd_T37 l0_2 1).f2).length c136_2], .int .i64 a1] rfl tA ?_; (with_reducible refine (ih k (by omega) ((rd_T37 l0_2 1).f0) ((rd_T37 l0_2 1).f1) _ _ ((rd_T37 l0_2 1).f2) a1 t137 t138 t139 t142 _ ?side1 ?side2 A66.out).mono ?_); (case side1 => exact Kd.C_below HR136_2.out (pH HB)); (case side2 => exact HC136_2.out); rintro e w151 ⟨v140, rfl, ho0, hb⟩; refine ⟨_, rfl, ?_⟩; have n0_ := aK (Kd.V_below (by (with_reducible repeat (first | apply Kd.V_alloc | apply Kd.V_drewN | apply Kd.V_drew)); exact (Kd.V_mono (vF3 gb135 (Kd.V_mono HO133.out (fun k_ hk => (⟨hk, hk.2⟩ : _ ∧ k_ ≠ gb135))) (fun _ hk => hk.2)) (fun _ h_ => h_.1))) hb); have n1_ := aK (Kd.V_lower (Kd.V_mono (ok' := fun k_ => (w.heap.size ≤ k_) ∧ k_ ≠ gb101 ∧ k_ ≠ gb102 ∧ k_ ≠ gb135) ho0 (fun k_ hk_ => ⟨(Nat.le_trans (below_size (pH HB)) hk_), (Kd.freshB (g := gb101) (o := .cells #[.int .i64 a0_0, .int .i64 a0_1, .slice (some ad128) l0_2.length c0_2] 37 (0, 0)) (by (repeat first | with_reducible apply zN | with_reducible apply zD | with_reducible apply zA | refine blk_far ?_ NB101_135.out _); exact BK101.out) k_ hk_), (Kd.freshB (g := gb102) (o := .cells #[.int .i64 0, .int .i64 0, .slice none 0 0] 42 (0, 0)) (by (repeat first | with_reducible apply zN | with_reducible apply zD | with_reducible apply zA | refine blk_far ?_ NB102_135.out _); exact BK102.out) k_ hk_), (Kd.freshB (g := gb135) (o := .cells #[.int .i64 t129, .int .i64 t130, .slice Ao149 t131.length co149] 42 (0, 0)) (p3 BK135) k_ hk_)⟩)) (below_size (pH HB))); have n2_ := aK (blk_below (g := gb101) (o := .cells #[.int .i64 a0_0, .int .i64 a0_1, .slice (some ad128) l0_2.length c0_2] 37 (0, 0)) (by (repeat first | with_reducible apply zN | with_reducible apply zD | with_reducible apply zA | refine blk_far ?_ NB101_135.out _); exact BK101.out) hb); have n3_ := aK (blk_below (g := gb102) (o := .cells #[.int .i64 0, .int .i64 0, .slice none 0 0] 42 (0, 0)) (by (repeat first | with_reducible apply zN | with_reducible apply zD | with_reducible apply zA | refine blk_far ?_ NB102_135.out _); exact BK102.out) hb); have n4_ := aK (blk_below (g := gb135) (o := .cells #[.int .i64 t129, .int .i64 t130, .slice Ao149 t131.length co149] 42 (0, 0)) (p3 BK135) hb); have n5_ := aK (below_step (pH HB) hb); clear HO133; clear BK101; clear BK102; clear BK135; clear HB; have HO133 := n0_; have HO141 := n1_; have BK101 := n2_; have BK102 := n3_; have BK135 := n4_; have HB := n5_; clear n0_ n1_ n2_ n3_ n4_ n5_; (try clear hb); (try clear ho0)) | ((with_reducible refine gate_dst (N := 11) rfl ?_); refine bE (N := 11) (cs := #[.int .i64 0, .int .i64 0, .slice none 0 0]) (t := 42) ?_; intro gb143 hg w152 hbox hb; have GW143 := qw HB hg; have GE143 := qw HB hg; have NB101_143 := ql BK101 hg; have NB143_101 := qg BK101 hg; have NB102_143 := ql BK102 hg; have NB143_102 := qg BK102 hg; have NB135_143 := ql BK135 hg; have NB143_135 := qg BK135 hg; replace HO133 := qv HO133 hg hb; replace HO141 := qv HO141 hg hb; replace BK101 := qb BK101 hb; replace BK102 := qb BK102 hb; replace BK135 := qb BK135 hb; have BK143 := aK hbox; replace HB := qs HB hb; clear hb hbox hg; have hnb153 := NB143_101.out; have hnc153 := NB101_143.out; have hnb154 := NB143_102.out; have hnc154 := NB102_143.out; have hnb155 := NB143_135.out; have hnc155 := NB135_143.out; obtain ⟨hcz156_0, hcz156_1, hcz156_2, hfz156_0, hfz156_1, hfz156_2⟩ := cA3 BK143; obtain ⟨Ao157, co157, eo157⟩ := Kd.V_slice HO141.out; subst eo157) | ((with_reducible refine gate_store (t := 42) (p := 11) rfl ?_); refine store_event (t := 42) (p := 11) (v := ?vo_w158) (w1 := (((w152.setCell ⟨gb143, 0, none⟩ (.int .i64 t137)).setCell ⟨gb143, 1, none⟩ (.int .i64 t138)).setCell ⟨gb143, 2, none⟩ (.slice Ao157 t139.length co157))) ?hg ?ho ?hn ?hr ?_; (case ho => rfl); (case hg => rfl); (case hn => rfl); (case hr => first | (go_simp; done) | (go_simp; rfl)); intro w158 hw; have n0_ : Aside0 (Kd.V k42 42 w158 w.heap.size (fun k_ => (w.heap.size ≤ k_) ∧ k_ ≠ gb101 ∧ k_ ≠ gb102 ∧ k_ ≠ gb135 ∧ k_ ≠ gb143) (.slice Ao149 t131.length co149) t131) := ⟨(by rw [hw]; exact (by (with_reducible repeat (first | apply Kd.V_alloc | apply Kd.V_drewN | apply Kd.V_drew)); exact Kd.V_mono (vF3 gb143 (Kd.V_mono HO133.out (fun k_ hk => (⟨hk, hk.2⟩ : _ ∧ k_ ≠ gb143))) (fun _ hk => hk.2)) (fun _ hk => ⟨hk.1.1.1.1, ⟨hk.1.1.1.2.1, ⟨hk.1.1.1.2.2, ⟨hk.1.1.2, hk.1.2⟩⟩⟩⟩)))⟩; have n1_ : Aside0 (Kd.V k42 42 w158 w.heap.size (fun k_ => (w.heap.size ≤ k_) ∧ k_ ≠ gb101 ∧ k_ ≠ gb102 ∧ k_ ≠ gb135 ∧ k_ ≠ gb143) (.slice Ao157 t139.length co157) t139) := ⟨(by rw [hw]; exact (by (with_reducible repeat (first | apply Kd.V_alloc | apply Kd.V_drewN | apply Kd.V_drew)); exact Kd.V_mono (vF3 gb143 (Kd.V_mono HO141.out (fun k_ hk => (⟨hk, hk.2⟩ : _ ∧ k_ ≠ gb143))) (fun _ hk => hk.2)) (fun _ hk => ⟨hk.1.1.1, ⟨hk.1.1.2.1, ⟨hk.1.1.2.2.1, ⟨hk.1.1.2.2.2, hk.1.2⟩⟩⟩⟩)))⟩; have n2_ : Aside0 (w158.heap[gb101]? = some (.cells #[.int .i64 a0_0, .int .i64 a0_1, .slice (some ad128) l0_2.length c0_2] 37 (0, 0))) := ⟨(by rw [hw]; exact (by (repeat first | with_reducible apply zN | with_reducible apply zD | with_reducible apply zA | refine blk_far ?_ NB101_143.out _); exact BK101.out))⟩; have n3_ : Aside0 (w158.heap[gb102]? = some (.cells #[.int .i64 0, .int .i64 0, .slice none 0 0] 42 (0, 0))) := ⟨(by rw [hw]; exact (by (repeat first | with_reducible apply zN | with_reducible apply zD | with_reducible apply zA | refine blk_far ?_ NB102_143.out _); exact BK102.out))⟩; have n4_ : Aside0 (w158.heap[gb135]? = some (.cells #[.int .i64 t129, .int .i64 t130, .slice Ao149 t131.length co149] 42 (0, 0))) := ⟨(by rw [hw]; exact (by (repeat first | with_reducible apply zN | with_reducible apply zD | with_reducible apply zA | refine blk_far ?_ NB135_143.out _); exact BK135.out))⟩; have n5_ : Aside0 (w158.heap[gb143]? = some (.cells #[.int .i64 t137, .int .i64 t138, .slice Ao157 t139.length co157] 42 (0, 0))) := ⟨(by rw [hw]; exact (p3 BK143))⟩; have n6_ : Aside0 (Below w.heap.size w w158) := ⟨(by rw [hw]; exact (pH HB))⟩; clear hw; clear HO133; clear HO141; clear BK101; clear BK102; clear BK135; clear BK143; clear HB; have HO133 := n0_; have HO141 := n1_; have BK101 := n2_; have BK102 := n3_; have BK135 := n4_; have BK143 := n5_; have HB := n6_; clear n0_ n1_ n2_ n3_ n4_ n5_ n6_; obtain ⟨hcz159_0, hcz159_1, hcz159_2, hfz159_0, hfz159_1, hfz159_2⟩ := cA3 BK135; obtain ⟨hcz160_0, hcz160_1, hcz160_2, hfz160_0, hfz160_1, hfz160_2⟩ := cA3 BK143) | ((with_reducible refine gate_callee (f := 24) rfl ?_); refine goesL_ (some 76) rfl rfl Try.func24 (by kernel_rfl) rfl #[.agg #[.int .i64 t129, .int .i64 t130, .slice Ao149 t131.length co149], .agg #[.int .i64 t137, .int .i64 t138, .slice Ao157 t139.length co157]] rfl tA ?_; (with_reducible refine (impl_combApp.calls t129 t130 (fun k_ => ((w.heap.size ≤ k_) ∧ (k_ ≠ gb101 ∧ (k_ ≠ gb102 ∧ (k_ ≠ gb135 ∧ k_ ≠ gb143))))) _ _ t131 t137 t138 (fun k_ => ((w.heap.size ≤ k_) ∧ (k_ ≠ gb101 ∧ (k_ ≠ gb102 ∧ (k_ ≠ gb135 ∧ k_ ≠ gb143))))) _ _ t139 t144 t145 t146 _ ?side1 ?side2 A67.out).mono ?_); (case side1 => exact HO133.out); (case side2 => exact HO141.out); rintro e w161 ⟨v147, rfl, ho0, hb⟩; refine ⟨_, rfl, ?_⟩; have HO148 := aK (Kd.N_lower (Kd.N_mono (ok' := fun k_ => (w.heap.size ≤ k_) ∧ k_ ≠ gb101 ∧ k_ ≠ gb102 ∧ k_ ≠ gb135 ∧ k_ ≠ gb143) ho0 (fun k_ hk_ => ⟨Or.elim hk_ (fun hs_ => Or.elim hs_ (fun hs_ => hs_.1) (fun hs_ => hs_.1)) (fun hn_ => (Nat.le_trans (below_size HB.out) hn_)), Or.elim hk_ (fun hs_ => Or.elim hs_ (fun hs_ => hs_.2.1) (fun hs_ => hs_.2.1)) (fun hn_ => (Kd.freshB BK101.out k_ hn_)), Or.elim hk_ (fun hs_ => Or.elim hs_ (fun hs_ => hs_.2.2.1) (fun hs_ => hs_.2.2.1)) (fun hn_ => (Kd.freshB BK102.out k_ hn_)), Or.elim hk_ (fun hs_ => Or.elim hs_ (fun hs_ => hs_.2.2.2.1) (fun hs_ => hs_.2.2.2.1)) (fun hn_ => (Kd.freshB BK135.out k_ hn_)), Or.elim hk_ (fun hs_ => Or.elim hs_ (fun hs_ => hs_.2.2.2.2) (fun hs_ => hs_.2.2.2.2)) (fun hn_ => (Kd.freshB BK143.out k_ hn_))⟩)) (below_size HB.out)); replace HO133 := qe HO133 (by first | exact Kd.N_base ho0 | exact Kd.R_base ho0) hb; replace HO141 := qe HO141 (by first | exact Kd.N_base ho0 | exact Kd.R_base ho0) hb; replace BK101 := qb BK101 hb; replace BK102 := qb BK102 hb; replace BK135 := qb BK135 hb; replace BK143 := qb BK143 hb; replace HB := qs HB hb; (try clear hb); (try clear ho0)) | ((with_reducible refine gate_dst (N := 13) rfl ?_); refine bE (N := 13) (cs := #[.int .i64 0, .int .i64 0, .slice none 0 0]) (t := 42) ?_; intro gb149 hg w162 hbox hb; have GW149 := qw HB hg; have GE149 := qw HB hg; have NB101_149 := ql BK101 hg; have NB149_101 := qg BK101 hg; have NB102_149 := ql BK102 hg; have NB149_102 := qg BK102 hg; have NB135_149 := ql BK135 hg; have NB149_135 := qg BK135 hg; have NB143_149 := ql BK143 hg; have NB149_143 := qg BK143 hg; replace HO133 := qv HO133 hg hb; replace HO141 := qv HO141 hg hb; replace HO148 := qn HO148 hg hb; replace BK101 := qb BK101 hb; replace BK102 := qb BK102 hb; replace BK135 := qb BK135 hb; replace BK143 := qb BK143 hb; have BK149 := aK hbox; replace HB := qs HB hb; clear hb hbox hg; have hnb163 := NB149_101.out; have hnc163 := NB101_149.out; have hnb164 := NB149_102.out; have hnc164 := NB102_149.out; have hnb165 := NB149_135.out; have hnc165 := NB135_149.out; have hnb166 := NB149_143.out; have hnc166 := NB143_149.out; obtain ⟨hcz167_0, hcz167_1, hcz167_2, hfz167_0, hfz167_1, hfz167_2⟩ := cA3 BK149; obtain ⟨Ao168, co168, eo168⟩ := Kd.N_slice HO148.out; subst eo168))
      have n0_ : Aside0 (Kd.V k42 42 (((w162.setCell ⟨gb149, 0, none⟩ (.int .i64 t144)).setCell ⟨gb149, 1, none⟩ (.int .i64 t145)).setCell ⟨gb149, 2, none⟩ (.slice Ao168 t146.length co168)) w.heap.size (fun k_ => (w.heap.size ≤ k_) ∧ some k_ ≠ (.slice Ao168 t146.length co168 : Value).ownBlock ∧ k_ ≠ gb101 ∧ k_ ≠ gb102 ∧ k_ ≠ gb135 ∧ k_ ≠ gb143 ∧ k_ ≠ gb149) (.slice Ao149 t131.length co149) t131) := ⟨by (with_reducible repeat (first | apply Kd.V_alloc | apply Kd.V_drewN | apply Kd.V_drew)); exact Kd.V_mono (vF3 gb149 (Kd.V_mono HO133.out (fun k_ hk => (⟨hk, hk.2⟩ : _ ∧ k_ ≠ gb149))) (fun _ hk => hk.2)) (fun _ hk => ⟨hk.1.1.1.1, ⟨hk.1.1.2, ⟨hk.1.1.1.2.1, ⟨hk.1.1.1.2.2.1, ⟨hk.1.1.1.2.2.2.1, ⟨hk.1.1.1.2.2.2.2, hk.1.2⟩⟩⟩⟩⟩⟩)⟩
      have n1_ : Aside0 (Kd.V k42 42 (((w162.setCell ⟨gb149, 0, none⟩ (.int .i64 t144)).setCell ⟨gb149, 1, none⟩ (.int .i64 t145)).setCell ⟨gb149, 2, none⟩ (.slice Ao168 t146.length co168)) w.heap.size (fun k_ => (w.heap.size ≤ k_) ∧ some k_ ≠ (.slice Ao168 t146.length co168 : Value).ownBlock ∧ k_ ≠ gb101 ∧ k_ ≠ gb102 ∧ k_ ≠ gb135 ∧ k_ ≠ gb143 ∧ k_ ≠ gb149) (.slice Ao157 t139.length co157) t139) := ⟨by (with_reducible repeat (first | apply Kd.V_alloc | apply Kd.V_drewN | apply Kd.V_drew)); exact Kd.V_mono (vF3 gb149 (Kd.V_mono HO141.out (fun k_ hk => (⟨hk, hk.2⟩ : _ ∧ k_ ≠ gb149))) (fun _ hk => hk.2)) (fun _ hk => ⟨hk.1.1.1.1, ⟨hk.1.1.2, ⟨hk.1.1.1.2.1, ⟨hk.1.1.1.2.2.1, ⟨hk.1.1.1.2.2.2.1, ⟨hk.1.1.1.2.2.2.2, hk.1.2⟩⟩⟩⟩⟩⟩)⟩
      have n2_ : Aside0 (Kd.N k42 42 (((w162.setCell ⟨gb149, 0, none⟩ (.int .i64 t144)).setCell ⟨gb149, 1, none⟩ (.int .i64 t145)).setCell ⟨gb149, 2, none⟩ (.slice Ao168 t146.length co168)) w.heap.size (fun k_ => (w.heap.size ≤ k_) ∧ k_ ≠ gb101 ∧ k_ ≠ gb102 ∧ k_ ≠ gb135 ∧ k_ ≠ gb143 ∧ k_ ≠ gb149) (.slice Ao168 t146.length co168) t146) := ⟨by (with_reducible repeat (first | apply Kd.N_alloc | apply Kd.N_drewN | apply Kd.N_drew)); exact Kd.N_mono (nF3 gb149 (Kd.N_mono HO148.out (fun k_ hk => (⟨hk, hk.2⟩ : _ ∧ k_ ≠ gb149))) (fun _ hk => hk.2)) (fun _ hk => ⟨hk.1.1.1, ⟨hk.1.1.2.1, ⟨hk.1.1.2.2.1, ⟨hk.1.1.2.2.2.1, ⟨hk.1.1.2.2.2.2, hk.1.2⟩⟩⟩⟩⟩)⟩
      have n3_ : Aside0 ((((w162.setCell ⟨gb149, 0, none⟩ (.int .i64 t144)).setCell ⟨gb149, 1, none⟩ (.int .i64 t145)).setCell ⟨gb149, 2, none⟩ (.slice Ao168 t146.length co168)).heap[gb101]? = some (.cells #[.int .i64 a0_0, .int .i64 a0_1, .slice (some ad128) l0_2.length c0_2] 37 (0, 0))) := ⟨by (repeat first | with_reducible apply zN | with_reducible apply zD | with_reducible apply zA | refine blk_far ?_ NB101_149.out _); exact BK101.out⟩
      have n4_ : Aside0 ((((w162.setCell ⟨gb149, 0, none⟩ (.int .i64 t144)).setCell ⟨gb149, 1, none⟩ (.int .i64 t145)).setCell ⟨gb149, 2, none⟩ (.slice Ao168 t146.length co168)).heap[gb102]? = some (.cells #[.int .i64 0, .int .i64 0, .slice none 0 0] 42 (0, 0))) := ⟨by (repeat first | with_reducible apply zN | with_reducible apply zD | with_reducible apply zA | refine blk_far ?_ NB102_149.out _); exact BK102.out⟩
      have n5_ : Aside0 ((((w162.setCell ⟨gb149, 0, none⟩ (.int .i64 t144)).setCell ⟨gb149, 1, none⟩ (.int .i64 t145)).setCell ⟨gb149, 2, none⟩ (.slice Ao168 t146.length co168)).heap[gb135]? = some (.cells #[.int .i64 t129, .int .i64 t130, .slice Ao149 t131.length co149] 42 (0, 0))) := ⟨by (repeat first | with_reducible apply zN | with_reducible apply zD | with_reducible apply zA | refine blk_far ?_ NB135_149.out _); exact BK135.out⟩
      have n6_ : Aside0 ((((w162.setCell ⟨gb149, 0, none⟩ (.int .i64 t144)).setCell ⟨gb149, 1, none⟩ (.int .i64 t145)).setCell ⟨gb149, 2, none⟩ (.slice Ao168 t146.length co168)).heap[gb143]? = some (.cells #[.int .i64 t137, .int .i64 t138, .slice Ao157 t139.length co157] 42 (0, 0))) := ⟨by (repeat first | with_reducible apply zN | with_reducible apply zD | with_reducible apply zA | refine blk_far ?_ NB143_149.out _); exact BK143.out⟩
      have n7_ : Aside0 ((((w162.setCell ⟨gb149, 0, none⟩ (.int .i64 t144)).setCell ⟨gb149, 1, none⟩ (.int .i64 t145)).setCell ⟨gb149, 2, none⟩ (.slice Ao168 t146.length co168)).heap[gb149]? = some (.cells #[.int .i64 t144, .int .i64 t145, .slice Ao168 t146.length co168] 42 (0, 0))) := ⟨p3 BK149⟩
      have n8_ : Aside0 (Below w.heap.size w (((w162.setCell ⟨gb149, 0, none⟩ (.int .i64 t144)).setCell ⟨gb149, 1, none⟩ (.int .i64 t145)).setCell ⟨gb149, 2, none⟩ (.slice Ao168 t146.length co168))) := ⟨pH HB⟩
      (try clear HO133)
      (try clear HO141)
      (try clear HO148)
      (try clear BK101)
      (try clear BK102)
      (try clear BK135)
      (try clear BK143)
      (try clear BK149)
      (try clear HB)
      generalize (((w162.setCell ⟨gb149, 0, none⟩ (.int .i64 t144)).setCell ⟨gb149, 1, none⟩ (.int .i64 t145)).setCell ⟨gb149, 2, none⟩ (.slice Ao168 t146.length co168)) = w169 at n0_ n1_ n2_ n3_ n4_ n5_ n6_ n7_ n8_ ⊢
      have HO133 := n0_
      have HO141 := n1_
      have HO148 := n2_
      have BK101 := n3_
      have BK102 := n4_
      have BK135 := n5_
      have BK143 := n6_
      have BK149 := n7_
      have HB := n8_
      clear n0_ n1_ n2_ n3_ n4_ n5_ n6_ n7_ n8_
      have n0_ := aK (Kd.V_drew HO133.out)
      have n1_ := aK (Kd.V_drew HO141.out)
      have n2_ := aK (Kd.N_drew HO148.out)
      have n3_ := aK (blk_drew BK101.out)
      have n4_ := aK (blk_drew BK102.out)
      have n5_ := aK (blk_drew BK135.out)
      have n6_ := aK (blk_drew BK143.out)
      have n7_ := aK (blk_drew BK149.out)
      have n8_ := aK (below_drew1 HB.out)
      clear HO133
      clear HO141
      clear HO148
      clear BK101
      clear BK102
      clear BK135
      clear BK143
      clear BK149
      clear HB
      have HO133 := n0_
      have HO141 := n1_
      have HO148 := n2_
      have BK101 := n3_
      have BK102 := n4_
      have BK135 := n5_
      have BK143 := n6_
      have BK149 := n7_
      have HB := n8_
      clear n0_ n1_ n2_ n3_ n4_ n5_ n6_ n7_ n8_
      refine start_ (n := 11) (S := fun w' => w'.cell? ⟨gb149, 0, none⟩ = some (.int .i64 t144) ∧ w'.cell? ⟨gb149, 1, none⟩ = some (.int .i64 t145) ∧ w'.cell? ⟨gb149, 2, none⟩ = some (.slice Ao168 t146.length co168)) (ds := []) (bs 0 11) (by kernel_rfl) rfl rfl ⟨(blk_cell BK149.out 0).trans rfl, (blk_cell BK149.out 1).trans rfl, (blk_cell BK149.out 2).trans rfl⟩ (fun hHeld => ?_); refine with_tabW impl_combOfTerm.tab15 impl_combOfTerm.bits15 (fun HT_ HW_ => ?_)
      generalize w169.drew = w170 at HO133 HO141 HO148 BK101 BK102 BK135 BK143 BK149 HB hHeld ⊢
      refine pure_ (i := 1) (N := some 78) (v := ?_) (a' := ?_) #[false, true, false, false, false, false, false, false, false, false, false] rfl rfl (any_of HT_.out (by kernel_rfl)) (fun _ _ _ h => h) (Or.inl ⟨by rfl, ?_⟩) ?_ ?_
      rotate_left
      ·intro w'
       go_simp
       with_reducible rfl
      rotate_left
      ·simp only [sP, i64_w, i32_w]
       rfl
      refine pure_ (i := 2) (N := some 79) (v := ?_) (a' := ?_) #[false, true, true, false, false, false, false, false, false, false, false] rfl rfl (any_of HT_.out (by kernel_rfl)) (fun _ _ _ h => h) (Or.inl ⟨by rfl, ?_⟩) ?_ ?_
      rotate_left
      ·intro w'
       go_simp
       with_reducible rfl
      rotate_left
      ·simp only [sP, i64_w, i32_w]
       rfl
      refine pure_ (i := 3) (N := some 80) (v := undef) (a' := ?_) #[false, true, true, true, false, false, false, false, false, false, false] rfl rfl (any_of HT_.out (by kernel_rfl)) (fun _ _ _ h => h) (Or.inr ⟨by rfl, rfl⟩) ?_ ?_
      rotate_left
      ·simp only [sP, i64_w, i32_w]
       rfl
      refine pure_ (i := 4) (N := some 81) (v := ?_) (a' := ?_) #[false, true, true, true, true, false, false, false, false, false, false] rfl rfl (any_of HT_.out (by kernel_rfl)) (fun _ _ _ h => h) (Or.inl ⟨by rfl, ?_⟩) ?_ ?_
      rotate_left
      ·intro w'
       go_simp
       with_reducible rfl
      rotate_left
      ·simp only [sP, i64_w, i32_w]
       rfl
      refine pure_ (i := 5) (N := some 82) (v := ?_) (a' := ?_) #[false, true, true, true, true, true, false, false, false, false, false] rfl rfl (any_of HT_.out (by kernel_rfl)) (fun _ _ _ h => h) (Or.inl ⟨by rfl, ?_⟩) ?_ ?_
      rotate_left
      ·intro w'
       go_simp
       with_reducible rfl
      rotate_left
      ·simp only [sP, i64_w, i32_w]
       rfl
      refine pure_ (i := 6) (N := some 83) (v := undef) (a' := ?_) #[false, true, true, true, true, true, true, false, false, false, false] rfl rfl (any_of HT_.out (by kernel_rfl)) (fun _ _ _ h => h) (Or.inr ⟨by rfl, rfl⟩) ?_ ?_
      rotate_left
      ·simp only [sP, i64_w, i32_w]
       rfl
      refine pure_ (i := 7) (N := some 84) (v := undef) (a' := ?_) #[false, true, true, true, true, true, true, true, false, false, false] rfl rfl (any_of HT_.out (by kernel_rfl)) (fun _ _ _ h => h) (Or.inr ⟨by rfl, rfl⟩) ?_ ?_
      rotate_left
      ·simp only [sP, i64_w, i32_w]
       rfl
      refine pure_ (i := 8) (N := some 85) (v := ?_) (a' := ?_) #[false, true, true, true, true, true, true, true, true, false, false] rfl rfl (any_of HT_.out (by kernel_rfl)) (fun _ _ _ h => h) (Or.inl ⟨by rfl, ?_⟩) ?_ ?_
      rotate_left
      ·intro w'
       go_simp
       with_reducible rfl
      rotate_left
      ·simp only [sP, i64_w, i32_w]
       rfl
      refine take_ (i := 0) (N := some 77) (v := ?_) (a' := ?_) (bs 9 2) rfl rfl (take_ofW HT_.out HW_.out (by kernel_rfl)) (fun _ _ _ h => h) (Or.inl ⟨by rfl, ?_⟩) hHeld ?_ ?_
      rotate_left
      ·rintro w' ⟨s0, s1, s2⟩
       go_simp
       with_reducible rfl
      rotate_left
      ·simp only [sP, i64_w, i32_w]
       rfl
      refine one_ (i := 9) (N := none) (bs 10 1) rfl rfl (one_of HT_.out (by kernel_rfl)) (by decide) (fun K hK => ?_)
      have hs171 : w170.cell? ⟨gb102, 0, none⟩ = some (.int .i64 0) := (blk_cell BK102.out 0).trans rfl
      have hfs171 := blk_frozen BK102.out 0
      have hns171_0 := NB101_102.out
      have hns171_2 := NB135_102.out
      have hns171_3 := NB143_102.out
      have hns171_4 := NB149_102.out
      have hms171_0 := NB102_101.out
      have hms171_2 := NB102_135.out
      have hms171_3 := NB102_143.out
      have hms171_4 := NB102_149.out
      have hs172 : w170.cell? ⟨gb102, 1, none⟩ = some (.int .i64 0) := (blk_cell BK102.out 1).trans rfl
      have hfs172 := blk_frozen BK102.out 1
      have hns172_0 := NB101_102.out
      have hns172_2 := NB135_102.out
      have hns172_3 := NB143_102.out
      have hns172_4 := NB149_102.out
      have hms172_0 := NB102_101.out
      have hms172_2 := NB102_135.out
      have hms172_3 := NB102_143.out
      have hms172_4 := NB102_149.out
      have hs173 : w170.cell? ⟨gb102, 2, none⟩ = some (.slice none 0 0) := (blk_cell BK102.out 2).trans rfl
      have hfs173 := blk_frozen BK102.out 2
      have hns173_0 := NB101_102.out
      have hns173_2 := NB135_102.out
      have hns173_3 := NB143_102.out
      have hns173_4 := NB149_102.out
      have hms173_0 := NB102_101.out
      have hms173_2 := NB102_135.out
      have hms173_3 := NB102_143.out
      have hms173_4 := NB102_149.out
      refine skip_ (w1 := ?_) (by rfl) rfl ?_ ?_
      rotate_left
      ·go_simp
       rfl
      refine hK.out _ _ ⟨(cF3 NB149_102.out (hHeld.1)), (cF3 NB149_102.out (hHeld.2.1)), (cF3 NB149_102.out (hHeld.2.2))⟩ (fun hHeld => ?_)
      clear hK K
      refine pure_ (i := 10) (N := some 5) (v := ?_) (a' := ?_) (bs 11 0) rfl rfl (any_of HT_.out (by kernel_rfl)) (fun _ _ _ h => h) (Or.inl ⟨by rfl, ?_⟩) ?_ ?_
      rotate_left
      ·intro w'
       go_simp
       with_reducible rfl
      rotate_left
      ·simp only [sP, i64_w, i32_w]
       rfl
      refine done_ (done_of HT_.out (by kernel_rfl)) ?_
      try go_wp2
      refine bodyPost_ret (results_ct rfl _ _ gb102 42 #[.int .i64 t144, .int .i64 t145, .slice Ao168 t146.length co168] (0, 0) _ rfl (p3 BK102) Try.underlying42 rfl (by kernel_rfl)) rfl ?_
      exact ⟨_, eW, Kd.N_V (by (with_reducible repeat (first | apply Kd.N_alloc | apply Kd.N_drewN | apply Kd.N_drew)); exact Kd.N_mono (nF3 gb102 (Kd.N_mono HO148.out (fun k_ hk => (⟨hk, hk.2.2.1⟩ : _ ∧ k_ ≠ gb102))) (fun _ hk => hk.2)) (fun _ hk => hk.1.1)), pH HB⟩
    ·rw [if_neg c65] at H
     exact absurd H (by simp)
   ·rw [if_neg c63] at H
    exact absurd H (by simp)


namespace Nodes42
mutual
def flT : S42 → Int → List S33 → List S33
 | ⟨k, n, ks⟩, up, l => flL ks (l.length : Int) (l ++ [⟨k, n, up⟩])
def flL : List S42 → Int → List S33 → List S33
 | [], _, l => l
 | x :: xs, k, l => flL xs k (flT x k l)
end
mutual
def szT : S42 → Nat
 | ⟨_, _, ks⟩ => 1 + szL ks
def szL : List S42 → Nat
 | [] => 0
 | x :: xs => szT x + szL xs
end
theorem flT_eq (x : S42) (up : Int) (l : List S33) : flT x up l = flL x.f2 (l.length : Int) (l ++ [⟨x.f0, x.f1, up⟩]) := by cases x; rw [flT]
theorem szT_eq (x : S42) : szT x = 1 + szL x.f2 := by cases x; rw [szT]
theorem flL_cons (x : S42) (xs : List S42) (k : Int) (l : List S33) : flL (x :: xs) k l = flL xs k (flT x k l) := by rw [flL]
theorem flL_nil (k : Int) (l : List S33) : flL [] k l = l := by rw [flL]
theorem szL_cons (x : S42) (xs : List S42) : szL (x :: xs) = szT x + szL xs := by rw [szL]
theorem rd_drop (l : List S42) (i : Nat) (h : i < l.length) : l.drop i = rd_T42 l (i : Int) :: l.drop (i + 1) := by
 rw [List.drop_eq_getElem_cons h]
 congr 1
 unfold rd_T42
 rw [Int.toNat_natCast, List.getD_eq_getElem?_getD, List.getElem?_eq_getElem h]; rfl
theorem rd_mem (l : List S42) (i : Int) (h0 : 0 ≤ i) (h1 : i < l.length) : rd_T42 l i ∈ l := by
 have hlt : i.toNat < l.length := by omega
 have e : rd_T42 l i = l[i.toNat] := by unfold rd_T42; rw [List.getD_eq_getElem?_getD, List.getElem?_eq_getElem hlt]; rfl
 rw [e]; exact List.getElem_mem hlt
theorem len_of : ∀ (N : Nat), (∀ (x : S42) (up : Int) (l : List S33), SizeOf.sizeOf x ≤ N → (flT x up l).length = l.length + szT x) ∧ (∀ (xs : List S42) (k : Int) (l : List S33), SizeOf.sizeOf xs ≤ N → (flL xs k l).length = l.length + szL xs) := by
 intro N
 induction N with
 | zero =>
  refine ⟨fun x up l h => ?_, fun xs k l h => ?_⟩
  ·cases x; simp at h
  ·cases xs <;> simp at h
 | succ N ih =>
  refine ⟨fun x up l h => ?_, fun xs k l h => ?_⟩
  ·cases x with
   | mk k n ks =>
    rw [flT, szT, ih.2 ks _ _ (by simp at h; omega), List.length_append]
    show l.length + 1 + szL ks = _; omega
  ·cases xs with
   | nil => rw [flL, szL]; rfl
   | cons x xs =>
    have h1 : SizeOf.sizeOf x ≤ N := by simp at h; omega
    have h2 : SizeOf.sizeOf xs ≤ N := by simp at h; omega
    rw [flL, szL, ih.2 xs k _ h2, ih.1 x k l h1]; omega
theorem flT_len (x : S42) (up : Int) (l : List S33) : (flT x up l).length = l.length + szT x := (len_of _).1 x up l (Nat.le_refl _)

set_option maxHeartbeats 4000000 in
set_option maxRecDepth 100000 in
theorem node_some (w0 : World) (go gp : Nat) (hgo : w0.heap.size ≤ go) (hgp : w0.heap.size ≤ gp) (hne : gp ≠ go) (a0 a1 up : Int) (ks : List S42) (A : Option Addr) (c : Nat) (l : List S33) (A0 : Option Addr) (c0 : Nat) (w : World) (hC : Kd.C k42 w0 A ks.length ks) (hc : ks.length ≤ c) (hl : l.length + (1 + szL ks) ≤ 200000)
  (hO : Kd.R k33 33 w w0.heap.size (fun _ => True) (.slice A0 l.length c0) l) (hB : Below w0.heap.size w0 w) (hbo : w.heap[go]? = some (.cells #[.slice A0 l.length c0] 25 (0, 0))) (hbp : w.heap[gp]? = some (.cells #[.func (.func 25) #[] #[.pointer (some ⟨go, 0, none⟩), .pointer (some ⟨gp, 0, none⟩)]] 68 (0, 0)))
  (ih : ∀ (j : Nat) (A : Option Addr) (c : Nat) (acc : List S33) (v : Value) (w : World), j < ks.length → (rd_T42 ks (j : Int)).f2.length ≤ c → acc.length + szT (rd_T42 ks (j : Int)) ≤ 200000 → Kd.R k33 33 w w0.heap.size (fun _ => True) v acc → Below w0.heap.size w0 w → w.heap[go]? = some (.cells #[v] 25 (0, 0)) → w.heap[gp]? = some (.cells #[.func (.func 25) #[] #[.pointer (some ⟨go, 0, none⟩), .pointer (some ⟨gp, 0, none⟩)]] 68 (0, 0)) → Kd.C k42 w0 A (rd_T42 ks (j : Int)).f2.length (rd_T42 ks (j : Int)).f2 →
   Calls Try.prog 25 #[.agg #[.int .i64 (rd_T42 ks (j : Int)).f0, .int .i64 (rd_T42 ks (j : Int)).f1, .slice A (rd_T42 ks (j : Int)).f2.length c], .int .i64 (l.length : Int), .pointer (some ⟨go, 0, none⟩), .pointer (some ⟨gp, 0, none⟩)] w fun e w' => ∃ v2, e = .returned (.tuple #[]) ∧ w'.heap[go]? = some (.cells #[v2] 25 (0, 0)) ∧ w'.heap[gp]? = some (.cells #[.func (.func 25) #[] #[.pointer (some ⟨go, 0, none⟩), .pointer (some ⟨gp, 0, none⟩)]] 68 (0, 0)) ∧ Kd.R k33 33 w' w0.heap.size (fun _ => True) v2 (flT (rd_T42 ks (j : Int)) (l.length : Int) acc) ∧ Below w0.heap.size w0 w') :
  Calls Try.prog 25 #[.agg #[.int .i64 a0, .int .i64 a1, .slice A ks.length c], .int .i64 up, .pointer (some ⟨go, 0, none⟩), .pointer (some ⟨gp, 0, none⟩)] w fun e w' => ∃ v2, e = .returned (.tuple #[]) ∧ w'.heap[go]? = some (.cells #[v2] 25 (0, 0)) ∧ w'.heap[gp]? = some (.cells #[.func (.func 25) #[] #[.pointer (some ⟨go, 0, none⟩), .pointer (some ⟨gp, 0, none⟩)]] 68 (0, 0)) ∧ Kd.R k33 33 w' w0.heap.size (fun _ => True) v2 (flL ks (l.length : Int) (l ++ [⟨a0, a1, up⟩])) ∧ Below w0.heap.size w0 w' := by
 have hu58 := Try.underlying42
 have hu25 := Try.underlying25
 have eg := enters_ Try.func25 (by kernel_rfl) rfl
 have HM := aK hC.2.1
 have HC0 := aK hC
 have HL := aK (show l.length ≤ 200000 by omega)
 have HZ := aK hl
 have HO := aK hO
 have HB := aK hB
 have BO := aK hbo
 have BP := aK hbp
 have GO := aK hgo
 have NGO := aK hne
 have NGB : Aside0 (∀ {gb : Nat} {v : Value} {W : World}, W.heap[gb]? = some (.cells #[.int .i64 a0, .int .i64 a1, .slice A ks.length c] 42 (0, 0)) → W.heap[go]? = some (.cells #[v] 25 (0, 0)) → gb ≠ go) := ⟨fun h1 h2 e => by subst e; rw [h1] at h2; simp at h2⟩
 have IH := aK ih
 clear hC hl hO hB ih hbo hbp hgo hgp hne
 go_enter Try.func25, Try.ntmps25
 go_wp2_with (first | ((with_reducible refine gate_dst (N := 4) rfl ?_); refine bE (N := 4) (cs := #[.int .i64 a0, .int .i64 a1, .slice A ks.length c]) (t := 42) ?_; intro gb hg w5 hbox hb; have m0_ := aK (below_step HB.out hb); have m1_ := aK (hbox); have m2_ := aK (Kd.R_below HO.out hb); have m3_ := aK (blk_below (g := go) (o := .cells #[.slice A0 l.length c0] 25 (0, 0)) BO.out hb); have m4_ := aK (blk_below (g := gp) (o := .cells #[.func (.func 25) #[] #[.pointer (some ⟨go, 0, none⟩), .pointer (some ⟨gp, 0, none⟩)]] 68 (0, 0)) BP.out hb); clear BO BP HB HO; have HB := m0_; have BK := m1_; have HO := m2_; have BO := m3_; have BP := m4_; clear m0_ m1_ m2_ m3_ m4_; clear hb hbox hg; have hcz_0 : w5.cell? ⟨gb, 0, none⟩ = some (.int .i64 a0) := (blk_cell BK.out 0).trans rfl; have hcz_1 : w5.cell? ⟨gb, 1, none⟩ = some (.int .i64 a1) := (blk_cell BK.out 1).trans rfl; have hcz_2 : w5.cell? ⟨gb, 2, none⟩ = some (.slice A ks.length c) := (blk_cell BK.out 2).trans rfl; have hfz_0 := blk_frozen BK.out 0; have hfz_1 := blk_frozen BK.out 1; have hfz_2 := blk_frozen BK.out 2; have hczo_0 : w5.cell? ⟨go, 0, none⟩ = some (.slice A0 l.length c0) := (blk_cell BO.out 0).trans rfl; have hfzo_0 := blk_frozen BO.out 0) | ((with_reducible refine gate_builtin (b := .append) (xs := #[.tmp 11, .tmp 18]) rfl ?_); at_builtin; refine Kd.R_append k33 (w0 := w0) w0.heap.size rfl (.tmp 11) (.tmp 18) 25 33 (.agg #[(.int .i64 0), (.int .i64 0), (.int .i64 0)]) 24 rfl Try.underlying25 info33 rfl (by decide) (by omega) (.slice A0 l.length c0) l (⟨a0, a1, up⟩ : S33) [.int .i64 a0, .int .i64 a1, .int .i64 up] (fun _ => True) (fun _ => False) rfl (by first | (go_simp; done) | (go_simp; rfl)) ?aP (fun _ hk => hk.elim) ?aF ?aO ?aB ?aS ?aL ?_; (case aP => exact k33_mkM _ _ _ (⟨a0, a1, up⟩ : S33)); (case aB => exact HB.out); (case aF => exact (fun _ _ => trivial)); (case aO => exact HO.out); (case aS => exact (below_size HB.out)); (case aL => have := HL.out; omega); intro v1 w7 ho hb hg hat; obtain ⟨A3, c3, hv3⟩ := Kd.R_slice ho; obtain ⟨n3, hn3⟩ : ∃ n3, n3 = (l ++ [(⟨a0, a1, up⟩ : S33)]).length := ⟨_, rfl⟩; rw [← hn3] at hv3; subst hv3; clear hn3; have m0_ := aK (hb); have m1_ := aK ((hg.block gb (blk_lt BK.out) (Kd.R_ne HO.out BK.out (by decide))).trans BK.out); have m2_ := aK ((hg.block go (blk_lt BO.out) (Kd.R_ne HO.out BO.out (by decide))).trans BO.out); have m3_ := aK ((hg.block gp (blk_lt BP.out) (Kd.R_ne HO.out BP.out (by decide))).trans BP.out); have m4_ := aK (ho); clear BO BP HB HO; have HB := m0_; have BK := m1_; have BO := m2_; have BP := m3_; have HO := m4_; clear m0_ m1_ m2_ m3_ m4_; clear ho hb hg hat; clear hcz_0 hfz_0 hcz_1 hfz_1 hcz_2 hfz_2 hczo_0 hfzo_0; have hcza_0 : w7.cell? ⟨gb, 0, none⟩ = some (.int .i64 a0) := (blk_cell BK.out 0).trans rfl; have hcza_1 : w7.cell? ⟨gb, 1, none⟩ = some (.int .i64 a1) := (blk_cell BK.out 1).trans rfl; have hcza_2 : w7.cell? ⟨gb, 2, none⟩ = some (.slice A ks.length c) := (blk_cell BK.out 2).trans rfl; have hfza_0 := blk_frozen BK.out 0; have hfza_1 := blk_frozen BK.out 1; have hfza_2 := blk_frozen BK.out 2; have hczp_0 : w7.cell? ⟨go, 0, none⟩ = some (.slice A0 l.length c0) := (blk_cell BO.out 0).trans rfl; have hfzp_0 := blk_frozen BO.out 0; have hnb_ := NGB.out BK.out BO.out; have hnc_ := NGO.out))
 have n0_ : Aside0 (Kd.R k33 33 (w7.setCell ⟨go, 0, none⟩ (.slice A3 n3 c3)) w0.heap.size (fun _ => True) (.slice A3 n3 c3) (l ++ [⟨a0, a1, up⟩])) := ⟨Kd.R_mono (Kd.R_far (p := ⟨go, 0, none⟩) (Kd.R_types HO.out BO.out (by decide)) (fun _ hk => hk.2) (.slice A3 n3 c3)) (fun _ hk => hk.1)⟩
 have n1_ : Aside0 (Below w0.heap.size w0 (w7.setCell ⟨go, 0, none⟩ (.slice A3 n3 c3))) := ⟨below_set HB.out GO.out⟩
 have n2_ : Aside0 ((w7.setCell ⟨go, 0, none⟩ (.slice A3 n3 c3)).heap[go]? = some (.cells #[.slice A3 n3 c3] 25 (0, 0))) := ⟨by refine blk_put (cs := #[.slice A0 l.length c0]) ?_ 0 _ rfl; exact BO.out⟩
 have n3_ : Aside0 ((w7.setCell ⟨go, 0, none⟩ (.slice A3 n3 c3)).heap[gp]? = some (.cells #[.func (.func 25) #[] #[.pointer (some ⟨go, 0, none⟩), .pointer (some ⟨gp, 0, none⟩)]] 68 (0, 0))) := ⟨by refine blk_far ?_ NGO.out _; exact BP.out⟩
 clear HO HB BO BP
 go_loopg [23] (ks.length + 1) (fun kq v23 w' => ∃ (i : Int) (acc : List S33) (v : Value), v23 = .int .i64 i ∧ Aside0 (Kd.R k33 33 w' w0.heap.size (fun _ => True) v acc) ∧ Aside0 (0 ≤ i ∧ i ≤ ks.length ∧ (kq : Int) = ks.length - i + 1) ∧ Aside0 (acc.length + szL (ks.drop i.toNat) ≤ 200000 ∧ flL (ks.drop i.toNat) (l.length : Int) acc = flL ks (l.length : Int) (l ++ [⟨a0, a1, up⟩])) ∧ Aside0 (Below w0.heap.size w0 w') ∧ Aside0 (w'.heap[go]? = some (.cells #[v] 25 (0, 0))) ∧ Aside0 (w'.heap[gp]? = some (.cells #[.func (.func 25) #[] #[.pointer (some ⟨go, 0, none⟩), .pointer (some ⟨gp, 0, none⟩)]] 68 (0, 0))))
 case atStart => exact ⟨0, l ++ [⟨a0, a1, up⟩], .slice A3 n3 c3, rfl, n0_, ⟨by omega, by omega, by omega⟩, ⟨by have := HZ.out; rw [List.length_append, show (0 : Int).toNat = 0 from rfl, List.drop_zero]; show l.length + 1 + _ ≤ _; omega, by rw [show (0 : Int).toNat = 0 from rfl, List.drop_zero]⟩, n1_, n2_, n3_⟩
 case round =>
  clear n0_ n1_ n2_ n3_ BK
  obtain ⟨i, acc, v, rfl, HO0, HA, HF, HB, BO, BP⟩ := hrel
  obtain ⟨A1, c1, rfl⟩ := Kd.R_slice HO0.out
  have HO := HO0
  clear HO0
  by_cases c2 : i < (ks.length : Int)
  ·have cb : decide (i < (ks.length : Int)) = true := decide_eq_true c2
   have cz : decide (0 ≤ i) = true := decide_eq_true HA.out.1
   obtain ⟨j, rfl⟩ : ∃ j : Nat, i = (j : Int) := ⟨i.toNat, by have := HA.out.1; omega⟩
   obtain ⟨ad, A2, c2_, e1, hx0, hx1, hx2, hl2, hi2⟩ := at_T42 (HC0.out) (j : Int) HA.out.1 c2
   cases e1
   simp only [Int.toNat_natCast] at hx0 hx1 hx2
   have HC2 := aK hl2
   have HR2 := aK hi2
   clear hl2 hi2
   replace hx0 := uC HB hx0
   replace hx1 := uC HB hx1
   replace hx2 := uC HB hx2
   have w1 : wrap64 ((j : Int) + 1) = (j : Int) + 1 := by have := HM.out; unfold wrap64; omega
   have W1 := aK w1
   have PI := aK (show j < ks.length by omega)
   have p1 := eq_true HA.out.1
   have q1 := eq_true c2
   clear c2 w1
   have e9 : flL (ks.drop j) (l.length : Int) acc = flL (ks.drop (j + 1)) (l.length : Int) (flT (rd_T42 ks (j : Int)) (l.length : Int) acc) := by rw [rd_drop ks j PI.out, flL_cons]
   have E9 := aK e9
   have e8 : szL (ks.drop j) = szT (rd_T42 ks (j : Int)) + szL (ks.drop (j + 1)) := by rw [rd_drop ks j PI.out, szL_cons]
   have E8 := aK e8
   have CL : Aside0 (acc.length + szT (rd_T42 ks (j : Int)) ≤ 200000) := ⟨by have h := HF.out.1; rw [show ((j : Int)).toNat = j by omega, e8] at h; omega⟩
   clear e9 e8
   obtain ⟨k1, rfl⟩ : ∃ m, gk = m + 1 := ⟨gk - 1, by have := HA.out; have := PI.out; omega⟩
   go_wp2_with ((with_reducible refine gate_dst (N := 8) rfl ?_); refine bE (N := 8) (cs := #[.int .i64 0, .int .i64 0, .slice none 0 0]) (t := 42) ?_; intro g2 hg w9 hbox hb; have hy0 := (hb.cell (World.block_lt_of_cell? _ _ hx0)).trans hx0; have hy1 := (hb.cell (World.block_lt_of_cell? _ _ hx1)).trans hx1; have hy2 := (hb.cell (World.block_lt_of_cell? _ _ hx2)).trans hx2; clear hx0 hx1 hx2; have hx0 := hy0; have hx1 := hy1; have hx2 := hy2; clear hy0 hy1 hy2; have m0_ := aK (below_step HB.out hb); have m1_ := aK (hbox); have m2_ := aK (Kd.R_below HO.out hb); have m3_ := aK (blk_below (g := go) (o := .cells #[.slice A1 acc.length c1] 25 (0, 0)) BO.out hb); have m4_ := aK (blk_below (g := gp) (o := .cells #[.func (.func 25) #[] #[.pointer (some ⟨go, 0, none⟩), .pointer (some ⟨gp, 0, none⟩)]] 68 (0, 0)) BP.out hb); have m5_ := aK ((by rw [hg]; exact below_size HB.out : w0.heap.size ≤ g2)); have m6_ := aK ((by rw [hg]; exact Nat.ne_of_lt (blk_lt BO.out) : go ≠ g2)); have m7_ := aK ((by rw [hg]; exact Nat.ne_of_lt (blk_lt BP.out) : gp ≠ g2)); clear BO BP HB HO; have HB := m0_; have BK2 := m1_; have HO := m2_; have BO := m3_; have BP := m4_; have GE2 := m5_; have N2O := m6_; have N2P := m7_; clear m0_ m1_ m2_ m3_ m4_ m5_ m6_ m7_; clear hb hbox hg; have hn1_ := N2O.out; have hn2_ := N2P.out; have hczb_0 : w9.cell? ⟨g2, 0, none⟩ = some (.int .i64 0) := (blk_cell BK2.out 0).trans rfl; have hczb_1 : w9.cell? ⟨g2, 1, none⟩ = some (.int .i64 0) := (blk_cell BK2.out 1).trans rfl; have hczb_2 : w9.cell? ⟨g2, 2, none⟩ = some (.slice none 0 0) := (blk_cell BK2.out 2).trans rfl; have hfzb_0 := blk_frozen BK2.out 0; have hfzb_1 := blk_frozen BK2.out 1; have hfzb_2 := blk_frozen BK2.out 2; have hczq_0 : w9.cell? ⟨go, 0, none⟩ = some (.slice A1 acc.length c1) := (blk_cell BO.out 0).trans rfl; have hfzq_0 := blk_frozen BO.out 0; have hczr_0 : w9.cell? ⟨gp, 0, none⟩ = some (.func (.func 25) #[] #[.pointer (some ⟨go, 0, none⟩), .pointer (some ⟨gp, 0, none⟩)]) := (blk_cell BP.out 0).trans rfl; have hfzr_0 := blk_frozen BP.out 0)
   refine (IH.out j A2 c2_ acc (.slice A1 acc.length c1) _ PI.out HC2.out (by have := CL.out; omega) (Kd.R_mono (Kd.R_far (p := ⟨g2, 2, none⟩) (Kd.R_far (p := ⟨g2, 1, none⟩) (Kd.R_far (p := ⟨g2, 0, none⟩) (Kd.R_types HO.out BK2.out (by decide)) (fun _ hk => hk.2) (.int .i64 (rd_T42 ks (j : Int)).f0)) (fun _ hk => hk.2) (.int .i64 (rd_T42 ks (j : Int)).f1)) (fun _ hk => hk.2) (.slice A2 (rd_T42 ks (j : Int)).f2.length c2_)) (fun _ hk => hk.1)) (below_set (below_set (below_set HB.out GE2.out) GE2.out) GE2.out) (by refine blk_far ?_ N2O.out _; refine blk_far ?_ N2O.out _; refine blk_far ?_ N2O.out _; exact BO.out) (by refine blk_far ?_ N2P.out _; refine blk_far ?_ N2P.out _; refine blk_far ?_ N2P.out _; exact BP.out) HR2.out).mono ?_
   rintro e w' ⟨v2, rfl, bo2, bp2, ho2, hb2⟩
   have HO2 := aK ho2
   have HB2 := aK hb2
   have BO2 := aK bo2
   have BP2 := aK bp2
   clear HB HO BK2 BO BP ho2 hb2 bo2 bp2
   go_wp2
   go_roundg k1
   case measure => omega
   case rel => exact ⟨(j : Int) + 1, _, v2, by first | rfl | rw [W1.out], HO2, ⟨by have := HA.out; omega, by have := PI.out; omega, by have := HA.out; omega⟩, ⟨by have h := HF.out.1; rw [show ((j : Int)).toNat = j by omega, E8.out] at h; rw [flT_len, show ((j : Int) + 1).toNat = j + 1 by omega]; omega, by rw [← HF.out.2, show ((j : Int) + 1).toNat = j + 1 by omega, show ((j : Int)).toNat = j by omega, E9.out]⟩, HB2, BO2, BP2⟩
  ·have cb : decide (i < (ks.length : Int)) = false := decide_eq_false c2
   have hi : i.toNat = ks.length := by have := HA.out; omega
   have e := HF.out.2
   rw [hi, List.drop_length, flL_nil] at e
   have E := aK e
   clear c2 hi e
   go_wp2
   go_end0
   exact ⟨_, rfl, BO.out, BP.out, by rw [← E.out]; exact HO.out, HB.out⟩

theorem flat_some (w0 : World) (go gp : Nat) (hgo : w0.heap.size ≤ go) (hgp : w0.heap.size ≤ gp) (hne : gp ≠ go) : ∀ (N : Nat) (x : S42) (up : Int) (A : Option Addr) (c : Nat) (l : List S33) (v : Value) (w : World), SizeOf.sizeOf x.f2 ≤ N → x.f2.length ≤ c → l.length + szT x ≤ 200000 → Kd.R k33 33 w w0.heap.size (fun _ => True) v l → Below w0.heap.size w0 w → w.heap[go]? = some (.cells #[v] 25 (0, 0)) → w.heap[gp]? = some (.cells #[.func (.func 25) #[] #[.pointer (some ⟨go, 0, none⟩), .pointer (some ⟨gp, 0, none⟩)]] 68 (0, 0)) → Kd.C k42 w0 A x.f2.length x.f2 →
  Calls Try.prog 25 #[.agg #[.int .i64 x.f0, .int .i64 x.f1, .slice A x.f2.length c], .int .i64 up, .pointer (some ⟨go, 0, none⟩), .pointer (some ⟨gp, 0, none⟩)] w fun e w' => ∃ v2, e = .returned (.tuple #[]) ∧ w'.heap[go]? = some (.cells #[v2] 25 (0, 0)) ∧ w'.heap[gp]? = some (.cells #[.func (.func 25) #[] #[.pointer (some ⟨go, 0, none⟩), .pointer (some ⟨gp, 0, none⟩)]] 68 (0, 0)) ∧ Kd.R k33 33 w' w0.heap.size (fun _ => True) v2 (flT x up l) ∧ Below w0.heap.size w0 w' := by
 intro N
 induction N with
 | zero =>
  intro x up A c l v w hN
  cases h : x.f2 with
  | nil => rw [h] at hN; simp at hN
  | cons y ys => rw [h] at hN; simp at hN
 | succ N ih =>
  intro x up A c l v w hN hc hl hO hB hbo hbp hC
  obtain ⟨A0, c0, rfl⟩ := Kd.R_slice hO
  rw [flT_eq]
  refine node_some w0 go gp hgo hgp hne x.f0 x.f1 up x.f2 A c l A0 c0 w hC hc (by rw [← szT_eq]; exact hl) hO hB hbo hbp fun j A2 c2 acc v2 w2 hj hc2 hacc hO2 hB2 hbo2 hbp2 hC2 => ?_
  refine ih (rd_T42 x.f2 (j : Int)) (l.length : Int) A2 c2 acc v2 w2 ?_ hc2 hacc hO2 hB2 hbo2 hbp2 hC2
  have h1 := List.sizeOf_lt_of_mem (rd_mem x.f2 (j : Int) (by omega) (by omega))
  have h2 : ∀ y : S42, SizeOf.sizeOf y.f2 < SizeOf.sizeOf y := fun y => by cases y; simp; omega
  have h3 := h2 (rd_T42 x.f2 (j : Int))
  omega
end Nodes42

theorem Nodes42.store_func (P : Program) (w : World) (a : Addr) (m : Mode) (fn : Fn) (first captured : Array Value) : (store a (.func fn first captured) m).run P w = stored P w a (.func fn first captured) m := run_store P w a _ m rfl
attribute [local go_sem] Nodes42.store_func
def impl_comb_goodNodes.f (k : Nat) (a0_0 : Int) (a0_1 : Int) (l0_2 : List (S42)) : Option ((List (S33)) × Bool) := (impl_comb_isGood.f k a0_0 a0_1 l0_2).bind fun b => (if b = true then (if Nodes42.szT ⟨a0_0, a0_1, l0_2⟩ ≤ 200000 then (some (Nodes42.flT ⟨a0_0, a0_1, l0_2⟩ (-1) [], true)) else (none)) else (some (([] : List S33), false)))
set_option maxHeartbeats 4000000 in
set_option maxRecDepth 100000 in
theorem impl_comb_goodNodes.calls (k : Nat) (a0_0 : Int) (a0_1 : Int) (A0_2 : Option Addr) (c0_2 : Nat) (l0_2 : List (S42)) (r1 : List (S33)) (r2 : Bool) (w : World) (hr0_2 : Kd.C k42 w A0_2 l0_2.length l0_2) (hc0_2 : l0_2.length ≤ c0_2) (h : impl_comb_goodNodes.f k a0_0 a0_1 l0_2 = some (r1, r2)) :
  Calls Try.prog 12 #[.agg #[.int .i64 a0_0, .int .i64 a0_1, .slice A0_2 l0_2.length c0_2]] w fun e w' => ∃ v0_ : Value, e = .returned (.tuple #[v0_, .bool r2]) ∧ Kd.R k33 33 w' w.heap.size (fun _ => True) v0_ r1 ∧ Below w.heap.size w w' := by
 have hu58 := Try.underlying42
 have hu25 := Try.underlying25
 have eg := enters_ Try.func25 (by kernel_rfl) rfl
 have hmf : ∀ (fn : Fn) (first cap : Array Value) (w : World), (Instr.makeFunc fn first cap).run Try.prog w = .ok (.func fn first cap) w := fun _ _ _ _ => rfl
 have HR0 := aK hr0_2
 have HC0 := aK hc0_2
 clear hr0_2 hc0_2
 have HB := aK (Below.refl w.heap.size w)
 have H : ((impl_comb_isGood.f k a0_0 a0_1 l0_2).bind fun b => (if b = true then (if Nodes42.szT ⟨a0_0, a0_1, l0_2⟩ ≤ 200000 then (some (Nodes42.flT ⟨a0_0, a0_1, l0_2⟩ (-1) [], true)) else (none)) else (some (([] : List S33), false)))) = some (r1, r2) := h
 clear h
 replace H := Option.bind_eq_some_iff.mp H
 obtain ⟨b, HG0, H⟩ := H
 have HG := aK HG0
 clear HG0
 cases b with
 | true =>
  rw [if_pos rfl] at H
  by_cases hz : Nodes42.szT ⟨a0_0, a0_1, l0_2⟩ ≤ 200000
  case neg => rw [if_neg hz] at H; exact absurd H (by simp)
  rw [if_pos hz] at H
  have HZ := aK hz
  clear hz
  simp only [Option.some.injEq, Prod.mk.injEq] at H
  obtain ⟨rfl, rfl⟩ := H
  go_enter Try.func12, Try.ntmps12
  go_wp2_with (first | ((with_reducible refine gate_dst (N := 1) rfl ?_); refine bE (N := 1) (cs := #[.int .i64 a0_0, .int .i64 a0_1, .slice A0_2 l0_2.length c0_2]) (t := 42) ?_; intro gb hg w5 hbox hb; have n0_ := aK (below_step HB.out hb); have BK := aK hbox; clear HB; have HB := n0_; clear n0_; clear hb hbox hg; have hcz_0 : w5.cell? ⟨gb, 0, none⟩ = some (.int .i64 a0_0) := (blk_cell BK.out 0).trans rfl; have hcz_1 : w5.cell? ⟨gb, 1, none⟩ = some (.int .i64 a0_1) := (blk_cell BK.out 1).trans rfl; have hcz_2 : w5.cell? ⟨gb, 2, none⟩ = some (.slice A0_2 l0_2.length c0_2) := (blk_cell BK.out 2).trans rfl; have hfz_0 := blk_frozen BK.out 0; have hfz_1 := blk_frozen BK.out 1; have hfz_2 := blk_frozen BK.out 2) | ((with_reducible refine gate_callee (f := 23) rfl ?_); refine goesL_ (some 7) rfl rfl Try.func23 (by kernel_rfl) rfl #[.agg #[.int .i64 a0_0, .int .i64 a0_1, .slice A0_2 l0_2.length c0_2]] rfl tA ?_; refine (impl_comb_isGood.calls k a0_0 a0_1 _ _ l0_2 true _ (Kd.C_below HR0.out HB.out) HC0.out HG.out).mono ?_; rintro e w7 ⟨rfl, hb⟩; refine ⟨_, rfl, ?_⟩; have n0_ := aK (below_step HB.out hb); have n1_ := aK (blk_below (g := gb) (o := .cells #[.int .i64 a0_0, .int .i64 a0_1, .slice A0_2 l0_2.length c0_2] 42 (0, 0)) BK.out hb); clear HB BK; have HB := n0_; have BK := n1_; clear n0_ n1_; clear hb; clear hcz_0 hcz_1 hcz_2 hfz_0 hfz_1 hfz_2; have hcza_0 : w7.cell? ⟨gb, 0, none⟩ = some (.int .i64 a0_0) := (blk_cell BK.out 0).trans rfl; have hcza_1 : w7.cell? ⟨gb, 1, none⟩ = some (.int .i64 a0_1) := (blk_cell BK.out 1).trans rfl; have hcza_2 : w7.cell? ⟨gb, 2, none⟩ = some (.slice A0_2 l0_2.length c0_2) := (blk_cell BK.out 2).trans rfl; have hfza_0 := blk_frozen BK.out 0; have hfza_1 := blk_frozen BK.out 1; have hfza_2 := blk_frozen BK.out 2) | ((with_reducible refine gate_dst (N := 9) rfl ?_); refine Kd.R_lit k33 _ 33 ?hg (N := 9) ?hd (xs := ([] : List S33)) (inner := []) (ok := fun _ => True) (okp := fun _ => True) ?hr ?hp (fun _ hk => hk) trivial (Below.refl _ _) (Nat.le_refl _) (by simp) ?_; (case hd => rfl); (case hg => rfl); (case hr => go_simp); (case hp => exact (Reps.none _ _)); intro v1 w8 ho hb hg_ hnew_; clear hg_ hnew_; obtain ⟨A1, c1, rfl⟩ := Kd.R_slice ho; have n0_ := aK (Kd.R_lower ho (below_size HB.out)); have n1_ := aK (below_step HB.out hb); have n2_ := aK (blk_below (g := gb) (o := .cells #[.int .i64 a0_0, .int .i64 a0_1, .slice A0_2 l0_2.length c0_2] 42 (0, 0)) BK.out hb); clear HB BK; have HO := n0_; have HB := n1_; have BK := n2_; clear n0_ n1_ n2_; clear hb ho; clear hcza_0 hcza_1 hcza_2 hfza_0 hfza_1 hfza_2) | ((with_reducible refine gate_dst (N := 4) rfl ?_); refine bE (N := 4) (cs := #[.slice none 0 0]) (t := 25) ?_; intro go hg w9 hbox hb; have n0_ := aK (Kd.R_below HO.out hb); have n1_ := aK (below_step HB.out hb); have n2_ := aK (blk_below (g := gb) (o := .cells #[.int .i64 a0_0, .int .i64 a0_1, .slice A0_2 l0_2.length c0_2] 42 (0, 0)) BK.out hb); have n3_ := aK hbox; have n4_ := aK ((by rw [hg]; exact below_size HB.out : w.heap.size ≤ go)); have n5_ := aK ((by rw [hg]; exact Nat.ne_of_lt (blk_lt BK.out) : gb ≠ go)); clear HB BK HO; have HO := n0_; have HB := n1_; have BK := n2_; have BO := n3_; have GO := n4_; have NGB := n5_; clear n0_ n1_ n2_ n3_ n4_ n5_; clear hb hbox hg; have hczo_0 : w9.cell? ⟨go, 0, none⟩ = some (.slice none 0 0) := (blk_cell BO.out 0).trans rfl; have hfzo_0 := blk_frozen BO.out 0) | ((with_reducible refine gate_dst (N := 5) rfl ?_); refine bE (N := 5) (cs := #[.nilFunc]) (t := 68) ?_; intro gp hg w10 hbox hb; have n0_ := aK (Kd.R_below (Kd.R_mono (Kd.R_far (p := ⟨go, 0, none⟩) (Kd.R_types HO.out BO.out (by decide)) (fun _ hk => hk.2) (.slice A1 0 c1)) (fun _ hk => hk.1)) hb); have n1_ := aK (below_step (below_set HB.out GO.out) hb); have n2_ := aK (blk_below (g := gb) (o := .cells #[.int .i64 a0_0, .int .i64 a0_1, .slice A0_2 l0_2.length c0_2] 42 (0, 0)) (blk_far BK.out NGB.out _) hb); have n3_ := aK (blk_below (g := go) (o := .cells #[.slice A1 0 c1] 25 (0, 0)) (blk_put (cs := #[.slice none 0 0]) BO.out 0 (.slice A1 0 c1) rfl) hb); have n4_ := aK hbox; have n5_ := aK ((by rw [hg]; exact below_size (below_set HB.out GO.out) : w.heap.size ≤ gp)); have n6_ := aK ((by rw [hg]; exact Nat.ne_of_gt (blk_lt (o := .cells #[.slice A1 0 c1] 25 (0, 0)) (blk_put (cs := #[.slice none 0 0]) BO.out 0 (.slice A1 0 c1) rfl)) : gp ≠ go)); have n7_ := aK ((by rw [hg]; exact Nat.ne_of_lt (blk_lt (o := .cells #[.int .i64 a0_0, .int .i64 a0_1, .slice A0_2 l0_2.length c0_2] 42 (0, 0)) (blk_far BK.out NGB.out _)) : gb ≠ gp)); clear HB BK HO BO; have HO := n0_; have HB := n1_; have BK := n2_; have BO := n3_; have BP := n4_; have GP := n5_; have NPO := n6_; have NBP := n7_; clear n0_ n1_ n2_ n3_ n4_ n5_ n6_ n7_; clear hb hbox hg; clear hczo_0 hfzo_0; have hq1_ := NBP.out; have hq2_ := NPO.out; have hq3_ := NGB.out; have hczc_0 : w10.cell? ⟨gb, 0, none⟩ = some (.int .i64 a0_0) := (blk_cell BK.out 0).trans rfl; have hczc_1 : w10.cell? ⟨gb, 1, none⟩ = some (.int .i64 a0_1) := (blk_cell BK.out 1).trans rfl; have hczc_2 : w10.cell? ⟨gb, 2, none⟩ = some (.slice A0_2 l0_2.length c0_2) := (blk_cell BK.out 2).trans rfl; have hfzc_0 := blk_frozen BK.out 0; have hfzc_1 := blk_frozen BK.out 1; have hfzc_2 := blk_frozen BK.out 2; have hczd_0 : w10.cell? ⟨go, 0, none⟩ = some (.slice A1 0 c1) := (blk_cell BO.out 0).trans rfl; have hfzd_0 := blk_frozen BO.out 0; have hcze_0 : w10.cell? ⟨gp, 0, none⟩ = some (.nilFunc) := (blk_cell BP.out 0).trans rfl; have hfze_0 := blk_frozen BP.out 0))
  refine (Nodes42.flat_some w go gp GO.out GP.out NPO.out (SizeOf.sizeOf l0_2) (⟨a0_0, a0_1, l0_2⟩ : S42) (-1) A0_2 c0_2 [] (.slice A1 0 c1) _ (Nat.le_refl _) HC0.out (by have := HZ.out; simpa using this) (Kd.R_mono (Kd.R_far (p := ⟨gp, 0, none⟩) (Kd.R_types HO.out BP.out (by decide)) (fun _ hk => hk.2) (.func (.func 25) #[] #[.pointer (some ⟨go, 0, none⟩), .pointer (some ⟨gp, 0, none⟩)])) (fun _ hk => hk.1)) (below_set HB.out GP.out) (blk_far BO.out NPO.out.symm _) (blk_put (cs := #[.nilFunc]) BP.out 0 (.func (.func 25) #[] #[.pointer (some ⟨go, 0, none⟩), .pointer (some ⟨gp, 0, none⟩)]) rfl) HR0.out).mono ?_
  rintro e w' ⟨v2, rfl, bo2, bp2, ho2, hb2⟩
  obtain ⟨A9, c9, hv9⟩ := Kd.R_slice ho2
  obtain ⟨n9, hn9⟩ : ∃ n9, n9 = (Nodes42.flT (⟨a0_0, a0_1, l0_2⟩ : S42) (-1) []).length := ⟨_, rfl⟩
  rw [← hn9] at hv9
  subst hv9
  clear hn9
  have hq_ : w'.cell? ⟨go, 0, none⟩ = some (.slice A9 n9 c9) := (blk_cell bo2 0).trans rfl
  have hf_ := blk_frozen bo2 0
  have HO2 := aK ho2
  have HB2 := aK hb2
  clear ho2 hb2 bo2 bp2
  go_wp2
  go_ret2
  exact ⟨_, rfl, HO2.out, HB2.out⟩
 | false =>
  rw [if_neg (by decide)] at H
  simp only [Option.some.injEq, Prod.mk.injEq] at H
  obtain ⟨rfl, rfl⟩ := H
  go_enter Try.func12, Try.ntmps12
  go_wp2_with (first | ((with_reducible refine gate_dst (N := 1) rfl ?_); refine bE (N := 1) (cs := #[.int .i64 a0_0, .int .i64 a0_1, .slice A0_2 l0_2.length c0_2]) (t := 42) ?_; intro gb hg w5 hbox hb; have n0_ := aK (below_step HB.out hb); have BK := aK hbox; clear HB; have HB := n0_; clear n0_; clear hb hbox hg; have hcz_0 : w5.cell? ⟨gb, 0, none⟩ = some (.int .i64 a0_0) := (blk_cell BK.out 0).trans rfl; have hcz_1 : w5.cell? ⟨gb, 1, none⟩ = some (.int .i64 a0_1) := (blk_cell BK.out 1).trans rfl; have hcz_2 : w5.cell? ⟨gb, 2, none⟩ = some (.slice A0_2 l0_2.length c0_2) := (blk_cell BK.out 2).trans rfl; have hfz_0 := blk_frozen BK.out 0; have hfz_1 := blk_frozen BK.out 1; have hfz_2 := blk_frozen BK.out 2) | ((with_reducible refine gate_callee (f := 23) rfl ?_); refine goesL_ (some 7) rfl rfl Try.func23 (by kernel_rfl) rfl #[.agg #[.int .i64 a0_0, .int .i64 a0_1, .slice A0_2 l0_2.length c0_2]] rfl tA ?_; refine (impl_comb_isGood.calls k a0_0 a0_1 _ _ l0_2 false _ (Kd.C_below HR0.out HB.out) HC0.out HG.out).mono ?_; rintro e w7 ⟨rfl, hb⟩; refine ⟨_, rfl, ?_⟩; have n0_ := aK (below_step HB.out hb); have n1_ := aK (blk_below (g := gb) (o := .cells #[.int .i64 a0_0, .int .i64 a0_1, .slice A0_2 l0_2.length c0_2] 42 (0, 0)) BK.out hb); clear HB BK; have HB := n0_; have BK := n1_; clear n0_ n1_; clear hb; clear hcz_0 hcz_1 hcz_2 hfz_0 hfz_1 hfz_2; have hcza_0 : w7.cell? ⟨gb, 0, none⟩ = some (.int .i64 a0_0) := (blk_cell BK.out 0).trans rfl; have hcza_1 : w7.cell? ⟨gb, 1, none⟩ = some (.int .i64 a0_1) := (blk_cell BK.out 1).trans rfl; have hcza_2 : w7.cell? ⟨gb, 2, none⟩ = some (.slice A0_2 l0_2.length c0_2) := (blk_cell BK.out 2).trans rfl; have hfza_0 := blk_frozen BK.out 0; have hfza_1 := blk_frozen BK.out 1; have hfza_2 := blk_frozen BK.out 2))
  go_ret2
  exact ⟨_, rfl, Kd.R_nil _ _ _ _ _, HB.out⟩

def impl_CombOfTerm.f (k : Nat) (l0 : List (S70)) : Option ((List (S33)) × Bool) := (impl_termOf.f k l0).bind fun bt101 => (if bt101.2.2.2 = true then ((impl_combOfTerm.f k bt101.1 bt101.2.1 bt101.2.2.1 0).bind fun bt108 => (if bt108.2.2.2 = true then ((impl_comb_goodNodes.f k bt108.1 bt108.2.1 bt108.2.2.1).bind fun bt115 => (some (bt115.1, bt115.2))) else (some (([] : List (S33)), false)))) else (some (([] : List (S33)), false)))
set_option maxHeartbeats 8000000 in
set_option maxRecDepth 100000 in
theorem impl_CombOfTerm.calls (k : Nat) (A0 : Option Addr) (c0 : Nat) (l0 : List (S70)) (r1 : List (S33)) (r2 : Bool) (w : World) (hr0 : Kd.C k70 w A0 l0.length l0) (hc0 : l0.length ≤ c0) (h : impl_CombOfTerm.f k l0 = some (r1, r2)) :
  Calls Try.prog 5 #[.slice A0 l0.length c0] w fun e w' => ∃ v0_ : Value, e = .returned (.tuple #[v0_, .bool r2]) ∧ Kd.R k33 33 w' w.heap.size (fun _ => True) v0_ r1 ∧ Below w.heap.size w w' := by
 have hu37 := Try.underlying37
 have hu42 := Try.underlying42
 have HR0 := aK hr0
 have HC0 := aK hc0
 clear hr0 hc0
 have HB := aK (Below.refl w.heap.size w)
 have H : ((impl_termOf.f k l0).bind fun bt101 => (if bt101.2.2.2 = true then ((impl_combOfTerm.f k bt101.1 bt101.2.1 bt101.2.2.1 0).bind fun bt108 => (if bt108.2.2.2 = true then ((impl_comb_goodNodes.f k bt108.1 bt108.2.1 bt108.2.2.1).bind fun bt115 => (some (bt115.1, bt115.2))) else (some (([] : List (S33)), false)))) else (some (([] : List (S33)), false)))) = some (r1, r2) := h
 clear h
 replace H := Option.bind_eq_some_iff.mp H
 obtain ⟨⟨t101, t102, t103, t106⟩, A20, H⟩ := H
 try dsimp only at H
 have A2 := aK A20
 clear A20
 by_cases c3 : t106 = true
 ·subst c3
  rw [if_pos rfl] at H
  replace H := Option.bind_eq_some_iff.mp H
  obtain ⟨⟨t108, t109, t110, t113⟩, A40, H⟩ := H
  try dsimp only at H
  have A4 := aK A40
  clear A40
  by_cases c5 : t113 = true
  ·subst c5
   rw [if_pos rfl] at H
   replace H := Option.bind_eq_some_iff.mp H
   obtain ⟨⟨t115, t118⟩, A60, H⟩ := H
   try dsimp only at H
   have A6 := aK A60
   clear A60
   simp only [Option.some.injEq, Prod.mk.injEq] at H
   obtain ⟨rfl, rfl⟩ := H
   go_enter Try.func5, Try.ntmps5
   go_wp2_with (first | ((with_reducible refine gate_callee (f := 10) rfl ?_); refine goesL_ (some 9) rfl rfl Try.func10 (by kernel_rfl) rfl #[.slice A0 l0.length c0] rfl tA ?_; (with_reducible refine (impl_termOf.calls k _ _ l0 t101 t102 t103 true _ ?side1 ?side2 A2.out).mono ?_); (case side1 => exact sC HR0.out); (case side2 => exact HC0.out); rintro e w7 ⟨v104, rfl, ho0, hb⟩; refine ⟨_, rfl, ?_⟩; have HO105 := aK (Kd.R_lower ho0 (below_size HB.out)); replace HB := qs HB hb; (try clear hb); (try clear ho0)) | ((with_reducible refine gate_dst (N := 4) rfl ?_); refine bE (N := 4) (cs := #[.int .i64 0, .int .i64 0, .slice none 0 0]) (t := 37) ?_; intro gb107 hg w8 hbox hb; have n0_ := aK (Kd.R_below (Kd.R_elderB HO105.out gb107 (Nat.le_of_eq hg.symm)) hb); have GW107 := qw HB hg; have GE107 := qw HB hg; have BK107 := aK hbox; clear HO105; have HO105 := n0_; clear n0_; replace HB := qs HB hb; clear hb hbox hg; obtain ⟨hcz9_0, hcz9_1, hcz9_2, hfz9_0, hfz9_1, hfz9_2⟩ := cA3 BK107; obtain ⟨Ao10, co10, eo10⟩ := Kd.R_slice HO105.out; subst eo10) | ((with_reducible refine gate_callee (f := 11) rfl ?_); refine goesL_ (some 16) rfl rfl Try.func11 (by kernel_rfl) rfl #[.agg #[.int .i64 t101, .int .i64 t102, .slice Ao10 t103.length co10], .int .i64 0] rfl tA ?_; (with_reducible refine (impl_combOfTerm.calls k t101 t102 _ _ t103 0 t108 t109 t110 true _ ?side1 ?side2 A4.out).mono ?_); (case side1 => refine (Kd.R_reads' (e := 37) (base := w.heap.size) (ok := fun k_ => (True ∧ k_ ≠ gb107)) (n := t103.length) (c := co10) ?_).2.2; exact (by (with_reducible repeat (first | apply Kd.R_alloc | apply Kd.R_drewN | apply Kd.R_drew)); exact (Kd.R_mono (Kd.R_far (p := ⟨gb107, 2, none⟩) (Kd.R_far (p := ⟨gb107, 1, none⟩) (Kd.R_far (p := ⟨gb107, 0, none⟩) (Kd.R_mono HO105.out (fun k_ hk => (⟨hk, hk.2⟩ : _ ∧ k_ ≠ gb107))) (fun _ hk => hk.2) (.int .i64 t101)) (fun _ hk => hk.2) (.int .i64 t102)) (fun _ hk => hk.2) (.slice Ao10 t103.length co10)) (fun _ h_ => h_.1)))); (case side2 => exact (Kd.R_reads' HO105.out).2.1); rintro e w11 ⟨v111, rfl, ho0, hb⟩; refine ⟨_, rfl, ?_⟩; have n0_ := aK (Kd.R_below (by (with_reducible repeat (first | apply Kd.R_alloc | apply Kd.R_drewN | apply Kd.R_drew)); exact (Kd.R_mono (Kd.R_far (p := ⟨gb107, 2, none⟩) (Kd.R_far (p := ⟨gb107, 1, none⟩) (Kd.R_far (p := ⟨gb107, 0, none⟩) (Kd.R_mono HO105.out (fun k_ hk => (⟨hk, hk.2⟩ : _ ∧ k_ ≠ gb107))) (fun _ hk => hk.2) (.int .i64 t101)) (fun _ hk => hk.2) (.int .i64 t102)) (fun _ hk => hk.2) (.slice Ao10 t103.length co10)) (fun _ h_ => h_.1))) hb); have n1_ := aK (Kd.V_lower (Kd.V_mono (ok' := fun k_ => some k_ ≠ (.slice Ao10 t103.length co10 : Value).ownBlock ∧ k_ ≠ gb107) ho0 (fun k_ hk_ => ⟨(Kd.fresh' (Kd.R_lt (by (with_reducible repeat (first | apply Kd.R_alloc | apply Kd.R_drewN | apply Kd.R_drew)); exact (Kd.R_mono (Kd.R_far (p := ⟨gb107, 2, none⟩) (Kd.R_far (p := ⟨gb107, 1, none⟩) (Kd.R_far (p := ⟨gb107, 0, none⟩) (Kd.R_mono HO105.out (fun k_ hk => (⟨hk, hk.2⟩ : _ ∧ k_ ≠ gb107))) (fun _ hk => hk.2) (.int .i64 t101)) (fun _ hk => hk.2) (.int .i64 t102)) (fun _ hk => hk.2) (.slice Ao10 t103.length co10)) (fun _ h_ => h_.1)))) k_ hk_), (Kd.freshB (g := gb107) (o := .cells #[.int .i64 t101, .int .i64 t102, .slice Ao10 t103.length co10] 37 (0, 0)) (p3 BK107) k_ hk_)⟩)) (below_size (pH HB))); have n2_ := aK (blk_below (g := gb107) (o := .cells #[.int .i64 t101, .int .i64 t102, .slice Ao10 t103.length co10] 37 (0, 0)) (p3 BK107) hb); have n3_ := aK (below_step (pH HB) hb); clear HO105; clear BK107; clear HB; have HO105 := n0_; have HO112 := n1_; have BK107 := n2_; have HB := n3_; clear n0_ n1_ n2_ n3_; (try clear hb); (try clear ho0)) | ((with_reducible refine gate_dst (N := 6) rfl ?_); refine bE (N := 6) (cs := #[.int .i64 0, .int .i64 0, .slice none 0 0]) (t := 42) ?_; intro gb114 hg w12 hbox hb; have n0_ := aK (Kd.R_below HO105.out hb); have GW114 := qw HB hg; have GE114 := qw HB hg; have NB107_114 := ql BK107 hg; have NB114_107 := qg BK107 hg; replace HO112 := qv HO112 hg hb; replace BK107 := qb BK107 hb; have BK114 := aK hbox; clear HO105; have HO105 := n0_; clear n0_; replace HB := qs HB hb; clear hb hbox hg; have hnb13 := NB114_107.out; have hnc13 := NB107_114.out; obtain ⟨hcz14_0, hcz14_1, hcz14_2, hfz14_0, hfz14_1, hfz14_2⟩ := cA3 BK114; obtain ⟨Ao15, co15, eo15⟩ := Kd.V_slice HO112.out; subst eo15) | ((with_reducible refine gate_callee (f := 12) rfl ?_); refine goesL_ (some 22) rfl rfl Try.func12 (by kernel_rfl) rfl #[.agg #[.int .i64 t108, .int .i64 t109, .slice Ao15 t110.length co15]] rfl tA ?_; (with_reducible refine (impl_comb_goodNodes.calls k t108 t109 _ _ t110 t115 t118 _ ?side1 ?side2 A6.out).mono ?_); (case side1 => refine (Kd.V_reads' (e := 42) (base := w.heap.size) (ok := fun k_ => ((some k_ ≠ (.slice Ao10 t103.length co10 : Value).ownBlock ∧ k_ ≠ gb107) ∧ k_ ≠ gb114)) (n := t110.length) (c := co15) ?_).2.2; exact (by (with_reducible repeat (first | apply Kd.V_alloc | apply Kd.V_drewN | apply Kd.V_drew)); exact (Kd.V_mono (vF3 gb114 (Kd.V_mono HO112.out (fun k_ hk => (⟨hk, hk.2⟩ : _ ∧ k_ ≠ gb114))) (fun _ hk => hk.2)) (fun _ h_ => h_.1)))); (case side2 => exact (Kd.V_reads' HO112.out).2.1); rintro e w16 ⟨v116, rfl, ho0, hb⟩; refine ⟨_, rfl, ?_⟩; have n0_ := aK (Kd.R_below (by (with_reducible repeat (first | apply Kd.R_alloc | apply Kd.R_drewN | apply Kd.R_drew)); exact (Kd.R_mono (Kd.R_far (p := ⟨gb114, 2, none⟩) (Kd.R_far (p := ⟨gb114, 1, none⟩) (Kd.R_far (p := ⟨gb114, 0, none⟩) (Kd.R_types HO105.out BK114.out (by decide)) (fun _ hk => hk.2) (.int .i64 t108)) (fun _ hk => hk.2) (.int .i64 t109)) (fun _ hk => hk.2) (.slice Ao15 t110.length co15)) (fun _ h_ => h_.1))) hb); have n1_ := aK (Kd.V_elder' (by (with_reducible repeat (first | apply Kd.V_alloc | apply Kd.V_drewN | apply Kd.V_drew)); exact (Kd.V_mono (vF3 gb114 (Kd.V_mono HO112.out (fun k_ hk => (⟨hk, hk.2⟩ : _ ∧ k_ ≠ gb114))) (fun _ hk => hk.2)) (fun _ h_ => h_.1))) (Kd.R_base ho0) hb); have n2_ := aK (Kd.R_lower ho0 (below_size (pH HB))); have n3_ := aK (blk_below (g := gb107) (o := .cells #[.int .i64 t101, .int .i64 t102, .slice Ao10 t103.length co10] 37 (0, 0)) (by (repeat first | with_reducible apply zN | with_reducible apply zD | with_reducible apply zA | refine blk_far ?_ NB107_114.out _); exact BK107.out) hb); have n4_ := aK (blk_below (g := gb114) (o := .cells #[.int .i64 t108, .int .i64 t109, .slice Ao15 t110.length co15] 42 (0, 0)) (p3 BK114) hb); have n5_ := aK (below_step (pH HB) hb); clear HO105; clear HO112; clear BK107; clear BK114; clear HB; have HO105 := n0_; have HO112 := n1_; have HO117 := n2_; have BK107 := n3_; have BK114 := n4_; have HB := n5_; clear n0_ n1_ n2_ n3_ n4_ n5_; (try clear hb); (try clear ho0)))
   go_ret2
   exact ⟨_, eW, by (with_reducible repeat (first | apply Kd.R_alloc | apply Kd.R_drewN | apply Kd.R_drew)); exact HO117.out, pH HB⟩
  ·replace c5 := Bool.eq_false_iff.mpr c5
   subst c5
   rw [if_neg (show ¬ (false = true) by decide)] at H
   simp only [Option.some.injEq, Prod.mk.injEq] at H
   obtain ⟨rfl, rfl⟩ := H
   go_enter Try.func5, Try.ntmps5
   go_wp2_with (first | ((with_reducible refine gate_callee (f := 10) rfl ?_); refine goesL_ (some 9) rfl rfl Try.func10 (by kernel_rfl) rfl #[.slice A0 l0.length c0] rfl tA ?_; (with_reducible refine (impl_termOf.calls k _ _ l0 t101 t102 t103 true _ ?side1 ?side2 A2.out).mono ?_); (case side1 => exact sC HR0.out); (case side2 => exact HC0.out); rintro e w17 ⟨v104, rfl, ho0, hb⟩; refine ⟨_, rfl, ?_⟩; have HO105 := aK (Kd.R_lower ho0 (below_size HB.out)); replace HB := qs HB hb; (try clear hb); (try clear ho0)) | ((with_reducible refine gate_dst (N := 4) rfl ?_); refine bE (N := 4) (cs := #[.int .i64 0, .int .i64 0, .slice none 0 0]) (t := 37) ?_; intro gb107 hg w18 hbox hb; have n0_ := aK (Kd.R_below (Kd.R_elderB HO105.out gb107 (Nat.le_of_eq hg.symm)) hb); have GW107 := qw HB hg; have GE107 := qw HB hg; have BK107 := aK hbox; clear HO105; have HO105 := n0_; clear n0_; replace HB := qs HB hb; clear hb hbox hg; obtain ⟨hcz19_0, hcz19_1, hcz19_2, hfz19_0, hfz19_1, hfz19_2⟩ := cA3 BK107; obtain ⟨Ao20, co20, eo20⟩ := Kd.R_slice HO105.out; subst eo20) | ((with_reducible refine gate_callee (f := 11) rfl ?_); refine goesL_ (some 16) rfl rfl Try.func11 (by kernel_rfl) rfl #[.agg #[.int .i64 t101, .int .i64 t102, .slice Ao20 t103.length co20], .int .i64 0] rfl tA ?_; (with_reducible refine (impl_combOfTerm.calls k t101 t102 _ _ t103 0 t108 t109 t110 false _ ?side1 ?side2 A4.out).mono ?_); (case side1 => refine (Kd.R_reads' (e := 37) (base := w.heap.size) (ok := fun k_ => (True ∧ k_ ≠ gb107)) (n := t103.length) (c := co20) ?_).2.2; exact (by (with_reducible repeat (first | apply Kd.R_alloc | apply Kd.R_drewN | apply Kd.R_drew)); exact (Kd.R_mono (Kd.R_far (p := ⟨gb107, 2, none⟩) (Kd.R_far (p := ⟨gb107, 1, none⟩) (Kd.R_far (p := ⟨gb107, 0, none⟩) (Kd.R_mono HO105.out (fun k_ hk => (⟨hk, hk.2⟩ : _ ∧ k_ ≠ gb107))) (fun _ hk => hk.2) (.int .i64 t101)) (fun _ hk => hk.2) (.int .i64 t102)) (fun _ hk => hk.2) (.slice Ao20 t103.length co20)) (fun _ h_ => h_.1)))); (case side2 => exact (Kd.R_reads' HO105.out).2.1); rintro e w21 ⟨v111, rfl, ho0, hb⟩; refine ⟨_, rfl, ?_⟩; have n0_ := aK (Kd.R_below (by (with_reducible repeat (first | apply Kd.R_alloc | apply Kd.R_drewN | apply Kd.R_drew)); exact (Kd.R_mono (Kd.R_far (p := ⟨gb107, 2, none⟩) (Kd.R_far (p := ⟨gb107, 1, none⟩) (Kd.R_far (p := ⟨gb107, 0, none⟩) (Kd.R_mono HO105.out (fun k_ hk => (⟨hk, hk.2⟩ : _ ∧ k_ ≠ gb107))) (fun _ hk => hk.2) (.int .i64 t101)) (fun _ hk => hk.2) (.int .i64 t102)) (fun _ hk => hk.2) (.slice Ao20 t103.length co20)) (fun _ h_ => h_.1))) hb); have n1_ := aK (Kd.V_lower (Kd.V_mono (ok' := fun k_ => some k_ ≠ (.slice Ao20 t103.length co20 : Value).ownBlock ∧ k_ ≠ gb107) ho0 (fun k_ hk_ => ⟨(Kd.fresh' (Kd.R_lt (by (with_reducible repeat (first | apply Kd.R_alloc | apply Kd.R_drewN | apply Kd.R_drew)); exact (Kd.R_mono (Kd.R_far (p := ⟨gb107, 2, none⟩) (Kd.R_far (p := ⟨gb107, 1, none⟩) (Kd.R_far (p := ⟨gb107, 0, none⟩) (Kd.R_mono HO105.out (fun k_ hk => (⟨hk, hk.2⟩ : _ ∧ k_ ≠ gb107))) (fun _ hk => hk.2) (.int .i64 t101)) (fun _ hk => hk.2) (.int .i64 t102)) (fun _ hk => hk.2) (.slice Ao20 t103.length co20)) (fun _ h_ => h_.1)))) k_ hk_), (Kd.freshB (g := gb107) (o := .cells #[.int .i64 t101, .int .i64 t102, .slice Ao20 t103.length co20] 37 (0, 0)) (p3 BK107) k_ hk_)⟩)) (below_size (pH HB))); have n2_ := aK (blk_below (g := gb107) (o := .cells #[.int .i64 t101, .int .i64 t102, .slice Ao20 t103.length co20] 37 (0, 0)) (p3 BK107) hb); have n3_ := aK (below_step (pH HB) hb); clear HO105; clear BK107; clear HB; have HO105 := n0_; have HO112 := n1_; have BK107 := n2_; have HB := n3_; clear n0_ n1_ n2_ n3_; (try clear hb); (try clear ho0)) | ((with_reducible refine gate_dst (N := 6) rfl ?_); refine bE (N := 6) (cs := #[.int .i64 0, .int .i64 0, .slice none 0 0]) (t := 42) ?_; intro gb114 hg w22 hbox hb; have n0_ := aK (Kd.R_below HO105.out hb); have GW114 := qw HB hg; have GE114 := qw HB hg; have NB107_114 := ql BK107 hg; have NB114_107 := qg BK107 hg; replace HO112 := qv HO112 hg hb; replace BK107 := qb BK107 hb; have BK114 := aK hbox; clear HO105; have HO105 := n0_; clear n0_; replace HB := qs HB hb; clear hb hbox hg; have hnb23 := NB114_107.out; have hnc23 := NB107_114.out; obtain ⟨hcz24_0, hcz24_1, hcz24_2, hfz24_0, hfz24_1, hfz24_2⟩ := cA3 BK114; obtain ⟨Ao25, co25, eo25⟩ := Kd.V_slice HO112.out; subst eo25))
   go_ret2
   exact ⟨_, eW, by first | exact Kd.R_nil _ _ _ _ _ | exact Kd.N_nil _ _ _ _ _ | exact Kd.V_nil _ _ _ _ _ | exact Kd.Q_nil _ _ _ _ _ | exact Kd.S_nil _ _ _ _ _, pH HB⟩
 ·replace c3 := Bool.eq_false_iff.mpr c3
  subst c3
  rw [if_neg (show ¬ (false = true) by decide)] at H
  simp only [Option.some.injEq, Prod.mk.injEq] at H
  obtain ⟨rfl, rfl⟩ := H
  go_enter Try.func5, Try.ntmps5
  go_wp2_with (first | ((with_reducible refine gate_callee (f := 10) rfl ?_); refine goesL_ (some 9) rfl rfl Try.func10 (by kernel_rfl) rfl #[.slice A0 l0.length c0] rfl tA ?_; (with_reducible refine (impl_termOf.calls k _ _ l0 t101 t102 t103 false _ ?side1 ?side2 A2.out).mono ?_); (case side1 => exact sC HR0.out); (case side2 => exact HC0.out); rintro e w26 ⟨v104, rfl, ho0, hb⟩; refine ⟨_, rfl, ?_⟩; have HO105 := aK (Kd.R_lower ho0 (below_size HB.out)); replace HB := qs HB hb; (try clear hb); (try clear ho0)) | ((with_reducible refine gate_dst (N := 4) rfl ?_); refine bE (N := 4) (cs := #[.int .i64 0, .int .i64 0, .slice none 0 0]) (t := 37) ?_; intro gb107 hg w27 hbox hb; have n0_ := aK (Kd.R_below (Kd.R_elderB HO105.out gb107 (Nat.le_of_eq hg.symm)) hb); have GW107 := qw HB hg; have GE107 := qw HB hg; have BK107 := aK hbox; clear HO105; have HO105 := n0_; clear n0_; replace HB := qs HB hb; clear hb hbox hg; obtain ⟨hcz28_0, hcz28_1, hcz28_2, hfz28_0, hfz28_1, hfz28_2⟩ := cA3 BK107; obtain ⟨Ao29, co29, eo29⟩ := Kd.R_slice HO105.out; subst eo29))
  go_ret2
  exact ⟨_, eW, by first | exact Kd.R_nil _ _ _ _ _ | exact Kd.N_nil _ _ _ _ _ | exact Kd.V_nil _ _ _ _ _ | exact Kd.Q_nil _ _ _ _ _ | exact Kd.S_nil _ _ _ _ _, pH HB⟩


def spec_l1In.f (a0 : Int) (a1 : Int) (a2 : Int) : Option (Bool) := if a0 ≥ a1 then (some (decide (a0 ≤ a2))) else (some false)
set_option maxHeartbeats 8000000 in
set_option maxRecDepth 100000 in
theorem spec_l1In.calls (a0 : Int) (a1 : Int) (a2 : Int) (r : Bool) (w : World) (h : spec_l1In.f a0 a1 a2 = some r) :
  Calls Try.prog 26 #[.int .i64 a0, .int .i64 a1, .int .i64 a2] w fun e w' => e = .returned (.bool r) ∧ Drawn0 w w' := by
 have H : (if a0 ≥ a1 then (some (decide (a0 ≤ a2))) else (some false)) = some r := h
 clear h
 by_cases c4 : a0 ≥ a1
 ·rw [if_pos c4] at H
  have c4b0 : decide (a1 ≤ a0) = true := decide_eq_true c4
  clear c4
  obtain rfl := Option.some.inj H
  go_enter Try.func26, Try.ntmps26
  go_wp2
  go_ret
  exact ⟨by first | rfl | (simp; done) | (simp [*]; done), by repeat (first | exact Drawn0.refl _ | apply Drawn0.step)⟩
 ·rw [if_neg c4] at H
  have c4b0 : decide (a1 ≤ a0) = false := decide_eq_false c4
  clear c4
  obtain rfl := Option.some.inj H
  go_enter Try.func26, Try.ntmps26
  go_wp2
  go_ret
  exact ⟨by first | rfl | (simp; done) | (simp [*]; done), by repeat (first | exact Drawn0.refl _ | apply Drawn0.step)⟩


def spec_lcParts.l0 : Nat → List (S70) → Int → List Int → Int → Option (List Int)
 | 0, _, _, _, _ => none
 | k + 1, x0, x1, x5, x6 => if x6 < (x0.length : Int) then (if 0 ≤ x6 then (if ((rd_T70 x0 x6).f2) = x1 then (if x5.length < 17592186044416 then (spec_lcParts.l0 k x0 x1 (x5 ++ [x6]) (wrap64 (x6 + 1))) else (none)) else (spec_lcParts.l0 k x0 x1 x5 (wrap64 (x6 + 1)))) else (none)) else (some x5)
def spec_lcParts.f (k : Nat) (l0 : List (S70)) (a1 : Int) : Option (List Int) := spec_lcParts.l0 k l0 a1 ([] : List Int) (wrap64 (a1 + 1))
set_option maxHeartbeats 8000000 in
set_option maxRecDepth 100000 in
theorem spec_lcParts.calls (k : Nat) (A0 : Option Addr) (c0 : Nat) (l0 : List (S70)) (a1 : Int) (r : List Int) (w : World) (hr0 : Kd.C k70 w A0 l0.length l0) (hc0 : l0.length ≤ c0) (h : spec_lcParts.f k l0 a1 = some r) :
  Calls Try.prog 27 #[.slice A0 l0.length c0, .int .i64 a1] w fun e w' => ∃ v0_ : Value, e = .returned (v0_) ∧ Kd.R (Kd.int .i64) 3 w' w.heap.size (fun _ => True) v0_ r ∧ Below w.heap.size w w' := by
 have HR0 := aK hr0
 have HC0 := aK hc0
 clear hr0 hc0
 have HB := aK (Below.refl w.heap.size w)
 have H : (spec_lcParts.l0 k l0 a1 ([] : List Int) (wrap64 (a1 + 1))) = some r := h
 clear h
 have H' := aK H
 clear H
 go_enter Try.func27, Try.ntmps27
 go_wp2
 go_loopg [5, 6] k (fun kq v5 v6 w' => ∃ (x5_1 : List Int) (x6_1 : Int), v6 = .int .i64 x6_1 ∧ Aside0 (spec_lcParts.l0 kq l0 a1 x5_1 x6_1 = some r) ∧ Aside0 (kq ≤ k) ∧ Aside0 (Kd.R (Kd.int .i64) 3 w' w.heap.size (fun _ => True) v5 x5_1) ∧ Aside0 (Below w.heap.size w w'))
 case atStart => exact ⟨(([] : List Int)), (wrap64 (a1 + 1)), rS, H', ⟨Nat.le_refl _⟩, ⟨by first | exact Kd.R_nil _ _ _ _ _ | exact Kd.N_nil _ _ _ _ _ | exact Kd.V_nil _ _ _ _ _ | exact Kd.Q_nil _ _ _ _ _ | exact Kd.S_nil _ _ _ _ _⟩, ⟨pH HB⟩⟩
 case round =>
  clear H'
  try clear c2; try clear p2
  obtain ⟨x5_1, x6_1, rfl, HA, HK1, HO_5, HB⟩ := hrel
  cases gk with
  | zero => exact absurd HA.out (by simp [spec_lcParts.l0])
  | succ k1 =>
   have H := HA.out
   clear HA
   simp only [spec_lcParts.l0] at H
   by_cases c3 : x6_1 < (l0.length : Int)
   ·rw [if_pos c3] at H
    have c3b0 : decide (x6_1 < (l0.length : Int)) = true := decide_eq_true c3
    clear c3
    by_cases c4 : 0 ≤ x6_1
    ·rw [if_pos c4] at H
     have c4b0 : decide (0 ≤ x6_1) = true := decide_eq_true c4
     clear c4
     by_cases c5 : ((rd_T70 l0 x6_1).f2) = a1
     ·rw [if_pos c5] at H
      have c5b0 : (((rd_T70 l0 x6_1).f2) == a1) = true := beq_iff_eq.mpr c5
      have c5b1 : (((rd_T70 l0 x6_1).f2) != a1) = false := bne_eq_false_iff_eq.mpr c5
      clear c5
      by_cases c6 : x5_1.length < 17592186044416
      ·rw [if_pos c6] at H
       have LMc6 := aK c6
       clear c6
       obtain ⟨y102, hy102⟩ : ∃ y_ : List Int, y_ = (x5_1 ++ [x6_1]) := ⟨_, rfl⟩
       replace H : (spec_lcParts.l0 k1 l0 a1 y102 (wrap64 (x6_1 + 1))) = some r := by first | (rw [hy102]; with_reducible exact H) | (have H2_ := (Option.bind_some _ _).symm.trans H; rw [hy102]; with_reducible exact H2_) | (have H2_ := (Option.bind_some _ _).symm.trans H; with_reducible exact H2_) | with_reducible exact H | (rw [hy102]; exact H) | exact H
       have Ny102 := aK hy102
       clear hy102
       have H' := aK H
       clear H
       have p101 : 0 ≤ (x6_1 : Int) := dA
       have q101 : x6_1 < (l0.length : Int) := dA
       obtain ⟨ad101, e101, hx101_0, hx101_1, hx101_2⟩ := at_T70 HR0.out x6_1 p101 q101
       cases e101
       replace hx101_0 := uC HB hx101_0
       replace hx101_1 := uC HB hx101_1
       replace hx101_2 := uC HB hx101_2
       replace p101 := eq_true p101
       replace q101 := eq_true q101
       go_wp2_with (first | ((with_reducible refine gate_builtin (b := .append) (xs := #[.tmp 22, .tmp 24]) rfl ?_); at_builtin; refine Kd.R_append (Kd.int .i64) (w0 := w) w.heap.size rfl (.tmp 22) (.tmp 24) 29 3 (.int .i64 0) 8 rfl Try.underlying29 info3 rfl (by decide) (by omega) u5 x5_1 x6_1 [.int .i64 x6_1] (fun _ => True) (fun _ => False) rfl rfl ?aP (fun _ hk => hk.elim) ?aF ?aO ?aB ?aS ?aL ?_; (case aP => exact rfl); (case aB => exact HB.out); (case aF => exact (fun _ _ => trivial)); (case aO => exact HO_5.out); (case aS => exact (below_size HB.out)); (case aL => have := LMc6.out; omega); intro v103 w7 ho hb hg hat; rw [← Ny102.out] at ho; have n0_ := aK (hb); have HO104 := aK (ho); clear HB; have HB := n0_; clear n0_; clear HO_5; clear ho hb hg hat))
       go_roundg k1
       case measure => have := HK1.out; omega
       case rel => exact ⟨(y102), (wrap64 (x6_1 + 1)), rS, H', ⟨by have := HK1.out; omega⟩, ⟨by (with_reducible repeat (first | apply Kd.R_alloc | apply Kd.R_drewN | apply Kd.R_drew)); exact HO104.out⟩, ⟨pH HB⟩⟩
      ·rw [if_neg c6] at H
       exact absurd H (by simp)
     ·rw [if_neg c5] at H
      have c5b0 : (((rd_T70 l0 x6_1).f2) == a1) = false := beq_eq_false_iff_ne.mpr c5
      have c5b1 : (((rd_T70 l0 x6_1).f2) != a1) = true := bne_iff_ne.mpr c5
      have H' := aK H
      clear H
      have p101 : 0 ≤ (x6_1 : Int) := dA
      have q101 : x6_1 < (l0.length : Int) := dA
      obtain ⟨ad101, e101, hx101_0, hx101_1, hx101_2⟩ := at_T70 HR0.out x6_1 p101 q101
      cases e101
      replace hx101_0 := uC HB hx101_0
      replace hx101_1 := uC HB hx101_1
      replace hx101_2 := uC HB hx101_2
      replace p101 := eq_true p101
      replace q101 := eq_true q101
      go_wp2
      go_roundg k1
      case measure => have := HK1.out; omega
      case rel => exact ⟨(x5_1), (wrap64 (x6_1 + 1)), rS, H', ⟨by have := HK1.out; omega⟩, ⟨by (with_reducible repeat (first | apply Kd.R_alloc | apply Kd.R_drewN | apply Kd.R_drew)); exact HO_5.out⟩, ⟨pH HB⟩⟩
    ·rw [if_neg c4] at H
     exact absurd H (by simp)
   ·rw [if_neg c3] at H
    have c3b0 : decide (x6_1 < (l0.length : Int)) = false := decide_eq_false c3
    clear c3
    obtain rfl := Option.some.inj H
    go_wp2
    go_ret
    exact ⟨_, eW, by (with_reducible repeat (first | apply Kd.R_alloc | apply Kd.R_drewN | apply Kd.R_drew)); exact HO_5.out, pH HB⟩


mutual
def spec_GoodTerm.l0 : Nat → List (S70) → List (S70) → Int → Int → Option (Bool)
 | 0, _, _, _, _ => none
 | k + 1, x0, x14, x15, x16 => if x16 < x15 then (if 0 ≤ x16 then (if x16 < (x14.length : Int) then (if ((x16 == 0) != (((rd_T70 x14 x16).f2) == (-1))) = true then (spec_GoodTerm.j1 k x0 x16 x14 x15 x16 true ((rd_T70 x14 x16).f0) ((rd_T70 x14 x16).f1) ((rd_T70 x14 x16).f2)) else ((spec_l1In.f ((rd_T70 x14 x16).f2) (-1) (wrap64 (x16 - 1))).bind fun t104 => (spec_GoodTerm.j1 k x0 x16 x14 x15 x16 (!t104) ((rd_T70 x14 x16).f0) ((rd_T70 x14 x16).f1) ((rd_T70 x14 x16).f2)))) else (none)) else (none)) else (some true)
def spec_GoodTerm.j1 : Nat → List (S70) → Int → List (S70) → Int → Int → Bool → Int → Int → Int → Option (Bool)
 | 0, _, _, _, _, _, _, _, _, _ => none
 | k + 1, x0, x3, x14, x15, x16, x34, x104000, x104001, x104002 => if x34 = true then (some false) else (spec_GoodTerm.l1 k x0 x3 (x3 == 0) (wrap64 (x3 - 1)) x14 x15 x16 x104000 x104001 x104002)
def spec_GoodTerm.j3 : Nat → List (S70) → Int → Bool → List (S70) → Int → Int → Int → Int → Int → Option (Bool)
 | 0, _, _, _, _, _, _, _, _, _ => none
 | k + 1, x0, x3, x5, x14, x15, x16, x104000, x104001, x104002 => spec_GoodTerm.l2 k x0 x3 x5 0 x3 x14 x15 x16 x104000 x104001 x104002
def spec_GoodTerm.l2 : Nat → List (S70) → Int → Bool → Int → Int → List (S70) → Int → Int → Int → Int → Int → Option (Bool)
 | 0, _, _, _, _, _, _, _, _, _, _, _ => none
 | k + 1, x0, x3, x5, x7, x8, x14, x15, x16, x104000, x104001, x104002 => if x8 ≥ 0 then (if 0 ≤ x8 then (if x8 < (x0.length : Int) then (spec_GoodTerm.l2 k x0 x3 x5 (wrap64 (x7 + 1)) ((rd_T70 x0 x8).f2) x14 x15 x16 x104000 x104001 x104002) else (none)) else (none)) else (if x104000 = 1 then (spec_GoodTerm.j5 k x0 x3 x5 x7 0 x14 x15 x16 x104000 x104001 x104002) else (if x104000 = 2 then (spec_GoodTerm.j5 k x0 x3 x5 x7 1 x14 x15 x16 x104000 x104001 x104002) else (if x104000 = 3 then (spec_GoodTerm.j5 k x0 x3 x5 x7 2 x14 x15 x16 x104000 x104001 x104002) else (some false))))
def spec_GoodTerm.j5 : Nat → List (S70) → Int → Bool → Int → Int → List (S70) → Int → Int → Int → Int → Int → Option (Bool)
 | 0, _, _, _, _, _, _, _, _, _, _, _ => none
 | k + 1, x0, x3, x5, x7, x9, x14, x15, x16, x104000, x104001, x104002 => if x5 = true then (if x7 > 40 then (some false) else ((spec_lcParts.f k x0 x3).bind fun t107 => (if (t107.length : Int) = x9 then ((spec_l1In.f x104001 0 99).bind fun t110 => (if t110 = true then (if x104000 = 1 then (spec_GoodTerm.l0 k x0 x14 x15 (wrap64 (x16 + 1))) else (if x104001 = 0 then (spec_GoodTerm.l0 k x0 x14 x15 (wrap64 (x16 + 1))) else (some false))) else (some false))) else (some false)))) else (some false)
def spec_GoodTerm.l1 : Nat → List (S70) → Int → Bool → Int → List (S70) → Int → Int → Int → Int → Int → Option (Bool)
 | 0, _, _, _, _, _, _, _, _, _, _ => none
 | k + 1, x0, x3, x5, x6, x14, x15, x16, x104000, x104001, x104002 => if x6 ≥ 0 then (if x5 = true then (spec_GoodTerm.j3 k x0 x3 x5 x14 x15 x16 x104000 x104001 x104002) else (if 0 ≤ x6 then (if x6 < (x0.length : Int) then (spec_GoodTerm.l1 k x0 x3 (x6 == x104002) ((rd_T70 x0 x6).f2) x14 x15 x16 x104000 x104001 x104002) else (none)) else (none))) else (spec_GoodTerm.j3 k x0 x3 x5 x14 x15 x16 x104000 x104001 x104002)
end
def spec_GoodTerm.f (k : Nat) (l0 : List (S70)) : Option (Bool) := (spec_l1In.f (l0.length : Int) 1 150).bind fun t101 => (if t101 = true then (spec_GoodTerm.l0 k l0 l0 (l0.length : Int) 0) else (some false))
set_option maxHeartbeats 8000000 in
set_option maxRecDepth 100000 in
theorem spec_GoodTerm.calls (k : Nat) (A0 : Option Addr) (c0 : Nat) (l0 : List (S70)) (r : Bool) (w : World) (hr0 : Kd.C k70 w A0 l0.length l0) (hc0 : l0.length ≤ c0) (h : spec_GoodTerm.f k l0 = some r) :
  Calls Try.prog 13 #[.slice A0 l0.length c0] w fun e w' => e = .returned (.bool r) ∧ Below w.heap.size w w' := by
 have hu70 := Try.underlying70
 have HR0 := aK hr0
 have HC0 := aK hc0
 clear hr0 hc0
 have HB := aK (Below.refl w.heap.size w)
 have H : ((spec_l1In.f (l0.length : Int) 1 150).bind fun t101 => (if t101 = true then (spec_GoodTerm.l0 k l0 l0 (l0.length : Int) 0) else (some false))) = some r := h
 clear h
 replace H := Option.bind_eq_some_iff.mp H
 obtain ⟨t101, A20, H⟩ := H
 try dsimp only at H
 have A2 := aK A20
 clear A20
 by_cases c3 : t101 = true
 ·subst c3
  rw [if_pos rfl] at H
  have H' := aK H
  clear H
  go_enter Try.func13, Try.ntmps13
  go_wp2_with (first | ((with_reducible refine gate_callee (f := 26) rfl ?_); refine goesL_ (some 12) rfl rfl Try.func26 (by kernel_rfl) rfl #[.int .i64 (l0.length : Int), .int .i64 1, .int .i64 150] rfl tA ?_; (with_reducible refine (spec_l1In.calls (l0.length : Int) 1 150 true _ A2.out).mono ?_); rintro e w' ⟨rfl, ⟨nd, rfl⟩⟩; refine ⟨_, rfl, ?_⟩))
  go_loopg [16] k (fun kq v16 w' => ∃ (x16_1 : Int), v16 = .int .i64 x16_1 ∧ Aside0 (spec_GoodTerm.l0 kq l0 l0 (l0.length : Int) x16_1 = some r) ∧ Aside0 (kq ≤ k) ∧ Aside0 (Below w.heap.size w w'))
  case atStart => exact ⟨(0), rS, H', ⟨Nat.le_refl _⟩, ⟨pH HB⟩⟩
  case round =>
   clear H'
   try clear c1; try clear c2; try clear p2; try clear c3
   obtain ⟨x16_1, rfl, HA, HK1, HB⟩ := hrel
   cases gk with
   | zero => exact absurd HA.out (by simp [spec_GoodTerm.l0])
   | succ k1 =>
    have H := HA.out
    clear HA
    simp only [spec_GoodTerm.l0] at H
    by_cases c4 : x16_1 < (l0.length : Int)
    ·rw [if_pos c4] at H
     have c4b0 : decide (x16_1 < (l0.length : Int)) = true := decide_eq_true c4
     clear c4
     by_cases c5 : 0 ≤ x16_1
     ·rw [if_pos c5] at H
      have c5b0 : decide (0 ≤ x16_1) = true := decide_eq_true c5
      clear c5
      by_cases c6 : x16_1 < (l0.length : Int)
      ·rw [if_pos c6] at H
       have c6b0 : decide (x16_1 < (l0.length : Int)) = true := decide_eq_true c6
       clear c6
       have HC7 := aK H
       clear H
       have p102 : 0 ≤ (x16_1 : Int) := dA
       have q102 : x16_1 < (l0.length : Int) := dA
       obtain ⟨ad102, e102, hx102_0, hx102_1, hx102_2⟩ := at_T70 HR0.out x16_1 p102 q102
       cases e102
       replace hx102_0 := uC HB hx102_0
       replace hx102_1 := uC HB hx102_1
       replace hx102_2 := uC HB hx102_2
       replace p102 := eq_true p102
       replace q102 := eq_true q102
       go_upto_region 6 with (first | ((with_reducible refine gate_dst (N := 4) rfl ?_); (try (refine gate_guard (by rfl) ?_; dsimp only)); refine bE (N := 4) (cs := #[.int .i64 0, .int .i64 0, .int .i64 0]) (t := 70) ?_; intro gb103 hg w8 hbox hb; have GW103 := qw HB hg; have GE103 := qw HB hg; have BK103 := aK hbox; replace HB := qs HB hb; clear hb hbox hg; obtain ⟨hcz9_0, hcz9_1, hcz9_2, hfz9_0, hfz9_1, hfz9_2⟩ := cA3 BK103))
       (try simp only [Act.put, List.setIfInBounds_toArray, List.set_cons_zero, List.set_cons_succ])
       go_cut [34] (fun v34 wc => ∃ (kq : Nat) (x34_6 : Bool), v34 = .bool x34_6 ∧ Aside0 (spec_GoodTerm.j1 kq l0 x16_1 l0 (l0.length : Int) x16_1 x34_6 ((rd_T70 l0 x16_1).f0) ((rd_T70 l0 x16_1).f1) ((rd_T70 l0 x16_1).f2) = some r) ∧ Aside0 (kq ≤ k1) ∧ Aside0 (wc.heap[gb103]? = some (.cells #[.int .i64 ((rd_T70 l0 x16_1).f0), .int .i64 ((rd_T70 l0 x16_1).f1), .int .i64 ((rd_T70 l0 x16_1).f2)] 70 (0, 0))) ∧ Aside0 (Below w.heap.size w wc))
       case first =>
        have H := HC7.out
        clear HC7
        by_cases c10 : ((x16_1 == 0) != (((rd_T70 l0 x16_1).f2) == (-1))) = true
        ·rw [if_pos c10] at H
         have c10b0 : ((x16_1 == 0) != (((rd_T70 l0 x16_1).f2) == (-1))) = true := c10
         (try (have c10b1 : decide ((x16_1 == 0) = (((rd_T70 l0 x16_1).f2) == (-1))) = false := by simpa using c10))
         (try (have c10b2 : ((x16_1 == 0) == (((rd_T70 l0 x16_1).f2) == (-1))) = false := by simpa using c10))
         (try (have c10b3 : ¬ ((x16_1 == 0) = (((rd_T70 l0 x16_1).f2) == (-1))) := by simpa using c10))
         clear c10
         (first | rw [c10b0] | (simp only [i64_w, i32_w]; rw [c10b0]) | skip)
         have H' := aK H
         clear H
         obtain ⟨hcz11_0, hcz11_1, hcz11_2, hfz11_0, hfz11_1, hfz11_2⟩ := cA3 BK103
         go_wp2
         go_meet
         case rel => exact ⟨_, (true), rS, H', ⟨by have := HK1.out; first | omega | exact Nat.le_refl _⟩, ⟨p3 BK103⟩, ⟨pH HB⟩⟩
        ·rw [if_neg c10] at H
         have c10b0 : ((x16_1 == 0) != (((rd_T70 l0 x16_1).f2) == (-1))) = false := by simpa using c10
         (try (have c10b1 : decide ((x16_1 == 0) = (((rd_T70 l0 x16_1).f2) == (-1))) = true := by simpa using c10))
         (try (have c10b2 : ((x16_1 == 0) == (((rd_T70 l0 x16_1).f2) == (-1))) = true := by simpa using c10))
         clear c10
         (first | rw [c10b0] | (simp only [i64_w, i32_w]; rw [c10b0]) | skip)
         replace H := Option.bind_eq_some_iff.mp H
         obtain ⟨t104, A120, H⟩ := H
         try dsimp only at H
         have A12 := aK A120
         clear A120
         have H' := aK H
         clear H
         obtain ⟨hcz13_0, hcz13_1, hcz13_2, hfz13_0, hfz13_1, hfz13_2⟩ := cA3 BK103
         go_wp2_with (first | (go_at_call 26; (with_reducible refine (spec_l1In.calls ((rd_T70 l0 x16_1).f2) (-1) (wrap64 (x16_1 - 1)) t104 _ A12.out).mono ?_); rintro e w' ⟨rfl, ⟨nd, rfl⟩⟩))
         go_meet
         case rel => exact ⟨_, (!t104), rS, H', ⟨by have := HK1.out; first | omega | exact Nat.le_refl _⟩, ⟨p3 BK103⟩, ⟨pH HB⟩⟩
       case rest =>
        clear HC7
        try clear c1; try clear p1; try clear q1; try clear hx1; try clear c2; try clear p2; try clear c3; try clear c4; try clear c4b0; try clear c5; try clear c5b0; try clear c6; try clear c6b0; try clear p6; try clear c10; try clear c10b0; try clear c10b1; try clear c10b2; try clear p10; try clear q10; try clear hx10; try clear c13; try clear hx102_0; try clear hx102_1; try clear hx102_2; try clear p102; try clear p2; try clear q102; try clear hcz11_0 hcz11_1 hcz11_2 hfz11_0 hfz11_1 hfz11_2; try clear hcz13_0 hcz13_1 hcz13_2 hfz13_0 hfz13_1 hfz13_2; try clear hcz9_0 hcz9_1 hcz9_2 hfz9_0 hfz9_1 hfz9_2
        obtain ⟨kq, x34_6, rfl, HA, HJ6, BK103, HB⟩ := hcut
        cases kq with
        | zero => exact absurd HA.out (by simp [spec_GoodTerm.j1])
        | succ kj6 =>
         have H := HA.out
         clear HA
         simp only [spec_GoodTerm.j1] at H
         by_cases c14 : x34_6 = true
         ·subst c14
          rw [if_pos rfl] at H
          obtain rfl := Option.some.inj H
          go_wp2
          go_ret
          exact ⟨eW, pH HB⟩
         ·replace c14 := Bool.eq_false_iff.mpr c14
          subst c14
          rw [if_neg (show ¬ (false = true) by decide)] at H
          have HC15 := aK H
          clear H
          go_upto_block 2 with (fail)
          go_cut [5] (fun v5 wc => ∃ (kq : Nat) (x5_14 : Bool), v5 = .bool x5_14 ∧ Aside0 (spec_GoodTerm.j3 kq l0 x16_1 x5_14 l0 (l0.length : Int) x16_1 ((rd_T70 l0 x16_1).f0) ((rd_T70 l0 x16_1).f1) ((rd_T70 l0 x16_1).f2) = some r) ∧ Aside0 (kq ≤ kj6) ∧ Aside0 (wc.heap[gb103]? = some (.cells #[.int .i64 ((rd_T70 l0 x16_1).f0), .int .i64 ((rd_T70 l0 x16_1).f1), .int .i64 ((rd_T70 l0 x16_1).f2)] 70 (0, 0))) ∧ Aside0 (Below w.heap.size w wc))
          case first =>
           have H := HC15.out
           clear HC15
           have H' := aK H
           clear H
           go_wp2
           go_loopg [5, 6] kj6 (fun kq v5 v6 w' => ∃ (x5_3 : Bool) (x6_3 : Int), v5 = .bool x5_3 ∧ v6 = .int .i64 x6_3 ∧ Aside0 (spec_GoodTerm.l1 kq l0 x16_1 x5_3 x6_3 l0 (l0.length : Int) x16_1 ((rd_T70 l0 x16_1).f0) ((rd_T70 l0 x16_1).f1) ((rd_T70 l0 x16_1).f2) = some r) ∧ Aside0 (kq ≤ kj6) ∧ Aside0 (w'.heap[gb103]? = some (.cells #[.int .i64 ((rd_T70 l0 x16_1).f0), .int .i64 ((rd_T70 l0 x16_1).f1), .int .i64 ((rd_T70 l0 x16_1).f2)] 70 (0, 0))) ∧ Aside0 (Below w.heap.size w w'))
           case atStart => exact ⟨((x16_1 == 0)), (wrap64 (x16_1 - 1)), rS, rS, H', ⟨Nat.le_refl _⟩, ⟨pB BK103⟩, ⟨pH HB⟩⟩
           case round =>
            clear H'
            try clear c1; try clear p1; try clear q1; try clear hx1; try clear c2; try clear p2; try clear c3; try clear c4; try clear c4b0; try clear c5; try clear c5b0; try clear c6; try clear c6b0; try clear p6; try clear c10; try clear c10b0; try clear c10b1; try clear c10b2; try clear p10; try clear q10; try clear hx10; try clear c13; try clear c14; try clear hx102_0; try clear hx102_1; try clear hx102_2; try clear p1; try clear p10; try clear p102; try clear p2; try clear p6; try clear q1; try clear q10; try clear q102; try clear hcz11_0 hcz11_1 hcz11_2 hfz11_0 hfz11_1 hfz11_2; try clear hcz13_0 hcz13_1 hcz13_2 hfz13_0 hfz13_1 hfz13_2; try clear hcz9_0 hcz9_1 hcz9_2 hfz9_0 hfz9_1 hfz9_2
            obtain ⟨x5_3, x6_3, rfl, rfl, HA, HK3, BK103, HB⟩ := hrel
            cases gk with
            | zero => exact absurd HA.out (by simp [spec_GoodTerm.l1])
            | succ k3 =>
             have H := HA.out
             clear HA
             simp only [spec_GoodTerm.l1] at H
             by_cases c16 : x6_3 ≥ 0
             ·rw [if_pos c16] at H
              have c16b0 : decide (0 ≤ x6_3) = true := decide_eq_true c16
              clear c16
              (first | rw [c16b0] | (simp only [i64_w, i32_w]; rw [c16b0]) | skip)
              by_cases c17 : x5_3 = true
              ·subst c17
               rw [if_pos rfl] at H
               have H' := aK H
               clear H
               go_wp2
               go_meet
               case rel => exact ⟨_, (true), rS, H', ⟨by have := HK1.out; have := HJ6.out; have := HK3.out; first | omega | exact Nat.le_refl _⟩, ⟨pB BK103⟩, ⟨pH HB⟩⟩
              ·replace c17 := Bool.eq_false_iff.mpr c17
               subst c17
               rw [if_neg (show ¬ (false = true) by decide)] at H
               by_cases c18 : 0 ≤ x6_3
               ·rw [if_pos c18] at H
                have c18b0 : decide (0 ≤ x6_3) = true := decide_eq_true c18
                clear c18
                by_cases c19 : x6_3 < (l0.length : Int)
                ·rw [if_pos c19] at H
                 have c19b0 : decide (x6_3 < (l0.length : Int)) = true := decide_eq_true c19
                 clear c19
                 have H' := aK H
                 clear H
                 obtain ⟨hcz20_0, hcz20_1, hcz20_2, hfz20_0, hfz20_1, hfz20_2⟩ := cA3 BK103
                 have p105 : 0 ≤ (x6_3 : Int) := dA
                 have q105 : x6_3 < (l0.length : Int) := dA
                 obtain ⟨ad105, e105, hx105_0, hx105_1, hx105_2⟩ := at_T70 HR0.out x6_3 p105 q105
                 obtain rfl : ad102 = ad105 := (by injection e105)
                 replace hx105_0 := uC HB hx105_0
                 replace hx105_1 := uC HB hx105_1
                 replace hx105_2 := uC HB hx105_2
                 replace p105 := eq_true p105
                 replace q105 := eq_true q105
                 go_wp2
                 go_roundg k3
                 case measure => have := HK1.out; have := HJ6.out; have := HK3.out; omega
                 case rel => exact ⟨((x6_3 == ((rd_T70 l0 x16_1).f2))), ((rd_T70 l0 x6_3).f2), rS, rS, H', ⟨by have := HK1.out; have := HJ6.out; have := HK3.out; omega⟩, ⟨pB BK103⟩, ⟨pH HB⟩⟩
                ·rw [if_neg c19] at H
                 exact absurd H (by simp)
               ·rw [if_neg c18] at H
                exact absurd H (by simp)
             ·rw [if_neg c16] at H
              have c16b0 : decide (0 ≤ x6_3) = false := decide_eq_false c16
              clear c16
              (first | rw [c16b0] | (simp only [i64_w, i32_w]; rw [c16b0]) | skip)
              have H' := aK H
              clear H
              go_wp2
              go_meet
              case rel => exact ⟨_, (x5_3), rS, H', ⟨by have := HK1.out; have := HJ6.out; have := HK3.out; first | omega | exact Nat.le_refl _⟩, ⟨pB BK103⟩, ⟨pH HB⟩⟩
          case rest =>
           clear HC15
           try clear c1; try clear p1; try clear q1; try clear hx1; try clear c2; try clear p2; try clear c3; try clear c4; try clear c4b0; try clear c5; try clear c5b0; try clear c6; try clear c6b0; try clear p6; try clear c10; try clear c10b0; try clear c10b1; try clear c10b2; try clear p10; try clear q10; try clear hx10; try clear c13; try clear c14; try clear c16; try clear c16b0; try clear c17; try clear c18; try clear c18b0; try clear c19; try clear c19b0; try clear hx102_0; try clear hx102_1; try clear hx102_2; try clear hx105_0; try clear hx105_1; try clear hx105_2; try clear p1; try clear p10; try clear p102; try clear p105; try clear p2; try clear p6; try clear q1; try clear q10; try clear q102; try clear q105; try clear hcz11_0 hcz11_1 hcz11_2 hfz11_0 hfz11_1 hfz11_2; try clear hcz13_0 hcz13_1 hcz13_2 hfz13_0 hfz13_1 hfz13_2; try clear hcz20_0 hcz20_1 hcz20_2 hfz20_0 hfz20_1 hfz20_2; try clear hcz9_0 hcz9_1 hcz9_2 hfz9_0 hfz9_1 hfz9_2
           obtain ⟨kq, x5_14, rfl, HA, HJ14, BK103, HB⟩ := hcut
           cases kq with
           | zero => exact absurd HA.out (by simp [spec_GoodTerm.j3])
           | succ kj14 =>
            have H := HA.out
            clear HA
            simp only [spec_GoodTerm.j3] at H
            have H' := aK H
            clear H
            go_wp2
            go_loopg [7, 8] kj14 (fun kq v7 v8 w' => ∃ (x7_4 : Int) (x8_4 : Int), v7 = .int .i64 x7_4 ∧ v8 = .int .i64 x8_4 ∧ Aside0 (spec_GoodTerm.l2 kq l0 x16_1 x5_14 x7_4 x8_4 l0 (l0.length : Int) x16_1 ((rd_T70 l0 x16_1).f0) ((rd_T70 l0 x16_1).f1) ((rd_T70 l0 x16_1).f2) = some r) ∧ Aside0 (kq ≤ kj14) ∧ Aside0 (w'.heap[gb103]? = some (.cells #[.int .i64 ((rd_T70 l0 x16_1).f0), .int .i64 ((rd_T70 l0 x16_1).f1), .int .i64 ((rd_T70 l0 x16_1).f2)] 70 (0, 0))) ∧ Aside0 (Below w.heap.size w w'))
            case atStart => exact ⟨(0), (x16_1), rS, rS, H', ⟨Nat.le_refl _⟩, ⟨pB BK103⟩, ⟨pH HB⟩⟩
            case round =>
             clear H'
             try clear c1; try clear p1; try clear q1; try clear hx1; try clear c2; try clear p2; try clear c3; try clear c4; try clear c4b0; try clear c5; try clear c5b0; try clear c6; try clear c6b0; try clear p6; try clear c10; try clear c10b0; try clear c10b1; try clear c10b2; try clear p10; try clear q10; try clear hx10; try clear c13; try clear c14; try clear c16; try clear c16b0; try clear c17; try clear c18; try clear c18b0; try clear c19; try clear c19b0; try clear hx102_0; try clear hx102_1; try clear hx102_2; try clear hx105_0; try clear hx105_1; try clear hx105_2; try clear p1; try clear p10; try clear p102; try clear p105; try clear p2; try clear p6; try clear q1; try clear q10; try clear q102; try clear q105; try clear hcz11_0 hcz11_1 hcz11_2 hfz11_0 hfz11_1 hfz11_2; try clear hcz13_0 hcz13_1 hcz13_2 hfz13_0 hfz13_1 hfz13_2; try clear hcz20_0 hcz20_1 hcz20_2 hfz20_0 hfz20_1 hfz20_2; try clear hcz9_0 hcz9_1 hcz9_2 hfz9_0 hfz9_1 hfz9_2
             obtain ⟨x7_4, x8_4, rfl, rfl, HA, HK4, BK103, HB⟩ := hrel
             cases gk with
             | zero => exact absurd HA.out (by simp [spec_GoodTerm.l2])
             | succ k4 =>
              have H := HA.out
              clear HA
              simp only [spec_GoodTerm.l2] at H
              by_cases c21 : x8_4 ≥ 0
              ·rw [if_pos c21] at H
               have c21b0 : decide (0 ≤ x8_4) = true := decide_eq_true c21
               clear c21
               by_cases c22 : 0 ≤ x8_4
               ·rw [if_pos c22] at H
                have c22b0 : decide (0 ≤ x8_4) = true := decide_eq_true c22
                clear c22
                by_cases c23 : x8_4 < (l0.length : Int)
                ·rw [if_pos c23] at H
                 have c23b0 : decide (x8_4 < (l0.length : Int)) = true := decide_eq_true c23
                 clear c23
                 have H' := aK H
                 clear H
                 have p106 : 0 ≤ (x8_4 : Int) := dA
                 have q106 : x8_4 < (l0.length : Int) := dA
                 obtain ⟨ad106, e106, hx106_0, hx106_1, hx106_2⟩ := at_T70 HR0.out x8_4 p106 q106
                 obtain rfl : ad102 = ad106 := (by injection e106)
                 replace hx106_0 := uC HB hx106_0
                 replace hx106_1 := uC HB hx106_1
                 replace hx106_2 := uC HB hx106_2
                 replace p106 := eq_true p106
                 replace q106 := eq_true q106
                 go_wp2
                 go_roundg k4
                 case measure => have := HK1.out; have := HJ6.out; have := HJ14.out; have := HK4.out; omega
                 case rel => exact ⟨(wrap64 (x7_4 + 1)), ((rd_T70 l0 x8_4).f2), rS, rS, H', ⟨by have := HK1.out; have := HJ6.out; have := HJ14.out; have := HK4.out; omega⟩, ⟨pB BK103⟩, ⟨pH HB⟩⟩
                ·rw [if_neg c23] at H
                 exact absurd H (by simp)
               ·rw [if_neg c22] at H
                exact absurd H (by simp)
              ·rw [if_neg c21] at H
               have c21b0 : decide (0 ≤ x8_4) = false := decide_eq_false c21
               clear c21
               have HC24 := aK H
               clear H
               obtain ⟨hcz25_0, hcz25_1, hcz25_2, hfz25_0, hfz25_1, hfz25_2⟩ := cA3 BK103
               go_upto_block 6 with (fail)
               go_cut [9] (fun v9 wc => ∃ (kq : Nat) (x9_23 : Int), v9 = .int .i64 x9_23 ∧ Aside0 (spec_GoodTerm.j5 kq l0 x16_1 x5_14 x7_4 x9_23 l0 (l0.length : Int) x16_1 ((rd_T70 l0 x16_1).f0) ((rd_T70 l0 x16_1).f1) ((rd_T70 l0 x16_1).f2) = some r) ∧ Aside0 (kq ≤ k4) ∧ Aside0 (wc.heap[gb103]? = some (.cells #[.int .i64 ((rd_T70 l0 x16_1).f0), .int .i64 ((rd_T70 l0 x16_1).f1), .int .i64 ((rd_T70 l0 x16_1).f2)] 70 (0, 0))) ∧ Aside0 (Below w.heap.size w wc))
               case first =>
                have H := HC24.out
                clear HC24
                by_cases c26 : ((rd_T70 l0 x16_1).f0) = 1
                ·rw [if_pos c26] at H
                 have c26b0 : (((rd_T70 l0 x16_1).f0) == 1) = true := beq_iff_eq.mpr c26
                 have c26b1 : (((rd_T70 l0 x16_1).f0) != 1) = false := bne_eq_false_iff_eq.mpr c26
                 clear c26
                 (first | rw [c26b0] | (simp only [i64_w, i32_w]; rw [c26b0]) | skip)
                 have H' := aK H
                 clear H
                 go_wp2
                 go_meet
                 case rel => exact ⟨_, (0), rS, H', ⟨by have := HK1.out; have := HJ6.out; have := HJ14.out; have := HK4.out; first | omega | exact Nat.le_refl _⟩, ⟨pB BK103⟩, ⟨pH HB⟩⟩
                ·rw [if_neg c26] at H
                 have c26b0 : (((rd_T70 l0 x16_1).f0) == 1) = false := beq_eq_false_iff_ne.mpr c26
                 have c26b1 : (((rd_T70 l0 x16_1).f0) != 1) = true := bne_iff_ne.mpr c26
                 (first | rw [c26b0] | (simp only [i64_w, i32_w]; rw [c26b0]) | skip)
                 by_cases c27 : ((rd_T70 l0 x16_1).f0) = 2
                 ·rw [if_pos c27] at H
                  have c27b0 : (((rd_T70 l0 x16_1).f0) == 2) = true := beq_iff_eq.mpr c27
                  have c27b1 : (((rd_T70 l0 x16_1).f0) != 2) = false := bne_eq_false_iff_eq.mpr c27
                  clear c27
                  have H' := aK H
                  clear H
                  go_wp2
                  go_meet
                  case rel => exact ⟨_, (1), rS, H', ⟨by have := HK1.out; have := HJ6.out; have := HJ14.out; have := HK4.out; first | omega | exact Nat.le_refl _⟩, ⟨pB BK103⟩, ⟨pH HB⟩⟩
                 ·rw [if_neg c27] at H
                  have c27b0 : (((rd_T70 l0 x16_1).f0) == 2) = false := beq_eq_false_iff_ne.mpr c27
                  have c27b1 : (((rd_T70 l0 x16_1).f0) != 2) = true := bne_iff_ne.mpr c27
                  by_cases c28 : ((rd_T70 l0 x16_1).f0) = 3
                  ·rw [if_pos c28] at H
                   have c28b0 : (((rd_T70 l0 x16_1).f0) == 3) = true := beq_iff_eq.mpr c28
                   have c28b1 : (((rd_T70 l0 x16_1).f0) != 3) = false := bne_eq_false_iff_eq.mpr c28
                   clear c28
                   have H' := aK H
                   clear H
                   go_wp2
                   go_meet
                   case rel => exact ⟨_, (2), rS, H', ⟨by have := HK1.out; have := HJ6.out; have := HJ14.out; have := HK4.out; first | omega | exact Nat.le_refl _⟩, ⟨pB BK103⟩, ⟨pH HB⟩⟩
                  ·rw [if_neg c28] at H
                   have c28b0 : (((rd_T70 l0 x16_1).f0) == 3) = false := beq_eq_false_iff_ne.mpr c28
                   have c28b1 : (((rd_T70 l0 x16_1).f0) != 3) = true := bne_iff_ne.mpr c28
                   obtain rfl := Option.some.inj H
                   go_wp2
                   go_ret
                   exact ⟨eW, pH HB⟩
               case rest =>
                clear HC24
                try clear c1; try clear p1; try clear q1; try clear hx1; try clear c2; try clear p2; try clear c3; try clear c4; try clear c4b0; try clear c5; try clear c5b0; try clear c6; try clear c6b0; try clear p6; try clear c10; try clear c10b0; try clear c10b1; try clear c10b2; try clear p10; try clear q10; try clear hx10; try clear c13; try clear c14; try clear c16; try clear c16b0; try clear c17; try clear c18; try clear c18b0; try clear c19; try clear c19b0; try clear c21; try clear c21b0; try clear c22; try clear c22b0; try clear c23; try clear c23b0; try clear c26; try clear c26b0; try clear c26b1; try clear c27; try clear c27b0; try clear c27b1; try clear c28; try clear c28b0; try clear c28b1; try clear hx102_0; try clear hx102_1; try clear hx102_2; try clear hx105_0; try clear hx105_1; try clear hx105_2; try clear hx106_0; try clear hx106_1; try clear hx106_2; try clear p1; try clear p10; try clear p102; try clear p105; try clear p106; try clear p2; try clear p6; try clear q1; try clear q10; try clear q102; try clear q105; try clear q106; try clear hcz11_0 hcz11_1 hcz11_2 hfz11_0 hfz11_1 hfz11_2; try clear hcz13_0 hcz13_1 hcz13_2 hfz13_0 hfz13_1 hfz13_2; try clear hcz20_0 hcz20_1 hcz20_2 hfz20_0 hfz20_1 hfz20_2; try clear hcz25_0 hcz25_1 hcz25_2 hfz25_0 hfz25_1 hfz25_2; try clear hcz9_0 hcz9_1 hcz9_2 hfz9_0 hfz9_1 hfz9_2
                obtain ⟨kq, x9_23, rfl, HA, HJ23, BK103, HB⟩ := hcut
                cases kq with
                | zero => exact absurd HA.out (by simp [spec_GoodTerm.j5])
                | succ kj23 =>
                 have H := HA.out
                 clear HA
                 simp only [spec_GoodTerm.j5] at H
                 by_cases c29 : x5_14 = true
                 ·subst c29
                  rw [if_pos rfl] at H
                  by_cases c30 : x7_4 > 40
                  ·rw [if_pos c30] at H
                   have c30b0 : decide (40 < x7_4) = true := decide_eq_true c30
                   clear c30
                   obtain rfl := Option.some.inj H
                   go_wp2
                   go_ret
                   exact ⟨eW, pH HB⟩
                  ·rw [if_neg c30] at H
                   have c30b0 : decide (40 < x7_4) = false := decide_eq_false c30
                   clear c30
                   replace H := Option.bind_eq_some_iff.mp H
                   obtain ⟨t107, A310, H⟩ := H
                   try dsimp only at H
                   have A31 := aK A310
                   clear A310
                   by_cases c32 : (t107.length : Int) = x9_23
                   ·rw [if_pos c32] at H
                    have c32b0 : ((t107.length : Int) == x9_23) = true := beq_iff_eq.mpr c32
                    have c32b1 : ((t107.length : Int) != x9_23) = false := bne_eq_false_iff_eq.mpr c32
                    clear c32
                    replace H := Option.bind_eq_some_iff.mp H
                    obtain ⟨t110, A330, H⟩ := H
                    try dsimp only at H
                    have A33 := aK A330
                    clear A330
                    by_cases c34 : t110 = true
                    ·subst c34
                     rw [if_pos rfl] at H
                     by_cases c35 : ((rd_T70 l0 x16_1).f0) = 1
                     ·rw [if_pos c35] at H
                      have c35b0 : (((rd_T70 l0 x16_1).f0) == 1) = true := beq_iff_eq.mpr c35
                      have c35b1 : (((rd_T70 l0 x16_1).f0) != 1) = false := bne_eq_false_iff_eq.mpr c35
                      clear c35
                      have H' := aK H
                      clear H
                      go_wp2_with (first | (go_at_call 27; (with_reducible refine (spec_lcParts.calls kj23 _ _ l0 x16_1 t107 _ ?side1 ?side2 A31.out).mono ?_); (case side1 => exact sC (Kd.C_below HR0.out HB.out)); (case side2 => exact HC0.out); rintro e w36 ⟨v108, rfl, ho0, hb⟩; have HO109 := aK (Kd.R_lower ho0 (below_size HB.out)); replace BK103 := qb BK103 hb; replace HB := qs HB hb; (try clear hb); (try clear ho0); obtain ⟨Ao37, co37, eo37⟩ := Kd.R_slice HO109.out; subst eo37; obtain ⟨hcz38_0, hcz38_1, hcz38_2, hfz38_0, hfz38_1, hfz38_2⟩ := cA3 BK103) | (go_at_call 26; (with_reducible refine (spec_l1In.calls ((rd_T70 l0 x16_1).f1) 0 99 true _ A33.out).mono ?_); rintro e w' ⟨rfl, ⟨nd, rfl⟩⟩))
                      go_roundg kj23
                      case measure => have := HK1.out; have := HJ6.out; have := HJ14.out; have := HK4.out; have := HJ23.out; omega
                      case rel => exact ⟨(wrap64 (x16_1 + 1)), rS, H', ⟨by have := HK1.out; have := HJ6.out; have := HJ14.out; have := HK4.out; have := HJ23.out; omega⟩, ⟨pH HB⟩⟩
                     ·rw [if_neg c35] at H
                      have c35b0 : (((rd_T70 l0 x16_1).f0) == 1) = false := beq_eq_false_iff_ne.mpr c35
                      have c35b1 : (((rd_T70 l0 x16_1).f0) != 1) = true := bne_iff_ne.mpr c35
                      by_cases c39 : ((rd_T70 l0 x16_1).f1) = 0
                      ·rw [if_pos c39] at H
                       have c39b0 : (((rd_T70 l0 x16_1).f1) == 0) = true := beq_iff_eq.mpr c39
                       have c39b1 : (((rd_T70 l0 x16_1).f1) != 0) = false := bne_eq_false_iff_eq.mpr c39
                       clear c39
                       have H' := aK H
                       clear H
                       go_wp2_with (first | (go_at_call 27; (with_reducible refine (spec_lcParts.calls kj23 _ _ l0 x16_1 t107 _ ?side1 ?side2 A31.out).mono ?_); (case side1 => exact sC (Kd.C_below HR0.out HB.out)); (case side2 => exact HC0.out); rintro e w40 ⟨v108, rfl, ho0, hb⟩; have HO109 := aK (Kd.R_lower ho0 (below_size HB.out)); replace BK103 := qb BK103 hb; replace HB := qs HB hb; (try clear hb); (try clear ho0); obtain ⟨Ao41, co41, eo41⟩ := Kd.R_slice HO109.out; subst eo41; obtain ⟨hcz42_0, hcz42_1, hcz42_2, hfz42_0, hfz42_1, hfz42_2⟩ := cA3 BK103) | (go_at_call 26; (with_reducible refine (spec_l1In.calls ((rd_T70 l0 x16_1).f1) 0 99 true _ A33.out).mono ?_); rintro e w' ⟨rfl, ⟨nd, rfl⟩⟩))
                       go_roundg kj23
                       case measure => have := HK1.out; have := HJ6.out; have := HJ14.out; have := HK4.out; have := HJ23.out; omega
                       case rel => exact ⟨(wrap64 (x16_1 + 1)), rS, H', ⟨by have := HK1.out; have := HJ6.out; have := HJ14.out; have := HK4.out; have := HJ23.out; omega⟩, ⟨pH HB⟩⟩
                      ·rw [if_neg c39] at H
                       have c39b0 : (((rd_T70 l0 x16_1).f1) == 0) = false := beq_eq_false_iff_ne.mpr c39
                       have c39b1 : (((rd_T70 l0 x16_1).f1) != 0) = true := bne_iff_ne.mpr c39
                       obtain rfl := Option.some.inj H
                       go_wp2_with (first | (go_at_call 27; (with_reducible refine (spec_lcParts.calls kj23 _ _ l0 x16_1 t107 _ ?side1 ?side2 A31.out).mono ?_); (case side1 => exact sC (Kd.C_below HR0.out HB.out)); (case side2 => exact HC0.out); rintro e w43 ⟨v108, rfl, ho0, hb⟩; have HO109 := aK (Kd.R_lower ho0 (below_size HB.out)); replace BK103 := qb BK103 hb; replace HB := qs HB hb; (try clear hb); (try clear ho0); obtain ⟨Ao44, co44, eo44⟩ := Kd.R_slice HO109.out; subst eo44; obtain ⟨hcz45_0, hcz45_1, hcz45_2, hfz45_0, hfz45_1, hfz45_2⟩ := cA3 BK103) | (go_at_call 26; (with_reducible refine (spec_l1In.calls ((rd_T70 l0 x16_1).f1) 0 99 true _ A33.out).mono ?_); rintro e w' ⟨rfl, ⟨nd, rfl⟩⟩))
                       go_ret
                       exact ⟨eW, pH HB⟩
                    ·replace c34 := Bool.eq_false_iff.mpr c34
                     subst c34
                     rw [if_neg (show ¬ (false = true) by decide)] at H
                     obtain rfl := Option.some.inj H
                     go_wp2_with (first | (go_at_call 27; (with_reducible refine (spec_lcParts.calls kj23 _ _ l0 x16_1 t107 _ ?side1 ?side2 A31.out).mono ?_); (case side1 => exact sC (Kd.C_below HR0.out HB.out)); (case side2 => exact HC0.out); rintro e w46 ⟨v108, rfl, ho0, hb⟩; have HO109 := aK (Kd.R_lower ho0 (below_size HB.out)); replace BK103 := qb BK103 hb; replace HB := qs HB hb; (try clear hb); (try clear ho0); obtain ⟨Ao47, co47, eo47⟩ := Kd.R_slice HO109.out; subst eo47; obtain ⟨hcz48_0, hcz48_1, hcz48_2, hfz48_0, hfz48_1, hfz48_2⟩ := cA3 BK103) | (go_at_call 26; (with_reducible refine (spec_l1In.calls ((rd_T70 l0 x16_1).f1) 0 99 false _ A33.out).mono ?_); rintro e w' ⟨rfl, ⟨nd, rfl⟩⟩))
                     go_ret
                     exact ⟨eW, pH HB⟩
                   ·rw [if_neg c32] at H
                    have c32b0 : ((t107.length : Int) == x9_23) = false := beq_eq_false_iff_ne.mpr c32
                    have c32b1 : ((t107.length : Int) != x9_23) = true := bne_iff_ne.mpr c32
                    obtain rfl := Option.some.inj H
                    go_wp2_with (first | (go_at_call 27; (with_reducible refine (spec_lcParts.calls kj23 _ _ l0 x16_1 t107 _ ?side1 ?side2 A31.out).mono ?_); (case side1 => exact sC (Kd.C_below HR0.out HB.out)); (case side2 => exact HC0.out); rintro e w49 ⟨v108, rfl, ho0, hb⟩; have HO109 := aK (Kd.R_lower ho0 (below_size HB.out)); replace BK103 := qb BK103 hb; replace HB := qs HB hb; (try clear hb); (try clear ho0); obtain ⟨Ao50, co50, eo50⟩ := Kd.R_slice HO109.out; subst eo50))
                    go_ret
                    exact ⟨eW, pH HB⟩
                 ·replace c29 := Bool.eq_false_iff.mpr c29
                  subst c29
                  rw [if_neg (show ¬ (false = true) by decide)] at H
                  obtain rfl := Option.some.inj H
                  go_wp2
                  go_ret
                  exact ⟨eW, pH HB⟩
      ·rw [if_neg c6] at H
       exact absurd H (by simp)
     ·rw [if_neg c5] at H
      exact absurd H (by simp)
    ·rw [if_neg c4] at H
     have c4b0 : decide (x16_1 < (l0.length : Int)) = false := decide_eq_false c4
     clear c4
     obtain rfl := Option.some.inj H
     go_wp2
     go_ret
     exact ⟨eW, pH HB⟩
 ·replace c3 := Bool.eq_false_iff.mpr c3
  subst c3
  rw [if_neg (show ¬ (false = true) by decide)] at H
  obtain rfl := Option.some.inj H
  go_enter Try.func13, Try.ntmps13
  go_wp2_with (first | ((with_reducible refine gate_callee (f := 26) rfl ?_); refine goesL_ (some 12) rfl rfl Try.func26 (by kernel_rfl) rfl #[.int .i64 (l0.length : Int), .int .i64 1, .int .i64 150] rfl tA ?_; (with_reducible refine (spec_l1In.calls (l0.length : Int) 1 150 false _ A2.out).mono ?_); rintro e w' ⟨rfl, ⟨nd, rfl⟩⟩; refine ⟨_, rfl, ?_⟩))
  go_ret
  exact ⟨eW, pH HB⟩


def spec_ldParts.l0 : Nat → List (S33) → Int → List Int → Int → Option (List Int)
 | 0, _, _, _, _ => none
 | k + 1, x0, x1, x5, x6 => if x6 < (x0.length : Int) then (if 0 ≤ x6 then (if ((rd_T33 x0 x6).f2) = x1 then (if x5.length < 17592186044416 then (spec_ldParts.l0 k x0 x1 (x5 ++ [x6]) (wrap64 (x6 + 1))) else (none)) else (spec_ldParts.l0 k x0 x1 x5 (wrap64 (x6 + 1)))) else (none)) else (some x5)
def spec_ldParts.f (k : Nat) (l0 : List (S33)) (a1 : Int) : Option (List Int) := spec_ldParts.l0 k l0 a1 ([] : List Int) (wrap64 (a1 + 1))
set_option maxHeartbeats 8000000 in
set_option maxRecDepth 100000 in
theorem spec_ldParts.calls (k : Nat) (A0 : Option Addr) (c0 : Nat) (l0 : List (S33)) (a1 : Int) (r : List Int) (w : World) (hr0 : Kd.C k33 w A0 l0.length l0) (hc0 : l0.length ≤ c0) (h : spec_ldParts.f k l0 a1 = some r) :
  Calls Try.prog 51 #[.slice A0 l0.length c0, .int .i64 a1] w fun e w' => ∃ v0_ : Value, e = .returned (v0_) ∧ Kd.R (Kd.int .i64) 3 w' w.heap.size (fun _ => True) v0_ r ∧ Below w.heap.size w w' := by
 have HR0 := aK hr0
 have HC0 := aK hc0
 clear hr0 hc0
 have HB := aK (Below.refl w.heap.size w)
 have H : (spec_ldParts.l0 k l0 a1 ([] : List Int) (wrap64 (a1 + 1))) = some r := h
 clear h
 have H' := aK H
 clear H
 go_enter Try.func51, Try.ntmps51
 go_wp2
 go_loopg [5, 6] k (fun kq v5 v6 w' => ∃ (x5_1 : List Int) (x6_1 : Int), v6 = .int .i64 x6_1 ∧ Aside0 (spec_ldParts.l0 kq l0 a1 x5_1 x6_1 = some r) ∧ Aside0 (kq ≤ k) ∧ Aside0 (Kd.R (Kd.int .i64) 3 w' w.heap.size (fun _ => True) v5 x5_1) ∧ Aside0 (Below w.heap.size w w'))
 case atStart => exact ⟨(([] : List Int)), (wrap64 (a1 + 1)), rS, H', ⟨Nat.le_refl _⟩, ⟨by first | exact Kd.R_nil _ _ _ _ _ | exact Kd.N_nil _ _ _ _ _ | exact Kd.V_nil _ _ _ _ _ | exact Kd.Q_nil _ _ _ _ _ | exact Kd.S_nil _ _ _ _ _⟩, ⟨pH HB⟩⟩
 case round =>
  clear H'
  try clear p2
  obtain ⟨x5_1, x6_1, rfl, HA, HK1, HO_5, HB⟩ := hrel
  cases gk with
  | zero => exact absurd HA.out (by simp [spec_ldParts.l0])
  | succ k1 =>
   have H := HA.out
   clear HA
   simp only [spec_ldParts.l0] at H
   by_cases c3 : x6_1 < (l0.length : Int)
   ·rw [if_pos c3] at H
    have c3b0 : decide (x6_1 < (l0.length : Int)) = true := decide_eq_true c3
    clear c3
    by_cases c4 : 0 ≤ x6_1
    ·rw [if_pos c4] at H
     have c4b0 : decide (0 ≤ x6_1) = true := decide_eq_true c4
     clear c4
     by_cases c5 : ((rd_T33 l0 x6_1).f2) = a1
     ·rw [if_pos c5] at H
      have c5b0 : (((rd_T33 l0 x6_1).f2) == a1) = true := beq_iff_eq.mpr c5
      have c5b1 : (((rd_T33 l0 x6_1).f2) != a1) = false := bne_eq_false_iff_eq.mpr c5
      clear c5
      by_cases c6 : x5_1.length < 17592186044416
      ·rw [if_pos c6] at H
       have LMc6 := aK c6
       clear c6
       obtain ⟨y102, hy102⟩ : ∃ y_ : List Int, y_ = (x5_1 ++ [x6_1]) := ⟨_, rfl⟩
       replace H : (spec_ldParts.l0 k1 l0 a1 y102 (wrap64 (x6_1 + 1))) = some r := by first | (rw [hy102]; with_reducible exact H) | (have H2_ := (Option.bind_some _ _).symm.trans H; rw [hy102]; with_reducible exact H2_) | (have H2_ := (Option.bind_some _ _).symm.trans H; with_reducible exact H2_) | with_reducible exact H | (rw [hy102]; exact H) | exact H
       have Ny102 := aK hy102
       clear hy102
       have H' := aK H
       clear H
       have p101 : 0 ≤ (x6_1 : Int) := dA
       have q101 : x6_1 < (l0.length : Int) := dA
       obtain ⟨ad101, e101, hx101_0, hx101_1, hx101_2⟩ := at_T33 HR0.out x6_1 p101 q101
       cases e101
       replace hx101_0 := uC HB hx101_0
       replace hx101_1 := uC HB hx101_1
       replace hx101_2 := uC HB hx101_2
       replace p101 := eq_true p101
       replace q101 := eq_true q101
       go_wp2_with (first | ((with_reducible refine gate_builtin (b := .append) (xs := #[.tmp 22, .tmp 24]) rfl ?_); at_builtin; refine Kd.R_append (Kd.int .i64) (w0 := w) w.heap.size rfl (.tmp 22) (.tmp 24) 29 3 (.int .i64 0) 8 rfl Try.underlying29 info3 rfl (by decide) (by omega) u5 x5_1 x6_1 [.int .i64 x6_1] (fun _ => True) (fun _ => False) rfl rfl ?aP (fun _ hk => hk.elim) ?aF ?aO ?aB ?aS ?aL ?_; (case aP => exact rfl); (case aB => exact HB.out); (case aF => exact (fun _ _ => trivial)); (case aO => exact HO_5.out); (case aS => exact (below_size HB.out)); (case aL => have := LMc6.out; omega); intro v103 w7 ho hb hg hat; rw [← Ny102.out] at ho; have n0_ := aK (hb); have HO104 := aK (ho); clear HB; have HB := n0_; clear n0_; clear HO_5; clear ho hb hg hat))
       go_roundg k1
       case measure => have := HK1.out; omega
       case rel => exact ⟨(y102), (wrap64 (x6_1 + 1)), rS, H', ⟨by have := HK1.out; omega⟩, ⟨by (with_reducible repeat (first | apply Kd.R_alloc | apply Kd.R_drewN | apply Kd.R_drew)); exact HO104.out⟩, ⟨pH HB⟩⟩
      ·rw [if_neg c6] at H
       exact absurd H (by simp)
     ·rw [if_neg c5] at H
      have c5b0 : (((rd_T33 l0 x6_1).f2) == a1) = false := beq_eq_false_iff_ne.mpr c5
      have c5b1 : (((rd_T33 l0 x6_1).f2) != a1) = true := bne_iff_ne.mpr c5
      have H' := aK H
      clear H
      have p101 : 0 ≤ (x6_1 : Int) := dA
      have q101 : x6_1 < (l0.length : Int) := dA
      obtain ⟨ad101, e101, hx101_0, hx101_1, hx101_2⟩ := at_T33 HR0.out x6_1 p101 q101
      cases e101
      replace hx101_0 := uC HB hx101_0
      replace hx101_1 := uC HB hx101_1
      replace hx101_2 := uC HB hx101_2
      replace p101 := eq_true p101
      replace q101 := eq_true q101
      go_wp2
      go_roundg k1
      case measure => have := HK1.out; omega
      case rel => exact ⟨(x5_1), (wrap64 (x6_1 + 1)), rS, H', ⟨by have := HK1.out; omega⟩, ⟨by (with_reducible repeat (first | apply Kd.R_alloc | apply Kd.R_drewN | apply Kd.R_drew)); exact HO_5.out⟩, ⟨pH HB⟩⟩
    ·rw [if_neg c4] at H
     exact absurd H (by simp)
   ·rw [if_neg c3] at H
    have c3b0 : decide (x6_1 < (l0.length : Int)) = false := decide_eq_false c3
    clear c3
    obtain rfl := Option.some.inj H
    go_wp2
    go_ret
    exact ⟨_, eW, by (with_reducible repeat (first | apply Kd.R_alloc | apply Kd.R_drewN | apply Kd.R_drew)); exact HO_5.out, pH HB⟩


mutual
def spec_GoodComb.l0 : Nat → List (S33) → List (S33) → Int → Int → Option (Bool)
 | 0, _, _, _, _ => none
 | k + 1, x0, x14, x15, x16 => if x16 < x15 then (if 0 ≤ x16 then (if x16 < (x14.length : Int) then (if ((x16 == 0) != (((rd_T33 x14 x16).f2) == (-1))) = true then (spec_GoodComb.j1 k x0 x16 x14 x15 x16 true ((rd_T33 x14 x16).f0) ((rd_T33 x14 x16).f1) ((rd_T33 x14 x16).f2)) else ((spec_l1In.f ((rd_T33 x14 x16).f2) (-1) (wrap64 (x16 - 1))).bind fun t104 => (if t104 = true then ((spec_l1In.f ((rd_T33 x14 x16).f0) 1 5).bind fun t105 => (if t105 = true then ((spec_l1In.f ((rd_T33 x14 x16).f1) 0 999).bind fun t106 => (if t106 = true then (if ((rd_T33 x14 x16).f0) = 1 then (spec_GoodComb.j1 k x0 x16 x14 x15 x16 false ((rd_T33 x14 x16).f0) ((rd_T33 x14 x16).f1) ((rd_T33 x14 x16).f2)) else (spec_GoodComb.j1 k x0 x16 x14 x15 x16 (((rd_T33 x14 x16).f1) != 0) ((rd_T33 x14 x16).f0) ((rd_T33 x14 x16).f1) ((rd_T33 x14 x16).f2))) else (spec_GoodComb.j1 k x0 x16 x14 x15 x16 true ((rd_T33 x14 x16).f0) ((rd_T33 x14 x16).f1) ((rd_T33 x14 x16).f2)))) else (spec_GoodComb.j1 k x0 x16 x14 x15 x16 true ((rd_T33 x14 x16).f0) ((rd_T33 x14 x16).f1) ((rd_T33 x14 x16).f2)))) else (spec_GoodComb.j1 k x0 x16 x14 x15 x16 true ((rd_T33 x14 x16).f0) ((rd_T33 x14 x16).f1) ((rd_T33 x14 x16).f2))))) else (none)) else (none)) else (some true)
def spec_GoodComb.j1 : Nat → List (S33) → Int → List (S33) → Int → Int → Bool → Int → Int → Int → Option (Bool)
 | 0, _, _, _, _, _, _, _, _, _ => none
 | k + 1, x0, x3, x14, x15, x16, x56, x104000, x104001, x104002 => if x56 = true then (some false) else (spec_GoodComb.l1 k x0 x3 (x3 == 0) (wrap64 (x3 - 1)) x14 x15 x16 x104000 x104001 x104002)
def spec_GoodComb.j3 : Nat → List (S33) → Int → Bool → List (S33) → Int → Int → Int → Int → Int → Option (Bool)
 | 0, _, _, _, _, _, _, _, _, _ => none
 | k + 1, x0, x3, x5, x14, x15, x16, x104000, x104001, x104002 => spec_GoodComb.l2 k x0 x3 x5 0 x3 x14 x15 x16 x104000 x104001 x104002
def spec_GoodComb.l2 : Nat → List (S33) → Int → Bool → Int → Int → List (S33) → Int → Int → Int → Int → Int → Option (Bool)
 | 0, _, _, _, _, _, _, _, _, _, _, _ => none
 | k + 1, x0, x3, x5, x7, x8, x14, x15, x16, x104000, x104001, x104002 => if x8 ≥ 0 then (if 0 ≤ x8 then (if x8 < (x0.length : Int) then (spec_GoodComb.l2 k x0 x3 x5 (wrap64 (x7 + 1)) ((rd_T33 x0 x8).f2) x14 x15 x16 x104000 x104001 x104002) else (none)) else (none)) else (if x104000 = 2 then (if x5 = true then (if x7 > 60 then (some false) else ((spec_ldParts.f k x0 x3).bind fun t109 => (if (t109.length : Int) = 2 then (spec_GoodComb.l0 k x0 x14 x15 (wrap64 (x16 + 1))) else (some false)))) else (some false)) else (if x5 = true then (if x7 > 60 then (some false) else ((spec_ldParts.f k x0 x3).bind fun t112 => (if (t112.length : Int) = 0 then (spec_GoodComb.l0 k x0 x14 x15 (wrap64 (x16 + 1))) else (some false)))) else (some false)))
def spec_GoodComb.l1 : Nat → List (S33) → Int → Bool → Int → List (S33) → Int → Int → Int → Int → Int → Option (Bool)
 | 0, _, _, _, _, _, _, _, _, _, _ => none
 | k + 1, x0, x3, x5, x6, x14, x15, x16, x104000, x104001, x104002 => if x6 ≥ 0 then (if x5 = true then (spec_GoodComb.j3 k x0 x3 x5 x14 x15 x16 x104000 x104001 x104002) else (if 0 ≤ x6 then (if x6 < (x0.length : Int) then (spec_GoodComb.l1 k x0 x3 (x6 == x104002) ((rd_T33 x0 x6).f2) x14 x15 x16 x104000 x104001 x104002) else (none)) else (none))) else (spec_GoodComb.j3 k x0 x3 x5 x14 x15 x16 x104000 x104001 x104002)
end
def spec_GoodComb.f (k : Nat) (l0 : List (S33)) : Option (Bool) := (spec_l1In.f (l0.length : Int) 1 200).bind fun t101 => (if t101 = true then (spec_GoodComb.l0 k l0 l0 (l0.length : Int) 0) else (some false))
set_option maxHeartbeats 8000000 in
set_option maxRecDepth 100000 in
theorem spec_GoodComb.calls (k : Nat) (A0 : Option Addr) (c0 : Nat) (l0 : List (S33)) (r : Bool) (w : World) (hr0 : Kd.C k33 w A0 l0.length l0) (hc0 : l0.length ≤ c0) (h : spec_GoodComb.f k l0 = some r) :
  Calls Try.prog 31 #[.slice A0 l0.length c0] w fun e w' => e = .returned (.bool r) ∧ Below w.heap.size w w' := by
 have hu33 := Try.underlying33
 have HR0 := aK hr0
 have HC0 := aK hc0
 clear hr0 hc0
 have HB := aK (Below.refl w.heap.size w)
 have H : ((spec_l1In.f (l0.length : Int) 1 200).bind fun t101 => (if t101 = true then (spec_GoodComb.l0 k l0 l0 (l0.length : Int) 0) else (some false))) = some r := h
 clear h
 replace H := Option.bind_eq_some_iff.mp H
 obtain ⟨t101, A20, H⟩ := H
 try dsimp only at H
 have A2 := aK A20
 clear A20
 by_cases c3 : t101 = true
 ·subst c3
  rw [if_pos rfl] at H
  have H' := aK H
  clear H
  go_enter Try.func31, Try.ntmps31
  go_wp2_with (first | ((with_reducible refine gate_callee (f := 26) rfl ?_); refine goesL_ (some 12) rfl rfl Try.func26 (by kernel_rfl) rfl #[.int .i64 (l0.length : Int), .int .i64 1, .int .i64 200] rfl tA ?_; (with_reducible refine (spec_l1In.calls (l0.length : Int) 1 200 true _ A2.out).mono ?_); rintro e w' ⟨rfl, ⟨nd, rfl⟩⟩; refine ⟨_, rfl, ?_⟩))
  go_loopg [16] k (fun kq v16 w' => ∃ (x16_1 : Int), v16 = .int .i64 x16_1 ∧ Aside0 (spec_GoodComb.l0 kq l0 l0 (l0.length : Int) x16_1 = some r) ∧ Aside0 (kq ≤ k) ∧ Aside0 (Below w.heap.size w w'))
  case atStart => exact ⟨(0), rS, H', ⟨Nat.le_refl _⟩, ⟨pH HB⟩⟩
  case round =>
   clear H'
   try clear c2; try clear p2; try clear c3
   obtain ⟨x16_1, rfl, HA, HK1, HB⟩ := hrel
   cases gk with
   | zero => exact absurd HA.out (by simp [spec_GoodComb.l0])
   | succ k1 =>
    have H := HA.out
    clear HA
    simp only [spec_GoodComb.l0] at H
    by_cases c4 : x16_1 < (l0.length : Int)
    ·rw [if_pos c4] at H
     have c4b0 : decide (x16_1 < (l0.length : Int)) = true := decide_eq_true c4
     clear c4
     by_cases c5 : 0 ≤ x16_1
     ·rw [if_pos c5] at H
      have c5b0 : decide (0 ≤ x16_1) = true := decide_eq_true c5
      clear c5
      by_cases c6 : x16_1 < (l0.length : Int)
      ·rw [if_pos c6] at H
       have c6b0 : decide (x16_1 < (l0.length : Int)) = true := decide_eq_true c6
       clear c6
       have HC7 := aK H
       clear H
       have p102 : 0 ≤ (x16_1 : Int) := dA
       have q102 : x16_1 < (l0.length : Int) := dA
       obtain ⟨ad102, e102, hx102_0, hx102_1, hx102_2⟩ := at_T33 HR0.out x16_1 p102 q102
       cases e102
       replace hx102_0 := uC HB hx102_0
       replace hx102_1 := uC HB hx102_1
       replace hx102_2 := uC HB hx102_2
       replace p102 := eq_true p102
       replace q102 := eq_true q102
       go_upto_region 6 with (first | ((with_reducible refine gate_dst (N := 4) rfl ?_); (try (refine gate_guard (by rfl) ?_; dsimp only)); refine bE (N := 4) (cs := #[.int .i64 0, .int .i64 0, .int .i64 0]) (t := 33) ?_; intro gb103 hg w8 hbox hb; have GW103 := qw HB hg; have GE103 := qw HB hg; have BK103 := aK hbox; replace HB := qs HB hb; clear hb hbox hg; obtain ⟨hcz9_0, hcz9_1, hcz9_2, hfz9_0, hfz9_1, hfz9_2⟩ := cA3 BK103))
       (try simp only [Act.put, List.setIfInBounds_toArray, List.set_cons_zero, List.set_cons_succ])
       go_cut [56] (fun v56 wc => ∃ (kq : Nat) (x56_6 : Bool), v56 = .bool x56_6 ∧ Aside0 (spec_GoodComb.j1 kq l0 x16_1 l0 (l0.length : Int) x16_1 x56_6 ((rd_T33 l0 x16_1).f0) ((rd_T33 l0 x16_1).f1) ((rd_T33 l0 x16_1).f2) = some r) ∧ Aside0 (kq ≤ k1) ∧ Aside0 (wc.heap[gb103]? = some (.cells #[.int .i64 ((rd_T33 l0 x16_1).f0), .int .i64 ((rd_T33 l0 x16_1).f1), .int .i64 ((rd_T33 l0 x16_1).f2)] 33 (0, 0))) ∧ Aside0 (Below w.heap.size w wc))
       case first =>
        have H := HC7.out
        clear HC7
        by_cases c10 : ((x16_1 == 0) != (((rd_T33 l0 x16_1).f2) == (-1))) = true
        ·rw [if_pos c10] at H
         have c10b0 : ((x16_1 == 0) != (((rd_T33 l0 x16_1).f2) == (-1))) = true := c10
         (try (have c10b1 : decide ((x16_1 == 0) = (((rd_T33 l0 x16_1).f2) == (-1))) = false := by simpa using c10))
         (try (have c10b2 : ((x16_1 == 0) == (((rd_T33 l0 x16_1).f2) == (-1))) = false := by simpa using c10))
         (try (have c10b3 : ¬ ((x16_1 == 0) = (((rd_T33 l0 x16_1).f2) == (-1))) := by simpa using c10))
         clear c10
         (first | rw [c10b0] | (simp only [i64_w, i32_w]; rw [c10b0]) | skip)
         have H' := aK H
         clear H
         obtain ⟨hcz11_0, hcz11_1, hcz11_2, hfz11_0, hfz11_1, hfz11_2⟩ := cA3 BK103
         go_wp2
         go_meet
         case rel => exact ⟨_, (true), rS, H', ⟨by have := HK1.out; first | omega | exact Nat.le_refl _⟩, ⟨p3 BK103⟩, ⟨pH HB⟩⟩
        ·rw [if_neg c10] at H
         have c10b0 : ((x16_1 == 0) != (((rd_T33 l0 x16_1).f2) == (-1))) = false := by simpa using c10
         (try (have c10b1 : decide ((x16_1 == 0) = (((rd_T33 l0 x16_1).f2) == (-1))) = true := by simpa using c10))
         (try (have c10b2 : ((x16_1 == 0) == (((rd_T33 l0 x16_1).f2) == (-1))) = true := by simpa using c10))
         clear c10
         (first | rw [c10b0] | (simp only [i64_w, i32_w]; rw [c10b0]) | skip)
         replace H := Option.bind_eq_some_iff.mp H
         obtain ⟨t104, A120, H⟩ := H
         try dsimp only at H
         have A12 := aK A120
         clear A120
         by_cases c13 : t104 = true
         ·subst c13
          rw [if_pos rfl] at H
          replace H := Option.bind_eq_some_iff.mp H
          obtain ⟨t105, A140, H⟩ := H
          try dsimp only at H
          have A14 := aK A140
          clear A140
          by_cases c15 : t105 = true
          ·subst c15
           rw [if_pos rfl] at H
           replace H := Option.bind_eq_some_iff.mp H
           obtain ⟨t106, A160, H⟩ := H
           try dsimp only at H
           have A16 := aK A160
           clear A160
           by_cases c17 : t106 = true
           ·subst c17
            rw [if_pos rfl] at H
            by_cases c18 : ((rd_T33 l0 x16_1).f0) = 1
            ·rw [if_pos c18] at H
             have c18b0 : (((rd_T33 l0 x16_1).f0) == 1) = true := beq_iff_eq.mpr c18
             have c18b1 : (((rd_T33 l0 x16_1).f0) != 1) = false := bne_eq_false_iff_eq.mpr c18
             clear c18
             have H' := aK H
             clear H
             obtain ⟨hcz19_0, hcz19_1, hcz19_2, hfz19_0, hfz19_1, hfz19_2⟩ := cA3 BK103
             go_wp2_with (first | (go_at_call 26; (with_reducible refine (spec_l1In.calls ((rd_T33 l0 x16_1).f2) (-1) (wrap64 (x16_1 - 1)) true _ A12.out).mono ?_); rintro e w' ⟨rfl, ⟨nd, rfl⟩⟩) | (go_at_call 26; (with_reducible refine (spec_l1In.calls ((rd_T33 l0 x16_1).f0) 1 5 true _ A14.out).mono ?_); rintro e w' ⟨rfl, ⟨nd, rfl⟩⟩) | (go_at_call 26; (with_reducible refine (spec_l1In.calls ((rd_T33 l0 x16_1).f1) 0 999 true _ A16.out).mono ?_); rintro e w' ⟨rfl, ⟨nd, rfl⟩⟩))
             go_meet
             case rel => exact ⟨_, (false), rS, H', ⟨by have := HK1.out; first | omega | exact Nat.le_refl _⟩, ⟨p3 BK103⟩, ⟨pH HB⟩⟩
            ·rw [if_neg c18] at H
             have c18b0 : (((rd_T33 l0 x16_1).f0) == 1) = false := beq_eq_false_iff_ne.mpr c18
             have c18b1 : (((rd_T33 l0 x16_1).f0) != 1) = true := bne_iff_ne.mpr c18
             have H' := aK H
             clear H
             obtain ⟨hcz20_0, hcz20_1, hcz20_2, hfz20_0, hfz20_1, hfz20_2⟩ := cA3 BK103
             go_wp2_with (first | (go_at_call 26; (with_reducible refine (spec_l1In.calls ((rd_T33 l0 x16_1).f2) (-1) (wrap64 (x16_1 - 1)) true _ A12.out).mono ?_); rintro e w' ⟨rfl, ⟨nd, rfl⟩⟩) | (go_at_call 26; (with_reducible refine (spec_l1In.calls ((rd_T33 l0 x16_1).f0) 1 5 true _ A14.out).mono ?_); rintro e w' ⟨rfl, ⟨nd, rfl⟩⟩) | (go_at_call 26; (with_reducible refine (spec_l1In.calls ((rd_T33 l0 x16_1).f1) 0 999 true _ A16.out).mono ?_); rintro e w' ⟨rfl, ⟨nd, rfl⟩⟩))
             go_meet
             case rel => exact ⟨_, ((((rd_T33 l0 x16_1).f1) != 0)), rS, H', ⟨by have := HK1.out; first | omega | exact Nat.le_refl _⟩, ⟨p3 BK103⟩, ⟨pH HB⟩⟩
           ·replace c17 := Bool.eq_false_iff.mpr c17
            subst c17
            rw [if_neg (show ¬ (false = true) by decide)] at H
            have H' := aK H
            clear H
            obtain ⟨hcz21_0, hcz21_1, hcz21_2, hfz21_0, hfz21_1, hfz21_2⟩ := cA3 BK103
            go_wp2_with (first | (go_at_call 26; (with_reducible refine (spec_l1In.calls ((rd_T33 l0 x16_1).f2) (-1) (wrap64 (x16_1 - 1)) true _ A12.out).mono ?_); rintro e w' ⟨rfl, ⟨nd, rfl⟩⟩) | (go_at_call 26; (with_reducible refine (spec_l1In.calls ((rd_T33 l0 x16_1).f0) 1 5 true _ A14.out).mono ?_); rintro e w' ⟨rfl, ⟨nd, rfl⟩⟩) | (go_at_call 26; (with_reducible refine (spec_l1In.calls ((rd_T33 l0 x16_1).f1) 0 999 false _ A16.out).mono ?_); rintro e w' ⟨rfl, ⟨nd, rfl⟩⟩))
            go_meet
            case rel => exact ⟨_, (true), rS, H', ⟨by have := HK1.out; first | omega | exact Nat.le_refl _⟩, ⟨p3 BK103⟩, ⟨pH HB⟩⟩
          ·replace c15 := Bool.eq_false_iff.mpr c15
           subst c15
           rw [if_neg (show ¬ (false = true) by decide)] at H
           have H' := aK H
           clear H
           obtain ⟨hcz22_0, hcz22_1, hcz22_2, hfz22_0, hfz22_1, hfz22_2⟩ := cA3 BK103
           go_wp2_with (first | (go_at_call 26; (with_reducible refine (spec_l1In.calls ((rd_T33 l0 x16_1).f2) (-1) (wrap64 (x16_1 - 1)) true _ A12.out).mono ?_); rintro e w' ⟨rfl, ⟨nd, rfl⟩⟩) | (go_at_call 26; (with_reducible refine (spec_l1In.calls ((rd_T33 l0 x16_1).f0) 1 5 false _ A14.out).mono ?_); rintro e w' ⟨rfl, ⟨nd, rfl⟩⟩))
           go_meet
           case rel => exact ⟨_, (true), rS, H', ⟨by have := HK1.out; first | omega | exact Nat.le_refl _⟩, ⟨p3 BK103⟩, ⟨pH HB⟩⟩
         ·replace c13 := Bool.eq_false_iff.mpr c13
          subst c13
          rw [if_neg (show ¬ (false = true) by decide)] at H
          have H' := aK H
          clear H
          obtain ⟨hcz23_0, hcz23_1, hcz23_2, hfz23_0, hfz23_1, hfz23_2⟩ := cA3 BK103
          go_wp2_with (first | (go_at_call 26; (with_reducible refine (spec_l1In.calls ((rd_T33 l0 x16_1).f2) (-1) (wrap64 (x16_1 - 1)) false _ A12.out).mono ?_); rintro e w' ⟨rfl, ⟨nd, rfl⟩⟩))
          go_meet
          case rel => exact ⟨_, (true), rS, H', ⟨by have := HK1.out; first | omega | exact Nat.le_refl _⟩, ⟨p3 BK103⟩, ⟨pH HB⟩⟩
       case rest =>
        clear HC7
        try clear c1; try clear p1; try clear q1; try clear hx1; try clear c2; try clear p2; try clear c3; try clear c4; try clear c4b0; try clear c5; try clear c5b0; try clear c6; try clear c6b0; try clear p6; try clear c10; try clear c10b0; try clear c10b1; try clear c10b2; try clear p10; try clear q10; try clear hx10; try clear c13; try clear c15; try clear c17; try clear c18; try clear c18b0; try clear c18b1; try clear hx102_0; try clear hx102_1; try clear hx102_2; try clear p102; try clear p2; try clear q102; try clear hcz11_0 hcz11_1 hcz11_2 hfz11_0 hfz11_1 hfz11_2; try clear hcz19_0 hcz19_1 hcz19_2 hfz19_0 hfz19_1 hfz19_2; try clear hcz20_0 hcz20_1 hcz20_2 hfz20_0 hfz20_1 hfz20_2; try clear hcz21_0 hcz21_1 hcz21_2 hfz21_0 hfz21_1 hfz21_2; try clear hcz22_0 hcz22_1 hcz22_2 hfz22_0 hfz22_1 hfz22_2; try clear hcz23_0 hcz23_1 hcz23_2 hfz23_0 hfz23_1 hfz23_2; try clear hcz9_0 hcz9_1 hcz9_2 hfz9_0 hfz9_1 hfz9_2
        obtain ⟨kq, x56_6, rfl, HA, HJ6, BK103, HB⟩ := hcut
        cases kq with
        | zero => exact absurd HA.out (by simp [spec_GoodComb.j1])
        | succ kj6 =>
         have H := HA.out
         clear HA
         simp only [spec_GoodComb.j1] at H
         by_cases c24 : x56_6 = true
         ·subst c24
          rw [if_pos rfl] at H
          obtain rfl := Option.some.inj H
          go_wp2
          go_ret
          exact ⟨eW, pH HB⟩
         ·replace c24 := Bool.eq_false_iff.mpr c24
          subst c24
          rw [if_neg (show ¬ (false = true) by decide)] at H
          have HC25 := aK H
          clear H
          go_upto_block 2 with (fail)
          go_cut [5] (fun v5 wc => ∃ (kq : Nat) (x5_24 : Bool), v5 = .bool x5_24 ∧ Aside0 (spec_GoodComb.j3 kq l0 x16_1 x5_24 l0 (l0.length : Int) x16_1 ((rd_T33 l0 x16_1).f0) ((rd_T33 l0 x16_1).f1) ((rd_T33 l0 x16_1).f2) = some r) ∧ Aside0 (kq ≤ kj6) ∧ Aside0 (wc.heap[gb103]? = some (.cells #[.int .i64 ((rd_T33 l0 x16_1).f0), .int .i64 ((rd_T33 l0 x16_1).f1), .int .i64 ((rd_T33 l0 x16_1).f2)] 33 (0, 0))) ∧ Aside0 (Below w.heap.size w wc))
          case first =>
           have H := HC25.out
           clear HC25
           have H' := aK H
           clear H
           go_wp2
           go_loopg [5, 6] kj6 (fun kq v5 v6 w' => ∃ (x5_3 : Bool) (x6_3 : Int), v5 = .bool x5_3 ∧ v6 = .int .i64 x6_3 ∧ Aside0 (spec_GoodComb.l1 kq l0 x16_1 x5_3 x6_3 l0 (l0.length : Int) x16_1 ((rd_T33 l0 x16_1).f0) ((rd_T33 l0 x16_1).f1) ((rd_T33 l0 x16_1).f2) = some r) ∧ Aside0 (kq ≤ kj6) ∧ Aside0 (w'.heap[gb103]? = some (.cells #[.int .i64 ((rd_T33 l0 x16_1).f0), .int .i64 ((rd_T33 l0 x16_1).f1), .int .i64 ((rd_T33 l0 x16_1).f2)] 33 (0, 0))) ∧ Aside0 (Below w.heap.size w w'))
           case atStart => exact ⟨((x16_1 == 0)), (wrap64 (x16_1 - 1)), rS, rS, H', ⟨Nat.le_refl _⟩, ⟨pB BK103⟩, ⟨pH HB⟩⟩
           case round =>
            clear H'
            try clear c1; try clear p1; try clear q1; try clear hx1; try clear c2; try clear p2; try clear c3; try clear c4; try clear c4b0; try clear c5; try clear c5b0; try clear c6; try clear c6b0; try clear p6; try clear c10; try clear c10b0; try clear c10b1; try clear c10b2; try clear p10; try clear q10; try clear hx10; try clear c13; try clear c15; try clear c17; try clear c18; try clear c18b0; try clear c18b1; try clear c24; try clear hx102_0; try clear hx102_1; try clear hx102_2; try clear p1; try clear p10; try clear p102; try clear p2; try clear p6; try clear q1; try clear q10; try clear q102; try clear hcz11_0 hcz11_1 hcz11_2 hfz11_0 hfz11_1 hfz11_2; try clear hcz19_0 hcz19_1 hcz19_2 hfz19_0 hfz19_1 hfz19_2; try clear hcz20_0 hcz20_1 hcz20_2 hfz20_0 hfz20_1 hfz20_2; try clear hcz21_0 hcz21_1 hcz21_2 hfz21_0 hfz21_1 hfz21_2; try clear hcz22_0 hcz22_1 hcz22_2 hfz22_0 hfz22_1 hfz22_2; try clear hcz23_0 hcz23_1 hcz23_2 hfz23_0 hfz23_1 hfz23_2; try clear hcz9_0 hcz9_1 hcz9_2 hfz9_0 hfz9_1 hfz9_2
            obtain ⟨x5_3, x6_3, rfl, rfl, HA, HK3, BK103, HB⟩ := hrel
            cases gk with
            | zero => exact absurd HA.out (by simp [spec_GoodComb.l1])
            | succ k3 =>
             have H := HA.out
             clear HA
             simp only [spec_GoodComb.l1] at H
             by_cases c26 : x6_3 ≥ 0
             ·rw [if_pos c26] at H
              have c26b0 : decide (0 ≤ x6_3) = true := decide_eq_true c26
              clear c26
              (first | rw [c26b0] | (simp only [i64_w, i32_w]; rw [c26b0]) | skip)
              by_cases c27 : x5_3 = true
              ·subst c27
               rw [if_pos rfl] at H
               have H' := aK H
               clear H
               go_wp2
               go_meet
               case rel => exact ⟨_, (true), rS, H', ⟨by have := HK1.out; have := HJ6.out; have := HK3.out; first | omega | exact Nat.le_refl _⟩, ⟨pB BK103⟩, ⟨pH HB⟩⟩
              ·replace c27 := Bool.eq_false_iff.mpr c27
               subst c27
               rw [if_neg (show ¬ (false = true) by decide)] at H
               by_cases c28 : 0 ≤ x6_3
               ·rw [if_pos c28] at H
                have c28b0 : decide (0 ≤ x6_3) = true := decide_eq_true c28
                clear c28
                by_cases c29 : x6_3 < (l0.length : Int)
                ·rw [if_pos c29] at H
                 have c29b0 : decide (x6_3 < (l0.length : Int)) = true := decide_eq_true c29
                 clear c29
                 have H' := aK H
                 clear H
                 obtain ⟨hcz30_0, hcz30_1, hcz30_2, hfz30_0, hfz30_1, hfz30_2⟩ := cA3 BK103
                 have p107 : 0 ≤ (x6_3 : Int) := dA
                 have q107 : x6_3 < (l0.length : Int) := dA
                 obtain ⟨ad107, e107, hx107_0, hx107_1, hx107_2⟩ := at_T33 HR0.out x6_3 p107 q107
                 obtain rfl : ad102 = ad107 := (by injection e107)
                 replace hx107_0 := uC HB hx107_0
                 replace hx107_1 := uC HB hx107_1
                 replace hx107_2 := uC HB hx107_2
                 replace p107 := eq_true p107
                 replace q107 := eq_true q107
                 go_wp2
                 go_roundg k3
                 case measure => have := HK1.out; have := HJ6.out; have := HK3.out; omega
                 case rel => exact ⟨((x6_3 == ((rd_T33 l0 x16_1).f2))), ((rd_T33 l0 x6_3).f2), rS, rS, H', ⟨by have := HK1.out; have := HJ6.out; have := HK3.out; omega⟩, ⟨pB BK103⟩, ⟨pH HB⟩⟩
                ·rw [if_neg c29] at H
                 exact absurd H (by simp)
               ·rw [if_neg c28] at H
                exact absurd H (by simp)
             ·rw [if_neg c26] at H
              have c26b0 : decide (0 ≤ x6_3) = false := decide_eq_false c26
              clear c26
              (first | rw [c26b0] | (simp only [i64_w, i32_w]; rw [c26b0]) | skip)
              have H' := aK H
              clear H
              go_wp2
              go_meet
              case rel => exact ⟨_, (x5_3), rS, H', ⟨by have := HK1.out; have := HJ6.out; have := HK3.out; first | omega | exact Nat.le_refl _⟩, ⟨pB BK103⟩, ⟨pH HB⟩⟩
          case rest =>
           clear HC25
           try clear c1; try clear p1; try clear q1; try clear hx1; try clear c2; try clear p2; try clear c3; try clear c4; try clear c4b0; try clear c5; try clear c5b0; try clear c6; try clear c6b0; try clear p6; try clear c10; try clear c10b0; try clear c10b1; try clear c10b2; try clear p10; try clear q10; try clear hx10; try clear c13; try clear c15; try clear c17; try clear c18; try clear c18b0; try clear c18b1; try clear c24; try clear c26; try clear c26b0; try clear c27; try clear c28; try clear c28b0; try clear c29; try clear c29b0; try clear hx102_0; try clear hx102_1; try clear hx102_2; try clear hx107_0; try clear hx107_1; try clear hx107_2; try clear p1; try clear p10; try clear p102; try clear p107; try clear p2; try clear p6; try clear q1; try clear q10; try clear q102; try clear q107; try clear hcz11_0 hcz11_1 hcz11_2 hfz11_0 hfz11_1 hfz11_2; try clear hcz19_0 hcz19_1 hcz19_2 hfz19_0 hfz19_1 hfz19_2; try clear hcz20_0 hcz20_1 hcz20_2 hfz20_0 hfz20_1 hfz20_2; try clear hcz21_0 hcz21_1 hcz21_2 hfz21_0 hfz21_1 hfz21_2; try clear hcz22_0 hcz22_1 hcz22_2 hfz22_0 hfz22_1 hfz22_2; try clear hcz23_0 hcz23_1 hcz23_2 hfz23_0 hfz23_1 hfz23_2; try clear hcz30_0 hcz30_1 hcz30_2 hfz30_0 hfz30_1 hfz30_2; try clear hcz9_0 hcz9_1 hcz9_2 hfz9_0 hfz9_1 hfz9_2
           obtain ⟨kq, x5_24, rfl, HA, HJ24, BK103, HB⟩ := hcut
           cases kq with
           | zero => exact absurd HA.out (by simp [spec_GoodComb.j3])
           | succ kj24 =>
            have H := HA.out
            clear HA
            simp only [spec_GoodComb.j3] at H
            have H' := aK H
            clear H
            go_wp2
            go_loopg [7, 8] kj24 (fun kq v7 v8 w' => ∃ (x7_4 : Int) (x8_4 : Int), v7 = .int .i64 x7_4 ∧ v8 = .int .i64 x8_4 ∧ Aside0 (spec_GoodComb.l2 kq l0 x16_1 x5_24 x7_4 x8_4 l0 (l0.length : Int) x16_1 ((rd_T33 l0 x16_1).f0) ((rd_T33 l0 x16_1).f1) ((rd_T33 l0 x16_1).f2) = some r) ∧ Aside0 (kq ≤ kj24) ∧ Aside0 (w'.heap[gb103]? = some (.cells #[.int .i64 ((rd_T33 l0 x16_1).f0), .int .i64 ((rd_T33 l0 x16_1).f1), .int .i64 ((rd_T33 l0 x16_1).f2)] 33 (0, 0))) ∧ Aside0 (Below w.heap.size w w'))
            case atStart => exact ⟨(0), (x16_1), rS, rS, H', ⟨Nat.le_refl _⟩, ⟨pB BK103⟩, ⟨pH HB⟩⟩
            case round =>
             clear H'
             try clear c1; try clear p1; try clear q1; try clear hx1; try clear c2; try clear p2; try clear c3; try clear c4; try clear c4b0; try clear c5; try clear c5b0; try clear c6; try clear c6b0; try clear p6; try clear c10; try clear c10b0; try clear c10b1; try clear c10b2; try clear p10; try clear q10; try clear hx10; try clear c13; try clear c15; try clear c17; try clear c18; try clear c18b0; try clear c18b1; try clear c24; try clear c26; try clear c26b0; try clear c27; try clear c28; try clear c28b0; try clear c29; try clear c29b0; try clear hx102_0; try clear hx102_1; try clear hx102_2; try clear hx107_0; try clear hx107_1; try clear hx107_2; try clear p1; try clear p10; try clear p102; try clear p107; try clear p2; try clear p6; try clear q1; try clear q10; try clear q102; try clear q107; try clear hcz11_0 hcz11_1 hcz11_2 hfz11_0 hfz11_1 hfz11_2; try clear hcz19_0 hcz19_1 hcz19_2 hfz19_0 hfz19_1 hfz19_2; try clear hcz20_0 hcz20_1 hcz20_2 hfz20_0 hfz20_1 hfz20_2; try clear hcz21_0 hcz21_1 hcz21_2 hfz21_0 hfz21_1 hfz21_2; try clear hcz22_0 hcz22_1 hcz22_2 hfz22_0 hfz22_1 hfz22_2; try clear hcz23_0 hcz23_1 hcz23_2 hfz23_0 hfz23_1 hfz23_2; try clear hcz30_0 hcz30_1 hcz30_2 hfz30_0 hfz30_1 hfz30_2; try clear hcz9_0 hcz9_1 hcz9_2 hfz9_0 hfz9_1 hfz9_2
             obtain ⟨x7_4, x8_4, rfl, rfl, HA, HK4, BK103, HB⟩ := hrel
             cases gk with
             | zero => exact absurd HA.out (by simp [spec_GoodComb.l2])
             | succ k4 =>
              have H := HA.out
              clear HA
              simp only [spec_GoodComb.l2] at H
              by_cases c31 : x8_4 ≥ 0
              ·rw [if_pos c31] at H
               have c31b0 : decide (0 ≤ x8_4) = true := decide_eq_true c31
               clear c31
               by_cases c32 : 0 ≤ x8_4
               ·rw [if_pos c32] at H
                have c32b0 : decide (0 ≤ x8_4) = true := decide_eq_true c32
                clear c32
                by_cases c33 : x8_4 < (l0.length : Int)
                ·rw [if_pos c33] at H
                 have c33b0 : decide (x8_4 < (l0.length : Int)) = true := decide_eq_true c33
                 clear c33
                 have H' := aK H
                 clear H
                 have p108 : 0 ≤ (x8_4 : Int) := dA
                 have q108 : x8_4 < (l0.length : Int) := dA
                 obtain ⟨ad108, e108, hx108_0, hx108_1, hx108_2⟩ := at_T33 HR0.out x8_4 p108 q108
                 obtain rfl : ad102 = ad108 := (by injection e108)
                 replace hx108_0 := uC HB hx108_0
                 replace hx108_1 := uC HB hx108_1
                 replace hx108_2 := uC HB hx108_2
                 replace p108 := eq_true p108
                 replace q108 := eq_true q108
                 go_wp2
                 go_roundg k4
                 case measure => have := HK1.out; have := HJ6.out; have := HJ24.out; have := HK4.out; omega
                 case rel => exact ⟨(wrap64 (x7_4 + 1)), ((rd_T33 l0 x8_4).f2), rS, rS, H', ⟨by have := HK1.out; have := HJ6.out; have := HJ24.out; have := HK4.out; omega⟩, ⟨pB BK103⟩, ⟨pH HB⟩⟩
                ·rw [if_neg c33] at H
                 exact absurd H (by simp)
               ·rw [if_neg c32] at H
                exact absurd H (by simp)
              ·rw [if_neg c31] at H
               have c31b0 : decide (0 ≤ x8_4) = false := decide_eq_false c31
               clear c31
               by_cases c34 : ((rd_T33 l0 x16_1).f0) = 2
               ·rw [if_pos c34] at H
                have c34b0 : (((rd_T33 l0 x16_1).f0) == 2) = true := beq_iff_eq.mpr c34
                have c34b1 : (((rd_T33 l0 x16_1).f0) != 2) = false := bne_eq_false_iff_eq.mpr c34
                clear c34
                by_cases c35 : x5_24 = true
                ·subst c35
                 rw [if_pos rfl] at H
                 by_cases c36 : x7_4 > 60
                 ·rw [if_pos c36] at H
                  have c36b0 : decide (60 < x7_4) = true := decide_eq_true c36
                  clear c36
                  obtain rfl := Option.some.inj H
                  obtain ⟨hcz37_0, hcz37_1, hcz37_2, hfz37_0, hfz37_1, hfz37_2⟩ := cA3 BK103
                  go_wp2
                  go_ret
                  exact ⟨eW, pH HB⟩
                 ·rw [if_neg c36] at H
                  have c36b0 : decide (60 < x7_4) = false := decide_eq_false c36
                  clear c36
                  replace H := Option.bind_eq_some_iff.mp H
                  obtain ⟨t109, A380, H⟩ := H
                  try dsimp only at H
                  have A38 := aK A380
                  clear A380
                  by_cases c39 : (t109.length : Int) = 2
                  ·rw [if_pos c39] at H
                   have c39b0 : ((t109.length : Int) == 2) = true := beq_iff_eq.mpr c39
                   have c39b1 : ((t109.length : Int) != 2) = false := bne_eq_false_iff_eq.mpr c39
                   clear c39
                   have H' := aK H
                   clear H
                   obtain ⟨hcz40_0, hcz40_1, hcz40_2, hfz40_0, hfz40_1, hfz40_2⟩ := cA3 BK103
                   go_wp2_with (first | (go_at_call 51; (with_reducible refine (spec_ldParts.calls k4 _ _ l0 x16_1 t109 _ ?side1 ?side2 A38.out).mono ?_); (case side1 => exact sC (Kd.C_below HR0.out HB.out)); (case side2 => exact HC0.out); rintro e w41 ⟨v110, rfl, ho0, hb⟩; have HO111 := aK (Kd.R_lower ho0 (below_size HB.out)); replace BK103 := qb BK103 hb; replace HB := qs HB hb; (try clear hb); (try clear ho0); obtain ⟨Ao42, co42, eo42⟩ := Kd.R_slice HO111.out; subst eo42))
                   go_roundg k4
                   case measure => have := HK1.out; have := HJ6.out; have := HJ24.out; have := HK4.out; omega
                   case rel => exact ⟨(wrap64 (x16_1 + 1)), rS, H', ⟨by have := HK1.out; have := HJ6.out; have := HJ24.out; have := HK4.out; omega⟩, ⟨pH HB⟩⟩
                  ·rw [if_neg c39] at H
                   have c39b0 : ((t109.length : Int) == 2) = false := beq_eq_false_iff_ne.mpr c39
                   have c39b1 : ((t109.length : Int) != 2) = true := bne_iff_ne.mpr c39
                   obtain rfl := Option.some.inj H
                   obtain ⟨hcz43_0, hcz43_1, hcz43_2, hfz43_0, hfz43_1, hfz43_2⟩ := cA3 BK103
                   go_wp2_with (first | (go_at_call 51; (with_reducible refine (spec_ldParts.calls k4 _ _ l0 x16_1 t109 _ ?side1 ?side2 A38.out).mono ?_); (case side1 => exact sC (Kd.C_below HR0.out HB.out)); (case side2 => exact HC0.out); rintro e w44 ⟨v110, rfl, ho0, hb⟩; have HO111 := aK (Kd.R_lower ho0 (below_size HB.out)); replace BK103 := qb BK103 hb; replace HB := qs HB hb; (try clear hb); (try clear ho0); obtain ⟨Ao45, co45, eo45⟩ := Kd.R_slice HO111.out; subst eo45))
                   go_ret
                   exact ⟨eW, pH HB⟩
                ·replace c35 := Bool.eq_false_iff.mpr c35
                 subst c35
                 rw [if_neg (show ¬ (false = true) by decide)] at H
                 obtain rfl := Option.some.inj H
                 obtain ⟨hcz46_0, hcz46_1, hcz46_2, hfz46_0, hfz46_1, hfz46_2⟩ := cA3 BK103
                 go_wp2
                 go_ret
                 exact ⟨eW, pH HB⟩
               ·rw [if_neg c34] at H
                have c34b0 : (((rd_T33 l0 x16_1).f0) == 2) = false := beq_eq_false_iff_ne.mpr c34
                have c34b1 : (((rd_T33 l0 x16_1).f0) != 2) = true := bne_iff_ne.mpr c34
                by_cases c47 : x5_24 = true
                ·subst c47
                 rw [if_pos rfl] at H
                 by_cases c48 : x7_4 > 60
                 ·rw [if_pos c48] at H
                  have c48b0 : decide (60 < x7_4) = true := decide_eq_true c48
                  clear c48
                  obtain rfl := Option.some.inj H
                  obtain ⟨hcz49_0, hcz49_1, hcz49_2, hfz49_0, hfz49_1, hfz49_2⟩ := cA3 BK103
                  go_wp2
                  go_ret
                  exact ⟨eW, pH HB⟩
                 ·rw [if_neg c48] at H
                  have c48b0 : decide (60 < x7_4) = false := decide_eq_false c48
                  clear c48
                  replace H := Option.bind_eq_some_iff.mp H
                  obtain ⟨t112, A500, H⟩ := H
                  try dsimp only at H
                  have A50 := aK A500
                  clear A500
                  by_cases c51 : (t112.length : Int) = 0
                  ·rw [if_pos c51] at H
                   have c51b0 : ((t112.length : Int) == 0) = true := beq_iff_eq.mpr c51
                   have c51b1 : ((t112.length : Int) != 0) = false := bne_eq_false_iff_eq.mpr c51
                   clear c51
                   have H' := aK H
                   clear H
                   obtain ⟨hcz52_0, hcz52_1, hcz52_2, hfz52_0, hfz52_1, hfz52_2⟩ := cA3 BK103
                   go_wp2_with (first | (go_at_call 51; (with_reducible refine (spec_ldParts.calls k4 _ _ l0 x16_1 t112 _ ?side1 ?side2 A50.out).mono ?_); (case side1 => exact sC (Kd.C_below HR0.out HB.out)); (case side2 => exact HC0.out); rintro e w53 ⟨v113, rfl, ho0, hb⟩; have HO114 := aK (Kd.R_lower ho0 (below_size HB.out)); replace BK103 := qb BK103 hb; replace HB := qs HB hb; (try clear hb); (try clear ho0); obtain ⟨Ao54, co54, eo54⟩ := Kd.R_slice HO114.out; subst eo54))
                   go_roundg k4
                   case measure => have := HK1.out; have := HJ6.out; have := HJ24.out; have := HK4.out; omega
                   case rel => exact ⟨(wrap64 (x16_1 + 1)), rS, H', ⟨by have := HK1.out; have := HJ6.out; have := HJ24.out; have := HK4.out; omega⟩, ⟨pH HB⟩⟩
                  ·rw [if_neg c51] at H
                   have c51b0 : ((t112.length : Int) == 0) = false := beq_eq_false_iff_ne.mpr c51
                   have c51b1 : ((t112.length : Int) != 0) = true := bne_iff_ne.mpr c51
                   have c51b2 : ¬ (t112 = []) := fun h_ => c51 (by rw [h_]; rfl)
                   obtain rfl := Option.some.inj H
                   obtain ⟨hcz55_0, hcz55_1, hcz55_2, hfz55_0, hfz55_1, hfz55_2⟩ := cA3 BK103
                   go_wp2_with (first | (go_at_call 51; (with_reducible refine (spec_ldParts.calls k4 _ _ l0 x16_1 t112 _ ?side1 ?side2 A50.out).mono ?_); (case side1 => exact sC (Kd.C_below HR0.out HB.out)); (case side2 => exact HC0.out); rintro e w56 ⟨v113, rfl, ho0, hb⟩; have HO114 := aK (Kd.R_lower ho0 (below_size HB.out)); replace BK103 := qb BK103 hb; replace HB := qs HB hb; (try clear hb); (try clear ho0); obtain ⟨Ao57, co57, eo57⟩ := Kd.R_slice HO114.out; subst eo57))
                   go_ret
                   exact ⟨eW, pH HB⟩
                ·replace c47 := Bool.eq_false_iff.mpr c47
                 subst c47
                 rw [if_neg (show ¬ (false = true) by decide)] at H
                 obtain rfl := Option.some.inj H
                 obtain ⟨hcz58_0, hcz58_1, hcz58_2, hfz58_0, hfz58_1, hfz58_2⟩ := cA3 BK103
                 go_wp2
                 go_ret
                 exact ⟨eW, pH HB⟩
      ·rw [if_neg c6] at H
       exact absurd H (by simp)
     ·rw [if_neg c5] at H
      exact absurd H (by simp)
    ·rw [if_neg c4] at H
     have c4b0 : decide (x16_1 < (l0.length : Int)) = false := decide_eq_false c4
     clear c4
     obtain rfl := Option.some.inj H
     go_wp2
     go_ret
     exact ⟨eW, pH HB⟩
 ·replace c3 := Bool.eq_false_iff.mpr c3
  subst c3
  rw [if_neg (show ¬ (false = true) by decide)] at H
  obtain rfl := Option.some.inj H
  go_enter Try.func31, Try.ntmps31
  go_wp2_with (first | ((with_reducible refine gate_callee (f := 26) rfl ?_); refine goesL_ (some 12) rfl rfl Try.func26 (by kernel_rfl) rfl #[.int .i64 (l0.length : Int), .int .i64 1, .int .i64 200] rfl tA ?_; (with_reducible refine (spec_l1In.calls (l0.length : Int) 1 200 false _ A2.out).mono ?_); rintro e w' ⟨rfl, ⟨nd, rfl⟩⟩; refine ⟨_, rfl, ?_⟩))
  go_ret
  exact ⟨eW, pH HB⟩


namespace Flat49
mutual
def flT : S49 → Int → List S33 → List S33
 | ⟨k, n, ks⟩, up, l => flL ks (l.length : Int) (l ++ [⟨k, n, up⟩])
def flL : List S49 → Int → List S33 → List S33
 | [], _, l => l
 | x :: xs, k, l => flL xs k (if l.length ≤ 200 then flT x k l else l)
end
theorem flT_eq (x : S49) (up : Int) (l : List S33) : flT x up l = flL x.f2 (l.length : Int) (l ++ [⟨x.f0, x.f1, up⟩]) := by cases x; rw [flT]
theorem flL_cons (x : S49) (xs : List S49) (k : Int) (l : List S33) : flL (x :: xs) k l = flL xs k (if l.length ≤ 200 then flT x k l else l) := by rw [flL]
theorem flL_nil (k : Int) (l : List S33) : flL [] k l = l := by rw [flL]
theorem rd_drop (l : List S49) (i : Nat) (h : i < l.length) : l.drop i = rd_T49 l (i : Int) :: l.drop (i + 1) := by
 rw [List.drop_eq_getElem_cons h]
 congr 1
 unfold rd_T49
 rw [Int.toNat_natCast, List.getD_eq_getElem?_getD, List.getElem?_eq_getElem h]; rfl
theorem rd_mem (l : List S49) (i : Int) (h0 : 0 ≤ i) (h1 : i < l.length) : rd_T49 l i ∈ l := by
 have hlt : i.toNat < l.length := by omega
 have e : rd_T49 l i = l[i.toNat] := by unfold rd_T49; rw [List.getD_eq_getElem?_getD, List.getElem?_eq_getElem hlt]; rfl
 rw [e]; exact List.getElem_mem hlt
theorem len_of : ∀ (N : Nat), (∀ (x : S49) (up : Int) (l : List S33), SizeOf.sizeOf x ≤ N → l.length ≤ 200 → (flT x up l).length ≤ 201) ∧ (∀ (xs : List S49) (k : Int) (l : List S33), SizeOf.sizeOf xs ≤ N → l.length ≤ 201 → (flL xs k l).length ≤ 201) := by
 intro N
 induction N with
 | zero =>
  refine ⟨fun x up l h => ?_, fun xs k l h => ?_⟩
  ·cases x; simp at h
  ·cases xs <;> simp at h
 | succ N ih =>
  refine ⟨fun x up l h hl => ?_, fun xs k l h hl => ?_⟩
  ·cases x with
   | mk k n ks =>
    rw [flT]
    refine ih.2 ks _ _ (by simp at h; omega) ?_
    rw [List.length_append]; show l.length + 1 ≤ 201; omega
  ·cases xs with
   | nil => rw [flL]; exact hl
   | cons x xs =>
    rw [flL]
    have h1 : SizeOf.sizeOf x ≤ N := by simp at h; omega
    have h2 : SizeOf.sizeOf xs ≤ N := by simp at h; omega
    refine ih.2 xs k _ h2 ?_
    split
    ·exact ih.1 x k l h1 (by assumption)
    ·exact hl
theorem flT_len (x : S49) (up : Int) (l : List S33) (h : l.length ≤ 200) : (flT x up l).length ≤ 201 := (len_of _).1 x up l (Nat.le_refl _) h

set_option maxHeartbeats 4000000 in
set_option maxRecDepth 100000 in
theorem node_some (w0 : World) (a0 a1 up : Int) (ks : List S49) (A : Option Addr) (c : Nat) (l : List S33) (A0 : Option Addr) (c0 : Nat) (w : World) (hC : Kd.C k49 w0 A ks.length ks) (hc : ks.length ≤ c) (hl : l.length ≤ 200)
  (hO : Kd.R k33 33 w w0.heap.size (fun _ => True) (.slice A0 l.length c0) l) (hB : Below w0.heap.size w0 w)
  (ih : ∀ (j : Nat) (A : Option Addr) (c : Nat) (acc : List S33) (v : Value) (w : World), j < ks.length → (rd_T49 ks (j : Int)).f2.length ≤ c → acc.length ≤ 200 → Kd.R k33 33 w w0.heap.size (fun _ => True) v acc → Below w0.heap.size w0 w → Kd.C k49 w0 A (rd_T49 ks (j : Int)).f2.length (rd_T49 ks (j : Int)).f2 →
   Calls Try.prog 30 #[v, .agg #[.int .i64 (rd_T49 ks (j : Int)).f0, .int .i64 (rd_T49 ks (j : Int)).f1, .slice A (rd_T49 ks (j : Int)).f2.length c], .int .i64 (l.length : Int)] w fun e w' => ∃ v2, e = .returned v2 ∧ Kd.R k33 33 w' w0.heap.size (fun _ => True) v2 (flT (rd_T49 ks (j : Int)) (l.length : Int) acc) ∧ Below w0.heap.size w0 w') :
  Calls Try.prog 30 #[.slice A0 l.length c0, .agg #[.int .i64 a0, .int .i64 a1, .slice A ks.length c], .int .i64 up] w fun e w' => ∃ v2, e = .returned v2 ∧ Kd.R k33 33 w' w0.heap.size (fun _ => True) v2 (flL ks (l.length : Int) (l ++ [⟨a0, a1, up⟩])) ∧ Below w0.heap.size w0 w' := by
 have hu77 := Try.underlying49
 have HM := aK hC.2.1
 have HC0 := aK hC
 have HL := aK hl
 have HO := aK hO
 have HB := aK hB
 have IH := aK ih
 clear hC hl hO hB ih
 go_enter Try.func30, Try.ntmps30
 go_wp2_with (first | ((with_reducible refine gate_dst (N := 4) rfl ?_); refine bE (N := 4) (cs := #[.int .i64 a0, .int .i64 a1, .slice A ks.length c]) (t := 49) ?_; intro gb hg w5 hbox hb; have n0_ := aK (below_step HB.out hb); have n1_ := aK (hbox); have n2_ := aK (Kd.R_below HO.out hb); clear HB HO; have HB := n0_; have BK := n1_; have HO := n2_; clear n0_ n1_ n2_; clear hb hbox hg; have hcz_0 : w5.cell? ⟨gb, 0, none⟩ = some (.int .i64 a0) := (blk_cell BK.out 0).trans rfl; have hcz_1 : w5.cell? ⟨gb, 1, none⟩ = some (.int .i64 a1) := (blk_cell BK.out 1).trans rfl; have hcz_2 : w5.cell? ⟨gb, 2, none⟩ = some (.slice A ks.length c) := (blk_cell BK.out 2).trans rfl; have hfz_0 := blk_frozen BK.out 0; have hfz_1 := blk_frozen BK.out 1; have hfz_2 := blk_frozen BK.out 2) | ((with_reducible refine gate_builtin (b := .append) (xs := #[.tmp 12, .tmp 19]) rfl ?_); at_builtin; refine Kd.R_append k33 (w0 := w0) w0.heap.size rfl (.tmp 12) (.tmp 19) 25 33 (.agg #[(.int .i64 0), (.int .i64 0), (.int .i64 0)]) 24 rfl Try.underlying25 info33 rfl (by decide) (by omega) (.slice A0 l.length c0) l (⟨a0, a1, up⟩ : S33) [.int .i64 a0, .int .i64 a1, .int .i64 up] (fun _ => True) (fun _ => False) rfl (by first | (go_simp; done) | (go_simp; rfl)) ?aP (fun _ hk => hk.elim) ?aF ?aO ?aB ?aS ?aL ?_; (case aP => exact k33_mkM _ _ _ (⟨a0, a1, up⟩ : S33)); (case aB => exact HB.out); (case aF => exact (fun _ _ => trivial)); (case aO => exact HO.out); (case aS => exact (below_size HB.out)); (case aL => have := HL.out; omega); intro v1 w7 ho hb hg hat; have n0_ := aK (hb); have n1_ := aK (ho); have n2_ := aK ((hg.block gb (blk_lt BK.out) (Kd.R_ne HO.out BK.out (by decide))).trans BK.out); clear HB HO BK; clear hcz_0 hfz_0 hcz_1 hfz_1 hcz_2 hfz_2; have HB := n0_; have HO := n1_; have BK := n2_; clear n0_ n1_ n2_; clear ho hb hg hat; have hcza_0 : w7.cell? ⟨gb, 0, none⟩ = some (.int .i64 a0) := (blk_cell BK.out 0).trans rfl; have hcza_1 : w7.cell? ⟨gb, 1, none⟩ = some (.int .i64 a1) := (blk_cell BK.out 1).trans rfl; have hcza_2 : w7.cell? ⟨gb, 2, none⟩ = some (.slice A ks.length c) := (blk_cell BK.out 2).trans rfl; have hfza_0 := blk_frozen BK.out 0; have hfza_1 := blk_frozen BK.out 1; have hfza_2 := blk_frozen BK.out 2))
 go_loopg [0, 24] (ks.length + 1) (fun kq v0 v24 w' => ∃ (i : Int) (acc : List S33), v24 = .int .i64 i ∧ Aside0 (Kd.R k33 33 w' w0.heap.size (fun _ => True) v0 acc) ∧ Aside0 (0 ≤ i ∧ i ≤ ks.length ∧ (kq : Int) = ks.length - i + 1) ∧ Aside0 (acc.length ≤ 201 ∧ flL (ks.drop i.toNat) (l.length : Int) acc = flL ks (l.length : Int) (l ++ [⟨a0, a1, up⟩])) ∧ Aside0 (Below w0.heap.size w0 w'))
 case atStart => exact ⟨0, l ++ [⟨a0, a1, up⟩], rfl, HO, ⟨by omega, by omega, by omega⟩, ⟨by have := HL.out; rw [List.length_append]; show l.length + 1 ≤ 201; omega, by rw [show (0 : Int).toNat = 0 from rfl, List.drop_zero]⟩, HB⟩
 case round =>
  clear HB HO BK
  obtain ⟨i, acc, rfl, HO0, HA, HF, HB⟩ := hrel
  obtain ⟨A1, c1, rfl⟩ := Kd.R_slice HO0.out
  have HO := HO0
  clear HO0
  by_cases c2 : i < (ks.length : Int)
  ·have cb : decide (i < (ks.length : Int)) = true := decide_eq_true c2
   have cz : decide (0 ≤ i) = true := decide_eq_true HA.out.1
   obtain ⟨j, rfl⟩ : ∃ j : Nat, i = (j : Int) := ⟨i.toNat, by have := HA.out.1; omega⟩
   obtain ⟨ad, A2, c2_, e1, hx0, hx1, hx2, hl2, hi2⟩ := at_T49 (HC0.out) (j : Int) HA.out.1 c2
   cases e1
   simp only [Int.toNat_natCast] at hx0 hx1 hx2
   have HC2 := aK hl2
   have HR2 := aK hi2
   clear hl2 hi2
   replace hx0 := uC HB hx0
   replace hx1 := uC HB hx1
   replace hx2 := uC HB hx2
   have w1 : wrap64 ((j : Int) + 1) = (j : Int) + 1 := by have := HM.out; unfold wrap64; omega
   have W1 := aK w1
   have PI := aK (show j < ks.length by omega)
   have p1 := eq_true HA.out.1
   have q1 := eq_true c2
   clear c2 w1
   have e9 : flL (ks.drop j) (l.length : Int) acc = flL (ks.drop (j + 1)) (l.length : Int) (if acc.length ≤ 200 then flT (rd_T49 ks (j : Int)) (l.length : Int) acc else acc) := by rw [rd_drop ks j PI.out, flL_cons]
   have E9 := aK e9
   clear e9
   obtain ⟨k1, rfl⟩ : ∃ m, gk = m + 1 := ⟨gk - 1, by have := HA.out; have := PI.out; omega⟩
   by_cases c3 : acc.length ≤ 200
   ·have c3b : decide ((acc.length : Int) ≤ 200) = true := decide_eq_true (by omega)
    have CL := aK c3
    clear c3
    go_wp2_with (first | ((with_reducible refine gate_dst (N := 9) rfl ?_); refine bE (N := 9) (cs := #[.int .i64 0, .int .i64 0, .slice none 0 0]) (t := 49) ?_; intro g2 hg w9 hbox hb; have n0_ := aK (below_step HB.out hb); have n1_ := aK (hbox); have n2_ := aK (Kd.R_below HO.out hb); have n3_ := aK ((by rw [hg]; exact below_size HB.out : w0.heap.size ≤ g2)); have hy0 := (hb.cell (World.block_lt_of_cell? _ _ hx0)).trans hx0; have hy1 := (hb.cell (World.block_lt_of_cell? _ _ hx1)).trans hx1; have hy2 := (hb.cell (World.block_lt_of_cell? _ _ hx2)).trans hx2; clear hx0 hx1 hx2; have hx0 := hy0; have hx1 := hy1; have hx2 := hy2; clear hy0 hy1 hy2; clear HB HO; have HB := n0_; have BK2 := n1_; have HO := n2_; have GE2 := n3_; clear n0_ n1_ n2_ n3_; clear hb hbox hg; have hczb_0 : w9.cell? ⟨g2, 0, none⟩ = some (.int .i64 0) := (blk_cell BK2.out 0).trans rfl; have hczb_1 : w9.cell? ⟨g2, 1, none⟩ = some (.int .i64 0) := (blk_cell BK2.out 1).trans rfl; have hczb_2 : w9.cell? ⟨g2, 2, none⟩ = some (.slice none 0 0) := (blk_cell BK2.out 2).trans rfl; have hfzb_0 := blk_frozen BK2.out 0; have hfzb_1 := blk_frozen BK2.out 1; have hfzb_2 := blk_frozen BK2.out 2) | ((with_reducible refine gate_callee (f := 30) rfl ?_); refine goesL_ (some 34) rfl rfl Try.func30 (by kernel_rfl) rfl #[.slice A1 acc.length c1, .agg #[.int .i64 (rd_T49 ks (j : Int)).f0, .int .i64 (rd_T49 ks (j : Int)).f1, .slice A2 (rd_T49 ks (j : Int)).f2.length c2_], .int .i64 (l.length : Int)] rfl tA ?_; refine (IH.out j A2 c2_ acc (.slice A1 acc.length c1) _ (PI.out) HC2.out (by have := CL.out; omega) (Kd.R_mono (Kd.R_far (p := ⟨g2, 2, none⟩) (Kd.R_far (p := ⟨g2, 1, none⟩) (Kd.R_far (p := ⟨g2, 0, none⟩) (Kd.R_types HO.out BK2.out (by decide)) (fun _ hk => hk.2) (.int .i64 (rd_T49 ks (j : Int)).f0)) (fun _ hk => hk.2) (.int .i64 (rd_T49 ks (j : Int)).f1)) (fun _ hk => hk.2) (.slice A2 (rd_T49 ks (j : Int)).f2.length c2_)) (fun _ hk => hk.1)) (below_set (below_set (below_set HB.out GE2.out) GE2.out) GE2.out) HR2.out).mono ?_; rintro e w7 ⟨v2, rfl, ho2, hb2⟩; refine ⟨_, rfl, ?_⟩; have n0_ := aK hb2; have n1_ := aK ho2; clear HB HO BK2; have HB := n0_; have HO := n1_; clear n0_ n1_; clear ho2 hb2))
    go_roundg k1
    case measure => omega
    case rel => exact ⟨(j : Int) + 1, _, by first | rfl | rw [W1.out], HO, ⟨by have := HA.out; omega, by have := PI.out; omega, by have := HA.out; omega⟩, ⟨flT_len _ _ _ CL.out, by rw [← HF.out.2, show ((j : Int) + 1).toNat = j + 1 by omega, show ((j : Int)).toNat = j by omega, E9.out, if_pos CL.out]⟩, HB⟩
   ·have c3b : decide ((acc.length : Int) ≤ 200) = false := decide_eq_false (by omega)
    have CL := aK c3
    clear c3
    go_wp2_with ((with_reducible refine gate_dst (N := 9) rfl ?_); refine bE (N := 9) (cs := #[.int .i64 0, .int .i64 0, .slice none 0 0]) (t := 49) ?_; intro g2 hg w9 hbox hb; have n0_ := aK (below_step HB.out hb); have n1_ := aK (hbox); have n2_ := aK (Kd.R_below HO.out hb); have n3_ := aK ((by rw [hg]; exact below_size HB.out : w0.heap.size ≤ g2)); have hy0 := (hb.cell (World.block_lt_of_cell? _ _ hx0)).trans hx0; have hy1 := (hb.cell (World.block_lt_of_cell? _ _ hx1)).trans hx1; have hy2 := (hb.cell (World.block_lt_of_cell? _ _ hx2)).trans hx2; clear hx0 hx1 hx2; have hx0 := hy0; have hx1 := hy1; have hx2 := hy2; clear hy0 hy1 hy2; clear HB HO; have HB := n0_; have BK2 := n1_; have HO := n2_; have GE2 := n3_; clear n0_ n1_ n2_ n3_; clear hb hbox hg; have hczb_0 : w9.cell? ⟨g2, 0, none⟩ = some (.int .i64 0) := (blk_cell BK2.out 0).trans rfl; have hczb_1 : w9.cell? ⟨g2, 1, none⟩ = some (.int .i64 0) := (blk_cell BK2.out 1).trans rfl; have hczb_2 : w9.cell? ⟨g2, 2, none⟩ = some (.slice none 0 0) := (blk_cell BK2.out 2).trans rfl; have hfzb_0 := blk_frozen BK2.out 0; have hfzb_1 := blk_frozen BK2.out 1; have hfzb_2 := blk_frozen BK2.out 2)
    go_roundg k1
    case measure => omega
    case rel => exact ⟨(j : Int) + 1, acc, by first | rfl | rw [W1.out], ⟨(Kd.R_mono (Kd.R_far (p := ⟨g2, 2, none⟩) (Kd.R_far (p := ⟨g2, 1, none⟩) (Kd.R_far (p := ⟨g2, 0, none⟩) (Kd.R_types HO.out BK2.out (by decide)) (fun _ hk => hk.2) (.int .i64 (rd_T49 ks (j : Int)).f0)) (fun _ hk => hk.2) (.int .i64 (rd_T49 ks (j : Int)).f1)) (fun _ hk => hk.2) (.slice A2 (rd_T49 ks (j : Int)).f2.length c2_)) (fun _ hk => hk.1))⟩, ⟨by have := HA.out; omega, by have := PI.out; omega, by have := HA.out; omega⟩, ⟨HF.out.1, by rw [← HF.out.2, show ((j : Int) + 1).toNat = j + 1 by omega, show ((j : Int)).toNat = j by omega, E9.out, if_neg CL.out]⟩, ⟨(below_set (below_set (below_set HB.out GE2.out) GE2.out) GE2.out)⟩⟩
  ·have cb : decide (i < (ks.length : Int)) = false := decide_eq_false c2
   have hi : i.toNat = ks.length := by have := HA.out; omega
   have e := HF.out.2
   rw [hi, List.drop_length, flL_nil] at e
   have E := aK e
   clear c2 hi e
   go_wp2
   go_ret
   exact ⟨_, rfl, by rw [← E.out]; exact HO.out, HB.out⟩

theorem flat_some (w0 : World) : ∀ (N : Nat) (x : S49) (up : Int) (A : Option Addr) (c : Nat) (l : List S33) (v : Value) (w : World), SizeOf.sizeOf x.f2 ≤ N → x.f2.length ≤ c → l.length ≤ 200 → Kd.R k33 33 w w0.heap.size (fun _ => True) v l → Below w0.heap.size w0 w → Kd.C k49 w0 A x.f2.length x.f2 →
  Calls Try.prog 30 #[v, .agg #[.int .i64 x.f0, .int .i64 x.f1, .slice A x.f2.length c], .int .i64 up] w fun e w' => ∃ v2, e = .returned v2 ∧ Kd.R k33 33 w' w0.heap.size (fun _ => True) v2 (flT x up l) ∧ Below w0.heap.size w0 w' := by
 intro N
 induction N with
 | zero =>
  intro x up A c l v w hN
  cases h : x.f2 with
  | nil => rw [h] at hN; simp at hN
  | cons y ys => rw [h] at hN; simp at hN
 | succ N ih =>
  intro x up A c l v w hN hc hl hO hB hC
  obtain ⟨A0, c0, rfl⟩ := Kd.R_slice hO
  rw [flT_eq]
  refine node_some w0 x.f0 x.f1 up x.f2 A c l A0 c0 w hC hc hl hO hB fun j A2 c2 acc v2 w2 hj hc2 hacc hO2 hB2 hC2 => ?_
  refine ih (rd_T49 x.f2 (j : Int)) (l.length : Int) A2 c2 acc v2 w2 ?_ hc2 hacc hO2 hB2 hC2
  have h1 := List.sizeOf_lt_of_mem (rd_mem x.f2 (j : Int) (by omega) (by omega))
  have h2 : ∀ y : S49, SizeOf.sizeOf y.f2 < SizeOf.sizeOf y := fun y => by cases y; simp; omega
  have h3 := h2 (rd_T49 x.f2 (j : Int))
  omega
end Flat49

def spec_ldTold.f (k : Nat) (a0_0 : Int) (a0_1 : Int) (l0_2 : List (S49)) : Option ((List (S33)) × Bool) := (spec_GoodComb.f k (Flat49.flT ⟨a0_0, a0_1, l0_2⟩ (-1) [])).bind fun b => (if b = true then (some (Flat49.flT ⟨a0_0, a0_1, l0_2⟩ (-1) [], true)) else (some (([] : List S33), false)))
set_option maxHeartbeats 4000000 in
set_option maxRecDepth 100000 in
theorem spec_ldTold.calls (k : Nat) (a0_0 : Int) (a0_1 : Int) (A0_2 : Option Addr) (c0_2 : Nat) (l0_2 : List (S49)) (r1 : List (S33)) (r2 : Bool) (w : World) (hr0_2 : Kd.C k49 w A0_2 l0_2.length l0_2) (hc0_2 : l0_2.length ≤ c0_2) (h : spec_ldTold.f k a0_0 a0_1 l0_2 = some (r1, r2)) :
  Calls Try.prog 16 #[.agg #[.int .i64 a0_0, .int .i64 a0_1, .slice A0_2 l0_2.length c0_2]] w fun e w' => ∃ v0_ : Value, e = .returned (.tuple #[v0_, .bool r2]) ∧ Kd.R k33 33 w' w.heap.size (fun _ => True) v0_ r1 ∧ Below w.heap.size w w' := by
 have hu77 := Try.underlying49
 have HR0 := aK hr0_2
 have HC0 := aK hc0_2
 clear hr0_2 hc0_2
 have HB := aK (Below.refl w.heap.size w)
 have H : ((spec_GoodComb.f k (Flat49.flT ⟨a0_0, a0_1, l0_2⟩ (-1) [])).bind fun b => (if b = true then (some (Flat49.flT ⟨a0_0, a0_1, l0_2⟩ (-1) [], true)) else (some (([] : List S33), false)))) = some (r1, r2) := h
 clear h
 replace H := Option.bind_eq_some_iff.mp H
 obtain ⟨b, HG0, H⟩ := H
 have HG := aK HG0
 clear HG0
 cases b with
 | true =>
  rw [if_pos rfl] at H
  simp only [Option.some.injEq, Prod.mk.injEq] at H
  obtain ⟨rfl, rfl⟩ := H
  go_enter Try.func16, Try.ntmps16
  go_wp2_with (first | ((with_reducible refine gate_dst (N := 1) rfl ?_); refine bE (N := 1) (cs := #[.int .i64 a0_0, .int .i64 a0_1, .slice A0_2 l0_2.length c0_2]) (t := 49) ?_; intro gb hg w5 hbox hb; have n0_ := aK (below_step HB.out hb); have BK := aK hbox; clear HB; have HB := n0_; clear n0_; clear hb hbox hg; have hcz_0 : w5.cell? ⟨gb, 0, none⟩ = some (.int .i64 a0_0) := (blk_cell BK.out 0).trans rfl; have hcz_1 : w5.cell? ⟨gb, 1, none⟩ = some (.int .i64 a0_1) := (blk_cell BK.out 1).trans rfl; have hcz_2 : w5.cell? ⟨gb, 2, none⟩ = some (.slice A0_2 l0_2.length c0_2) := (blk_cell BK.out 2).trans rfl; have hfz_0 := blk_frozen BK.out 0; have hfz_1 := blk_frozen BK.out 1; have hfz_2 := blk_frozen BK.out 2) | ((with_reducible refine gate_callee (f := 30) rfl ?_); refine goesL_ (some 6) rfl rfl Try.func30 (by kernel_rfl) rfl #[.slice none 0 0, .agg #[.int .i64 a0_0, .int .i64 a0_1, .slice A0_2 l0_2.length c0_2], .int .i64 (-1)] rfl tA ?_; refine (Flat49.flat_some w (SizeOf.sizeOf l0_2) (⟨a0_0, a0_1, l0_2⟩ : S49) (-1) A0_2 c0_2 [] (.slice none 0 0) _ (Nat.le_refl _) HC0.out (by simp) (Kd.R_nil _ _ _ _ _) HB.out HR0.out).mono ?_; rintro e w7 ⟨v2, rfl, ho2, hb2⟩; refine ⟨_, rfl, ?_⟩; obtain ⟨A1, c1, rfl⟩ := Kd.R_slice ho2; have n0_ := aK hb2; have n1_ := aK ho2; clear HB BK; have HB := n0_; have HO := n1_; clear n0_ n1_; clear ho2 hb2) | ((with_reducible refine gate_callee (f := 31) rfl ?_); refine goesL_ (some 8) rfl rfl Try.func31 (by kernel_rfl) rfl #[.slice A1 (Flat49.flT (⟨a0_0, a0_1, l0_2⟩ : S49) (-1) []).length c1] rfl tA ?_; refine (spec_GoodComb.calls k _ _ _ true _ (Kd.R_reads' HO.out).2.2 (Kd.R_reads' HO.out).2.1 HG.out).mono ?_; rintro e w8 ⟨rfl, hb⟩; refine ⟨_, rfl, ?_⟩; have n0_ := aK (below_step HB.out hb); have n1_ := aK (Kd.R_below HO.out hb); clear HB HO; have HB := n0_; have HO := n1_; clear n0_ n1_; clear hb))
  go_ret2
  exact ⟨_, rfl, HO.out, HB.out⟩
 | false =>
  rw [if_neg (by decide)] at H
  simp only [Option.some.injEq, Prod.mk.injEq] at H
  obtain ⟨rfl, rfl⟩ := H
  go_enter Try.func16, Try.ntmps16
  go_wp2_with (first | ((with_reducible refine gate_dst (N := 1) rfl ?_); refine bE (N := 1) (cs := #[.int .i64 a0_0, .int .i64 a0_1, .slice A0_2 l0_2.length c0_2]) (t := 49) ?_; intro gb hg w5 hbox hb; have n0_ := aK (below_step HB.out hb); have BK := aK hbox; clear HB; have HB := n0_; clear n0_; clear hb hbox hg; have hcz_0 : w5.cell? ⟨gb, 0, none⟩ = some (.int .i64 a0_0) := (blk_cell BK.out 0).trans rfl; have hcz_1 : w5.cell? ⟨gb, 1, none⟩ = some (.int .i64 a0_1) := (blk_cell BK.out 1).trans rfl; have hcz_2 : w5.cell? ⟨gb, 2, none⟩ = some (.slice A0_2 l0_2.length c0_2) := (blk_cell BK.out 2).trans rfl; have hfz_0 := blk_frozen BK.out 0; have hfz_1 := blk_frozen BK.out 1; have hfz_2 := blk_frozen BK.out 2) | ((with_reducible refine gate_callee (f := 30) rfl ?_); refine goesL_ (some 6) rfl rfl Try.func30 (by kernel_rfl) rfl #[.slice none 0 0, .agg #[.int .i64 a0_0, .int .i64 a0_1, .slice A0_2 l0_2.length c0_2], .int .i64 (-1)] rfl tA ?_; refine (Flat49.flat_some w (SizeOf.sizeOf l0_2) (⟨a0_0, a0_1, l0_2⟩ : S49) (-1) A0_2 c0_2 [] (.slice none 0 0) _ (Nat.le_refl _) HC0.out (by simp) (Kd.R_nil _ _ _ _ _) HB.out HR0.out).mono ?_; rintro e w7 ⟨v2, rfl, ho2, hb2⟩; refine ⟨_, rfl, ?_⟩; obtain ⟨A1, c1, rfl⟩ := Kd.R_slice ho2; have n0_ := aK hb2; have n1_ := aK ho2; clear HB BK; have HB := n0_; have HO := n1_; clear n0_ n1_; clear ho2 hb2) | ((with_reducible refine gate_callee (f := 31) rfl ?_); refine goesL_ (some 8) rfl rfl Try.func31 (by kernel_rfl) rfl #[.slice A1 (Flat49.flT (⟨a0_0, a0_1, l0_2⟩ : S49) (-1) []).length c1] rfl tA ?_; refine (spec_GoodComb.calls k _ _ _ false _ (Kd.R_reads' HO.out).2.2 (Kd.R_reads' HO.out).2.1 HG.out).mono ?_; rintro e w8 ⟨rfl, hb⟩; refine ⟨_, rfl, ?_⟩; have n0_ := aK (below_step HB.out hb); have n1_ := aK (Kd.R_below HO.out hb); clear HB HO; have HB := n0_; have HO := n1_; clear n0_ n1_; clear hb))
  go_ret2
  exact ⟨_, rfl, Kd.R_nil _ _ _ _ _, HB.out⟩

def spec_ldApp.f (a0_0 : Int) (a0_1 : Int) (l0_2 : List (S49)) (a1_0 : Int) (a1_1 : Int) (l1_2 : List (S49)) : Option (Int × Int × (List (S49))) := some (2, 0, (([(⟨a0_0, a0_1, l0_2⟩ : S49), (⟨a1_0, a1_1, l1_2⟩ : S49)] : List (S49))))
set_option maxHeartbeats 8000000 in
set_option maxRecDepth 100000 in
theorem spec_ldApp.calls (a0_0 : Int) (a0_1 : Int) (P0_2_ : Nat → Prop) (A0_2 : Option Addr) (c0_2 : Nat) (l0_2 : List (S49)) (a1_0 : Int) (a1_1 : Int) (P1_2_ : Nat → Prop) (A1_2 : Option Addr) (c1_2 : Nat) (l1_2 : List (S49)) (r1 : Int) (r2 : Int) (r3 : List (S49)) (w : World) (hs0_2 : Kd.V k49 49 w w.heap.size (fun k_ => P0_2_ k_) (.slice A0_2 l0_2.length c0_2) l0_2) (hs1_2 : Kd.V k49 49 w w.heap.size (fun k_ => P1_2_ k_) (.slice A1_2 l1_2.length c1_2) l1_2) (h : spec_ldApp.f a0_0 a0_1 l0_2 a1_0 a1_1 l1_2 = some (r1, r2, r3)) :
  Calls Try.prog 29 #[.agg #[.int .i64 a0_0, .int .i64 a0_1, .slice A0_2 l0_2.length c0_2], .agg #[.int .i64 a1_0, .int .i64 a1_1, .slice A1_2 l1_2.length c1_2]] w fun e w' => ∃ v2_ : Value, e = .returned (.agg #[.int .i64 r1, .int .i64 r2, v2_]) ∧ Kd.N k49 49 w' w.heap.size (fun k_ => ((P0_2_ k_ ∨ P1_2_ k_) ∨ w.heap.size ≤ k_)) v2_ r3 ∧ Below w.heap.size w w' := by
 have hu49 := Try.underlying49
 have HO0_2 := aK (show Kd.V k49 49 w w.heap.size (fun k_ => ((P0_2_ k_ ∨ P1_2_ k_) ∨ w.heap.size ≤ k_)) (.slice A0_2 l0_2.length c0_2) l0_2 from Kd.V_mono hs0_2 (fun k_ hk => .inl (.inl hk)))
 have HO1_2 := aK (show Kd.V k49 49 w w.heap.size (fun k_ => ((P0_2_ k_ ∨ P1_2_ k_) ∨ w.heap.size ≤ k_)) (.slice A1_2 l1_2.length c1_2) l1_2 from Kd.V_mono hs1_2 (fun k_ hk => .inl (.inr hk)))
 have HB := aK (Below.refl w.heap.size w)
 have H : (some (2, 0, (([(⟨a0_0, a0_1, l0_2⟩ : S49), (⟨a1_0, a1_1, l1_2⟩ : S49)] : List (S49))))) = some (r1, r2, r3) := h
 clear h
 obtain ⟨y104, hy104⟩ : ∃ y_ : List (S49), y_ = (([(⟨a0_0, a0_1, l0_2⟩ : S49), (⟨a1_0, a1_1, l1_2⟩ : S49)] : List (S49))) := ⟨_, rfl⟩
 replace H : (some (2, 0, y104)) = some (r1, r2, r3) := by first | (rw [hy104]; with_reducible exact H) | (have H2_ := (Option.bind_some _ _).symm.trans H; rw [hy104]; with_reducible exact H2_) | (have H2_ := (Option.bind_some _ _).symm.trans H; with_reducible exact H2_) | with_reducible exact H | (rw [hy104]; exact H) | exact H
 have Ny104 := aK hy104
 clear hy104
 simp only [Option.some.injEq, Prod.mk.injEq] at H
 obtain ⟨rfl, rfl, rfl⟩ := H
 go_enter Try.func29, Try.ntmps29
 go_wp2_with (first | ((with_reducible refine gate_dst (N := 2) rfl ?_); refine bE (N := 2) (cs := #[.int .i64 a0_0, .int .i64 a0_1, .slice A0_2 l0_2.length c0_2]) (t := 49) ?_; intro gb101 hg w3 hbox hb; have GW101 := qw HB hg; have GE101 := qw HB hg; replace HO0_2 := qv HO0_2 hg hb; replace HO1_2 := qv HO1_2 hg hb; have BK101 := aK hbox; replace HB := qs HB hb; clear hb hbox hg) | ((with_reducible refine gate_dst (N := 3) rfl ?_); refine bE (N := 3) (cs := #[.int .i64 a1_0, .int .i64 a1_1, .slice A1_2 l1_2.length c1_2]) (t := 49) ?_; intro gb102 hg w4 hbox hb; have GW102 := qw HB hg; have GE102 := qw HB hg; have NB101_102 := ql BK101 hg; have NB102_101 := qg BK101 hg; replace HO0_2 := qv HO0_2 hg hb; replace HO1_2 := qv HO1_2 hg hb; replace BK101 := qb BK101 hb; have BK102 := aK hbox; replace HB := qs HB hb; clear hb hbox hg) | ((with_reducible refine gate_dst (N := 4) rfl ?_); refine bE (N := 4) (cs := #[.int .i64 0, .int .i64 0, .slice none 0 0]) (t := 49) ?_; intro gb103 hg w5 hbox hb; have GW103 := qw HB hg; have GE103 := qw HB hg; have NB101_103 := ql BK101 hg; have NB103_101 := qg BK101 hg; have NB102_103 := ql BK102 hg; have NB103_102 := qg BK102 hg; replace HO0_2 := qv HO0_2 hg hb; replace HO1_2 := qv HO1_2 hg hb; replace BK101 := qb BK101 hb; replace BK102 := qb BK102 hb; have BK103 := aK hbox; replace HB := qs HB hb; clear hb hbox hg; have hnb6 := NB101_102.out; have hnc6 := NB102_101.out; have hnb7 := NB101_103.out; have hnc7 := NB103_101.out; obtain ⟨hcz8_0, hcz8_1, hcz8_2, hfz8_0, hfz8_1, hfz8_2⟩ := cA3 BK101; have hnb9 := NB102_103.out; have hnc9 := NB103_102.out; obtain ⟨hcz10_0, hcz10_1, hcz10_2, hfz10_0, hfz10_1, hfz10_2⟩ := cA3 BK102) | ((with_reducible refine gate_dst (N := 7) rfl ?_); refine Kd.N_lit k49 _ 49 ?hg (N' := 7) ?hd (xs := ([(⟨a0_0, a0_1, l0_2⟩ : S49), (⟨a1_0, a1_1, l1_2⟩ : S49)] : List (S49))) (inner := [.int .i64 a0_0, .int .i64 a0_1, .slice A0_2 l0_2.length c0_2, .int .i64 a1_0, .int .i64 a1_1, .slice A1_2 l1_2.length c1_2]) (ok := (fun k_ => ((P0_2_ k_ ∨ P1_2_ k_) ∨ w.heap.size ≤ k_) ∧ k_ ≠ gb101 ∧ k_ ≠ gb102 ∧ k_ ≠ gb103)) (okp := (fun k_ => ((P0_2_ k_ ∨ P1_2_ k_) ∨ w.heap.size ≤ k_) ∧ k_ ≠ gb101 ∧ k_ ≠ gb102 ∧ k_ ≠ gb103)) ?hr ?hp (fun _ hk => hk) ((show ∀ k_, w5.heap.size ≤ k_ → (fun k_ => ((P0_2_ k_ ∨ P1_2_ k_) ∨ w.heap.size ≤ k_) ∧ k_ ≠ gb101 ∧ k_ ≠ gb102 ∧ k_ ≠ gb103) k_ from fun k_ hk => ⟨(.inr (Nat.le_trans (below_size (pH HB)) hk)), Kd.freshB BK101.out k_ hk, Kd.freshB BK102.out k_ hk, Kd.freshB BK103.out k_ hk⟩) _ (Nat.le_refl _)) (Below.refl _ _) (Nat.le_refl _) (by simp) ?_; (case hd => rfl); (case hg => rfl); (case hr => go_simp); (case hp => exact (Reps.c3 (show Kd.FK k49 _ _ (⟨a0_0, a0_1, l0_2⟩ : S49) [.int .i64 a0_0, .int .i64 a0_1, .slice A0_2 l0_2.length c0_2] from (k49_mkF _ _ (⟨a0_0, a0_1, l0_2⟩ : S49) (Kd.V_reads' (Kd.V_mono (ok' := (fun k_ => ((P0_2_ k_ ∨ P1_2_ k_) ∨ w.heap.size ≤ k_) ∧ k_ ≠ gb101 ∧ k_ ≠ gb102 ∧ k_ ≠ gb103)) (HO0_2.out) (fun k_ hk => ⟨hk.1.1.1, ⟨hk.1.1.2, ⟨hk.1.2, hk.2⟩⟩⟩))).2.1 (Kd.V_F (Kd.V_mono (ok' := (fun k_ => ((P0_2_ k_ ∨ P1_2_ k_) ∨ w.heap.size ≤ k_) ∧ k_ ≠ gb101 ∧ k_ ≠ gb102 ∧ k_ ≠ gb103)) (HO0_2.out) (fun k_ hk => ⟨hk.1.1.1, ⟨hk.1.1.2, ⟨hk.1.2, hk.2⟩⟩⟩))))) (Reps.c3 (show Kd.FK k49 _ _ (⟨a1_0, a1_1, l1_2⟩ : S49) [.int .i64 a1_0, .int .i64 a1_1, .slice A1_2 l1_2.length c1_2] from (k49_mkF _ _ (⟨a1_0, a1_1, l1_2⟩ : S49) (Kd.V_reads' (Kd.V_mono (ok' := (fun k_ => ((P0_2_ k_ ∨ P1_2_ k_) ∨ w.heap.size ≤ k_) ∧ k_ ≠ gb101 ∧ k_ ≠ gb102 ∧ k_ ≠ gb103)) (HO1_2.out) (fun k_ hk => ⟨hk.1.1.1, ⟨hk.1.1.2, ⟨hk.1.2, hk.2⟩⟩⟩))).2.1 (Kd.V_F (Kd.V_mono (ok' := (fun k_ => ((P0_2_ k_ ∨ P1_2_ k_) ∨ w.heap.size ≤ k_) ∧ k_ ≠ gb101 ∧ k_ ≠ gb102 ∧ k_ ≠ gb103)) (HO1_2.out) (fun k_ hk => ⟨hk.1.1.1, ⟨hk.1.1.2, ⟨hk.1.2, hk.2⟩⟩⟩))))) (Reps.none _ _)))); intro v105 w11 ho12 hb hg_ hnew_; clear hg_ hnew_; (first | rw [← Ny104.out] at ho12 | (simp only [Int.reduceToNat] at ho12; rw [← Ny104.out] at ho12)); have HO106 := aK (Kd.N_lower ho12 (below_size HB.out)); replace HO0_2 := qe HO0_2 (Kd.N_base ho12) hb; replace HO1_2 := qe HO1_2 (Kd.N_base ho12) hb; replace BK101 := qb BK101 hb; replace BK102 := qb BK102 hb; replace BK103 := qb BK103 hb; replace HB := qs HB hb; clear hb ho12; obtain ⟨Ao13, co13, eo13⟩ := Kd.N_slice HO106.out; subst eo13; obtain ⟨hcz14_0, hcz14_1, hcz14_2, hfz14_0, hfz14_1, hfz14_2⟩ := cA3 BK103))
 refine bodyPost_ret (results_cell_row rfl _ _ gb103 49 #[.int .i64 2, .int .i64 0, .slice Ao13 y104.length co13] (0, 0) _ rfl (p3 BK103) Try.underlying49 rfl (by kernel_rfl)) rfl ?_
 exact ⟨_, eW, by (with_reducible repeat (first | apply Kd.N_alloc | apply Kd.N_drewN | apply Kd.N_drew)); exact Kd.N_mono (nF3 gb103 (Kd.N_mono HO106.out (fun k_ hk => (⟨hk, hk.2.2.2⟩ : _ ∧ k_ ≠ gb103))) (fun _ hk => hk.2)) (fun _ hk => hk.1.1), pH HB⟩

end Go.Proofs.Ytmcmclcebnepgaa.G
