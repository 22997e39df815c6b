/- Part 5 of 6 of the proof that the law FnUnifiedCardSaid holds: for every input that can be read the call returns true and leaves its arguments as they were; no condition but those each theorem names. -/
import Derived.Laws.Bits64b
import Derived.Test.YteffjlhljeodpaaGreatDoorQUnifiedW1
import Derived.Test.YteffjlhljeodpaaGreatDoorQUnified1
import Derived.Test.YteffjlhljeodpaaGreatDoorQUnified2
import Derived.Test.YteffjlhljeodpaaGreatDoorQUnified3
import Derived.Test.YteffjlhljeodpaaGreatDoorQUnified4
namespace Go.Proofs.YteffjlhljeodpaaGreatDoor.G
open Go.RowKit Go.Proofs.YteffjlhljeodpaaGreatDoorW.PrintWords Go.Proofs.YteffjlhljeodpaaGreatDoorW.PrintLast Go.Proofs.YteffjlhljeodpaaGreatDoorW.PrintMore
attribute [local go_sem] max2_int min2_int max_two min_two max_three min_three max_four min_four   -- for this text's walks alone
set_option linter.unusedVariables false
set_option linter.unusedSimpArgs false

open Go.Proofs.YteffjlhljeodpaaGreatDoor.Short
mutual
def spec_leUnify.j0 : Nat → Bool → Bool → List Int → List (S55) → Int → List (S55) → Int → List (S55) → Option (List Int × (List (S55)) × Bool)
 | 0, _, _, _, _, _, _, _, _ => none
 | k + 1, x3, x27, x102000, x102001, x103000, x103001, x104000, x104001 => if x27 = true then (some (x102000, x102001, false)) else ((spec_leSame.f k x103000 x103001 x104000 x104001).bind fun t115 => (if t115 = true then (some (x102000, x102001, true)) else (if (x103001.length : Int) = 0 then (spec_leUnify.j1 k x3 false x102000 x102001 x103000 x103001 x104000 x104001) else (spec_leUnify.j1 k x3 ((x104001.length : Int) == 0) x102000 x102001 x103000 x103001 x104000 x104001))))
def spec_leUnify.j1 : Nat → Bool → Bool → List Int → List (S55) → Int → List (S55) → Int → List (S55) → Option (List Int × (List (S55)) × Bool)
 | 0, _, _, _, _, _, _, _, _ => none
 | k + 1, x3, x42, x102000, x102001, x103000, x103001, x104000, x104001 => if x42 = true then (spec_leUnify.j2 k x3 x102000 x102001 x104000 x104001 x103000 x103001) else (spec_leUnify.j2 k x3 x102000 x102001 x103000 x103001 x104000 x104001)
def spec_leUnify.j2 : Nat → Bool → List Int → List (S55) → Int → List (S55) → Int → List (S55) → Option (List Int × (List (S55)) × Bool)
 | 0, _, _, _, _, _, _, _ => none
 | k + 1, x3, x102000, x102001, x103000, x103001, x104000, x104001 => if (x103001.length : Int) = 0 then ((spec_leVars.f k x104000 x104001 ([] : List Int)).bind fun t117 => ((spec_lcHas.f k t117 x103000).bind fun t120 => (if t120 = true then (some (x102000, x102001, false)) else ((spec_lePut.f k x102000 x102001 x103000 x104000 x104001).bind fun bt121 => ((spec_leAllFine.f k bt121.1 bt121.2 x3).bind fun t127 => (some (bt121.1, bt121.2, t127))))))) else (if 0 < (x103001.length : Int) then (if 0 < (x104001.length : Int) then ((spec_leUnify.f k x102000 x102001 ((rd_T55 x103001 0).f0) ((rd_T55 x103001 0).f1) ((rd_T55 x104001 0).f0) ((rd_T55 x104001 0).f1) x3).bind fun bt130 => (if bt130.2.2 = true then (if 1 < (x103001.length : Int) then (if 1 < (x104001.length : Int) then ((spec_leUnify.f k bt130.1 bt130.2.1 ((rd_T55 x103001 1).f0) ((rd_T55 x103001 1).f1) ((rd_T55 x104001 1).f0) ((rd_T55 x104001 1).f1) x3).bind fun bt139 => (some (bt139.1, bt139.2.1, bt139.2.2))) else (none)) else (none)) else (some (bt130.1, bt130.2.1, false)))) else (none)) else (none))
def spec_leUnify.f : Nat → List Int → List (S55) → Int → List (S55) → Int → List (S55) → Bool → Option (List Int × (List (S55)) × Bool)
 | 0, _, _, _, _, _, _, _ => none
 | k + 1, l0_0, l0_1, a1_0, l1_1, a2_0, l2_1, a3 => (spec_leApply.f k l0_0 l0_1 a1_0 l1_1).bind fun bt105 => ((spec_leApply.f k l0_0 l0_1 a2_0 l2_1).bind fun bt109 => ((spec_leWay.f k bt105.1 bt105.2 a3).bind fun t113 => (if t113 = true then ((spec_leWay.f k bt109.1 bt109.2 a3).bind fun t114 => (spec_leUnify.j0 k a3 (!t114) l0_0 l0_1 bt105.1 bt105.2 bt109.1 bt109.2)) else (spec_leUnify.j0 k a3 true l0_0 l0_1 bt105.1 bt105.2 bt109.1 bt109.2))))
end
def spec_leUnify.T16 : Bool × List (List Nat × List Nat) := (true, [([], []), ([], []), ([1], [1]), ([2], [2]), ([3], [3]), ([], []), ([5], [5]), ([6], [6]), ([7], [7]), ([], []), ([0, 4, 8, 9], [0, 4, 8, 9]), ([10], [10]), ([11], [11]), ([11], [11]), ([12, 10, 0, 1, 2, 3, 4, 5, 6, 7, 8, 9, 10, 11, 12], [12]), ([13, 14, 0, 1, 2, 3, 4, 5, 6, 7, 8, 9, 10, 11, 12, 13, 14], [13])])
def spec_leUnify.B16 : List Nat := [0, 0, 2, 6, 14, 0, 32, 96, 224, 0, 1023, 2047, 4095, 4095, 8191, 32767]
theorem spec_leUnify.tab16 : rtab .any (opsOf Tryz.f21 16) = spec_leUnify.T16 := by kernel_rfl
theorem spec_leUnify.bits16 : waitsOk spec_leUnify.T16.2 spec_leUnify.B16 = true := by kernel_rfl
def spec_leUnify.T19 : Bool × List (List Nat × List Nat) := (true, [([], []), ([], []), ([1], [1]), ([2], [2]), ([3], [3]), ([], []), ([5], [5]), ([6], [6]), ([7], [7]), ([], []), ([0, 4, 8, 9], [0, 4, 8, 9]), ([10], [10]), ([10], [10]), ([11, 10, 0, 1, 2, 3, 4, 5, 6, 7, 8, 9, 10, 11, 12], [11]), ([12, 13, 0, 1, 2, 3, 4, 5, 6, 7, 8, 9, 10, 11, 12, 13], [12])])
def spec_leUnify.B19 : List Nat := [0, 0, 2, 6, 14, 0, 32, 96, 224, 0, 1023, 2047, 2047, 8191, 16383]
theorem spec_leUnify.tab19 : rtab .any (opsOf Tryz.f21 19) = spec_leUnify.T19 := by kernel_rfl
theorem spec_leUnify.bits19 : waitsOk spec_leUnify.T19.2 spec_leUnify.B19 = true := by kernel_rfl
set_option maxHeartbeats 8000000 in
set_option maxRecDepth 100000 in
theorem spec_leUnify.calls (k : Nat) : ∀ (P0_0_ : Nat → Prop) (u9000_ : Value) (l0_0 : List Int) (P0_1_ : Nat → Prop) (A0_1 : Option Addr) (c0_1 : Nat) (l0_1 : List (S55)) (a1_0 : Int) (P1_1_ : Nat → Prop) (A1_1 : Option Addr) (c1_1 : Nat) (l1_1 : List (S55)) (a2_0 : Int) (P2_1_ : Nat → Prop) (A2_1 : Option Addr) (c2_1 : Nat) (l2_1 : List (S55)) (a3 : Bool) (r1 : List Int) (r2 : List (S55)) (r3 : Bool) (w0 w : World) (hB : Below w0.heap.size w0 w) (ho0_0 : Kd.R (Kd.int .i64) 3 w w0.heap.size P0_0_ u9000_ l0_0) (hs0_1 : Kd.V k55 55 w w0.heap.size (fun k_ => P0_1_ k_ ∧ some k_ ≠ (u9000_ : Value).ownBlock) (.slice A0_1 l0_1.length c0_1) l0_1) (hs1_1 : Kd.V k55 55 w w0.heap.size (fun k_ => P1_1_ k_ ∧ some k_ ≠ (u9000_ : Value).ownBlock) (.slice A1_1 l1_1.length c1_1) l1_1) (hs2_1 : Kd.V k55 55 w w0.heap.size (fun k_ => P2_1_ k_ ∧ some k_ ≠ (u9000_ : Value).ownBlock) (.slice A2_1 l2_1.length c2_1) l2_1) (h : spec_leUnify.f k l0_0 l0_1 a1_0 l1_1 a2_0 l2_1 a3 = some (r1, r2, r3)),
  Calls Tryz.prog 21 #[.agg #[u9000_, .slice A0_1 l0_1.length c0_1], .agg #[.int .i64 a1_0, .slice A1_1 l1_1.length c1_1], .agg #[.int .i64 a2_0, .slice A2_1 l2_1.length c2_1], .bool a3] w fun e w' => ∃ v0_ v1_ : Value, e = .returned (.tuple #[.agg #[v0_, v1_], .bool r3]) ∧ Kd.R (Kd.int .i64) 3 w' w0.heap.size (fun k_ => (P0_0_ k_ ∨ w.heap.size ≤ k_)) v0_ r1 ∧ Kd.V k55 55 w' w0.heap.size (fun k_ => pU P0_0_ P0_1_ P1_1_ P2_1_ w k_ ∧ some k_ ≠ (v0_ : Value).ownBlock) v1_ r2 ∧ Below w0.heap.size w0 w' ∧ Kept w w' (fun k_ => P0_0_ k_) := by
 induction k using Nat.strongRecOn with
 | _ k ih =>
 intro P0_0_ u9000_ l0_0 P0_1_ A0_1 c0_1 l0_1 a1_0 P1_1_ A1_1 c1_1 l1_1 a2_0 P2_1_ A2_1 c2_1 l2_1 a3 r1 r2 r3 w0 w hB ho0_0 hs0_1 hs1_1 hs2_1 h
 cases k with
 | zero => exact absurd h (by simp [spec_leUnify.f])
 | succ k =>
 simp only [spec_leUnify.f] at h
 have hu60 := Tryz.underlying60
 have hu55 := Tryz.underlying55
 have HO0_0 := aM (show Kd.R (Kd.int .i64) 3 w w0.heap.size (fun k_ => (P0_0_ k_ ∨ w.heap.size ≤ k_)) u9000_ l0_0 from Kd.R_mono ho0_0 (fun k_ hk => (.inl hk)))
 have HO0_1 := aM (show Kd.V k55 55 w w0.heap.size (fun k_ => pU P0_0_ P0_1_ P1_1_ P2_1_ w k_ ∧ some k_ ≠ (u9000_ : Value).ownBlock) (.slice A0_1 l0_1.length c0_1) l0_1 from Kd.V_mono hs0_1 (fun k_ hk => ⟨.inl (.inr (.inl hk.1)), hk.2⟩))
 have HO1_1 := aM (show Kd.V k55 55 w w0.heap.size (fun k_ => pU P0_0_ P0_1_ P1_1_ P2_1_ w k_ ∧ some k_ ≠ (u9000_ : Value).ownBlock) (.slice A1_1 l1_1.length c1_1) l1_1 from Kd.V_mono hs1_1 (fun k_ hk => ⟨.inl (.inr (.inr (.inl hk.1))), hk.2⟩))
 have HO2_1 := aM (show Kd.V k55 55 w w0.heap.size (fun k_ => pU P0_0_ P0_1_ P1_1_ P2_1_ w k_ ∧ some k_ ≠ (u9000_ : Value).ownBlock) (.slice A2_1 l2_1.length c2_1) l2_1 from Kd.V_mono hs2_1 (fun k_ hk => ⟨.inl (.inr (.inr (.inr hk.1))), hk.2⟩))
 have HK := aM (Kept.refl w (fun k_ => P0_0_ k_))
 have HW0 := aM hB.size
 have HB := aM hB
 clear hB
 have H : ((spec_leApply.f k l0_0 l0_1 a1_0 l1_1).bind fun bt105 => ((spec_leApply.f k l0_0 l0_1 a2_0 l2_1).bind fun bt109 => ((spec_leWay.f k bt105.1 bt105.2 a3).bind fun t113 => (if t113 = true then ((spec_leWay.f k bt109.1 bt109.2 a3).bind fun t114 => (spec_leUnify.j0 k a3 (!t114) l0_0 l0_1 bt105.1 bt105.2 bt109.1 bt109.2)) else (spec_leUnify.j0 k a3 true l0_0 l0_1 bt105.1 bt105.2 bt109.1 bt109.2))))) = some (r1, r2, r3) := h
 clear h
 replace H := Option.bind_eq_some_iff.mp H
 obtain ⟨⟨t105, t106⟩, A50, H⟩ := H
 try dsimp only at H
 have A5 := aM A50
 clear A50
 replace H := Option.bind_eq_some_iff.mp H
 obtain ⟨⟨t109, t110⟩, A60, H⟩ := H
 try dsimp only at H
 have A6 := aM A60
 clear A60
 have HC7 := aM H
 clear H
 obtain ⟨Ao8, co8, eo8⟩ := Kd.R_slice HO0_0.out
 subst eo8
 go_enter Tryz.func21, Tryz.ntmps21
 go_upto_region 3 with (first | ((with_reducible refine gate_dst (N := 4) rfl ?_); (try (refine gate_guard (by rfl) ?_; dsimp only)); refine bE (N := 4) (cs := #[.slice Ao8 l0_0.length co8, .slice A0_1 l0_1.length c0_1]) (t := 60) ?_; intro gb101 hg w9 hbox hb; have n0_ := aK (Kd.R_below HO0_0.out hb); have GW101 := gW HK hg; have GE101 := qw HB hg; replace HO0_1 := qv HO0_1 hg hb; replace HO1_1 := qv HO1_1 hg hb; replace HO2_1 := qv HO2_1 hg hb; have BK101 := aK hbox; clear HO0_0; have HO0_0 := n0_; clear n0_; replace HK := kB HK hb; replace HB := qs HB hb; clear hb hbox hg) | ((with_reducible refine gate_dst (N := 5) rfl ?_); (try (refine gate_guard (by rfl) ?_; dsimp only)); refine bE (N := 5) (cs := #[.int .i64 a1_0, .slice A1_1 l1_1.length c1_1]) (t := 55) ?_; intro gb102 hg w10 hbox hb; have n0_ := aK (Kd.R_below HO0_0.out hb); have GW102 := gW HK hg; have GE102 := qw HB hg; have NB101_102 := ql BK101 hg; have NB102_101 := qg BK101 hg; replace HO0_1 := qv HO0_1 hg hb; replace HO1_1 := qv HO1_1 hg hb; replace HO2_1 := qv HO2_1 hg hb; replace BK101 := qb BK101 hb; have BK102 := aK hbox; clear HO0_0; have HO0_0 := n0_; clear n0_; replace HK := kB HK hb; replace HB := qs HB hb; clear hb hbox hg) | ((with_reducible refine gate_dst (N := 6) rfl ?_); (try (refine gate_guard (by rfl) ?_; dsimp only)); refine bE (N := 6) (cs := #[.int .i64 a2_0, .slice A2_1 l2_1.length c2_1]) (t := 55) ?_; intro gb103 hg w11 hbox hb; have n0_ := aK (Kd.R_below HO0_0.out hb); have GW103 := gW HK hg; have GE103 := qw HB hg; have NB101_103 := ql BK101 hg; have NB103_101 := qg BK101 hg; have NB102_103 := ql BK102 hg; have NB103_102 := qg BK102 hg; replace HO0_1 := qv HO0_1 hg hb; replace HO1_1 := qv HO1_1 hg hb; replace HO2_1 := qv HO2_1 hg hb; replace BK101 := qb BK101 hb; replace BK102 := qb BK102 hb; have BK103 := aK hbox; clear HO0_0; have HO0_0 := n0_; clear n0_; replace HK := kB HK hb; replace HB := qs HB hb; clear hb hbox hg) | ((with_reducible refine gate_dst (N := 8) rfl ?_); (try (refine gate_guard (by rfl) ?_; dsimp only)); refine bE (N := 8) (cs := #[.slice none 0 0, .slice none 0 0]) (t := 60) ?_; intro gb104 hg w12 hbox hb; have n0_ := aK (Kd.R_below HO0_0.out hb); have GW104 := gW HK hg; have GE104 := qw HB hg; have NB101_104 := ql BK101 hg; have NB104_101 := qg BK101 hg; have NB102_104 := ql BK102 hg; have NB104_102 := qg BK102 hg; have NB103_104 := ql BK103 hg; have NB104_103 := qg BK103 hg; replace HO0_1 := qv HO0_1 hg hb; replace HO1_1 := qv HO1_1 hg hb; replace HO2_1 := qv HO2_1 hg hb; replace BK101 := qb BK101 hb; replace BK102 := qb BK102 hb; replace BK103 := qb BK103 hb; have BK104 := aK hbox; clear HO0_0; have HO0_0 := n0_; clear n0_; replace HK := kB HK hb; replace HB := qs HB hb; clear hb hbox hg; have hnb13 := NB101_102.out; have hnc13 := NB102_101.out; have hnb14 := NB101_103.out; have hnc14 := NB103_101.out; have hnb15 := NB101_104.out; have hnc15 := NB104_101.out; obtain ⟨hcz16_0, hcz16_1, hfz16_0, hfz16_1⟩ := cA2 BK101; have hnb17 := NB102_103.out; have hnc17 := NB103_102.out; have hnb18 := NB102_104.out; have hnc18 := NB104_102.out; obtain ⟨hcz19_0, hcz19_1, hfz19_0, hfz19_1⟩ := cA2 BK102) | ((with_reducible refine gate_callee (f := 26) rfl ?_); refine goesL_ (some 14) rfl rfl Tryz.func26 (by kernel_rfl) rfl #[.agg #[.slice Ao8 l0_0.length co8, .slice A0_1 l0_1.length c0_1], .agg #[.int .i64 a1_0, .slice A1_1 l1_1.length c1_1]] rfl tA ?_; (with_reducible refine (spec_leApply.calls k _ _ l0_0 (fun k_ => (((((pU P0_0_ P0_1_ P1_1_ P2_1_ w k_ ∧ nS k_ Ao8 l0_0 co8) ∧ k_ ≠ gb101) ∧ k_ ≠ gb102) ∧ k_ ≠ gb103) ∧ k_ ≠ gb104)) _ _ l0_1 a1_0 (fun k_ => (((((pU P0_0_ P0_1_ P1_1_ P2_1_ w k_ ∧ nS k_ Ao8 l0_0 co8) ∧ k_ ≠ gb101) ∧ k_ ≠ gb102) ∧ k_ ≠ gb103) ∧ k_ ≠ gb104)) _ _ l1_1 t105 t106 _ ?side1 ?side2 ?side3 ?side4 A5.out).mono ?_); (case side1 => exact sC ((Kd.R_reads' HO0_0.out).2.2)); (case side2 => exact (Kd.R_reads' HO0_0.out).2.1); (case side3 => exact HO0_1.out); (case side4 => exact HO1_1.out); rintro e w20 ⟨v107, rfl, ho0, hb⟩; refine ⟨_, rfl, ?_⟩; have n0_ := aK (Kd.R_below HO0_0.out hb); have n1_ := aK (Kd.V_below HO0_1.out hb); have n2_ := aK (Kd.V_below HO1_1.out hb); have n3_ := aK (Kd.V_below HO2_1.out hb); have HO108 := aK (Kd.V_lower (Kd.V_mono (ok' := fun k_ => pU P0_0_ P0_1_ P1_1_ P2_1_ w k_ ∧ nS k_ Ao8 l0_0 co8 ∧ k_ ≠ gb101 ∧ k_ ≠ gb102 ∧ k_ ≠ gb103 ∧ k_ ≠ gb104) ho0 (fun k_ hk_ => ⟨Or.elim hk_ (fun hs_ => Or.elim hs_ (fun hs_ => hs_.1.1.1.1.1) (fun hs_ => hs_.1.1.1.1.1)) (fun hn_ => (.inr (Nat.le_trans (by first | exact HK.out.1 | exact (show Kept w _ (fun k_ => P0_0_ k_) from kK HK).1) hn_))), Or.elim hk_ (fun hs_ => Or.elim hs_ (fun hs_ => hs_.1.1.1.1.2) (fun hs_ => hs_.1.1.1.1.2)) (fun hn_ => (Kd.fresh' (Kd.R_lt HO0_0.out) k_ hn_)), Or.elim hk_ (fun hs_ => Or.elim hs_ (fun hs_ => hs_.1.1.1.2) (fun hs_ => hs_.1.1.1.2)) (fun hn_ => (Kd.freshB BK101.out k_ hn_)), Or.elim hk_ (fun hs_ => Or.elim hs_ (fun hs_ => hs_.1.1.2) (fun hs_ => hs_.1.1.2)) (fun hn_ => (Kd.freshB BK102.out k_ hn_)), Or.elim hk_ (fun hs_ => Or.elim hs_ (fun hs_ => hs_.1.2) (fun hs_ => hs_.1.2)) (fun hn_ => (Kd.freshB BK103.out k_ hn_)), Or.elim hk_ (fun hs_ => Or.elim hs_ (fun hs_ => hs_.2) (fun hs_ => hs_.2)) (fun hn_ => (Kd.freshB BK104.out k_ hn_))⟩)) (below_size HB.out)); replace BK101 := qb BK101 hb; replace BK102 := qb BK102 hb; replace BK103 := qb BK103 hb; replace BK104 := qb BK104 hb; clear HO0_0; have HO0_0 := n0_; clear n0_; clear HO0_1; have HO0_1 := n1_; clear n1_; clear HO1_1; have HO1_1 := n2_; clear n2_; clear HO2_1; have HO2_1 := n3_; clear n3_; replace HK := kB HK hb; replace HB := qs HB hb; (try clear hb); (try clear ho0); obtain ⟨hcz21_0, hcz21_1, hfz21_0, hfz21_1⟩ := cA2 BK102; obtain ⟨Ao22, co22, eo22⟩ := Kd.V_slice HO108.out; subst eo22) | ((with_reducible refine gate_store (t := 55) (p := 5) rfl ?_); refine store_event (t := 55) (p := 5) (v := ?vo_w23) (w1 := ((w20.setCell ⟨gb102, 0, none⟩ (.int .i64 t105)).setCell ⟨gb102, 1, none⟩ (.slice Ao22 t106.length co22))) ?hg ?ho ?hn ?hr ?_; (case ho => rfl); (case hg => rfl); (case hn => rfl); (case hr => first | (go_simp; done) | (go_simp; rfl)); intro w23 hw; have n_ := aJ (show Aside0 (Kd.R (Kd.int .i64) 3 w23 w0.heap.size (fun k_ => (P0_0_ k_ ∨ w.heap.size ≤ k_)) (.slice Ao8 l0_0.length co8) l0_0) from ⟨(by rw [hw]; exact (rW HO0_0 BK102))⟩) (aJ (show Aside0 (Kd.V k55 55 w23 w0.heap.size (fun k_ => pU P0_0_ P0_1_ P1_1_ P2_1_ w k_ ∧ nS k_ Ao8 l0_0 co8 ∧ k_ ≠ gb101 ∧ k_ ≠ gb102 ∧ k_ ≠ gb103 ∧ k_ ≠ gb104) (.slice A0_1 l0_1.length c0_1) l0_1) from ⟨(by rw [hw]; exact (vZ HO0_1))⟩) (aJ (show Aside0 (Kd.V k55 55 w23 w0.heap.size (fun k_ => pU P0_0_ P0_1_ P1_1_ P2_1_ w k_ ∧ nS k_ Ao8 l0_0 co8 ∧ k_ ≠ gb101 ∧ k_ ≠ gb102 ∧ k_ ≠ gb103 ∧ k_ ≠ gb104) (.slice A1_1 l1_1.length c1_1) l1_1) from ⟨(by rw [hw]; exact (vZ HO1_1))⟩) (aJ (show Aside0 (Kd.V k55 55 w23 w0.heap.size (fun k_ => pU P0_0_ P0_1_ P1_1_ P2_1_ w k_ ∧ nS k_ Ao8 l0_0 co8 ∧ k_ ≠ gb101 ∧ k_ ≠ gb102 ∧ k_ ≠ gb103 ∧ k_ ≠ gb104) (.slice A2_1 l2_1.length c2_1) l2_1) from ⟨(by rw [hw]; exact (vZ HO2_1))⟩) (aJ (show Aside0 (Kd.V k55 55 w23 w0.heap.size (fun k_ => pU P0_0_ P0_1_ P1_1_ P2_1_ w k_ ∧ nS k_ Ao8 l0_0 co8 ∧ k_ ≠ gb101 ∧ k_ ≠ gb102 ∧ k_ ≠ gb103 ∧ k_ ≠ gb104) (.slice Ao22 t106.length co22) t106) from ⟨(by rw [hw]; exact (vZ HO108))⟩) (aJ (show Aside0 (w23.heap[gb101]? = some (.cells #[.slice Ao8 l0_0.length co8, .slice A0_1 l0_1.length c0_1] 60 (0, 0))) from ⟨(by rw [hw]; exact (bY BK101))⟩) (aJ (show Aside0 (w23.heap[gb102]? = some (.cells #[.int .i64 t105, .slice Ao22 t106.length co22] 55 (0, 0))) from ⟨(by rw [hw]; exact (bP BK102))⟩) (aJ (show Aside0 (w23.heap[gb103]? = some (.cells #[.int .i64 a2_0, .slice A2_1 l2_1.length c2_1] 55 (0, 0))) from ⟨(by rw [hw]; exact (bY BK103))⟩) (aJ (show Aside0 (w23.heap[gb104]? = some (.cells #[.slice none 0 0, .slice none 0 0] 60 (0, 0))) from ⟨(by rw [hw]; exact (bY BK104))⟩) (aJ (show Aside0 (Kept w w23 (fun k_ => P0_0_ k_)) from ⟨(by rw [hw]; exact (kK HK))⟩) (show Aside0 (Below w0.heap.size w0 w23) from ⟨(by rw [hw]; exact (pH HB))⟩)))))))))); clear hw HO0_0 HO0_1 HO1_1 HO2_1 HO108 BK101 BK102 BK103 BK104 HK HB; obtain ⟨HO0_0, HO0_1, HO1_1, HO2_1, HO108, BK101, BK102, BK103, BK104, HK, HB⟩ := n_; obtain ⟨hcz24_0, hcz24_1, hfz24_0, hfz24_1⟩ := cA2 BK101; have hnb25 := NB103_104.out; have hnc25 := NB104_103.out; obtain ⟨hcz26_0, hcz26_1, hfz26_0, hfz26_1⟩ := cA2 BK103) | ((with_reducible refine gate_callee (f := 26) rfl ?_); refine goesL_ (some 17) rfl rfl Tryz.func26 (by kernel_rfl) rfl #[.agg #[.slice Ao8 l0_0.length co8, .slice A0_1 l0_1.length c0_1], .agg #[.int .i64 a2_0, .slice A2_1 l2_1.length c2_1]] rfl tA ?_; (with_reducible refine (spec_leApply.calls k _ _ l0_0 (fun k_ => (pU P0_0_ P0_1_ P1_1_ P2_1_ w k_ ∧ (nS k_ Ao8 l0_0 co8 ∧ (k_ ≠ gb101 ∧ (k_ ≠ gb102 ∧ (k_ ≠ gb103 ∧ k_ ≠ gb104)))))) _ _ l0_1 a2_0 (fun k_ => (pU P0_0_ P0_1_ P1_1_ P2_1_ w k_ ∧ (nS k_ Ao8 l0_0 co8 ∧ (k_ ≠ gb101 ∧ (k_ ≠ gb102 ∧ (k_ ≠ gb103 ∧ k_ ≠ gb104)))))) _ _ l2_1 t109 t110 _ ?side1 ?side2 ?side3 ?side4 A6.out).mono ?_); (case side1 => exact sC ((Kd.R_reads' HO0_0.out).2.2)); (case side2 => exact (Kd.R_reads' HO0_0.out).2.1); (case side3 => exact HO0_1.out); (case side4 => exact HO2_1.out); rintro e w27 ⟨v111, rfl, ho0, hb⟩; refine ⟨_, rfl, ?_⟩; have n0_ := aK (Kd.R_below HO0_0.out hb); have n1_ := aK (Kd.V_below HO0_1.out hb); have n2_ := aK (Kd.V_below HO1_1.out hb); have n3_ := aK (Kd.V_below HO2_1.out hb); have HO112 := aK (Kd.V_lower (Kd.V_mono (ok' := fun k_ => pU P0_0_ P0_1_ P1_1_ P2_1_ w k_ ∧ nS k_ Ao8 l0_0 co8 ∧ k_ ≠ gb101 ∧ k_ ≠ gb102 ∧ k_ ≠ gb103 ∧ k_ ≠ gb104) ho0 (fun k_ hk_ => ⟨Or.elim hk_ (fun hs_ => Or.elim hs_ (fun hs_ => hs_.1) (fun hs_ => hs_.1)) (fun hn_ => (.inr (Nat.le_trans (by first | exact HK.out.1 | exact (show Kept w _ (fun k_ => P0_0_ k_) from kK HK).1) hn_))), Or.elim hk_ (fun hs_ => Or.elim hs_ (fun hs_ => hs_.2.1) (fun hs_ => hs_.2.1)) (fun hn_ => (Kd.fresh' (Kd.R_lt HO0_0.out) k_ hn_)), Or.elim hk_ (fun hs_ => Or.elim hs_ (fun hs_ => hs_.2.2.1) (fun hs_ => hs_.2.2.1)) (fun hn_ => (Kd.freshB BK101.out k_ hn_)), Or.elim hk_ (fun hs_ => Or.elim hs_ (fun hs_ => hs_.2.2.2.1) (fun hs_ => hs_.2.2.2.1)) (fun hn_ => (Kd.freshB BK102.out k_ hn_)), Or.elim hk_ (fun hs_ => Or.elim hs_ (fun hs_ => hs_.2.2.2.2.1) (fun hs_ => hs_.2.2.2.2.1)) (fun hn_ => (Kd.freshB BK103.out k_ hn_)), Or.elim hk_ (fun hs_ => Or.elim hs_ (fun hs_ => hs_.2.2.2.2.2) (fun hs_ => hs_.2.2.2.2.2)) (fun hn_ => (Kd.freshB BK104.out k_ hn_))⟩)) (below_size HB.out)); replace BK101 := qb BK101 hb; replace BK102 := qb BK102 hb; replace BK103 := qb BK103 hb; replace BK104 := qb BK104 hb; clear HO0_0; have HO0_0 := n0_; clear n0_; clear HO0_1; have HO0_1 := n1_; clear n1_; clear HO1_1; have HO1_1 := n2_; clear n2_; clear HO2_1; have HO2_1 := n3_; clear n3_; replace HO108 := vB HO108 hb; replace HK := kB HK hb; replace HB := qs HB hb; (try clear hb); (try clear ho0); obtain ⟨hcz28_0, hcz28_1, hfz28_0, hfz28_1⟩ := cA2 BK103; obtain ⟨Ao29, co29, eo29⟩ := Kd.V_slice HO112.out; subst eo29))
 (try simp only [Act.put, List.setIfInBounds_toArray, List.set_cons_zero, List.set_cons_succ])
 go_cut [27] (fun v27 wc => ∃ (kq : Nat) (x27_6 : Bool), v27 = .bool x27_6 ∧ Aside0 (spec_leUnify.j0 kq a3 x27_6 l0_0 l0_1 t105 t106 t109 t110 = some (r1, r2, r3)) ∧ Aside0 (kq ≤ k) ∧ Aside0 (Kd.R (Kd.int .i64) 3 wc w0.heap.size (fun k_ => (P0_0_ k_ ∨ w.heap.size ≤ k_)) (.slice Ao8 l0_0.length co8) l0_0) ∧ Aside0 (Kd.V k55 55 wc w0.heap.size (fun k_ => pU P0_0_ P0_1_ P1_1_ P2_1_ w k_ ∧ nS k_ Ao8 l0_0 co8 ∧ k_ ≠ gb101 ∧ k_ ≠ gb102 ∧ k_ ≠ gb103 ∧ k_ ≠ gb104) (.slice A0_1 l0_1.length c0_1) l0_1) ∧ Aside0 (Kd.V k55 55 wc w0.heap.size (fun k_ => pU P0_0_ P0_1_ P1_1_ P2_1_ w k_ ∧ nS k_ Ao8 l0_0 co8 ∧ k_ ≠ gb101 ∧ k_ ≠ gb102 ∧ k_ ≠ gb103 ∧ k_ ≠ gb104) (.slice Ao22 t106.length co22) t106) ∧ Aside0 (Kd.V k55 55 wc w0.heap.size (fun k_ => pU P0_0_ P0_1_ P1_1_ P2_1_ w k_ ∧ nS k_ Ao8 l0_0 co8 ∧ k_ ≠ gb101 ∧ k_ ≠ gb102 ∧ k_ ≠ gb103 ∧ k_ ≠ gb104) (.slice Ao29 t110.length co29) t110) ∧ Aside0 (wc.heap[gb101]? = some (.cells #[(.slice Ao8 l0_0.length co8), (.slice A0_1 l0_1.length c0_1)] 60 (0, 0))) ∧ Aside0 (wc.heap[gb102]? = some (.cells #[.int .i64 t105, (.slice Ao22 t106.length co22)] 55 (0, 0))) ∧ Aside0 (wc.heap[gb103]? = some (.cells #[.int .i64 t109, (.slice Ao29 t110.length co29)] 55 (0, 0))) ∧ Aside0 (wc.heap[gb104]? = some (.cells #[(.slice none 0 0), (.slice none 0 0)] 60 (0, 0))) ∧ Aside0 (Kept w wc (fun k_ => P0_0_ k_)) ∧ Aside0 (Below w0.heap.size w0 wc))
 case first =>
  have H := HC7.out
  clear HC7
  replace H := Option.bind_eq_some_iff.mp H
  obtain ⟨t113, A300, H⟩ := H
  try dsimp only at H
  have A30 := aM A300
  clear A300
  by_cases c31 : t113 = true
  ·subst c31
   rw [if_pos rfl] at H
   replace H := Option.bind_eq_some_iff.mp H
   obtain ⟨t114, A320, H⟩ := H
   try dsimp only at H
   have A32 := aM A320
   clear A320
   have H' := aM H
   clear H
   have hnb33 := NB102_101.out
   have hnc33 := NB101_102.out
   have hnb34 := NB102_103.out
   have hnc34 := NB103_102.out
   have hnb35 := NB102_104.out
   have hnc35 := NB104_102.out
   obtain ⟨hcz36_0, hcz36_1, hfz36_0, hfz36_1⟩ := cA2 BK102
   go_wp2_with (first | ((with_reducible refine gate_callee (f := 44) rfl ?_); refine goesL_ (some 20) rfl rfl Tryz.func44 (by kernel_rfl) rfl #[.agg #[.int .i64 t105, .slice Ao22 t106.length co22], .bool a3] rfl tA ?_; (with_reducible refine (spec_leWay.calls k t105 _ _ t106 a3 true _ ?side1 ?side2 A30.out).mono ?_); (case side1 => refine (Kd.V_reads' (e := 55) (base := w0.heap.size) (ok := fun k_ => (pU P0_0_ P0_1_ P1_1_ P2_1_ w k_ ∧ (nS k_ Ao8 l0_0 co8 ∧ (k_ ≠ gb101 ∧ (k_ ≠ gb102 ∧ (k_ ≠ gb103 ∧ k_ ≠ gb104)))))) (n := t106.length) (c := co22) ?_).2.2; exact (vY HO108)); (case side2 => exact (Kd.V_reads' HO108.out).2.1); rintro e w37 ⟨rfl, hb⟩; refine ⟨_, rfl, ?_⟩; have n_ := aJ (aM (Kd.R_below (rY HO0_0 BK103) hb)) (aJ (aM (Kd.V_below (vY HO0_1) hb)) (aJ (aM (Kd.V_below (vY HO1_1) hb)) (aJ (aM (Kd.V_below (vY HO2_1) hb)) (aJ (aM (Kd.V_below (vY HO108) hb)) (aJ (aM (Kd.V_below (vY HO112) hb)) (aJ (bB BK101 hb) (aJ (bB BK102 hb) (aJ (aM (blk_below (g := gb103) (o := .cells #[.int .i64 t109, .slice Ao29 t110.length co29] 55 (0, 0)) (bP BK103) hb)) (aJ (bB BK104 hb) (aJ (aM (Kept.below (S := (fun k_ => P0_0_ k_)) (kK HK) hb)) (aM (below_step (pH HB) hb)))))))))))); clear HO0_0 HO0_1 HO1_1 HO2_1 HO108 HO112 BK101 BK102 BK103 BK104 HK HB; obtain ⟨HO0_0, HO0_1, HO1_1, HO2_1, HO108, HO112, BK101, BK102, BK103, BK104, HK, HB⟩ := n_; (try clear hb); have hnb38 := NB103_101.out; have hnc38 := NB101_103.out; have hnb39 := NB103_104.out; have hnc39 := NB104_103.out; obtain ⟨hcz40_0, hcz40_1, hfz40_0, hfz40_1⟩ := cA2 BK103) | (go_at_call 44; (with_reducible refine (spec_leWay.calls k t109 _ _ t110 a3 t114 _ ?side1 ?side2 A32.out).mono ?_); (case side1 => exact sC ((Kd.V_reads' HO112.out).2.2)); (case side2 => exact (Kd.V_reads' HO112.out).2.1); rintro e w41 ⟨rfl, hb⟩; replace BK101 := qb BK101 hb; replace BK102 := qb BK102 hb; replace BK103 := qb BK103 hb; replace BK104 := qb BK104 hb; replace HO0_0 := rB HO0_0 hb; replace HO0_1 := vB HO0_1 hb; replace HO1_1 := vB HO1_1 hb; replace HO2_1 := vB HO2_1 hb; replace HO108 := vB HO108 hb; replace HO112 := vB HO112 hb; replace HK := kB HK hb; replace HB := qs HB hb; (try clear hb)))
   go_meet
   case rel => exact ⟨_, (!t114), rS, H', ⟨by first | omega | exact Nat.le_refl _⟩, ⟨rX HO0_0⟩, ⟨vY HO0_1⟩, ⟨vY HO108⟩, ⟨vY HO112⟩, ⟨pB BK101⟩, ⟨pB BK102⟩, ⟨pB BK103⟩, ⟨pB BK104⟩, ⟨kK HK⟩, ⟨pH HB⟩⟩
  ·replace c31 := Bool.eq_false_iff.mpr c31
   subst c31
   rw [if_neg (show ¬ (false = true) by decide)] at H
   have H' := aM H
   clear H
   have hnb42 := NB102_101.out
   have hnc42 := NB101_102.out
   have hnb43 := NB102_103.out
   have hnc43 := NB103_102.out
   have hnb44 := NB102_104.out
   have hnc44 := NB104_102.out
   obtain ⟨hcz45_0, hcz45_1, hfz45_0, hfz45_1⟩ := cA2 BK102
   go_wp2_with (first | ((with_reducible refine gate_callee (f := 44) rfl ?_); refine goesL_ (some 20) rfl rfl Tryz.func44 (by kernel_rfl) rfl #[.agg #[.int .i64 t105, .slice Ao22 t106.length co22], .bool a3] rfl tA ?_; (with_reducible refine (spec_leWay.calls k t105 _ _ t106 a3 false _ ?side1 ?side2 A30.out).mono ?_); (case side1 => refine (Kd.V_reads' (e := 55) (base := w0.heap.size) (ok := fun k_ => (pU P0_0_ P0_1_ P1_1_ P2_1_ w k_ ∧ (nS k_ Ao8 l0_0 co8 ∧ (k_ ≠ gb101 ∧ (k_ ≠ gb102 ∧ (k_ ≠ gb103 ∧ k_ ≠ gb104)))))) (n := t106.length) (c := co22) ?_).2.2; exact (vY HO108)); (case side2 => exact (Kd.V_reads' HO108.out).2.1); rintro e w46 ⟨rfl, hb⟩; refine ⟨_, rfl, ?_⟩; have n_ := aJ (aM (Kd.R_below (rY HO0_0 BK103) hb)) (aJ (aM (Kd.V_below (vY HO0_1) hb)) (aJ (aM (Kd.V_below (vY HO1_1) hb)) (aJ (aM (Kd.V_below (vY HO2_1) hb)) (aJ (aM (Kd.V_below (vY HO108) hb)) (aJ (aM (Kd.V_below (vY HO112) hb)) (aJ (bB BK101 hb) (aJ (bB BK102 hb) (aJ (aM (blk_below (g := gb103) (o := .cells #[.int .i64 t109, .slice Ao29 t110.length co29] 55 (0, 0)) (bP BK103) hb)) (aJ (bB BK104 hb) (aJ (aM (Kept.below (S := (fun k_ => P0_0_ k_)) (kK HK) hb)) (aM (below_step (pH HB) hb)))))))))))); clear HO0_0 HO0_1 HO1_1 HO2_1 HO108 HO112 BK101 BK102 BK103 BK104 HK HB; obtain ⟨HO0_0, HO0_1, HO1_1, HO2_1, HO108, HO112, BK101, BK102, BK103, BK104, HK, HB⟩ := n_; (try clear hb)))
   go_meet
   case rel => exact ⟨_, (true), rS, H', ⟨by first | omega | exact Nat.le_refl _⟩, ⟨rX HO0_0⟩, ⟨vY HO0_1⟩, ⟨vY HO108⟩, ⟨vY HO112⟩, ⟨pB BK101⟩, ⟨pB BK102⟩, ⟨pB BK103⟩, ⟨pB BK104⟩, ⟨kK HK⟩, ⟨pH HB⟩⟩
 case rest =>
  clear HC7
  obtain ⟨kq, x27_6, rfl, HA, HJ6, HO_102000, HO_102001, HO_103001, HO_104001, BK101, BK102, BK103, BK104, HK, HB⟩ := hcut
  cases kq with
  | zero => exact absurd HA.out (by simp [spec_leUnify.j0])
  | succ kj6 =>
   have H := HA.out
   clear HA
   simp only [spec_leUnify.j0] at H
   by_cases c47 : x27_6 = true
   ·subst c47
    rw [if_pos rfl] at H
    simp only [Option.some.injEq, Prod.mk.injEq] at H
    obtain ⟨rfl, rfl, rfl⟩ := H
    have hnb48 := NB101_102.out
    have hnc48 := NB102_101.out
    have hnb49 := NB101_103.out
    have hnc49 := NB103_101.out
    have hnb50 := NB101_104.out
    have hnc50 := NB104_101.out
    obtain ⟨hcz51_0, hcz51_1, hfz51_0, hfz51_1⟩ := cA2 BK101
    have hnb52 := NB104_102.out
    have hnc52 := NB102_104.out
    have hnb53 := NB104_103.out
    have hnc53 := NB103_104.out
    obtain ⟨hcz54_0, hcz54_1, hfz54_0, hfz54_1⟩ := cA2 BK104
    go_wp2
    refine bodyPost_ret (results_ct rfl _ _ gb104 60 #[.slice Ao8 l0_0.length co8, .slice A0_1 l0_1.length c0_1] (0, 0) _ rfl (bP BK104) Tryz.underlying60 rfl (by kernel_rfl)) rfl ?_
    exact ⟨_, _, eW, by (with_reducible repeat (first | apply rA | apply rN | apply rD)); exact Kd.R_mono (Kd.R_far (p := ⟨gb104, 1, none⟩) (Kd.R_far (p := ⟨gb104, 0, none⟩) (Kd.R_types HO_102000.out BK104.out (by decide)) (fun _ hk => hk.2) (.slice Ao8 l0_0.length co8)) (fun _ hk => hk.2) (.slice A0_1 l0_1.length c0_1)) (fun _ hk => hk.1), by (with_reducible repeat (first | apply Kd.V_alloc | apply Kd.V_drewN | apply Kd.V_drew)); exact Kd.V_mono (Kd.V_far (p := ⟨gb104, 1, none⟩) (Kd.V_far (p := ⟨gb104, 0, none⟩) (Kd.V_mono HO_102001.out (fun k_ hk => (⟨hk, hk.2.2.2.2.2⟩ : _ ∧ k_ ≠ gb104))) (fun _ hk => hk.2) (.slice Ao8 l0_0.length co8)) (fun _ hk => hk.2) (.slice A0_1 l0_1.length c0_1)) (fun _ hk => ⟨hk.1.1, hk.1.2.1⟩), pH HB, by repeat (first | (with_reducible first | exact HK.out | apply Kept.alloc | apply Kept.drewN | apply Kept.drew | refine Kept.setCell ?_ (.inr GW101.out) _ | refine Kept.setCell ?_ (.inr GW102.out) _ | refine Kept.setCell ?_ (.inr GW103.out) _ | refine Kept.setCell ?_ (.inr GW104.out) _) | exact HK.out)⟩
   ·replace c47 := Bool.eq_false_iff.mpr c47
    subst c47
    rw [if_neg (show ¬ (false = true) by decide)] at H
    replace H := Option.bind_eq_some_iff.mp H
    obtain ⟨t115, A550, H⟩ := H
    try dsimp only at H
    have A55 := aM A550
    clear A550
    by_cases c56 : t115 = true
    ·subst c56
     rw [if_pos rfl] at H
     simp only [Option.some.injEq, Prod.mk.injEq] at H
     obtain ⟨rfl, rfl, rfl⟩ := H
     have hnb57 := NB102_101.out
     have hnc57 := NB101_102.out
     have hnb58 := NB102_103.out
     have hnc58 := NB103_102.out
     have hnb59 := NB102_104.out
     have hnc59 := NB104_102.out
     obtain ⟨hcz60_0, hcz60_1, hfz60_0, hfz60_1⟩ := cA2 BK102
     have hnb61 := NB103_101.out
     have hnc61 := NB101_103.out
     have hnb62 := NB103_104.out
     have hnc62 := NB104_103.out
     obtain ⟨hcz63_0, hcz63_1, hfz63_0, hfz63_1⟩ := cA2 BK103
     go_wp2_with (first | ((with_reducible refine gate_callee (f := 45) rfl ?_); refine goesL_ (some 31) rfl rfl Tryz.func45 (by kernel_rfl) rfl #[.agg #[.int .i64 t105, .slice Ao22 t106.length co22], .agg #[.int .i64 t109, .slice Ao29 t110.length co29]] rfl tA ?_; (with_reducible refine (spec_leSame.calls kj6 t105 _ _ t106 t109 _ _ t110 true _ ?side1 ?side2 ?side3 ?side4 A55.out).mono ?_); (case side1 => exact sC ((Kd.V_reads' HO_103001.out).2.2)); (case side2 => exact (Kd.V_reads' HO_103001.out).2.1); (case side3 => exact sC ((Kd.V_reads' HO_104001.out).2.2)); (case side4 => exact (Kd.V_reads' HO_104001.out).2.1); rintro e w64 ⟨rfl, hb⟩; refine ⟨_, rfl, ?_⟩; replace BK101 := qb BK101 hb; replace BK102 := qb BK102 hb; replace BK103 := qb BK103 hb; replace BK104 := qb BK104 hb; replace HO_102000 := rB HO_102000 hb; replace HO_102001 := vB HO_102001 hb; replace HO_103001 := vB HO_103001 hb; replace HO_104001 := vB HO_104001 hb; replace HK := kB HK hb; replace HB := qs HB hb; (try clear hb); have hnb65 := NB101_104.out; have hnc65 := NB104_101.out; obtain ⟨hcz66_0, hcz66_1, hfz66_0, hfz66_1⟩ := cA2 BK101; obtain ⟨hcz67_0, hcz67_1, hfz67_0, hfz67_1⟩ := cA2 BK104))
     refine bodyPost_ret (results_ct rfl _ _ gb104 60 #[.slice Ao8 l0_0.length co8, .slice A0_1 l0_1.length c0_1] (0, 0) _ rfl (bP BK104) Tryz.underlying60 rfl (by kernel_rfl)) rfl ?_
     exact ⟨_, _, eW, by (with_reducible repeat (first | apply rA | apply rN | apply rD)); exact Kd.R_mono (Kd.R_far (p := ⟨gb104, 1, none⟩) (Kd.R_far (p := ⟨gb104, 0, none⟩) (Kd.R_types HO_102000.out BK104.out (by decide)) (fun _ hk => hk.2) (.slice Ao8 l0_0.length co8)) (fun _ hk => hk.2) (.slice A0_1 l0_1.length c0_1)) (fun _ hk => hk.1), by (with_reducible repeat (first | apply Kd.V_alloc | apply Kd.V_drewN | apply Kd.V_drew)); exact Kd.V_mono (Kd.V_far (p := ⟨gb104, 1, none⟩) (Kd.V_far (p := ⟨gb104, 0, none⟩) (Kd.V_mono HO_102001.out (fun k_ hk => (⟨hk, hk.2.2.2.2.2⟩ : _ ∧ k_ ≠ gb104))) (fun _ hk => hk.2) (.slice Ao8 l0_0.length co8)) (fun _ hk => hk.2) (.slice A0_1 l0_1.length c0_1)) (fun _ hk => ⟨hk.1.1, hk.1.2.1⟩), pH HB, by repeat (first | (with_reducible first | exact HK.out | apply Kept.alloc | apply Kept.drewN | apply Kept.drew | refine Kept.setCell ?_ (.inr GW101.out) _ | refine Kept.setCell ?_ (.inr GW102.out) _ | refine Kept.setCell ?_ (.inr GW103.out) _ | refine Kept.setCell ?_ (.inr GW104.out) _) | exact HK.out)⟩
    ·replace c56 := Bool.eq_false_iff.mpr c56
     subst c56
     rw [if_neg (show ¬ (false = true) by decide)] at H
     have HC68 := aM H
     clear H
     have hnb69 := NB102_101.out
     have hnc69 := NB101_102.out
     have hnb70 := NB102_103.out
     have hnc70 := NB103_102.out
     have hnb71 := NB102_104.out
     have hnc71 := NB104_102.out
     obtain ⟨hcz72_0, hcz72_1, hfz72_0, hfz72_1⟩ := cA2 BK102
     have hnb73 := NB103_101.out
     have hnc73 := NB101_103.out
     have hnb74 := NB103_104.out
     have hnc74 := NB104_103.out
     obtain ⟨hcz75_0, hcz75_1, hfz75_0, hfz75_1⟩ := cA2 BK103
     go_upto_region 7 with (first | ((with_reducible refine gate_callee (f := 45) rfl ?_); refine goesL_ (some 31) rfl rfl Tryz.func45 (by kernel_rfl) rfl #[.agg #[.int .i64 t105, .slice Ao22 t106.length co22], .agg #[.int .i64 t109, .slice Ao29 t110.length co29]] rfl tA ?_; (with_reducible refine (spec_leSame.calls kj6 t105 _ _ t106 t109 _ _ t110 false _ ?side1 ?side2 ?side3 ?side4 A55.out).mono ?_); (case side1 => exact sC ((Kd.V_reads' HO_103001.out).2.2)); (case side2 => exact (Kd.V_reads' HO_103001.out).2.1); (case side3 => exact sC ((Kd.V_reads' HO_104001.out).2.2)); (case side4 => exact (Kd.V_reads' HO_104001.out).2.1); rintro e w76 ⟨rfl, hb⟩; refine ⟨_, rfl, ?_⟩; replace BK101 := qb BK101 hb; replace BK102 := qb BK102 hb; replace BK103 := qb BK103 hb; replace BK104 := qb BK104 hb; replace HO_102000 := rB HO_102000 hb; replace HO_102001 := vB HO_102001 hb; replace HO_103001 := vB HO_103001 hb; replace HO_104001 := vB HO_104001 hb; replace HK := kB HK hb; replace HB := qs HB hb; (try clear hb)))
     (try simp only [Act.put, List.setIfInBounds_toArray, List.set_cons_zero, List.set_cons_succ])
     go_cut [42] (fun v42 wc => ∃ (kq : Nat) (x42_67 : Bool), v42 = .bool x42_67 ∧ Aside0 (spec_leUnify.j1 kq a3 x42_67 l0_0 l0_1 t105 t106 t109 t110 = some (r1, r2, r3)) ∧ Aside0 (kq ≤ kj6) ∧ Aside0 (Kd.R (Kd.int .i64) 3 wc w0.heap.size (fun k_ => (P0_0_ k_ ∨ w.heap.size ≤ k_)) (.slice Ao8 l0_0.length co8) l0_0) ∧ Aside0 (Kd.V k55 55 wc w0.heap.size (fun k_ => pU P0_0_ P0_1_ P1_1_ P2_1_ w k_ ∧ nS k_ Ao8 l0_0 co8 ∧ k_ ≠ gb101 ∧ k_ ≠ gb102 ∧ k_ ≠ gb103 ∧ k_ ≠ gb104) (.slice A0_1 l0_1.length c0_1) l0_1) ∧ Aside0 (Kd.V k55 55 wc w0.heap.size (fun k_ => pU P0_0_ P0_1_ P1_1_ P2_1_ w k_ ∧ nS k_ Ao8 l0_0 co8 ∧ k_ ≠ gb101 ∧ k_ ≠ gb102 ∧ k_ ≠ gb103 ∧ k_ ≠ gb104) (.slice Ao22 t106.length co22) t106) ∧ Aside0 (Kd.V k55 55 wc w0.heap.size (fun k_ => pU P0_0_ P0_1_ P1_1_ P2_1_ w k_ ∧ nS k_ Ao8 l0_0 co8 ∧ k_ ≠ gb101 ∧ k_ ≠ gb102 ∧ k_ ≠ gb103 ∧ k_ ≠ gb104) (.slice Ao29 t110.length co29) t110) ∧ Aside0 (wc.heap[gb101]? = some (.cells #[(.slice Ao8 l0_0.length co8), (.slice A0_1 l0_1.length c0_1)] 60 (0, 0))) ∧ Aside0 (wc.heap[gb102]? = some (.cells #[.int .i64 t105, (.slice Ao22 t106.length co22)] 55 (0, 0))) ∧ Aside0 (wc.heap[gb103]? = some (.cells #[.int .i64 t109, (.slice Ao29 t110.length co29)] 55 (0, 0))) ∧ Aside0 (wc.heap[gb104]? = some (.cells #[(.slice none 0 0), (.slice none 0 0)] 60 (0, 0))) ∧ Aside0 (Kept w wc (fun k_ => P0_0_ k_)) ∧ Aside0 (Below w0.heap.size w0 wc))
     case first =>
      have H := HC68.out
      clear HC68
      by_cases c77 : (t106.length : Int) = 0
      ·rw [if_pos c77] at H
       have c77b0 : ((t106.length : Int) == 0) = true := beq_iff_eq.mpr c77
       have c77b1 : ((t106.length : Int) != 0) = false := bne_eq_false_iff_eq.mpr c77
       clear c77
       (first | rw [c77b0] | (simp only [i64_w, i32_w]; rw [c77b0]) | skip)
       have H' := aM H
       clear H
       have hnb78 := NB102_101.out
       have hnc78 := NB101_102.out
       have hnb79 := NB102_103.out
       have hnc79 := NB103_102.out
       have hnb80 := NB102_104.out
       have hnc80 := NB104_102.out
       obtain ⟨hcz81_0, hcz81_1, hfz81_0, hfz81_1⟩ := cA2 BK102
       go_wp2
       go_meet
       case rel => exact ⟨_, (false), rS, H', ⟨by have := HJ6.out; first | omega | exact Nat.le_refl _⟩, ⟨rX HO_102000⟩, ⟨vY HO_102001⟩, ⟨vY HO_103001⟩, ⟨vY HO_104001⟩, ⟨pB BK101⟩, ⟨pB BK102⟩, ⟨pB BK103⟩, ⟨pB BK104⟩, ⟨kK HK⟩, ⟨pH HB⟩⟩
      ·rw [if_neg c77] at H
       have c77b0 : ((t106.length : Int) == 0) = false := beq_eq_false_iff_ne.mpr c77
       have c77b1 : ((t106.length : Int) != 0) = true := bne_iff_ne.mpr c77
       have c77b2 : ¬ (t106 = []) := fun h_ => c77 (by rw [h_]; rfl)
       (first | rw [c77b0] | (simp only [i64_w, i32_w]; rw [c77b0]) | skip)
       have H' := aM H
       clear H
       have hnb82 := NB102_101.out
       have hnc82 := NB101_102.out
       have hnb83 := NB102_103.out
       have hnc83 := NB103_102.out
       have hnb84 := NB102_104.out
       have hnc84 := NB104_102.out
       obtain ⟨hcz85_0, hcz85_1, hfz85_0, hfz85_1⟩ := cA2 BK102
       have hnb86 := NB103_101.out
       have hnc86 := NB101_103.out
       have hnb87 := NB103_104.out
       have hnc87 := NB104_103.out
       obtain ⟨hcz88_0, hcz88_1, hfz88_0, hfz88_1⟩ := cA2 BK103
       go_wp2
       go_meet
       case rel => exact ⟨_, (((t110.length : Int) == 0)), rS, H', ⟨by have := HJ6.out; first | omega | exact Nat.le_refl _⟩, ⟨rX HO_102000⟩, ⟨vY HO_102001⟩, ⟨vY HO_103001⟩, ⟨vY HO_104001⟩, ⟨pB BK101⟩, ⟨pB BK102⟩, ⟨pB BK103⟩, ⟨pB BK104⟩, ⟨kK HK⟩, ⟨pH HB⟩⟩
     case rest =>
      clear HC68
      obtain ⟨kq, x42_67, rfl, HA, HJ67, HO_102000, HO_102001, HO_103001, HO_104001, BK101, BK102, BK103, BK104, HK, HB⟩ := hcut
      cases kq with
      | zero => exact absurd HA.out (by simp [spec_leUnify.j1])
      | succ kj67 =>
       have H := HA.out
       clear HA
       simp only [spec_leUnify.j1] at H
       have HC89 := aM H
       clear H
       go_upto_if 42 with (fail)
       go_cut [] (fun wc => ∃ (kq : Nat) (x103000_88 : Int) (x103001_88 : List (S55)) (x104000_88 : Int) (x104001_88 : List (S55)) (u103001 : Value) (u104001 : Value), Aside0 (spec_leUnify.j2 kq a3 l0_0 l0_1 x103000_88 x103001_88 x104000_88 x104001_88 = some (r1, r2, r3)) ∧ Aside0 (kq ≤ kj67) ∧ Aside0 (Kd.R (Kd.int .i64) 3 wc w0.heap.size (fun k_ => (P0_0_ k_ ∨ w.heap.size ≤ k_)) (.slice Ao8 l0_0.length co8) l0_0) ∧ Aside0 (Kd.V k55 55 wc w0.heap.size (fun k_ => pU P0_0_ P0_1_ P1_1_ P2_1_ w k_ ∧ nS k_ Ao8 l0_0 co8 ∧ k_ ≠ gb101 ∧ k_ ≠ gb102 ∧ k_ ≠ gb103 ∧ k_ ≠ gb104) (.slice A0_1 l0_1.length c0_1) l0_1) ∧ Aside0 (Kd.V k55 55 wc w0.heap.size (fun k_ => pU P0_0_ P0_1_ P1_1_ P2_1_ w k_ ∧ nS k_ Ao8 l0_0 co8 ∧ k_ ≠ gb101 ∧ k_ ≠ gb102 ∧ k_ ≠ gb103 ∧ k_ ≠ gb104) u103001 x103001_88) ∧ Aside0 (Kd.V k55 55 wc w0.heap.size (fun k_ => pU P0_0_ P0_1_ P1_1_ P2_1_ w k_ ∧ nS k_ Ao8 l0_0 co8 ∧ k_ ≠ gb101 ∧ k_ ≠ gb102 ∧ k_ ≠ gb103 ∧ k_ ≠ gb104) u104001 x104001_88) ∧ Aside0 (wc.heap[gb101]? = some (.cells #[(.slice Ao8 l0_0.length co8), (.slice A0_1 l0_1.length c0_1)] 60 (0, 0))) ∧ Aside0 (wc.heap[gb102]? = some (.cells #[.int .i64 x103000_88, u103001] 55 (0, 0))) ∧ Aside0 (wc.heap[gb103]? = some (.cells #[.int .i64 x104000_88, u104001] 55 (0, 0))) ∧ Aside0 (wc.heap[gb104]? = some (.cells #[(.slice none 0 0), (.slice none 0 0)] 60 (0, 0))) ∧ Aside0 (Kept w wc (fun k_ => P0_0_ k_)) ∧ Aside0 (Below w0.heap.size w0 wc))
       case first =>
        have H := HC89.out
        clear HC89
        by_cases c90 : x42_67 = true
        ·subst c90
         rw [if_pos rfl] at H
         have H' := aM H
         clear H
         have hnb91 := NB102_101.out
         have hnc91 := NB101_102.out
         have hnb92 := NB102_103.out
         have hnc92 := NB103_102.out
         have hnb93 := NB102_104.out
         have hnc93 := NB104_102.out
         obtain ⟨hcz94_0, hcz94_1, hfz94_0, hfz94_1⟩ := cA2 BK102
         go_wp2_with (first | ((with_reducible refine gate_dst (N := 10) rfl ?_); (try (refine gate_guard (by rfl) ?_; dsimp only)); refine bE (N := 10) (cs := #[.int .i64 0, .slice none 0 0]) (t := 55) ?_; intro gb116 hg w95 hbox hb; have GW116 := gW HK hg; have GE116 := qw HB hg; have NB101_116 := ql BK101 hg; have NB116_101 := qg BK101 hg; have NB102_116 := ql BK102 hg; have NB116_102 := qg BK102 hg; have NB103_116 := ql BK103 hg; have NB116_103 := qg BK103 hg; have NB104_116 := ql BK104 hg; have NB116_104 := qg BK104 hg; replace HO_102001 := qv HO_102001 hg hb; replace HO_103001 := qv HO_103001 hg hb; replace HO_104001 := qv HO_104001 hg hb; replace BK101 := qb BK101 hb; replace BK102 := qb BK102 hb; replace BK103 := qb BK103 hb; replace BK104 := qb BK104 hb; have BK116 := aK hbox; replace HO_102000 := rB HO_102000 hb; replace HK := kB HK hb; replace HB := qs HB hb; clear hb hbox hg; have hnb96 := NB116_101.out; have hnc96 := NB101_116.out; have hnb97 := NB116_102.out; have hnc97 := NB102_116.out; have hnb98 := NB116_103.out; have hnc98 := NB103_116.out; have hnb99 := NB116_104.out; have hnc99 := NB104_116.out; obtain ⟨hcz100_0, hcz100_1, hfz100_0, hfz100_1⟩ := cA2 BK116; have hnb101 := NB103_101.out; have hnc101 := NB101_103.out; have hnb102 := NB103_104.out; have hnc102 := NB104_103.out; obtain ⟨hcz103_0, hcz103_1, hfz103_0, hfz103_1⟩ := cA2 BK103; obtain ⟨hcz104_0, hcz104_1, hfz104_0, hfz104_1⟩ := cA2 BK102))
         go_meet
         case rel => exact ⟨_, (t109), (t110), (t105), (t106), (.slice Ao29 t110.length co29), (.slice Ao22 t106.length co22), H', ⟨by have := HJ6.out; have := HJ67.out; first | omega | exact Nat.le_refl _⟩, ⟨by (with_reducible repeat (first | apply rA | apply rN | apply rD)); exact Kd.R_mono (Kd.R_far (p := ⟨gb103, 1, none⟩) (Kd.R_far (p := ⟨gb103, 0, none⟩) (Kd.R_far (p := ⟨gb102, 1, none⟩) (Kd.R_far (p := ⟨gb102, 0, none⟩) (Kd.R_far (p := ⟨gb116, 1, none⟩) (Kd.R_far (p := ⟨gb116, 0, none⟩) (Kd.R_types (Kd.R_types (Kd.R_types HO_102000.out BK116.out (by decide)) BK102.out (by decide)) BK103.out (by decide)) (fun _ hk => hk.1.1.2) (.int .i64 t105)) (fun _ hk => hk.1.1.2) (.slice Ao22 t106.length co22)) (fun _ hk => hk.1.2) (.int .i64 t109)) (fun _ hk => hk.1.2) (.slice Ao29 t110.length co29)) (fun _ hk => hk.2) (.int .i64 t105)) (fun _ hk => hk.2) (.slice Ao22 t106.length co22)) (fun _ hk => hk.1.1.1)⟩, ⟨vZ HO_102001⟩, ⟨vZ HO_104001⟩, ⟨vZ HO_103001⟩, ⟨bY BK101⟩, ⟨by (repeat first | with_reducible apply zN | with_reducible apply zD | with_reducible apply zA | refine blk_far ?_ NB102_103.out _); refine blk_put (cs := #[.int .i64 t109, .slice Ao22 t106.length co22]) ?_ 1 _ rfl; (with_reducible repeat first | apply zN | apply zD | apply zA); refine blk_put (cs := #[.int .i64 t105, .slice Ao22 t106.length co22]) ?_ 0 _ rfl; (repeat first | with_reducible apply zN | with_reducible apply zD | with_reducible apply zA | refine blk_far ?_ NB102_116.out _); exact BK102.out⟩, ⟨by (with_reducible repeat first | apply zN | apply zD | apply zA); refine blk_put (cs := #[.int .i64 t105, .slice Ao29 t110.length co29]) ?_ 1 _ rfl; (with_reducible repeat first | apply zN | apply zD | apply zA); refine blk_put (cs := #[.int .i64 t109, .slice Ao29 t110.length co29]) ?_ 0 _ rfl; (repeat first | with_reducible apply zN | with_reducible apply zD | with_reducible apply zA | refine blk_far ?_ NB103_102.out _ | refine blk_far ?_ NB103_116.out _); exact BK103.out⟩, ⟨bY BK104⟩, ⟨kK HK⟩, ⟨pH HB⟩⟩
        ·replace c90 := Bool.eq_false_iff.mpr c90
         subst c90
         rw [if_neg (show ¬ (false = true) by decide)] at H
         have H' := aM H
         clear H
         go_wp2
         go_meet
         case rel => exact ⟨_, (t105), (t106), (t109), (t110), (.slice Ao22 t106.length co22), (.slice Ao29 t110.length co29), H', ⟨by have := HJ6.out; have := HJ67.out; first | omega | exact Nat.le_refl _⟩, ⟨rX HO_102000⟩, ⟨vY HO_102001⟩, ⟨vY HO_103001⟩, ⟨vY HO_104001⟩, ⟨pB BK101⟩, ⟨pB BK102⟩, ⟨pB BK103⟩, ⟨pB BK104⟩, ⟨kK HK⟩, ⟨pH HB⟩⟩
       case rest =>
        clear HC89
        obtain ⟨kq, x103000_88, x103001_88, x104000_88, x104001_88, u103001, u104001, HA, HJ88, HO_102000, HO_102001, HO_103001, HO_104001, BK101, BK102, BK103, BK104, HK, HB⟩ := hcut
        cases kq with
        | zero => exact absurd HA.out (by simp [spec_leUnify.j2])
        | succ kj88 =>
         have H := HA.out
         clear HA
         simp only [spec_leUnify.j2] at H
         by_cases c105 : (x103001_88.length : Int) = 0
         ·rw [if_pos c105] at H
          have c105b0 : ((x103001_88.length : Int) == 0) = true := beq_iff_eq.mpr c105
          have c105b1 : ((x103001_88.length : Int) != 0) = false := bne_eq_false_iff_eq.mpr c105
          clear c105
          replace H := Option.bind_eq_some_iff.mp H
          obtain ⟨t117, A1060, H⟩ := H
          try dsimp only at H
          have A106 := aM A1060
          clear A1060
          replace H := Option.bind_eq_some_iff.mp H
          obtain ⟨t120, A1070, H⟩ := H
          try dsimp only at H
          have A107 := aM A1070
          clear A1070
          by_cases c108 : t120 = true
          ·subst c108
           rw [if_pos rfl] at H
           simp only [Option.some.injEq, Prod.mk.injEq] at H
           obtain ⟨rfl, rfl, rfl⟩ := H
           have hnb109 := NB102_101.out
           have hnc109 := NB101_102.out
           have hnb110 := NB102_103.out
           have hnc110 := NB103_102.out
           have hnb111 := NB102_104.out
           have hnc111 := NB104_102.out
           obtain ⟨hcz112_0, hcz112_1, hfz112_0, hfz112_1⟩ := cA2 BK102
           obtain ⟨Ao113, co113, eo113⟩ := Kd.V_slice HO_103001.out
           subst eo113
           try go_wp2
           have n_ := aJ (rE HO_102000) (aJ (vD HO_102001) (aJ (vD HO_103001) (aJ (vD HO_104001) (aJ (aM (blk_drew BK101.out)) (aJ (aM (blk_drew BK102.out)) (aJ (aM (blk_drew BK103.out)) (aJ (aM (blk_drew BK104.out)) (aJ (aM (Kept.drew HK.out)) (aM (below_drew1 HB.out))))))))))
           clear HO_102000 HO_102001 HO_103001 HO_104001 BK101 BK102 BK103 BK104 HK HB
           obtain ⟨HO_102000, HO_102001, HO_103001, HO_104001, BK101, BK102, BK103, BK104, HK, HB⟩ := n_
           obtain ⟨Ao115, co115, eo115⟩ := Kd.V_slice HO_104001.out
           (first | subst eo115 | (injection eo115 with f1_ f2_ f3_; have f4_ := f1_.symm; have f5_ := f3_.symm; clear f1_ f2_ f3_; subst f4_; subst f5_))
           refine start_ (n := 5) (S := fun w' => w'.cell? ⟨gb103, 0, none⟩ = some (.int .i64 x104000_88) ∧ w'.cell? ⟨gb103, 1, none⟩ = some (.slice Ao115 x104001_88.length co115) ∧ w'.cell? ⟨gb102, 0, none⟩ = some (.int .i64 x103000_88) ∧ w'.cell? ⟨gb102, 1, none⟩ = some (.slice Ao113 x103001_88.length co113)) (ds := []) (bs 0 5) (by kernel_rfl) rfl rfl ⟨(blk_cell BK103.out 0).trans rfl, (blk_cell BK103.out 1).trans rfl, (blk_cell BK102.out 0).trans rfl, (blk_cell BK102.out 1).trans rfl⟩ (fun hHeld => ?_)
           generalize wc.drew = w114 at HO_102000 HO_102001 HO_103001 HO_104001 BK101 BK102 BK103 BK104 HK HB hHeld ⊢
           refine pR 2 52 ?_
           refine tR 0 50 hHeld ?_
           refine tR 3 53 hHeld ?_
           refine oR 1 51 (fun K hK => ?_)
           refine goes_ Tryz.func47 (by kernel_rfl) rfl #[.agg #[.int .i64 x104000_88, .slice Ao115 x104001_88.length co115], .slice none 0 0] (by rfl) rfl rfl tA ?_
           refine (spec_leVars.calls kj88 x104000_88 _ _ x104001_88 _ _ ([] : List Int) t117 _ ?side1 ?side2 ?side3 ?side4 A106.out).mono ?_
           (case side1 => exact sC ((Kd.V_reads' HO_104001.out).2.2))
           (case side2 => exact (Kd.V_reads' HO_104001.out).2.1)
           (case side3 => exact rfl)
           (case side4 => exact Nat.le_refl _)
           rintro e w116 ⟨v118, rfl, ho0, hb⟩
           refine ⟨_, rfl, ?_⟩
           have n_ := aJ (aM (Kd.R_elder' HO_102000.out (Kd.R_base ho0) hb)) (aJ (aM (Kd.V_elder' HO_102001.out (Kd.R_base ho0) hb)) (aJ (aM (Kd.V_elder' HO_103001.out (Kd.R_base ho0) hb)) (aJ (aM (Kd.V_elder' HO_104001.out (Kd.R_base ho0) hb)) (aJ (aM (Kd.R_lower (Kd.R_new' (Kd.R_newM (M := fun k_ => (P0_0_ k_ ∨ w.heap.size ≤ k_)) ho0 (by first | exact HK.out.1 | exact (show Kept w _ (fun k_ => P0_0_ k_) from kK HK).1) (fun k_ h_ => .inr h_)) (Kd.R_lt HO_102000.out)) (below_size (pH HB)))) (aJ (qb BK101 hb) (aJ (qb BK102 hb) (aJ (qb BK103 hb) (aJ (qb BK104 hb) (aJ (aM (Kept.below (S := (fun k_ => P0_0_ k_)) (kK HK) hb)) (aM (below_step (pH HB) hb)))))))))))
           clear HO_102000 HO_102001 HO_103001 HO_104001 BK101 BK102 BK103 BK104 HK HB
           obtain ⟨HO_102000, HO_102001, HO_103001, HO_104001, HO119, BK101, BK102, BK103, BK104, HK, HB⟩ := n_
           (try clear hb)
           (try clear hb2)
           (try clear hk)
           (try clear hi)
           (try clear ho0)
           obtain ⟨Ao117, co117, eo117⟩ := Kd.R_slice HO119.out
           (first | subst eo117 | (injection eo117 with f1_ f2_ f3_; have f4_ := f1_.symm; have f5_ := f3_.symm; clear f1_ f2_ f3_; subst f4_; subst f5_))
           refine hK.out _ _ ⟨(blk_cell BK103.out 0).trans rfl, (blk_cell BK103.out 1).trans rfl, (blk_cell BK102.out 0).trans rfl, (blk_cell BK102.out 1).trans rfl⟩ (fun hHeld => ?_)
           clear hK K
           refine nQ 51 ?_
           refine oR 4 54 (fun K hK => ?_)
           refine goes_ Tryz.func46 (by kernel_rfl) rfl #[.slice Ao117 t117.length co117, .int .i64 x103000_88] (by rfl) rfl rfl tA ?_
           with_reducible refine (spec_lcHas.calls kj88 _ _ t117 x103000_88 true _ ?side1 ?side2 A107.out).mono ?_
           (case side1 => exact sC ((Kd.R_reads' HO119.out).2.2))
           (case side2 => exact (Kd.R_reads' HO119.out).2.1)
           rintro e w' ⟨rfl, ⟨nd, rfl⟩⟩
           refine ⟨_, rfl, ?_⟩
           refine hK.out _ _ ⟨(blk_cell BK103.out 0).trans rfl, (blk_cell BK103.out 1).trans rfl, (blk_cell BK102.out 0).trans rfl, (blk_cell BK102.out 1).trans rfl⟩ (fun hHeld => ?_)
           clear hK K
           refine nQ 54 ?_
           refine done_ (by kernel_rfl) ?_
           have hnb118 := NB101_103.out
           have hnc118 := NB103_101.out
           have hnb119 := NB101_104.out
           have hnc119 := NB104_101.out
           obtain ⟨hcz120_0, hcz120_1, hfz120_0, hfz120_1⟩ := cA2 BK101
           have hnb121 := NB104_103.out
           have hnc121 := NB103_104.out
           obtain ⟨hcz122_0, hcz122_1, hfz122_0, hfz122_1⟩ := cA2 BK104
           try go_wp2
           refine bodyPost_ret (results_ct rfl _ _ gb104 60 #[.slice Ao8 l0_0.length co8, .slice A0_1 l0_1.length c0_1] (0, 0) _ rfl (bP BK104) Tryz.underlying60 rfl (by kernel_rfl)) rfl ?_
           exact ⟨_, _, eW, by (with_reducible repeat (first | apply rA | apply rN | apply rD)); exact Kd.R_mono (Kd.R_far (p := ⟨gb104, 1, none⟩) (Kd.R_far (p := ⟨gb104, 0, none⟩) (Kd.R_types HO_102000.out BK104.out (by decide)) (fun _ hk => hk.2) (.slice Ao8 l0_0.length co8)) (fun _ hk => hk.2) (.slice A0_1 l0_1.length c0_1)) (fun _ hk => hk.1.1), by (with_reducible repeat (first | apply Kd.V_alloc | apply Kd.V_drewN | apply Kd.V_drew)); exact Kd.V_mono (Kd.V_far (p := ⟨gb104, 1, none⟩) (Kd.V_far (p := ⟨gb104, 0, none⟩) (Kd.V_mono HO_102001.out (fun k_ hk => (⟨hk, hk.1.2.2.2.2.2⟩ : _ ∧ k_ ≠ gb104))) (fun _ hk => hk.2) (.slice Ao8 l0_0.length co8)) (fun _ hk => hk.2) (.slice A0_1 l0_1.length c0_1)) (fun _ hk => ⟨hk.1.1.1, hk.1.1.2.1⟩), pH HB, by repeat (first | (with_reducible first | exact HK.out | apply Kept.alloc | apply Kept.drewN | apply Kept.drew | refine Kept.setCell ?_ (.inr GW101.out) _ | refine Kept.setCell ?_ (.inr GW102.out) _ | refine Kept.setCell ?_ (.inr GW103.out) _ | refine Kept.setCell ?_ (.inr GW104.out) _) | exact HK.out)⟩
          ·replace c108 := Bool.eq_false_iff.mpr c108
           subst c108
           rw [if_neg (show ¬ (false = true) by decide)] at H
           replace H := Option.bind_eq_some_iff.mp H
           obtain ⟨⟨t121, t124⟩, A1230, H⟩ := H
           try dsimp only at H
           have A123 := aM A1230
           clear A1230
           replace H := Option.bind_eq_some_iff.mp H
           obtain ⟨t127, A1240, H⟩ := H
           try dsimp only at H
           have A124 := aM A1240
           clear A1240
           simp only [Option.some.injEq, Prod.mk.injEq] at H
           obtain ⟨rfl, rfl, rfl⟩ := H
           have hnb125 := NB102_101.out
           have hnc125 := NB101_102.out
           have hnb126 := NB102_103.out
           have hnc126 := NB103_102.out
           have hnb127 := NB102_104.out
           have hnc127 := NB104_102.out
           obtain ⟨hcz128_0, hcz128_1, hfz128_0, hfz128_1⟩ := cA2 BK102
           obtain ⟨Ao129, co129, eo129⟩ := Kd.V_slice HO_103001.out
           subst eo129
           try go_wp2
           have n_ := aJ (rE HO_102000) (aJ (vD HO_102001) (aJ (vD HO_103001) (aJ (vD HO_104001) (aJ (aM (blk_drew BK101.out)) (aJ (aM (blk_drew BK102.out)) (aJ (aM (blk_drew BK103.out)) (aJ (aM (blk_drew BK104.out)) (aJ (aM (Kept.drew HK.out)) (aM (below_drew1 HB.out))))))))))
           clear HO_102000 HO_102001 HO_103001 HO_104001 BK101 BK102 BK103 BK104 HK HB
           obtain ⟨HO_102000, HO_102001, HO_103001, HO_104001, BK101, BK102, BK103, BK104, HK, HB⟩ := n_
           obtain ⟨Ao131, co131, eo131⟩ := Kd.V_slice HO_104001.out
           (first | subst eo131 | (injection eo131 with f1_ f2_ f3_; have f4_ := f1_.symm; have f5_ := f3_.symm; clear f1_ f2_ f3_; subst f4_; subst f5_))
           refine start_ (n := 5) (S := fun w' => w'.cell? ⟨gb103, 0, none⟩ = some (.int .i64 x104000_88) ∧ w'.cell? ⟨gb103, 1, none⟩ = some (.slice Ao131 x104001_88.length co131) ∧ w'.cell? ⟨gb102, 0, none⟩ = some (.int .i64 x103000_88) ∧ w'.cell? ⟨gb102, 1, none⟩ = some (.slice Ao129 x103001_88.length co129)) (ds := []) (bs 0 5) (by kernel_rfl) rfl rfl ⟨(blk_cell BK103.out 0).trans rfl, (blk_cell BK103.out 1).trans rfl, (blk_cell BK102.out 0).trans rfl, (blk_cell BK102.out 1).trans rfl⟩ (fun hHeld => ?_)
           generalize wc.drew = w130 at HO_102000 HO_102001 HO_103001 HO_104001 BK101 BK102 BK103 BK104 HK HB hHeld ⊢
           refine pR 2 52 ?_
           refine tR 0 50 hHeld ?_
           refine tR 3 53 hHeld ?_
           refine oR 1 51 (fun K hK => ?_)
           refine goes_ Tryz.func47 (by kernel_rfl) rfl #[.agg #[.int .i64 x104000_88, .slice Ao131 x104001_88.length co131], .slice none 0 0] (by rfl) rfl rfl tA ?_
           refine (spec_leVars.calls kj88 x104000_88 _ _ x104001_88 _ _ ([] : List Int) t117 _ ?side1 ?side2 ?side3 ?side4 A106.out).mono ?_
           (case side1 => exact sC ((Kd.V_reads' HO_104001.out).2.2))
           (case side2 => exact (Kd.V_reads' HO_104001.out).2.1)
           (case side3 => exact rfl)
           (case side4 => exact Nat.le_refl _)
           rintro e w132 ⟨v118, rfl, ho0, hb⟩
           refine ⟨_, rfl, ?_⟩
           have n_ := aJ (aM (Kd.R_elder' HO_102000.out (Kd.R_base ho0) hb)) (aJ (aM (Kd.V_elder' HO_102001.out (Kd.R_base ho0) hb)) (aJ (aM (Kd.V_elder' HO_103001.out (Kd.R_base ho0) hb)) (aJ (aM (Kd.V_elder' HO_104001.out (Kd.R_base ho0) hb)) (aJ (aM (Kd.R_lower (Kd.R_new' (Kd.R_newM (M := fun k_ => (P0_0_ k_ ∨ w.heap.size ≤ k_)) ho0 (by first | exact HK.out.1 | exact (show Kept w _ (fun k_ => P0_0_ k_) from kK HK).1) (fun k_ h_ => .inr h_)) (Kd.R_lt HO_102000.out)) (below_size (pH HB)))) (aJ (qb BK101 hb) (aJ (qb BK102 hb) (aJ (qb BK103 hb) (aJ (qb BK104 hb) (aJ (aM (Kept.below (S := (fun k_ => P0_0_ k_)) (kK HK) hb)) (aM (below_step (pH HB) hb)))))))))))
           clear HO_102000 HO_102001 HO_103001 HO_104001 BK101 BK102 BK103 BK104 HK HB
           obtain ⟨HO_102000, HO_102001, HO_103001, HO_104001, HO119, BK101, BK102, BK103, BK104, HK, HB⟩ := n_
           (try clear hb)
           (try clear hb2)
           (try clear hk)
           (try clear hi)
           (try clear ho0)
           obtain ⟨Ao133, co133, eo133⟩ := Kd.R_slice HO119.out
           (first | subst eo133 | (injection eo133 with f1_ f2_ f3_; have f4_ := f1_.symm; have f5_ := f3_.symm; clear f1_ f2_ f3_; subst f4_; subst f5_))
           refine hK.out _ _ ⟨(blk_cell BK103.out 0).trans rfl, (blk_cell BK103.out 1).trans rfl, (blk_cell BK102.out 0).trans rfl, (blk_cell BK102.out 1).trans rfl⟩ (fun hHeld => ?_)
           clear hK K
           refine nQ 51 ?_
           refine oR 4 54 (fun K hK => ?_)
           refine goes_ Tryz.func46 (by kernel_rfl) rfl #[.slice Ao133 t117.length co133, .int .i64 x103000_88] (by rfl) rfl rfl tA ?_
           with_reducible refine (spec_lcHas.calls kj88 _ _ t117 x103000_88 false _ ?side1 ?side2 A107.out).mono ?_
           (case side1 => exact sC ((Kd.R_reads' HO119.out).2.2))
           (case side2 => exact (Kd.R_reads' HO119.out).2.1)
           rintro e w' ⟨rfl, ⟨nd, rfl⟩⟩
           refine ⟨_, rfl, ?_⟩
           refine hK.out _ _ ⟨(blk_cell BK103.out 0).trans rfl, (blk_cell BK103.out 1).trans rfl, (blk_cell BK102.out 0).trans rfl, (blk_cell BK102.out 1).trans rfl⟩ (fun hHeld => ?_)
           clear hK K
           refine nQ 54 ?_
           refine done_ (by kernel_rfl) ?_
           have hnb134 := NB101_103.out
           have hnc134 := NB103_101.out
           have hnb135 := NB101_104.out
           have hnc135 := NB104_101.out
           obtain ⟨hcz136_0, hcz136_1, hfz136_0, hfz136_1⟩ := cA2 BK101
           obtain ⟨hcz137_0, hcz137_1, hfz137_0, hfz137_1⟩ := cA2 BK102
           have hnb138 := NB103_104.out
           have hnc138 := NB104_103.out
           obtain ⟨hcz139_0, hcz139_1, hfz139_0, hfz139_1⟩ := cA2 BK103
           try go_wp2_with (first | ((with_reducible refine gate_callee (f := 48) rfl ?_); refine goesL_ (some 60) rfl rfl Tryz.func48 (by kernel_rfl) rfl #[.agg #[.slice Ao8 l0_0.length co8, .slice A0_1 l0_1.length c0_1], .int .i64 x103000_88, .agg #[.int .i64 x104000_88, .slice Ao131 x104001_88.length co131]] rfl tA ?_; (with_reducible refine (spec_lePut.calls kj88 _ _ l0_0 (fun k_ => ((pU P0_0_ P0_1_ P1_1_ P2_1_ w k_ ∧ (nS k_ Ao8 l0_0 co8 ∧ (k_ ≠ gb101 ∧ (k_ ≠ gb102 ∧ (k_ ≠ gb103 ∧ k_ ≠ gb104))))) ∧ nS k_ Ao133 t117 co133)) _ _ l0_1 x103000_88 x104000_88 (fun k_ => ((pU P0_0_ P0_1_ P1_1_ P2_1_ w k_ ∧ (nS k_ Ao8 l0_0 co8 ∧ (k_ ≠ gb101 ∧ (k_ ≠ gb102 ∧ (k_ ≠ gb103 ∧ k_ ≠ gb104))))) ∧ nS k_ Ao133 t117 co133)) _ _ x104001_88 t121 t124 _ ?side1 ?side2 ?side3 ?side4 A123.out).mono ?_); (case side1 => exact sC ((Kd.R_reads' HO_102000.out).2.2)); (case side2 => exact (Kd.R_reads' HO_102000.out).2.1); (case side3 => exact HO_102001.out); (case side4 => exact HO_104001.out); rintro e w140 ⟨v122, v125, rfl, ho0, ho1, hb⟩; refine ⟨_, rfl, ?_⟩; have n0_ := aK (Kd.R_elder' (Kd.R_drewN HO_102000.out _) (Kd.R_base ho0) hb); have n1_ := aK (Kd.V_mono (Kd.V_told (Kd.V_told (Kd.V_old (Kd.V_drewN HO_102001.out _) hb) (Kd.R_base ho0)) (Kd.N_base ho1)) (fun _ h_ => h_.1)); have n2_ := aK (Kd.V_mono (Kd.V_told (Kd.V_told (Kd.V_old (Kd.V_drewN HO_103001.out _) hb) (Kd.R_base ho0)) (Kd.N_base ho1)) (fun _ h_ => h_.1)); have n3_ := aK (Kd.V_mono (Kd.V_told (Kd.V_told (Kd.V_old (Kd.V_drewN HO_104001.out _) hb) (Kd.R_base ho0)) (Kd.N_base ho1)) (fun _ h_ => h_.1)); have n4_ := aK (Kd.R_elder' (Kd.R_drewN HO119.out _) (Kd.R_base ho0) hb); have HO123 := aK (Kd.R_lower (Kd.R_new' (Kd.R_new' (Kd.R_newM (M := fun k_ => (P0_0_ k_ ∨ w.heap.size ≤ k_)) (Kd.R_mono (ok' := fun k_ => True) ho0 (fun _ hk_ => trivial)) (by first | exact HK.out.1 | exact (show Kept w _ (fun k_ => P0_0_ k_) from kK HK).1) (fun k_ h_ => .inr h_)) (Kd.R_lt HO_102000.out)) (Kd.R_lt HO119.out)) (below_size (pw_below_drewN HB.out _))); have HO126 := aK (Kd.N_lower (Kd.N_mono (ok' := fun k_ => pU P0_0_ P0_1_ P1_1_ P2_1_ w k_ ∧ some k_ ≠ (v122 : Value).ownBlock ∧ nS k_ Ao8 l0_0 co8 ∧ nS k_ Ao133 t117 co133 ∧ k_ ≠ gb101 ∧ k_ ≠ gb102 ∧ k_ ≠ gb103 ∧ k_ ≠ gb104) ho1 (fun k_ hk_ => ⟨Or.elim hk_.1 (fun hs_ => Or.elim hs_ (fun hs_ => hs_.1.1) (fun hs_ => hs_.1.1)) (fun hn_ => (.inr (Nat.le_trans (by first | exact HK.out.1 | exact (show Kept w _ (fun k_ => P0_0_ k_) from kK HK).1) hn_))), hk_.2, Or.elim hk_.1 (fun hs_ => Or.elim hs_ (fun hs_ => hs_.1.2.1) (fun hs_ => hs_.1.2.1)) (fun hn_ => (Kd.fresh' (Kd.R_lt HO_102000.out) k_ hn_)), Or.elim hk_.1 (fun hs_ => Or.elim hs_ (fun hs_ => hs_.2) (fun hs_ => hs_.2)) (fun hn_ => (Kd.fresh' (Kd.R_lt HO119.out) k_ hn_)), Or.elim hk_.1 (fun hs_ => Or.elim hs_ (fun hs_ => hs_.1.2.2.1) (fun hs_ => hs_.1.2.2.1)) (fun hn_ => (Kd.freshB BK101.out k_ hn_)), Or.elim hk_.1 (fun hs_ => Or.elim hs_ (fun hs_ => hs_.1.2.2.2.1) (fun hs_ => hs_.1.2.2.2.1)) (fun hn_ => (Kd.freshB BK102.out k_ hn_)), Or.elim hk_.1 (fun hs_ => Or.elim hs_ (fun hs_ => hs_.1.2.2.2.2.1) (fun hs_ => hs_.1.2.2.2.2.1)) (fun hn_ => (Kd.freshB BK103.out k_ hn_)), Or.elim hk_.1 (fun hs_ => Or.elim hs_ (fun hs_ => hs_.1.2.2.2.2.2) (fun hs_ => hs_.1.2.2.2.2.2)) (fun hn_ => (Kd.freshB BK104.out k_ hn_))⟩)) (below_size (pw_below_drewN HB.out _))); replace BK101 := qb (aM (blk_drewN BK101.out _)) hb; replace BK102 := qb (aM (blk_drewN BK102.out _)) hb; replace BK103 := qb (aM (blk_drewN BK103.out _)) hb; replace BK104 := qb (aM (blk_drewN BK104.out _)) hb; clear HO_102000; have HO_102000 := n0_; clear n0_; clear HO_102001; have HO_102001 := n1_; clear n1_; clear HO_103001; have HO_103001 := n2_; clear n2_; clear HO_104001; have HO_104001 := n3_; clear n3_; clear HO119; have HO119 := n4_; clear n4_; replace HK := kB HK hb; replace HB := qs (aM (pw_below_drewN HB.out _)) hb; (try clear hb); (try clear ho0); (try clear ho1); obtain ⟨Ao141, co141, eo141⟩ := Kd.R_slice HO123.out; subst eo141; obtain ⟨hcz142_0, hcz142_1, hfz142_0, hfz142_1⟩ := cA2 BK101; obtain ⟨Ao143, co143, eo143⟩ := Kd.N_slice HO126.out; subst eo143))
           have n0_ : Aside0 (Kd.R (Kd.int .i64) 3 ((w140.setCell ⟨gb101, 0, none⟩ (.slice Ao141 t121.length co141)).setCell ⟨gb101, 1, none⟩ (.slice Ao143 t124.length co143)) w0.heap.size (fun k_ => (P0_0_ k_ ∨ w.heap.size ≤ k_) ∧ nS k_ Ao133 t117 co133 ∧ nS k_ Ao141 t121 co141) (.slice Ao8 l0_0.length co8) l0_0) := ⟨rW HO_102000 BK101⟩
           have n1_ : Aside0 (Kd.V k55 55 ((w140.setCell ⟨gb101, 0, none⟩ (.slice Ao141 t121.length co141)).setCell ⟨gb101, 1, none⟩ (.slice Ao143 t124.length co143)) w0.heap.size (fun k_ => pU P0_0_ P0_1_ P1_1_ P2_1_ w k_ ∧ nS k_ Ao8 l0_0 co8 ∧ nS k_ Ao133 t117 co133 ∧ nS k_ Ao141 t121 co141 ∧ nS k_ Ao143 t124 co143 ∧ k_ ≠ gb101 ∧ k_ ≠ gb102 ∧ k_ ≠ gb103 ∧ k_ ≠ gb104) (.slice A0_1 l0_1.length c0_1) l0_1) := ⟨vZ HO_102001⟩
           have n2_ : Aside0 (Kd.V k55 55 ((w140.setCell ⟨gb101, 0, none⟩ (.slice Ao141 t121.length co141)).setCell ⟨gb101, 1, none⟩ (.slice Ao143 t124.length co143)) w0.heap.size (fun k_ => pU P0_0_ P0_1_ P1_1_ P2_1_ w k_ ∧ nS k_ Ao8 l0_0 co8 ∧ nS k_ Ao133 t117 co133 ∧ nS k_ Ao141 t121 co141 ∧ nS k_ Ao143 t124 co143 ∧ k_ ≠ gb101 ∧ k_ ≠ gb102 ∧ k_ ≠ gb103 ∧ k_ ≠ gb104) (.slice Ao129 x103001_88.length co129) x103001_88) := ⟨vZ HO_103001⟩
           have n3_ : Aside0 (Kd.V k55 55 ((w140.setCell ⟨gb101, 0, none⟩ (.slice Ao141 t121.length co141)).setCell ⟨gb101, 1, none⟩ (.slice Ao143 t124.length co143)) w0.heap.size (fun k_ => pU P0_0_ P0_1_ P1_1_ P2_1_ w k_ ∧ nS k_ Ao8 l0_0 co8 ∧ nS k_ Ao133 t117 co133 ∧ nS k_ Ao141 t121 co141 ∧ nS k_ Ao143 t124 co143 ∧ k_ ≠ gb101 ∧ k_ ≠ gb102 ∧ k_ ≠ gb103 ∧ k_ ≠ gb104) (.slice Ao131 x104001_88.length co131) x104001_88) := ⟨vZ HO_104001⟩
           have n4_ : Aside0 (Kd.R (Kd.int .i64) 3 ((w140.setCell ⟨gb101, 0, none⟩ (.slice Ao141 t121.length co141)).setCell ⟨gb101, 1, none⟩ (.slice Ao143 t124.length co143)) w0.heap.size (fun k_ => (P0_0_ k_ ∨ w.heap.size ≤ k_) ∧ nS k_ Ao8 l0_0 co8 ∧ nS k_ Ao141 t121 co141) (.slice Ao133 t117.length co133) t117) := ⟨rW HO119 BK101⟩
           have n5_ : Aside0 (Kd.R (Kd.int .i64) 3 ((w140.setCell ⟨gb101, 0, none⟩ (.slice Ao141 t121.length co141)).setCell ⟨gb101, 1, none⟩ (.slice Ao143 t124.length co143)) w0.heap.size (fun k_ => (P0_0_ k_ ∨ w.heap.size ≤ k_) ∧ nS k_ Ao8 l0_0 co8 ∧ nS k_ Ao133 t117 co133) (.slice Ao141 t121.length co141) t121) := ⟨rW HO123 BK101⟩
           have n6_ : Aside0 (Kd.N k55 55 ((w140.setCell ⟨gb101, 0, none⟩ (.slice Ao141 t121.length co141)).setCell ⟨gb101, 1, none⟩ (.slice Ao143 t124.length co143)) w0.heap.size (fun k_ => pU P0_0_ P0_1_ P1_1_ P2_1_ w k_ ∧ nS k_ Ao8 l0_0 co8 ∧ nS k_ Ao133 t117 co133 ∧ nS k_ Ao141 t121 co141 ∧ k_ ≠ gb101 ∧ k_ ≠ gb102 ∧ k_ ≠ gb103 ∧ k_ ≠ gb104) (.slice Ao143 t124.length co143) t124) := ⟨nZ HO126⟩
           have n7_ : Aside0 (((w140.setCell ⟨gb101, 0, none⟩ (.slice Ao141 t121.length co141)).setCell ⟨gb101, 1, none⟩ (.slice Ao143 t124.length co143)).heap[gb101]? = some (.cells #[.slice Ao141 t121.length co141, .slice Ao143 t124.length co143] 60 (0, 0))) := ⟨bP BK101⟩
           have n8_ : Aside0 (((w140.setCell ⟨gb101, 0, none⟩ (.slice Ao141 t121.length co141)).setCell ⟨gb101, 1, none⟩ (.slice Ao143 t124.length co143)).heap[gb102]? = some (.cells #[.int .i64 x103000_88, .slice Ao129 x103001_88.length co129] 55 (0, 0))) := ⟨bY BK102⟩
           have n9_ : Aside0 (((w140.setCell ⟨gb101, 0, none⟩ (.slice Ao141 t121.length co141)).setCell ⟨gb101, 1, none⟩ (.slice Ao143 t124.length co143)).heap[gb103]? = some (.cells #[.int .i64 x104000_88, .slice Ao131 x104001_88.length co131] 55 (0, 0))) := ⟨bY BK103⟩
           have n10_ : Aside0 (((w140.setCell ⟨gb101, 0, none⟩ (.slice Ao141 t121.length co141)).setCell ⟨gb101, 1, none⟩ (.slice Ao143 t124.length co143)).heap[gb104]? = some (.cells #[.slice none 0 0, .slice none 0 0] 60 (0, 0))) := ⟨bY BK104⟩
           have n11_ : Aside0 (Kept w ((w140.setCell ⟨gb101, 0, none⟩ (.slice Ao141 t121.length co141)).setCell ⟨gb101, 1, none⟩ (.slice Ao143 t124.length co143)) (fun k_ => P0_0_ k_)) := ⟨kK HK⟩
           have n12_ : Aside0 (Below w0.heap.size w0 ((w140.setCell ⟨gb101, 0, none⟩ (.slice Ao141 t121.length co141)).setCell ⟨gb101, 1, none⟩ (.slice Ao143 t124.length co143))) := ⟨pH HB⟩
           (try clear HO_102000)
           (try clear HO_102001)
           (try clear HO_103001)
           (try clear HO_104001)
           (try clear HO119)
           (try clear HO123)
           (try clear HO126)
           (try clear BK101)
           (try clear BK102)
           (try clear BK103)
           (try clear BK104)
           (try clear HK)
           (try clear HB)
           generalize ((w140.setCell ⟨gb101, 0, none⟩ (.slice Ao141 t121.length co141)).setCell ⟨gb101, 1, none⟩ (.slice Ao143 t124.length co143)) = w144 at n0_ n1_ n2_ n3_ n4_ n5_ n6_ n7_ n8_ n9_ n10_ n11_ n12_ ⊢
           have HO_102000 := n0_
           have HO_102001 := n1_
           have HO_103001 := n2_
           have HO_104001 := n3_
           have HO119 := n4_
           have HO123 := n5_
           have HO126 := n6_
           have BK101 := n7_
           have BK102 := n8_
           have BK103 := n9_
           have BK104 := n10_
           have HK := n11_
           have HB := n12_
           clear n0_ n1_ n2_ n3_ n4_ n5_ n6_ n7_ n8_ n9_ n10_ n11_ n12_
           have n_ := aJ (rE HO_102000) (aJ (vD HO_102001) (aJ (vD HO_103001) (aJ (vD HO_104001) (aJ (rE HO119) (aJ (rE HO123) (aJ (nD HO126) (aJ (aM (blk_drew BK101.out)) (aJ (aM (blk_drew BK102.out)) (aJ (aM (blk_drew BK103.out)) (aJ (aM (blk_drew BK104.out)) (aJ (aM (Kept.drew HK.out)) (aM (below_drew1 HB.out)))))))))))))
           clear HO_102000 HO_102001 HO_103001 HO_104001 HO119 HO123 HO126 BK101 BK102 BK103 BK104 HK HB
           obtain ⟨HO_102000, HO_102001, HO_103001, HO_104001, HO119, HO123, HO126, BK101, BK102, BK103, BK104, HK, HB⟩ := n_
           refine start_ (n := 6) (S := fun w' => w'.cell? ⟨gb101, 0, none⟩ = some (.slice Ao141 t121.length co141) ∧ w'.cell? ⟨gb101, 1, none⟩ = some (.slice Ao143 t124.length co143)) (ds := []) (bs 0 6) (by kernel_rfl) rfl rfl ⟨(blk_cell BK101.out 0).trans rfl, (blk_cell BK101.out 1).trans rfl⟩ (fun hHeld => ?_)
           generalize w144.drew = w145 at HO_102000 HO_102001 HO_103001 HO_104001 HO119 HO123 HO126 BK101 BK102 BK103 BK104 HK HB hHeld ⊢
           refine pR 2 63 ?_
           refine tR 0 61 hHeld ?_
           refine tR 1 62 hHeld ?_
           refine oR 3 64 (fun K hK => ?_)
           refine goes_ Tryz.func49 (by kernel_rfl) rfl #[.agg #[.slice Ao141 t121.length co141, .slice Ao143 t124.length co143], .bool a3] (by rfl) rfl rfl tA ?_
           with_reducible refine (spec_leAllFine.calls kj88 _ _ t121 _ _ t124 a3 t127 _ ?side1 ?side2 ?side3 ?side4 A124.out).mono ?_
           (case side1 => exact sC ((Kd.R_reads' HO123.out).2.2))
           (case side2 => exact (Kd.R_reads' HO123.out).2.1)
           (case side3 => exact sC ((Kd.N_reads' HO126.out).2.2))
           (case side4 => exact (Kd.N_reads' HO126.out).2.1)
           rintro e w146 ⟨rfl, hb⟩
           refine ⟨_, rfl, ?_⟩
           have n_ := aJ (rB HO_102000 hb) (aJ (vB HO_102001 hb) (aJ (vB HO_103001 hb) (aJ (vB HO_104001 hb) (aJ (rB HO119 hb) (aJ (rB HO123 hb) (aJ (nB HO126 hb) (aJ (qb BK101 hb) (aJ (qb BK102 hb) (aJ (qb BK103 hb) (aJ (qb BK104 hb) (aJ (aM (Kept.below (S := (fun k_ => P0_0_ k_)) (kK HK) hb)) (aM (below_step (pH HB) hb)))))))))))))
           clear HO_102000 HO_102001 HO_103001 HO_104001 HO119 HO123 HO126 BK101 BK102 BK103 BK104 HK HB
           obtain ⟨HO_102000, HO_102001, HO_103001, HO_104001, HO119, HO123, HO126, BK101, BK102, BK103, BK104, HK, HB⟩ := n_
           (try clear hb)
           (try clear hb2)
           (try clear hk)
           (try clear hi)
           refine hK.out _ _ ⟨(blk_cell BK101.out 0).trans rfl, (blk_cell BK101.out 1).trans rfl⟩ (fun hHeld => ?_)
           clear hK K
           refine nQ 64 ?_
           refine one_ (i := 4) (N := none) (bs 5 1) rfl rfl (by kernel_rfl) (by decide) (fun K hK => ?_)
           have hs147 : w146.cell? ⟨gb104, 0, none⟩ = some (.slice none 0 0) := (blk_cell BK104.out 0).trans rfl
           have hfs147 := blk_frozen BK104.out 0
           have hns147_0 := NB101_104.out
           have hns147_1 := NB102_104.out
           have hns147_2 := NB103_104.out
           have hms147_0 := NB104_101.out
           have hms147_1 := NB104_102.out
           have hms147_2 := NB104_103.out
           have hs148 : w146.cell? ⟨gb104, 1, none⟩ = some (.slice none 0 0) := (blk_cell BK104.out 1).trans rfl
           have hfs148 := blk_frozen BK104.out 1
           have hns148_0 := NB101_104.out
           have hns148_1 := NB102_104.out
           have hns148_2 := NB103_104.out
           have hms148_0 := NB104_101.out
           have hms148_1 := NB104_102.out
           have hms148_2 := NB104_103.out
           refine skip_ (w1 := ?_) (by rfl) rfl ?_ ?_
           rotate_left
           ·go_simp
            rfl
           refine hK.out _ _ ⟨((cell_far (p := ⟨gb104, _, none⟩) NB101_104.out _).trans (((cell_far (p := ⟨gb104, _, none⟩) NB101_104.out _).trans (hHeld.1)))), ((cell_far (p := ⟨gb104, _, none⟩) NB101_104.out _).trans (((cell_far (p := ⟨gb104, _, none⟩) NB101_104.out _).trans (hHeld.2))))⟩ (fun hHeld => ?_)
           clear hK K
           refine pR 5 9 ?_
           refine done_ (by kernel_rfl) ?_
           try go_wp2
           refine bodyPost_ret (results_ct rfl _ _ gb104 60 #[.slice Ao141 t121.length co141, .slice Ao143 t124.length co143] (0, 0) _ rfl (bP BK104) Tryz.underlying60 rfl (by kernel_rfl)) rfl ?_
           exact ⟨_, _, eW, by (with_reducible repeat (first | apply rA | apply rN | apply rD)); exact Kd.R_mono (Kd.R_far (p := ⟨gb104, 1, none⟩) (Kd.R_far (p := ⟨gb104, 0, none⟩) (Kd.R_types HO123.out BK104.out (by decide)) (fun _ hk => hk.2) (.slice Ao141 t121.length co141)) (fun _ hk => hk.2) (.slice Ao143 t124.length co143)) (fun _ hk => hk.1.1), Kd.N_V (nZ HO126), pH HB, by repeat (first | (with_reducible first | exact HK.out | apply Kept.alloc | apply Kept.drewN | apply Kept.drew | refine Kept.setCell ?_ (.inr GW101.out) _ | refine Kept.setCell ?_ (.inr GW102.out) _ | refine Kept.setCell ?_ (.inr GW103.out) _ | refine Kept.setCell ?_ (.inr GW104.out) _) | exact HK.out)⟩
         ·rw [if_neg c105] at H
          have c105b0 : ((x103001_88.length : Int) == 0) = false := beq_eq_false_iff_ne.mpr c105
          have c105b1 : ((x103001_88.length : Int) != 0) = true := bne_iff_ne.mpr c105
          have c105b2 : ¬ (x103001_88 = []) := fun h_ => c105 (by rw [h_]; rfl)
          by_cases c149 : 0 < (x103001_88.length : Int)
          ·rw [if_pos c149] at H
           have c149b0 : decide (0 < (x103001_88.length : Int)) = true := decide_eq_true c149
           have c149b1 : decide (0 < x103001_88.length) = true := decide_eq_true (by omega)
           clear c149
           by_cases c150 : 0 < (x104001_88.length : Int)
           ·rw [if_pos c150] at H
            have c150b0 : decide (0 < (x104001_88.length : Int)) = true := decide_eq_true c150
            have c150b1 : decide (0 < x104001_88.length) = true := decide_eq_true (by omega)
            clear c150
            replace H := Option.bind_eq_some_iff.mp H
            obtain ⟨⟨t130, t133, t136⟩, A1510, H⟩ := H
            try dsimp only at H
            have A151 := aM A1510
            clear A1510
            by_cases c152 : t136 = true
            ·subst c152
             rw [if_pos rfl] at H
             by_cases c153 : 1 < (x103001_88.length : Int)
             ·rw [if_pos c153] at H
              have c153b0 : decide (1 < (x103001_88.length : Int)) = true := decide_eq_true c153
              have c153b1 : decide (1 < x103001_88.length) = true := decide_eq_true (by omega)
              clear c153
              by_cases c154 : 1 < (x104001_88.length : Int)
              ·rw [if_pos c154] at H
               have c154b0 : decide (1 < (x104001_88.length : Int)) = true := decide_eq_true c154
               have c154b1 : decide (1 < x104001_88.length) = true := decide_eq_true (by omega)
               clear c154
               replace H := Option.bind_eq_some_iff.mp H
               obtain ⟨⟨t139, t142, t145⟩, A1550, H⟩ := H
               try dsimp only at H
               have A155 := aM A1550
               clear A1550
               simp only [Option.some.injEq, Prod.mk.injEq] at H
               obtain ⟨rfl, rfl, rfl⟩ := H
               have hnb156 := NB102_101.out
               have hnc156 := NB101_102.out
               have hnb157 := NB102_103.out
               have hnc157 := NB103_102.out
               have hnb158 := NB102_104.out
               have hnc158 := NB104_102.out
               obtain ⟨hcz159_0, hcz159_1, hfz159_0, hfz159_1⟩ := cA2 BK102
               obtain ⟨Ao160, co160, eo160⟩ := Kd.V_slice HO_103001.out
               subst eo160
               try go_wp2
               have n_ := aJ (rE HO_102000) (aJ (vD HO_102001) (aJ (vD HO_103001) (aJ (vD HO_104001) (aJ (aM (blk_drew BK101.out)) (aJ (aM (blk_drew BK102.out)) (aJ (aM (blk_drew BK103.out)) (aJ (aM (blk_drew BK104.out)) (aJ (aM (Kept.drew HK.out)) (aM (below_drew1 HB.out))))))))))
               clear HO_102000 HO_102001 HO_103001 HO_104001 BK101 BK102 BK103 BK104 HK HB
               obtain ⟨HO_102000, HO_102001, HO_103001, HO_104001, BK101, BK102, BK103, BK104, HK, HB⟩ := n_
               have p128 : 0 ≤ (0 : Int) := (by omega)
               have q128 : 0 < (x103001_88.length : Int) := dA
               obtain ⟨ad128, A128_1, c128_1, e128, hx128_0, hx128_1, hl128_1, hi128_1⟩ := at_T55 (Kd.V_reads' HO_103001.out).2.2 0 p128 q128
               cases e128
               obtain ⟨ce128, hce128, hMe128, hcc128⟩ := Kd.V_get HO_103001.out z55 0 p128 (by first | exact q128 | exact dA | (have e_ := (Kd.V_reads' HO_103001.out).1; omega))
               obtain ⟨ua128_1, uc128_1, rfl, ul128_1, ge128_1⟩ := k55_openF hMe128
               have hv128_1 := hcc128 1 _ rfl
               rw [add_field _ _ 1 (by omega)] at hv128_1
               replace hv128_1 := Option.some.inj (hv128_1.symm.trans hx128_1)
               injection hv128_1 with hva_ hvn_ hvc_
               rw [hva_] at ge128_1
               rw [hvc_] at ul128_1
               have HL128_1 := aM (show Kd.V k55 55 _ w0.heap.size _ _ ((rd_T55 x103001_88 0).f1) from Kd.V_mk ul128_1 ge128_1)
               clear hva_ hvn_ hvc_ ge128_1 ul128_1
               clear hcc128 hce128
               have qi128 : (0 < x103001_88.length) = True := eq_true (by omega)
               (try rw [show ((0 : Int)).toNat = 0 from rfl] at hx128_0)
               (try rw [show 0 * 2 = 0 from rfl] at hx128_0)
               (try rw [Addr.add_zero'] at hx128_0)
               (try rw [show ((0 : Int)).toNat = 0 from rfl] at hx128_1)
               (try rw [show 0 * 2 = 0 from rfl] at hx128_1)
               (try rw [Addr.add_zero'] at hx128_1)
               have HR128_1 := aM hi128_1
               have HC128_1 := aM hl128_1
               clear hi128_1 hl128_1
               replace p128 := eq_true p128
               replace q128 := eq_true q128
               obtain ⟨Ao162, co162, eo162⟩ := Kd.V_slice HO_104001.out
               (first | subst eo162 | (injection eo162 with f1_ f2_ f3_; have f4_ := f1_.symm; have f5_ := f3_.symm; clear f1_ f2_ f3_; subst f4_; subst f5_))
               have p129 : 0 ≤ (0 : Int) := (by omega)
               have q129 : 0 < (x104001_88.length : Int) := dA
               obtain ⟨ad129, A129_1, c129_1, e129, hx129_0, hx129_1, hl129_1, hi129_1⟩ := at_T55 (Kd.V_reads' HO_104001.out).2.2 0 p129 q129
               cases e129
               obtain ⟨ce129, hce129, hMe129, hcc129⟩ := Kd.V_get HO_104001.out z55 0 p129 (by first | exact q129 | exact dA | (have e_ := (Kd.V_reads' HO_104001.out).1; omega))
               obtain ⟨ua129_1, uc129_1, rfl, ul129_1, ge129_1⟩ := k55_openF hMe129
               have hv129_1 := hcc129 1 _ rfl
               rw [add_field _ _ 1 (by omega)] at hv129_1
               replace hv129_1 := Option.some.inj (hv129_1.symm.trans hx129_1)
               injection hv129_1 with hva_ hvn_ hvc_
               rw [hva_] at ge129_1
               rw [hvc_] at ul129_1
               have HL129_1 := aM (show Kd.V k55 55 _ w0.heap.size _ _ ((rd_T55 x104001_88 0).f1) from Kd.V_mk ul129_1 ge129_1)
               clear hva_ hvn_ hvc_ ge129_1 ul129_1
               clear hcc129 hce129
               have qi129 : (0 < x104001_88.length) = True := eq_true (by omega)
               (try rw [show ((0 : Int)).toNat = 0 from rfl] at hx129_0)
               (try rw [show 0 * 2 = 0 from rfl] at hx129_0)
               (try rw [Addr.add_zero'] at hx129_0)
               (try rw [show ((0 : Int)).toNat = 0 from rfl] at hx129_1)
               (try rw [show 0 * 2 = 0 from rfl] at hx129_1)
               (try rw [Addr.add_zero'] at hx129_1)
               have HR129_1 := aM hi129_1
               have HC129_1 := aM hl129_1
               clear hi129_1 hl129_1
               replace p129 := eq_true p129
               replace q129 := eq_true q129
               refine start_ (n := 16) (S := fun w' => w'.cell? ⟨gb101, 0, none⟩ = some (.slice Ao8 l0_0.length co8) ∧ w'.cell? ⟨gb101, 1, none⟩ = some (.slice A0_1 l0_1.length c0_1) ∧ w'.cell? ⟨gb102, 0, none⟩ = some (.int .i64 x103000_88) ∧ w'.cell? ⟨gb102, 1, none⟩ = some (.slice (some ad128) x103001_88.length co160) ∧ w'.cell? ⟨gb103, 0, none⟩ = some (.int .i64 x104000_88) ∧ w'.cell? ⟨gb103, 1, none⟩ = some (.slice (some ad129) x104001_88.length co162) ∧ w'.cell? ad128 = some (.int .i64 ((rd_T55 x103001_88 0).f0)) ∧ w'.cell? ⟨ad128.block, ad128.off + 1, none⟩ = some (.slice A128_1 ((rd_T55 x103001_88 0).f1).length c128_1) ∧ w'.cell? ad129 = some (.int .i64 ((rd_T55 x104001_88 0).f0)) ∧ w'.cell? ⟨ad129.block, ad129.off + 1, none⟩ = some (.slice A129_1 ((rd_T55 x104001_88 0).f1).length c129_1)) (ds := [14]) (bs 0 16) (by kernel_rfl) rfl rfl ⟨(blk_cell BK101.out 0).trans rfl, (blk_cell BK101.out 1).trans rfl, (blk_cell BK102.out 0).trans rfl, (blk_cell BK102.out 1).trans rfl, (blk_cell BK103.out 0).trans rfl, (blk_cell BK103.out 1).trans rfl, hx128_0, hx128_1, hx129_0, hx129_1⟩ (fun hHeld => ?_); refine with_tabW spec_leUnify.tab16 spec_leUnify.bits16 (fun HT_ HW_ => ?_)
               generalize wc.drew = w161 at HO_102000 HO_102001 HO_103001 HO_104001 BK101 BK102 BK103 BK104 HK HB HL128_1 HL129_1 HR128_1 HR129_1 hx128_0 hx128_1 hx129_0 hx129_1 hHeld ⊢
               refine pQ 1 67 HT_ ?_
               refine pQ 5 71 HT_ ?_
               refine pQ 9 75 HT_ ?_
               refine tQ 0 66 HT_ HW_ hHeld ?_
               refine tQ 2 68 HT_ HW_ hHeld ?_
               refine pQ 3 69 HT_ ?_
               refine tQ 4 70 HT_ HW_ hHeld ?_
               refine tQ 6 72 HT_ HW_ hHeld ?_
               refine pQ 7 73 HT_ ?_
               refine tQ 8 74 HT_ HW_ hHeld ?_
               refine oQ 10 76 HT_ (fun K hK => ?_)
               refine goes_ Tryz.func21 (by kernel_rfl) rfl #[.agg #[.slice Ao8 l0_0.length co8, .slice A0_1 l0_1.length c0_1], .agg #[.int .i64 ((rd_T55 x103001_88 0).f0), .slice A128_1 ((rd_T55 x103001_88 0).f1).length c128_1], .agg #[.int .i64 ((rd_T55 x104001_88 0).f0), .slice A129_1 ((rd_T55 x104001_88 0).f1).length c129_1], .bool a3] (by rfl) rfl rfl tA ?_
               with_reducible refine (ih kj88 (by have := HJ6.out; have := HJ67.out; have := HJ88.out; omega) (fun k_ => some k_ = (.slice Ao8 l0_0.length co8 : Value).ownBlock) (.slice Ao8 l0_0.length co8) l0_0 (fun k_ => (pU P0_0_ P0_1_ P1_1_ P2_1_ w k_ ∧ (nS k_ Ao8 l0_0 co8 ∧ (k_ ≠ gb101 ∧ (k_ ≠ gb102 ∧ (k_ ≠ gb103 ∧ k_ ≠ gb104)))))) _ _ l0_1 ((rd_T55 x103001_88 0).f0) (fun k_ => (pU P0_0_ P0_1_ P1_1_ P2_1_ w k_ ∧ (nS k_ Ao8 l0_0 co8 ∧ (k_ ≠ gb101 ∧ (k_ ≠ gb102 ∧ (k_ ≠ gb103 ∧ k_ ≠ gb104)))))) _ _ ((rd_T55 x103001_88 0).f1) ((rd_T55 x104001_88 0).f0) (fun k_ => (pU P0_0_ P0_1_ P1_1_ P2_1_ w k_ ∧ (nS k_ Ao8 l0_0 co8 ∧ (k_ ≠ gb101 ∧ (k_ ≠ gb102 ∧ (k_ ≠ gb103 ∧ k_ ≠ gb104)))))) _ _ ((rd_T55 x104001_88 0).f1) a3 t130 t133 true w0 _ ?side1 ?side2 ?side3 ?side4 ?side5 A151.out).mono ?_
               (case side1 => exact yH HB)
               (case side2 => exact Kd.R_tight rfl HO_102000.out)
               (case side3 => exact Kd.V_mono (HO_102001.out) (fun k_ hk_ => ⟨hk_, hk_.2.1⟩))
               (case side4 => exact Kd.V_mono (HL128_1.out) (fun k_ hk_ => ⟨hk_, hk_.2.1⟩))
               (case side5 => exact Kd.V_mono (HL129_1.out) (fun k_ hk_ => ⟨hk_, hk_.2.1⟩))
               rintro e w163 ⟨v131, v134, rfl, ho0, ho1, hb, hkp⟩
               have HS6_ := cell_kept (hHeld.2.2.2.2.2.2.1) hkp (by first | (rw [add_block]; exact (fun hs_ => ((V_blk55 HO_103001.out c149b1).2.1) hs_)) | (show ¬ _; simp only [add_block]; exact (fun hs_ => ((V_blk55 HO_103001.out c149b1).2.1) hs_)) | exact (fun hs_ => ((V_blk55 HO_103001.out c149b1).2.1) hs_))
               have HS7_ := cell_kept (hHeld.2.2.2.2.2.2.2.1) hkp (by first | (rw [add_block]; exact (fun hs_ => ((V_blk55 HO_103001.out c149b1).2.1) hs_)) | (show ¬ _; simp only [add_block]; exact (fun hs_ => ((V_blk55 HO_103001.out c149b1).2.1) hs_)) | exact (fun hs_ => ((V_blk55 HO_103001.out c149b1).2.1) hs_))
               have HS8_ := cell_kept (hHeld.2.2.2.2.2.2.2.2.1) hkp (by first | (rw [add_block]; exact (fun hs_ => ((V_blk55 HO_104001.out c150b1).2.1) hs_)) | (show ¬ _; simp only [add_block]; exact (fun hs_ => ((V_blk55 HO_104001.out c150b1).2.1) hs_)) | exact (fun hs_ => ((V_blk55 HO_104001.out c150b1).2.1) hs_))
               have HS9_ := cell_kept (hHeld.2.2.2.2.2.2.2.2.2) hkp (by first | (rw [add_block]; exact (fun hs_ => ((V_blk55 HO_104001.out c150b1).2.1) hs_)) | (show ¬ _; simp only [add_block]; exact (fun hs_ => ((V_blk55 HO_104001.out c150b1).2.1) hs_)) | exact (fun hs_ => ((V_blk55 HO_104001.out c150b1).2.1) hs_))
               refine ⟨_, rfl, ?_⟩
               have n_ := aJ (aM (Kd.V_mono (ok' := fun k_ => pU P0_0_ P0_1_ P1_1_ P2_1_ w k_ ∧ k_ ≠ gb101 ∧ k_ ≠ gb102 ∧ k_ ≠ gb103 ∧ k_ ≠ gb104 ∧ some k_ ≠ (v131 : Value).ownBlock) (Kd.V_keptB (HO_102001.out) hkp (fun k_ hk_ hs_ => (hk_.2.1) hs_)) (fun k_ hk_ => ⟨hk_.1.1, hk_.1.2.2.1, hk_.1.2.2.2.1, hk_.1.2.2.2.2.1, hk_.1.2.2.2.2.2, fun e_ => Or.elim (ho0.1 k_ e_.symm) (fun hs_ => hk_.2.1 hs_) (fun hn_ => Nat.not_le.2 hk_.2.2 hn_)⟩))) (aJ (aM (Kd.V_mono (ok' := fun k_ => pU P0_0_ P0_1_ P1_1_ P2_1_ w k_ ∧ k_ ≠ gb101 ∧ k_ ≠ gb102 ∧ k_ ≠ gb103 ∧ k_ ≠ gb104 ∧ some k_ ≠ (v131 : Value).ownBlock) (Kd.V_keptB (HO_103001.out) hkp (fun k_ hk_ hs_ => (hk_.2.1) hs_)) (fun k_ hk_ => ⟨hk_.1.1, hk_.1.2.2.1, hk_.1.2.2.2.1, hk_.1.2.2.2.2.1, hk_.1.2.2.2.2.2, fun e_ => Or.elim (ho0.1 k_ e_.symm) (fun hs_ => hk_.2.1 hs_) (fun hn_ => Nat.not_le.2 hk_.2.2 hn_)⟩))) (aJ (aM (Kd.V_mono (ok' := fun k_ => pU P0_0_ P0_1_ P1_1_ P2_1_ w k_ ∧ k_ ≠ gb101 ∧ k_ ≠ gb102 ∧ k_ ≠ gb103 ∧ k_ ≠ gb104 ∧ some k_ ≠ (v131 : Value).ownBlock) (Kd.V_keptB (HO_104001.out) hkp (fun k_ hk_ hs_ => (hk_.2.1) hs_)) (fun k_ hk_ => ⟨hk_.1.1, hk_.1.2.2.1, hk_.1.2.2.2.1, hk_.1.2.2.2.2.1, hk_.1.2.2.2.2.2, fun e_ => Or.elim (ho0.1 k_ e_.symm) (fun hs_ => hk_.2.1 hs_) (fun hn_ => Nat.not_le.2 hk_.2.2 hn_)⟩))) (aJ (aM (blk_kept BK101.out hkp (fun hs_ => (fun e_ => (Kd.R_ne HO_102000.out BK101.out (by decide)) e_) hs_))) (aJ (aM (blk_kept BK102.out hkp (fun hs_ => (fun e_ => (Kd.R_ne HO_102000.out BK102.out (by decide)) e_) hs_))) (aJ (aM (blk_kept BK103.out hkp (fun hs_ => (fun e_ => (Kd.R_ne HO_102000.out BK103.out (by decide)) e_) hs_))) (aJ (aM (blk_kept BK104.out hkp (fun hs_ => (fun e_ => (Kd.R_ne HO_102000.out BK104.out (by decide)) e_) hs_))) (aJ (aM (Kd.R_mono (ok' := fun k_ => (P0_0_ k_ ∨ w.heap.size ≤ k_)) ho0 (fun k_ hk_ => Or.elim hk_ (fun hs_ => (HO_102000.out.1 k_ (hs_).symm)) (fun hn_ => (.inr (Nat.le_trans (by first | exact HK.out.1 | exact (show Kept w _ (fun k_ => P0_0_ k_) from kK HK).1) hn_)))))) (aJ (aM (Kd.V_mono (ok' := fun k_ => pU P0_0_ P0_1_ P1_1_ P2_1_ w k_ ∧ some k_ ≠ (v131 : Value).ownBlock ∧ k_ ≠ gb101 ∧ k_ ≠ gb102 ∧ k_ ≠ gb103 ∧ k_ ≠ gb104) ho1 (fun k_ hk_ => ⟨Or.elim hk_.1 (fun hs_ => Or.elim hs_ (fun hs_ => (Or.imp_left (fun h_ => (.inl h_)) ((HO_102000.out.1 k_ (hs_).symm)))) (fun hs_ => Or.elim hs_ (fun hs_ => hs_.1) (fun hs_ => Or.elim hs_ (fun hs_ => hs_.1) (fun hs_ => hs_.1)))) (fun hn_ => (.inr (Nat.le_trans (by first | exact HK.out.1 | exact (show Kept w _ (fun k_ => P0_0_ k_) from kK HK).1) hn_))), hk_.2, Or.elim hk_.1 (fun hs_ => Or.elim hs_ (fun hs_ => fun e_ => (Kd.R_ne HO_102000.out BK101.out (by decide)) (by rw [← e_]; exact hs_)) (fun hs_ => Or.elim hs_ (fun hs_ => hs_.2.2.1) (fun hs_ => Or.elim hs_ (fun hs_ => hs_.2.2.1) (fun hs_ => hs_.2.2.1)))) (fun hn_ => (Kd.freshB BK101.out k_ hn_)), Or.elim hk_.1 (fun hs_ => Or.elim hs_ (fun hs_ => fun e_ => (Kd.R_ne HO_102000.out BK102.out (by decide)) (by rw [← e_]; exact hs_)) (fun hs_ => Or.elim hs_ (fun hs_ => hs_.2.2.2.1) (fun hs_ => Or.elim hs_ (fun hs_ => hs_.2.2.2.1) (fun hs_ => hs_.2.2.2.1)))) (fun hn_ => (Kd.freshB BK102.out k_ hn_)), Or.elim hk_.1 (fun hs_ => Or.elim hs_ (fun hs_ => fun e_ => (Kd.R_ne HO_102000.out BK103.out (by decide)) (by rw [← e_]; exact hs_)) (fun hs_ => Or.elim hs_ (fun hs_ => hs_.2.2.2.2.1) (fun hs_ => Or.elim hs_ (fun hs_ => hs_.2.2.2.2.1) (fun hs_ => hs_.2.2.2.2.1)))) (fun hn_ => (Kd.freshB BK103.out k_ hn_)), Or.elim hk_.1 (fun hs_ => Or.elim hs_ (fun hs_ => fun e_ => (Kd.R_ne HO_102000.out BK104.out (by decide)) (by rw [← e_]; exact hs_)) (fun hs_ => Or.elim hs_ (fun hs_ => hs_.2.2.2.2.2) (fun hs_ => Or.elim hs_ (fun hs_ => hs_.2.2.2.2.2) (fun hs_ => hs_.2.2.2.2.2)))) (fun hn_ => (Kd.freshB BK104.out k_ hn_))⟩))) (aJ (aM (Kept.then_ (S := (fun k_ => P0_0_ k_)) (kK HK) hkp (fun k_ hs_ => (fun e_ => (HO_102000.out.1 k_ e_.symm)) hs_))) (aM (hb)))))))))))
               clear HO_102001 HO_103001 HO_104001 BK101 BK102 BK103 BK104 HK HB HO_102000 HL128_1 HL129_1
               obtain ⟨HO_102001, HO_103001, HO_104001, BK101, BK102, BK103, BK104, HO132, HO135, HK, HB⟩ := n_
               (try clear hb)
               (try clear hkp)
               (try clear ho0)
               (try clear ho1)
               obtain ⟨Ao164, co164, eo164⟩ := Kd.R_slice HO132.out
               (first | subst eo164 | (injection eo164 with f1_ f2_ f3_; have f4_ := f1_.symm; have f5_ := f3_.symm; clear f1_ f2_ f3_; subst f4_; subst f5_))
               obtain ⟨Ao166, co166, eo166⟩ := Kd.V_slice HO135.out
               (first | subst eo166 | (injection eo166 with f1_ f2_ f3_; have f4_ := f1_.symm; have f5_ := f3_.symm; clear f1_ f2_ f3_; subst f4_; subst f5_))
               refine hK.out _ _ ⟨(blk_cell BK101.out 0).trans rfl, (blk_cell BK101.out 1).trans rfl, (blk_cell BK102.out 0).trans rfl, (blk_cell BK102.out 1).trans rfl, (blk_cell BK103.out 0).trans rfl, (blk_cell BK103.out 1).trans rfl, HS6_, HS7_, HS8_, HS9_⟩ (fun hHeld => ?_)
               clear hK K
               refine nQ 76 ?_
               refine pQ 11 65 HT_ ?_
               refine pQ 12 77 HT_ ?_
               refine pQ 13 78 HT_ ?_
               refine last_ (i := 14) (N := none) (bs 15 1) rfl rfl (one_of HT_.out (by kernel_rfl)) (by decide) (fun K hK => ?_)
               have hs165 : w163.cell? ⟨gb101, 0, none⟩ = some (.slice Ao8 l0_0.length co8) := (blk_cell BK101.out 0).trans rfl
               have hfs165 := blk_frozen BK101.out 0
               have hns165_1 := NB102_101.out
               have hns165_2 := NB103_101.out
               have hns165_3 := NB104_101.out
               have hms165_1 := NB101_102.out
               have hms165_2 := NB101_103.out
               have hms165_3 := NB101_104.out
               have hs167 : w163.cell? ⟨gb101, 1, none⟩ = some (.slice A0_1 l0_1.length c0_1) := (blk_cell BK101.out 1).trans rfl
               have hfs167 := blk_frozen BK101.out 1
               have hns167_1 := NB102_101.out
               have hns167_2 := NB103_101.out
               have hns167_3 := NB104_101.out
               have hms167_1 := NB101_102.out
               have hms167_2 := NB101_103.out
               have hms167_3 := NB101_104.out
               refine skip_ (w1 := ?_) (by rfl) rfl ?_ ?_
               rotate_left
               ·go_simp
                rfl
               refine hK.out _ _ ?_
               clear hK K
               refine pQ 15 11 HT_ ?_
               refine done_ (done_of HT_.out (by kernel_rfl)) ?_
               try go_wp2
               have n0_ : Aside0 (Kd.V k55 55 ((w163.setCell ⟨gb101, 0, none⟩ (.slice Ao164 t130.length co164)).setCell ⟨gb101, 1, none⟩ (.slice Ao166 t133.length co166)) w0.heap.size (fun k_ => pU P0_0_ P0_1_ P1_1_ P2_1_ w k_ ∧ nS k_ Ao164 t130 co164 ∧ k_ ≠ gb101 ∧ k_ ≠ gb102 ∧ k_ ≠ gb103 ∧ k_ ≠ gb104) (.slice A0_1 l0_1.length c0_1) l0_1) := ⟨vZ HO_102001⟩
               have n1_ : Aside0 (Kd.V k55 55 ((w163.setCell ⟨gb101, 0, none⟩ (.slice Ao164 t130.length co164)).setCell ⟨gb101, 1, none⟩ (.slice Ao166 t133.length co166)) w0.heap.size (fun k_ => pU P0_0_ P0_1_ P1_1_ P2_1_ w k_ ∧ nS k_ Ao164 t130 co164 ∧ k_ ≠ gb101 ∧ k_ ≠ gb102 ∧ k_ ≠ gb103 ∧ k_ ≠ gb104) (.slice (some ad128) x103001_88.length co160) x103001_88) := ⟨vZ HO_103001⟩
               have n2_ : Aside0 (Kd.V k55 55 ((w163.setCell ⟨gb101, 0, none⟩ (.slice Ao164 t130.length co164)).setCell ⟨gb101, 1, none⟩ (.slice Ao166 t133.length co166)) w0.heap.size (fun k_ => pU P0_0_ P0_1_ P1_1_ P2_1_ w k_ ∧ nS k_ Ao164 t130 co164 ∧ k_ ≠ gb101 ∧ k_ ≠ gb102 ∧ k_ ≠ gb103 ∧ k_ ≠ gb104) (.slice (some ad129) x104001_88.length co162) x104001_88) := ⟨vZ HO_104001⟩
               have n3_ : Aside0 (Kd.R (Kd.int .i64) 3 ((w163.setCell ⟨gb101, 0, none⟩ (.slice Ao164 t130.length co164)).setCell ⟨gb101, 1, none⟩ (.slice Ao166 t133.length co166)) w0.heap.size (fun k_ => (P0_0_ k_ ∨ w.heap.size ≤ k_)) (.slice Ao164 t130.length co164) t130) := ⟨rW HO132 BK101⟩
               have n4_ : Aside0 (Kd.V k55 55 ((w163.setCell ⟨gb101, 0, none⟩ (.slice Ao164 t130.length co164)).setCell ⟨gb101, 1, none⟩ (.slice Ao166 t133.length co166)) w0.heap.size (fun k_ => pU P0_0_ P0_1_ P1_1_ P2_1_ w k_ ∧ nS k_ Ao164 t130 co164 ∧ k_ ≠ gb101 ∧ k_ ≠ gb102 ∧ k_ ≠ gb103 ∧ k_ ≠ gb104) (.slice Ao166 t133.length co166) t133) := ⟨vZ HO135⟩
               have n5_ : Aside0 (((w163.setCell ⟨gb101, 0, none⟩ (.slice Ao164 t130.length co164)).setCell ⟨gb101, 1, none⟩ (.slice Ao166 t133.length co166)).heap[gb101]? = some (.cells #[.slice Ao164 t130.length co164, .slice Ao166 t133.length co166] 60 (0, 0))) := ⟨bP BK101⟩
               have n6_ : Aside0 (((w163.setCell ⟨gb101, 0, none⟩ (.slice Ao164 t130.length co164)).setCell ⟨gb101, 1, none⟩ (.slice Ao166 t133.length co166)).heap[gb102]? = some (.cells #[.int .i64 x103000_88, .slice (some ad128) x103001_88.length co160] 55 (0, 0))) := ⟨bY BK102⟩
               have n7_ : Aside0 (((w163.setCell ⟨gb101, 0, none⟩ (.slice Ao164 t130.length co164)).setCell ⟨gb101, 1, none⟩ (.slice Ao166 t133.length co166)).heap[gb103]? = some (.cells #[.int .i64 x104000_88, .slice (some ad129) x104001_88.length co162] 55 (0, 0))) := ⟨bY BK103⟩
               have n8_ : Aside0 (((w163.setCell ⟨gb101, 0, none⟩ (.slice Ao164 t130.length co164)).setCell ⟨gb101, 1, none⟩ (.slice Ao166 t133.length co166)).heap[gb104]? = some (.cells #[.slice none 0 0, .slice none 0 0] 60 (0, 0))) := ⟨bY BK104⟩
               have n9_ : Aside0 (Kept w ((w163.setCell ⟨gb101, 0, none⟩ (.slice Ao164 t130.length co164)).setCell ⟨gb101, 1, none⟩ (.slice Ao166 t133.length co166)) (fun k_ => P0_0_ k_)) := ⟨kK HK⟩
               have n10_ : Aside0 (Below w0.heap.size w0 ((w163.setCell ⟨gb101, 0, none⟩ (.slice Ao164 t130.length co164)).setCell ⟨gb101, 1, none⟩ (.slice Ao166 t133.length co166))) := ⟨pH HB⟩
               (try clear HO_102001)
               (try clear HO_103001)
               (try clear HO_104001)
               (try clear HO132)
               (try clear HO135)
               (try clear BK101)
               (try clear BK102)
               (try clear BK103)
               (try clear BK104)
               (try clear HK)
               (try clear HB)
               generalize ((w163.setCell ⟨gb101, 0, none⟩ (.slice Ao164 t130.length co164)).setCell ⟨gb101, 1, none⟩ (.slice Ao166 t133.length co166)) = w168 at n0_ n1_ n2_ n3_ n4_ n5_ n6_ n7_ n8_ n9_ n10_ ⊢
               have HO_102001 := n0_
               have HO_103001 := n1_
               have HO_104001 := n2_
               have HO132 := n3_
               have HO135 := n4_
               have BK101 := n5_
               have BK102 := n6_
               have BK103 := n7_
               have BK104 := n8_
               have HK := n9_
               have HB := n10_
               clear n0_ n1_ n2_ n3_ n4_ n5_ n6_ n7_ n8_ n9_ n10_
               have n_ := aJ (vD HO_102001) (aJ (vD HO_103001) (aJ (vD HO_104001) (aJ (rE HO132) (aJ (vD HO135) (aJ (aM (blk_drew BK101.out)) (aJ (aM (blk_drew BK102.out)) (aJ (aM (blk_drew BK103.out)) (aJ (aM (blk_drew BK104.out)) (aJ (aM (Kept.drew HK.out)) (aM (below_drew1 HB.out)))))))))))
               clear HO_102001 HO_103001 HO_104001 HO132 HO135 BK101 BK102 BK103 BK104 HK HB
               obtain ⟨HO_102001, HO_103001, HO_104001, HO132, HO135, BK101, BK102, BK103, BK104, HK, HB⟩ := n_
               have p137 : 0 ≤ (1 : Int) := (by omega)
               have q137 : 1 < (x103001_88.length : Int) := dA
               obtain ⟨ad137, A137_1, c137_1, e137, hx137_0, hx137_1, hl137_1, hi137_1⟩ := at_T55 (Kd.V_reads' HO_103001.out).2.2 1 p137 q137
               obtain rfl : ad128 = ad137 := (by injection e137)
               obtain ⟨ce137, hce137, hMe137, hcc137⟩ := Kd.V_get HO_103001.out z55 1 p137 (by first | exact q137 | exact dA | (have e_ := (Kd.V_reads' HO_103001.out).1; omega))
               obtain ⟨ua137_1, uc137_1, rfl, ul137_1, ge137_1⟩ := k55_openF hMe137
               have hv137_1 := hcc137 1 _ rfl
               rw [add_field _ _ 1 (by omega)] at hv137_1
               replace hv137_1 := Option.some.inj (hv137_1.symm.trans hx137_1)
               injection hv137_1 with hva_ hvn_ hvc_
               rw [hva_] at ge137_1
               rw [hvc_] at ul137_1
               have HL137_1 := aM (show Kd.V k55 55 _ w0.heap.size _ _ ((rd_T55 x103001_88 1).f1) from Kd.V_mk ul137_1 ge137_1)
               clear hva_ hvn_ hvc_ ge137_1 ul137_1
               clear hcc137 hce137
               (try simp only [show (1 : Int).toNat = 1 from rfl, Nat.reduceMul, Nat.reduceEqDiff, Go.Addr.add, ↓reduceIte] at hx137_0)
               (try simp only [show (1 : Int).toNat = 1 from rfl, Nat.reduceMul, Nat.reduceEqDiff, Go.Addr.add, ↓reduceIte] at hx137_1)
               have qi137 : (1 < x103001_88.length) = True := eq_true (by omega)
               (try rw [show ((1 : Int)).toNat = 1 from rfl] at hx137_0)
               (try rw [show 1 * 2 = 2 from rfl] at hx137_0)
               (try rw [show ((1 : Int)).toNat = 1 from rfl] at hx137_1)
               (try rw [show 1 * 2 = 2 from rfl] at hx137_1)
               have HR137_1 := aM hi137_1
               have HC137_1 := aM hl137_1
               clear hi137_1 hl137_1
               replace p137 := eq_true p137
               replace q137 := eq_true q137
               have p138 : 0 ≤ (1 : Int) := (by omega)
               have q138 : 1 < (x104001_88.length : Int) := dA
               obtain ⟨ad138, A138_1, c138_1, e138, hx138_0, hx138_1, hl138_1, hi138_1⟩ := at_T55 (Kd.V_reads' HO_104001.out).2.2 1 p138 q138
               obtain rfl : ad129 = ad138 := (by injection e138)
               obtain ⟨ce138, hce138, hMe138, hcc138⟩ := Kd.V_get HO_104001.out z55 1 p138 (by first | exact q138 | exact dA | (have e_ := (Kd.V_reads' HO_104001.out).1; omega))
               obtain ⟨ua138_1, uc138_1, rfl, ul138_1, ge138_1⟩ := k55_openF hMe138
               have hv138_1 := hcc138 1 _ rfl
               rw [add_field _ _ 1 (by omega)] at hv138_1
               replace hv138_1 := Option.some.inj (hv138_1.symm.trans hx138_1)
               injection hv138_1 with hva_ hvn_ hvc_
               rw [hva_] at ge138_1
               rw [hvc_] at ul138_1
               have HL138_1 := aM (show Kd.V k55 55 _ w0.heap.size _ _ ((rd_T55 x104001_88 1).f1) from Kd.V_mk ul138_1 ge138_1)
               clear hva_ hvn_ hvc_ ge138_1 ul138_1
               clear hcc138 hce138
               (try simp only [show (1 : Int).toNat = 1 from rfl, Nat.reduceMul, Nat.reduceEqDiff, Go.Addr.add, ↓reduceIte] at hx138_0)
               (try simp only [show (1 : Int).toNat = 1 from rfl, Nat.reduceMul, Nat.reduceEqDiff, Go.Addr.add, ↓reduceIte] at hx138_1)
               have qi138 : (1 < x104001_88.length) = True := eq_true (by omega)
               (try rw [show ((1 : Int)).toNat = 1 from rfl] at hx138_0)
               (try rw [show 1 * 2 = 2 from rfl] at hx138_0)
               (try rw [show ((1 : Int)).toNat = 1 from rfl] at hx138_1)
               (try rw [show 1 * 2 = 2 from rfl] at hx138_1)
               have HR138_1 := aM hi138_1
               have HC138_1 := aM hl138_1
               clear hi138_1 hl138_1
               replace p138 := eq_true p138
               replace q138 := eq_true q138
               refine start_ (n := 15) (S := fun w' => w'.cell? ⟨gb101, 0, none⟩ = some (.slice Ao164 t130.length co164) ∧ w'.cell? ⟨gb101, 1, none⟩ = some (.slice Ao166 t133.length co166) ∧ w'.cell? ⟨gb102, 0, none⟩ = some (.int .i64 x103000_88) ∧ w'.cell? ⟨gb102, 1, none⟩ = some (.slice (some ad128) x103001_88.length co160) ∧ w'.cell? ⟨gb103, 0, none⟩ = some (.int .i64 x104000_88) ∧ w'.cell? ⟨gb103, 1, none⟩ = some (.slice (some ad129) x104001_88.length co162) ∧ w'.cell? ⟨ad128.block, ad128.off + 2, none⟩ = some (.int .i64 ((rd_T55 x103001_88 1).f0)) ∧ w'.cell? ⟨ad128.block, ad128.off + 2 + 1, none⟩ = some (.slice A137_1 ((rd_T55 x103001_88 1).f1).length c137_1) ∧ w'.cell? ⟨ad129.block, ad129.off + 2, none⟩ = some (.int .i64 ((rd_T55 x104001_88 1).f0)) ∧ w'.cell? ⟨ad129.block, ad129.off + 2 + 1, none⟩ = some (.slice A138_1 ((rd_T55 x104001_88 1).f1).length c138_1)) (ds := []) (bs 0 15) (by kernel_rfl) rfl rfl ⟨(blk_cell BK101.out 0).trans rfl, (blk_cell BK101.out 1).trans rfl, (blk_cell BK102.out 0).trans rfl, (blk_cell BK102.out 1).trans rfl, (blk_cell BK103.out 0).trans rfl, (blk_cell BK103.out 1).trans rfl, hx137_0, hx137_1, hx138_0, hx138_1⟩ (fun hHeld => ?_); refine with_tabW spec_leUnify.tab19 spec_leUnify.bits19 (fun HT_ HW_ => ?_)
               generalize w168.drew = w169 at HO_102001 HO_103001 HO_104001 HO132 HO135 BK101 BK102 BK103 BK104 HK HB HL137_1 HL138_1 HR137_1 HR138_1 hx137_0 hx137_1 hx138_0 hx138_1 hHeld ⊢
               refine pQ 1 83 HT_ ?_
               refine pQ 5 87 HT_ ?_
               refine pQ 9 91 HT_ ?_
               refine tQ 0 82 HT_ HW_ hHeld ?_
               refine tQ 2 84 HT_ HW_ hHeld ?_
               refine pQ 3 85 HT_ ?_
               refine tQ 4 86 HT_ HW_ hHeld ?_
               refine tQ 6 88 HT_ HW_ hHeld ?_
               refine pQ 7 89 HT_ ?_
               refine tQ 8 90 HT_ HW_ hHeld ?_
               refine oQ 10 92 HT_ (fun K hK => ?_)
               refine goes_ Tryz.func21 (by kernel_rfl) rfl #[.agg #[.slice Ao164 t130.length co164, .slice Ao166 t133.length co166], .agg #[.int .i64 ((rd_T55 x103001_88 1).f0), .slice A137_1 ((rd_T55 x103001_88 1).f1).length c137_1], .agg #[.int .i64 ((rd_T55 x104001_88 1).f0), .slice A138_1 ((rd_T55 x104001_88 1).f1).length c138_1], .bool a3] (by rfl) rfl rfl tA ?_
               with_reducible refine (ih kj88 (by have := HJ6.out; have := HJ67.out; have := HJ88.out; omega) (fun k_ => some k_ = (.slice Ao164 t130.length co164 : Value).ownBlock) (.slice Ao164 t130.length co164) t130 (fun k_ => (pU P0_0_ P0_1_ P1_1_ P2_1_ w k_ ∧ (nS k_ Ao164 t130 co164 ∧ (k_ ≠ gb101 ∧ (k_ ≠ gb102 ∧ (k_ ≠ gb103 ∧ k_ ≠ gb104)))))) _ _ t133 ((rd_T55 x103001_88 1).f0) (fun k_ => (pU P0_0_ P0_1_ P1_1_ P2_1_ w k_ ∧ (nS k_ Ao164 t130 co164 ∧ (k_ ≠ gb101 ∧ (k_ ≠ gb102 ∧ (k_ ≠ gb103 ∧ k_ ≠ gb104)))))) _ _ ((rd_T55 x103001_88 1).f1) ((rd_T55 x104001_88 1).f0) (fun k_ => (pU P0_0_ P0_1_ P1_1_ P2_1_ w k_ ∧ (nS k_ Ao164 t130 co164 ∧ (k_ ≠ gb101 ∧ (k_ ≠ gb102 ∧ (k_ ≠ gb103 ∧ k_ ≠ gb104)))))) _ _ ((rd_T55 x104001_88 1).f1) a3 t139 t142 t145 w0 _ ?side1 ?side2 ?side3 ?side4 ?side5 A155.out).mono ?_
               (case side1 => exact yH HB)
               (case side2 => exact Kd.R_tight rfl HO132.out)
               (case side3 => exact Kd.V_mono (HO135.out) (fun k_ hk_ => ⟨hk_, hk_.2.1⟩))
               (case side4 => exact Kd.V_mono (HL137_1.out) (fun k_ hk_ => ⟨hk_, hk_.2.1⟩))
               (case side5 => exact Kd.V_mono (HL138_1.out) (fun k_ hk_ => ⟨hk_, hk_.2.1⟩))
               rintro e w170 ⟨v140, v143, rfl, ho0, ho1, hb, hkp⟩
               have HS6_ := cell_kept (hHeld.2.2.2.2.2.2.1) hkp (by first | (rw [add_block]; exact (fun hs_ => ((V_blk55 HO_103001.out c149b1).2.1) hs_)) | (show ¬ _; simp only [add_block]; exact (fun hs_ => ((V_blk55 HO_103001.out c149b1).2.1) hs_)) | exact (fun hs_ => ((V_blk55 HO_103001.out c149b1).2.1) hs_))
               have HS7_ := cell_kept (hHeld.2.2.2.2.2.2.2.1) hkp (by first | (rw [add_block]; exact (fun hs_ => ((V_blk55 HO_103001.out c149b1).2.1) hs_)) | (show ¬ _; simp only [add_block]; exact (fun hs_ => ((V_blk55 HO_103001.out c149b1).2.1) hs_)) | exact (fun hs_ => ((V_blk55 HO_103001.out c149b1).2.1) hs_))
               have HS8_ := cell_kept (hHeld.2.2.2.2.2.2.2.2.1) hkp (by first | (rw [add_block]; exact (fun hs_ => ((V_blk55 HO_104001.out c150b1).2.1) hs_)) | (show ¬ _; simp only [add_block]; exact (fun hs_ => ((V_blk55 HO_104001.out c150b1).2.1) hs_)) | exact (fun hs_ => ((V_blk55 HO_104001.out c150b1).2.1) hs_))
               have HS9_ := cell_kept (hHeld.2.2.2.2.2.2.2.2.2) hkp (by first | (rw [add_block]; exact (fun hs_ => ((V_blk55 HO_104001.out c150b1).2.1) hs_)) | (show ¬ _; simp only [add_block]; exact (fun hs_ => ((V_blk55 HO_104001.out c150b1).2.1) hs_)) | exact (fun hs_ => ((V_blk55 HO_104001.out c150b1).2.1) hs_))
               refine ⟨_, rfl, ?_⟩
               have n_ := aJ (aM (Kd.V_mono (ok' := fun k_ => pU P0_0_ P0_1_ P1_1_ P2_1_ w k_ ∧ k_ ≠ gb101 ∧ k_ ≠ gb102 ∧ k_ ≠ gb103 ∧ k_ ≠ gb104 ∧ some k_ ≠ (v140 : Value).ownBlock) (Kd.V_keptB (HO_102001.out) hkp (fun k_ hk_ hs_ => (hk_.2.1) hs_)) (fun k_ hk_ => ⟨hk_.1.1, hk_.1.2.2.1, hk_.1.2.2.2.1, hk_.1.2.2.2.2.1, hk_.1.2.2.2.2.2, fun e_ => Or.elim (ho0.1 k_ e_.symm) (fun hs_ => hk_.2.1 hs_) (fun hn_ => Nat.not_le.2 hk_.2.2 hn_)⟩))) (aJ (aM (Kd.V_mono (ok' := fun k_ => pU P0_0_ P0_1_ P1_1_ P2_1_ w k_ ∧ k_ ≠ gb101 ∧ k_ ≠ gb102 ∧ k_ ≠ gb103 ∧ k_ ≠ gb104 ∧ some k_ ≠ (v140 : Value).ownBlock) (Kd.V_keptB (HO_103001.out) hkp (fun k_ hk_ hs_ => (hk_.2.1) hs_)) (fun k_ hk_ => ⟨hk_.1.1, hk_.1.2.2.1, hk_.1.2.2.2.1, hk_.1.2.2.2.2.1, hk_.1.2.2.2.2.2, fun e_ => Or.elim (ho0.1 k_ e_.symm) (fun hs_ => hk_.2.1 hs_) (fun hn_ => Nat.not_le.2 hk_.2.2 hn_)⟩))) (aJ (aM (Kd.V_mono (ok' := fun k_ => pU P0_0_ P0_1_ P1_1_ P2_1_ w k_ ∧ k_ ≠ gb101 ∧ k_ ≠ gb102 ∧ k_ ≠ gb103 ∧ k_ ≠ gb104 ∧ some k_ ≠ (v140 : Value).ownBlock) (Kd.V_keptB (HO_104001.out) hkp (fun k_ hk_ hs_ => (hk_.2.1) hs_)) (fun k_ hk_ => ⟨hk_.1.1, hk_.1.2.2.1, hk_.1.2.2.2.1, hk_.1.2.2.2.2.1, hk_.1.2.2.2.2.2, fun e_ => Or.elim (ho0.1 k_ e_.symm) (fun hs_ => hk_.2.1 hs_) (fun hn_ => Nat.not_le.2 hk_.2.2 hn_)⟩))) (aJ (aM (blk_kept BK101.out hkp (fun hs_ => (fun e_ => (Kd.R_ne HO132.out BK101.out (by decide)) e_) hs_))) (aJ (aM (blk_kept BK102.out hkp (fun hs_ => (fun e_ => (Kd.R_ne HO132.out BK102.out (by decide)) e_) hs_))) (aJ (aM (blk_kept BK103.out hkp (fun hs_ => (fun e_ => (Kd.R_ne HO132.out BK103.out (by decide)) e_) hs_))) (aJ (aM (blk_kept BK104.out hkp (fun hs_ => (fun e_ => (Kd.R_ne HO132.out BK104.out (by decide)) e_) hs_))) (aJ (aM (Kd.V_mono (ok' := fun k_ => pU P0_0_ P0_1_ P1_1_ P2_1_ w k_ ∧ k_ ≠ gb101 ∧ k_ ≠ gb102 ∧ k_ ≠ gb103 ∧ k_ ≠ gb104 ∧ some k_ ≠ (v140 : Value).ownBlock) (Kd.V_keptB (HO135.out) hkp (fun k_ hk_ hs_ => (hk_.2.1) hs_)) (fun k_ hk_ => ⟨hk_.1.1, hk_.1.2.2.1, hk_.1.2.2.2.1, hk_.1.2.2.2.2.1, hk_.1.2.2.2.2.2, fun e_ => Or.elim (ho0.1 k_ e_.symm) (fun hs_ => hk_.2.1 hs_) (fun hn_ => Nat.not_le.2 hk_.2.2 hn_)⟩))) (aJ (aM (Kd.R_mono (ok' := fun k_ => (P0_0_ k_ ∨ w.heap.size ≤ k_)) ho0 (fun k_ hk_ => Or.elim hk_ (fun hs_ => (HO132.out.1 k_ (hs_).symm)) (fun hn_ => (.inr (Nat.le_trans (by first | exact HK.out.1 | exact (show Kept w _ (fun k_ => P0_0_ k_) from kK HK).1) hn_)))))) (aJ (aM (Kd.V_mono (ok' := fun k_ => pU P0_0_ P0_1_ P1_1_ P2_1_ w k_ ∧ some k_ ≠ (v140 : Value).ownBlock ∧ k_ ≠ gb101 ∧ k_ ≠ gb102 ∧ k_ ≠ gb103 ∧ k_ ≠ gb104) ho1 (fun k_ hk_ => ⟨Or.elim hk_.1 (fun hs_ => Or.elim hs_ (fun hs_ => (Or.imp_left (fun h_ => (.inl h_)) ((HO132.out.1 k_ (hs_).symm)))) (fun hs_ => Or.elim hs_ (fun hs_ => hs_.1) (fun hs_ => Or.elim hs_ (fun hs_ => hs_.1) (fun hs_ => hs_.1)))) (fun hn_ => (.inr (Nat.le_trans (by first | exact HK.out.1 | exact (show Kept w _ (fun k_ => P0_0_ k_) from kK HK).1) hn_))), hk_.2, Or.elim hk_.1 (fun hs_ => Or.elim hs_ (fun hs_ => fun e_ => (Kd.R_ne HO132.out BK101.out (by decide)) (by rw [← e_]; exact hs_)) (fun hs_ => Or.elim hs_ (fun hs_ => hs_.2.2.1) (fun hs_ => Or.elim hs_ (fun hs_ => hs_.2.2.1) (fun hs_ => hs_.2.2.1)))) (fun hn_ => (Kd.freshB BK101.out k_ hn_)), Or.elim hk_.1 (fun hs_ => Or.elim hs_ (fun hs_ => fun e_ => (Kd.R_ne HO132.out BK102.out (by decide)) (by rw [← e_]; exact hs_)) (fun hs_ => Or.elim hs_ (fun hs_ => hs_.2.2.2.1) (fun hs_ => Or.elim hs_ (fun hs_ => hs_.2.2.2.1) (fun hs_ => hs_.2.2.2.1)))) (fun hn_ => (Kd.freshB BK102.out k_ hn_)), Or.elim hk_.1 (fun hs_ => Or.elim hs_ (fun hs_ => fun e_ => (Kd.R_ne HO132.out BK103.out (by decide)) (by rw [← e_]; exact hs_)) (fun hs_ => Or.elim hs_ (fun hs_ => hs_.2.2.2.2.1) (fun hs_ => Or.elim hs_ (fun hs_ => hs_.2.2.2.2.1) (fun hs_ => hs_.2.2.2.2.1)))) (fun hn_ => (Kd.freshB BK103.out k_ hn_)), Or.elim hk_.1 (fun hs_ => Or.elim hs_ (fun hs_ => fun e_ => (Kd.R_ne HO132.out BK104.out (by decide)) (by rw [← e_]; exact hs_)) (fun hs_ => Or.elim hs_ (fun hs_ => hs_.2.2.2.2.2) (fun hs_ => Or.elim hs_ (fun hs_ => hs_.2.2.2.2.2) (fun hs_ => hs_.2.2.2.2.2)))) (fun hn_ => (Kd.freshB BK104.out k_ hn_))⟩))) (aJ (aM (Kept.then_ (S := (fun k_ => P0_0_ k_)) (kK HK) hkp (fun k_ hs_ => (fun e_ => (HO132.out.1 k_ e_.symm)) hs_))) (aM (hb))))))))))))
               clear HO_102001 HO_103001 HO_104001 BK101 BK102 BK103 BK104 HO135 HK HB HO132 HL137_1 HL138_1
               obtain ⟨HO_102001, HO_103001, HO_104001, BK101, BK102, BK103, BK104, HO135, HO141, HO144, HK, HB⟩ := n_
               (try clear hb)
               (try clear hkp)
               (try clear ho0)
               (try clear ho1)
               obtain ⟨Ao171, co171, eo171⟩ := Kd.R_slice HO141.out
               (first | subst eo171 | (injection eo171 with f1_ f2_ f3_; have f4_ := f1_.symm; have f5_ := f3_.symm; clear f1_ f2_ f3_; subst f4_; subst f5_))
               obtain ⟨Ao173, co173, eo173⟩ := Kd.V_slice HO144.out
               (first | subst eo173 | (injection eo173 with f1_ f2_ f3_; have f4_ := f1_.symm; have f5_ := f3_.symm; clear f1_ f2_ f3_; subst f4_; subst f5_))
               refine hK.out _ _ ⟨(blk_cell BK101.out 0).trans rfl, (blk_cell BK101.out 1).trans rfl, (blk_cell BK102.out 0).trans rfl, (blk_cell BK102.out 1).trans rfl, (blk_cell BK103.out 0).trans rfl, (blk_cell BK103.out 1).trans rfl, HS6_, HS7_, HS8_, HS9_⟩ (fun hHeld => ?_)
               clear hK K
               refine nQ 92 ?_
               refine pQ 11 93 HT_ ?_
               refine pQ 12 94 HT_ ?_
               refine one_ (i := 13) (N := none) (bs 14 1) rfl rfl (one_of HT_.out (by kernel_rfl)) (by decide) (fun K hK => ?_)
               have hs172 : w170.cell? ⟨gb104, 0, none⟩ = some (.slice none 0 0) := (blk_cell BK104.out 0).trans rfl
               have hfs172 := blk_frozen BK104.out 0
               have hns172_0 := NB101_104.out
               have hns172_1 := NB102_104.out
               have hns172_2 := NB103_104.out
               have hms172_0 := NB104_101.out
               have hms172_1 := NB104_102.out
               have hms172_2 := NB104_103.out
               have hs174 : w170.cell? ⟨gb104, 1, none⟩ = some (.slice none 0 0) := (blk_cell BK104.out 1).trans rfl
               have hfs174 := blk_frozen BK104.out 1
               have hns174_0 := NB101_104.out
               have hns174_1 := NB102_104.out
               have hns174_2 := NB103_104.out
               have hms174_0 := NB104_101.out
               have hms174_1 := NB104_102.out
               have hms174_2 := NB104_103.out
               refine skip_ (w1 := ?_) (by rfl) rfl ?_ ?_
               rotate_left
               ·go_simp
                rfl
               refine hK.out _ _ ⟨((cell_far (p := ⟨gb104, _, none⟩) NB101_104.out _).trans (((cell_far (p := ⟨gb104, _, none⟩) NB101_104.out _).trans (hHeld.1)))), ((cell_far (p := ⟨gb104, _, none⟩) NB101_104.out _).trans (((cell_far (p := ⟨gb104, _, none⟩) NB101_104.out _).trans (hHeld.2.1)))), ((cell_far (p := ⟨gb104, _, none⟩) NB102_104.out _).trans (((cell_far (p := ⟨gb104, _, none⟩) NB102_104.out _).trans (hHeld.2.2.1)))), ((cell_far (p := ⟨gb104, _, none⟩) NB102_104.out _).trans (((cell_far (p := ⟨gb104, _, none⟩) NB102_104.out _).trans (hHeld.2.2.2.1)))), ((cell_far (p := ⟨gb104, _, none⟩) NB103_104.out _).trans (((cell_far (p := ⟨gb104, _, none⟩) NB103_104.out _).trans (hHeld.2.2.2.2.1)))), ((cell_far (p := ⟨gb104, _, none⟩) NB103_104.out _).trans (((cell_far (p := ⟨gb104, _, none⟩) NB103_104.out _).trans (hHeld.2.2.2.2.2.1)))), ((cell_far (p := ⟨gb104, _, none⟩) (by first | exact Kd.own_blk (Kd.V_away HO_103001.out (fun _ hk => hk.2.2.2.2.1)) | (rw [add_block]; exact Kd.own_blk (Kd.V_away HO_103001.out (fun _ hk => hk.2.2.2.2.1))) | (show (Addr.add _ _).block ≠ _; rw [add_block]; exact Kd.own_blk (Kd.V_away HO_103001.out (fun _ hk => hk.2.2.2.2.1))) | (dsimp only; exact Kd.own_blk (Kd.V_away HO_103001.out (fun _ hk => hk.2.2.2.2.1)))) _).trans (((cell_far (p := ⟨gb104, _, none⟩) (by first | exact Kd.own_blk (Kd.V_away HO_103001.out (fun _ hk => hk.2.2.2.2.1)) | (rw [add_block]; exact Kd.own_blk (Kd.V_away HO_103001.out (fun _ hk => hk.2.2.2.2.1))) | (show (Addr.add _ _).block ≠ _; rw [add_block]; exact Kd.own_blk (Kd.V_away HO_103001.out (fun _ hk => hk.2.2.2.2.1))) | (dsimp only; exact Kd.own_blk (Kd.V_away HO_103001.out (fun _ hk => hk.2.2.2.2.1)))) _).trans (hHeld.2.2.2.2.2.2.1)))), ((cell_far (p := ⟨gb104, _, none⟩) (by first | exact Kd.own_blk (Kd.V_away HO_103001.out (fun _ hk => hk.2.2.2.2.1)) | (rw [add_block]; exact Kd.own_blk (Kd.V_away HO_103001.out (fun _ hk => hk.2.2.2.2.1))) | (show (Addr.add _ _).block ≠ _; rw [add_block]; exact Kd.own_blk (Kd.V_away HO_103001.out (fun _ hk => hk.2.2.2.2.1))) | (dsimp only; exact Kd.own_blk (Kd.V_away HO_103001.out (fun _ hk => hk.2.2.2.2.1)))) _).trans (((cell_far (p := ⟨gb104, _, none⟩) (by first | exact Kd.own_blk (Kd.V_away HO_103001.out (fun _ hk => hk.2.2.2.2.1)) | (rw [add_block]; exact Kd.own_blk (Kd.V_away HO_103001.out (fun _ hk => hk.2.2.2.2.1))) | (show (Addr.add _ _).block ≠ _; rw [add_block]; exact Kd.own_blk (Kd.V_away HO_103001.out (fun _ hk => hk.2.2.2.2.1))) | (dsimp only; exact Kd.own_blk (Kd.V_away HO_103001.out (fun _ hk => hk.2.2.2.2.1)))) _).trans (hHeld.2.2.2.2.2.2.2.1)))), ((cell_far (p := ⟨gb104, _, none⟩) (by first | exact Kd.own_blk (Kd.V_away HO_104001.out (fun _ hk => hk.2.2.2.2.1)) | (rw [add_block]; exact Kd.own_blk (Kd.V_away HO_104001.out (fun _ hk => hk.2.2.2.2.1))) | (show (Addr.add _ _).block ≠ _; rw [add_block]; exact Kd.own_blk (Kd.V_away HO_104001.out (fun _ hk => hk.2.2.2.2.1))) | (dsimp only; exact Kd.own_blk (Kd.V_away HO_104001.out (fun _ hk => hk.2.2.2.2.1)))) _).trans (((cell_far (p := ⟨gb104, _, none⟩) (by first | exact Kd.own_blk (Kd.V_away HO_104001.out (fun _ hk => hk.2.2.2.2.1)) | (rw [add_block]; exact Kd.own_blk (Kd.V_away HO_104001.out (fun _ hk => hk.2.2.2.2.1))) | (show (Addr.add _ _).block ≠ _; rw [add_block]; exact Kd.own_blk (Kd.V_away HO_104001.out (fun _ hk => hk.2.2.2.2.1))) | (dsimp only; exact Kd.own_blk (Kd.V_away HO_104001.out (fun _ hk => hk.2.2.2.2.1)))) _).trans (hHeld.2.2.2.2.2.2.2.2.1)))), ((cell_far (p := ⟨gb104, _, none⟩) (by first | exact Kd.own_blk (Kd.V_away HO_104001.out (fun _ hk => hk.2.2.2.2.1)) | (rw [add_block]; exact Kd.own_blk (Kd.V_away HO_104001.out (fun _ hk => hk.2.2.2.2.1))) | (show (Addr.add _ _).block ≠ _; rw [add_block]; exact Kd.own_blk (Kd.V_away HO_104001.out (fun _ hk => hk.2.2.2.2.1))) | (dsimp only; exact Kd.own_blk (Kd.V_away HO_104001.out (fun _ hk => hk.2.2.2.2.1)))) _).trans (((cell_far (p := ⟨gb104, _, none⟩) (by first | exact Kd.own_blk (Kd.V_away HO_104001.out (fun _ hk => hk.2.2.2.2.1)) | (rw [add_block]; exact Kd.own_blk (Kd.V_away HO_104001.out (fun _ hk => hk.2.2.2.2.1))) | (show (Addr.add _ _).block ≠ _; rw [add_block]; exact Kd.own_blk (Kd.V_away HO_104001.out (fun _ hk => hk.2.2.2.2.1))) | (dsimp only; exact Kd.own_blk (Kd.V_away HO_104001.out (fun _ hk => hk.2.2.2.2.1)))) _).trans (hHeld.2.2.2.2.2.2.2.2.2))))⟩ (fun hHeld => ?_)
               clear hK K
               refine pQ 14 9 HT_ ?_
               refine done_ (done_of HT_.out (by kernel_rfl)) ?_
               try go_wp2
               refine bodyPost_ret (results_ct rfl _ _ gb104 60 #[.slice Ao171 t139.length co171, .slice Ao173 t142.length co173] (0, 0) _ rfl (bP BK104) Tryz.underlying60 rfl (by kernel_rfl)) rfl ?_
               exact ⟨_, _, eW, by (with_reducible repeat (first | apply rA | apply rN | apply rD)); exact Kd.R_mono (Kd.R_far (p := ⟨gb104, 1, none⟩) (Kd.R_far (p := ⟨gb104, 0, none⟩) (Kd.R_types HO141.out BK104.out (by decide)) (fun _ hk => hk.2) (.slice Ao171 t139.length co171)) (fun _ hk => hk.2) (.slice Ao173 t142.length co173)) (fun _ hk => hk.1), by (with_reducible repeat (first | apply Kd.V_alloc | apply Kd.V_drewN | apply Kd.V_drew)); exact Kd.V_mono (Kd.V_far (p := ⟨gb104, 1, none⟩) (Kd.V_far (p := ⟨gb104, 0, none⟩) (Kd.V_mono HO144.out (fun k_ hk => (⟨hk, hk.2.2.2.2.2⟩ : _ ∧ k_ ≠ gb104))) (fun _ hk => hk.2) (.slice Ao171 t139.length co171)) (fun _ hk => hk.2) (.slice Ao173 t142.length co173)) (fun _ hk => ⟨hk.1.1, hk.1.2.1⟩), pH HB, by repeat (first | (with_reducible first | exact HK.out | apply Kept.alloc | apply Kept.drewN | apply Kept.drew | refine Kept.setCell ?_ (.inr GW101.out) _ | refine Kept.setCell ?_ (.inr GW102.out) _ | refine Kept.setCell ?_ (.inr GW103.out) _ | refine Kept.setCell ?_ (.inr GW104.out) _) | exact HK.out)⟩
              ·rw [if_neg c154] at H
               exact absurd H (by simp)
             ·rw [if_neg c153] at H
              exact absurd H (by simp)
            ·replace c152 := Bool.eq_false_iff.mpr c152
             subst c152
             rw [if_neg (show ¬ (false = true) by decide)] at H
             simp only [Option.some.injEq, Prod.mk.injEq] at H
             obtain ⟨rfl, rfl, rfl⟩ := H
             have hnb175 := NB102_101.out
             have hnc175 := NB101_102.out
             have hnb176 := NB102_103.out
             have hnc176 := NB103_102.out
             have hnb177 := NB102_104.out
             have hnc177 := NB104_102.out
             obtain ⟨hcz178_0, hcz178_1, hfz178_0, hfz178_1⟩ := cA2 BK102
             obtain ⟨Ao179, co179, eo179⟩ := Kd.V_slice HO_103001.out
             subst eo179
             try go_wp2
             have n_ := aJ (rE HO_102000) (aJ (vD HO_102001) (aJ (vD HO_103001) (aJ (vD HO_104001) (aJ (aM (blk_drew BK101.out)) (aJ (aM (blk_drew BK102.out)) (aJ (aM (blk_drew BK103.out)) (aJ (aM (blk_drew BK104.out)) (aJ (aM (Kept.drew HK.out)) (aM (below_drew1 HB.out))))))))))
             clear HO_102000 HO_102001 HO_103001 HO_104001 BK101 BK102 BK103 BK104 HK HB
             obtain ⟨HO_102000, HO_102001, HO_103001, HO_104001, BK101, BK102, BK103, BK104, HK, HB⟩ := n_
             have p128 : 0 ≤ (0 : Int) := (by omega)
             have q128 : 0 < (x103001_88.length : Int) := dA
             obtain ⟨ad128, A128_1, c128_1, e128, hx128_0, hx128_1, hl128_1, hi128_1⟩ := at_T55 (Kd.V_reads' HO_103001.out).2.2 0 p128 q128
             cases e128
             obtain ⟨ce128, hce128, hMe128, hcc128⟩ := Kd.V_get HO_103001.out z55 0 p128 (by first | exact q128 | exact dA | (have e_ := (Kd.V_reads' HO_103001.out).1; omega))
             obtain ⟨ua128_1, uc128_1, rfl, ul128_1, ge128_1⟩ := k55_openF hMe128
             have hv128_1 := hcc128 1 _ rfl
             rw [add_field _ _ 1 (by omega)] at hv128_1
             replace hv128_1 := Option.some.inj (hv128_1.symm.trans hx128_1)
             injection hv128_1 with hva_ hvn_ hvc_
             rw [hva_] at ge128_1
             rw [hvc_] at ul128_1
             have HL128_1 := aM (show Kd.V k55 55 _ w0.heap.size _ _ ((rd_T55 x103001_88 0).f1) from Kd.V_mk ul128_1 ge128_1)
             clear hva_ hvn_ hvc_ ge128_1 ul128_1
             clear hcc128 hce128
             have qi128 : (0 < x103001_88.length) = True := eq_true (by omega)
             (try rw [show ((0 : Int)).toNat = 0 from rfl] at hx128_0)
             (try rw [show 0 * 2 = 0 from rfl] at hx128_0)
             (try rw [Addr.add_zero'] at hx128_0)
             (try rw [show ((0 : Int)).toNat = 0 from rfl] at hx128_1)
             (try rw [show 0 * 2 = 0 from rfl] at hx128_1)
             (try rw [Addr.add_zero'] at hx128_1)
             have HR128_1 := aM hi128_1
             have HC128_1 := aM hl128_1
             clear hi128_1 hl128_1
             replace p128 := eq_true p128
             replace q128 := eq_true q128
             obtain ⟨Ao181, co181, eo181⟩ := Kd.V_slice HO_104001.out
             (first | subst eo181 | (injection eo181 with f1_ f2_ f3_; have f4_ := f1_.symm; have f5_ := f3_.symm; clear f1_ f2_ f3_; subst f4_; subst f5_))
             have p129 : 0 ≤ (0 : Int) := (by omega)
             have q129 : 0 < (x104001_88.length : Int) := dA
             obtain ⟨ad129, A129_1, c129_1, e129, hx129_0, hx129_1, hl129_1, hi129_1⟩ := at_T55 (Kd.V_reads' HO_104001.out).2.2 0 p129 q129
             cases e129
             obtain ⟨ce129, hce129, hMe129, hcc129⟩ := Kd.V_get HO_104001.out z55 0 p129 (by first | exact q129 | exact dA | (have e_ := (Kd.V_reads' HO_104001.out).1; omega))
             obtain ⟨ua129_1, uc129_1, rfl, ul129_1, ge129_1⟩ := k55_openF hMe129
             have hv129_1 := hcc129 1 _ rfl
             rw [add_field _ _ 1 (by omega)] at hv129_1
             replace hv129_1 := Option.some.inj (hv129_1.symm.trans hx129_1)
             injection hv129_1 with hva_ hvn_ hvc_
             rw [hva_] at ge129_1
             rw [hvc_] at ul129_1
             have HL129_1 := aM (show Kd.V k55 55 _ w0.heap.size _ _ ((rd_T55 x104001_88 0).f1) from Kd.V_mk ul129_1 ge129_1)
             clear hva_ hvn_ hvc_ ge129_1 ul129_1
             clear hcc129 hce129
             have qi129 : (0 < x104001_88.length) = True := eq_true (by omega)
             (try rw [show ((0 : Int)).toNat = 0 from rfl] at hx129_0)
             (try rw [show 0 * 2 = 0 from rfl] at hx129_0)
             (try rw [Addr.add_zero'] at hx129_0)
             (try rw [show ((0 : Int)).toNat = 0 from rfl] at hx129_1)
             (try rw [show 0 * 2 = 0 from rfl] at hx129_1)
             (try rw [Addr.add_zero'] at hx129_1)
             have HR129_1 := aM hi129_1
             have HC129_1 := aM hl129_1
             clear hi129_1 hl129_1
             replace p129 := eq_true p129
             replace q129 := eq_true q129
             refine start_ (n := 16) (S := fun w' => w'.cell? ⟨gb101, 0, none⟩ = some (.slice Ao8 l0_0.length co8) ∧ w'.cell? ⟨gb101, 1, none⟩ = some (.slice A0_1 l0_1.length c0_1) ∧ w'.cell? ⟨gb102, 0, none⟩ = some (.int .i64 x103000_88) ∧ w'.cell? ⟨gb102, 1, none⟩ = some (.slice (some ad128) x103001_88.length co179) ∧ w'.cell? ⟨gb103, 0, none⟩ = some (.int .i64 x104000_88) ∧ w'.cell? ⟨gb103, 1, none⟩ = some (.slice (some ad129) x104001_88.length co181) ∧ w'.cell? ad128 = some (.int .i64 ((rd_T55 x103001_88 0).f0)) ∧ w'.cell? ⟨ad128.block, ad128.off + 1, none⟩ = some (.slice A128_1 ((rd_T55 x103001_88 0).f1).length c128_1) ∧ w'.cell? ad129 = some (.int .i64 ((rd_T55 x104001_88 0).f0)) ∧ w'.cell? ⟨ad129.block, ad129.off + 1, none⟩ = some (.slice A129_1 ((rd_T55 x104001_88 0).f1).length c129_1)) (ds := [14]) (bs 0 16) (by kernel_rfl) rfl rfl ⟨(blk_cell BK101.out 0).trans rfl, (blk_cell BK101.out 1).trans rfl, (blk_cell BK102.out 0).trans rfl, (blk_cell BK102.out 1).trans rfl, (blk_cell BK103.out 0).trans rfl, (blk_cell BK103.out 1).trans rfl, hx128_0, hx128_1, hx129_0, hx129_1⟩ (fun hHeld => ?_); refine with_tabW spec_leUnify.tab16 spec_leUnify.bits16 (fun HT_ HW_ => ?_)
             generalize wc.drew = w180 at HO_102000 HO_102001 HO_103001 HO_104001 BK101 BK102 BK103 BK104 HK HB HL128_1 HL129_1 HR128_1 HR129_1 hx128_0 hx128_1 hx129_0 hx129_1 hHeld ⊢
             refine pQ 1 67 HT_ ?_
             refine pQ 5 71 HT_ ?_
             refine pQ 9 75 HT_ ?_
             refine tQ 0 66 HT_ HW_ hHeld ?_
             refine tQ 2 68 HT_ HW_ hHeld ?_
             refine pQ 3 69 HT_ ?_
             refine tQ 4 70 HT_ HW_ hHeld ?_
             refine tQ 6 72 HT_ HW_ hHeld ?_
             refine pQ 7 73 HT_ ?_
             refine tQ 8 74 HT_ HW_ hHeld ?_
             refine oQ 10 76 HT_ (fun K hK => ?_)
             refine goes_ Tryz.func21 (by kernel_rfl) rfl #[.agg #[.slice Ao8 l0_0.length co8, .slice A0_1 l0_1.length c0_1], .agg #[.int .i64 ((rd_T55 x103001_88 0).f0), .slice A128_1 ((rd_T55 x103001_88 0).f1).length c128_1], .agg #[.int .i64 ((rd_T55 x104001_88 0).f0), .slice A129_1 ((rd_T55 x104001_88 0).f1).length c129_1], .bool a3] (by rfl) rfl rfl tA ?_
             with_reducible refine (ih kj88 (by have := HJ6.out; have := HJ67.out; have := HJ88.out; omega) (fun k_ => some k_ = (.slice Ao8 l0_0.length co8 : Value).ownBlock) (.slice Ao8 l0_0.length co8) l0_0 (fun k_ => (pU P0_0_ P0_1_ P1_1_ P2_1_ w k_ ∧ (nS k_ Ao8 l0_0 co8 ∧ (k_ ≠ gb101 ∧ (k_ ≠ gb102 ∧ (k_ ≠ gb103 ∧ k_ ≠ gb104)))))) _ _ l0_1 ((rd_T55 x103001_88 0).f0) (fun k_ => (pU P0_0_ P0_1_ P1_1_ P2_1_ w k_ ∧ (nS k_ Ao8 l0_0 co8 ∧ (k_ ≠ gb101 ∧ (k_ ≠ gb102 ∧ (k_ ≠ gb103 ∧ k_ ≠ gb104)))))) _ _ ((rd_T55 x103001_88 0).f1) ((rd_T55 x104001_88 0).f0) (fun k_ => (pU P0_0_ P0_1_ P1_1_ P2_1_ w k_ ∧ (nS k_ Ao8 l0_0 co8 ∧ (k_ ≠ gb101 ∧ (k_ ≠ gb102 ∧ (k_ ≠ gb103 ∧ k_ ≠ gb104)))))) _ _ ((rd_T55 x104001_88 0).f1) a3 t130 t133 false w0 _ ?side1 ?side2 ?side3 ?side4 ?side5 A151.out).mono ?_
             (case side1 => exact yH HB)
             (case side2 => exact Kd.R_tight rfl HO_102000.out)
             (case side3 => exact Kd.V_mono (HO_102001.out) (fun k_ hk_ => ⟨hk_, hk_.2.1⟩))
             (case side4 => exact Kd.V_mono (HL128_1.out) (fun k_ hk_ => ⟨hk_, hk_.2.1⟩))
             (case side5 => exact Kd.V_mono (HL129_1.out) (fun k_ hk_ => ⟨hk_, hk_.2.1⟩))
             rintro e w182 ⟨v131, v134, rfl, ho0, ho1, hb, hkp⟩
             have HS6_ := cell_kept (hHeld.2.2.2.2.2.2.1) hkp (by first | (rw [add_block]; exact (fun hs_ => ((V_blk55 HO_103001.out c149b1).2.1) hs_)) | (show ¬ _; simp only [add_block]; exact (fun hs_ => ((V_blk55 HO_103001.out c149b1).2.1) hs_)) | exact (fun hs_ => ((V_blk55 HO_103001.out c149b1).2.1) hs_))
             have HS7_ := cell_kept (hHeld.2.2.2.2.2.2.2.1) hkp (by first | (rw [add_block]; exact (fun hs_ => ((V_blk55 HO_103001.out c149b1).2.1) hs_)) | (show ¬ _; simp only [add_block]; exact (fun hs_ => ((V_blk55 HO_103001.out c149b1).2.1) hs_)) | exact (fun hs_ => ((V_blk55 HO_103001.out c149b1).2.1) hs_))
             have HS8_ := cell_kept (hHeld.2.2.2.2.2.2.2.2.1) hkp (by first | (rw [add_block]; exact (fun hs_ => ((V_blk55 HO_104001.out c150b1).2.1) hs_)) | (show ¬ _; simp only [add_block]; exact (fun hs_ => ((V_blk55 HO_104001.out c150b1).2.1) hs_)) | exact (fun hs_ => ((V_blk55 HO_104001.out c150b1).2.1) hs_))
             have HS9_ := cell_kept (hHeld.2.2.2.2.2.2.2.2.2) hkp (by first | (rw [add_block]; exact (fun hs_ => ((V_blk55 HO_104001.out c150b1).2.1) hs_)) | (show ¬ _; simp only [add_block]; exact (fun hs_ => ((V_blk55 HO_104001.out c150b1).2.1) hs_)) | exact (fun hs_ => ((V_blk55 HO_104001.out c150b1).2.1) hs_))
             refine ⟨_, rfl, ?_⟩
             have n_ := aJ (aM (Kd.V_mono (ok' := fun k_ => pU P0_0_ P0_1_ P1_1_ P2_1_ w k_ ∧ k_ ≠ gb101 ∧ k_ ≠ gb102 ∧ k_ ≠ gb103 ∧ k_ ≠ gb104 ∧ some k_ ≠ (v131 : Value).ownBlock) (Kd.V_keptB (HO_102001.out) hkp (fun k_ hk_ hs_ => (hk_.2.1) hs_)) (fun k_ hk_ => ⟨hk_.1.1, hk_.1.2.2.1, hk_.1.2.2.2.1, hk_.1.2.2.2.2.1, hk_.1.2.2.2.2.2, fun e_ => Or.elim (ho0.1 k_ e_.symm) (fun hs_ => hk_.2.1 hs_) (fun hn_ => Nat.not_le.2 hk_.2.2 hn_)⟩))) (aJ (aM (Kd.V_mono (ok' := fun k_ => pU P0_0_ P0_1_ P1_1_ P2_1_ w k_ ∧ k_ ≠ gb101 ∧ k_ ≠ gb102 ∧ k_ ≠ gb103 ∧ k_ ≠ gb104 ∧ some k_ ≠ (v131 : Value).ownBlock) (Kd.V_keptB (HO_103001.out) hkp (fun k_ hk_ hs_ => (hk_.2.1) hs_)) (fun k_ hk_ => ⟨hk_.1.1, hk_.1.2.2.1, hk_.1.2.2.2.1, hk_.1.2.2.2.2.1, hk_.1.2.2.2.2.2, fun e_ => Or.elim (ho0.1 k_ e_.symm) (fun hs_ => hk_.2.1 hs_) (fun hn_ => Nat.not_le.2 hk_.2.2 hn_)⟩))) (aJ (aM (Kd.V_mono (ok' := fun k_ => pU P0_0_ P0_1_ P1_1_ P2_1_ w k_ ∧ k_ ≠ gb101 ∧ k_ ≠ gb102 ∧ k_ ≠ gb103 ∧ k_ ≠ gb104 ∧ some k_ ≠ (v131 : Value).ownBlock) (Kd.V_keptB (HO_104001.out) hkp (fun k_ hk_ hs_ => (hk_.2.1) hs_)) (fun k_ hk_ => ⟨hk_.1.1, hk_.1.2.2.1, hk_.1.2.2.2.1, hk_.1.2.2.2.2.1, hk_.1.2.2.2.2.2, fun e_ => Or.elim (ho0.1 k_ e_.symm) (fun hs_ => hk_.2.1 hs_) (fun hn_ => Nat.not_le.2 hk_.2.2 hn_)⟩))) (aJ (aM (blk_kept BK101.out hkp (fun hs_ => (fun e_ => (Kd.R_ne HO_102000.out BK101.out (by decide)) e_) hs_))) (aJ (aM (blk_kept BK102.out hkp (fun hs_ => (fun e_ => (Kd.R_ne HO_102000.out BK102.out (by decide)) e_) hs_))) (aJ (aM (blk_kept BK103.out hkp (fun hs_ => (fun e_ => (Kd.R_ne HO_102000.out BK103.out (by decide)) e_) hs_))) (aJ (aM (blk_kept BK104.out hkp (fun hs_ => (fun e_ => (Kd.R_ne HO_102000.out BK104.out (by decide)) e_) hs_))) (aJ (aM (Kd.R_mono (ok' := fun k_ => (P0_0_ k_ ∨ w.heap.size ≤ k_)) ho0 (fun k_ hk_ => Or.elim hk_ (fun hs_ => (HO_102000.out.1 k_ (hs_).symm)) (fun hn_ => (.inr (Nat.le_trans (by first | exact HK.out.1 | exact (show Kept w _ (fun k_ => P0_0_ k_) from kK HK).1) hn_)))))) (aJ (aM (Kd.V_mono (ok' := fun k_ => pU P0_0_ P0_1_ P1_1_ P2_1_ w k_ ∧ some k_ ≠ (v131 : Value).ownBlock ∧ k_ ≠ gb101 ∧ k_ ≠ gb102 ∧ k_ ≠ gb103 ∧ k_ ≠ gb104) ho1 (fun k_ hk_ => ⟨Or.elim hk_.1 (fun hs_ => Or.elim hs_ (fun hs_ => (Or.imp_left (fun h_ => (.inl h_)) ((HO_102000.out.1 k_ (hs_).symm)))) (fun hs_ => Or.elim hs_ (fun hs_ => hs_.1) (fun hs_ => Or.elim hs_ (fun hs_ => hs_.1) (fun hs_ => hs_.1)))) (fun hn_ => (.inr (Nat.le_trans (by first | exact HK.out.1 | exact (show Kept w _ (fun k_ => P0_0_ k_) from kK HK).1) hn_))), hk_.2, Or.elim hk_.1 (fun hs_ => Or.elim hs_ (fun hs_ => fun e_ => (Kd.R_ne HO_102000.out BK101.out (by decide)) (by rw [← e_]; exact hs_)) (fun hs_ => Or.elim hs_ (fun hs_ => hs_.2.2.1) (fun hs_ => Or.elim hs_ (fun hs_ => hs_.2.2.1) (fun hs_ => hs_.2.2.1)))) (fun hn_ => (Kd.freshB BK101.out k_ hn_)), Or.elim hk_.1 (fun hs_ => Or.elim hs_ (fun hs_ => fun e_ => (Kd.R_ne HO_102000.out BK102.out (by decide)) (by rw [← e_]; exact hs_)) (fun hs_ => Or.elim hs_ (fun hs_ => hs_.2.2.2.1) (fun hs_ => Or.elim hs_ (fun hs_ => hs_.2.2.2.1) (fun hs_ => hs_.2.2.2.1)))) (fun hn_ => (Kd.freshB BK102.out k_ hn_)), Or.elim hk_.1 (fun hs_ => Or.elim hs_ (fun hs_ => fun e_ => (Kd.R_ne HO_102000.out BK103.out (by decide)) (by rw [← e_]; exact hs_)) (fun hs_ => Or.elim hs_ (fun hs_ => hs_.2.2.2.2.1) (fun hs_ => Or.elim hs_ (fun hs_ => hs_.2.2.2.2.1) (fun hs_ => hs_.2.2.2.2.1)))) (fun hn_ => (Kd.freshB BK103.out k_ hn_)), Or.elim hk_.1 (fun hs_ => Or.elim hs_ (fun hs_ => fun e_ => (Kd.R_ne HO_102000.out BK104.out (by decide)) (by rw [← e_]; exact hs_)) (fun hs_ => Or.elim hs_ (fun hs_ => hs_.2.2.2.2.2) (fun hs_ => Or.elim hs_ (fun hs_ => hs_.2.2.2.2.2) (fun hs_ => hs_.2.2.2.2.2)))) (fun hn_ => (Kd.freshB BK104.out k_ hn_))⟩))) (aJ (aM (Kept.then_ (S := (fun k_ => P0_0_ k_)) (kK HK) hkp (fun k_ hs_ => (fun e_ => (HO_102000.out.1 k_ e_.symm)) hs_))) (aM (hb)))))))))))
             clear HO_102001 HO_103001 HO_104001 BK101 BK102 BK103 BK104 HK HB HO_102000 HL128_1 HL129_1
             obtain ⟨HO_102001, HO_103001, HO_104001, BK101, BK102, BK103, BK104, HO132, HO135, HK, HB⟩ := n_
             (try clear hb)
             (try clear hkp)
             (try clear ho0)
             (try clear ho1)
             obtain ⟨Ao183, co183, eo183⟩ := Kd.R_slice HO132.out
             (first | subst eo183 | (injection eo183 with f1_ f2_ f3_; have f4_ := f1_.symm; have f5_ := f3_.symm; clear f1_ f2_ f3_; subst f4_; subst f5_))
             obtain ⟨Ao185, co185, eo185⟩ := Kd.V_slice HO135.out
             (first | subst eo185 | (injection eo185 with f1_ f2_ f3_; have f4_ := f1_.symm; have f5_ := f3_.symm; clear f1_ f2_ f3_; subst f4_; subst f5_))
             refine hK.out _ _ ⟨(blk_cell BK101.out 0).trans rfl, (blk_cell BK101.out 1).trans rfl, (blk_cell BK102.out 0).trans rfl, (blk_cell BK102.out 1).trans rfl, (blk_cell BK103.out 0).trans rfl, (blk_cell BK103.out 1).trans rfl, HS6_, HS7_, HS8_, HS9_⟩ (fun hHeld => ?_)
             clear hK K
             refine nQ 76 ?_
             refine pQ 11 65 HT_ ?_
             refine pQ 12 77 HT_ ?_
             refine pQ 13 78 HT_ ?_
             refine last_ (i := 14) (N := none) (bs 15 1) rfl rfl (one_of HT_.out (by kernel_rfl)) (by decide) (fun K hK => ?_)
             have hs184 : w182.cell? ⟨gb101, 0, none⟩ = some (.slice Ao8 l0_0.length co8) := (blk_cell BK101.out 0).trans rfl
             have hfs184 := blk_frozen BK101.out 0
             have hns184_1 := NB102_101.out
             have hns184_2 := NB103_101.out
             have hns184_3 := NB104_101.out
             have hms184_1 := NB101_102.out
             have hms184_2 := NB101_103.out
             have hms184_3 := NB101_104.out
             have hs186 : w182.cell? ⟨gb101, 1, none⟩ = some (.slice A0_1 l0_1.length c0_1) := (blk_cell BK101.out 1).trans rfl
             have hfs186 := blk_frozen BK101.out 1
             have hns186_1 := NB102_101.out
             have hns186_2 := NB103_101.out
             have hns186_3 := NB104_101.out
             have hms186_1 := NB101_102.out
             have hms186_2 := NB101_103.out
             have hms186_3 := NB101_104.out
             refine skip_ (w1 := ?_) (by rfl) rfl ?_ ?_
             rotate_left
             ·go_simp
              rfl
             refine hK.out _ _ ?_
             clear hK K
             refine pQ 15 11 HT_ ?_
             refine done_ (done_of HT_.out (by kernel_rfl)) ?_
             have hnb187 := NB101_103.out
             have hnc187 := NB103_101.out
             have hnb188 := NB101_104.out
             have hnc188 := NB104_101.out
             obtain ⟨hcz189_0, hcz189_1, hfz189_0, hfz189_1⟩ := cA2 BK101
             have hnb190 := NB104_103.out
             have hnc190 := NB103_104.out
             obtain ⟨hcz191_0, hcz191_1, hfz191_0, hfz191_1⟩ := cA2 BK104
             try go_wp2
             refine bodyPost_ret (results_ct rfl _ _ gb104 60 #[.slice Ao183 t130.length co183, .slice Ao185 t133.length co185] (0, 0) _ rfl (by (with_reducible repeat first | apply zN | apply zD | apply zA); refine blk_put (cs := #[.slice Ao183 t130.length co183, .slice none 0 0]) ?_ 1 _ rfl; (with_reducible repeat first | apply zN | apply zD | apply zA); refine blk_put (cs := #[.slice none 0 0, .slice none 0 0]) ?_ 0 _ rfl; (repeat first | with_reducible apply zN | with_reducible apply zD | with_reducible apply zA | refine blk_far ?_ NB104_101.out _); exact BK104.out) Tryz.underlying60 rfl (by kernel_rfl)) rfl ?_
             exact ⟨_, _, eW, by (with_reducible repeat (first | apply rA | apply rN | apply rD)); exact Kd.R_mono (Kd.R_far (p := ⟨gb104, 1, none⟩) (Kd.R_far (p := ⟨gb104, 0, none⟩) (Kd.R_far (p := ⟨gb101, 1, none⟩) (Kd.R_far (p := ⟨gb101, 0, none⟩) (Kd.R_types (Kd.R_types HO132.out BK101.out (by decide)) BK104.out (by decide)) (fun _ hk => hk.1.2) (.slice Ao183 t130.length co183)) (fun _ hk => hk.1.2) (.slice Ao185 t133.length co185)) (fun _ hk => hk.2) (.slice Ao183 t130.length co183)) (fun _ hk => hk.2) (.slice Ao185 t133.length co185)) (fun _ hk => hk.1.1), by (with_reducible repeat (first | apply Kd.V_alloc | apply Kd.V_drewN | apply Kd.V_drew)); exact Kd.V_mono (Kd.V_far (p := ⟨gb104, 1, none⟩) (Kd.V_far (p := ⟨gb104, 0, none⟩) (Kd.V_far (p := ⟨gb101, 1, none⟩) (Kd.V_far (p := ⟨gb101, 0, none⟩) (Kd.V_mono (Kd.V_mono HO135.out (fun k_ hk => (⟨hk, hk.2.2.1⟩ : _ ∧ k_ ≠ gb101))) (fun k_ hk => (⟨hk, hk.1.2.2.2.2.2⟩ : _ ∧ k_ ≠ gb104))) (fun _ hk => hk.1.2) (.slice Ao183 t130.length co183)) (fun _ hk => hk.1.2) (.slice Ao185 t133.length co185)) (fun _ hk => hk.2) (.slice Ao183 t130.length co183)) (fun _ hk => hk.2) (.slice Ao185 t133.length co185)) (fun _ hk => ⟨hk.1.1.1, hk.1.1.2.1⟩), pH HB, by repeat (first | (with_reducible first | exact HK.out | apply Kept.alloc | apply Kept.drewN | apply Kept.drew | refine Kept.setCell ?_ (.inr GW101.out) _ | refine Kept.setCell ?_ (.inr GW102.out) _ | refine Kept.setCell ?_ (.inr GW103.out) _ | refine Kept.setCell ?_ (.inr GW104.out) _) | exact HK.out)⟩
           ·rw [if_neg c150] at H
            exact absurd H (by simp)
          ·rw [if_neg c149] at H
           exact absurd H (by simp)

end Go.Proofs.YteffjlhljeodpaaGreatDoor.G

namespace Go.Proofs.YteffjlhljeodpaaGreatDoor.G
open Go.RowKit Go.Proofs.YteffjlhljeodpaaGreatDoorW.PrintWords Go.Proofs.YteffjlhljeodpaaGreatDoorW.PrintLast Go.Proofs.YteffjlhljeodpaaGreatDoorW.PrintMore Go.Proofs.YteffjlhljeodpaaGreatDoor.Short
attribute [local go_sem] max2_int min2_int max_two min_two max_three min_three max_four min_four   -- for this text's walks alone
set_option linter.unusedVariables false
set_option linter.unusedSimpArgs false

def spec_leTold.l0 : Nat → List (S29) → List Int → Int → Int → List Int → List (S55) → Option ((List (S29)))
 | 0, _, _, _, _, _, _ => none
 | k + 1, x3, x7, x8, x9, x102000, x102001 => if x9 < x8 then (if 0 ≤ x9 then (if x9 < (x7.length : Int) then (if x9 < (x102001.length : Int) then ((spec_leText.f k ((rd_T55 x102001 x9).f0) ((rd_T55 x102001 x9).f1)).bind fun t104 => (if x3.length < 5864062014805 then (spec_leTold.l0 k (x3 ++ [(⟨rd x7 x9, t104⟩ : S29)]) x7 x8 (wrap64 (x9 + 1)) x102000 x102001) else (none))) else (none)) else (none)) else (none)) else (some x3)
def spec_leTold.f (k : Nat) (l0_0 : List Int) (l0_1 : List (S55)) : Option ((List (S29))) := spec_leTold.l0 k ([] : List (S29)) l0_0 (l0_0.length : Int) 0 l0_0 l0_1
set_option maxHeartbeats 8000000 in
set_option maxRecDepth 100000 in
theorem spec_leTold.calls (k : Nat) (A0_0 : Option Addr) (c0_0 : Nat) (l0_0 : List Int) (A0_1 : Option Addr) (c0_1 : Nat) (l0_1 : List (S55)) (r : List (S29)) (w : World) (hr0_0 : Kd.C (Kd.int .i64) w A0_0 l0_0.length l0_0) (hc0_0 : l0_0.length ≤ c0_0) (hr0_1 : Kd.C k55 w A0_1 l0_1.length l0_1) (hc0_1 : l0_1.length ≤ c0_1) (h : spec_leTold.f k l0_0 l0_1 = some r) :
  Calls Tryz.prog 22 #[.agg #[.slice A0_0 l0_0.length c0_0, .slice A0_1 l0_1.length c0_1]] w fun e w' => ∃ v0_ : Value, e = .returned (v0_) ∧ Kd.R k29 29 w' w.heap.size (fun _ => True) v0_ r ∧ Below w.heap.size w w' := by
 have hu60 := Tryz.underlying60
 have hu55 := Tryz.underlying55
 have hu29 := Tryz.underlying29
 have HR0_0 := aK hr0_0
 have HC0_0 := aK hc0_0
 clear hr0_0 hc0_0
 have HR0_1 := aK hr0_1
 have HC0_1 := aK hc0_1
 clear hr0_1 hc0_1
 have HB := aK (Below.refl w.heap.size w)
 have H : (spec_leTold.l0 k ([] : List (S29)) l0_0 (l0_0.length : Int) 0 l0_0 l0_1) = some r := h
 clear h
 have H' := aK H
 clear H
 go_enter Tryz.func22, Tryz.ntmps22
 go_wp2_with (first | ((with_reducible refine gate_dst (N := 1) rfl ?_); refine bE (N := 1) (cs := #[.slice A0_0 l0_0.length c0_0, .slice A0_1 l0_1.length c0_1]) (t := 60) ?_; intro gb101 hg w2 hbox hb; have GW101 := qw HB hg; have GE101 := qw HB hg; have BK101 := aK hbox; replace HB := qs HB hb; clear hb hbox hg; have hcz3_0 := kq20 BK101; have hcz3_1 := kq21 BK101; have hfz3_0 := fz BK101 0; have hfz3_1 := fz BK101 1))
 go_loopg [3, 9] k (fun kq v3 v9 w' => ∃ (x3_1 : List (S29)) (x9_1 : Int), v9 = .int .i64 x9_1 ∧ Aside0 (spec_leTold.l0 kq x3_1 l0_0 (l0_0.length : Int) x9_1 l0_0 l0_1 = some r) ∧ Aside0 (kq ≤ k) ∧ Aside0 (Kd.R k29 29 w' w.heap.size (fun _ => True) v3 x3_1) ∧ Aside0 (w'.heap[gb101]? = some (.cells #[(.slice A0_0 l0_0.length c0_0), (.slice A0_1 l0_1.length c0_1)] 60 (0, 0))) ∧ Aside0 (Below w.heap.size w w'))
 case atStart => exact ⟨(([] : List (S29))), (0), rS, H', ⟨Nat.le_refl _⟩, ⟨by first | exact Kd.R_nil _ _ _ _ _ | exact Kd.N_nil _ _ _ _ _ | exact Kd.V_nil _ _ _ _ _ | exact Kd.Q_nil _ _ _ _ _ | exact Kd.S_nil _ _ _ _ _⟩, ⟨pB BK101⟩, ⟨pH HB⟩⟩
 case round =>
  clear H'
  obtain ⟨x3_1, x9_1, rfl, HA, HK1, HO_3, BK101, HB⟩ := hrel
  cases gk with
  | zero => exact absurd HA.out (by simp [spec_leTold.l0])
  | succ k1 =>
   have H := HA.out
   clear HA
   simp only [spec_leTold.l0] at H
   by_cases c4 : x9_1 < (l0_0.length : Int)
   ·rw [if_pos c4] at H
    have c4b0 : decide (x9_1 < (l0_0.length : Int)) = true := decide_eq_true c4
    clear c4
    by_cases c5 : 0 ≤ x9_1
    ·rw [if_pos c5] at H
     have c5b0 : decide (0 ≤ x9_1) = true := decide_eq_true c5
     clear c5
     by_cases c6 : x9_1 < (l0_0.length : Int)
     ·rw [if_pos c6] at H
      have c6b0 : decide (x9_1 < (l0_0.length : Int)) = true := decide_eq_true c6
      clear c6
      by_cases c7 : x9_1 < (l0_1.length : Int)
      ·rw [if_pos c7] at H
       have c7b0 : decide (x9_1 < (l0_1.length : Int)) = true := decide_eq_true c7
       clear c7
       obtain ⟨t104, A8, H⟩ := oB H
       try dsimp only at H
       by_cases c9 : x3_1.length < 5864062014805
       ·rw [if_pos c9] at H
        have LMc9 := aK c9
        clear c9
        obtain ⟨y105, hy105⟩ : ∃ y_ : List (S29), y_ = (x3_1 ++ [(⟨rd l0_0 x9_1, t104⟩ : S29)]) := ⟨_, rfl⟩
        replace H : (spec_leTold.l0 k1 y105 l0_0 (l0_0.length : Int) (wrap64 (x9_1 + 1)) l0_0 l0_1) = some r := by first | (rw [hy105]; with_reducible exact H) | (have H2_ := (Option.bind_some _ _).symm.trans H; rw [hy105]; with_reducible exact H2_) | (have H2_ := (Option.bind_some _ _).symm.trans H; with_reducible exact H2_) | with_reducible exact H | (rw [hy105]; exact H) | exact H
        have Ny105 := aK hy105
        clear hy105
        have H' := aK H
        clear H
        have p102 : 0 ≤ (x9_1 : Int) := dA
        have q102 : x9_1 < (l0_0.length : Int) := dA
        obtain ⟨ad102, e102, hx102_0⟩ := Kd.at_int HR0_0.out x9_1 p102 q102
        cases e102
        replace hx102_0 := uC HB hx102_0
        replace p102 := eq_true p102
        replace q102 := eq_true q102
        have hcz10_0 := kq20 BK101
        have hcz10_1 := kq21 BK101
        have hfz10_0 := fz BK101 0
        have hfz10_1 := fz BK101 1
        have p103 : 0 ≤ (x9_1 : Int) := dA
        have q103 : x9_1 < (l0_1.length : Int) := dA
        obtain ⟨ad103, A103_1, c103_1, e103, hx103_0, hx103_1, hl103_1, hi103_1⟩ := at_T55 HR0_1.out x9_1 p103 q103
        cases e103
        replace hx103_0 := uC HB hx103_0
        replace hx103_1 := uC HB hx103_1
        have HR103_1 := aK hi103_1
        have HC103_1 := aK hl103_1
        clear hi103_1 hl103_1
        replace p103 := eq_true p103
        replace q103 := eq_true q103
        go_wp2_with (first | ((with_reducible refine gate_callee (f := 28) rfl ?_); refine goesL_ (some 21) rfl rfl Tryz.func28 (by kernel_rfl) rfl #[.agg #[.int .i64 ((rd_T55 l0_1 x9_1).f0), .slice A103_1 ((rd_T55 l0_1 x9_1).f1).length c103_1]] rfl tA ?_; (with_reducible refine (spec_leText.calls k1 ((rd_T55 l0_1 x9_1).f0) _ _ ((rd_T55 l0_1 x9_1).f1) t104 _ ?side1 ?side2 A8.out).mono ?_); (case side1 => exact sC (Kd.C_below HR103_1.out HB.out)); (case side2 => exact HC103_1.out); rintro e w11 ⟨rfl, hb⟩; refine ⟨_, rfl, ?_⟩; have n0_ := aK (Kd.R_below HO_3.out hb); replace BK101 := qb BK101 hb; clear HO_3; have HO_3 := n0_; clear n0_; replace HB := qs HB hb; (try clear hb)) | ((with_reducible refine gate_builtin (b := .append) (xs := #[.tmp 14, .tmp 23]) rfl ?_); at_builtin; refine Kd.R_append k29 (w0 := w) w.heap.size rfl (.tmp 14) (.tmp 23) 25 29 (.agg #[(.int .i64 0), (.string ⟨#[]⟩)]) 24 rfl Tryz.underlying25 info29 rfl (by decide) (by omega) u3 x3_1 (⟨rd l0_0 x9_1, t104⟩ : S29) [.int .i64 (rd l0_0 x9_1), .string t104] (fun _ => True) (fun _ => False) rfl rfl ?aP (fun _ hk => hk.elim) ?aF ?aO ?aB ?aS ?aL ?_; (case aP => exact k29_mkM _ _ _ (⟨rd l0_0 x9_1, t104⟩ : S29)); (case aB => exact (pH HB)); (case aF => exact (fun _ _ => trivial)); (case aO => exact HO_3.out); (case aS => exact (below_size (pH HB))); (case aL => have := LMc9.out; omega); intro v106 w12 ho hb hg hat; rw [← Ny105.out] at ho; have n0_ := aK (blk_grown BK101.out hg (Kd.R_ne HO_3.out BK101.out (by decide))); have n1_ := aK (hb); have HO107 := aK (ho); clear BK101; have BK101 := n0_; clear n0_; clear HB; have HB := n1_; clear n1_; clear HO_3; clear ho hb hg hat))
        go_roundg k1
        case measure => have := HK1.out; omega
        case rel => exact ⟨(y105), (wrap64 (x9_1 + 1)), rS, H', ⟨by have := HK1.out; omega⟩, ⟨rX HO107⟩, ⟨pB BK101⟩, ⟨pH HB⟩⟩
       ·rw [if_neg c9] at H
        exact absurd H (by simp)
      ·rw [if_neg c7] at H
       exact absurd H (by simp)
     ·rw [if_neg c6] at H
      exact absurd H (by simp)
    ·rw [if_neg c5] at H
     exact absurd H (by simp)
   ·rw [if_neg c4] at H
    have c4b0 : decide (x9_1 < (l0_0.length : Int)) = false := decide_eq_false c4
    clear c4
    obtain rfl := Option.some.inj H
    go_wp2
    go_ret
    exact ⟨_, eW, by (with_reducible repeat (first | apply rA | apply rN | apply rD)); exact HO_3.out, pH HB⟩


def spec_UnifyTypes.j0 : Nat → Bool → Int → List (S55) → Int → List (S55) → Option ((List (S29)) × Bool)
 | 0, _, _, _, _, _ => none
 | k + 1, x27, x107000, x107001, x113000, x113001 => if x27 = true then (some (([] : List (S29)), false)) else ((spec_leUnify.f k ([] : List Int) ([] : List (S55)) x107000 x107001 x113000 x113001 false).bind fun bt113 => (if bt113.2.2 = true then ((spec_leTold.f k bt113.1 bt113.2.1).bind fun t121 => (some (t121, true))) else (some (([] : List (S29)), false))))
def spec_UnifyTypes.f (k : Nat) (a0 : ByteArray) (a1 : ByteArray) : Option ((List (S29)) × Bool) := (spec_leOf.f k a0).bind fun bt101 => ((spec_leOf.f k a1).bind fun bt107 => (if bt101.2.2 = true then (spec_UnifyTypes.j0 k (!bt107.2.2) bt101.1 bt101.2.1 bt107.1 bt107.2.1) else (spec_UnifyTypes.j0 k true bt101.1 bt101.2.1 bt107.1 bt107.2.1)))
set_option maxHeartbeats 8000000 in
set_option maxRecDepth 100000 in
theorem spec_UnifyTypes.calls (k : Nat) (a0 : ByteArray) (a1 : ByteArray) (r1 : List (S29)) (r2 : Bool) (w : World) (h : spec_UnifyTypes.f k a0 a1 = some (r1, r2)) :
  Calls Tryz.prog 6 #[.string a0, .string a1] w fun e w' => ∃ v0_ : Value, e = .returned (.tuple #[v0_, .bool r2]) ∧ Kd.R k29 29 w' w.heap.size (fun _ => True) v0_ r1 ∧ Below w.heap.size w w' := by
 have hu55 := Tryz.underlying55
 have hu60 := Tryz.underlying60
 have HB := aK (Below.refl w.heap.size w)
 have H : ((spec_leOf.f k a0).bind fun bt101 => ((spec_leOf.f k a1).bind fun bt107 => (if bt101.2.2 = true then (spec_UnifyTypes.j0 k (!bt107.2.2) bt101.1 bt101.2.1 bt107.1 bt107.2.1) else (spec_UnifyTypes.j0 k true bt101.1 bt101.2.1 bt107.1 bt107.2.1)))) = some (r1, r2) := h
 clear h
 obtain ⟨⟨t101, t102, t105⟩, A3, H⟩ := oB H
 try dsimp only at H
 obtain ⟨⟨t107, t108, t111⟩, A4, H⟩ := oB H
 try dsimp only at H
 have HC5 := aK H
 clear H
 go_enter Tryz.func6, Tryz.ntmps6
 go_upto_region 3 with (first | ((with_reducible refine gate_callee (f := 20) rfl ?_); refine goesL_ (some 14) rfl rfl Tryz.func20 (by kernel_rfl) rfl #[.string a0] rfl tA ?_; (with_reducible refine (spec_leOf.calls k a0 t101 t102 t105 _ A3.out).mono ?_); rintro e w6 ⟨v103, rfl, ho0, hb⟩; refine ⟨_, rfl, ?_⟩; have HO104 := aK (Kd.R_lower ho0 (below_size HB.out)); replace HB := qs HB hb; (try clear hb); (try clear ho0)) | ((with_reducible refine gate_dst (N := 6) rfl ?_); refine bE (N := 6) (cs := #[.int .i64 0, .slice none 0 0]) (t := 55) ?_; intro gb106 hg w7 hbox hb; have n0_ := aK (Kd.R_below (Kd.R_elderB HO104.out gb106 (Nat.le_of_eq hg.symm)) hb); have GW106 := qw HB hg; have GE106 := qw HB hg; have BK106 := aK hbox; clear HO104; have HO104 := n0_; clear n0_; replace HB := qs HB hb; clear hb hbox hg; obtain ⟨hcz8_0, hcz8_1, hfz8_0, hfz8_1⟩ := cA2 BK106; obtain ⟨Ao9, co9, eo9⟩ := Kd.R_slice HO104.out; subst eo9) | ((with_reducible refine gate_callee (f := 20) rfl ?_); refine goesL_ (some 19) rfl rfl Tryz.func20 (by kernel_rfl) rfl #[.string a1] rfl tA ?_; (with_reducible refine (spec_leOf.calls k a1 t107 t108 t111 _ A4.out).mono ?_); rintro e w10 ⟨v109, rfl, ho0, hb⟩; refine ⟨_, rfl, ?_⟩; have n_ := aJ (aK (Kd.R_elder' (rX HO104) (Kd.R_base ho0) hb)) (aJ (aK (Kd.R_lower (Kd.R_newB (Kd.R_new' ho0 (Kd.R_lt (rX HO104))) (g := gb106) (o := .cells #[.int .i64 t101, .slice Ao9 t102.length co9] 55 (0, 0)) (bP BK106)) (below_size (pH HB)))) (aJ (aK (blk_below (g := gb106) (o := .cells #[.int .i64 t101, .slice Ao9 t102.length co9] 55 (0, 0)) (bP BK106) hb)) (aK (below_step (pH HB) hb)))); clear HO104 BK106 HB; obtain ⟨HO104, HO110, BK106, HB⟩ := n_; (try clear hb); (try clear ho0)) | ((with_reducible refine gate_dst (N := 8) rfl ?_); refine bE (N := 8) (cs := #[.int .i64 0, .slice none 0 0]) (t := 55) ?_; intro gb112 hg w11 hbox hb; have n0_ := aK (Kd.R_below (Kd.R_elderB HO104.out gb112 (Nat.le_of_eq hg.symm)) hb); have n1_ := aK (Kd.R_below (Kd.R_elderB HO110.out gb112 (Nat.le_of_eq hg.symm)) hb); have GW112 := qw HB hg; have GE112 := qw HB hg; have NB106_112 := ql BK106 hg; have NB112_106 := qg BK106 hg; replace BK106 := qb BK106 hb; have BK112 := aK hbox; clear HO104; have HO104 := n0_; clear n0_; clear HO110; have HO110 := n1_; clear n1_; replace HB := qs HB hb; clear hb hbox hg; have hnb12 := NB112_106.out; have hnc12 := NB106_112.out; obtain ⟨hcz13_0, hcz13_1, hfz13_0, hfz13_1⟩ := cA2 BK112; obtain ⟨Ao14, co14, eo14⟩ := Kd.R_slice HO110.out; subst eo14))
 (try simp only [Act.put, List.setIfInBounds_toArray, List.set_cons_zero, List.set_cons_succ])
 go_cut [27] (fun v27 wc => ∃ (kq : Nat) (x27_4 : Bool), v27 = .bool x27_4 ∧ Aside0 (spec_UnifyTypes.j0 kq x27_4 t101 t102 t107 t108 = some (r1, r2)) ∧ Aside0 (kq ≤ k) ∧ Aside0 (Kd.R k55 55 wc w.heap.size (fun k_ => nS k_ Ao14 t108 co14 ∧ k_ ≠ gb106 ∧ k_ ≠ gb112) (.slice Ao9 t102.length co9) t102) ∧ Aside0 (Kd.R k55 55 wc w.heap.size (fun k_ => nS k_ Ao9 t102 co9 ∧ k_ ≠ gb106 ∧ k_ ≠ gb112) (.slice Ao14 t108.length co14) t108) ∧ Aside0 (wc.heap[gb106]? = some (.cells #[.int .i64 t101, (.slice Ao9 t102.length co9)] 55 (0, 0))) ∧ Aside0 (wc.heap[gb112]? = some (.cells #[.int .i64 t107, (.slice Ao14 t108.length co14)] 55 (0, 0))) ∧ Aside0 (Below w.heap.size w wc))
 case first =>
  have H := HC5.out
  clear HC5
  by_cases c15 : t105 = true
  ·subst c15
   rw [if_pos rfl] at H
   have H' := aK H
   clear H
   go_wp2
   go_meet
   case rel => exact ⟨_, (!t111), rS, H', ⟨by first | omega | exact Nat.le_refl _⟩, ⟨rZ HO104⟩, ⟨rZ HO110⟩, ⟨bY BK106⟩, ⟨bP BK112⟩, ⟨pH HB⟩⟩
  ·replace c15 := Bool.eq_false_iff.mpr c15
   subst c15
   rw [if_neg (show ¬ (false = true) by decide)] at H
   have H' := aK H
   clear H
   go_wp2
   go_meet
   case rel => exact ⟨_, (true), rS, H', ⟨by first | omega | exact Nat.le_refl _⟩, ⟨rZ HO104⟩, ⟨rZ HO110⟩, ⟨bY BK106⟩, ⟨bP BK112⟩, ⟨pH HB⟩⟩
 case rest =>
  clear HC5
  obtain ⟨kq, x27_4, rfl, HA, HJ4, HO_107001, HO_113001, BK106, BK112, HB⟩ := hcut
  cases kq with
  | zero => exact absurd HA.out (by simp [spec_UnifyTypes.j0])
  | succ kj4 =>
   have H := HA.out
   clear HA
   simp only [spec_UnifyTypes.j0] at H
   by_cases c16 : x27_4 = true
   ·subst c16
    rw [if_pos rfl] at H
    simp only [Option.some.injEq, Prod.mk.injEq] at H
    obtain ⟨rfl, rfl⟩ := H
    go_wp2
    go_ret2
    exact ⟨_, eW, by first | exact Kd.R_nil _ _ _ _ _ | exact Kd.N_nil _ _ _ _ _ | exact Kd.V_nil _ _ _ _ _ | exact Kd.Q_nil _ _ _ _ _ | exact Kd.S_nil _ _ _ _ _, pH HB⟩
   ·replace c16 := Bool.eq_false_iff.mpr c16
    subst c16
    rw [if_neg (show ¬ (false = true) by decide)] at H
    obtain ⟨⟨t113, t116, t119⟩, A17, H⟩ := oB H
    try dsimp only at H
    by_cases c18 : t119 = true
    ·subst c18
     rw [if_pos rfl] at H
     obtain ⟨t121, A19, H⟩ := oB H
     try dsimp only at H
     simp only [Option.some.injEq, Prod.mk.injEq] at H
     obtain ⟨rfl, rfl⟩ := H
     have hnb20 := NB106_112.out
     have hnc20 := NB112_106.out
     obtain ⟨hcz21_0, hcz21_1, hfz21_0, hfz21_1⟩ := cA2 BK106
     obtain ⟨hcz22_0, hcz22_1, hfz22_0, hfz22_1⟩ := cA2 BK112
     go_wp2_with (first | ((with_reducible refine gate_callee (f := 21) rfl ?_); refine goesL_ (some 32) rfl rfl Tryz.func21 (by kernel_rfl) rfl #[.agg #[.slice none 0 0, .slice none 0 0], .agg #[.int .i64 t101, .slice Ao9 t102.length co9], .agg #[.int .i64 t107, .slice Ao14 t108.length co14], .bool false] rfl tA ?_; (refine (spec_leUnify.calls kj4 (fun k_ => some k_ = (.slice none 0 0 : Value).ownBlock) (.slice none 0 0) ([] : List Int) (fun k_ => False) _ _ ([] : List (S55)) t101 (fun k_ => (nS k_ Ao14 t108 co14 ∧ (k_ ≠ gb106 ∧ k_ ≠ gb112))) _ _ t102 t107 (fun k_ => (nS k_ Ao9 t102 co9 ∧ (k_ ≠ gb106 ∧ k_ ≠ gb112))) _ _ t108 false t113 t116 true w _ ?side1 ?side2 ?side3 ?side4 ?side5 A17.out).mono ?_); (case side1 => exact yH HB); (case side2 => exact Kd.R_nil _ _ _ _ _); (case side3 => exact Kd.V_nil _ _ _ _ _); (case side4 => exact Kd.V_mono (Kd.R_V (HO_107001.out)) (fun k_ hk_ => ⟨hk_, (by simp [Value.ownBlock])⟩)); (case side5 => exact Kd.V_mono (Kd.R_V (HO_113001.out)) (fun k_ hk_ => ⟨hk_, (by simp [Value.ownBlock])⟩)); rintro e w23 ⟨v114, v117, rfl, ho0, ho1, hb, hkp⟩; refine ⟨_, rfl, ?_⟩; have n0_ := aK (Kd.R_mono (ok' := fun k_ => nS k_ Ao14 t108 co14 ∧ k_ ≠ gb106 ∧ k_ ≠ gb112) (Kd.R_keptB (HO_107001.out) hkp (fun k_ hk_ hs_ => (fun e_ => by simp [Value.ownBlock] at e_) hs_)) (fun k_ hk_ => ⟨hk_.1.1, hk_.1.2.1, hk_.1.2.2⟩)); have n1_ := aK (Kd.R_mono (ok' := fun k_ => nS k_ Ao9 t102 co9 ∧ k_ ≠ gb106 ∧ k_ ≠ gb112) (Kd.R_keptB (HO_113001.out) hkp (fun k_ hk_ hs_ => (fun e_ => by simp [Value.ownBlock] at e_) hs_)) (fun k_ hk_ => ⟨hk_.1.1, hk_.1.2.1, hk_.1.2.2⟩)); have n2_ := aK (blk_kept BK106.out hkp (fun hs_ => (fun e_ => by simp [Value.ownBlock] at e_) hs_)); have n3_ := aK (blk_kept BK112.out hkp (fun hs_ => (fun e_ => by simp [Value.ownBlock] at e_) hs_)); have HO115 := aK (Kd.R_mono (ok' := fun k_ => True) ho0 (fun k_ hk_ => trivial)); have HO118 := aK (Kd.V_mono (ok' := fun k_ => some k_ ≠ (v114 : Value).ownBlock ∧ k_ ≠ gb106 ∧ k_ ≠ gb112) ho1 (fun k_ hk_ => ⟨hk_.2, Or.elim hk_.1 (fun hs_ => Or.elim hs_ (fun hs_ => absurd hs_ (by simp [Value.ownBlock])) (fun hs_ => Or.elim hs_ (fun hs_ => (hs_).elim) (fun hs_ => Or.elim hs_ (fun hs_ => hs_.2.1) (fun hs_ => hs_.2.1)))) (fun hn_ => (Kd.freshB BK106.out k_ hn_)), Or.elim hk_.1 (fun hs_ => Or.elim hs_ (fun hs_ => absurd hs_ (by simp [Value.ownBlock])) (fun hs_ => Or.elim hs_ (fun hs_ => (hs_).elim) (fun hs_ => Or.elim hs_ (fun hs_ => hs_.2.2) (fun hs_ => hs_.2.2)))) (fun hn_ => (Kd.freshB BK112.out k_ hn_))⟩)); have n6_ := aK (hb); clear HO_107001; have HO_107001 := n0_; clear n0_; clear HO_113001; have HO_113001 := n1_; clear n1_; clear BK106; have BK106 := n2_; clear n2_; clear BK112; have BK112 := n3_; clear n3_; clear HB; have HB := n6_; clear n6_; (try clear hb); (try clear hkp); (try clear ho0); (try clear ho1)) | ((with_reducible refine gate_dst (N := 10) rfl ?_); refine bE (N := 10) (cs := #[.slice none 0 0, .slice none 0 0]) (t := 60) ?_; intro gb120 hg w24 hbox hb; have n0_ := aK (Kd.R_below HO_107001.out hb); have n1_ := aK (Kd.R_below HO_113001.out hb); have GW120 := qw HB hg; have GE120 := qw HB hg; have NB106_120 := ql BK106 hg; have NB120_106 := qg BK106 hg; have NB112_120 := ql BK112 hg; have NB120_112 := qg BK112 hg; replace HO118 := qv HO118 hg hb; replace BK106 := qb BK106 hb; replace BK112 := qb BK112 hb; have BK120 := aK hbox; clear HO_107001; have HO_107001 := n0_; clear n0_; clear HO_113001; have HO_113001 := n1_; clear n1_; replace HO115 := rB HO115 hb; replace HB := qs HB hb; clear hb hbox hg; obtain ⟨Ao25, co25, eo25⟩ := Kd.R_slice HO115.out; subst eo25; have hnb26 := NB120_106.out; have hnc26 := NB106_120.out; have hnb27 := NB120_112.out; have hnc27 := NB112_120.out; obtain ⟨hcz28_0, hcz28_1, hfz28_0, hfz28_1⟩ := cA2 BK120; obtain ⟨Ao29, co29, eo29⟩ := Kd.V_slice HO118.out; subst eo29) | ((with_reducible refine gate_callee (f := 22) rfl ?_); refine goesL_ (some 38) rfl rfl Tryz.func22 (by kernel_rfl) rfl #[.agg #[.slice Ao25 t113.length co25, .slice Ao29 t116.length co29]] rfl tA ?_; (with_reducible refine (spec_leTold.calls kj4 _ _ t113 _ _ t116 t121 _ ?side1 ?side2 ?side3 ?side4 A19.out).mono ?_); (case side1 => refine (Kd.R_reads' (e := 3) (base := w.heap.size) (ok := fun k_ => True) (n := t113.length) (c := co25) ?_).2.2; exact (rY HO115 BK120)); (case side2 => exact (Kd.R_reads' HO115.out).2.1); (case side3 => refine (Kd.V_reads' (e := 55) (base := w.heap.size) (ok := fun k_ => ((nS k_ Ao25 t113 co25 ∧ (k_ ≠ gb106 ∧ k_ ≠ gb112)) ∧ k_ ≠ gb120)) (n := t116.length) (c := co29) ?_).2.2; exact (vY HO118)); (case side4 => exact (Kd.V_reads' HO118.out).2.1); rintro e w30 ⟨v122, rfl, ho0, hb⟩; refine ⟨_, rfl, ?_⟩; have n_ := aJ (aK (Kd.R_below (rY HO_107001 BK120) hb)) (aJ (aK (Kd.R_below (rY HO_113001 BK120) hb)) (aJ (aK (Kd.R_below (rY HO115 BK120) hb)) (aJ (aK (Kd.V_elder' (vY HO118) (Kd.R_base ho0) hb)) (aJ (aK (Kd.R_lower ho0 (below_size (pH HB)))) (aJ (bB BK106 hb) (aJ (bB BK112 hb) (aJ (aK (blk_below (g := gb120) (o := .cells #[.slice Ao25 t113.length co25, .slice Ao29 t116.length co29] 60 (0, 0)) (bP BK120) hb)) (aK (below_step (pH HB) hb))))))))); clear HO_107001 HO_113001 HO115 HO118 BK106 BK112 BK120 HB; obtain ⟨HO_107001, HO_113001, HO115, HO118, HO123, BK106, BK112, BK120, HB⟩ := n_; (try clear hb); (try clear ho0)))
     go_ret2
     exact ⟨_, eW, by (with_reducible repeat (first | apply rA | apply rN | apply rD)); exact HO123.out, pH HB⟩
    ·replace c18 := Bool.eq_false_iff.mpr c18
     subst c18
     rw [if_neg (show ¬ (false = true) by decide)] at H
     simp only [Option.some.injEq, Prod.mk.injEq] at H
     obtain ⟨rfl, rfl⟩ := H
     have hnb31 := NB106_112.out
     have hnc31 := NB112_106.out
     obtain ⟨hcz32_0, hcz32_1, hfz32_0, hfz32_1⟩ := cA2 BK106
     obtain ⟨hcz33_0, hcz33_1, hfz33_0, hfz33_1⟩ := cA2 BK112
     go_wp2_with (first | ((with_reducible refine gate_callee (f := 21) rfl ?_); refine goesL_ (some 32) rfl rfl Tryz.func21 (by kernel_rfl) rfl #[.agg #[.slice none 0 0, .slice none 0 0], .agg #[.int .i64 t101, .slice Ao9 t102.length co9], .agg #[.int .i64 t107, .slice Ao14 t108.length co14], .bool false] rfl tA ?_; (refine (spec_leUnify.calls kj4 (fun k_ => some k_ = (.slice none 0 0 : Value).ownBlock) (.slice none 0 0) ([] : List Int) (fun k_ => False) _ _ ([] : List (S55)) t101 (fun k_ => (nS k_ Ao14 t108 co14 ∧ (k_ ≠ gb106 ∧ k_ ≠ gb112))) _ _ t102 t107 (fun k_ => (nS k_ Ao9 t102 co9 ∧ (k_ ≠ gb106 ∧ k_ ≠ gb112))) _ _ t108 false t113 t116 false w _ ?side1 ?side2 ?side3 ?side4 ?side5 A17.out).mono ?_); (case side1 => exact yH HB); (case side2 => exact Kd.R_nil _ _ _ _ _); (case side3 => exact Kd.V_nil _ _ _ _ _); (case side4 => exact Kd.V_mono (Kd.R_V (HO_107001.out)) (fun k_ hk_ => ⟨hk_, (by simp [Value.ownBlock])⟩)); (case side5 => exact Kd.V_mono (Kd.R_V (HO_113001.out)) (fun k_ hk_ => ⟨hk_, (by simp [Value.ownBlock])⟩)); rintro e w34 ⟨v114, v117, rfl, ho0, ho1, hb, hkp⟩; refine ⟨_, rfl, ?_⟩; have n0_ := aK (Kd.R_mono (ok' := fun k_ => nS k_ Ao14 t108 co14 ∧ k_ ≠ gb106 ∧ k_ ≠ gb112) (Kd.R_keptB (HO_107001.out) hkp (fun k_ hk_ hs_ => (fun e_ => by simp [Value.ownBlock] at e_) hs_)) (fun k_ hk_ => ⟨hk_.1.1, hk_.1.2.1, hk_.1.2.2⟩)); have n1_ := aK (Kd.R_mono (ok' := fun k_ => nS k_ Ao9 t102 co9 ∧ k_ ≠ gb106 ∧ k_ ≠ gb112) (Kd.R_keptB (HO_113001.out) hkp (fun k_ hk_ hs_ => (fun e_ => by simp [Value.ownBlock] at e_) hs_)) (fun k_ hk_ => ⟨hk_.1.1, hk_.1.2.1, hk_.1.2.2⟩)); have n2_ := aK (blk_kept BK106.out hkp (fun hs_ => (fun e_ => by simp [Value.ownBlock] at e_) hs_)); have n3_ := aK (blk_kept BK112.out hkp (fun hs_ => (fun e_ => by simp [Value.ownBlock] at e_) hs_)); have HO115 := aK (Kd.R_mono (ok' := fun k_ => True) ho0 (fun k_ hk_ => trivial)); have HO118 := aK (Kd.V_mono (ok' := fun k_ => some k_ ≠ (v114 : Value).ownBlock ∧ k_ ≠ gb106 ∧ k_ ≠ gb112) ho1 (fun k_ hk_ => ⟨hk_.2, Or.elim hk_.1 (fun hs_ => Or.elim hs_ (fun hs_ => absurd hs_ (by simp [Value.ownBlock])) (fun hs_ => Or.elim hs_ (fun hs_ => (hs_).elim) (fun hs_ => Or.elim hs_ (fun hs_ => hs_.2.1) (fun hs_ => hs_.2.1)))) (fun hn_ => (Kd.freshB BK106.out k_ hn_)), Or.elim hk_.1 (fun hs_ => Or.elim hs_ (fun hs_ => absurd hs_ (by simp [Value.ownBlock])) (fun hs_ => Or.elim hs_ (fun hs_ => (hs_).elim) (fun hs_ => Or.elim hs_ (fun hs_ => hs_.2.2) (fun hs_ => hs_.2.2)))) (fun hn_ => (Kd.freshB BK112.out k_ hn_))⟩)); have n6_ := aK (hb); clear HO_107001; have HO_107001 := n0_; clear n0_; clear HO_113001; have HO_113001 := n1_; clear n1_; clear BK106; have BK106 := n2_; clear n2_; clear BK112; have BK112 := n3_; clear n3_; clear HB; have HB := n6_; clear n6_; (try clear hb); (try clear hkp); (try clear ho0); (try clear ho1)) | ((with_reducible refine gate_dst (N := 10) rfl ?_); refine bE (N := 10) (cs := #[.slice none 0 0, .slice none 0 0]) (t := 60) ?_; intro gb120 hg w35 hbox hb; have n0_ := aK (Kd.R_below HO_107001.out hb); have n1_ := aK (Kd.R_below HO_113001.out hb); have GW120 := qw HB hg; have GE120 := qw HB hg; have NB106_120 := ql BK106 hg; have NB120_106 := qg BK106 hg; have NB112_120 := ql BK112 hg; have NB120_112 := qg BK112 hg; replace HO118 := qv HO118 hg hb; replace BK106 := qb BK106 hb; replace BK112 := qb BK112 hb; have BK120 := aK hbox; clear HO_107001; have HO_107001 := n0_; clear n0_; clear HO_113001; have HO_113001 := n1_; clear n1_; replace HO115 := rB HO115 hb; replace HB := qs HB hb; clear hb hbox hg; obtain ⟨Ao36, co36, eo36⟩ := Kd.R_slice HO115.out; subst eo36; have hnb37 := NB120_106.out; have hnc37 := NB106_120.out; have hnb38 := NB120_112.out; have hnc38 := NB112_120.out; obtain ⟨hcz39_0, hcz39_1, hfz39_0, hfz39_1⟩ := cA2 BK120; obtain ⟨Ao40, co40, eo40⟩ := Kd.V_slice HO118.out; subst eo40))
     go_ret2
     exact ⟨_, eW, by first | exact Kd.R_nil _ _ _ _ _ | exact Kd.N_nil _ _ _ _ _ | exact Kd.V_nil _ _ _ _ _ | exact Kd.Q_nil _ _ _ _ _ | exact Kd.S_nil _ _ _ _ _, pH HB⟩

end Go.Proofs.YteffjlhljeodpaaGreatDoor.G

namespace Go.Proofs.YteffjlhljeodpaaGreatDoor.G
open Go.RowKit Go.Proofs.YteffjlhljeodpaaGreatDoorW.PrintWords Go.Proofs.YteffjlhljeodpaaGreatDoorW.PrintLast Go.Proofs.YteffjlhljeodpaaGreatDoorW.PrintMore Go.Proofs.YteffjlhljeodpaaGreatDoor.Short
set_option linter.unusedVariables false
set_option linter.unusedSimpArgs false

def spec_DrawApplyType.f (k : Nat) (l0 : List Int) : Option ((List (S29)) × ByteArray) := (spec_l1Cur_binds.f k l0 0 0).bind fun b => (spec_l1Cur_typeText.f k l0 b.2.1 b.2.2).bind fun c => some (b.1, c.1)
set_option maxHeartbeats 4000000 in
set_option maxRecDepth 100000 in
theorem spec_DrawApplyType.calls (k : Nat) (A0 : Option Addr) (c0 : Nat) (l0 : List Int) (r1 : List (S29)) (r2 : ByteArray) (w : World) (hr0 : Kd.C (Kd.int .u8) w A0 l0.length l0) (hc0 : l0.length ≤ c0) (h : spec_DrawApplyType.f k l0 = some (r1, r2)) :
  Calls Tryz.prog 8 #[.slice A0 l0.length c0] w fun e w' => ∃ v0_ : Value, e = .returned (.tuple #[v0_, .string r2]) ∧ Kd.R k29 29 w' w.heap.size (fun _ => True) v0_ r1 ∧ Below w.heap.size w w' := by
 obtain ⟨⟨b, t1, t2⟩, H, h⟩ := Option.bind_eq_some_iff.mp h
 obtain ⟨⟨c, t3, t4⟩, H', h⟩ := Option.bind_eq_some_iff.mp h
 simp only [Option.some.injEq, Prod.mk.injEq] at h
 obtain ⟨rfl, rfl⟩ := h
 have HR0 := aK hr0
 have HB := aK (Below.refl w.heap.size w)
 have H1 := aK H
 have H2 := aK H'
 clear hr0 H H'
 go_enter Tryz.func8, Tryz.ntmps8
 go_wp2_with (first
  | (go_at_call 12; refine (spec_l1Cur_binds.calls k _ l0 0 0 b t1 t2 w _ (IsS40.new w w A0 c0 l0 0 0 HB.out HR0.out) (below_alloc HB.out _) H1.out).mono ?_; rintro e w6 ⟨v0, rfl, hR, hi, hb, hk⟩; have HO := aK (Kd.R_lower hR (below_alloc HB.out _).size); have HI := aK hi; have HB2 := aK hb; clear HB hi hb hk hR; obtain ⟨Ao, co, eo⟩ := Kd.R_slice HO.out; subst eo)
  | (go_at_call 11; refine (spec_l1Cur_typeText.calls k _ l0 t1 t2 c t3 t4 w _ HI.out HB2.out H2.out).mono ?_; rintro e w8 ⟨rfl, hi, hb, hk⟩; have n0_ := aK (Kd.R_mono (Kd.R_keep (IsS40.apart HI.out HO.out (by decide)) hk (fun _ h => h.2)) (fun _ h => h.1)); have HB3 := aK hb; clear HI HO HB2 hi hb hk; have HO := n0_; clear n0_))
 go_ret2
 exact ⟨_, rfl, HO.out, HB3.out⟩
end Go.Proofs.YteffjlhljeodpaaGreatDoor.G

namespace Go.Proofs.YteffjlhljeodpaaGreatDoor.G
open Go.RowKit Go.Proofs.YteffjlhljeodpaaGreatDoorW.PrintWords Go.Proofs.YteffjlhljeodpaaGreatDoorW.PrintLast Go.Proofs.YteffjlhljeodpaaGreatDoorW.PrintMore Go.Proofs.YteffjlhljeodpaaGreatDoor.Short
attribute [local go_sem] max2_int min2_int max_two min_two max_three min_three max_four min_four   -- for this text's walks alone
set_option linter.unusedVariables false
set_option linter.unusedSimpArgs false

attribute [local go_sem high] eqA29
mutual
def laws_FnUnified.j0 : Nat → List Int → ByteArray → ByteArray → List (S29) → Bool → List (S29) → Bool → Option (Bool)
 | 0, _, _, _, _, _, _, _ => none
 | k + 1, x1, x5, x6, x7, x8, x9, x58 => if x58 = true then (some false) else (laws_FnUnified.l0 k x1 x5 x6 x7 x8 x9 (x7.length : Int) 0)
def laws_FnUnified.l0 : Nat → List Int → ByteArray → ByteArray → List (S29) → Bool → List (S29) → Int → Int → Option (Bool)
 | 0, _, _, _, _, _, _, _, _ => none
 | k + 1, x1, x5, x6, x7, x8, x9, x60, x61 => if x61 < x60 then (if 0 ≤ x61 then (if x61 < (x7.length : Int) then (if x61 < (x9.length : Int) then (if (!(((rd_T29 x7 x61).f0) == ((rd_T29 x9 x61).f0)) || (!((((rd_T29 x7 x61).f1).toList) == (((rd_T29 x9 x61).f1).toList)))) = true then (some false) else (laws_FnUnified.l0 k x1 x5 x6 x7 x8 x9 x60 (wrap64 (x61 + 1)))) else (none)) else (none)) else (none)) else (if x8 = true then ((impl_ApplyType.f k x7 x5).bind fun bt113 => ((impl_ApplyType.f k x7 x6).bind fun bt115 => (if (bt113.2 != bt115.2) = true then (some false) else (if bt113.1.toList = bt115.1.toList then (laws_FnUnified.j2 k x1 x5 x6 x7 x8) else (some false))))) else (laws_FnUnified.j2 k x1 x5 x6 x7 x8))
def laws_FnUnified.j2 : Nat → List Int → ByteArray → ByteArray → List (S29) → Bool → Option (Bool)
 | 0, _, _, _, _, _ => none
 | k + 1, x1, x5, x6, x7, x8 => (spec_DrawApplyType.f k x1).bind fun bt117 => ((spec_ApplyType.f k bt117.1 x5).bind fun bt121 => ((spec_ApplyType.f k bt117.1 x6).bind fun bt123 => (if bt121.2 = true then (if bt123.2 = true then (laws_FnUnified.j3 k x5 x7 x8 bt121.1 (bt121.1.toList != bt123.1.toList)) else (laws_FnUnified.j3 k x5 x7 x8 bt121.1 true)) else (laws_FnUnified.j3 k x5 x7 x8 bt121.1 true))))
def laws_FnUnified.j3 : Nat → ByteArray → List (S29) → Bool → ByteArray → Bool → Option (Bool)
 | 0, _, _, _, _, _ => none
 | k + 1, x5, x7, x8, x18, x122 => if x122 = true then (some true) else (if x8 = true then ((impl_ApplyType.f k x7 x5).bind fun bt125 => ((impl_InstanceOf.f k bt125.1 x18).bind fun bt127 => (if bt125.2 = true then (if bt127.2 = true then (some bt127.1) else (some false)) else (some true)))) else (some false))
end
noncomputable def laws_FnUnified.f (k : Nat) (l0 : List Int) (l1 : List Int) : Option (Bool) := if (wrap64 ((l0.length : Int) + (l1.length : Int))) > 1048576 then (some true) else ((spec_DrawUnifyTypes.f k l0).bind fun bt101 => ((impl_UnifyTypes.f k bt101.1 bt101.2).bind fun bt103 => ((spec_UnifyTypes.f k bt101.1 bt101.2).bind fun bt107 => (if (bt103.2 != bt107.2) = true then (laws_FnUnified.j0 k l1 bt101.1 bt101.2 bt103.1 bt103.2 bt107.1 true) else (laws_FnUnified.j0 k l1 bt101.1 bt101.2 bt103.1 bt103.2 bt107.1 ((bt103.1.length : Int) != (bt107.1.length : Int)))))))
set_option maxHeartbeats 8000000 in
set_option maxRecDepth 100000 in
theorem laws_FnUnified.calls (k : Nat) (A0 : Option Addr) (c0 : Nat) (l0 : List Int) (A1 : Option Addr) (c1 : Nat) (l1 : List Int) (r : Bool) (w : World) (hr0 : Kd.C (Kd.int .u8) w A0 l0.length l0) (hc0 : l0.length ≤ c0) (hr1 : Kd.C (Kd.int .u8) w A1 l1.length l1) (hc1 : l1.length ≤ c1) (h : laws_FnUnified.f k l0 l1 = some r) (hE : Met w) :
  Calls Tryz.prog 3 #[.slice A0 l0.length c0, .slice A1 l1.length c1] w fun e w' => e = .returned (.bool r) ∧ Below w.heap.size w w' := by
 have hu29 := Tryz.underlying29
 have HR0 := aK hr0
 have HC0 := aK hc0
 clear hr0 hc0
 have HR1 := aK hr1
 have HC1 := aK hc1
 clear hr1 hc1
 have HB := aK (Below.refl w.heap.size w)
 have HE := aK hE
 clear hE
 have H : (if (wrap64 ((l0.length : Int) + (l1.length : Int))) > 1048576 then (some true) else ((spec_DrawUnifyTypes.f k l0).bind fun bt101 => ((impl_UnifyTypes.f k bt101.1 bt101.2).bind fun bt103 => ((spec_UnifyTypes.f k bt101.1 bt101.2).bind fun bt107 => (if (bt103.2 != bt107.2) = true then (laws_FnUnified.j0 k l1 bt101.1 bt101.2 bt103.1 bt103.2 bt107.1 true) else (laws_FnUnified.j0 k l1 bt101.1 bt101.2 bt103.1 bt103.2 bt107.1 ((bt103.1.length : Int) != (bt107.1.length : Int)))))))) = some r := h
 clear h
 by_cases c3 : (wrap64 ((l0.length : Int) + (l1.length : Int))) > 1048576
 ·rw [if_pos c3] at H
  have c3b0 : decide (1048576 < (wrap64 ((l0.length : Int) + (l1.length : Int)))) = true := decide_eq_true c3
  clear c3
  obtain rfl := Option.some.inj H
  go_enter Tryz.func3, Tryz.ntmps3
  go_wp2
  repeat (go_quiet (fail); try go_wp2)
  go_ret
  exact ⟨eW, pH HB⟩
 ·rw [if_neg c3] at H
  have c3b0 : decide (1048576 < (wrap64 ((l0.length : Int) + (l1.length : Int)))) = false := decide_eq_false c3
  clear c3
  obtain ⟨⟨t101, t102⟩, A4, H⟩ := oB H
  try dsimp only at H
  obtain ⟨⟨t103, t104⟩, A5, H⟩ := oB H
  try dsimp only at H
  obtain ⟨⟨t107, t108⟩, A6, H⟩ := oB H
  try dsimp only at H
  have HC7 := aK H
  clear H
  go_enter Tryz.func3, Tryz.ntmps3
  go_upto_region 6 with (first | (go_at_call 4; (with_reducible refine (spec_DrawUnifyTypes.calls k _ _ l0 t101 t102 _ ?side1 ?side2 A4.out).mono ?_); (case side1 => exact sC HR0.out); (case side2 => exact HC0.out); rintro e w8 ⟨rfl, hb⟩; replace HB := qs HB hb; (try clear hb)) | (go_at_call 5; (with_reducible refine (impl_UnifyTypes.calls k t101 t102 t103 t104 _ A5.out (HE.out.below HB.out)).mono ?_); rintro e w9 ⟨v105, rfl, ho0, hb⟩; have HO106 := aK (Kd.R_lower ho0 (below_size HB.out)); replace HB := qs HB hb; (try clear hb); (try clear ho0)) | (go_at_call 6; (with_reducible refine (spec_UnifyTypes.calls k t101 t102 t107 t108 _ A6.out).mono ?_); rintro e w10 ⟨v109, rfl, ho0, hb⟩; have n0_ := aK (Kd.R_elder' HO106.out (Kd.R_base ho0) hb); have HO110 := aK (Kd.R_lower (Kd.R_new' ho0 (Kd.R_lt HO106.out)) (below_size HB.out)); clear HO106; have HO106 := n0_; clear n0_; replace HB := qs HB hb; (try clear hb); (try clear ho0)))
  repeat (go_quiet (first | (go_at_call 4; (with_reducible refine (spec_DrawUnifyTypes.calls k _ _ l0 t101 t102 _ ?side1 ?side2 A4.out).mono ?_); (case side1 => exact sC HR0.out); (case side2 => exact HC0.out); rintro e w8 ⟨rfl, hb⟩; replace HB := qs HB hb; (try clear hb)) | (go_at_call 5; (with_reducible refine (impl_UnifyTypes.calls k t101 t102 t103 t104 _ A5.out (HE.out.below HB.out)).mono ?_); rintro e w9 ⟨v105, rfl, ho0, hb⟩; have HO106 := aK (Kd.R_lower ho0 (below_size HB.out)); replace HB := qs HB hb; (try clear hb); (try clear ho0)) | (go_at_call 6; (with_reducible refine (spec_UnifyTypes.calls k t101 t102 t107 t108 _ A6.out).mono ?_); rintro e w10 ⟨v109, rfl, ho0, hb⟩; have n0_ := aK (Kd.R_elder' HO106.out (Kd.R_base ho0) hb); have HO110 := aK (Kd.R_lower (Kd.R_new' ho0 (Kd.R_lt HO106.out)) (below_size HB.out)); clear HO106; have HO106 := n0_; clear n0_; replace HB := qs HB hb; (try clear hb); (try clear ho0))); go_upto_region 6 with (first | (go_at_call 4; (with_reducible refine (spec_DrawUnifyTypes.calls k _ _ l0 t101 t102 _ ?side1 ?side2 A4.out).mono ?_); (case side1 => exact sC HR0.out); (case side2 => exact HC0.out); rintro e w8 ⟨rfl, hb⟩; replace HB := qs HB hb; (try clear hb)) | (go_at_call 5; (with_reducible refine (impl_UnifyTypes.calls k t101 t102 t103 t104 _ A5.out (HE.out.below HB.out)).mono ?_); rintro e w9 ⟨v105, rfl, ho0, hb⟩; have HO106 := aK (Kd.R_lower ho0 (below_size HB.out)); replace HB := qs HB hb; (try clear hb); (try clear ho0)) | (go_at_call 6; (with_reducible refine (spec_UnifyTypes.calls k t101 t102 t107 t108 _ A6.out).mono ?_); rintro e w10 ⟨v109, rfl, ho0, hb⟩; have n0_ := aK (Kd.R_elder' HO106.out (Kd.R_base ho0) hb); have HO110 := aK (Kd.R_lower (Kd.R_new' ho0 (Kd.R_lt HO106.out)) (below_size HB.out)); clear HO106; have HO106 := n0_; clear n0_; replace HB := qs HB hb; (try clear hb); (try clear ho0))))
  (try simp only [Act.put, List.setIfInBounds_toArray, List.set_cons_zero, List.set_cons_succ])
  go_cut [58] (fun v58 wc => ∃ (kq : Nat) (x58_6 : Bool), v58 = .bool x58_6 ∧ Aside0 (laws_FnUnified.j0 kq l1 t101 t102 t103 t104 t107 x58_6 = some r) ∧ Aside0 (kq ≤ k) ∧ Aside0 (Kd.R k29 29 wc w.heap.size (fun k_ => some k_ ≠ (v109 : Value).ownBlock) v105 t103) ∧ Aside0 (Kd.R k29 29 wc w.heap.size (fun k_ => some k_ ≠ (v105 : Value).ownBlock) v109 t107) ∧ Aside0 (Below w.heap.size w wc))
  case first =>
   have H := HC7.out
   clear HC7
   by_cases c11 : (t104 != t108) = true
   ·rw [if_pos c11] at H
    have c11b0 : (t104 != t108) = true := c11
    (try (have c11b1 : decide (t104 = t108) = false := by simpa using c11))
    (try (have c11b2 : (t104 == t108) = false := by simpa using c11))
    (try (have c11b3 : ¬ (t104 = t108) := by simpa using c11))
    clear c11
    (first | rw [c11b0] | (simp only [i64_w, i32_w]; rw [c11b0]) | skip)
    have H' := aK H
    clear H
    go_wp2
    repeat (go_quiet (fail); try go_wp2)
    go_meet
    case rel => exact ⟨_, (true), rS, H', ⟨by first | omega | exact Nat.le_refl _⟩, ⟨by (with_reducible repeat (first | apply rA | apply rN | apply rD)); exact Kd.R_mono HO106.out (fun _ hk => hk.2)⟩, ⟨by (with_reducible repeat (first | apply rA | apply rN | apply rD)); exact Kd.R_mono HO110.out (fun _ hk => hk.2)⟩, ⟨pH HB⟩⟩
   ·rw [if_neg c11] at H
    have c11b0 : (t104 != t108) = false := by simpa using c11
    (try (have c11b1 : decide (t104 = t108) = true := by simpa using c11))
    (try (have c11b2 : (t104 == t108) = true := by simpa using c11))
    clear c11
    (first | rw [c11b0] | (simp only [i64_w, i32_w]; rw [c11b0]) | skip)
    have H' := aK H
    clear H
    obtain ⟨Ao12, co12, eo12⟩ := Kd.R_slice HO106.out
    subst eo12
    obtain ⟨Ao13, co13, eo13⟩ := Kd.R_slice HO110.out
    subst eo13
    go_wp2
    repeat (go_quiet (fail); try go_wp2)
    go_meet
    case rel => exact ⟨_, (((t103.length : Int) != (t107.length : Int))), rS, H', ⟨by first | omega | exact Nat.le_refl _⟩, ⟨by (with_reducible repeat (first | apply rA | apply rN | apply rD)); exact Kd.R_mono HO106.out (fun _ hk => hk.2)⟩, ⟨by (with_reducible repeat (first | apply rA | apply rN | apply rD)); exact Kd.R_mono HO110.out (fun _ hk => hk.2)⟩, ⟨pH HB⟩⟩
  case rest =>
   clear HC7
   obtain ⟨kq, x58_6, rfl, HA, HJ6, HO_7, HO_9, HB⟩ := hcut
   cases kq with
   | zero => exact absurd HA.out (by simp [laws_FnUnified.j0])
   | succ kj6 =>
    have H := HA.out
    clear HA
    simp only [laws_FnUnified.j0] at H
    by_cases c14 : x58_6 = true
    ·subst c14
     rw [if_pos rfl] at H
     obtain rfl := Option.some.inj H
     go_wp2
     repeat (go_quiet (fail); try go_wp2)
     go_ret
     exact ⟨eW, pH HB⟩
    ·replace c14 := Bool.eq_false_iff.mpr c14
     subst c14
     rw [if_neg (show ¬ (false = true) by decide)] at H
     have H' := aK H
     clear H
     obtain ⟨Ao15, co15, eo15⟩ := Kd.R_slice HO_7.out
     subst eo15
     go_wp2
     repeat (go_quiet (fail); try go_wp2)
     go_loopg [61] kj6 (fun kq v61 w' => ∃ (x61_2 : Int), v61 = .int .i64 x61_2 ∧ Aside0 (laws_FnUnified.l0 kq l1 t101 t102 t103 t104 t107 (t103.length : Int) x61_2 = some r) ∧ Aside0 (kq ≤ kj6) ∧ Aside0 (Kd.R k29 29 w' w.heap.size (fun k_ => some k_ ≠ (v109 : Value).ownBlock) (.slice Ao15 t103.length co15) t103) ∧ Aside0 (Kd.R k29 29 w' w.heap.size (fun k_ => some k_ ≠ ((.slice Ao15 t103.length co15) : Value).ownBlock) v109 t107) ∧ Aside0 (Below w.heap.size w w'))
     case atStart => exact ⟨(0), rS, H', ⟨Nat.le_refl _⟩, ⟨by (with_reducible repeat (first | apply rA | apply rN | apply rD)); exact HO_7.out⟩, ⟨by (with_reducible repeat (first | apply rA | apply rN | apply rD)); exact HO_9.out⟩, ⟨pH HB⟩⟩
     case round =>
      clear H'
      obtain ⟨x61_2, rfl, HA, HK2, HO_7, HO_9, HB⟩ := hrel
      cases gk with
      | zero => exact absurd HA.out (by simp [laws_FnUnified.l0])
      | succ k2 =>
       have H := HA.out
       clear HA
       simp only [laws_FnUnified.l0] at H
       by_cases c16 : x61_2 < (t103.length : Int)
       ·rw [if_pos c16] at H
        have c16b0 : decide (x61_2 < (t103.length : Int)) = true := decide_eq_true c16
        clear c16
        by_cases c17 : 0 ≤ x61_2
        ·rw [if_pos c17] at H
         have c17b0 : decide (0 ≤ x61_2) = true := decide_eq_true c17
         clear c17
         by_cases c18 : x61_2 < (t103.length : Int)
         ·rw [if_pos c18] at H
          have c18b0 : decide (x61_2 < (t103.length : Int)) = true := decide_eq_true c18
          clear c18
          by_cases c19 : x61_2 < (t107.length : Int)
          ·rw [if_pos c19] at H
           have c19b0 : decide (x61_2 < (t107.length : Int)) = true := decide_eq_true c19
           clear c19
           by_cases c20 : (!(((rd_T29 t103 x61_2).f0) == ((rd_T29 t107 x61_2).f0)) || (!((((rd_T29 t103 x61_2).f1).toList) == (((rd_T29 t107 x61_2).f1).toList)))) = true
           ·rw [if_pos c20] at H
            have c20b0 : (!(((rd_T29 t103 x61_2).f0) == ((rd_T29 t107 x61_2).f0)) || (!((((rd_T29 t103 x61_2).f1).toList) == (((rd_T29 t107 x61_2).f1).toList)))) = true := c20
            clear c20
            obtain rfl := Option.some.inj H
            have p111 : 0 ≤ (x61_2 : Int) := dA
            have q111 : x61_2 < (t103.length : Int) := dA
            obtain ⟨ad111, e111, hx111_0, hx111_1⟩ := at_T29 (Kd.R_reads' HO_7.out).2.2 x61_2 p111 q111
            cases e111
            replace p111 := eq_true p111
            replace q111 := eq_true q111
            obtain ⟨Ao21, co21, eo21⟩ := Kd.R_slice HO_9.out
            subst eo21
            have p112 : 0 ≤ (x61_2 : Int) := dA
            have q112 : x61_2 < (t107.length : Int) := dA
            obtain ⟨ad112, e112, hx112_0, hx112_1⟩ := at_T29 (Kd.R_reads' HO_9.out).2.2 x61_2 p112 q112
            cases e112
            replace p112 := eq_true p112
            replace q112 := eq_true q112
            go_wp2
            repeat (go_quiet (fail); try go_wp2)
            go_ret
            exact ⟨eW, pH HB⟩
           ·rw [if_neg c20] at H
            have c20b0 : (!(((rd_T29 t103 x61_2).f0) == ((rd_T29 t107 x61_2).f0)) || (!((((rd_T29 t103 x61_2).f1).toList) == (((rd_T29 t107 x61_2).f1).toList)))) = false := by simpa using c20
            clear c20
            have H' := aK H
            clear H
            have p111 : 0 ≤ (x61_2 : Int) := dA
            have q111 : x61_2 < (t103.length : Int) := dA
            obtain ⟨ad111, e111, hx111_0, hx111_1⟩ := at_T29 (Kd.R_reads' HO_7.out).2.2 x61_2 p111 q111
            cases e111
            replace p111 := eq_true p111
            replace q111 := eq_true q111
            obtain ⟨Ao22, co22, eo22⟩ := Kd.R_slice HO_9.out
            subst eo22
            have p112 : 0 ≤ (x61_2 : Int) := dA
            have q112 : x61_2 < (t107.length : Int) := dA
            obtain ⟨ad112, e112, hx112_0, hx112_1⟩ := at_T29 (Kd.R_reads' HO_9.out).2.2 x61_2 p112 q112
            cases e112
            replace p112 := eq_true p112
            replace q112 := eq_true q112
            go_wp2
            repeat (go_quiet (fail); try go_wp2)
            go_roundg k2
            case measure => have := HJ6.out; have := HK2.out; omega
            case rel => exact ⟨(wrap64 (x61_2 + 1)), rS, H', ⟨by have := HJ6.out; have := HK2.out; omega⟩, ⟨by (with_reducible repeat (first | apply rA | apply rN | apply rD)); exact HO_7.out⟩, ⟨by (with_reducible repeat (first | apply rA | apply rN | apply rD)); exact HO_9.out⟩, ⟨pH HB⟩⟩
          ·rw [if_neg c19] at H
           exact absurd H (by simp)
         ·rw [if_neg c18] at H
          exact absurd H (by simp)
        ·rw [if_neg c17] at H
         exact absurd H (by simp)
       ·rw [if_neg c16] at H
        have c16b0 : decide (x61_2 < (t103.length : Int)) = false := decide_eq_false c16
        clear c16
        have HC23 := aK H
        clear H
        go_upto_if 74 with (fail)
        repeat (go_quiet (fail); go_upto_if 74 with (fail))
        go_cut [] (fun wc => ∃ (kq : Nat), Aside0 (laws_FnUnified.j2 kq l1 t101 t102 t103 t104 = some r) ∧ Aside0 (kq ≤ k2) ∧ Aside0 (Kd.R k29 29 wc w.heap.size (fun _ => True) (.slice Ao15 t103.length co15) t103) ∧ Aside0 (Below w.heap.size w wc))
        case first =>
         have H := HC23.out
         clear HC23
         by_cases c24 : t104 = true
         ·subst c24
          rw [if_pos rfl] at H
          obtain ⟨⟨t113, t114⟩, A25, H⟩ := oB H
          try dsimp only at H
          obtain ⟨⟨t115, t116⟩, A26, H⟩ := oB H
          try dsimp only at H
          by_cases c27 : (t114 != t116) = true
          ·rw [if_pos c27] at H
           have c27b0 : (t114 != t116) = true := c27
           (try (have c27b1 : decide (t114 = t116) = false := by simpa using c27))
           (try (have c27b2 : (t114 == t116) = false := by simpa using c27))
           (try (have c27b3 : ¬ (t114 = t116) := by simpa using c27))
           clear c27
           (first | rw [c27b0] | (simp only [i64_w, i32_w]; rw [c27b0]) | skip)
           obtain rfl := Option.some.inj H
           go_wp2_with (first | (go_at_call 7; (with_reducible refine (impl_ApplyType.calls k2 _ _ t103 t101 t113 t114 _ ?side1 ?side2 A25.out (HE.out.below HB.out)).mono ?_); (case side1 => exact sC ((Kd.R_reads' HO_7.out).2.2)); (case side2 => exact (Kd.R_reads' HO_7.out).2.1); rintro e w28 ⟨rfl, hb⟩; have n0_ := aK (Kd.R_below HO_7.out hb); have n1_ := aK (Kd.R_below HO_9.out hb); clear HO_7; have HO_7 := n0_; clear n0_; clear HO_9; have HO_9 := n1_; clear n1_; replace HB := qs HB hb; (try clear hb)) | (go_at_call 7; (with_reducible refine (impl_ApplyType.calls k2 _ _ t103 t102 t115 t116 _ ?side1 ?side2 A26.out (HE.out.below HB.out)).mono ?_); (case side1 => exact sC ((Kd.R_reads' HO_7.out).2.2)); (case side2 => exact (Kd.R_reads' HO_7.out).2.1); rintro e w29 ⟨rfl, hb⟩; have n0_ := aK (Kd.R_below HO_7.out hb); have n1_ := aK (Kd.R_below HO_9.out hb); clear HO_7; have HO_7 := n0_; clear n0_; clear HO_9; have HO_9 := n1_; clear n1_; replace HB := qs HB hb; (try clear hb)))
           repeat (go_quiet (first | (go_at_call 7; (with_reducible refine (impl_ApplyType.calls k2 _ _ t103 t101 t113 t114 _ ?side1 ?side2 A25.out (HE.out.below HB.out)).mono ?_); (case side1 => exact sC ((Kd.R_reads' HO_7.out).2.2)); (case side2 => exact (Kd.R_reads' HO_7.out).2.1); rintro e w28 ⟨rfl, hb⟩; have n0_ := aK (Kd.R_below HO_7.out hb); have n1_ := aK (Kd.R_below HO_9.out hb); clear HO_7; have HO_7 := n0_; clear n0_; clear HO_9; have HO_9 := n1_; clear n1_; replace HB := qs HB hb; (try clear hb)) | (go_at_call 7; (with_reducible refine (impl_ApplyType.calls k2 _ _ t103 t102 t115 t116 _ ?side1 ?side2 A26.out (HE.out.below HB.out)).mono ?_); (case side1 => exact sC ((Kd.R_reads' HO_7.out).2.2)); (case side2 => exact (Kd.R_reads' HO_7.out).2.1); rintro e w29 ⟨rfl, hb⟩; have n0_ := aK (Kd.R_below HO_7.out hb); have n1_ := aK (Kd.R_below HO_9.out hb); clear HO_7; have HO_7 := n0_; clear n0_; clear HO_9; have HO_9 := n1_; clear n1_; replace HB := qs HB hb; (try clear hb))); try go_wp2_with (first | (go_at_call 7; (with_reducible refine (impl_ApplyType.calls k2 _ _ t103 t101 t113 t114 _ ?side1 ?side2 A25.out (HE.out.below HB.out)).mono ?_); (case side1 => exact sC ((Kd.R_reads' HO_7.out).2.2)); (case side2 => exact (Kd.R_reads' HO_7.out).2.1); rintro e w28 ⟨rfl, hb⟩; have n0_ := aK (Kd.R_below HO_7.out hb); have n1_ := aK (Kd.R_below HO_9.out hb); clear HO_7; have HO_7 := n0_; clear n0_; clear HO_9; have HO_9 := n1_; clear n1_; replace HB := qs HB hb; (try clear hb)) | (go_at_call 7; (with_reducible refine (impl_ApplyType.calls k2 _ _ t103 t102 t115 t116 _ ?side1 ?side2 A26.out (HE.out.below HB.out)).mono ?_); (case side1 => exact sC ((Kd.R_reads' HO_7.out).2.2)); (case side2 => exact (Kd.R_reads' HO_7.out).2.1); rintro e w29 ⟨rfl, hb⟩; have n0_ := aK (Kd.R_below HO_7.out hb); have n1_ := aK (Kd.R_below HO_9.out hb); clear HO_7; have HO_7 := n0_; clear n0_; clear HO_9; have HO_9 := n1_; clear n1_; replace HB := qs HB hb; (try clear hb))))
           go_ret
           exact ⟨eW, pH HB⟩
          ·rw [if_neg c27] at H
           have c27b0 : (t114 != t116) = false := by simpa using c27
           (try (have c27b1 : decide (t114 = t116) = true := by simpa using c27))
           (try (have c27b2 : (t114 == t116) = true := by simpa using c27))
           clear c27
           (first | rw [c27b0] | (simp only [i64_w, i32_w]; rw [c27b0]) | skip)
           by_cases c30 : t113.toList = t115.toList
           ·rw [if_pos c30] at H
            have c30b0 : (t113.toList == t115.toList) = true := beq_iff_eq.mpr c30
            have c30b1 : (t113.toList != t115.toList) = false := bne_eq_false_iff_eq.mpr c30
            clear c30
            have H' := aK H
            clear H
            go_wp2_with (first | (go_at_call 7; (with_reducible refine (impl_ApplyType.calls k2 _ _ t103 t101 t113 t114 _ ?side1 ?side2 A25.out (HE.out.below HB.out)).mono ?_); (case side1 => exact sC ((Kd.R_reads' HO_7.out).2.2)); (case side2 => exact (Kd.R_reads' HO_7.out).2.1); rintro e w31 ⟨rfl, hb⟩; have n0_ := aK (Kd.R_below HO_7.out hb); have n1_ := aK (Kd.R_below HO_9.out hb); clear HO_7; have HO_7 := n0_; clear n0_; clear HO_9; have HO_9 := n1_; clear n1_; replace HB := qs HB hb; (try clear hb)) | (go_at_call 7; (with_reducible refine (impl_ApplyType.calls k2 _ _ t103 t102 t115 t116 _ ?side1 ?side2 A26.out (HE.out.below HB.out)).mono ?_); (case side1 => exact sC ((Kd.R_reads' HO_7.out).2.2)); (case side2 => exact (Kd.R_reads' HO_7.out).2.1); rintro e w32 ⟨rfl, hb⟩; have n0_ := aK (Kd.R_below HO_7.out hb); have n1_ := aK (Kd.R_below HO_9.out hb); clear HO_7; have HO_7 := n0_; clear n0_; clear HO_9; have HO_9 := n1_; clear n1_; replace HB := qs HB hb; (try clear hb)))
            repeat (go_quiet (first | (go_at_call 7; (with_reducible refine (impl_ApplyType.calls k2 _ _ t103 t101 t113 t114 _ ?side1 ?side2 A25.out (HE.out.below HB.out)).mono ?_); (case side1 => exact sC ((Kd.R_reads' HO_7.out).2.2)); (case side2 => exact (Kd.R_reads' HO_7.out).2.1); rintro e w31 ⟨rfl, hb⟩; have n0_ := aK (Kd.R_below HO_7.out hb); have n1_ := aK (Kd.R_below HO_9.out hb); clear HO_7; have HO_7 := n0_; clear n0_; clear HO_9; have HO_9 := n1_; clear n1_; replace HB := qs HB hb; (try clear hb)) | (go_at_call 7; (with_reducible refine (impl_ApplyType.calls k2 _ _ t103 t102 t115 t116 _ ?side1 ?side2 A26.out (HE.out.below HB.out)).mono ?_); (case side1 => exact sC ((Kd.R_reads' HO_7.out).2.2)); (case side2 => exact (Kd.R_reads' HO_7.out).2.1); rintro e w32 ⟨rfl, hb⟩; have n0_ := aK (Kd.R_below HO_7.out hb); have n1_ := aK (Kd.R_below HO_9.out hb); clear HO_7; have HO_7 := n0_; clear n0_; clear HO_9; have HO_9 := n1_; clear n1_; replace HB := qs HB hb; (try clear hb))); try go_wp2_with (first | (go_at_call 7; (with_reducible refine (impl_ApplyType.calls k2 _ _ t103 t101 t113 t114 _ ?side1 ?side2 A25.out (HE.out.below HB.out)).mono ?_); (case side1 => exact sC ((Kd.R_reads' HO_7.out).2.2)); (case side2 => exact (Kd.R_reads' HO_7.out).2.1); rintro e w31 ⟨rfl, hb⟩; have n0_ := aK (Kd.R_below HO_7.out hb); have n1_ := aK (Kd.R_below HO_9.out hb); clear HO_7; have HO_7 := n0_; clear n0_; clear HO_9; have HO_9 := n1_; clear n1_; replace HB := qs HB hb; (try clear hb)) | (go_at_call 7; (with_reducible refine (impl_ApplyType.calls k2 _ _ t103 t102 t115 t116 _ ?side1 ?side2 A26.out (HE.out.below HB.out)).mono ?_); (case side1 => exact sC ((Kd.R_reads' HO_7.out).2.2)); (case side2 => exact (Kd.R_reads' HO_7.out).2.1); rintro e w32 ⟨rfl, hb⟩; have n0_ := aK (Kd.R_below HO_7.out hb); have n1_ := aK (Kd.R_below HO_9.out hb); clear HO_7; have HO_7 := n0_; clear n0_; clear HO_9; have HO_9 := n1_; clear n1_; replace HB := qs HB hb; (try clear hb))))
            go_meet
            case rel => exact ⟨_, H', ⟨by have := HJ6.out; have := HK2.out; first | omega | exact Nat.le_refl _⟩, ⟨by (with_reducible repeat (first | apply rA | apply rN | apply rD)); exact Kd.R_mono HO_7.out (fun _ hk => trivial)⟩, ⟨pH HB⟩⟩
           ·rw [if_neg c30] at H
            have c30b0 : (t113.toList == t115.toList) = false := beq_eq_false_iff_ne.mpr c30
            have c30b1 : (t113.toList != t115.toList) = true := bne_iff_ne.mpr c30
            obtain rfl := Option.some.inj H
            go_wp2_with (first | (go_at_call 7; (with_reducible refine (impl_ApplyType.calls k2 _ _ t103 t101 t113 t114 _ ?side1 ?side2 A25.out (HE.out.below HB.out)).mono ?_); (case side1 => exact sC ((Kd.R_reads' HO_7.out).2.2)); (case side2 => exact (Kd.R_reads' HO_7.out).2.1); rintro e w33 ⟨rfl, hb⟩; have n0_ := aK (Kd.R_below HO_7.out hb); have n1_ := aK (Kd.R_below HO_9.out hb); clear HO_7; have HO_7 := n0_; clear n0_; clear HO_9; have HO_9 := n1_; clear n1_; replace HB := qs HB hb; (try clear hb)) | (go_at_call 7; (with_reducible refine (impl_ApplyType.calls k2 _ _ t103 t102 t115 t116 _ ?side1 ?side2 A26.out (HE.out.below HB.out)).mono ?_); (case side1 => exact sC ((Kd.R_reads' HO_7.out).2.2)); (case side2 => exact (Kd.R_reads' HO_7.out).2.1); rintro e w34 ⟨rfl, hb⟩; have n0_ := aK (Kd.R_below HO_7.out hb); have n1_ := aK (Kd.R_below HO_9.out hb); clear HO_7; have HO_7 := n0_; clear n0_; clear HO_9; have HO_9 := n1_; clear n1_; replace HB := qs HB hb; (try clear hb)))
            repeat (go_quiet (first | (go_at_call 7; (with_reducible refine (impl_ApplyType.calls k2 _ _ t103 t101 t113 t114 _ ?side1 ?side2 A25.out (HE.out.below HB.out)).mono ?_); (case side1 => exact sC ((Kd.R_reads' HO_7.out).2.2)); (case side2 => exact (Kd.R_reads' HO_7.out).2.1); rintro e w33 ⟨rfl, hb⟩; have n0_ := aK (Kd.R_below HO_7.out hb); have n1_ := aK (Kd.R_below HO_9.out hb); clear HO_7; have HO_7 := n0_; clear n0_; clear HO_9; have HO_9 := n1_; clear n1_; replace HB := qs HB hb; (try clear hb)) | (go_at_call 7; (with_reducible refine (impl_ApplyType.calls k2 _ _ t103 t102 t115 t116 _ ?side1 ?side2 A26.out (HE.out.below HB.out)).mono ?_); (case side1 => exact sC ((Kd.R_reads' HO_7.out).2.2)); (case side2 => exact (Kd.R_reads' HO_7.out).2.1); rintro e w34 ⟨rfl, hb⟩; have n0_ := aK (Kd.R_below HO_7.out hb); have n1_ := aK (Kd.R_below HO_9.out hb); clear HO_7; have HO_7 := n0_; clear n0_; clear HO_9; have HO_9 := n1_; clear n1_; replace HB := qs HB hb; (try clear hb))); try go_wp2_with (first | (go_at_call 7; (with_reducible refine (impl_ApplyType.calls k2 _ _ t103 t101 t113 t114 _ ?side1 ?side2 A25.out (HE.out.below HB.out)).mono ?_); (case side1 => exact sC ((Kd.R_reads' HO_7.out).2.2)); (case side2 => exact (Kd.R_reads' HO_7.out).2.1); rintro e w33 ⟨rfl, hb⟩; have n0_ := aK (Kd.R_below HO_7.out hb); have n1_ := aK (Kd.R_below HO_9.out hb); clear HO_7; have HO_7 := n0_; clear n0_; clear HO_9; have HO_9 := n1_; clear n1_; replace HB := qs HB hb; (try clear hb)) | (go_at_call 7; (with_reducible refine (impl_ApplyType.calls k2 _ _ t103 t102 t115 t116 _ ?side1 ?side2 A26.out (HE.out.below HB.out)).mono ?_); (case side1 => exact sC ((Kd.R_reads' HO_7.out).2.2)); (case side2 => exact (Kd.R_reads' HO_7.out).2.1); rintro e w34 ⟨rfl, hb⟩; have n0_ := aK (Kd.R_below HO_7.out hb); have n1_ := aK (Kd.R_below HO_9.out hb); clear HO_7; have HO_7 := n0_; clear n0_; clear HO_9; have HO_9 := n1_; clear n1_; replace HB := qs HB hb; (try clear hb))))
            go_ret
            exact ⟨eW, pH HB⟩
         ·replace c24 := Bool.eq_false_iff.mpr c24
          subst c24
          rw [if_neg (show ¬ (false = true) by decide)] at H
          have H' := aK H
          clear H
          go_wp2
          repeat (go_quiet (fail); try go_wp2)
          go_meet
          case rel => exact ⟨_, H', ⟨by have := HJ6.out; have := HK2.out; first | omega | exact Nat.le_refl _⟩, ⟨by (with_reducible repeat (first | apply rA | apply rN | apply rD)); exact Kd.R_mono HO_7.out (fun _ hk => trivial)⟩, ⟨pH HB⟩⟩
        case rest =>
         clear HC23
         obtain ⟨kq, HA, HJ22, HO_7, HB⟩ := hcut
         cases kq with
         | zero => exact absurd HA.out (by simp [laws_FnUnified.j2])
         | succ kj22 =>
          have H := HA.out
          clear HA
          simp only [laws_FnUnified.j2] at H
          obtain ⟨⟨t117, t118⟩, A35, H⟩ := oB H
          try dsimp only at H
          obtain ⟨⟨t121, t122⟩, A36, H⟩ := oB H
          try dsimp only at H
          obtain ⟨⟨t123, t124⟩, A37, H⟩ := oB H
          try dsimp only at H
          have HC38 := aK H
          clear H
          go_upto_region 22 with (first | (go_at_call 8; (with_reducible refine (spec_DrawApplyType.calls kj22 _ _ l1 t117 t118 _ ?side1 ?side2 A35.out).mono ?_); (case side1 => exact sC (Kd.C_below HR1.out HB.out)); (case side2 => exact HC1.out); rintro e w39 ⟨v119, rfl, ho0, hb⟩; have n0_ := aK (Kd.R_elder' HO_7.out (Kd.R_base ho0) hb); have HO120 := aK (Kd.R_lower (Kd.R_new' ho0 (Kd.R_lt HO_7.out)) (below_size HB.out)); clear HO_7; have HO_7 := n0_; clear n0_; replace HB := qs HB hb; (try clear hb); (try clear ho0); obtain ⟨Ao40, co40, eo40⟩ := Kd.R_slice HO120.out; subst eo40) | (go_at_call 9; (with_reducible refine (spec_ApplyType.calls kj22 _ _ t117 t101 t121 t122 _ ?side1 ?side2 A36.out).mono ?_); (case side1 => exact sC ((Kd.R_reads' HO120.out).2.2)); (case side2 => exact (Kd.R_reads' HO120.out).2.1); rintro e w41 ⟨rfl, hb⟩; have n0_ := aK (Kd.R_below HO_7.out hb); have n1_ := aK (Kd.R_below HO120.out hb); clear HO_7; have HO_7 := n0_; clear n0_; clear HO120; have HO120 := n1_; clear n1_; replace HB := qs HB hb; (try clear hb)) | (go_at_call 9; (with_reducible refine (spec_ApplyType.calls kj22 _ _ t117 t102 t123 t124 _ ?side1 ?side2 A37.out).mono ?_); (case side1 => exact sC ((Kd.R_reads' HO120.out).2.2)); (case side2 => exact (Kd.R_reads' HO120.out).2.1); rintro e w42 ⟨rfl, hb⟩; have n0_ := aK (Kd.R_below HO_7.out hb); have n1_ := aK (Kd.R_below HO120.out hb); clear HO_7; have HO_7 := n0_; clear n0_; clear HO120; have HO120 := n1_; clear n1_; replace HB := qs HB hb; (try clear hb)))
          repeat (go_quiet (first | (go_at_call 8; (with_reducible refine (spec_DrawApplyType.calls kj22 _ _ l1 t117 t118 _ ?side1 ?side2 A35.out).mono ?_); (case side1 => exact sC (Kd.C_below HR1.out HB.out)); (case side2 => exact HC1.out); rintro e w39 ⟨v119, rfl, ho0, hb⟩; have n0_ := aK (Kd.R_elder' HO_7.out (Kd.R_base ho0) hb); have HO120 := aK (Kd.R_lower (Kd.R_new' ho0 (Kd.R_lt HO_7.out)) (below_size HB.out)); clear HO_7; have HO_7 := n0_; clear n0_; replace HB := qs HB hb; (try clear hb); (try clear ho0); obtain ⟨Ao40, co40, eo40⟩ := Kd.R_slice HO120.out; subst eo40) | (go_at_call 9; (with_reducible refine (spec_ApplyType.calls kj22 _ _ t117 t101 t121 t122 _ ?side1 ?side2 A36.out).mono ?_); (case side1 => exact sC ((Kd.R_reads' HO120.out).2.2)); (case side2 => exact (Kd.R_reads' HO120.out).2.1); rintro e w41 ⟨rfl, hb⟩; have n0_ := aK (Kd.R_below HO_7.out hb); have n1_ := aK (Kd.R_below HO120.out hb); clear HO_7; have HO_7 := n0_; clear n0_; clear HO120; have HO120 := n1_; clear n1_; replace HB := qs HB hb; (try clear hb)) | (go_at_call 9; (with_reducible refine (spec_ApplyType.calls kj22 _ _ t117 t102 t123 t124 _ ?side1 ?side2 A37.out).mono ?_); (case side1 => exact sC ((Kd.R_reads' HO120.out).2.2)); (case side2 => exact (Kd.R_reads' HO120.out).2.1); rintro e w42 ⟨rfl, hb⟩; have n0_ := aK (Kd.R_below HO_7.out hb); have n1_ := aK (Kd.R_below HO120.out hb); clear HO_7; have HO_7 := n0_; clear n0_; clear HO120; have HO120 := n1_; clear n1_; replace HB := qs HB hb; (try clear hb))); go_upto_region 22 with (first | (go_at_call 8; (with_reducible refine (spec_DrawApplyType.calls kj22 _ _ l1 t117 t118 _ ?side1 ?side2 A35.out).mono ?_); (case side1 => exact sC (Kd.C_below HR1.out HB.out)); (case side2 => exact HC1.out); rintro e w39 ⟨v119, rfl, ho0, hb⟩; have n0_ := aK (Kd.R_elder' HO_7.out (Kd.R_base ho0) hb); have HO120 := aK (Kd.R_lower (Kd.R_new' ho0 (Kd.R_lt HO_7.out)) (below_size HB.out)); clear HO_7; have HO_7 := n0_; clear n0_; replace HB := qs HB hb; (try clear hb); (try clear ho0); obtain ⟨Ao40, co40, eo40⟩ := Kd.R_slice HO120.out; subst eo40) | (go_at_call 9; (with_reducible refine (spec_ApplyType.calls kj22 _ _ t117 t101 t121 t122 _ ?side1 ?side2 A36.out).mono ?_); (case side1 => exact sC ((Kd.R_reads' HO120.out).2.2)); (case side2 => exact (Kd.R_reads' HO120.out).2.1); rintro e w41 ⟨rfl, hb⟩; have n0_ := aK (Kd.R_below HO_7.out hb); have n1_ := aK (Kd.R_below HO120.out hb); clear HO_7; have HO_7 := n0_; clear n0_; clear HO120; have HO120 := n1_; clear n1_; replace HB := qs HB hb; (try clear hb)) | (go_at_call 9; (with_reducible refine (spec_ApplyType.calls kj22 _ _ t117 t102 t123 t124 _ ?side1 ?side2 A37.out).mono ?_); (case side1 => exact sC ((Kd.R_reads' HO120.out).2.2)); (case side2 => exact (Kd.R_reads' HO120.out).2.1); rintro e w42 ⟨rfl, hb⟩; have n0_ := aK (Kd.R_below HO_7.out hb); have n1_ := aK (Kd.R_below HO120.out hb); clear HO_7; have HO_7 := n0_; clear n0_; clear HO120; have HO120 := n1_; clear n1_; replace HB := qs HB hb; (try clear hb))))
          (try simp only [Act.put, List.setIfInBounds_toArray, List.set_cons_zero, List.set_cons_succ])
          go_cut [122] (fun v122 wc => ∃ (kq : Nat) (x122_37 : Bool), v122 = .bool x122_37 ∧ Aside0 (laws_FnUnified.j3 kq t101 t103 t104 t121 x122_37 = some r) ∧ Aside0 (kq ≤ kj22) ∧ Aside0 (Kd.R k29 29 wc w.heap.size (fun _ => True) (.slice Ao15 t103.length co15) t103) ∧ Aside0 (Below w.heap.size w wc))
          case first =>
           have H := HC38.out
           clear HC38
           by_cases c43 : t122 = true
           ·subst c43
            rw [if_pos rfl] at H
            by_cases c44 : t124 = true
            ·subst c44
             rw [if_pos rfl] at H
             have H' := aK H
             clear H
             go_wp2
             repeat (go_quiet (fail); try go_wp2)
             go_meet
             case rel => exact ⟨_, ((t121.toList != t123.toList)), rS, H', ⟨by have := HJ6.out; have := HK2.out; have := HJ22.out; first | omega | exact Nat.le_refl _⟩, ⟨by (with_reducible repeat (first | apply rA | apply rN | apply rD)); exact Kd.R_mono HO_7.out (fun _ hk => trivial)⟩, ⟨pH HB⟩⟩
            ·replace c44 := Bool.eq_false_iff.mpr c44
             subst c44
             rw [if_neg (show ¬ (false = true) by decide)] at H
             have H' := aK H
             clear H
             go_wp2
             repeat (go_quiet (fail); try go_wp2)
             go_meet
             case rel => exact ⟨_, (true), rS, H', ⟨by have := HJ6.out; have := HK2.out; have := HJ22.out; first | omega | exact Nat.le_refl _⟩, ⟨by (with_reducible repeat (first | apply rA | apply rN | apply rD)); exact Kd.R_mono HO_7.out (fun _ hk => trivial)⟩, ⟨pH HB⟩⟩
           ·replace c43 := Bool.eq_false_iff.mpr c43
            subst c43
            rw [if_neg (show ¬ (false = true) by decide)] at H
            have H' := aK H
            clear H
            go_wp2
            repeat (go_quiet (fail); try go_wp2)
            go_meet
            case rel => exact ⟨_, (true), rS, H', ⟨by have := HJ6.out; have := HK2.out; have := HJ22.out; first | omega | exact Nat.le_refl _⟩, ⟨by (with_reducible repeat (first | apply rA | apply rN | apply rD)); exact Kd.R_mono HO_7.out (fun _ hk => trivial)⟩, ⟨pH HB⟩⟩
          case rest =>
           clear HC38
           obtain ⟨kq, x122_37, rfl, HA, HJ37, HO_7, HB⟩ := hcut
           cases kq with
           | zero => exact absurd HA.out (by simp [laws_FnUnified.j3])
           | succ kj37 =>
            have H := HA.out
            clear HA
            simp only [laws_FnUnified.j3] at H
            by_cases c45 : x122_37 = true
            ·subst c45
             rw [if_pos rfl] at H
             obtain rfl := Option.some.inj H
             go_wp2
             repeat (go_quiet (fail); try go_wp2)
             go_ret
             exact ⟨eW, pH HB⟩
            ·replace c45 := Bool.eq_false_iff.mpr c45
             subst c45
             rw [if_neg (show ¬ (false = true) by decide)] at H
             by_cases c46 : t104 = true
             ·subst c46
              rw [if_pos rfl] at H
              obtain ⟨⟨t125, t126⟩, A47, H⟩ := oB H
              try dsimp only at H
              obtain ⟨⟨t127, t128⟩, A48, H⟩ := oB H
              try dsimp only at H
              by_cases c49 : t126 = true
              ·subst c49
               rw [if_pos rfl] at H
               by_cases c50 : t128 = true
               ·subst c50
                rw [if_pos rfl] at H
                obtain rfl := Option.some.inj H
                go_wp2_with (first | (go_at_call 7; (with_reducible refine (impl_ApplyType.calls kj37 _ _ t103 t101 t125 true _ ?side1 ?side2 A47.out (HE.out.below HB.out)).mono ?_); (case side1 => exact sC ((Kd.R_reads' HO_7.out).2.2)); (case side2 => exact (Kd.R_reads' HO_7.out).2.1); rintro e w51 ⟨rfl, hb⟩; have n0_ := aK (Kd.R_below HO_7.out hb); clear HO_7; have HO_7 := n0_; clear n0_; replace HB := qs HB hb; (try clear hb)) | (go_at_call 10; (with_reducible refine (impl_InstanceOf.calls kj37 t125 t121 t127 true _ A48.out (HE.out.below HB.out)).mono ?_); rintro e w52 ⟨rfl, hb⟩; have n0_ := aK (Kd.R_below HO_7.out hb); clear HO_7; have HO_7 := n0_; clear n0_; replace HB := qs HB hb; (try clear hb)))
                repeat (go_quiet (first | (go_at_call 7; (with_reducible refine (impl_ApplyType.calls kj37 _ _ t103 t101 t125 true _ ?side1 ?side2 A47.out (HE.out.below HB.out)).mono ?_); (case side1 => exact sC ((Kd.R_reads' HO_7.out).2.2)); (case side2 => exact (Kd.R_reads' HO_7.out).2.1); rintro e w51 ⟨rfl, hb⟩; have n0_ := aK (Kd.R_below HO_7.out hb); clear HO_7; have HO_7 := n0_; clear n0_; replace HB := qs HB hb; (try clear hb)) | (go_at_call 10; (with_reducible refine (impl_InstanceOf.calls kj37 t125 t121 t127 true _ A48.out (HE.out.below HB.out)).mono ?_); rintro e w52 ⟨rfl, hb⟩; have n0_ := aK (Kd.R_below HO_7.out hb); clear HO_7; have HO_7 := n0_; clear n0_; replace HB := qs HB hb; (try clear hb))); try go_wp2_with (first | (go_at_call 7; (with_reducible refine (impl_ApplyType.calls kj37 _ _ t103 t101 t125 true _ ?side1 ?side2 A47.out (HE.out.below HB.out)).mono ?_); (case side1 => exact sC ((Kd.R_reads' HO_7.out).2.2)); (case side2 => exact (Kd.R_reads' HO_7.out).2.1); rintro e w51 ⟨rfl, hb⟩; have n0_ := aK (Kd.R_below HO_7.out hb); clear HO_7; have HO_7 := n0_; clear n0_; replace HB := qs HB hb; (try clear hb)) | (go_at_call 10; (with_reducible refine (impl_InstanceOf.calls kj37 t125 t121 t127 true _ A48.out (HE.out.below HB.out)).mono ?_); rintro e w52 ⟨rfl, hb⟩; have n0_ := aK (Kd.R_below HO_7.out hb); clear HO_7; have HO_7 := n0_; clear n0_; replace HB := qs HB hb; (try clear hb))))
                go_ret
                exact ⟨eW, pH HB⟩
               ·replace c50 := Bool.eq_false_iff.mpr c50
                subst c50
                rw [if_neg (show ¬ (false = true) by decide)] at H
                obtain rfl := Option.some.inj H
                go_wp2_with (first | (go_at_call 7; (with_reducible refine (impl_ApplyType.calls kj37 _ _ t103 t101 t125 true _ ?side1 ?side2 A47.out (HE.out.below HB.out)).mono ?_); (case side1 => exact sC ((Kd.R_reads' HO_7.out).2.2)); (case side2 => exact (Kd.R_reads' HO_7.out).2.1); rintro e w53 ⟨rfl, hb⟩; have n0_ := aK (Kd.R_below HO_7.out hb); clear HO_7; have HO_7 := n0_; clear n0_; replace HB := qs HB hb; (try clear hb)) | (go_at_call 10; (with_reducible refine (impl_InstanceOf.calls kj37 t125 t121 t127 false _ A48.out (HE.out.below HB.out)).mono ?_); rintro e w54 ⟨rfl, hb⟩; have n0_ := aK (Kd.R_below HO_7.out hb); clear HO_7; have HO_7 := n0_; clear n0_; replace HB := qs HB hb; (try clear hb)))
                repeat (go_quiet (first | (go_at_call 7; (with_reducible refine (impl_ApplyType.calls kj37 _ _ t103 t101 t125 true _ ?side1 ?side2 A47.out (HE.out.below HB.out)).mono ?_); (case side1 => exact sC ((Kd.R_reads' HO_7.out).2.2)); (case side2 => exact (Kd.R_reads' HO_7.out).2.1); rintro e w53 ⟨rfl, hb⟩; have n0_ := aK (Kd.R_below HO_7.out hb); clear HO_7; have HO_7 := n0_; clear n0_; replace HB := qs HB hb; (try clear hb)) | (go_at_call 10; (with_reducible refine (impl_InstanceOf.calls kj37 t125 t121 t127 false _ A48.out (HE.out.below HB.out)).mono ?_); rintro e w54 ⟨rfl, hb⟩; have n0_ := aK (Kd.R_below HO_7.out hb); clear HO_7; have HO_7 := n0_; clear n0_; replace HB := qs HB hb; (try clear hb))); try go_wp2_with (first | (go_at_call 7; (with_reducible refine (impl_ApplyType.calls kj37 _ _ t103 t101 t125 true _ ?side1 ?side2 A47.out (HE.out.below HB.out)).mono ?_); (case side1 => exact sC ((Kd.R_reads' HO_7.out).2.2)); (case side2 => exact (Kd.R_reads' HO_7.out).2.1); rintro e w53 ⟨rfl, hb⟩; have n0_ := aK (Kd.R_below HO_7.out hb); clear HO_7; have HO_7 := n0_; clear n0_; replace HB := qs HB hb; (try clear hb)) | (go_at_call 10; (with_reducible refine (impl_InstanceOf.calls kj37 t125 t121 t127 false _ A48.out (HE.out.below HB.out)).mono ?_); rintro e w54 ⟨rfl, hb⟩; have n0_ := aK (Kd.R_below HO_7.out hb); clear HO_7; have HO_7 := n0_; clear n0_; replace HB := qs HB hb; (try clear hb))))
                go_ret
                exact ⟨eW, pH HB⟩
              ·replace c49 := Bool.eq_false_iff.mpr c49
               subst c49
               rw [if_neg (show ¬ (false = true) by decide)] at H
               obtain rfl := Option.some.inj H
               go_wp2_with (first | (go_at_call 7; (with_reducible refine (impl_ApplyType.calls kj37 _ _ t103 t101 t125 false _ ?side1 ?side2 A47.out (HE.out.below HB.out)).mono ?_); (case side1 => exact sC ((Kd.R_reads' HO_7.out).2.2)); (case side2 => exact (Kd.R_reads' HO_7.out).2.1); rintro e w55 ⟨rfl, hb⟩; have n0_ := aK (Kd.R_below HO_7.out hb); clear HO_7; have HO_7 := n0_; clear n0_; replace HB := qs HB hb; (try clear hb)) | (go_at_call 10; (with_reducible refine (impl_InstanceOf.calls kj37 t125 t121 t127 t128 _ A48.out (HE.out.below HB.out)).mono ?_); rintro e w56 ⟨rfl, hb⟩; have n0_ := aK (Kd.R_below HO_7.out hb); clear HO_7; have HO_7 := n0_; clear n0_; replace HB := qs HB hb; (try clear hb)))
               repeat (go_quiet (first | (go_at_call 7; (with_reducible refine (impl_ApplyType.calls kj37 _ _ t103 t101 t125 false _ ?side1 ?side2 A47.out (HE.out.below HB.out)).mono ?_); (case side1 => exact sC ((Kd.R_reads' HO_7.out).2.2)); (case side2 => exact (Kd.R_reads' HO_7.out).2.1); rintro e w55 ⟨rfl, hb⟩; have n0_ := aK (Kd.R_below HO_7.out hb); clear HO_7; have HO_7 := n0_; clear n0_; replace HB := qs HB hb; (try clear hb)) | (go_at_call 10; (with_reducible refine (impl_InstanceOf.calls kj37 t125 t121 t127 t128 _ A48.out (HE.out.below HB.out)).mono ?_); rintro e w56 ⟨rfl, hb⟩; have n0_ := aK (Kd.R_below HO_7.out hb); clear HO_7; have HO_7 := n0_; clear n0_; replace HB := qs HB hb; (try clear hb))); try go_wp2_with (first | (go_at_call 7; (with_reducible refine (impl_ApplyType.calls kj37 _ _ t103 t101 t125 false _ ?side1 ?side2 A47.out (HE.out.below HB.out)).mono ?_); (case side1 => exact sC ((Kd.R_reads' HO_7.out).2.2)); (case side2 => exact (Kd.R_reads' HO_7.out).2.1); rintro e w55 ⟨rfl, hb⟩; have n0_ := aK (Kd.R_below HO_7.out hb); clear HO_7; have HO_7 := n0_; clear n0_; replace HB := qs HB hb; (try clear hb)) | (go_at_call 10; (with_reducible refine (impl_InstanceOf.calls kj37 t125 t121 t127 t128 _ A48.out (HE.out.below HB.out)).mono ?_); rintro e w56 ⟨rfl, hb⟩; have n0_ := aK (Kd.R_below HO_7.out hb); clear HO_7; have HO_7 := n0_; clear n0_; replace HB := qs HB hb; (try clear hb))))
               go_ret
               exact ⟨eW, pH HB⟩
             ·replace c46 := Bool.eq_false_iff.mpr c46
              subst c46
              rw [if_neg (show ¬ (false = true) by decide)] at H
              obtain rfl := Option.some.inj H
              go_wp2
              repeat (go_quiet (fail); try go_wp2)
              go_ret
              exact ⟨eW, pH HB⟩

def laws_FnUnified.Pure : Prop := ∀ (l0 : List Int) (l1 : List Int), l0.length * 1 ≤ 140737488351232 → (l0.length ≤ 9223372036854775807 ∧ ∀ x_ ∈ l0, (Lit.int .u8 x_).wf = true) → l1.length * 1 ≤ 140737488351232 → (l1.length ≤ 9223372036854775807 ∧ ∀ x_ ∈ l1, (Lit.int .u8 x_).wf = true) → ∃ k, laws_FnUnified.f k l0 l1 = some true

end Go.Proofs.YteffjlhljeodpaaGreatDoor.G

namespace Go.Proofs.YteffjlhljeodpaaGreatDoor.G
open Go.RowKit Go.Proofs.YteffjlhljeodpaaGreatDoor.EvL Go.Proofs.YteffjlhljeodpaaGreatDoor.TxtL Go.Proofs.YteffjlhljeodpaaGreatDoor.ReadM Go.Proofs.YteffjlhljeodpaaGreatDoorW.PrintWords
set_option linter.unusedVariables false
set_option linter.unusedSimpArgs false

theorem two0 (x y : S55) : rd_T55 [x, y] 0 = x := rfl
theorem two1 (x y : S55) : rd_T55 [x, y] 1 = y := rfl
theorem q40 : (⟨#[40]⟩ : ByteArray) = B [40] := rfl
theorem q62 : (⟨#[62]⟩ : ByteArray) = B [62] := rfl
theorem q41 : (⟨#[41]⟩ : ByteArray) = B [41] := rfl
theorem q116 : (⟨#[116]⟩ : ByteArray) = B [116] := rfl
theorem leText_ev : ∀ t : Ty, t.lim → t.nodes ≤ 1099511627776 → Ev (fun k => spec_leText.f k (toS t).f0 (toS t).f1) (B (tyl t))
  | .v n, h, hn => by
    have h' : 0 ≤ n ∧ n ≤ 999 := h
    have hd := dec3 h'
    refine Ev.succ ?_
    show Ev (fun k => spec_leText.f (k + 1) n []) _
    simp only [spec_leText.f]
    refine Ev.ite_pos (by simp) (Ev.bind (NumL.num_B n (by omega) (by omega)) (Ev.ite_pos (by rw [B_size]; omega) (Ev.of_eq (Ev.now _) ?_)))
    rw [q116, B_append]; rfl
  | .a l r, h, hn => by
    have hn' : 1 + l.nodes + r.nodes ≤ 1099511627776 := hn
    have ihl := leText_ev l h.1 (by omega)
    have ihr := leText_ev r h.2 (by omega)
    have s1 := tyl_len l (lim_ok l h.1)
    have s2 := tyl_len r (lim_ok r h.2)
    refine Ev.succ ?_
    show Ev (fun k => spec_leText.f (k + 1) 0 [toS l, toS r]) _
    simp only [spec_leText.f, two0, two1]
    refine Ev.ite_neg (by simp) (Ev.ite_pos (by simp) (Ev.bind ihl (Ev.ite_pos ?_ (Ev.ite_pos ?_ (Ev.ite_pos (by simp) (Ev.bind ihr (Ev.ite_pos ?_ (Ev.ite_pos ?_ (Ev.of_eq (Ev.now _) ?_)))))))))
    · rw [B_size]; omega
    · simp only [q40, q62, q41, B_append, B_size, List.length_append, List.length_cons, List.length_nil]; omega
    · simp only [q40, q62, q41, B_append, B_size, List.length_append, List.length_cons, List.length_nil]; omega
    · simp only [q40, q62, q41, B_append, B_size, List.length_append, List.length_cons, List.length_nil]; omega
    · simp only [q40, q62, q41, B_append]
      exact congrArg B (by simp [tyl])
theorem leSize_ev : ∀ t : Ty, t.nodes ≤ 1099511627776 → Ev (fun k => spec_leSize.f k (toS t).f0 (toS t).f1) (t.nodes : Int)
  | .v n, hn => by
    refine Ev.succ ?_
    show Ev (fun k => spec_leSize.f (k + 1) n []) _
    simp only [spec_leSize.f]
    refine Ev.succ ?_
    simp only [spec_leSize.l0]
    exact Ev.ite_neg (by simp) (Ev.now _)
  | .a l r, hn => by
    have hn' : 1 + l.nodes + r.nodes ≤ 1099511627776 := hn
    have ihl := leSize_ev l (by omega)
    have ihr := leSize_ev r (by omega)
    have w0 : wrap64 (0 + 1) = 1 := w64 (by omega) (by omega)
    have w1 : wrap64 (1 + 1) = 2 := w64 (by omega) (by omega)
    have w2 : wrap64 (1 + (l.nodes : Int)) = 1 + (l.nodes : Int) := w64 (by omega) (by omega)
    have w3 : wrap64 (1 + (l.nodes : Int) + (r.nodes : Int)) = ((1 + l.nodes + r.nodes : Nat) : Int) := by rw [w64 (by omega) (by omega)]; omega
    refine Ev.succ ?_
    show Ev (fun k => spec_leSize.f (k + 1) 0 [toS l, toS r]) _
    simp only [spec_leSize.f]
    refine Ev.succ ?_
    simp only [spec_leSize.l0, two0, w0]
    refine Ev.ite_pos (by simp) (Ev.ite_pos (by omega) (Ev.ite_pos (by simp) (Ev.bind ihl ?_)))
    refine Ev.succ ?_
    simp only [spec_leSize.l0, two1, w1, w2]
    refine Ev.ite_pos (by simp) (Ev.ite_pos (by omega) (Ev.ite_pos (by simp) (Ev.bind ihr ?_)))
    refine Ev.succ ?_
    simp only [spec_leSize.l0, w3]
    exact Ev.ite_neg (by simp) (Ev.now _)
theorem leDeep_ev : ∀ t : Ty, t.nodes ≤ 1099511627776 → Ev (fun k => spec_leDeep.f k (toS t).f0 (toS t).f1) (t.dep : Int)
  | .v n, hn => by
    refine Ev.succ ?_
    show Ev (fun k => spec_leDeep.f (k + 1) n []) _
    simp only [spec_leDeep.f]
    refine Ev.succ ?_
    simp only [spec_leDeep.l0]
    exact Ev.ite_neg (by simp) (Ev.of_eq (Ev.now _) (by rw [w64 (by omega) (by omega)]; rfl))
  | .a l r, hn => by
    have hn' : 1 + l.nodes + r.nodes ≤ 1099511627776 := hn
    have ihl := leDeep_ev l (by omega)
    have ihr := leDeep_ev r (by omega)
    have d1 := dep_nodes l
    have d2 := dep_nodes r
    have p1 := dep_pos l
    have w0 : wrap64 (0 + 1) = 1 := w64 (by omega) (by omega)
    have w1 : wrap64 (1 + 1) = 2 := w64 (by omega) (by omega)
    have hD : ((Ty.a l r).dep : Int) = 1 + max (l.dep : Int) (r.dep : Int) := by show ((1 + max l.dep r.dep : Nat) : Int) = _; omega
    refine Ev.succ ?_
    show Ev (fun k => spec_leDeep.f (k + 1) 0 [toS l, toS r]) _
    simp only [spec_leDeep.f]
    refine Ev.succ ?_
    simp only [spec_leDeep.l0, two0, w0]
    refine Ev.ite_pos (by simp) (Ev.ite_pos (by omega) (Ev.ite_pos (by simp) (Ev.bind ihl (Ev.ite_pos (by omega) ?_))))
    refine Ev.succ ?_
    simp only [spec_leDeep.l0, two1, w1]
    refine Ev.ite_pos (by simp) (Ev.ite_pos (by omega) (Ev.ite_pos (by simp) (Ev.bind ihr ?_)))
    by_cases c : (r.dep : Int) > (l.dep : Int)
    · refine Ev.ite_pos c (Ev.succ ?_)
      simp only [spec_leDeep.l0]
      exact Ev.ite_neg (by simp) (Ev.of_eq (Ev.now _) (by rw [w64 (by omega) (by omega), hD]; omega))
    · refine Ev.ite_neg c (Ev.succ ?_)
      simp only [spec_leDeep.l0]
      exact Ev.ite_neg (by simp) (Ev.of_eq (Ev.now _) (by rw [w64 (by omega) (by omega), hD]; omega))
theorem leFine_ev (t : Ty) (hn : t.nodes ≤ 1099511627776) : Ev (fun k => spec_leFine.f k (toS t).f0 (toS t).f1) (decide (t.dep ≤ 61 ∧ t.nodes ≤ 200)) := by
  unfold spec_leFine.f
  refine Ev.bind (leDeep_ev t hn) ?_
  by_cases h1 : t.dep ≤ 61
  · refine Ev.ite_pos (by omega) (Ev.bind (leSize_ev t hn) (Ev.of_eq (Ev.now _) ?_))
    rw [decide_eq_decide]
    omega
  · refine Ev.ite_neg (by omega) (Ev.of_eq (Ev.now _) ?_)
    rw [eq_comm, decide_eq_false_iff_not]
    exact fun h => h1 h.1
theorem leOf_ev (x : ByteArray) (hs : x.size ≤ 1000000) : (∃ t, tyS x.data.toList = some t ∧ Ev (fun k => spec_leOf.f k x) ((toS t).f0, (toS t).f1, true)) ∨ (tyS x.data.toList = none ∧ ∃ a b, Ev (fun k => spec_leOf.f k x) (a, b, false)) := by
  have hr : ∀ k, spec_leRead.f k x 1 = some (readF 61 x.data.toList) := fun k => if_pos ⟨⟨by omega, by omega⟩, by omega⟩
  have hl := len x
  unfold spec_leOf.f
  simp only [hr, Option.bind_some]
  cases e : yrd 3 61 x.data.toList with
  | none =>
    right
    refine ⟨by unfold tyS; rw [e]; rfl, 0, [], ?_⟩
    rw [readF_none e]
    exact Ev.ite_neg (show ¬ (0 : Int) > 0 by omega) (Ev.now _)
  | some p =>
    obtain ⟨t, r⟩ := p
    obtain ⟨c, c1, c2, c3⟩ := yrd_drop 3 61 _ t r e
    have hlim := yrd_lim 61 _ t r e
    have hsd := ((yrd_sound 3 61 _ t r e).resolve_right (by omega)).1
    have hn : t.nodes ≤ 1099511627776 := by omega
    have hrl : r.length = x.data.toList.length - c := by rw [c3, List.length_drop]
    have he : tyS x.data.toList = if r = [] ∧ tyl t = x.data.toList ∧ t.dep ≤ 61 ∧ t.nodes ≤ 200 then some t else none := by unfold tyS; rw [e]; rfl
    rw [readF_some e, he]
    dsimp only
    by_cases h1 : r = []
    · have hr0 : r.length = 0 := by rw [h1]; rfl
      by_cases h2 : tyl t = x.data.toList
      · by_cases h3 : t.dep ≤ 61 ∧ t.nodes ≤ 200
        · left
          refine ⟨t, if_pos ⟨h1, h2, h3⟩, Ev.ite_pos (by omega) (Ev.ite_pos (by omega) (Ev.bind (leText_ev t hlim hn) (Ev.ite_pos (by rw [toList_B, toList_eq]; exact h2) (Ev.bind (leFine_ev t hn) (Ev.of_eq (Ev.now _) ?_)))))⟩
          rw [decide_eq_true h3]
        · right
          refine ⟨if_neg (fun h => h3 h.2.2), (toS t).f0, (toS t).f1, Ev.ite_pos (by omega) (Ev.ite_pos (by omega) (Ev.bind (leText_ev t hlim hn) (Ev.ite_pos (by rw [toList_B, toList_eq]; exact h2) (Ev.bind (leFine_ev t hn) (Ev.of_eq (Ev.now _) ?_)))))⟩
          rw [decide_eq_false h3]
      · right
        exact ⟨if_neg (fun h => h2 h.2.1), _, _, Ev.ite_pos (by omega) (Ev.ite_pos (by omega) (Ev.bind (leText_ev t hlim hn) (Ev.ite_neg (by rw [toList_B, toList_eq]; exact h2) (Ev.now _))))⟩
    · right
      have hr0 : 1 ≤ r.length := by cases r with
        | nil => exact absurd rfl h1
        | cons y ys => rw [List.length_cons]; omega
      exact ⟨if_neg (fun h => h1 h.1), _, _, Ev.ite_pos (by omega) (Ev.ite_neg (by omega) (Ev.now _))⟩

def rowM : List Int → List Ty → Int → Option Ty
  | v :: vs, t :: ts, n => if v = n then some t else rowM vs ts n
  | _, _, _ => none
theorem rowM_app (v : Int) (t : Ty) (n : Int) : ∀ (vs : List Int) (ts : List Ty), vs.length = ts.length → v ∉ vs → rowM (vs ++ [v]) (ts ++ [t]) n = if n = v then some t else rowM vs ts n
  | [], [], _, _ => by
    show (if v = n then some t else none) = _
    by_cases h : v = n
    · rw [if_pos h, if_pos h.symm]
    · rw [if_neg h, if_neg (Ne.symm h)]; rfl
  | u :: vs, s :: ts, hl, hv => by
    have ih := rowM_app v t n vs ts (by simpa using hl) (fun h => hv (List.mem_cons_of_mem _ h))
    show (if u = n then some s else rowM (vs ++ [v]) (ts ++ [t]) n) = if n = v then some t else if u = n then some s else rowM vs ts n
    rw [ih]
    by_cases h : u = n
    · rw [if_pos h, if_pos h, if_neg]
      rintro rfl
      exact hv (by rw [h]; exact List.mem_cons_self ..)
    · rw [if_neg h, if_neg h]
  | [], _ :: _, h, _ => by simp at h
  | _ :: _, [], h, _ => by simp at h
theorem l1In_eq (v : Int) : spec_l1In.f v 0 999 = some (decide (0 ≤ v ∧ v ≤ 999)) := by
  unfold spec_l1In.f
  by_cases h : v ≥ 0
  · rw [if_pos h]
    exact congrArg some (decide_eq_decide.mpr (by omega))
  · rw [if_neg h]
    exact congrArg some (decide_eq_false (by omega)).symm
theorem getT {L : List S29} {i : Nat} (h : i < L.length) : rd_T29 L (i : Int) ∈ L := by
  unfold rd_T29
  rw [Int.toNat_natCast, List.getD_eq_getElem?_getD, List.getElem?_eq_getElem h]
  exact List.getElem_mem h
theorem bnd_at {L : List S29} {i : Nat} {x : S29} (e : rd_T29 L (i : Int) = x) (hx : tyOf x.f1.data.toList = tyS x.f1.data.toList) : bndOk L i = (tyS x.f1.data.toList).bind fun t => if x.f0 < 0 ∨ 999 < x.f0 ∨ (0 < i ∧ x.f0 ≤ (rd_T29 L ((i : Int) - 1)).f0) then none else some t := by
  unfold bndOk; rw [e, hx]
theorem leBinds_at (L : List S29) (hL : L.length ≤ 200) (hd : ∀ x ∈ L, Dr x.f1) : ∀ (d i : Nat) (vs : List Int) (ts : List Ty) (M : Int → Option Ty), i + d = L.length → bindM L i = some M → (∀ n, rowM vs ts n = M n) → vs.length = i → ts.length = i → (∀ v ∈ vs, 0 < i ∧ v ≤ (rd_T29 L ((i : Int) - 1)).f0) → (∀ n u, M n = some u → u.lim ∧ u.dep ≤ 9) →
    (∃ M' vs' ts', bindM L L.length = some M' ∧ (∀ n u, M' n = some u → u.lim ∧ u.dep ≤ 9) ∧ (∀ n, rowM vs' ts' n = M' n) ∧ vs'.length = ts'.length ∧ vs'.length ≤ 200 ∧ Ev (fun k => spec_leBinds.l0 k L L (L.length : Int) i vs (ts.map toS)) (vs', ts'.map toS, true)) ∨ (bindM L L.length = none ∧ ∃ a b, Ev (fun k => spec_leBinds.l0 k L L (L.length : Int) i vs (ts.map toS)) (a, b, false))
  | 0, i, vs, ts, M, hi, hM, hr, hv, ht, hs, hl => by
    obtain rfl : i = L.length := by omega
    refine .inl ⟨M, vs, ts, hM, hl, hr, by omega, by omega, Ev.succ ?_⟩
    simp only [spec_leBinds.l0]
    exact Ev.ite_neg (by omega) (Ev.of_eq (Ev.now _) (by rw [decide_eq_true (by omega : (L.length : Int) ≤ 200)]))
  | d + 1, i, vs, ts, M, hi, hM, hr, hv, ht, hs, hl => by
    have hil : i < L.length := by omega
    obtain ⟨x, ex⟩ : ∃ x, rd_T29 L (i : Int) = x := ⟨_, rfl⟩
    have hxd : Dr x.f1 := by rw [← ex]; exact hd _ (getT hil)
    have w1 : wrap64 ((i : Int) + 1) = ((i + 1 : Nat) : Int) := by rw [w64 (by omega) (by omega)]; omega
    have w2 : wrap64 ((i : Int) - 1) = (i : Int) - 1 := w64 (by omega) (by omega)
    have lost : bndOk L i = none → bindM L L.length = none := by
      intro h
      have : bindM L (i + 1) = none := by rw [bindM_step hM, h]; rfl
      have h2 := bindM_none this d
      rwa [show i + 1 + d = L.length by omega] at h2
    rcases hxd.same with ⟨t, t1, t2, t3, t4, t5, t6, t7⟩ | ⟨t5, t6, t7⟩
    · have hB := bnd_at ex (t5.trans t6.symm)
      rw [t6, Option.bind_some] at hB
      rcases leOf_ev x.f1 (by omega) with ⟨t', g1, g2⟩ | ⟨g1, _⟩
      rotate_left
      · rw [t6] at g1; cases g1
      obtain rfl : t = t' := Option.some.inj (t6.symm.trans g1)
      by_cases c1 : 0 ≤ x.f0 ∧ x.f0 ≤ 999
      rotate_left
      · right
        refine ⟨lost (by rw [hB]; exact if_pos (by omega)), vs, ts.map toS, Ev.succ ?_⟩
        simp only [spec_leBinds.l0, ex, l1In_eq, Option.bind_some]
        exact Ev.ite_pos (by omega) (Ev.ite_pos (by omega) (Ev.ite_pos (by omega) (Ev.bind g2 (Ev.ite_pos rfl (Ev.ite_neg (by simpa using c1) (Ev.now _))))))
      by_cases c2 : 0 < i ∧ x.f0 ≤ (rd_T29 L ((i : Int) - 1)).f0
      · right
        refine ⟨lost (by rw [hB]; exact if_pos (.inr (.inr c2))), vs, ts.map toS, Ev.succ ?_⟩
        simp only [spec_leBinds.l0, ex, l1In_eq, Option.bind_some, w2]
        exact Ev.ite_pos (by omega) (Ev.ite_pos (by omega) (Ev.ite_pos (by omega) (Ev.bind g2 (Ev.ite_pos rfl (Ev.ite_pos (by simpa using c1) (Ev.ite_pos (by omega) (Ev.ite_pos (by omega) (Ev.ite_pos (by omega) (Ev.ite_pos c2.2 (Ev.now _))))))))))
      · have hB' : bndOk L i = some t := by rw [hB]; exact if_neg (by omega)
        have hM' : bindM L (i + 1) = some (updM M x.f0 t) := by rw [bindM_step hM, hB', ex]; rfl
        have hvn : x.f0 ∉ vs := fun h => by have := hs _ h; exact c2 this
        have ih := leBinds_at L hL hd d (i + 1) (vs ++ [x.f0]) (ts ++ [t]) (updM M x.f0 t) (by omega) hM' (fun n => by
            rw [rowM_app _ _ _ _ _ (by omega) hvn]
            show _ = if n = x.f0 then some t else M n
            rw [hr n]) (by simp; omega) (by simp; omega) (fun v hv' => by
            refine ⟨by omega, ?_⟩
            rw [show ((i + 1 : Nat) : Int) - 1 = (i : Int) by omega, ex]
            rcases List.mem_append.mp hv' with h | h
            · have := hs v h
              have : ¬ x.f0 ≤ (rd_T29 L ((i : Int) - 1)).f0 := fun h' => c2 ⟨this.1, h'⟩
              have := (hs v h).2
              omega
            · rw [List.mem_singleton.mp h]; exact Int.le_refl _) (fun n u h => by
            have h' : (if n = x.f0 then some t else M n) = some u := h
            split at h'
            · injection h' with h'; subst h'; exact ⟨t1, t2⟩
            · exact hl n u h')
        have st : ∀ r, Ev (fun k => spec_leBinds.l0 k L L (L.length : Int) ((i + 1 : Nat) : Int) (vs ++ [x.f0]) ((ts ++ [t]).map toS)) r → Ev (fun k => spec_leBinds.l0 k L L (L.length : Int) i vs (ts.map toS)) r := by
          intro r h
          refine Ev.succ ?_
          simp only [spec_leBinds.l0, ex, l1In_eq, Option.bind_some, w2, w1, toS_eta]
          rw [List.map_append] at h
          refine Ev.ite_pos (by omega) (Ev.ite_pos (by omega) (Ev.ite_pos (by omega) (Ev.bind g2 (Ev.ite_pos rfl (Ev.ite_pos (by simpa using c1) ?_)))))
          have l1 : (ts.map toS).length < 4398046511104 := by rw [List.length_map]; omega
          simp only [toS_eta]
          by_cases c3 : (i : Int) > 0
          · exact Ev.ite_pos c3 (Ev.ite_pos (by omega) (Ev.ite_pos (by omega) (Ev.ite_neg (fun h' => c2 ⟨by omega, h'⟩) (Ev.ite_pos (by omega) (Ev.ite_pos l1 h)))))
          · exact Ev.ite_neg c3 (Ev.ite_pos (by omega) (Ev.ite_pos l1 h))
        rcases ih with ⟨M', vs', ts', i1, i2, i3, i4, i5, i6⟩ | ⟨i1, a, b, i2⟩
        · exact .inl ⟨M', vs', ts', i1, i2, i3, i4, i5, st _ i6⟩
        · exact .inr ⟨i1, a, b, st _ i2⟩
    · have hB := bnd_at ex (t5.trans t6.symm)
      rw [t6] at hB
      rcases leOf_ev x.f1 (by omega) with ⟨t', g1, g2⟩ | ⟨g1, a, b, g2⟩
      · rw [t6] at g1; cases g1
      right
      refine ⟨lost hB, vs, ts.map toS, Ev.succ ?_⟩
      simp only [spec_leBinds.l0, ex]
      exact Ev.ite_pos (by omega) (Ev.ite_pos (by omega) (Ev.ite_pos (by omega) (Ev.bind g2 (Ev.ite_neg (by simp) (Ev.now _)))))
theorem leBinds_ev (L : List S29) (hL : L.length ≤ 200) (hd : ∀ x ∈ L, Dr x.f1) : (∃ M' vs' ts', bindM L L.length = some M' ∧ (∀ n u, M' n = some u → u.lim ∧ u.dep ≤ 9) ∧ (∀ n, rowM vs' ts' n = M' n) ∧ vs'.length = ts'.length ∧ vs'.length ≤ 200 ∧ Ev (fun k => spec_leBinds.f k L) (vs', ts'.map toS, true)) ∨ (bindM L L.length = none ∧ ∃ a b, Ev (fun k => spec_leBinds.f k L) (a, b, false)) :=
  leBinds_at L hL hd L.length 0 [] [] noB (by omega) rfl (fun n => rfl) rfl rfl (fun v h => by simp at h) (fun n u h => by cases h)
theorem getS {ts : List Ty} {i : Nat} (h : i < ts.length) : rd_T55 (ts.map toS) (i : Int) = toS ts[i] := by
  unfold rd_T55
  rw [Int.toNat_natCast, List.getD_eq_getElem?_getD, List.getElem?_eq_getElem (by rw [List.length_map]; exact h)]
  simp
theorem row_ev (vs : List Int) (ts : List Ty) (hl : vs.length = ts.length) (hn : vs.length ≤ 200) (n : Int) : ∀ (d i : Nat), i + d = vs.length → Ev (fun k => spec_leApply.l0 k vs (vs.length : Int) i vs (ts.map toS) n []) ((toS ((rowM (vs.drop i) (ts.drop i) n).getD (.v n))).f0, (toS ((rowM (vs.drop i) (ts.drop i) n).getD (.v n))).f1)
  | 0, i, hi => by
    refine Ev.succ ?_
    simp only [spec_leApply.l0]
    rw [List.drop_eq_nil_of_le (by omega : vs.length ≤ i), List.drop_eq_nil_of_le (by omega : ts.length ≤ i)]
    exact Ev.ite_neg (by omega) (Ev.now _)
  | d + 1, i, hi => by
    have h1 : i < vs.length := by omega
    have h2 : i < ts.length := by omega
    have w1 : wrap64 ((i : Int) + 1) = ((i + 1 : Nat) : Int) := by rw [w64 (by omega) (by omega)]; omega
    refine Ev.succ ?_
    simp only [spec_leApply.l0, w1, rd_get h1, getS h2]
    rw [List.drop_eq_getElem_cons h1, List.drop_eq_getElem_cons h2]
    have e : rowM (vs[i] :: vs.drop (i + 1)) (ts[i] :: ts.drop (i + 1)) n = if vs[i] = n then some ts[i] else rowM (vs.drop (i + 1)) (ts.drop (i + 1)) n := rfl
    rw [e]
    refine Ev.ite_pos (by omega) (Ev.ite_pos (by omega) (Ev.ite_pos (by omega) ?_))
    by_cases c : vs[i] = n
    · rw [if_pos c]
      exact Ev.ite_pos c (Ev.ite_pos (by rw [List.length_map]; omega) (Ev.now _))
    · rw [if_neg c]
      exact Ev.ite_neg c (row_ev vs ts hl hn n d (i + 1) (by omega))
theorem leApply_ev (vs : List Int) (ts : List Ty) (hl : vs.length = ts.length) (hn : vs.length ≤ 200) {M : Int → Option Ty} (hM : ∀ n, rowM vs ts n = M n) : ∀ t : Ty, Ev (fun k => spec_leApply.f k vs (ts.map toS) (toS t).f0 (toS t).f1) ((toS (t.apply M)).f0, (toS (t.apply M)).f1)
  | .v n => by
    refine Ev.succ ?_
    show Ev (fun k => spec_leApply.f (k + 1) vs (ts.map toS) n []) _
    simp only [spec_leApply.f]
    refine Ev.ite_pos (by simp) (Ev.of_eq (row_ev vs ts hl hn n vs.length 0 (by omega)) ?_)
    rw [List.drop_zero, List.drop_zero, hM]
    rfl
  | .a l r => by
    have ihl := leApply_ev vs ts hl hn hM l
    have ihr := leApply_ev vs ts hl hn hM r
    refine Ev.succ ?_
    show Ev (fun k => spec_leApply.f (k + 1) vs (ts.map toS) 0 [toS l, toS r]) _
    simp only [spec_leApply.f, two0, two1]
    refine Ev.ite_neg (by simp) (Ev.ite_pos (by simp) (Ev.bind ihl (Ev.ite_pos (by simp) (Ev.bind ihr (Ev.of_eq (Ev.now _) ?_)))))
    simp only [toS_eta]
    rfl
theorem apply_both (L : List S29) (s : ByteArray) (hL : L.length ≤ 200) (hd : ∀ x ∈ L, Dr x.f1) (hs : Dr s) : Ev (fun k => spec_ApplyType.f k L s) (applyF L s.data.toList) ∧ ((applyF L s.data.toList).2 = true → ∃ t M, tyOf s.data.toList = some t ∧ applyF L s.data.toList = (B (tyl (t.apply M)), true) ∧ (t.apply M).good = true) := by
  unfold spec_ApplyType.f
  have hB := leBinds_ev L hL hd
  have hO := leOf_ev s (by rcases hs.same with ⟨_, _, _, _, _, _, _, h⟩ | ⟨_, _, h⟩ <;> omega)
  rcases hs.same with ⟨t, t1, t2, t3, t4, t5, t6, t7⟩ | ⟨t5, t6, t7⟩
  · rcases hO with ⟨t', g1, g2⟩ | ⟨g1, _⟩
    rotate_left
    · rw [t6] at g1; cases g1
    obtain rfl : t = t' := Option.some.inj (t6.symm.trans g1)
    rcases hB with ⟨M, vs, ts, b1, b2, b3, b4, b5, b6⟩ | ⟨b1, a, b, b2⟩
    · have hA := applyF_some t5 (by omega : ¬ 200 < L.length) b1
      have hlim : (t.apply M).lim := lim_apply (fun n u h => (b2 n u h).1) t t1
      have hdep := dep_apply (M := M) (D := 9) (by omega) (fun n u h => (b2 n u h).2) t
      have hnod : (t.apply M).nodes ≤ 1099511627776 := by
        have := nodes_dep (t.apply M)
        have : 2 ^ (t.apply M).dep ≤ 2 ^ 18 := Nat.pow_le_pow_right (by omega) (by omega)
        omega
      have hgood : (t.apply M).good = true ↔ (t.apply M).dep ≤ 61 ∧ (t.apply M).nodes ≤ 200 := by
        rw [good_iff]
        constructor
        · rintro ⟨h1, h2, h3⟩; exact ⟨by omega, h1⟩
        · rintro ⟨h1, h2⟩; exact ⟨h2, by omega, hlim⟩
      have hap := leApply_ev vs ts b4 b5 b3 t
      rw [hA]
      refine ⟨Ev.bind b6 (Ev.bind g2 (Ev.ite_pos rfl (Ev.succ ?_))), ?_⟩
      · simp only [spec_ApplyType.j0]
        refine Ev.ite_neg (by simp) (Ev.bind hap (Ev.bind (leFine_ev _ hnod) ?_))
        by_cases c : (t.apply M).good = true
        · rw [if_pos c]
          refine Ev.ite_pos (decide_eq_true (hgood.mp c)) (Ev.bind (leText_ev _ hlim hnod) (Ev.of_eq (Ev.now _) ?_))
          rw [text_B]
        · rw [if_neg c]
          exact Ev.ite_neg (by rw [decide_eq_true_eq]; exact fun h => c (hgood.mpr h)) (Ev.now _)
      · intro h
        by_cases c : (t.apply M).good = true
        · exact ⟨t, M, t5, by rw [if_pos c, text_B], c⟩
        · rw [if_neg c] at h; cases h
    · have hA := applyF_bind (s := s.data.toList) b1
      rw [hA]
      refine ⟨Ev.bind b2 (Ev.bind g2 (Ev.ite_neg (by simp) (Ev.succ ?_))), fun h => by cases h⟩
      simp only [spec_ApplyType.j0]
      exact Ev.ite_pos trivial (Ev.now _)
  · have hA := applyF_none (L := L) t5
    rw [hA]
    rcases hO with ⟨t', g1, g2⟩ | ⟨g1, a, b, g2⟩
    · rw [t6] at g1; cases g1
    refine ⟨?_, fun h => by cases h⟩
    rcases hB with ⟨M, vs, ts, b1, b2, b3, b4, b5, b6⟩ | ⟨b1, a', b', b2⟩
    · refine Ev.bind b6 (Ev.bind g2 (Ev.ite_pos rfl (Ev.succ ?_)))
      simp only [spec_ApplyType.j0]
      exact Ev.ite_pos rfl (Ev.now _)
    · refine Ev.bind b2 (Ev.bind g2 (Ev.ite_neg (by simp) (Ev.succ ?_)))
      simp only [spec_ApplyType.j0]
      exact Ev.ite_pos trivial (Ev.now _)
end Go.Proofs.YteffjlhljeodpaaGreatDoor.G

namespace Go.Proofs.YteffjlhljeodpaaGreatDoor.G
open Go.RowKit Go.Proofs.YteffjlhljeodpaaGreatDoor.EvL Go.Proofs.YteffjlhljeodpaaGreatDoor.TxtL Go.Proofs.YteffjlhljeodpaaGreatDoor.ReadM Go.Proofs.YteffjlhljeodpaaGreatDoor.Uni Go.Proofs.YteffjlhljeodpaaGreatDoorW.PrintWords
set_option linter.unusedVariables false
set_option linter.unusedSimpArgs false

abbrev ks (L : Lk) : List Int := L.map (·.1)
abbrev tS (L : Lk) : List S55 := (L.map (·.2)).map toS
theorem rowM_bnd (n : Int) : ∀ L : Lk, rowM (ks L) (L.map (·.2)) n = bnd L n
  | [] => rfl
  | (v, t) :: L => by
    show (if v = n then some t else rowM (ks L) (L.map (·.2)) n) = if v = n then some t else bnd L n
    rw [rowM_bnd n L]
theorem applyL_ev (L : Lk) (hL : L.length ≤ 200) (t : Ty) : Ev (fun k => spec_leApply.f k (ks L) (tS L) (toS t).f0 (toS t).f1) ((toS (t.apply (bnd L))).f0, (toS (t.apply (bnd L))).f1) :=
  leApply_ev (ks L) (L.map (·.2)) (by simp) (by simpa using hL) (fun n => rowM_bnd n L) t
theorem sub_ev (n : Int) (y t : Ty) : Ev (fun k => spec_leApply.f k [n] [toS y] (toS t).f0 (toS t).f1) ((toS (sub n y t)).f0, (toS (sub n y t)).f1) :=
  leApply_ev [n] [y] rfl (by simp) (M := Uni.one n y) (fun m => by
    show (if n = m then some y else none) = if m = n then some y else none
    by_cases e : n = m
    · rw [if_pos e, if_pos e.symm]
    · rw [if_neg e, if_neg (Ne.symm e)]) t
theorem leWay_ev (t : Ty) (hn : t.nodes ≤ 1099511627776) : Ev (fun k => spec_leWay.f k (toS t).f0 (toS t).f1 false) (decide (t.dep ≤ 61 ∧ t.nodes ≤ 200)) := by
  unfold spec_leWay.f
  exact Ev.ite_neg (by simp) (Ev.bind (leFine_ev t hn) (Ev.now _))
theorem leSame_ev : ∀ t u : Ty, Ev (fun k => spec_leSame.f k (toS t).f0 (toS t).f1 (toS u).f0 (toS u).f1) (t.same u)
  | .v n, .v m => by
    refine Ev.succ ?_
    show Ev (fun k => spec_leSame.f (k + 1) n [] m []) _
    simp only [spec_leSame.f]
    exact Ev.ite_pos (by simp) (Ev.ite_pos (by simp) (Ev.now _))
  | .v n, .a l r => by
    refine Ev.succ ?_
    show Ev (fun k => spec_leSame.f (k + 1) n [] 0 [toS l, toS r]) _
    simp only [spec_leSame.f]
    exact Ev.ite_neg (by simp) (Ev.now _)
  | .a l r, .v n => by
    refine Ev.succ ?_
    show Ev (fun k => spec_leSame.f (k + 1) 0 [toS l, toS r] n []) _
    simp only [spec_leSame.f]
    exact Ev.ite_neg (by simp) (Ev.now _)
  | .a l r, .a l' r' => by
    have ih1 := leSame_ev l l'
    have ih2 := leSame_ev r r'
    refine Ev.succ ?_
    show Ev (fun k => spec_leSame.f (k + 1) 0 [toS l, toS r] 0 [toS l', toS r']) (l.same l' && r.same r')
    simp only [spec_leSame.f, two0, two1]
    refine Ev.ite_pos rfl (Ev.ite_neg (by simp) (Ev.ite_pos (by simp) (Ev.ite_pos (by simp) (Ev.bind ih1 ?_))))
    by_cases c : l.same l' = true
    · refine Ev.ite_pos c (Ev.ite_pos (by simp) (Ev.ite_pos (by simp) (Ev.bind ih2 (Ev.of_eq (Ev.now _) ?_))))
      rw [c]; rfl
    · refine Ev.ite_neg c (Ev.of_eq (Ev.now _) ?_)
      rw [Bool.eq_false_iff.mpr c]; rfl
theorem has_at (l : List Int) (x : Int) (hl : l.length ≤ 1000000) : ∀ (d i : Nat), i + d = l.length → Ev (fun k => spec_lcHas.l0 k x l (l.length : Int) i) (decide (x ∈ l.drop i))
  | 0, i, hi => by
    refine Ev.succ ?_
    simp only [spec_lcHas.l0]
    rw [List.drop_eq_nil_of_le (by omega : l.length ≤ i)]
    exact Ev.ite_neg (by omega) (Ev.now _)
  | d + 1, i, hi => by
    have h1 : i < l.length := by omega
    have w1 : wrap64 ((i : Int) + 1) = ((i + 1 : Nat) : Int) := by rw [w64 (by omega) (by omega)]; omega
    refine Ev.succ ?_
    simp only [spec_lcHas.l0, w1, rd_get h1]
    rw [List.drop_eq_getElem_cons h1]
    refine Ev.ite_pos (by omega) (Ev.ite_pos (by omega) (Ev.ite_pos (by omega) ?_))
    by_cases c : l[i] = x
    · exact Ev.ite_pos c (Ev.of_eq (Ev.now _) (decide_eq_true (by rw [c]; exact List.mem_cons_self ..)).symm)
    · refine Ev.ite_neg c (Ev.of_eq (has_at l x hl d (i + 1) (by omega)) ?_)
      rw [decide_eq_decide, List.mem_cons]
      exact ⟨.inr, fun h => h.resolve_left (fun e => c e.symm)⟩
theorem has_ev (l : List Int) (x : Int) (hl : l.length ≤ 1000000) : Ev (fun k => spec_lcHas.f k l x) (decide (x ∈ l)) := has_at l x hl l.length 0 (by omega)
theorem vars_ev : ∀ (t : Ty) (out : List Int), out.length + t.nodes ≤ 1000000 → ∃ o, Ev (fun k => leVarsG k (toS t).f0 (toS t).f1 out) o ∧ o.length ≤ out.length + t.nodes ∧ ∀ m, m ∈ o ↔ m ∈ out ∨ m ∈ t.vars
  | .v n, out, h => by
    have h' : out.length + 1 ≤ 1000000 := h
    by_cases c : n ∈ out
    · refine ⟨out, Ev.succ ?_, by omega, fun m => ⟨.inl, fun h => h.elim id (fun e => by rw [List.mem_singleton.mp e]; exact c)⟩⟩
      show Ev (fun k => leVarsG (k + 1) n [] out) _
      simp only [leVarsG]
      refine Ev.ite_pos rfl (Ev.bind (has_ev out n (by omega)) ?_)
      exact Ev.ite_pos (decide_eq_true c) (Ev.now _)
    · refine ⟨out ++ [n], Ev.succ ?_, by simp [Ty.nodes], fun m => by rw [List.mem_append]; exact Iff.rfl⟩
      show Ev (fun k => leVarsG (k + 1) n [] out) _
      simp only [leVarsG]
      refine Ev.ite_pos rfl (Ev.bind (has_ev out n (by omega)) ?_)
      exact Ev.ite_neg (by simpa using c) (Ev.ite_pos (by omega) (Ev.now _))
  | .a l r, out, h => by
    have h' : out.length + (1 + l.nodes + r.nodes) ≤ 1000000 := h
    obtain ⟨o1, e1, n1, m1⟩ := vars_ev l out (by omega)
    obtain ⟨o2, e2, n2, m2⟩ := vars_ev r o1 (by omega)
    refine ⟨o2, Ev.succ ?_, by show o2.length ≤ out.length + (1 + l.nodes + r.nodes); omega, fun m => ?_⟩
    · show Ev (fun k => leVarsG (k + 1) 0 [toS l, toS r] out) _
      simp only [leVarsG, two0, two1]
      exact Ev.ite_neg (by simp) (Ev.ite_pos (by simp) (Ev.bind e1 e2))
    · rw [m2, m1]
      show _ ↔ m ∈ out ∨ m ∈ r.vars.foldl vstep l.vars
      rw [vfold_mem, or_assoc]
theorem leVars_ev (t : Ty) (h : t.nodes ≤ 1000000) : ∃ o, Ev (fun k => spec_leVars.f k (toS t).f0 (toS t).f1 []) o ∧ o.length ≤ 1000000 ∧ ∀ m, m ∈ o ↔ m ∈ t.vars := by
  obtain ⟨o, e, n, m⟩ := vars_ev t [] (by simpa using h)
  refine ⟨o, ?_, by simp at n; omega, fun x => by rw [m]; simp⟩
  unfold spec_leVars.f
  exact Ev.ite_pos rfl e
theorem ksA (A B : Lk) : ks (A ++ B) = ks A ++ ks B := List.map_append
theorem tSA (A B : Lk) : tS (A ++ B) = tS A ++ tS B := by unfold tS; rw [List.map_append, List.map_append]
theorem lenS (A : Lk) : (tS A).length = A.length := by simp [tS]
theorem getK {L : Lk} {i : Nat} (h : i < L.length) : rd (ks L) (i : Int) = L[i].1 := by rw [rd_get (by simpa using h)]; simp
theorem getTS {L : Lk} {i : Nat} (h : i < L.length) : rd_T55 (tS L) (i : Int) = toS L[i].2 := by rw [getS (by simpa using h)]; simp
theorem put_at (n : Int) (y : Ty) (L : Lk) (hL : L.length ≤ 1000) : ∀ (d i : Nat) (p : Bool) (A : Lk), i + d = L.length → A.length ≤ 2 * i →
    Ev (fun k => spec_lePut.l0 k n p (ks L) ((ks L).length : Int) i (ks L) (tS L) (toS y).f0 (toS y).f1 [n] [toS y] (ks A) (tS A)) (ks (A ++ if p = true then subL n y (L.drop i) else putL n y (L.drop i)), tS (A ++ if p = true then subL n y (L.drop i) else putL n y (L.drop i)))
  | 0, i, true, A, hi, hA => by
    have e0 : ((ks L).length : Int) = i := by simp; omega
    have e : A ++ (if true = true then subL n y (L.drop i) else putL n y (L.drop i)) = A := by
      rw [if_pos rfl, List.drop_eq_nil_of_le (by omega : L.length ≤ i)]; exact List.append_nil A
    rw [e]
    refine Ev.succ ?_
    simp only [spec_lePut.l0, e0]
    exact Ev.ite_neg (by omega) (Ev.ite_pos trivial (Ev.now _))
  | 0, i, false, A, hi, hA => by
    have e0 : ((ks L).length : Int) = i := by simp; omega
    have hk : (ks A).length = A.length := by simp
    have ht := lenS A
    have e : A ++ (if false = true then subL n y (L.drop i) else putL n y (L.drop i)) = A ++ [(n, y)] := by
      rw [if_neg (by simp), List.drop_eq_nil_of_le (by omega : L.length ≤ i)]; rfl
    rw [e, ksA, tSA]
    refine Ev.succ ?_
    simp only [spec_lePut.l0, e0, toS_eta]
    exact Ev.ite_neg (by omega) (Ev.ite_neg (by simp) (Ev.ite_pos (by omega) (Ev.ite_pos (by omega) (Ev.now _))))
  | d + 1, i, p, A, hi, hA => by
    have h1 : i < L.length := by omega
    have hk : (ks L).length = L.length := by simp
    have ht := lenS L
    have hAk : (ks A).length = A.length := by simp
    have hAt := lenS A
    have w1 : wrap64 ((i : Int) + 1) = ((i + 1 : Nat) : Int) := by rw [w64 (by omega) (by omega)]; omega
    have hs := sub_ev n y L[i].2
    have go : ∀ (q : Bool) (A' B : Lk), A'.length ≤ 2 * (i + 1) → (∀ D, (if q = true then subL n y (L.drop (i + 1)) else putL n y (L.drop (i + 1))) = D → A' ++ D = A ++ B) → Ev (fun k => spec_lePut.l0 k n q (ks L) ((ks L).length : Int) ((i + 1 : Nat) : Int) (ks L) (tS L) (toS y).f0 (toS y).f1 [n] [toS y] (ks A') (tS A')) (ks (A ++ B), tS (A ++ B)) := by
      intro q A' B hA' hB
      have := put_at n y L hL d (i + 1) q A' (by omega) hA'
      rw [hB _ rfl] at this
      exact this
    refine Ev.succ ?_
    simp only [spec_lePut.l0, w1, getK h1, getTS h1, toS_eta]
    rw [List.drop_eq_getElem_cons h1]
    obtain ⟨⟨v, t⟩, hvt⟩ : ∃ q, L[i] = q := ⟨_, rfl⟩
    rw [hvt] at hs ⊢
    refine Ev.ite_pos (by omega) (Ev.ite_pos (by omega) (Ev.ite_pos (by omega) ?_))
    cases p with
    | true =>
      show Ev _ (ks (A ++ subL n y ((v, t) :: L.drop (i + 1))), tS (A ++ subL n y ((v, t) :: L.drop (i + 1))))
      refine Ev.ite_pos rfl (Ev.ite_pos (by omega) (Ev.ite_pos (by omega) (Ev.bind hs (Ev.ite_pos (by omega) ?_))))
      simp only [toS_eta]
      have := go true (A ++ [(v, sub n y t)]) (subL n y ((v, t) :: L.drop (i + 1))) (by simp; omega) (fun D hD => by
        rw [← hD, if_pos rfl, List.append_assoc]; rfl)
      rw [ksA, tSA] at this
      exact this
    | false =>
      show Ev _ (ks (A ++ putL n y ((v, t) :: L.drop (i + 1))), tS (A ++ putL n y ((v, t) :: L.drop (i + 1))))
      refine Ev.ite_neg (by simp) ?_
      by_cases c : n < v
      · have e : putL n y ((v, t) :: L.drop (i + 1)) = (n, y) :: (v, sub n y t) :: subL n y (L.drop (i + 1)) := by rw [putL, if_pos c]
        refine Ev.ite_pos c (Ev.ite_pos (by omega) ?_)
        simp only [Option.bind_some]
        refine Ev.ite_pos (by omega) (Ev.ite_pos (by rw [List.length_append]; simp only [List.length_singleton]; omega) (Ev.ite_pos (by omega) (Ev.bind hs (Ev.ite_pos (by rw [List.length_append]; simp only [List.length_singleton]; omega) ?_))))
        simp only [toS_eta]
        have := go true (A ++ [(n, y)] ++ [(v, sub n y t)]) (putL n y ((v, t) :: L.drop (i + 1))) (by simp; omega) (fun D hD => by
          rw [← hD, if_pos rfl, e, List.append_assoc, List.append_assoc]; rfl)
        rw [ksA, tSA, ksA, tSA] at this
        exact this
      · have e : putL n y ((v, t) :: L.drop (i + 1)) = (v, sub n y t) :: putL n y (L.drop (i + 1)) := by rw [putL, if_neg c]
        refine Ev.ite_neg c (Ev.ite_pos (by omega) (Ev.ite_pos (by omega) (Ev.bind hs (Ev.ite_pos (by omega) ?_))))
        simp only [toS_eta]
        have := go false (A ++ [(v, sub n y t)]) (putL n y ((v, t) :: L.drop (i + 1))) (by simp; omega) (fun D hD => by
          rw [← hD, if_neg (by simp), e, List.append_assoc]; rfl)
        rw [ksA, tSA] at this
        exact this
theorem put_ev (n : Int) (y : Ty) (L : Lk) (hL : L.length ≤ 1000) : Ev (fun k => spec_lePut.f k (ks L) (tS L) n (toS y).f0 (toS y).f1) (ks (putL n y L), tS (putL n y L)) := by
  unfold spec_lePut.f
  simp only [toS_eta]
  exact put_at n y L hL L.length 0 false [] (by omega) (by simp)
def fineB (t : Ty) : Bool := decide (t.dep ≤ 61 ∧ t.nodes ≤ 200)
theorem all_at (L : Lk) (hL : L.length ≤ 1000) (hn : ∀ p ∈ L, p.2.nodes ≤ 1099511627776) : ∀ (d i : Nat), i + d = L.length → Ev (fun k => spec_leAllFine.l0 k false (tS L) ((tS L).length : Int) i) ((L.drop i).all fun p => fineB p.2)
  | 0, i, hi => by
    have ht := lenS L
    refine Ev.succ ?_
    simp only [spec_leAllFine.l0]
    rw [List.drop_eq_nil_of_le (by omega : L.length ≤ i)]
    exact Ev.ite_neg (by omega) (Ev.now _)
  | d + 1, i, hi => by
    have h1 : i < L.length := by omega
    have ht := lenS L
    have w1 : wrap64 ((i : Int) + 1) = ((i + 1 : Nat) : Int) := by rw [w64 (by omega) (by omega)]; omega
    refine Ev.succ ?_
    simp only [spec_leAllFine.l0, w1, getTS h1]
    rw [List.drop_eq_getElem_cons h1, List.all_cons]
    refine Ev.ite_pos (by omega) (Ev.ite_pos (by omega) (Ev.ite_pos (by omega) (Ev.bind (leWay_ev L[i].2 (hn _ (List.getElem_mem h1))) ?_)))
    by_cases c : fineB L[i].2 = true
    · refine Ev.ite_pos c (Ev.of_eq (all_at L hL hn d (i + 1) (by omega)) ?_)
      rw [c]; rfl
    · refine Ev.ite_neg c (Ev.of_eq (Ev.now _) ?_)
      rw [Bool.eq_false_iff.mpr c]; rfl
theorem all_ev (L : Lk) (hL : L.length ≤ 1000) (hn : ∀ p ∈ L, p.2.nodes ≤ 1099511627776) : Ev (fun k => spec_leAllFine.f k (ks L) (tS L) false) (L.all fun p => fineB p.2) :=
  all_at L hL hn L.length 0 (by omega)
theorem told_at (L : Lk) (hL : L.length ≤ 1000) (hn : ∀ p ∈ L, p.2.lim ∧ p.2.nodes ≤ 1099511627776) : ∀ (d i : Nat), i + d = L.length → Ev (fun k => spec_leTold.l0 k (told (L.take i)) (ks L) ((ks L).length : Int) i (ks L) (tS L)) (told L)
  | 0, i, hi => by
    have hk : (ks L).length = L.length := by simp
    refine Ev.succ ?_
    simp only [spec_leTold.l0]
    refine Ev.ite_neg (by omega) (Ev.of_eq (Ev.now _) ?_)
    rw [List.take_of_length_le (by omega)]
  | d + 1, i, hi => by
    have h1 : i < L.length := by omega
    have hk : (ks L).length = L.length := by simp
    have ht := lenS L
    have hl : (told (L.take i)).length = i := by simp [told]; omega
    have w1 : wrap64 ((i : Int) + 1) = ((i + 1 : Nat) : Int) := by rw [w64 (by omega) (by omega)]; omega
    have hp := hn _ (List.getElem_mem h1)
    have ih := told_at L hL hn d (i + 1) (by omega)
    have e : told (L.take (i + 1)) = told (L.take i) ++ [⟨L[i].1, B (tyl L[i].2)⟩] := by
      rw [List.take_succ_eq_append_getElem h1]
      unfold told
      rw [List.map_append, List.map_singleton, text_B]
    rw [e] at ih
    refine Ev.succ ?_
    simp only [spec_leTold.l0, w1, getK h1, getTS h1]
    exact Ev.ite_pos (by omega) (Ev.ite_pos (by omega) (Ev.ite_pos (by omega) (Ev.ite_pos (by omega) (Ev.bind (leText_ev L[i].2 hp.1 hp.2) (Ev.ite_pos (by omega) ih)))))
theorem told_ev (L : Lk) (hL : L.length ≤ 1000) (hn : ∀ p ∈ L, p.2.lim ∧ p.2.nodes ≤ 1099511627776) : Ev (fun k => spec_leTold.f k (ks L) (tS L)) (told L) :=
  told_at L hL hn L.length 0 (by omega)

theorem fine_good {t : Ty} (hd : t.dep ≤ 60) (hl : t.lim) : fineB t = t.good := by
  have h := good_iff t
  unfold fineB
  by_cases c : t.good = true
  · rw [c]
    obtain ⟨h1, h2, _⟩ := h.mp c
    exact decide_eq_true ⟨by omega, h1⟩
  · rw [Bool.eq_false_iff.mpr c]
    exact decide_eq_false (fun h2 => c (h.mpr ⟨h2.2, hd, hl⟩))
theorem rise_ne : ∀ {L : Lk}, Rise L → (ks L).Pairwise (· ≠ ·)
  | [], _ => List.Pairwise.nil
  | p :: L, h => List.pairwise_cons.mpr ⟨fun x hx => by
      obtain ⟨q, hq, rfl⟩ := List.mem_map.mp hx
      exact Int.ne_of_lt (h.1 q hq), rise_ne h.2⟩
theorem inv_len {L : Lk} (hI : Inv0 L) (hr : Rise L) : L.length ≤ 5 := by
  have := nodup_len (ks L) V (rise_ne hr) (fun x hx => by
    obtain ⟨q, hq, rfl⟩ := List.mem_map.mp hx
    exact hI.keys q.1 q.2 (mem_bnd hr hq))
  have e : V.length = 5 := rfl
  simp only [List.length_map] at this
  omega
def Told (k : Nat) (a b : Ty) (q : List (Ty × Ty)) (L : Lk) (r : Option Lk) : Prop :=
  (r = none ∧ ∃ vs ts, Ev (fun m => spec_leUnify.f m (ks L) (tS L) (toS a).f0 (toS a).f1 (toS b).f0 (toS b).f1 false) (vs, ts, false)) ∨
  (∃ k' L', k' < k ∧ Inv L' ∧ Rise L' ∧ QI L' q ∧ Ev (fun m => spec_leUnify.f m (ks L) (tS L) (toS a).f0 (toS a).f1 (toS b).f0 (toS b).f1 false) (ks L', tS L', true) ∧ uni k' q L' = some r)
theorem put_nodes {L : Lk} (hI : Inv L) {n : Int} {z : Ty} (hn : bnd L n = none) (hr : Rise (putL n z L)) (hz : z.good = true) : ∀ p ∈ putL n z L, p.2.nodes ≤ 40000 := by
  intro p hp
  have gz := good_nodes hz
  rcases put_split hn z p.1 p.2 (mem_bnd hr hp) with ⟨_, e⟩ | ⟨_, t0, e1, e⟩
  · rw [e]; omega
  · rw [e]
    have := good_nodes (hI.good _ _ e1)
    have := apply_nodes_le (M := Uni.one n z) (fun m u hu => by
      have hu' : (if m = n then some z else none) = some u := hu
      split at hu'
      · injection hu' with hu'; rw [← hu']; exact gz
      · cases hu') t0
    show (t0.apply (Uni.one n z)).nodes ≤ _
    omega
theorem put_all {L : Lk} (hI : Inv L) {n : Int} {z : Ty} (hV : n ∈ V) (hn : bnd L n = none) (hz : n ∉ z.vars) (hi : Img L z) (hg : z.good = true) (hv : ∀ m ∈ z.vars, m ∈ V) (hr : Rise L) : (putL n z L).all (fun p => fineB p.2) = true ↔ keeps n z L := by
  have hI0 := hI.toInv0.put hV hn hz hi hv
  have hr' := rise_put n z L hr hn
  have lim : ∀ k t, bnd (putL n z L) k = some t → t.lim := fun k t e => V_ok (fun m hm => hI0.vin k t m e hm)
  have dep : ∀ k t, bnd (putL n z L) k = some t → t.dep ≤ 60 := fun k t e => by
    obtain ⟨s, hs, es, _⟩ := hI0.rep k t e
    have := hI0.dep hs
    rw [es]; omega
  constructor
  · intro h k t e
    have hkn : k ≠ n := fun e1 => by subst e1; rw [hn] at e; cases e
    have e2 : bnd (putL n z L) k = some (sub n z t) := by rw [bnd_put n z k L hn, if_neg hkn, e]; rfl
    have := List.all_eq_true.mp h _ (bnd_mem e2)
    rwa [fine_good (dep _ _ e2) (lim _ _ e2)] at this
  · intro h
    refine List.all_eq_true.mpr (fun p hp => ?_)
    have e := mem_bnd hr' hp
    rw [fine_good (dep _ _ e) (lim _ _ e)]
    rcases put_split hn z p.1 p.2 e with ⟨_, e2⟩ | ⟨_, t0, e1, e2⟩
    · rw [e2]; exact hg
    · rw [e2]; exact h _ _ e1
theorem unify_told (k : Nat) : ∀ (a b : Ty) (q : List (Ty × Ty)) (L : Lk) (r : Option Lk), Inv L → Rise L → Im L a → Im L b → QI L q → uni k ((a, b) :: q) L = some r → Told k a b q L r := by
  induction k using Nat.strongRecOn with
  | _ k ih =>
  intro a b q L r hI hr ha hb hQ h
  cases k with
  | zero => simp [uni] at h
  | succ k =>
    have hf := uni_fit h
    have hL := inv_len hI.toInv0 hr
    have nx := hI.nodes ha
    have ny := hI.nodes hb
    have fx := fine_good (t := a.apply (bnd L)) (by have := hI.deep ha; omega) (V_ok (hI.vars ha.1))
    have fy := fine_good (t := b.apply (bnd L)) (by have := hI.deep hb; omega) (V_ok (hI.vars hb.1))
    have hbo : ∀ n z, n ∉ z.vars → (a.apply (bnd L)).good = true → (b.apply (bnd L)).good = true → ((a.apply (bnd L) = .v n ∧ b.apply (bnd L) = z) ∨ (b.apply (bnd L) = .v n ∧ a.apply (bnd L) = z)) → n ∈ V ∧ bnd L n = none ∧ Img L z ∧ z.good = true ∧ ∀ m ∈ z.vars, m ∈ V := fun n z h1 h2 h3 h4 => bind_of hI ha hb h1 h2 h3 h4
    have hsp : ∀ l s l' s', a.apply (bnd L) = .a l s → b.apply (bnd L) = .a l' s' → QI L ((l, l') :: (s, s') :: q) := fun l s l' s' h1 h2 => (split_inv hI ha hb hQ (.inl ⟨h1, h2⟩)).1
    have uF : turn (a.apply (bnd L)) (b.apply (bnd L)) = .fail → uni (k + 1) ((a, b) :: q) L = some none := uni_fail hf
    have uS : turn (a.apply (bnd L)) (b.apply (bnd L)) = .skip → uni (k + 1) ((a, b) :: q) L = uni k q L := uni_skip hf
    have uB : ∀ n z, turn (a.apply (bnd L)) (b.apply (bnd L)) = .bind n z → bnd L n = none → keeps n z L → uni (k + 1) ((a, b) :: q) L = uni k q (putL n z L) := fun n z => uni_bind hf
    have uN : ∀ n z, turn (a.apply (bnd L)) (b.apply (bnd L)) = .bind n z → bnd L n = none → ¬ keeps n z L → uni (k + 1) ((a, b) :: q) L = some none := fun n z => uni_loses hf
    have uP : ∀ l l' s s', turn (a.apply (bnd L)) (b.apply (bnd L)) = .split l l' s s' → uni (k + 1) ((a, b) :: q) L = uni k ((l, l') :: (s, s') :: q) L := fun l l' s s' => uni_split hf
    have fold : ∀ R, Ev (fun m => spec_leUnify.j0 m false (!(fineB (a.apply (bnd L)) && fineB (b.apply (bnd L)))) (ks L) (tS L) (toS (a.apply (bnd L))).f0 (toS (a.apply (bnd L))).f1 (toS (b.apply (bnd L))).f0 (toS (b.apply (bnd L))).f1) R → Ev (fun m => spec_leUnify.f m (ks L) (tS L) (toS a).f0 (toS a).f1 (toS b).f0 (toS b).f1 false) R := by
      intro R hR
      refine Ev.succ ?_
      simp only [spec_leUnify.f]
      refine Ev.bind (applyL_ev L (by omega) a) (Ev.bind (applyL_ev L (by omega) b) (Ev.bind (leWay_ev (a.apply (bnd L)) (by omega)) ?_))
      by_cases c : fineB (a.apply (bnd L)) = true
      · refine Ev.ite_pos c (Ev.bind (leWay_ev (b.apply (bnd L)) (by omega)) ?_)
        rw [c, Bool.true_and] at hR
        exact hR
      · refine Ev.ite_neg c ?_
        rw [Bool.eq_false_iff.mpr c, Bool.false_and] at hR
        exact hR
    rw [fx, fy] at fold
    clear hf ha hb
    generalize a.apply (bnd L) = x at *
    generalize b.apply (bnd L) = y at *
    by_cases hg : (x.good && y.good) = true
    case neg =>
      have hg' := Bool.eq_false_iff.mpr hg
      have ht : turn x y = .fail := by
        unfold turn
        by_cases gx : x.good = true
        · rw [if_pos gx, if_neg (fun gy => hg (by rw [gx, gy]; rfl))]
        · rw [if_neg gx]
      rw [uF ht] at h
      refine .inl ⟨(Option.some.inj h).symm, ks L, tS L, fold _ ?_⟩
      rw [hg']
      refine Ev.succ ?_
      simp only [spec_leUnify.j0]
      exact Ev.ite_pos rfl (Ev.now _)
    obtain ⟨gx, gy⟩ := (Bool.and_eq_true _ _).mp hg
    have tt : turn x y = turn2 (swp x y).1 (swp x y).2 := by unfold turn; rw [if_pos gx, if_pos gy]
    rw [hg] at fold
    by_cases hs : x.same y = true
    · have e := (same_iff x y).mp hs
      have ht : turn x y = .skip := by
        rw [tt]
        rcases swp_cases x y with e2 | e2
        · rw [e2]; exact turn2_same hs
        · rw [e2]; exact turn2_same (by rw [e]; exact (same_iff y y).mpr rfl)
      rw [uS ht] at h
      refine .inr ⟨k, L, by omega, hI, hr, hQ, fold _ ?_, h⟩
      refine Ev.succ ?_
      simp only [spec_leUnify.j0]
      exact Ev.ite_neg (by simp) (Ev.bind (leSame_ev x y) (Ev.ite_pos hs (Ev.now _)))
    have hs' := Bool.eq_false_iff.mpr hs
    have fold1 : ∀ R, Ev (fun m => spec_leUnify.j1 m false (if ((toS x).f1.length : Int) = 0 then false else (((toS y).f1.length : Int) == 0)) (ks L) (tS L) (toS x).f0 (toS x).f1 (toS y).f0 (toS y).f1) R → Ev (fun m => spec_leUnify.f m (ks L) (tS L) (toS a).f0 (toS a).f1 (toS b).f0 (toS b).f1 false) R := by
      intro R hR
      refine fold _ (Ev.succ ?_)
      simp only [spec_leUnify.j0]
      refine Ev.ite_neg (by simp) (Ev.bind (leSame_ev x y) (Ev.ite_neg hs ?_))
      by_cases c : ((toS x).f1.length : Int) = 0
      · rw [if_pos c] at hR; exact Ev.ite_pos c hR
      · rw [if_neg c] at hR; exact Ev.ite_neg c hR
    clear fold
    -- a variable stands in the other
    have inn : ∀ n z, z.nodes ≤ 200 * 512 → n ∈ z.vars → turn x y = .fail → (∀ R, Ev (fun m => spec_leUnify.j2 m false (ks L) (tS L) n [] (toS z).f0 (toS z).f1) R → Ev (fun m => spec_leUnify.f m (ks L) (tS L) (toS a).f0 (toS a).f1 (toS b).f0 (toS b).f1 false) R) → Told (k + 1) a b q L r := by
      intro n z hz hm ht hR
      rw [uF ht] at h
      obtain ⟨o, e1, e2, e3⟩ := leVars_ev z (by omega)
      refine .inl ⟨(Option.some.inj h).symm, ks L, tS L, hR _ (Ev.succ ?_)⟩
      simp only [spec_leUnify.j2]
      exact Ev.ite_pos (by simp) (Ev.bind e1 (Ev.bind (has_ev o n e2) (Ev.ite_pos (decide_eq_true ((e3 n).mpr hm)) (Ev.now _))))
    have put : ∀ n z, z.nodes ≤ 200 * 512 → n ∉ z.vars → turn x y = .bind n z → ((x = .v n ∧ y = z) ∨ (y = .v n ∧ x = z)) → (∀ R, Ev (fun m => spec_leUnify.j2 m false (ks L) (tS L) n [] (toS z).f0 (toS z).f1) R → Ev (fun m => spec_leUnify.f m (ks L) (tS L) (toS a).f0 (toS a).f1 (toS b).f0 (toS b).f1 false) R) → Told (k + 1) a b q L r := by
      intro n z hz hm ht hxy hR
      obtain ⟨b1, b2, b3, b4, b5⟩ := hbo n z hm gx gy hxy
      have hrp := rise_put n z L hr b2
      have hpl := putL_len n z L
      obtain ⟨o, e1, e2, e3⟩ := leVars_ev z (by omega)
      have ev : Ev (fun m => spec_leUnify.f m (ks L) (tS L) (toS a).f0 (toS a).f1 (toS b).f0 (toS b).f1 false) (ks (putL n z L), tS (putL n z L), (putL n z L).all (fun p => fineB p.2)) := by
        refine hR _ (Ev.succ ?_)
        simp only [spec_leUnify.j2]
        exact Ev.ite_pos (by simp) (Ev.bind e1 (Ev.bind (has_ev o n e2) (Ev.ite_neg (by rw [decide_eq_true_eq, e3]; exact hm) (Ev.bind (put_ev n z L (by omega)) (Ev.bind (all_ev (putL n z L) (by omega) (fun p hp => by have := put_nodes hI b2 hrp b4 p hp; omega)) (Ev.now _))))))
      have hall := put_all hI b1 b2 hm b3 b4 b5 hr
      by_cases hk : keeps n z L
      · rw [hall.mpr hk] at ev
        rw [uB n z ht b2 hk] at h
        exact .inr ⟨k, putL n z L, by omega, hI.put b1 b2 hm b3 b4 hk b5, hrp, hQ.put b2, ev, h⟩
      · rw [Bool.eq_false_iff.mpr (fun e => hk (hall.mp e))] at ev
        rw [uN n z ht b2 hk] at h
        exact .inl ⟨(Option.some.inj h).symm, _, _, ev⟩
    cases x with
    | v n =>
      have hR : ∀ R, Ev (fun m => spec_leUnify.j2 m false (ks L) (tS L) n [] (toS y).f0 (toS y).f1) R → Ev (fun m => spec_leUnify.f m (ks L) (tS L) (toS a).f0 (toS a).f1 (toS b).f0 (toS b).f1 false) R := by
        intro R h
        refine fold1 _ (Ev.succ ?_)
        show Ev (fun m => spec_leUnify.j1 (m + 1) false false (ks L) (tS L) n [] (toS y).f0 (toS y).f1) _
        simp only [spec_leUnify.j1]
        exact Ev.ite_neg (by simp) h
      by_cases m : n ∈ y.vars
      · exact inn n y ny m (by rw [tt, swp_in m]; exact turn2_in hs' m) hR
      · exact put n y ny m (by rw [tt, swp_out m]; exact turn2_bind hs' m) (.inl ⟨rfl, rfl⟩) hR
    | a l s =>
      cases y with
      | v n =>
        have hR : ∀ R, Ev (fun m => spec_leUnify.j2 m false (ks L) (tS L) n [] (toS (.a l s)).f0 (toS (.a l s)).f1) R → Ev (fun m => spec_leUnify.f m (ks L) (tS L) (toS a).f0 (toS a).f1 (toS b).f0 (toS b).f1 false) R := by
          intro R h
          refine fold1 _ (Ev.succ ?_)
          show Ev (fun m => spec_leUnify.j1 (m + 1) false true (ks L) (tS L) (toS (.a l s)).f0 (toS (.a l s)).f1 n []) _
          simp only [spec_leUnify.j1]
          exact Ev.ite_pos trivial h
        by_cases m : n ∈ (Ty.a l s).vars
        · exact inn n _ nx m (by rw [tt, swp_arr_in m]; exact turn2_arr rfl) hR
        · exact put n _ nx m (by rw [tt, swp_arr_out m]; exact turn2_bind rfl m) (.inr ⟨rfl, rfl⟩) hR
      | a l' s' =>
        have ht : turn (.a l s) (.a l' s') = .split l l' s s' := by rw [tt, swp_arr]; exact turn2_split hs'
        rw [uP _ _ _ _ ht] at h
        have hq := hsp l s l' s' rfl rfl
        have hR : ∀ R, Ev (fun m => (spec_leUnify.f m (ks L) (tS L) (toS l).f0 (toS l).f1 (toS l').f0 (toS l').f1 false).bind fun bt130 => (if bt130.2.2 = true then ((spec_leUnify.f m bt130.1 bt130.2.1 (toS s).f0 (toS s).f1 (toS s').f0 (toS s').f1 false).bind fun bt139 => (some (bt139.1, bt139.2.1, bt139.2.2))) else (some (bt130.1, bt130.2.1, false)))) R → Ev (fun m => spec_leUnify.f m (ks L) (tS L) (toS a).f0 (toS a).f1 (toS b).f0 (toS b).f1 false) R := by
          intro R h
          refine fold1 _ (Ev.succ ?_)
          show Ev (fun m => spec_leUnify.j1 (m + 1) false false (ks L) (tS L) 0 [toS l, toS s] 0 [toS l', toS s']) _
          simp only [spec_leUnify.j1]
          refine Ev.ite_neg (by simp) (Ev.succ ?_)
          simp only [spec_leUnify.j2, two0, two1]
          refine Ev.ite_neg (by simp) (Ev.ite_pos (by simp) (Ev.ite_pos (by simp) ?_))
          refine Ev.congr (fun m => ?_) h
          congr 1
        rcases ih k (by omega) l l' ((s, s') :: q) L r hI hr (hq _ (List.mem_cons_self ..)).1 (hq _ (List.mem_cons_self ..)).2 (fun p hp => hq p (List.mem_cons_of_mem _ hp)) h with ⟨e, vs, ts, h1⟩ | ⟨k1, L1, hk1, hI1, hr1, hQ1, h1, h2⟩
        · exact .inl ⟨e, vs, ts, hR _ (Ev.bind h1 (Ev.ite_neg (by simp) (Ev.now _)))⟩
        · rcases ih k1 (by omega) s s' q L1 r hI1 hr1 (hQ1 _ (List.mem_cons_self ..)).1 (hQ1 _ (List.mem_cons_self ..)).2 (fun p hp => hQ1 p (List.mem_cons_of_mem _ hp)) h2 with ⟨e, vs, ts, h3⟩ | ⟨k2, L2, hk2, hI2, hr2, hQ2, h3, h4⟩
          · exact .inl ⟨e, vs, ts, hR _ (Ev.bind h1 (Ev.ite_pos rfl (Ev.bind h3 (Ev.now _))))⟩
          · exact .inr ⟨k2, L2, by omega, hI2, hr2, hQ2, hR _ (Ev.bind h1 (Ev.ite_pos rfl (Ev.bind h3 (Ev.now _)))), h4⟩
end Go.Proofs.YteffjlhljeodpaaGreatDoor.G

namespace Go.Proofs.YteffjlhljeodpaaGreatDoor.DrawL
open Go.RowKit Go.Proofs.YteffjlhljeodpaaGreatDoor.G Go.Proofs.YteffjlhljeodpaaGreatDoor.TxtL Go.Proofs.YteffjlhljeodpaaGreatDoor.EvL Go.Proofs.YteffjlhljeodpaaGreatDoorW.PrintWords Go.Proofs.YteffjlhljeodpaaGreatDoorW.PrintLast
set_option linter.unusedVariables false

def Bytes (c : List Int) : Prop := c.length ≤ 1048576 ∧ ∀ x ∈ c, 0 ≤ x ∧ x ≤ 255
theorem wf8 {n : Int} (h : (Lit.int .u8 n).wf = true) : 0 ≤ n ∧ n ≤ 255 := by
  have h' : (decide (IntKind.u8.min ≤ n) && decide (n ≤ IntKind.u8.max)) = true := h
  simp only [Bool.and_eq_true, decide_eq_true_iff] at h'
  exact ⟨h'.1, h'.2⟩
theorem and255 (x : Int) : 0 ≤ Go.bits .and .u64 x 255 ∧ Go.bits .and .u64 x 255 ≤ 255 := by
  have h2 : (BitVec.ofInt 64 x &&& BitVec.ofInt 64 255).toNat ≤ 255 := by
    rw [BitVec.toNat_and]
    exact Nat.le_trans Nat.and_le_right (by decide)
  show 0 ≤ IntKind.u64.wrap ((BitVec.ofInt 64 x &&& BitVec.ofInt 64 255).toNat : Int) ∧ IntKind.u64.wrap ((BitVec.ofInt 64 x &&& BitVec.ofInt 64 255).toNat : Int) ≤ 255
  rw [IntKind.wrap_u64]
  omega
theorem rd_byte {c : List Int} (hc : Bytes c) (a : Int) (h0 : 0 ≤ a) (h1 : a < c.length) : 0 ≤ rd c a ∧ rd c a ≤ 255 := by
  refine hc.2 _ ?_
  unfold rd
  rw [List.getD_eq_getElem?_getD, List.getElem?_eq_getElem (by omega : a.toNat < c.length)]
  exact List.getElem_mem _
theorem next_ev {c : List Int} (hc : Bytes c) (a s : Int) (h0 : 0 ≤ a) (h1 : a ≤ 4000000) : ∃ r s', spec_l1Cur_next.f c a s = some (r, a + 1, s') ∧ 0 ≤ r ∧ r ≤ 255 := by
  have hl := hc.1
  have w1 : wrap64 (a + 1) = a + 1 := w64 (by omega) (by omega)
  have wa : ∀ x, 0 ≤ wrap64 (Go.bits .and .u64 x 255) ∧ wrap64 (Go.bits .and .u64 x 255) ≤ 255 := fun x => by
    have := and255 x
    rw [w64 (by omega) (by omega)]; exact this
  unfold spec_l1Cur_next.f
  rw [w1]
  by_cases h : a < (c.length : Int)
  · rw [if_pos h, if_pos h0, if_pos (by omega)]
    have hr := rd_byte hc a h0 h
    exact ⟨_, _, rfl, by rw [w64 (by omega) (by omega)]; exact hr⟩
  · rw [if_neg h, if_neg (by omega)]
    exact ⟨_, _, rfl, wa _⟩
theorem pick_ev {c : List Int} (hc : Bytes c) (a s n : Int) (h0 : 0 ≤ a) (h1 : a ≤ 3000000) (hn : 1 ≤ n) (hn2 : n ≤ 60000) : ∃ r a' s', spec_l1Cur_pick.f c a s n = some (r, a', s') ∧ 0 ≤ r ∧ r < n ∧ a ≤ a' ∧ a' ≤ a + 2 := by
  unfold spec_l1Cur_pick.f
  by_cases h : n ≤ 1
  · rw [if_pos h]; exact ⟨_, _, _, rfl, by omega, by omega, by omega, by omega⟩
  rw [if_neg h]
  obtain ⟨r, s1, e1, g0, g1⟩ := next_ev hc a s h0 (by omega)
  rw [e1, Option.bind_some]
  by_cases h2 : n > 200
  · rw [if_pos h2]
    obtain ⟨r2, s2, e2, k0, k1⟩ := next_ev hc (a + 1) s1 (by omega) (by omega)
    rw [e2, Option.bind_some, if_neg (by omega)]
    dsimp only
    have w1 : wrap64 (r * 256) = r * 256 := w64 (by omega) (by omega)
    have w2 : wrap64 (r * 256 + r2) = r * 256 + r2 := w64 (by omega) (by omega)
    rw [w1, w2]
    exact ⟨_, _, _, rfl, Int.tmod_nonneg _ (by omega), Int.tmod_lt_of_pos _ (by omega), by omega, by omega⟩
  · rw [if_neg h2, if_neg (by omega)]
    exact ⟨_, _, _, rfl, Int.tmod_nonneg _ g0, Int.tmod_lt_of_pos _ (by omega), by show a ≤ a + 1; omega, by show a + 1 ≤ a + 2; omega⟩
theorem one_ev {c : List Int} (hc : Bytes c) (a s n : Int) (h0 : 0 ≤ a) (h1 : a ≤ 3000000) (hn : 1 ≤ n) (hn2 : n ≤ 60000) : ∃ r a' s', spec_l1Cur_one.f c a s n = some (r, a', s') ∧ a ≤ a' ∧ a' ≤ a + 2 := by
  obtain ⟨r, a', s', e, _, _, g1, g2⟩ := pick_ev hc a s n h0 h1 hn hn2
  unfold spec_l1Cur_one.f
  rw [e]
  exact ⟨_, _, _, rfl, g1, g2⟩
theorem among_ev {c : List Int} (hc : Bytes c) (a s : Int) (l : List Int) (h0 : 0 ≤ a) (h1 : a ≤ 3000000) (hn : 1 ≤ l.length) (hn2 : l.length ≤ 60000) : ∃ r a' s', spec_l1Cur_among.f c a s l = some (r, a', s') ∧ a ≤ a' ∧ a' ≤ a + 2 := by
  obtain ⟨r, a', s', e, g3, g4, g1, g2⟩ := pick_ev hc a s l.length h0 h1 (by omega) (by omega)
  unfold spec_l1Cur_among.f
  rw [e, Option.bind_some, if_pos g3, if_pos g4]
  exact ⟨_, _, _, rfl, g1, g2⟩
theorem of_ev {c : List Int} (hc : Bytes c) (a s : Int) (l : List ByteArray) (h0 : 0 ≤ a) (h1 : a ≤ 3000000) (hn : 1 ≤ l.length) (hn2 : l.length ≤ 60000) : ∃ (i : Nat) (a' s' : Int), i < l.length ∧ spec_l1Cur_of.f c a s l = some (l.getD i ByteArray.empty, a', s') ∧ a ≤ a' ∧ a' ≤ a + 2 := by
  obtain ⟨r, a', s', e, g3, g4, g1, g2⟩ := pick_ev hc a s l.length h0 h1 (by omega) (by omega)
  unfold spec_l1Cur_of.f
  rw [e, Option.bind_some, if_pos g3, if_pos g4]
  exact ⟨r.toNat, _, _, by omega, rfl, g1, g2⟩


theorem few_v {r : Int} (h0 : 0 ≤ r) (h1 : r < 4) : Few (.v r) := ⟨⟨by omega, by omega⟩, fun n hn => by
  rw [List.mem_singleton.mp hn]
  have : r = 0 ∨ r = 1 ∨ r = 2 ∨ r = 3 := by omega
  rcases this with rfl | rfl | rfl | rfl <;> decide⟩
theorem few_a {t u : Ty} (h : Few t) (k : Few u) : Few (.a t u) := ⟨⟨h.1, k.1⟩, fun n hn => by
  rcases (vfold_mem u.vars t.vars).mp hn with h' | h'
  · exact h.2 n h'
  · exact k.2 n h'⟩
theorem typeOf_ev {c : List Int} (hc : Bytes c) : ∀ (d : Nat) (a s : Int), d ≤ 4 → 0 ≤ a → a + 4 * 2 ^ d ≤ 100000 → ∃ t : Ty, Few t ∧ t.dep ≤ d + 1 ∧ ∃ a' s', Ev (fun m => spec_l1Cur_typeOf.f m c a s d) ((toS t).f0, (toS t).f1, a', s') ∧ a ≤ a' ∧ a' ≤ a + 4 * 2 ^ d - 2
  | 0, a, s, hd, h0, h1 => by
    obtain ⟨r, a1, s1, e1, g1, g2, g3, g4⟩ := pick_ev hc a s 4 h0 (by omega) (by omega) (by omega)
    refine ⟨.v r, few_v (by omega) (by omega), Nat.le_refl _, a1, s1, Ev.succ ?_, g3, by omega⟩
    simp only [spec_l1Cur_typeOf.f]
    refine Ev.ite_pos rfl (Ev.succ ?_)
    simp only [spec_l1Cur_typeOf.j0, e1, Option.bind_some]
    exact Ev.ite_pos trivial (Ev.now _)
  | d + 1, a, s, hd, h0, h1 => by
    have w2 : wrap64 (((d + 1 : Nat) : Int) - 1) = (d : Int) := by rw [w64 (by omega) (by omega)]; omega
    have hp : (2 : Int) ^ (d + 1) = 2 * 2 ^ d := by rw [Int.pow_succ]; omega
    have hq : (1 : Int) ≤ 2 ^ d ∧ (2 : Int) ^ d ≤ 16 := by
      have : d = 0 ∨ d = 1 ∨ d = 2 ∨ d = 3 := by omega
      rcases this with rfl | rfl | rfl | rfl <;> decide
    rw [hp] at h1 ⊢
    obtain ⟨b, a1, s1, e1, g1, g2⟩ := one_ev hc a s 3 h0 (by omega) (by omega) (by omega)
    cases b with
    | true =>
      obtain ⟨r, a2, s2, e2, k1, k2, k3, k4⟩ := pick_ev hc a1 s1 4 (by omega) (by omega) (by omega) (by omega)
      refine ⟨.v r, few_v (by omega) (by omega), by show 1 ≤ _; omega, a2, s2, Ev.succ ?_, by omega, by omega⟩
      simp only [spec_l1Cur_typeOf.f, e1, Option.bind_some]
      refine Ev.ite_neg (by omega) (Ev.succ ?_)
      simp only [spec_l1Cur_typeOf.j0, e2, Option.bind_some]
      exact Ev.ite_pos trivial (Ev.now _)
    | false =>
      obtain ⟨t, t1, t2, a2, s2, h2, g5, g6⟩ := typeOf_ev hc d a1 s1 (by omega) (by omega) (by omega)
      obtain ⟨u, u1, u2, a3, s3, h3, g7, g8⟩ := typeOf_ev hc d a2 s2 (by omega) (by omega) (by omega)
      refine ⟨.a t u, few_a t1 u1, by show 1 + max t.dep u.dep ≤ _; omega, a3, s3, Ev.succ ?_, by omega, by omega⟩
      simp only [spec_l1Cur_typeOf.f, e1, Option.bind_some]
      refine Ev.ite_neg (by omega) (Ev.succ ?_)
      simp only [spec_l1Cur_typeOf.j0, w2]
      refine Ev.ite_neg (by simp) (Ev.bind h2 (Ev.bind h3 (Ev.of_eq (Ev.now _) ?_)))
      simp only [toS_eta]
      rfl
def consts : List ByteArray := [(⟨#[]⟩ : ByteArray), (⟨#[116]⟩ : ByteArray), (⟨#[116, 49, 48, 48, 48]⟩ : ByteArray), (⟨#[116, 57, 57, 57]⟩ : ByteArray), (⟨#[40, 116, 48, 62, 116, 49]⟩ : ByteArray), (⟨#[116, 48, 49]⟩ : ByteArray), (⟨#[40, 116, 48, 32, 62, 32, 116, 49, 41]⟩ : ByteArray)]
theorem t999 : B (tyl (.v 999)) = (⟨#[116, 57, 57, 57]⟩ : ByteArray) := by
  have : tyl (.v 999) = [116, 57, 57, 57] := by decide +kernel
  rw [this]; rfl
theorem consts_dr (i : Nat) (hi : i < 7) : DrN 5 (consts.getD i ByteArray.empty) := by
  have : i = 0 ∨ i = 1 ∨ i = 2 ∨ i = 3 ∨ i = 4 ∨ i = 5 ∨ i = 6 := by omega
  rcases this with rfl | rfl | rfl | rfl | rfl | rfl | rfl
  · exact .inr ⟨0, by omega, rfl⟩
  · exact .inr ⟨1, by omega, rfl⟩
  · exact .inr ⟨2, by omega, rfl⟩
  · exact .inl ⟨.v 999, ⟨⟨by omega, by omega⟩, fun n hn => by rw [List.mem_singleton.mp hn]; decide⟩, by show 1 ≤ 5; omega, small_good (t := .v 999) ⟨by omega, by omega⟩ (by show 1 ≤ 6; omega), t999.symm⟩
  · exact .inr ⟨3, by omega, rfl⟩
  · exact .inr ⟨4, by omega, rfl⟩
  · exact .inr ⟨5, by omega, rfl⟩
theorem few_nodes {t : Ty} {d : Nat} (h : t.dep ≤ d) (hd : d ≤ 6) : t.nodes ≤ 64 := by
  have := nodes_dep t
  have : 2 ^ t.dep ≤ 2 ^ 6 := Nat.pow_le_pow_right (by omega) (by omega)
  omega
theorem typeText_ev {c : List Int} (hc : Bytes c) (a s : Int) (h0 : 0 ≤ a) (h1 : a ≤ 90000) : ∃ x a' s', DrN 5 x ∧ Ev (fun m => spec_l1Cur_typeText.f m c a s) (x, a', s') ∧ a ≤ a' ∧ a' ≤ a + 100 := by
  obtain ⟨r, a1, s1, e1, g1, g2, g3, g4⟩ := pick_ev hc a s 4 h0 (by omega) (by omega) (by omega)
  obtain ⟨d, rfl⟩ : ∃ d : Nat, r = (d : Int) := ⟨r.toNat, by omega⟩
  have w1 : wrap64 (1 + (d : Int)) = ((d + 1 : Nat) : Int) := by rw [w64 (by omega) (by omega)]; omega
  have hq : (2 : Int) ^ (d + 1) ≤ 16 := by
    have : d = 0 ∨ d = 1 ∨ d = 2 ∨ d = 3 := by omega
    rcases this with rfl | rfl | rfl | rfl <;> decide
  obtain ⟨t, t1, t2, a2, s2, h2, g5, g6⟩ := typeOf_ev hc (d + 1) a1 s1 (by omega) (by omega) (by omega)
  have hn := few_nodes t2 (by omega)
  obtain ⟨b, a3, s3, e3, g7, g8⟩ := one_ev hc a2 s2 30 (by omega) (by omega) (by omega) (by omega)
  have hx := leText_ev t t1.1 (by omega)
  cases b with
  | false =>
    refine ⟨B (tyl t), a3, s3, .inl ⟨t, t1, by omega, small_good t1.1 (by omega), rfl⟩, ?_, by omega, by omega⟩
    simp only [spec_l1Cur_typeText.f, e1, Option.bind_some, w1]
    refine Ev.bind h2 (Ev.bind hx ?_)
    simp only [e3, Option.bind_some]
    exact Ev.ite_neg (by simp) (Ev.now _)
  | true =>
    obtain ⟨i, a4, s4, hi, e4, g9, g10⟩ := of_ev hc a3 s3 consts (by omega) (by omega) (by decide) (by decide)
    refine ⟨consts.getD i ByteArray.empty, a4, s4, consts_dr i hi, ?_, by omega, by omega⟩
    simp only [spec_l1Cur_typeText.f, e1, Option.bind_some, w1]
    refine Ev.bind h2 (Ev.bind hx ?_)
    simp only [e3, Option.bind_some]
    refine Ev.ite_pos trivial ?_
    show Ev (fun m => (spec_l1Cur_of.f c a3 s3 consts).bind _) _
    rw [e4]
    exact Ev.now _
theorem binds_ev {c : List Int} (hc : Bytes c) : ∀ (d v : Nat) (L : List S29) (a s : Int), v + d = 4 → L.length ≤ v → (∀ x ∈ L, DrN 5 x.f1) → 0 ≤ a → a ≤ 1000 * v + 1000 → ∃ L' a' s', Ev (fun m => spec_l1Cur_binds.l0 m L v c a s) (L', a', s') ∧ L'.length ≤ 5 ∧ (∀ x ∈ L', DrN 5 x.f1) ∧ 0 ≤ a' ∧ a' ≤ 6000
  | 0, v, L, a, s, hv, hl, hd, h0, h1 => by
    obtain rfl : v = 4 := by omega
    obtain ⟨b, a1, s1, e1, g1, g2⟩ := one_ev hc a s 30 h0 (by omega) (by omega) (by omega)
    cases b with
    | false =>
      refine ⟨L, a1, s1, Ev.succ ?_, by omega, hd, by omega, by omega⟩
      simp only [spec_l1Cur_binds.l0, e1, Option.bind_some]
      exact Ev.ite_neg (by omega) (Ev.ite_neg (by simp) (Ev.now _))
    | true =>
      obtain ⟨n, a2, s2, e2, g3, g4⟩ := among_ev hc a1 s1 [0, 999, 1000] (by omega) (by omega) (by decide) (by decide)
      obtain ⟨x, a3, s3, hx, h3, g5, g6⟩ := typeText_ev hc a2 s2 (by omega) (by omega)
      refine ⟨L ++ [⟨n, x⟩], a3, s3, Ev.succ ?_, by simp; omega, fun y hy => ?_, by omega, by omega⟩
      · simp only [spec_l1Cur_binds.l0, e1, e2, Option.bind_some]
        exact Ev.ite_neg (by omega) (Ev.ite_pos trivial (Ev.bind h3 (Ev.ite_pos (by omega) (Ev.now _))))
      · rcases List.mem_append.mp hy with h | h
        · exact hd y h
        · rw [List.mem_singleton.mp h]; exact hx
  | d + 1, v, L, a, s, hv, hl, hd, h0, h1 => by
    have w1 : wrap64 ((v : Int) + 1) = ((v + 1 : Nat) : Int) := by rw [w64 (by omega) (by omega)]; omega
    obtain ⟨b, a1, s1, e1, g1, g2⟩ := one_ev hc a s 2 h0 (by omega) (by omega) (by omega)
    cases b with
    | false =>
      obtain ⟨L', a', s', i1, i2, i3, i4, i5⟩ := binds_ev hc d (v + 1) L a1 s1 (by omega) (by omega) hd (by omega) (by omega)
      refine ⟨L', a', s', Ev.succ ?_, i2, i3, i4, i5⟩
      simp only [spec_l1Cur_binds.l0, e1, Option.bind_some, w1]
      exact Ev.ite_pos (by omega) (Ev.ite_neg (by simp) i1)
    | true =>
      obtain ⟨r, a2, s2, e2, g3, g4, g5, g6⟩ := pick_ev hc a1 s1 3 (by omega) (by omega) (by omega) (by omega)
      obtain ⟨k, rfl⟩ : ∃ k : Nat, r = (k : Int) := ⟨r.toNat, by omega⟩
      have hq : (2 : Int) ^ k ≤ 4 := by
        have : k = 0 ∨ k = 1 ∨ k = 2 := by omega
        rcases this with rfl | rfl | rfl <;> decide
      obtain ⟨t, t1, t2, a3, s3, h3, g7, g8⟩ := typeOf_ev hc k a2 s2 (by omega) (by omega) (by omega)
      have hn := few_nodes t2 (by omega)
      have hx := leText_ev t t1.1 (by omega)
      obtain ⟨L', a', s', i1, i2, i3, i4, i5⟩ := binds_ev hc d (v + 1) (L ++ [⟨(v : Int), B (tyl t)⟩]) a3 s3 (by omega) (by simp; omega) (fun y hy => by
        rcases List.mem_append.mp hy with h | h
        · exact hd y h
        · rw [List.mem_singleton.mp h]; exact .inl ⟨t, t1, by omega, small_good t1.1 (by omega), rfl⟩) (by omega) (by omega)
      refine ⟨L', a', s', Ev.succ ?_, i2, i3, i4, i5⟩
      simp only [spec_l1Cur_binds.l0, e1, e2, Option.bind_some, w1]
      exact Ev.ite_pos (by omega) (Ev.ite_pos trivial (Ev.bind h3 (Ev.bind hx (Ev.ite_pos (by omega) i1))))
theorem draw_ev {c : List Int} (hc : Bytes c) : ∃ L x, Ev (fun m => spec_DrawApplyType.f m c) (L, x) ∧ L.length ≤ 5 ∧ (∀ y ∈ L, DrN 5 y.f1) ∧ DrN 5 x := by
  obtain ⟨L, a, s, h1, h2, h3, h4, h5⟩ := binds_ev hc 4 0 [] 0 0 (by omega) (by simp) (fun x h => by simp at h) (by omega) (by omega)
  obtain ⟨x, a', s', hx, h6, _⟩ := typeText_ev hc a s h4 (by omega)
  refine ⟨L, x, ?_, h2, h3, hx⟩
  unfold spec_DrawApplyType.f
  refine Ev.bind (g := fun m => spec_l1Cur_binds.f m c 0 0) h1 (Ev.bind h6 (Ev.now _))
end Go.Proofs.YteffjlhljeodpaaGreatDoor.DrawL
