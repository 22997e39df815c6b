/- Part 2 of 6 of the proof that the law FnUnifiedCardSaid holds: for every input that can be read the call returns true and leaves its arguments as they were; no condition but those each theorem names. -/
import Derived.Test.YteffjlhljeodpaaGreatDoorQUnifiedW1
import Derived.Test.YteffjlhljeodpaaGreatDoorQUnified1
namespace Go.Proofs.YteffjlhljeodpaaGreatDoor.G
open Go.RowKit Go.Proofs.YteffjlhljeodpaaGreatDoorW.PrintWords Go.Proofs.YteffjlhljeodpaaGreatDoorW.PrintLast Go.Proofs.YteffjlhljeodpaaGreatDoorW.PrintMore Go.Proofs.YteffjlhljeodpaaGreatDoor.Short
attribute [local go_sem] max2_int min2_int max_two min_two max_three min_three max_four min_four   -- for this text's walks alone
set_option linter.unusedVariables false
set_option linter.unusedSimpArgs false

def spec_l1Cur_typeText.f (k : Nat) (s0_0 : List Int) (s0_1 : Int) (s0_2 : Int) : Option (ByteArray × Int × Int) := (spec_l1Cur_pick.f s0_0 s0_1 s0_2 4).bind fun bt101 => ((spec_l1Cur_typeOf.f k s0_0 bt101.2.1 bt101.2.2 (wrap64 (1 + bt101.1))).bind fun bt104 => ((spec_leText.f k bt104.1 bt104.2.1).bind fun t110 => ((spec_l1Cur_one.f s0_0 bt104.2.2.1 bt104.2.2.2 30).bind fun bt111 => (if bt111.1 = true then ((spec_l1Cur_of.f s0_0 bt111.2.1 bt111.2.2 (([(⟨#[]⟩ : ByteArray), (⟨#[116]⟩ : ByteArray), (⟨#[116, 49, 48, 48, 48]⟩ : ByteArray), (⟨#[116, 57, 57, 57]⟩ : ByteArray), (⟨#[40, 116, 48, 62, 116, 49]⟩ : ByteArray), (⟨#[116, 48, 49]⟩ : ByteArray), (⟨#[40, 116, 48, 32, 62, 32, 116, 49, 41]⟩ : ByteArray)] : List ByteArray))).bind fun bt117 => (some (bt117.1, bt117.2.1, bt117.2.2))) else (some (t110, bt111.2.1, bt111.2.2))))))
set_option maxHeartbeats 8000000 in
set_option maxRecDepth 100000 in
theorem spec_l1Cur_typeText.calls (k : Nat) (g : Nat) (s0_0 : List Int) (s0_1 : Int) (s0_2 : Int) (r1 : ByteArray) (r2 : Int) (r3 : Int) (w0 w : World) (hI : IsS40 w0 w g s0_0 s0_1 s0_2) (hB : Below w0.heap.size w0 w) (h : spec_l1Cur_typeText.f k s0_0 s0_1 s0_2 = some (r1, r2, r3)) :
  Calls Tryz.prog 11 #[.pointer (some ⟨g, 0, none⟩)] w fun e w' => e = .returned (.string r1) ∧ IsS40 w0 w' g s0_0 r2 r3 ∧ Below w0.heap.size w0 w' ∧ KeepBut w w' g none := by
 have HI0 := aK hI
 have HK := aK (KeepBut.refl w g none)
 have HL := aK hB.size
 clear hI
 have HW0 := aK hB.size
 have HB := aK hB
 clear hB
 have H : ((spec_l1Cur_pick.f s0_0 s0_1 s0_2 4).bind fun bt101 => ((spec_l1Cur_typeOf.f k s0_0 bt101.2.1 bt101.2.2 (wrap64 (1 + bt101.1))).bind fun bt104 => ((spec_leText.f k bt104.1 bt104.2.1).bind fun t110 => ((spec_l1Cur_one.f s0_0 bt104.2.2.1 bt104.2.2.2 30).bind fun bt111 => (if bt111.1 = true then ((spec_l1Cur_of.f s0_0 bt111.2.1 bt111.2.2 (([(⟨#[]⟩ : ByteArray), (⟨#[116]⟩ : ByteArray), (⟨#[116, 49, 48, 48, 48]⟩ : ByteArray), (⟨#[116, 57, 57, 57]⟩ : ByteArray), (⟨#[40, 116, 48, 62, 116, 49]⟩ : ByteArray), (⟨#[116, 48, 49]⟩ : ByteArray), (⟨#[40, 116, 48, 32, 62, 32, 116, 49, 41]⟩ : ByteArray)] : List ByteArray))).bind fun bt117 => (some (bt117.1, bt117.2.1, bt117.2.2))) else (some (t110, bt111.2.1, bt111.2.2))))))) = some (r1, r2, r3) := h
 clear h
 obtain ⟨⟨t101, t102, t103⟩, A2, H⟩ := oB H
 try dsimp only at H
 obtain ⟨⟨t104, t105, t108, t109⟩, A3, H⟩ := oB H
 try dsimp only at H
 obtain ⟨t110, A4, H⟩ := oB H
 try dsimp only at H
 obtain ⟨⟨t111, t112, t113⟩, A5, H⟩ := oB H
 try dsimp only at H
 by_cases c6 : t111 = true
 ·subst c6
  rw [if_pos rfl] at H
  obtain ⟨y114, hy114⟩ : ∃ y_ : List ByteArray, y_ = (([(⟨#[]⟩ : ByteArray), (⟨#[116]⟩ : ByteArray), (⟨#[116, 49, 48, 48, 48]⟩ : ByteArray), (⟨#[116, 57, 57, 57]⟩ : ByteArray), (⟨#[40, 116, 48, 62, 116, 49]⟩ : ByteArray), (⟨#[116, 48, 49]⟩ : ByteArray), (⟨#[40, 116, 48, 32, 62, 32, 116, 49, 41]⟩ : ByteArray)] : List ByteArray)) := ⟨_, rfl⟩
  replace H : ((spec_l1Cur_of.f s0_0 t112 t113 y114).bind fun bt117 => (some (bt117.1, bt117.2.1, bt117.2.2))) = some (r1, r2, r3) := by first | (rw [hy114]; with_reducible exact H) | (have H2_ := (Option.bind_some _ _).symm.trans H; rw [hy114]; with_reducible exact H2_) | (have H2_ := (Option.bind_some _ _).symm.trans H; with_reducible exact H2_) | with_reducible exact H | (rw [hy114]; exact H) | exact H
  have Ny114 := aK hy114
  clear hy114
  obtain ⟨⟨t117, t118, t119⟩, A7, H⟩ := oB H
  try dsimp only at H
  simp only [Option.some.injEq, Prod.mk.injEq] at H
  obtain ⟨rfl, rfl, rfl⟩ := H
  go_enter Tryz.func11, Tryz.ntmps11
  go_wp2_with (first | ((with_reducible refine gate_callee (f := 31) rfl ?_); refine goesL_ (some 6) rfl rfl Tryz.func31 (by kernel_rfl) rfl #[.pointer (some ⟨g, 0, none⟩), .int .i64 4] rfl tA ?_; (with_reducible refine (spec_l1Cur_pick.calls g s0_0 s0_1 s0_2 4 t101 t102 t103 w0 _ ?side1 ?side2 A2.out).mono ?_); (case side1 => exact yI HI0); (case side2 => exact yH HB); rintro e w8 ⟨rfl, hi, hb, hk⟩; refine ⟨_, rfl, ?_⟩; have n0_ := aK (KeepBut.trans (yK HK) hk (.inl rfl)); have n1_ := aK (hb); have n2_ := aK (hi); clear HK; have HK := n0_; clear n0_; clear HB; have HB := n1_; clear n1_; clear HI0; have HI0 := n2_; clear n2_; (try clear hb)) | ((with_reducible refine gate_callee (f := 30) rfl ?_); refine goesL_ (some 8) rfl rfl Tryz.func30 (by kernel_rfl) rfl #[.pointer (some ⟨g, 0, none⟩), .int .i64 (wrap64 (1 + t101))] rfl tA ?_; (with_reducible refine (spec_l1Cur_typeOf.calls k g s0_0 t102 t103 (wrap64 (1 + t101)) t104 t105 t108 t109 w0 _ ?side1 ?side2 A3.out).mono ?_); (case side1 => exact yI HI0); (case side2 => exact yH HB); rintro e w9 ⟨v106, rfl, ho0, hi, hb, hk⟩; refine ⟨_, rfl, ?_⟩; have HO107 := aK (Kd.N_lower (Kd.N_mono (ok' := fun k_ => k_ ≠ g) ho0 (fun k_ hk_ => (IsS40.fresh (yI HI0) k_ hk_))) (keep_size (w := w) (g := g) (row := none) (yK HK))); have n1_ := aK (KeepBut.trans (yK HK) hk (.inl rfl)); have n2_ := aK (hb); have n3_ := aK (hi); clear HK; have HK := n1_; clear n1_; clear HB; have HB := n2_; clear n2_; clear HI0; have HI0 := n3_; clear n3_; (try clear hb); (try clear ho0); obtain ⟨Ao10, co10, eo10⟩ := Kd.N_slice HO107.out; subst eo10) | ((with_reducible refine gate_callee (f := 28) rfl ?_); refine goesL_ (some 9) rfl rfl Tryz.func28 (by kernel_rfl) rfl #[.agg #[.int .i64 t104, .slice Ao10 t105.length co10]] rfl tA ?_; (with_reducible refine (spec_leText.calls k t104 _ _ t105 t110 _ ?side1 ?side2 A4.out).mono ?_); (case side1 => exact sC ((Kd.N_reads' HO107.out).2.2)); (case side2 => exact (Kd.N_reads' HO107.out).2.1); rintro e w11 ⟨rfl, hb⟩; refine ⟨_, rfl, ?_⟩; have n0_ := aK (Kd.N_below HO107.out hb); have n1_ := aK (IsS40.below (yI HI0) hb); have n2_ := aK (KeepBut.trans (yK HK) (KeepBut.of_below hb g none) (.inl rfl)); have n3_ := aK (below_step (yH HB) hb); clear HO107; have HO107 := n0_; clear n0_; clear HI0; have HI0 := n1_; clear n1_; clear HK; have HK := n2_; clear n2_; clear HB; have HB := n3_; clear n3_; (try clear hb)) | ((with_reducible refine gate_callee (f := 13) rfl ?_); refine goesL_ (some 11) rfl rfl Tryz.func13 (by kernel_rfl) rfl #[.pointer (some ⟨g, 0, none⟩), .int .i64 30] rfl tA ?_; (with_reducible refine (spec_l1Cur_one.calls g s0_0 t108 t109 30 true t112 t113 w0 _ ?side1 ?side2 A5.out).mono ?_); (case side1 => exact yI HI0); (case side2 => exact yH HB); rintro e w12 ⟨rfl, hi, hb, hk⟩; refine ⟨_, rfl, ?_⟩; have n0_ := aK (Kd.N_mono (Kd.N_keep (Kd.N_mono (ok := fun k_ => k_ ≠ g) HO107.out (fun k_ hk_ => (⟨hk_, hk_⟩ : _ ∧ k_ ≠ g))) hk (fun _ h => h.2)) (fun _ h => h.1)); have n1_ := aK (KeepBut.trans (yK HK) hk (.inl rfl)); have n2_ := aK (hb); have n3_ := aK (hi); clear HO107; have HO107 := n0_; clear n0_; clear HK; have HK := n1_; clear n1_; clear HB; have HB := n2_; clear n2_; clear HI0; have HI0 := n3_; clear n3_; (try clear hb)) | ((with_reducible refine gate_dst (N := 13) rfl ?_); refine Kd.R_lit Kd.string _ 9 ?hg (N := 13) ?hd (xs := ([(⟨#[]⟩ : ByteArray), (⟨#[116]⟩ : ByteArray), (⟨#[116, 49, 48, 48, 48]⟩ : ByteArray), (⟨#[116, 57, 57, 57]⟩ : ByteArray), (⟨#[40, 116, 48, 62, 116, 49]⟩ : ByteArray), (⟨#[116, 48, 49]⟩ : ByteArray), (⟨#[40, 116, 48, 32, 62, 32, 116, 49, 41]⟩ : ByteArray)] : List ByteArray)) (inner := [.string (⟨#[]⟩ : ByteArray), .string (⟨#[116]⟩ : ByteArray), .string (⟨#[116, 49, 48, 48, 48]⟩ : ByteArray), .string (⟨#[116, 57, 57, 57]⟩ : ByteArray), .string (⟨#[40, 116, 48, 62, 116, 49]⟩ : ByteArray), .string (⟨#[116, 48, 49]⟩ : ByteArray), .string (⟨#[40, 116, 48, 32, 62, 32, 116, 49, 41]⟩ : ByteArray)]) (ok := fun _ => True) (okp := fun _ => True) ?hr ?hp (fun _ hk => hk) trivial (Below.refl _ _) (Nat.le_refl _) (by simp) ?_; (case hd => rfl); (case hg => rfl); (case hr => go_simp); (case hp => exact (Reps.one (show Kd.M Kd.string _ _ _ (⟨#[]⟩ : ByteArray) [.string (⟨#[]⟩ : ByteArray)] from rfl) (Reps.one (show Kd.M Kd.string _ _ _ (⟨#[116]⟩ : ByteArray) [.string (⟨#[116]⟩ : ByteArray)] from rfl) (Reps.one (show Kd.M Kd.string _ _ _ (⟨#[116, 49, 48, 48, 48]⟩ : ByteArray) [.string (⟨#[116, 49, 48, 48, 48]⟩ : ByteArray)] from rfl) (Reps.one (show Kd.M Kd.string _ _ _ (⟨#[116, 57, 57, 57]⟩ : ByteArray) [.string (⟨#[116, 57, 57, 57]⟩ : ByteArray)] from rfl) (Reps.one (show Kd.M Kd.string _ _ _ (⟨#[40, 116, 48, 62, 116, 49]⟩ : ByteArray) [.string (⟨#[40, 116, 48, 62, 116, 49]⟩ : ByteArray)] from rfl) (Reps.one (show Kd.M Kd.string _ _ _ (⟨#[116, 48, 49]⟩ : ByteArray) [.string (⟨#[116, 48, 49]⟩ : ByteArray)] from rfl) (Reps.one (show Kd.M Kd.string _ _ _ (⟨#[40, 116, 48, 32, 62, 32, 116, 49, 41]⟩ : ByteArray) [.string (⟨#[40, 116, 48, 32, 62, 32, 116, 49, 41]⟩ : ByteArray)] from rfl) (Reps.none _ _))))))))); intro v115 w13 ho14 hb hg_ hnew_; clear hg_ hnew_; (first | rw [← Ny114.out] at ho14 | (simp only [Int.reduceToNat] at ho14; rw [← Ny114.out] at ho14)); have n0_ := aK (Kd.N_elder' HO107.out (Kd.R_base ho14) hb); have HO116 := aK (Kd.R_lower ho14 (keep_size (w := w) (g := g) (row := none) (yK HK))); have n2_ := aK (IsS40.below (yI HI0) hb); have n3_ := aK (KeepBut.trans (yK HK) (KeepBut.of_below hb g none) (.inl rfl)); have n4_ := aK (below_step (yH HB) hb); clear HO107; have HO107 := n0_; clear n0_; clear HI0; have HI0 := n2_; clear n2_; clear HK; have HK := n3_; clear n3_; clear HB; have HB := n4_; clear n4_; clear hb ho14; obtain ⟨Ao15, co15, eo15⟩ := Kd.R_slice HO116.out; subst eo15) | ((with_reducible refine gate_callee (f := 32) rfl ?_); refine goesL_ (some 14) rfl rfl Tryz.func32 (by kernel_rfl) rfl #[.pointer (some ⟨g, 0, none⟩), .slice Ao15 y114.length co15] rfl tA ?_; (with_reducible refine (spec_l1Cur_of.calls g s0_0 t112 t113 _ _ y114 t117 t118 t119 w0 _ ?side1 ?side2 ?side3 ?side4 ?side5 A7.out).mono ?_); (case side1 => exact yI HI0); (case side2 => exact yH HB); (case side3 => exact sC ((Kd.R_reads' HO116.out).2.2)); (case side4 => exact (Kd.R_reads' HO116.out).2.1); (case side5 => exact far_slice (IsS40.own_ne HI0.out HO116.out (by decide))); rintro e w16 ⟨rfl, hi, hb, hk⟩; refine ⟨_, rfl, ?_⟩; have n0_ := aK (Kd.N_mono (Kd.N_keep (Kd.N_mono (ok := fun k_ => (k_ ≠ g ∧ some k_ ≠ (.slice Ao15 y114.length co15 : Value).ownBlock)) HO107.out (fun k_ hk_ => (⟨hk_, hk_.1⟩ : _ ∧ k_ ≠ g))) hk (fun _ h => h.2)) (fun _ h => h.1)); have n1_ := aK (Kd.R_mono (Kd.R_keep (IsS40.apart (show IsS40 w0 _ g s0_0 t112 t113 from by repeat (first | (with_reducible first | exact HI0.out | apply IsS40.alloc | apply IsS40.drewN | apply IsS40.drew | apply IsS40.set_1 | apply IsS40.set_2) | exact HI0.out)) HO116.out (by decide)) hk (fun _ h => h.2)) (fun _ h => h.1)); have n2_ := aK (KeepBut.trans (yK HK) hk (.inl rfl)); have n3_ := aK (hb); have n4_ := aK (hi); clear HO107; have HO107 := n0_; clear n0_; clear HO116; have HO116 := n1_; clear n1_; clear HK; have HK := n2_; clear n2_; clear HB; have HB := n3_; clear n3_; clear HI0; have HI0 := n4_; clear n4_; (try clear hb)))
  go_ret
  exact ⟨eW, yI HI0, yH HB, yK HK⟩
 ·replace c6 := Bool.eq_false_iff.mpr c6
  subst c6
  rw [if_neg (show ¬ (false = true) by decide)] at H
  simp only [Option.some.injEq, Prod.mk.injEq] at H
  obtain ⟨rfl, rfl, rfl⟩ := H
  go_enter Tryz.func11, Tryz.ntmps11
  go_wp2_with (first | ((with_reducible refine gate_callee (f := 31) rfl ?_); refine goesL_ (some 6) rfl rfl Tryz.func31 (by kernel_rfl) rfl #[.pointer (some ⟨g, 0, none⟩), .int .i64 4] rfl tA ?_; (with_reducible refine (spec_l1Cur_pick.calls g s0_0 s0_1 s0_2 4 t101 t102 t103 w0 _ ?side1 ?side2 A2.out).mono ?_); (case side1 => exact yI HI0); (case side2 => exact yH HB); rintro e w17 ⟨rfl, hi, hb, hk⟩; refine ⟨_, rfl, ?_⟩; have n0_ := aK (KeepBut.trans (yK HK) hk (.inl rfl)); have n1_ := aK (hb); have n2_ := aK (hi); clear HK; have HK := n0_; clear n0_; clear HB; have HB := n1_; clear n1_; clear HI0; have HI0 := n2_; clear n2_; (try clear hb)) | ((with_reducible refine gate_callee (f := 30) rfl ?_); refine goesL_ (some 8) rfl rfl Tryz.func30 (by kernel_rfl) rfl #[.pointer (some ⟨g, 0, none⟩), .int .i64 (wrap64 (1 + t101))] rfl tA ?_; (with_reducible refine (spec_l1Cur_typeOf.calls k g s0_0 t102 t103 (wrap64 (1 + t101)) t104 t105 t108 t109 w0 _ ?side1 ?side2 A3.out).mono ?_); (case side1 => exact yI HI0); (case side2 => exact yH HB); rintro e w18 ⟨v106, rfl, ho0, hi, hb, hk⟩; refine ⟨_, rfl, ?_⟩; have HO107 := aK (Kd.N_lower (Kd.N_mono (ok' := fun k_ => k_ ≠ g) ho0 (fun k_ hk_ => (IsS40.fresh (yI HI0) k_ hk_))) (keep_size (w := w) (g := g) (row := none) (yK HK))); have n1_ := aK (KeepBut.trans (yK HK) hk (.inl rfl)); have n2_ := aK (hb); have n3_ := aK (hi); clear HK; have HK := n1_; clear n1_; clear HB; have HB := n2_; clear n2_; clear HI0; have HI0 := n3_; clear n3_; (try clear hb); (try clear ho0); obtain ⟨Ao19, co19, eo19⟩ := Kd.N_slice HO107.out; subst eo19) | ((with_reducible refine gate_callee (f := 28) rfl ?_); refine goesL_ (some 9) rfl rfl Tryz.func28 (by kernel_rfl) rfl #[.agg #[.int .i64 t104, .slice Ao19 t105.length co19]] rfl tA ?_; (with_reducible refine (spec_leText.calls k t104 _ _ t105 t110 _ ?side1 ?side2 A4.out).mono ?_); (case side1 => exact sC ((Kd.N_reads' HO107.out).2.2)); (case side2 => exact (Kd.N_reads' HO107.out).2.1); rintro e w20 ⟨rfl, hb⟩; refine ⟨_, rfl, ?_⟩; have n0_ := aK (Kd.N_below HO107.out hb); have n1_ := aK (IsS40.below (yI HI0) hb); have n2_ := aK (KeepBut.trans (yK HK) (KeepBut.of_below hb g none) (.inl rfl)); have n3_ := aK (below_step (yH HB) hb); clear HO107; have HO107 := n0_; clear n0_; clear HI0; have HI0 := n1_; clear n1_; clear HK; have HK := n2_; clear n2_; clear HB; have HB := n3_; clear n3_; (try clear hb)) | ((with_reducible refine gate_callee (f := 13) rfl ?_); refine goesL_ (some 11) rfl rfl Tryz.func13 (by kernel_rfl) rfl #[.pointer (some ⟨g, 0, none⟩), .int .i64 30] rfl tA ?_; (with_reducible refine (spec_l1Cur_one.calls g s0_0 t108 t109 30 false t112 t113 w0 _ ?side1 ?side2 A5.out).mono ?_); (case side1 => exact yI HI0); (case side2 => exact yH HB); rintro e w21 ⟨rfl, hi, hb, hk⟩; refine ⟨_, rfl, ?_⟩; have n0_ := aK (Kd.N_mono (Kd.N_keep (Kd.N_mono (ok := fun k_ => k_ ≠ g) HO107.out (fun k_ hk_ => (⟨hk_, hk_⟩ : _ ∧ k_ ≠ g))) hk (fun _ h => h.2)) (fun _ h => h.1)); have n1_ := aK (KeepBut.trans (yK HK) hk (.inl rfl)); have n2_ := aK (hb); have n3_ := aK (hi); clear HO107; have HO107 := n0_; clear n0_; clear HK; have HK := n1_; clear n1_; clear HB; have HB := n2_; clear n2_; clear HI0; have HI0 := n3_; clear n3_; (try clear hb)))
  go_ret
  exact ⟨eW, yI HI0, yH HB, yK HK⟩


def spec_l1Cur_among.f (s0_0 : List Int) (s0_1 : Int) (s0_2 : Int) (l1 : List Int) : Option (Int × Int × Int) := (spec_l1Cur_pick.f s0_0 s0_1 s0_2 (l1.length : Int)).bind fun bt101 => (if 0 ≤ bt101.1 then (if bt101.1 < (l1.length : Int) then (some (rd l1 bt101.1, bt101.2.1, bt101.2.2)) else (none)) else (none))
set_option maxHeartbeats 8000000 in
set_option maxRecDepth 100000 in
theorem spec_l1Cur_among.calls (g : Nat) (s0_0 : List Int) (s0_1 : Int) (s0_2 : Int) (A1 : Option Addr) (c1 : Nat) (l1 : List Int) (r1 : Int) (r2 : Int) (r3 : Int) (w0 w : World) (hI : IsS40 w0 w g s0_0 s0_1 s0_2) (hB : Below w0.heap.size w0 w) (hr1 : Kd.C (Kd.int .i64) w A1 l1.length l1) (hc1 : l1.length ≤ c1) (hf1 : ∀ ad, A1 = some ad → 0 < l1.length → ad.block ≠ g) (h : spec_l1Cur_among.f s0_0 s0_1 s0_2 l1 = some (r1, r2, r3)) :
  Calls Tryz.prog 33 #[.pointer (some ⟨g, 0, none⟩), .slice A1 l1.length c1] w fun e w' => e = .returned (.int .i64 r1) ∧ IsS40 w0 w' g s0_0 r2 r3 ∧ Below w0.heap.size w0 w' ∧ KeepBut w w' g none := by
 have HR1 := aK hr1
 have HC1 := aK hc1
 clear hr1 hc1
 have HI0 := aK hI
 have HK := aK (KeepBut.refl w g none)
 have HL := aK hB.size
 clear hI
 have HW0 := aK hB.size
 have HB := aK hB
 clear hB
 have H : ((spec_l1Cur_pick.f s0_0 s0_1 s0_2 (l1.length : Int)).bind fun bt101 => (if 0 ≤ bt101.1 then (if bt101.1 < (l1.length : Int) then (some (rd l1 bt101.1, bt101.2.1, bt101.2.2)) else (none)) else (none))) = some (r1, r2, r3) := h
 clear h
 obtain ⟨⟨t101, t102, t103⟩, A3, H⟩ := oB H
 try dsimp only at H
 by_cases c4 : 0 ≤ t101
 ·rw [if_pos c4] at H
  have c4b0 : decide (0 ≤ t101) = true := decide_eq_true c4
  clear c4
  by_cases c5 : t101 < (l1.length : Int)
  ·rw [if_pos c5] at H
   have c5b0 : decide (t101 < (l1.length : Int)) = true := decide_eq_true c5
   clear c5
   simp only [Option.some.injEq, Prod.mk.injEq] at H
   obtain ⟨rfl, rfl, rfl⟩ := H
   go_enter Tryz.func33, Tryz.ntmps33
   go_wp2_with (first | ((with_reducible refine gate_callee (f := 31) rfl ?_); refine goesL_ (some 9) rfl rfl Tryz.func31 (by kernel_rfl) rfl #[.pointer (some ⟨g, 0, none⟩), .int .i64 (l1.length : Int)] rfl tA ?_; (with_reducible refine (spec_l1Cur_pick.calls g s0_0 s0_1 s0_2 (l1.length : Int) t101 t102 t103 w0 _ ?side1 ?side2 A3.out).mono ?_); (case side1 => exact yI HI0); (case side2 => exact yH HB); rintro e w6 ⟨rfl, hi, hb, hk⟩; refine ⟨_, rfl, ?_⟩; have n0_ := aK (KeepBut.trans (yK HK) hk (.inl rfl)); have n1_ := aK (hb); have n2_ := aK (hi); clear HK; have HK := n0_; clear n0_; clear HB; have HB := n1_; clear n1_; clear HI0; have HI0 := n2_; clear n2_; (try clear hb); have p104 : 0 ≤ (t101 : Int) := dA; have q104 : t101 < (l1.length : Int) := dA; obtain ⟨ad104, e104, hx104_0⟩ := Kd.at_int HR1.out t101 p104 q104; cases e104; replace hx104_0 := keep_cell HK.out hx104_0 (by first | (rw [add_block]; exact hf1 _ rfl (by omega)) | exact hf1 _ rfl (by omega) | exact hf1 ad104 rfl (by omega)); replace p104 := eq_true p104; replace q104 := eq_true q104))
   go_ret
   exact ⟨eW, yI HI0, yH HB, yK HK⟩
  ·rw [if_neg c5] at H
   exact absurd H (by simp)
 ·rw [if_neg c4] at H
  exact absurd H (by simp)


def spec_l1Cur_binds.l0 : Nat → List (S29) → Int → List Int → Int → Int → Option ((List (S29)) × Int × Int)
 | 0, _, _, _, _, _ => none
 | k + 1, x3, x4, x1000, x1001, x1002 => if x4 < 4 then ((spec_l1Cur_one.f x1000 x1001 x1002 2).bind fun bt101 => (if bt101.1 = true then ((spec_l1Cur_pick.f x1000 bt101.2.1 bt101.2.2 3).bind fun bt104 => ((spec_l1Cur_typeOf.f k x1000 bt104.2.1 bt104.2.2 bt104.1).bind fun bt107 => ((spec_leText.f k bt107.1 bt107.2.1).bind fun t113 => (if x3.length < 5864062014805 then (spec_l1Cur_binds.l0 k (x3 ++ [(⟨x4, t113⟩ : S29)]) (wrap64 (x4 + 1)) x1000 bt107.2.2.1 bt107.2.2.2) else (none))))) else (spec_l1Cur_binds.l0 k x3 (wrap64 (x4 + 1)) x1000 bt101.2.1 bt101.2.2))) else ((spec_l1Cur_one.f x1000 x1001 x1002 30).bind fun bt117 => (if bt117.1 = true then ((spec_l1Cur_among.f x1000 bt117.2.1 bt117.2.2 (([0, 999, 1000] : List Int))).bind fun bt123 => ((spec_l1Cur_typeText.f k x1000 bt123.2.1 bt123.2.2).bind fun bt126 => (if x3.length < 5864062014805 then (some ((x3 ++ [(⟨bt123.1, bt126.1⟩ : S29)]), bt126.2.1, bt126.2.2)) else (none)))) else (some (x3, bt117.2.1, bt117.2.2))))
def spec_l1Cur_binds.f (k : Nat) (s0_0 : List Int) (s0_1 : Int) (s0_2 : Int) : Option ((List (S29)) × Int × Int) := spec_l1Cur_binds.l0 k ([] : List (S29)) 0 s0_0 s0_1 s0_2
set_option maxHeartbeats 8000000 in
set_option maxRecDepth 100000 in
theorem spec_l1Cur_binds.calls (k : Nat) (g : Nat) (s0_0 : List Int) (s0_1 : Int) (s0_2 : Int) (r1 : List (S29)) (r2 : Int) (r3 : Int) (w0 w : World) (hI : IsS40 w0 w g s0_0 s0_1 s0_2) (hB : Below w0.heap.size w0 w) (h : spec_l1Cur_binds.f k s0_0 s0_1 s0_2 = some (r1, r2, r3)) :
  Calls Tryz.prog 12 #[.pointer (some ⟨g, 0, none⟩)] w fun e w' => ∃ v0_ : Value, e = .returned (v0_) ∧ Kd.R k29 29 w' w.heap.size (fun _ => True) v0_ r1 ∧ IsS40 w0 w' g s0_0 r2 r3 ∧ Below w0.heap.size w0 w' ∧ KeepBut w w' g none := by
 have hu29 := Tryz.underlying29
 have HI0 := aK hI
 have HK := aK (KeepBut.refl w g none)
 have HL := aK hB.size
 clear hI
 have HW0 := aK hB.size
 have HB := aK hB
 clear hB
 have H : (spec_l1Cur_binds.l0 k ([] : List (S29)) 0 s0_0 s0_1 s0_2) = some (r1, r2, r3) := h
 clear h
 have H' := aK H
 clear H
 go_enter Tryz.func12, Tryz.ntmps12
 go_wp2
 go_loopg [3, 4] k (fun kq v3 v4 w' => ∃ (x3_1 : List (S29)) (x4_1 : Int) (x1001_1 : Int) (x1002_1 : Int), v4 = .int .i64 x4_1 ∧ Aside0 (spec_l1Cur_binds.l0 kq x3_1 x4_1 s0_0 x1001_1 x1002_1 = some (r1, r2, r3)) ∧ Aside0 (kq ≤ k) ∧ Aside0 (Kd.R k29 29 w' w.heap.size (fun _ => True) v3 x3_1) ∧ Aside0 (IsS40 w0 w' g s0_0 x1001_1 x1002_1) ∧ Aside0 (KeepBut w w' g none) ∧ Aside0 (Below w0.heap.size w0 w'))
 case atStart => exact ⟨(([] : List (S29))), (0), (s0_1), (s0_2), rS, H', ⟨Nat.le_refl _⟩, ⟨by first | exact Kd.R_nil _ _ _ _ _ | exact Kd.N_nil _ _ _ _ _ | exact Kd.V_nil _ _ _ _ _ | exact Kd.Q_nil _ _ _ _ _ | exact Kd.S_nil _ _ _ _ _⟩, ⟨yI HI0⟩, ⟨yK HK⟩, ⟨yH HB⟩⟩
 case round =>
  clear H'
  obtain ⟨x3_1, x4_1, x1001_1, x1002_1, rfl, HA, HK1, HO_3, HI0, HK, HB⟩ := hrel
  cases gk with
  | zero => exact absurd HA.out (by simp [spec_l1Cur_binds.l0])
  | succ k1 =>
   have H := HA.out
   clear HA
   simp only [spec_l1Cur_binds.l0] at H
   by_cases c2 : x4_1 < 4
   ·rw [if_pos c2] at H
    have c2b0 : decide (x4_1 < 4) = true := decide_eq_true c2
    clear c2
    obtain ⟨⟨t101, t102, t103⟩, A3, H⟩ := oB H
    try dsimp only at H
    by_cases c4 : t101 = true
    ·subst c4
     rw [if_pos rfl] at H
     obtain ⟨⟨t104, t105, t106⟩, A5, H⟩ := oB H
     try dsimp only at H
     obtain ⟨⟨t107, t108, t111, t112⟩, A6, H⟩ := oB H
     try dsimp only at H
     obtain ⟨t113, A7, H⟩ := oB H
     try dsimp only at H
     by_cases c8 : x3_1.length < 5864062014805
     ·rw [if_pos c8] at H
      have LMc8 := aK c8
      clear c8
      obtain ⟨y114, hy114⟩ : ∃ y_ : List (S29), y_ = (x3_1 ++ [(⟨x4_1, t113⟩ : S29)]) := ⟨_, rfl⟩
      replace H : (spec_l1Cur_binds.l0 k1 y114 (wrap64 (x4_1 + 1)) s0_0 t111 t112) = some (r1, r2, r3) := by first | (rw [hy114]; with_reducible exact H) | (have H2_ := (Option.bind_some _ _).symm.trans H; rw [hy114]; with_reducible exact H2_) | (have H2_ := (Option.bind_some _ _).symm.trans H; with_reducible exact H2_) | with_reducible exact H | (rw [hy114]; exact H) | exact H
      have Ny114 := aK hy114
      clear hy114
      have H' := aK H
      clear H
      go_wp2_with (first | ((with_reducible refine gate_callee (f := 13) rfl ?_); refine goesL_ (some 10) rfl rfl Tryz.func13 (by kernel_rfl) rfl #[.pointer (some ⟨g, 0, none⟩), .int .i64 2] rfl tA ?_; (with_reducible refine (spec_l1Cur_one.calls g s0_0 x1001_1 x1002_1 2 true t102 t103 w0 _ ?side1 ?side2 A3.out).mono ?_); (case side1 => exact yI HI0); (case side2 => exact yH HB); rintro e w9 ⟨rfl, hi, hb, hk⟩; refine ⟨_, rfl, ?_⟩; have n0_ := aK (Kd.R_mono (Kd.R_keep (IsS40.apart (show IsS40 w0 _ g s0_0 x1001_1 x1002_1 from by repeat (first | (with_reducible first | exact HI0.out | apply IsS40.alloc | apply IsS40.drewN | apply IsS40.drew | apply IsS40.set_1 | apply IsS40.set_2) | exact HI0.out)) HO_3.out (by decide)) hk (fun _ h => h.2)) (fun _ h => h.1)); have n1_ := aK (KeepBut.trans (yK HK) hk (.inl rfl)); have n2_ := aK (hb); have n3_ := aK (hi); clear HO_3; have HO_3 := n0_; clear n0_; clear HK; have HK := n1_; clear n1_; clear HB; have HB := n2_; clear n2_; clear HI0; have HI0 := n3_; clear n3_; (try clear hb)) | ((with_reducible refine gate_callee (f := 31) rfl ?_); refine goesL_ (some 15) rfl rfl Tryz.func31 (by kernel_rfl) rfl #[.pointer (some ⟨g, 0, none⟩), .int .i64 3] rfl tA ?_; (with_reducible refine (spec_l1Cur_pick.calls g s0_0 t102 t103 3 t104 t105 t106 w0 _ ?side1 ?side2 A5.out).mono ?_); (case side1 => exact yI HI0); (case side2 => exact yH HB); rintro e w10 ⟨rfl, hi, hb, hk⟩; refine ⟨_, rfl, ?_⟩; have n0_ := aK (Kd.R_mono (Kd.R_keep (IsS40.apart (show IsS40 w0 _ g s0_0 t102 t103 from by repeat (first | (with_reducible first | exact HI0.out | apply IsS40.alloc | apply IsS40.drewN | apply IsS40.drew | apply IsS40.set_1 | apply IsS40.set_2) | exact HI0.out)) HO_3.out (by decide)) hk (fun _ h => h.2)) (fun _ h => h.1)); have n1_ := aK (KeepBut.trans (yK HK) hk (.inl rfl)); have n2_ := aK (hb); have n3_ := aK (hi); clear HO_3; have HO_3 := n0_; clear n0_; clear HK; have HK := n1_; clear n1_; clear HB; have HB := n2_; clear n2_; clear HI0; have HI0 := n3_; clear n3_; (try clear hb)) | ((with_reducible refine gate_callee (f := 30) rfl ?_); refine goesL_ (some 16) rfl rfl Tryz.func30 (by kernel_rfl) rfl #[.pointer (some ⟨g, 0, none⟩), .int .i64 t104] rfl tA ?_; (with_reducible refine (spec_l1Cur_typeOf.calls k1 g s0_0 t105 t106 t104 t107 t108 t111 t112 w0 _ ?side1 ?side2 A6.out).mono ?_); (case side1 => exact yI HI0); (case side2 => exact yH HB); rintro e w11 ⟨v109, rfl, ho0, hi, hb, hk⟩; refine ⟨_, rfl, ?_⟩; have n0_ := aK (Kd.R_mono (Kd.R_keep (IsS40.apart (show IsS40 w0 _ g s0_0 t105 t106 from by repeat (first | (with_reducible first | exact HI0.out | apply IsS40.alloc | apply IsS40.drewN | apply IsS40.drew | apply IsS40.set_1 | apply IsS40.set_2) | exact HI0.out)) HO_3.out (by decide)) hk (fun _ h => h.2)) (fun _ h => h.1)); have HO110 := aK (Kd.N_lower (Kd.N_mono (ok' := fun k_ => some k_ ≠ (u3 : Value).ownBlock ∧ k_ ≠ g) ho0 (fun k_ hk_ => ⟨(Kd.fresh' (Kd.R_lt HO_3.out) k_ hk_), (IsS40.fresh (yI HI0) k_ hk_)⟩)) (keep_size (w := w) (g := g) (row := none) (yK HK))); have n2_ := aK (KeepBut.trans (yK HK) hk (.inl rfl)); have n3_ := aK (hb); have n4_ := aK (hi); clear HO_3; have HO_3 := n0_; clear n0_; clear HK; have HK := n2_; clear n2_; clear HB; have HB := n3_; clear n3_; clear HI0; have HI0 := n4_; clear n4_; (try clear hb); (try clear ho0); obtain ⟨Ao12, co12, eo12⟩ := Kd.N_slice HO110.out; subst eo12) | ((with_reducible refine gate_callee (f := 28) rfl ?_); refine goesL_ (some 17) rfl rfl Tryz.func28 (by kernel_rfl) rfl #[.agg #[.int .i64 t107, .slice Ao12 t108.length co12]] rfl tA ?_; (with_reducible refine (spec_leText.calls k1 t107 _ _ t108 t113 _ ?side1 ?side2 A7.out).mono ?_); (case side1 => exact sC ((Kd.N_reads' HO110.out).2.2)); (case side2 => exact (Kd.N_reads' HO110.out).2.1); rintro e w13 ⟨rfl, hb⟩; refine ⟨_, rfl, ?_⟩; have n0_ := aK (Kd.R_below HO_3.out hb); have n1_ := aK (Kd.N_below HO110.out hb); have n2_ := aK (IsS40.below (yI HI0) hb); have n3_ := aK (KeepBut.trans (yK HK) (KeepBut.of_below hb g none) (.inl rfl)); have n4_ := aK (below_step (yH HB) hb); clear HO_3; have HO_3 := n0_; clear n0_; clear HO110; have HO110 := n1_; clear n1_; clear HI0; have HI0 := n2_; clear n2_; clear HK; have HK := n3_; clear n3_; clear HB; have HB := n4_; clear n4_; (try clear hb)) | ((with_reducible refine gate_builtin (b := .append) (xs := #[.tmp 11, .tmp 19]) rfl ?_); at_builtin; refine Kd.R_append k29 w.heap.size rfl (.tmp 11) (.tmp 19) 25 29 (.agg #[(.int .i64 0), (.string ⟨#[]⟩)]) 24 rfl Tryz.underlying25 info29 rfl (by decide) (by omega) u3 x3_1 (⟨x4_1, t113⟩ : S29) [.int .i64 x4_1, .string t113] (fun _ => True) (fun _ => False) rfl rfl ?aP (fun _ hk => hk.elim) ?aF ?aO (Below.refl _ _) ?aS ?aL ?_; (case aP => exact k29_mkM _ _ _ (⟨x4_1, t113⟩ : S29)); (case aF => exact (fun _ _ => trivial)); (case aO => exact HO_3.out); (case aS => exact (keep_size (w := w) (g := g) (row := none) (yK HK))); (case aL => have := LMc8.out; omega); intro v115 w14 ho hb hg hat; rw [← Ny114.out] at ho; have n0_ := aK (IsS40.grown (yI HI0) hg (IsS40.own_ne HI0.out HO_3.out (by decide))); have n1_ := aK (Kd.N_afterv (ok := (fun k_ => k_ ≠ g)) (nZ HO110) hg hat); have n2_ := aK (below_weaken (yH HB) HL.out hb); have n3_ := aK (KeepBut.trans (yK HK) (KeepBut.of_grown hg g) (Kd.R_base2 HO_3.out)); have HO116 := aK (ho); clear HI0; have HI0 := n0_; clear n0_; clear HO110; have HO110 := n1_; clear n1_; clear HB; have HB := n2_; clear n2_; clear HK; have HK := n3_; clear n3_; clear HO_3; clear ho hb hg hat))
      go_roundg k1
      case measure => have := HK1.out; omega
      case rel => exact ⟨(y114), (wrap64 (x4_1 + 1)), (t111), (t112), rS, H', ⟨by have := HK1.out; omega⟩, ⟨rX HO116⟩, ⟨yI HI0⟩, ⟨yK HK⟩, ⟨yH HB⟩⟩
     ·rw [if_neg c8] at H
      exact absurd H (by simp)
    ·replace c4 := Bool.eq_false_iff.mpr c4
     subst c4
     rw [if_neg (show ¬ (false = true) by decide)] at H
     have H' := aK H
     clear H
     go_wp2_with (first | ((with_reducible refine gate_callee (f := 13) rfl ?_); refine goesL_ (some 10) rfl rfl Tryz.func13 (by kernel_rfl) rfl #[.pointer (some ⟨g, 0, none⟩), .int .i64 2] rfl tA ?_; (with_reducible refine (spec_l1Cur_one.calls g s0_0 x1001_1 x1002_1 2 false t102 t103 w0 _ ?side1 ?side2 A3.out).mono ?_); (case side1 => exact yI HI0); (case side2 => exact yH HB); rintro e w15 ⟨rfl, hi, hb, hk⟩; refine ⟨_, rfl, ?_⟩; have n0_ := aK (Kd.R_mono (Kd.R_keep (IsS40.apart (show IsS40 w0 _ g s0_0 x1001_1 x1002_1 from by repeat (first | (with_reducible first | exact HI0.out | apply IsS40.alloc | apply IsS40.drewN | apply IsS40.drew | apply IsS40.set_1 | apply IsS40.set_2) | exact HI0.out)) HO_3.out (by decide)) hk (fun _ h => h.2)) (fun _ h => h.1)); have n1_ := aK (KeepBut.trans (yK HK) hk (.inl rfl)); have n2_ := aK (hb); have n3_ := aK (hi); clear HO_3; have HO_3 := n0_; clear n0_; clear HK; have HK := n1_; clear n1_; clear HB; have HB := n2_; clear n2_; clear HI0; have HI0 := n3_; clear n3_; (try clear hb)))
     go_roundg k1
     case measure => have := HK1.out; omega
     case rel => exact ⟨(x3_1), (wrap64 (x4_1 + 1)), (t102), (t103), rS, H', ⟨by have := HK1.out; omega⟩, ⟨rX HO_3⟩, ⟨yI HI0⟩, ⟨yK HK⟩, ⟨yH HB⟩⟩
   ·rw [if_neg c2] at H
    have c2b0 : decide (x4_1 < 4) = false := decide_eq_false c2
    clear c2
    obtain ⟨⟨t117, t118, t119⟩, A16, H⟩ := oB H
    try dsimp only at H
    by_cases c17 : t117 = true
    ·subst c17
     rw [if_pos rfl] at H
     obtain ⟨y120, hy120⟩ : ∃ y_ : List Int, y_ = (([0, 999, 1000] : List Int)) := ⟨_, rfl⟩
     replace H : ((spec_l1Cur_among.f s0_0 t118 t119 y120).bind fun bt123 => ((spec_l1Cur_typeText.f k1 s0_0 bt123.2.1 bt123.2.2).bind fun bt126 => (if x3_1.length < 5864062014805 then (some ((x3_1 ++ [(⟨bt123.1, bt126.1⟩ : S29)]), bt126.2.1, bt126.2.2)) else (none)))) = some (r1, r2, r3) := by first | (rw [hy120]; with_reducible exact H) | (have H2_ := (Option.bind_some _ _).symm.trans H; rw [hy120]; with_reducible exact H2_) | (have H2_ := (Option.bind_some _ _).symm.trans H; with_reducible exact H2_) | with_reducible exact H | (rw [hy120]; exact H) | exact H
     have Ny120 := aK hy120
     clear hy120
     obtain ⟨⟨t123, t124, t125⟩, A18, H⟩ := oB H
     try dsimp only at H
     obtain ⟨⟨t126, t127, t128⟩, A19, H⟩ := oB H
     try dsimp only at H
     by_cases c20 : x3_1.length < 5864062014805
     ·rw [if_pos c20] at H
      have LMc20 := aK c20
      clear c20
      obtain ⟨y129, hy129⟩ : ∃ y_ : List (S29), y_ = (x3_1 ++ [(⟨t123, t126⟩ : S29)]) := ⟨_, rfl⟩
      replace H : (some (y129, t127, t128)) = some (r1, r2, r3) := by first | (rw [hy129]; with_reducible exact H) | (have H2_ := (Option.bind_some _ _).symm.trans H; rw [hy129]; with_reducible exact H2_) | (have H2_ := (Option.bind_some _ _).symm.trans H; with_reducible exact H2_) | with_reducible exact H | (rw [hy129]; exact H) | exact H
      have Ny129 := aK hy129
      clear hy129
      simp only [Option.some.injEq, Prod.mk.injEq] at H
      obtain ⟨rfl, rfl, rfl⟩ := H
      go_wp2_with (first | ((with_reducible refine gate_callee (f := 13) rfl ?_); refine goesL_ (some 22) rfl rfl Tryz.func13 (by kernel_rfl) rfl #[.pointer (some ⟨g, 0, none⟩), .int .i64 30] rfl tA ?_; (with_reducible refine (spec_l1Cur_one.calls g s0_0 x1001_1 x1002_1 30 true t118 t119 w0 _ ?side1 ?side2 A16.out).mono ?_); (case side1 => exact yI HI0); (case side2 => exact yH HB); rintro e w21 ⟨rfl, hi, hb, hk⟩; refine ⟨_, rfl, ?_⟩; have n0_ := aK (Kd.R_mono (Kd.R_keep (IsS40.apart (show IsS40 w0 _ g s0_0 x1001_1 x1002_1 from by repeat (first | (with_reducible first | exact HI0.out | apply IsS40.alloc | apply IsS40.drewN | apply IsS40.drew | apply IsS40.set_1 | apply IsS40.set_2) | exact HI0.out)) HO_3.out (by decide)) hk (fun _ h => h.2)) (fun _ h => h.1)); have n1_ := aK (KeepBut.trans (yK HK) hk (.inl rfl)); have n2_ := aK (hb); have n3_ := aK (hi); clear HO_3; have HO_3 := n0_; clear n0_; clear HK; have HK := n1_; clear n1_; clear HB; have HB := n2_; clear n2_; clear HI0; have HI0 := n3_; clear n3_; (try clear hb)) | ((with_reducible refine gate_dst (N := 25) rfl ?_); refine Kd.R_lit (Kd.int .i64) _ 3 ?hg (N := 25) ?hd (xs := ([0, 999, 1000] : List Int)) (inner := [.int .i64 0, .int .i64 999, .int .i64 1000]) (ok := fun _ => True) (okp := fun _ => True) ?hr ?hp (fun _ hk => hk) trivial (Below.refl _ _) (Nat.le_refl _) (by simp) ?_; (case hd => rfl); (case hg => rfl); (case hr => go_simp); (case hp => exact (Reps.one (show Kd.M (Kd.int .i64) _ _ _ 0 [.int .i64 0] from rfl) (Reps.one (show Kd.M (Kd.int .i64) _ _ _ 999 [.int .i64 999] from rfl) (Reps.one (show Kd.M (Kd.int .i64) _ _ _ 1000 [.int .i64 1000] from rfl) (Reps.none _ _))))); intro v121 w22 ho23 hb hg_ hnew_; clear hg_ hnew_; (first | rw [← Ny120.out] at ho23 | (simp only [Int.reduceToNat] at ho23; rw [← Ny120.out] at ho23)); have n0_ := aK (Kd.R_below HO_3.out hb); have HO122 := aK (Kd.R_lower ho23 (keep_size (w := w) (g := g) (row := none) (yK HK))); have n2_ := aK (IsS40.below (yI HI0) hb); have n3_ := aK (KeepBut.trans (yK HK) (KeepBut.of_below hb g none) (.inl rfl)); have n4_ := aK (below_step (yH HB) hb); clear HO_3; have HO_3 := n0_; clear n0_; clear HI0; have HI0 := n2_; clear n2_; clear HK; have HK := n3_; clear n3_; clear HB; have HB := n4_; clear n4_; clear hb ho23; obtain ⟨Ao24, co24, eo24⟩ := Kd.R_slice HO122.out; subst eo24) | ((with_reducible refine gate_callee (f := 33) rfl ?_); refine goesL_ (some 26) rfl rfl Tryz.func33 (by kernel_rfl) rfl #[.pointer (some ⟨g, 0, none⟩), .slice Ao24 y120.length co24] rfl tA ?_; (with_reducible refine (spec_l1Cur_among.calls g s0_0 t118 t119 _ _ y120 t123 t124 t125 w0 _ ?side1 ?side2 ?side3 ?side4 ?side5 A18.out).mono ?_); (case side1 => exact yI HI0); (case side2 => exact yH HB); (case side3 => exact sC ((Kd.R_reads' HO122.out).2.2)); (case side4 => exact (Kd.R_reads' HO122.out).2.1); (case side5 => exact far_slice (IsS40.own_ne HI0.out HO122.out (by decide))); rintro e w25 ⟨rfl, hi, hb, hk⟩; refine ⟨_, rfl, ?_⟩; have n0_ := aK (Kd.R_mono (Kd.R_keep (IsS40.apart (show IsS40 w0 _ g s0_0 t118 t119 from by repeat (first | (with_reducible first | exact HI0.out | apply IsS40.alloc | apply IsS40.drewN | apply IsS40.drew | apply IsS40.set_1 | apply IsS40.set_2) | exact HI0.out)) HO_3.out (by decide)) hk (fun _ h => h.2)) (fun _ h => h.1)); have n1_ := aK (Kd.R_mono (Kd.R_keep (IsS40.apart (show IsS40 w0 _ g s0_0 t118 t119 from by repeat (first | (with_reducible first | exact HI0.out | apply IsS40.alloc | apply IsS40.drewN | apply IsS40.drew | apply IsS40.set_1 | apply IsS40.set_2) | exact HI0.out)) HO122.out (by decide)) hk (fun _ h => h.2)) (fun _ h => h.1)); have n2_ := aK (KeepBut.trans (yK HK) hk (.inl rfl)); have n3_ := aK (hb); have n4_ := aK (hi); clear HO_3; have HO_3 := n0_; clear n0_; clear HO122; have HO122 := n1_; clear n1_; clear HK; have HK := n2_; clear n2_; clear HB; have HB := n3_; clear n3_; clear HI0; have HI0 := n4_; clear n4_; (try clear hb)) | ((with_reducible refine gate_callee (f := 11) rfl ?_); refine goesL_ (some 28) rfl rfl Tryz.func11 (by kernel_rfl) rfl #[.pointer (some ⟨g, 0, none⟩)] rfl tA ?_; (with_reducible refine (spec_l1Cur_typeText.calls k1 g s0_0 t124 t125 t126 t127 t128 w0 _ ?side1 ?side2 A19.out).mono ?_); (case side1 => exact yI HI0); (case side2 => exact yH HB); rintro e w26 ⟨rfl, hi, hb, hk⟩; refine ⟨_, rfl, ?_⟩; have n0_ := aK (Kd.R_mono (Kd.R_keep (IsS40.apart (show IsS40 w0 _ g s0_0 t124 t125 from by repeat (first | (with_reducible first | exact HI0.out | apply IsS40.alloc | apply IsS40.drewN | apply IsS40.drew | apply IsS40.set_1 | apply IsS40.set_2) | exact HI0.out)) HO_3.out (by decide)) hk (fun _ h => h.2)) (fun _ h => h.1)); have n1_ := aK (Kd.R_mono (Kd.R_keep (IsS40.apart (show IsS40 w0 _ g s0_0 t124 t125 from by repeat (first | (with_reducible first | exact HI0.out | apply IsS40.alloc | apply IsS40.drewN | apply IsS40.drew | apply IsS40.set_1 | apply IsS40.set_2) | exact HI0.out)) HO122.out (by decide)) hk (fun _ h => h.2)) (fun _ h => h.1)); have n2_ := aK (KeepBut.trans (yK HK) hk (.inl rfl)); have n3_ := aK (hb); have n4_ := aK (hi); clear HO_3; have HO_3 := n0_; clear n0_; clear HO122; have HO122 := n1_; clear n1_; clear HK; have HK := n2_; clear n2_; clear HB; have HB := n3_; clear n3_; clear HI0; have HI0 := n4_; clear n4_; (try clear hb)) | ((with_reducible refine gate_builtin (b := .append) (xs := #[.tmp 23, .tmp 30]) rfl ?_); at_builtin; refine Kd.R_append k29 w.heap.size rfl (.tmp 23) (.tmp 30) 25 29 (.agg #[(.int .i64 0), (.string ⟨#[]⟩)]) 24 rfl Tryz.underlying25 info29 rfl (by decide) (by omega) u3 x3_1 (⟨t123, t126⟩ : S29) [.int .i64 t123, .string t126] (fun _ => True) (fun _ => False) rfl rfl ?aP (fun _ hk => hk.elim) ?aF ?aO (Below.refl _ _) ?aS ?aL ?_; (case aP => exact k29_mkM _ _ _ (⟨t123, t126⟩ : S29)); (case aF => exact (fun _ _ => trivial)); (case aO => exact HO_3.out); (case aS => exact (keep_size (w := w) (g := g) (row := none) (yK HK))); (case aL => have := LMc20.out; omega); intro v130 w27 ho hb hg hat; rw [← Ny129.out] at ho; have n0_ := aK (IsS40.grown (yI HI0) hg (IsS40.own_ne HI0.out HO_3.out (by decide))); have n1_ := aK (Kd.R_over' HO122.out (Kd.R_typed HO_3.out) (by decide) hg); have n2_ := aK (below_weaken (yH HB) HL.out hb); have n3_ := aK (KeepBut.trans (yK HK) (KeepBut.of_grown hg g) (Kd.R_base2 HO_3.out)); have HO131 := aK (ho); clear HI0; have HI0 := n0_; clear n0_; clear HO122; have HO122 := n1_; clear n1_; clear HB; have HB := n2_; clear n2_; clear HK; have HK := n3_; clear n3_; clear HO_3; clear ho hb hg hat))
      go_ret
      exact ⟨_, eW, by (with_reducible repeat (first | apply rA | apply rN | apply rD)); exact HO131.out, yI HI0, yH HB, yK HK⟩
     ·rw [if_neg c20] at H
      exact absurd H (by simp)
    ·replace c17 := Bool.eq_false_iff.mpr c17
     subst c17
     rw [if_neg (show ¬ (false = true) by decide)] at H
     simp only [Option.some.injEq, Prod.mk.injEq] at H
     obtain ⟨rfl, rfl, rfl⟩ := H
     go_wp2_with (first | ((with_reducible refine gate_callee (f := 13) rfl ?_); refine goesL_ (some 22) rfl rfl Tryz.func13 (by kernel_rfl) rfl #[.pointer (some ⟨g, 0, none⟩), .int .i64 30] rfl tA ?_; (with_reducible refine (spec_l1Cur_one.calls g s0_0 x1001_1 x1002_1 30 false t118 t119 w0 _ ?side1 ?side2 A16.out).mono ?_); (case side1 => exact yI HI0); (case side2 => exact yH HB); rintro e w28 ⟨rfl, hi, hb, hk⟩; refine ⟨_, rfl, ?_⟩; have n0_ := aK (Kd.R_mono (Kd.R_keep (IsS40.apart (show IsS40 w0 _ g s0_0 x1001_1 x1002_1 from by repeat (first | (with_reducible first | exact HI0.out | apply IsS40.alloc | apply IsS40.drewN | apply IsS40.drew | apply IsS40.set_1 | apply IsS40.set_2) | exact HI0.out)) HO_3.out (by decide)) hk (fun _ h => h.2)) (fun _ h => h.1)); have n1_ := aK (KeepBut.trans (yK HK) hk (.inl rfl)); have n2_ := aK (hb); have n3_ := aK (hi); clear HO_3; have HO_3 := n0_; clear n0_; clear HK; have HK := n1_; clear n1_; clear HB; have HB := n2_; clear n2_; clear HI0; have HI0 := n3_; clear n3_; (try clear hb)))
     go_ret
     exact ⟨_, eW, by (with_reducible repeat (first | apply rA | apply rN | apply rD)); exact HO_3.out, yI HI0, yH HB, yK HK⟩


mutual
def spec_leDeep.l0 : Nat → Int → List (S55) → Int → Int → Option (Int)
 | 0, _, _, _, _ => none
 | k + 1, x3, x8, x9, x10 => if x10 < x9 then (if 0 ≤ x10 then (if x10 < (x8.length : Int) then ((spec_leDeep.f k ((rd_T55 x8 x10).f0) ((rd_T55 x8 x10).f1)).bind fun t104 => (if t104 > x3 then (spec_leDeep.l0 k t104 x8 x9 (wrap64 (x10 + 1))) else (spec_leDeep.l0 k x3 x8 x9 (wrap64 (x10 + 1))))) else (none)) else (none)) else (some (wrap64 (x3 + 1)))
def spec_leDeep.f : Nat → Int → List (S55) → Option (Int)
 | 0, _, _ => none
 | k + 1, a0_0, l0_1 => spec_leDeep.l0 k 0 l0_1 (l0_1.length : Int) 0
end
set_option maxHeartbeats 8000000 in
set_option maxRecDepth 100000 in
theorem spec_leDeep.calls (k : Nat) : ∀ (a0_0 : Int) (A0_1 : Option Addr) (c0_1 : Nat) (l0_1 : List (S55)) (r : Int) (w : World) (hr0_1 : Kd.C k55 w A0_1 l0_1.length l0_1) (hc0_1 : l0_1.length ≤ c0_1) (h : spec_leDeep.f k a0_0 l0_1 = some r),
  Calls Tryz.prog 55 #[.agg #[.int .i64 a0_0, .slice A0_1 l0_1.length c0_1]] w fun e w' => e = .returned (.int .i64 r) ∧ Below w.heap.size w w' := by
 induction k using Nat.strongRecOn with
 | _ k ih =>
 intro a0_0 A0_1 c0_1 l0_1 r w hr0_1 hc0_1 h
 cases k with
 | zero => exact absurd h (by simp [spec_leDeep.f])
 | succ k =>
 simp only [spec_leDeep.f] at h
 have hu55 := Tryz.underlying55
 have HR0_1 := aK hr0_1
 have HC0_1 := aK hc0_1
 clear hr0_1 hc0_1
 have HB := aK (Below.refl w.heap.size w)
 have H : (spec_leDeep.l0 k 0 l0_1 (l0_1.length : Int) 0) = some r := h
 clear h
 have H' := aK H
 clear H
 go_enter Tryz.func55, Tryz.ntmps55
 go_wp2_with (first | ((with_reducible refine gate_dst (N := 1) rfl ?_); refine bE (N := 1) (cs := #[.int .i64 a0_0, .slice A0_1 l0_1.length c0_1]) (t := 55) ?_; intro gb101 hg w2 hbox hb; have GW101 := qw HB hg; have GE101 := qw HB hg; have BK101 := aK hbox; replace HB := qs HB hb; clear hb hbox hg; have hcz3_0 := kq20 BK101; have hcz3_1 := kq21 BK101; have hfz3_0 := fz BK101 0; have hfz3_1 := fz BK101 1))
 go_loopg [3, 10] k (fun kq v3 v10 w' => ∃ (x3_1 : Int) (x10_1 : Int), v3 = .int .i64 x3_1 ∧ v10 = .int .i64 x10_1 ∧ Aside0 (spec_leDeep.l0 kq x3_1 l0_1 (l0_1.length : Int) x10_1 = some r) ∧ Aside0 (kq ≤ k) ∧ Aside0 (w'.heap[gb101]? = some (.cells #[.int .i64 a0_0, (.slice A0_1 l0_1.length c0_1)] 55 (0, 0))) ∧ Aside0 (Below w.heap.size w w'))
 case atStart => exact ⟨(0), (0), rS, rS, H', ⟨Nat.le_refl _⟩, ⟨pB BK101⟩, ⟨pH HB⟩⟩
 case round =>
  clear H'
  obtain ⟨x3_1, x10_1, rfl, rfl, HA, HK1, BK101, HB⟩ := hrel
  cases gk with
  | zero => exact absurd HA.out (by simp [spec_leDeep.l0])
  | succ k1 =>
   have H := HA.out
   clear HA
   simp only [spec_leDeep.l0] at H
   by_cases c4 : x10_1 < (l0_1.length : Int)
   ·rw [if_pos c4] at H
    have c4b0 : decide (x10_1 < (l0_1.length : Int)) = true := decide_eq_true c4
    clear c4
    by_cases c5 : 0 ≤ x10_1
    ·rw [if_pos c5] at H
     have c5b0 : decide (0 ≤ x10_1) = true := decide_eq_true c5
     clear c5
     by_cases c6 : x10_1 < (l0_1.length : Int)
     ·rw [if_pos c6] at H
      have c6b0 : decide (x10_1 < (l0_1.length : Int)) = true := decide_eq_true c6
      clear c6
      obtain ⟨t104, A7, H⟩ := oB H
      try dsimp only at H
      by_cases c8 : t104 > x3_1
      ·rw [if_pos c8] at H
       have c8b0 : decide (x3_1 < t104) = true := decide_eq_true c8
       clear c8
       have H' := aK H
       clear H
       have p102 : 0 ≤ (x10_1 : Int) := dA
       have q102 : x10_1 < (l0_1.length : Int) := dA
       obtain ⟨ad102, A102_1, c102_1, e102, hx102_0, hx102_1, hl102_1, hi102_1⟩ := at_T55 HR0_1.out x10_1 p102 q102
       cases e102
       replace hx102_0 := uC HB hx102_0
       replace hx102_1 := uC HB hx102_1
       have HR102_1 := aK hi102_1
       have HC102_1 := aK hl102_1
       clear hi102_1 hl102_1
       replace p102 := eq_true p102
       replace q102 := eq_true q102
       go_wp2_with (first | ((with_reducible refine gate_dst (N := 5) rfl ?_); refine bE (N := 5) (cs := #[.int .i64 0, .slice none 0 0]) (t := 55) ?_; intro gb103 hg w9 hbox hb; have GW103 := qw HB hg; have GE103 := qw HB hg; have NB101_103 := ql BK101 hg; have NB103_101 := qg BK101 hg; replace BK101 := qb BK101 hb; have BK103 := aK hbox; replace HB := qs HB hb; clear hb hbox hg; have hnb10 := NB103_101.out; have hnc10 := NB101_103.out; have hcz11_0 := kq20 BK103; have hcz11_1 := kq21 BK103; have hfz11_0 := fz BK103 0; have hfz11_1 := fz BK103 1) | ((with_reducible refine gate_callee (f := 55) rfl ?_); refine goesL_ (some 15) rfl rfl Tryz.func55 (by kernel_rfl) rfl #[.agg #[.int .i64 ((rd_T55 l0_1 x10_1).f0), .slice A102_1 ((rd_T55 l0_1 x10_1).f1).length c102_1]] rfl tA ?_; (with_reducible refine (ih k1 (by have := HK1.out; omega) ((rd_T55 l0_1 x10_1).f0) _ _ ((rd_T55 l0_1 x10_1).f1) t104 _ ?side1 ?side2 A7.out).mono ?_); (case side1 => exact Kd.C_below HR102_1.out (pH HB)); (case side2 => exact HC102_1.out); rintro e w12 ⟨rfl, hb⟩; refine ⟨_, rfl, ?_⟩; have n_ := aJ (aK (blk_below (g := gb101) (o := .cells #[.int .i64 a0_0, .slice (some ad102) l0_1.length c0_1] 55 (0, 0)) (bY BK101) hb)) (aJ (aK (blk_below (g := gb103) (o := .cells #[.int .i64 ((rd_T55 l0_1 x10_1).f0), .slice A102_1 ((rd_T55 l0_1 x10_1).f1).length c102_1] 55 (0, 0)) (bP BK103) hb)) (aK (below_step (pH HB) hb))); clear BK101 BK103 HB; obtain ⟨BK101, BK103, HB⟩ := n_; (try clear hb)))
       go_roundg k1
       case measure => have := HK1.out; omega
       case rel => exact ⟨(t104), (wrap64 (x10_1 + 1)), rS, rS, H', ⟨by have := HK1.out; omega⟩, ⟨pB BK101⟩, ⟨pH HB⟩⟩
      ·rw [if_neg c8] at H
       have c8b0 : decide (x3_1 < t104) = false := decide_eq_false c8
       clear c8
       have H' := aK H
       clear H
       have p102 : 0 ≤ (x10_1 : Int) := dA
       have q102 : x10_1 < (l0_1.length : Int) := dA
       obtain ⟨ad102, A102_1, c102_1, e102, hx102_0, hx102_1, hl102_1, hi102_1⟩ := at_T55 HR0_1.out x10_1 p102 q102
       cases e102
       replace hx102_0 := uC HB hx102_0
       replace hx102_1 := uC HB hx102_1
       have HR102_1 := aK hi102_1
       have HC102_1 := aK hl102_1
       clear hi102_1 hl102_1
       replace p102 := eq_true p102
       replace q102 := eq_true q102
       go_wp2_with (first | ((with_reducible refine gate_dst (N := 5) rfl ?_); refine bE (N := 5) (cs := #[.int .i64 0, .slice none 0 0]) (t := 55) ?_; intro gb103 hg w13 hbox hb; have GW103 := qw HB hg; have GE103 := qw HB hg; have NB101_103 := ql BK101 hg; have NB103_101 := qg BK101 hg; replace BK101 := qb BK101 hb; have BK103 := aK hbox; replace HB := qs HB hb; clear hb hbox hg; have hnb14 := NB103_101.out; have hnc14 := NB101_103.out; have hcz15_0 := kq20 BK103; have hcz15_1 := kq21 BK103; have hfz15_0 := fz BK103 0; have hfz15_1 := fz BK103 1) | ((with_reducible refine gate_callee (f := 55) rfl ?_); refine goesL_ (some 15) rfl rfl Tryz.func55 (by kernel_rfl) rfl #[.agg #[.int .i64 ((rd_T55 l0_1 x10_1).f0), .slice A102_1 ((rd_T55 l0_1 x10_1).f1).length c102_1]] rfl tA ?_; (with_reducible refine (ih k1 (by have := HK1.out; omega) ((rd_T55 l0_1 x10_1).f0) _ _ ((rd_T55 l0_1 x10_1).f1) t104 _ ?side1 ?side2 A7.out).mono ?_); (case side1 => exact Kd.C_below HR102_1.out (pH HB)); (case side2 => exact HC102_1.out); rintro e w16 ⟨rfl, hb⟩; refine ⟨_, rfl, ?_⟩; have n_ := aJ (aK (blk_below (g := gb101) (o := .cells #[.int .i64 a0_0, .slice (some ad102) l0_1.length c0_1] 55 (0, 0)) (bY BK101) hb)) (aJ (aK (blk_below (g := gb103) (o := .cells #[.int .i64 ((rd_T55 l0_1 x10_1).f0), .slice A102_1 ((rd_T55 l0_1 x10_1).f1).length c102_1] 55 (0, 0)) (bP BK103) hb)) (aK (below_step (pH HB) hb))); clear BK101 BK103 HB; obtain ⟨BK101, BK103, HB⟩ := n_; (try clear hb)))
       go_roundg k1
       case measure => have := HK1.out; omega
       case rel => exact ⟨(x3_1), (wrap64 (x10_1 + 1)), rS, rS, H', ⟨by have := HK1.out; omega⟩, ⟨pB BK101⟩, ⟨pH HB⟩⟩
     ·rw [if_neg c6] at H
      exact absurd H (by simp)
    ·rw [if_neg c5] at H
     exact absurd H (by simp)
   ·rw [if_neg c4] at H
    have c4b0 : decide (x10_1 < (l0_1.length : Int)) = false := decide_eq_false c4
    clear c4
    obtain rfl := Option.some.inj H
    go_wp2
    go_ret
    exact ⟨eW, pH HB⟩


mutual
def spec_leSize.l0 : Nat → Int → List (S55) → Int → Int → Option (Int)
 | 0, _, _, _, _ => none
 | k + 1, x3, x7, x8, x9 => if x9 < x8 then (if 0 ≤ x9 then (if x9 < (x7.length : Int) then ((spec_leSize.f k ((rd_T55 x7 x9).f0) ((rd_T55 x7 x9).f1)).bind fun t104 => (spec_leSize.l0 k (wrap64 (x3 + t104)) x7 x8 (wrap64 (x9 + 1)))) else (none)) else (none)) else (some x3)
def spec_leSize.f : Nat → Int → List (S55) → Option (Int)
 | 0, _, _ => none
 | k + 1, a0_0, l0_1 => spec_leSize.l0 k 1 l0_1 (l0_1.length : Int) 0
end
set_option maxHeartbeats 8000000 in
set_option maxRecDepth 100000 in
theorem spec_leSize.calls (k : Nat) : ∀ (a0_0 : Int) (A0_1 : Option Addr) (c0_1 : Nat) (l0_1 : List (S55)) (r : Int) (w : World) (hr0_1 : Kd.C k55 w A0_1 l0_1.length l0_1) (hc0_1 : l0_1.length ≤ c0_1) (h : spec_leSize.f k a0_0 l0_1 = some r),
  Calls Tryz.prog 56 #[.agg #[.int .i64 a0_0, .slice A0_1 l0_1.length c0_1]] w fun e w' => e = .returned (.int .i64 r) ∧ Below w.heap.size w w' := by
 induction k using Nat.strongRecOn with
 | _ k ih =>
 intro a0_0 A0_1 c0_1 l0_1 r w hr0_1 hc0_1 h
 cases k with
 | zero => exact absurd h (by simp [spec_leSize.f])
 | succ k =>
 simp only [spec_leSize.f] at h
 have hu55 := Tryz.underlying55
 have HR0_1 := aK hr0_1
 have HC0_1 := aK hc0_1
 clear hr0_1 hc0_1
 have HB := aK (Below.refl w.heap.size w)
 have H : (spec_leSize.l0 k 1 l0_1 (l0_1.length : Int) 0) = some r := h
 clear h
 have H' := aK H
 clear H
 go_enter Tryz.func56, Tryz.ntmps56
 go_wp2_with (first | ((with_reducible refine gate_dst (N := 1) rfl ?_); refine bE (N := 1) (cs := #[.int .i64 a0_0, .slice A0_1 l0_1.length c0_1]) (t := 55) ?_; intro gb101 hg w2 hbox hb; have GW101 := qw HB hg; have GE101 := qw HB hg; have BK101 := aK hbox; replace HB := qs HB hb; clear hb hbox hg; have hcz3_0 := kq20 BK101; have hcz3_1 := kq21 BK101; have hfz3_0 := fz BK101 0; have hfz3_1 := fz BK101 1))
 go_loopg [3, 9] k (fun kq v3 v9 w' => ∃ (x3_1 : Int) (x9_1 : Int), v3 = .int .i64 x3_1 ∧ v9 = .int .i64 x9_1 ∧ Aside0 (spec_leSize.l0 kq x3_1 l0_1 (l0_1.length : Int) x9_1 = some r) ∧ Aside0 (kq ≤ k) ∧ Aside0 (w'.heap[gb101]? = some (.cells #[.int .i64 a0_0, (.slice A0_1 l0_1.length c0_1)] 55 (0, 0))) ∧ Aside0 (Below w.heap.size w w'))
 case atStart => exact ⟨(1), (0), rS, rS, H', ⟨Nat.le_refl _⟩, ⟨pB BK101⟩, ⟨pH HB⟩⟩
 case round =>
  clear H'
  obtain ⟨x3_1, x9_1, rfl, rfl, HA, HK1, BK101, HB⟩ := hrel
  cases gk with
  | zero => exact absurd HA.out (by simp [spec_leSize.l0])
  | succ k1 =>
   have H := HA.out
   clear HA
   simp only [spec_leSize.l0] at H
   by_cases c4 : x9_1 < (l0_1.length : Int)
   ·rw [if_pos c4] at H
    have c4b0 : decide (x9_1 < (l0_1.length : Int)) = true := decide_eq_true c4
    clear c4
    by_cases c5 : 0 ≤ x9_1
    ·rw [if_pos c5] at H
     have c5b0 : decide (0 ≤ x9_1) = true := decide_eq_true c5
     clear c5
     by_cases c6 : x9_1 < (l0_1.length : Int)
     ·rw [if_pos c6] at H
      have c6b0 : decide (x9_1 < (l0_1.length : Int)) = true := decide_eq_true c6
      clear c6
      obtain ⟨t104, A7, H⟩ := oB H
      try dsimp only at H
      have H' := aK H
      clear H
      have p102 : 0 ≤ (x9_1 : Int) := dA
      have q102 : x9_1 < (l0_1.length : Int) := dA
      obtain ⟨ad102, A102_1, c102_1, e102, hx102_0, hx102_1, hl102_1, hi102_1⟩ := at_T55 HR0_1.out x9_1 p102 q102
      cases e102
      replace hx102_0 := uC HB hx102_0
      replace hx102_1 := uC HB hx102_1
      have HR102_1 := aK hi102_1
      have HC102_1 := aK hl102_1
      clear hi102_1 hl102_1
      replace p102 := eq_true p102
      replace q102 := eq_true q102
      go_wp2_with (first | ((with_reducible refine gate_dst (N := 5) rfl ?_); refine bE (N := 5) (cs := #[.int .i64 0, .slice none 0 0]) (t := 55) ?_; intro gb103 hg w8 hbox hb; have GW103 := qw HB hg; have GE103 := qw HB hg; have NB101_103 := ql BK101 hg; have NB103_101 := qg BK101 hg; replace BK101 := qb BK101 hb; have BK103 := aK hbox; replace HB := qs HB hb; clear hb hbox hg; have hnb9 := NB103_101.out; have hnc9 := NB101_103.out; have hcz10_0 := kq20 BK103; have hcz10_1 := kq21 BK103; have hfz10_0 := fz BK103 0; have hfz10_1 := fz BK103 1) | ((with_reducible refine gate_callee (f := 56) rfl ?_); refine goesL_ (some 15) rfl rfl Tryz.func56 (by kernel_rfl) rfl #[.agg #[.int .i64 ((rd_T55 l0_1 x9_1).f0), .slice A102_1 ((rd_T55 l0_1 x9_1).f1).length c102_1]] rfl tA ?_; (with_reducible refine (ih k1 (by have := HK1.out; omega) ((rd_T55 l0_1 x9_1).f0) _ _ ((rd_T55 l0_1 x9_1).f1) t104 _ ?side1 ?side2 A7.out).mono ?_); (case side1 => exact Kd.C_below HR102_1.out (pH HB)); (case side2 => exact HC102_1.out); rintro e w11 ⟨rfl, hb⟩; refine ⟨_, rfl, ?_⟩; have n_ := aJ (aK (blk_below (g := gb101) (o := .cells #[.int .i64 a0_0, .slice (some ad102) l0_1.length c0_1] 55 (0, 0)) (bY BK101) hb)) (aJ (aK (blk_below (g := gb103) (o := .cells #[.int .i64 ((rd_T55 l0_1 x9_1).f0), .slice A102_1 ((rd_T55 l0_1 x9_1).f1).length c102_1] 55 (0, 0)) (bP BK103) hb)) (aK (below_step (pH HB) hb))); clear BK101 BK103 HB; obtain ⟨BK101, BK103, HB⟩ := n_; (try clear hb)))
      go_roundg k1
      case measure => have := HK1.out; omega
      case rel => exact ⟨(wrap64 (x3_1 + t104)), (wrap64 (x9_1 + 1)), rS, rS, H', ⟨by have := HK1.out; omega⟩, ⟨pB BK101⟩, ⟨pH HB⟩⟩
     ·rw [if_neg c6] at H
      exact absurd H (by simp)
    ·rw [if_neg c5] at H
     exact absurd H (by simp)
   ·rw [if_neg c4] at H
    have c4b0 : decide (x9_1 < (l0_1.length : Int)) = false := decide_eq_false c4
    clear c4
    obtain rfl := Option.some.inj H
    go_wp2
    go_ret
    exact ⟨eW, pH HB⟩


def spec_leFine.f (k : Nat) (a0_0 : Int) (l0_1 : List (S55)) : Option (Bool) := (spec_leDeep.f k a0_0 l0_1).bind fun t102 => (if t102 ≤ 61 then ((spec_leSize.f k a0_0 l0_1).bind fun t103 => (some (decide (t103 ≤ 200)))) else (some false))
set_option maxHeartbeats 8000000 in
set_option maxRecDepth 100000 in
theorem spec_leFine.calls (k : Nat) (a0_0 : Int) (A0_1 : Option Addr) (c0_1 : Nat) (l0_1 : List (S55)) (r : Bool) (w : World) (hr0_1 : Kd.C k55 w A0_1 l0_1.length l0_1) (hc0_1 : l0_1.length ≤ c0_1) (h : spec_leFine.f k a0_0 l0_1 = some r) :
  Calls Tryz.prog 27 #[.agg #[.int .i64 a0_0, .slice A0_1 l0_1.length c0_1]] w fun e w' => e = .returned (.bool r) ∧ Below w.heap.size w w' := by
 have hu55 := Tryz.underlying55
 have HR0_1 := aK hr0_1
 have HC0_1 := aK hc0_1
 clear hr0_1 hc0_1
 have HB := aK (Below.refl w.heap.size w)
 have H : ((spec_leDeep.f k a0_0 l0_1).bind fun t102 => (if t102 ≤ 61 then ((spec_leSize.f k a0_0 l0_1).bind fun t103 => (some (decide (t103 ≤ 200)))) else (some false))) = some r := h
 clear h
 obtain ⟨t102, A2, H⟩ := oB H
 try dsimp only at H
 by_cases c3 : t102 ≤ 61
 ·rw [if_pos c3] at H
  have c3b0 : decide (t102 ≤ 61) = true := decide_eq_true c3
  clear c3
  obtain ⟨t103, A4, H⟩ := oB H
  try dsimp only at H
  obtain rfl := Option.some.inj H
  go_enter Tryz.func27, Tryz.ntmps27
  go_wp2_with (first | ((with_reducible refine gate_dst (N := 1) rfl ?_); refine bE (N := 1) (cs := #[.int .i64 a0_0, .slice A0_1 l0_1.length c0_1]) (t := 55) ?_; intro gb101 hg w5 hbox hb; have GW101 := qw HB hg; have GE101 := qw HB hg; have BK101 := aK hbox; replace HB := qs HB hb; clear hb hbox hg; have hcz6_0 := kq20 BK101; have hcz6_1 := kq21 BK101; have hfz6_0 := fz BK101 0; have hfz6_1 := fz BK101 1) | ((with_reducible refine gate_callee (f := 55) rfl ?_); refine goesL_ (some 4) rfl rfl Tryz.func55 (by kernel_rfl) rfl #[.agg #[.int .i64 a0_0, .slice A0_1 l0_1.length c0_1]] rfl tA ?_; (with_reducible refine (spec_leDeep.calls k a0_0 _ _ l0_1 t102 _ ?side1 ?side2 A2.out).mono ?_); (case side1 => exact sC (Kd.C_below HR0_1.out HB.out)); (case side2 => exact HC0_1.out); rintro e w7 ⟨rfl, hb⟩; refine ⟨_, rfl, ?_⟩; replace BK101 := qb BK101 hb; replace HB := qs HB hb; (try clear hb); have hcz8_0 := kq20 BK101; have hcz8_1 := kq21 BK101; have hfz8_0 := fz BK101 0; have hfz8_1 := fz BK101 1) | (go_at_call 56; (with_reducible refine (spec_leSize.calls k a0_0 _ _ l0_1 t103 _ ?side1 ?side2 A4.out).mono ?_); (case side1 => exact sC (Kd.C_below HR0_1.out HB.out)); (case side2 => exact HC0_1.out); rintro e w9 ⟨rfl, hb⟩; replace BK101 := qb BK101 hb; replace HB := qs HB hb; (try clear hb)))
  go_ret
  exact ⟨eW, pH HB⟩
 ·rw [if_neg c3] at H
  have c3b0 : decide (t102 ≤ 61) = false := decide_eq_false c3
  clear c3
  obtain rfl := Option.some.inj H
  go_enter Tryz.func27, Tryz.ntmps27
  go_wp2_with (first | ((with_reducible refine gate_dst (N := 1) rfl ?_); refine bE (N := 1) (cs := #[.int .i64 a0_0, .slice A0_1 l0_1.length c0_1]) (t := 55) ?_; intro gb101 hg w10 hbox hb; have GW101 := qw HB hg; have GE101 := qw HB hg; have BK101 := aK hbox; replace HB := qs HB hb; clear hb hbox hg; have hcz11_0 := kq20 BK101; have hcz11_1 := kq21 BK101; have hfz11_0 := fz BK101 0; have hfz11_1 := fz BK101 1) | ((with_reducible refine gate_callee (f := 55) rfl ?_); refine goesL_ (some 4) rfl rfl Tryz.func55 (by kernel_rfl) rfl #[.agg #[.int .i64 a0_0, .slice A0_1 l0_1.length c0_1]] rfl tA ?_; (with_reducible refine (spec_leDeep.calls k a0_0 _ _ l0_1 t102 _ ?side1 ?side2 A2.out).mono ?_); (case side1 => exact sC (Kd.C_below HR0_1.out HB.out)); (case side2 => exact HC0_1.out); rintro e w12 ⟨rfl, hb⟩; refine ⟨_, rfl, ?_⟩; replace BK101 := qb BK101 hb; replace HB := qs HB hb; (try clear hb)))
  go_ret
  exact ⟨eW, pH HB⟩


def spec_laSmall.l0 : Nat → ByteArray → Int → Int → Option (Int)
 | 0, _, _, _ => none
 | k + 1, x0, x3, x4 => if x4 < (x0.size : Int) then (if 0 ≤ x4 then (spec_laSmall.l0 k x0 (wrap64 ((wrap64 (10 * x3)) + (((bt x0 x4) - 48) % 256))) (wrap64 (x4 + 1))) else (none)) else (some x3)
def spec_laSmall.f (k : Nat) (a0 : ByteArray) : Option (Int) := spec_laSmall.l0 k a0 0 0
set_option maxHeartbeats 8000000 in
set_option maxRecDepth 100000 in
theorem spec_laSmall.calls (k : Nat) (a0 : ByteArray) (r : Int) (w : World) (h : spec_laSmall.f k a0 = some r) :
  Calls Tryz.prog 74 #[.string a0] w fun e w' => e = .returned (.int .i64 r) ∧ Drawn0 w w' := by
 have H : (spec_laSmall.l0 k a0 0 0) = some r := h
 clear h
 have H' := aK H
 clear H
 go_enter Tryz.func74, Tryz.ntmps74
 go_wp2
 go_loopg [3, 4] k (fun kq v3 v4 w' => ∃ (x3_1 : Int) (x4_1 : Int), v3 = .int .i64 x3_1 ∧ v4 = .int .i64 x4_1 ∧ Aside0 (spec_laSmall.l0 kq a0 x3_1 x4_1 = some r) ∧ Aside0 (kq ≤ k) ∧ Drawn0 w w')
 case atStart => exact ⟨(0), (0), rS, rS, H', ⟨Nat.le_refl _⟩, by repeat (first | exact Drawn0.refl _ | apply Drawn0.step)⟩
 case round =>
  clear H'
  obtain ⟨x3_1, x4_1, rfl, rfl, HA, HK1, ⟨m1, rfl⟩⟩ := hrel
  cases gk with
  | zero => exact absurd HA.out (by simp [spec_laSmall.l0])
  | succ k1 =>
   have H := HA.out
   clear HA
   simp only [spec_laSmall.l0] at H
   by_cases c2 : x4_1 < (a0.size : Int)
   ·rw [if_pos c2] at H
    have c2b0 : decide (x4_1 < (a0.size : Int)) = true := decide_eq_true c2
    clear c2
    by_cases c3 : 0 ≤ x4_1
    ·rw [if_pos c3] at H
     have c3b0 : decide (0 ≤ x4_1) = true := decide_eq_true c3
     clear c3
     have H' := aK H
     clear H
     have p4 : 0 ≤ (x4_1 : Int) := dA
     have q4 : x4_1 < (a0.size : Int) := dA
     have hx4 := bt_at a0 x4_1
     replace p4 := eq_true p4
     replace q4 := eq_true q4
     go_wp2
     go_roundg k1
     case measure => have := HK1.out; omega
     case rel => exact ⟨(wrap64 ((wrap64 (10 * x3_1)) + (((bt a0 x4_1) - 48) % 256))), (wrap64 (x4_1 + 1)), rS, rS, H', ⟨by have := HK1.out; omega⟩, by repeat (first | exact Drawn0.refl _ | apply Drawn0.step)⟩
    ·rw [if_neg c3] at H
     exact absurd H (by simp)
   ·rw [if_neg c2] at H
    have c2b0 : decide (x4_1 < (a0.size : Int)) = false := decide_eq_false c2
    clear c2
    obtain rfl := Option.some.inj H
    go_wp2
    go_ret
    exact ⟨by first | rfl | (simp; done) | (simp [*]; done), by repeat (first | exact Drawn0.refl _ | apply Drawn0.step)⟩

end Go.Proofs.YteffjlhljeodpaaGreatDoor.G

namespace Go.Proofs.YteffjlhljeodpaaGreatDoor.NumL
open Go.RowKit Go.Proofs.YteffjlhljeodpaaGreatDoor.G Go.Proofs.YteffjlhljeodpaaGreatDoor.EvL Go.Proofs.YteffjlhljeodpaaGreatDoor.TxtL Go.Proofs.YteffjlhljeodpaaGreatDoorW.PrintWords Go.Proofs.YteffjlhljeodpaaGreatDoorW.PrintLast
set_option linter.unusedVariables false
set_option linter.unusedSimpArgs false

theorem digit_all : ∀ i : Fin 10, strOfNums (([(wrap64 (48 + (i.val : Int))) % 256] : List Int)) = ⟨([UInt8.ofNat (48 + i.val)] : List UInt8).toArray⟩ := by decide +kernel
theorem digit (n : Int) (h0 : 0 ≤ n) (h1 : n < 10) : strOfNums (([(wrap64 (48 + n)) % 256] : List Int)) = ⟨([UInt8.ofNat (48 + n.toNat)] : List UInt8).toArray⟩ := by
  have h := digit_all ⟨n.toNat, by omega⟩
  have e : (((⟨n.toNat, by omega⟩ : Fin 10).val : Nat) : Int) = n := by show ((n.toNat : Nat) : Int) = n; omega
  rw [e] at h
  exact h
theorem low_ev (n : Int) (h0 : 0 ≤ n) (h1 : n < 10) : Ev (fun k => spec_l1Num.f k n) ⟨(Lib.decDigits n.toNat).toArray⟩ := by
  refine Ev.step (f := fun _ => some ⟨(Lib.decDigits n.toNat).toArray⟩) (fun k => ?_) (Ev.now _)
  simp only [spec_l1Num.f]
  rw [if_neg (by omega), if_pos h1, digit n h0 h1, Lib.decDigits_one (by omega)]
theorem up_ev (n : Int) (h0 : 10 ≤ n) (h1 : n ≤ 100000) (hl : (Lib.decDigits (n / 10).toNat).length ≤ 100) (h : Ev (fun k => spec_l1Num.f k (n / 10)) ⟨(Lib.decDigits (n / 10).toNat).toArray⟩) : Ev (fun k => spec_l1Num.f k n) ⟨(Lib.decDigits n.toNat).toArray⟩ := by
  have e : Int.tdiv n 10 = n / 10 := Int.tdiv_eq_ediv_of_nonneg (by omega)
  have e2 : wrap64 (Int.tdiv n 10) = n / 10 := by rw [e]; exact w64 (by omega) (by omega)
  have e3 : Int.tmod n 10 = n % 10 := Int.tmod_eq_emod_of_nonneg (by omega)
  have e4 := digit (n % 10) (by omega) (by omega)
  have e5 : Lib.decDigits n.toNat = Lib.decDigits (n / 10).toNat ++ [UInt8.ofNat (48 + (n % 10).toNat)] := by
    rw [Lib.decDigits, dif_neg (by omega), show n.toNat / 10 = (n / 10).toNat by omega, show n.toNat % 10 = (n % 10).toNat by omega]
  refine Ev.step (f := fun k => (spec_l1Num.f k (n / 10)).bind fun t105 => (if t105.size + (⟨([UInt8.ofNat (48 + (n % 10).toNat)] : List UInt8).toArray⟩ : ByteArray).size ≤ 9223372036854775807 then (some (t105 ++ (⟨([UInt8.ofNat (48 + (n % 10).toNat)] : List UInt8).toArray⟩ : ByteArray))) else (none))) (fun k => ?_) (Ev.bind h (Ev.ite_pos ?_ (Ev.of_eq (Ev.now _) ?_)))
  · simp only [spec_l1Num.f]
    rw [if_neg (by omega), if_neg (by omega), e2, e3]
    simp only [Option.bind_some, e4]
  · show (Lib.decDigits (n / 10).toNat).toArray.size + 1 ≤ _
    simp; omega
  · rw [e5]
    apply ByteArray.ext
    simp
theorem num_ev : ∀ (m : Nat) (n : Int), 0 ≤ n → n < 10 ^ (m + 1) → n ≤ 100000 → m ≤ 20 → Ev (fun k => spec_l1Num.f k n) ⟨(Lib.decDigits n.toNat).toArray⟩ ∧ (Lib.decDigits n.toNat).length ≤ m + 1 := by
  intro m
  induction m with
  | zero =>
    intro n h0 h1 h2 hm
    have h1' : n < 10 := by simpa using h1
    exact ⟨low_ev n h0 h1', by rw [Lib.decDigits_one (by omega)]; simp⟩
  | succ m ih =>
    intro n h0 h1 h2 hm
    by_cases c : n < 10
    · exact ⟨low_ev n h0 c, by rw [Lib.decDigits_one (by omega)]; simp⟩
    · have hp : (10 : Int) ^ (m + 1 + 1) = 10 ^ (m + 1) * 10 := Int.pow_succ ..
      obtain ⟨hE, hl⟩ := ih (n / 10) (by omega) (by rw [hp] at h1; omega) (by omega) (by omega)
      refine ⟨up_ev n (by omega) h2 (by omega) hE, ?_⟩
      rw [Lib.decDigits, dif_neg (by omega), show n.toNat / 10 = (n / 10).toNat by omega]
      simp; omega
theorem num (n : Int) (h0 : 0 ≤ n) (h1 : n ≤ 100000) : Ev (fun k => spec_l1Num.f k n) ⟨(Lib.decDigits n.toNat).toArray⟩ ∧ (Lib.decDigits n.toNat).length ≤ 6 :=
  num_ev 5 n h0 (by have : (10 : Int) ^ (5 + 1) = 1000000 := by decide
                    omega) h1 (by decide)

theorem next (i n : Nat) (h : i < n) (hn : n ≤ 9223372036854775807) : wrap64 ((i : Int) + 1) = ((i + 1 : Nat) : Int) := w64 (by omega) (by omega)
theorem num_step (a v P : Nat) (h : a < P) (hP : P ≤ 1000000) (hv : v ≤ 9) (x : Int) (hx : x = (v : Int) + 48) : a * 10 + v < P * 10 ∧ wrap64 (wrap64 (10 * (a : Int)) + (x - 48) % 256) = ((a * 10 + v : Nat) : Int) := by
  refine ⟨by omega, ?_⟩
  have e1 : (x - 48) % 256 = (v : Int) := by omega
  have e2 : wrap64 (10 * (a : Int)) = 10 * (a : Int) := w64 (by omega) (by omega)
  rw [e1, e2, w64 (by omega) (by omega)]; omega
theorem numAt (l : List UInt8) (hl : l.length ≤ 6) (hd : ∀ c ∈ l, isD c) : ∀ (d i a : Nat), i + d = l.length → a < 10 ^ i → Ev (fun k => spec_laSmall.l0 k (B l) a i) ((valF a (l.drop i) : Nat) : Int) := by
  intro d
  have hsz : (B l).size = l.length := B_size l
  induction d with
  | zero =>
    intro i a hi ha
    have c1 : ¬ (i : Int) < (((B l).size : Nat) : Int) := by rw [hsz]; omega
    rw [List.drop_eq_nil_of_le (show l.length ≤ i by omega)]
    refine Ev.step (f := fun _ => some (a : Int)) (fun k => ?_) (Ev.now _)
    rw [spec_laSmall.l0, if_neg c1]
  | succ d ih =>
    intro i a hi ha
    have hlt : i < l.length := by omega
    have c1 : (i : Int) < (((B l).size : Nat) : Int) := by rw [hsz]; omega
    have c0 : 0 ≤ (i : Int) := by omega
    have hw := next i l.length hlt (by omega)
    have hbt := bt_B l i hlt
    have hD : isD l[i] := hd _ (List.getElem_mem hlt)
    unfold isD at hD
    have hp : 10 ^ i ≤ 1000000 := Nat.le_trans (Nat.pow_le_pow_right (by omega) (show i ≤ 6 by omega)) (by decide)
    rw [List.drop_eq_getElem_cons hlt, valF_cons]
    obtain ⟨v, hv⟩ : ∃ v, v = (l[i]).toNat - 48 := ⟨_, rfl⟩
    rw [← hv]
    obtain ⟨q1, q2⟩ := num_step a v (10 ^ i) ha hp (by omega) (bt (B l) (i : Int)) (by rw [hbt]; omega)
    refine Ev.step (f := fun k => spec_laSmall.l0 k (B l) ((a * 10 + v : Nat) : Int) ((i + 1 : Nat) : Int)) (fun k => ?_) (ih (i + 1) (a * 10 + v) (by omega) (by rw [Nat.pow_succ]; exact q1))
    rw [spec_laSmall.l0, if_pos c1, if_pos c0, q2, hw]
theorem small_ev (l : List UInt8) (hl : l.length ≤ 6) (hd : ∀ c ∈ l, isD c) : Ev (fun k => spec_laSmall.f k (B l)) ((valF 0 l : Nat) : Int) := numAt l hl hd l.length 0 0 (by omega) (by decide)
theorem num_B (n : Int) (h0 : 0 ≤ n) (h1 : n ≤ 100000) : Ev (fun k => spec_l1Num.f k n) (B (Lib.decDigits n.toNat)) := (num n h0 h1).1
end Go.Proofs.YteffjlhljeodpaaGreatDoor.NumL

namespace Go.Proofs.YteffjlhljeodpaaGreatDoor.G
open Go.RowKit Go.Proofs.YteffjlhljeodpaaGreatDoor.EvL Go.Proofs.YteffjlhljeodpaaGreatDoor.TxtL Go.Proofs.YteffjlhljeodpaaGreatDoor.ReadM Go.Proofs.YteffjlhljeodpaaGreatDoorW.PrintWords
set_option linter.unusedVariables false
set_option linter.unusedSimpArgs false

theorem yrd_drop (m : Nat) : ∀ (d : Nat) (s : List UInt8) (t : Ty) (r : List UInt8), yrd m d s = some (t, r) → ∃ c, 1 ≤ c ∧ c ≤ s.length ∧ r = s.drop c
  | 0, _, _, _, h => by cases h
  | _ + 1, [], _, _, h => by cases h
  | d + 1, c :: s, t, r, h => by
    unfold yrd at h
    by_cases h1 : c = 40
    · rw [if_pos h1] at h
      obtain ⟨⟨a, r0⟩, ha, h⟩ := Option.bind_eq_some_iff.mp h
      obtain ⟨r1, e1, h⟩ := Option.bind_eq_some_iff.mp h
      obtain ⟨⟨b, r2⟩, hb, h⟩ := Option.bind_eq_some_iff.mp h
      obtain ⟨r3, e2, h⟩ := Option.bind_eq_some_iff.mp h
      simp only [Option.some.injEq, Prod.mk.injEq] at h
      obtain ⟨rfl, rfl⟩ := h
      obtain ⟨n, a1, a2, a3⟩ := yrd_drop m d s a r0 ha
      obtain ⟨k, b1, b2, b3⟩ := yrd_drop m d r1 b r2 hb
      have q1 : s.drop n = 62 :: r1 := a3.symm.trans (eat_some e1)
      have q2 : r1.drop k = 41 :: r3 := b3.symm.trans (eat_some e2)
      have l1 : s.length - n = r1.length + 1 := by have := congrArg List.length q1; simpa using this
      have l2 : r1.length - k = r3.length + 1 := by have := congrArg List.length q2; simpa using this
      have p1 : r1 = s.drop (n + 1) := by rw [← List.drop_drop, q1]; rfl
      have p2 : r3 = r1.drop (k + 1) := by rw [← List.drop_drop, q2]; rfl
      refine ⟨n + k + 3, by omega, by rw [List.length_cons]; omega, ?_⟩
      rw [p2, p1, List.drop_drop, show n + k + 3 = (n + 1 + (k + 1)) + 1 by omega, List.drop_succ_cons]
    rw [if_neg h1] at h
    by_cases h2 : c = 116 ∧ digs m s ≠ []
    · rw [if_pos h2] at h
      simp only [Option.some.injEq, Prod.mk.injEq] at h
      obtain ⟨rfl, rfl⟩ := h
      exact ⟨(digs m s).length + 1, by omega, by rw [List.length_cons]; have := (digs_len m s).2; omega, (List.drop_succ_cons).symm⟩
    · rw [if_neg h2] at h; cases h
def toS : Ty → S55
  | .v n => ⟨n, []⟩
  | .a l r => ⟨0, [toS l, toS r]⟩
theorem toS_eta (t : Ty) : (⟨(toS t).f0, (toS t).f1⟩ : S55) = toS t := by cases t <;> rfl
def readF (d : Nat) (l : List UInt8) : Int × List S55 × Int := match yrd 3 d l with
  | some (t, r) => ((toS t).f0, (toS t).f1, ((l.length - r.length : Nat) : Int))
  | none => (0, [], 0)
theorem readF_none {d : Nat} {l : List UInt8} (h : yrd 3 d l = none) : readF d l = (0, [], 0) := by unfold readF; rw [h]
theorem readF_some {d : Nat} {l r : List UInt8} {t : Ty} (h : yrd 3 d l = some (t, r)) : readF d l = ((toS t).f0, (toS t).f1, ((l.length - r.length : Nat) : Int)) := by unfold readF; rw [h]
end Go.Proofs.YteffjlhljeodpaaGreatDoor.G

namespace Go.Proofs.YteffjlhljeodpaaGreatDoor.G
open Go.RowKit Go.Proofs.YteffjlhljeodpaaGreatDoorW.PrintWords Go.Proofs.YteffjlhljeodpaaGreatDoorW.PrintLast Go.Proofs.YteffjlhljeodpaaGreatDoorW.PrintMore Go.Proofs.YteffjlhljeodpaaGreatDoor.EvL Go.Proofs.YteffjlhljeodpaaGreatDoor.TxtL Go.Proofs.YteffjlhljeodpaaGreatDoor.ReadM Go.Proofs.YteffjlhljeodpaaGreatDoor.NumL Go.Proofs.YteffjlhljeodpaaGreatDoor.Short
set_option linter.unusedVariables false
set_option linter.unusedSimpArgs false

set_option maxHeartbeats 8000000 in
set_option maxRecDepth 100000 in
theorem leRead_w : ∀ (d : Nat) (l : List UInt8) (w : World) (hd : d ≤ 61) (hl : l.length ≤ 1099511627776),
  Calls Tryz.prog 43 #[.string (B l), .int .i64 (62 - (d : Int))] w fun e w' => ∃ v1 : Value, e = .returned (.tuple #[.agg #[.int .i64 (readF d l).1, v1], .int .i64 (readF d l).2.2]) ∧ Kd.R k55 55 w' w.heap.size (fun _ => True) v1 (readF d l).2.1 ∧ Below w.heap.size w w'
 | d, [], w, hd, hl => by
  have hu55 := Tryz.underlying55
  obtain ⟨dp, hdp⟩ : ∃ z : Int, z = 62 - (d : Int) := ⟨_, rfl⟩
  rw [← hdp]
  have z2 : (B []).toList.isEmpty = true := by rw [toList_B]; rfl
  have hy : yrd 3 d [] = none := by cases d <;> rfl
  have HN := aK (readF_none hy)
  clear hdp hy
  go_enter Tryz.func43, Tryz.ntmps43
  go_wp2_with (first | ((with_reducible refine gate_dst (N := 4) rfl ?_); refine bE (N := 4) (cs := #[.int .i64 0, .slice none 0 0]) (t := 55) ?_; intro g4 hg w1 hbox hb; have HB := aK hb; have G4 := aK (Nat.le_of_eq hg.symm : w.heap.size ≤ g4); have BK4 := aK hbox; clear hbox hg hb; have hc4_0 : w1.cell? ⟨g4, 0, none⟩ = some (.int .i64 0) := (blk_cell BK4.out 0).trans rfl; have hc4_1 : w1.cell? ⟨g4, 1, none⟩ = some (.slice none 0 0) := (blk_cell BK4.out 1).trans rfl; have hf4_0 := blk_frozen BK4.out 0; have hf4_1 := blk_frozen BK4.out 1))
  refine bodyPost_ret (results_ct rfl _ _ g4 55 #[.int .i64 (0), .slice none 0 0] (0, 0) _ rfl (bP BK4) Tryz.underlying55 rfl (by kernel_rfl)) rfl ?_
  exact ⟨_, by rw [HN.out] <;> rfl, by rw [HN.out]; exact Kd.R_nil _ _ _ _ _, (pH HB)⟩
 | 0, c :: s, w, hd, hl => by
  have hu55 := Tryz.underlying55
  obtain ⟨dp, hdp⟩ : ∃ z : Int, z = 62 - ((0 : Nat) : Int) := ⟨_, rfl⟩
  rw [← hdp]
  have z1 : decide (61 < dp) = true := decide_eq_true (by omega)
  obtain ⟨S, hS⟩ : ∃ S, S = B (c :: s) := ⟨_, rfl⟩
  rw [← hS]
  have z2 : S.toList.isEmpty = false := by rw [hS, toList_B]; rfl
  have hy : yrd 3 0 (c :: s) = none := rfl
  have HN := aK (readF_none hy)
  clear hdp hy hS
  go_enter Tryz.func43, Tryz.ntmps43
  go_wp2_with (first | ((with_reducible refine gate_dst (N := 4) rfl ?_); refine bE (N := 4) (cs := #[.int .i64 0, .slice none 0 0]) (t := 55) ?_; intro g4 hg w1 hbox hb; have HB := aK hb; have G4 := aK (Nat.le_of_eq hg.symm : w.heap.size ≤ g4); have BK4 := aK hbox; clear hbox hg hb; have hc4_0 : w1.cell? ⟨g4, 0, none⟩ = some (.int .i64 0) := (blk_cell BK4.out 0).trans rfl; have hc4_1 : w1.cell? ⟨g4, 1, none⟩ = some (.slice none 0 0) := (blk_cell BK4.out 1).trans rfl; have hf4_0 := blk_frozen BK4.out 0; have hf4_1 := blk_frozen BK4.out 1))
  refine bodyPost_ret (results_ct rfl _ _ g4 55 #[.int .i64 (0), .slice none 0 0] (0, 0) _ rfl (bP BK4) Tryz.underlying55 rfl (by kernel_rfl)) rfl ?_
  exact ⟨_, by rw [HN.out] <;> rfl, by rw [HN.out]; exact Kd.R_nil _ _ _ _ _, (pH HB)⟩
 | d + 1, c :: s, w, hd, hl => by
  have hu55 := Tryz.underlying55
  obtain ⟨dp, hdp⟩ : ∃ z : Int, z = 62 - ((d + 1 : Nat) : Int) := ⟨_, rfl⟩
  rw [← hdp]
  obtain ⟨S, hS⟩ : ∃ S, S = B (c :: s) := ⟨_, rfl⟩
  rw [← hS]
  have hsz : S.size = s.length + 1 := by rw [hS, B_size]; rfl
  have hb0 : bt S 0 = (c.toNat : Int) := by rw [hS]; exact bt_B (c :: s) 0 (by simp)
  have z1 : decide (61 < dp) = false := decide_eq_false (by omega)
  have z2 : S.toList.isEmpty = false := by rw [hS, toList_B]; rfl
  have HL : Aside0 (s.length + 1 ≤ 1099511627776) := ⟨hl⟩
  have HD : Aside0 (d ≤ 61 ∧ dp = 61 - (d : Int)) := ⟨by omega, by omega⟩
  have HS := aK hS
  have HZ := aK hsz
  have q1 : (0 < S.size) = True := eq_true (by omega)
  have hx : ∀ h : 0 < S.size, ((S[0]'h).toNat : Int) = (c.toNat : Int) := fun h => (bt_at S 0 h).trans hb0
  clear hd hl hdp
  by_cases c116 : c = 116
  ·subst c116
   have HX := aK hx
   replace hx : ∀ h : 0 < S.size, (((S[0]'h).toNat : Int) == 116) = true := fun h => by rw [HX.out h]; rfl
   obtain ⟨n, hn⟩ : ∃ n, n = (digs 3 s).length := ⟨_, rfl⟩
   have hdl := digs_len 3 s
   have NL : Aside0 (n ≤ 3 ∧ n ≤ s.length) := ⟨by rw [hn]; exact hdl⟩
   have DA : Aside0 (∀ j, j < n → 48 ≤ bt S ((j : Int) + 1) ∧ bt S ((j : Int) + 1) ≤ 57) := ⟨fun j hj => by
    have hp := digs_pre 3 s
    have hjs : j < s.length := by omega
    have hd := digs_all 3 s ((digs 3 s)[j]'(by omega)) (List.getElem_mem _)
    have e : s[j] = (digs 3 s)[j]'(by omega) := by
     have : s[j]? = (digs 3 s)[j]? := by
      conv => lhs; rw [hp]
      rw [List.getElem?_append_left (by omega)]
     rw [List.getElem?_eq_getElem hjs, List.getElem?_eq_getElem (by omega)] at this
     exact Option.some.inj this
    have eb : bt S ((j : Int) + 1) = (s[j].toNat : Int) := by
     rw [hS]
     exact (bt_B (116 :: s) (j + 1) (by simp; omega))
    rw [eb, e]
    unfold isD at hd
    omega⟩
   have DE : Aside0 (n < s.length → n < 3 → ¬ (48 ≤ bt S ((n : Int) + 1) ∧ bt S ((n : Int) + 1) ≤ 57)) := ⟨fun h1 h4 hb => by
    have eb : bt S ((n : Int) + 1) = (s[n].toNat : Int) := by
     rw [hS]
     exact (bt_B (116 :: s) (n + 1) (by simp; omega))
    rw [eb] at hb
    have hD : isD s[n] := by unfold isD; omega
    have := digs_end 3 s (by omega) (by omega)
    exact this (by simpa [← hn] using hD)⟩
   have HNN := aK hn
   clear hn hdl hS hsz hb0
   go_enter Tryz.func43, Tryz.ntmps43
   go_upto_block 0 with (first | ((with_reducible refine gate_dst (N := 4) rfl ?_); refine bE (N := 4) (cs := #[.int .i64 0, .slice none 0 0]) (t := 55) ?_; intro g4 hg w1 hbox hb; have HB := aK hb; have G4 := aK (Nat.le_of_eq hg.symm : w.heap.size ≤ g4); have BK4 := aK hbox; clear hbox hg hb; have hc4_0 : w1.cell? ⟨g4, 0, none⟩ = some (.int .i64 0) := (blk_cell BK4.out 0).trans rfl; have hc4_1 : w1.cell? ⟨g4, 1, none⟩ = some (.slice none 0 0) := (blk_cell BK4.out 1).trans rfl; have hf4_0 := blk_frozen BK4.out 0; have hf4_1 := blk_frozen BK4.out 1))
   go_cut [6] (fun v6 wc => v6 = .int .i64 ((n : Int) + 1) ∧ Aside0 (wc.heap[g4]? = some (.cells #[.int .i64 0, .slice none 0 0] 55 (0, 0))) ∧ Aside0 (Below w.heap.size w wc))
   case first =>
    go_wp2
    go_loopg [6] n (fun gk v6 w' => ∃ (i : Int) (j : Nat), v6 = .int .i64 i ∧ Aside0 (i = (j : Int) + 1 ∧ gk + j = n) ∧ Aside0 (w'.heap[g4]? = some (.cells #[.int .i64 0, .slice none 0 0] 55 (0, 0))) ∧ Aside0 (Below w.heap.size w w'))
    case atStart => exact ⟨1, 0, rfl, ⟨rfl, rfl⟩, BK4, HB⟩
    case round =>
     clear BK4 HB hc4_0 hc4_1 hf4_0 hf4_1
     obtain ⟨i, j, rfl, HJ, BK, HB⟩ := hrel
     have hZ := HZ.out
     have hL := NL.out
     have h0 : 0 ≤ i := by have := HJ.out; omega
     have p1 := eq_true h0
     have hxi := bt_at S i
     cases gk with
     | zero =>
      have hj : j = n := by have := HJ.out; omega
      have hi : i = (n : Int) + 1 := by have := HJ.out; omega
      by_cases ca : n = s.length
      ·have s1 : decide (i < (S.size : Int)) = false := decide_eq_false (by omega)
       have RI : Aside0 (i = (n : Int) + 1) := ⟨hi⟩
       clear ca hj hi hZ hL h0
       go_wp2
       go_meet
       case rel => exact ⟨by rw [RI.out], BK, HB⟩
      ·have s1 : decide (i < (S.size : Int)) = true := decide_eq_true (by omega)
       have q4 : (i < (S.size : Int)) = True := eq_true (by omega)
       by_cases cb : n = 3
       ·have s2 : decide (i < 4) = false := decide_eq_false (by omega)
        have RI : Aside0 (i = (n : Int) + 1) := ⟨hi⟩
        clear ca cb hj hi hZ hL h0
        go_wp2
        go_meet
        case rel => exact ⟨by rw [RI.out], BK, HB⟩
       ·have s2 : decide (i < 4) = true := decide_eq_true (by omega)
        have hde := DE.out (by omega) (by omega)
        rw [← hi] at hde
        have RI : Aside0 (i = (n : Int) + 1) := ⟨hi⟩
        by_cases cc : 48 ≤ bt S i
        ·have s3 : decide (48 ≤ bt S i) = true := decide_eq_true cc
         have s4 : decide (bt S i ≤ 57) = false := decide_eq_false (fun h => hde ⟨cc, h⟩)
         clear ca cb hj hi hZ hL h0 hde cc
         go_wp2
         go_meet
         case rel => exact ⟨by rw [RI.out], BK, HB⟩
        ·have s3 : decide (48 ≤ bt S i) = false := decide_eq_false cc
         clear ca cb hj hi hZ hL h0 hde cc
         go_wp2
         go_meet
         case rel => exact ⟨by rw [RI.out], BK, HB⟩
     | succ k1 =>
      have hd := DA.out j (by have := HJ.out; omega)
      have s1 : decide (i < (S.size : Int)) = true := decide_eq_true (by have := HJ.out; omega)
      have q4 : (i < (S.size : Int)) = True := eq_true (by have := HJ.out; omega)
      have s2 : decide (i < 4) = true := decide_eq_true (by have := HJ.out; omega)
      rw [← HJ.out.1] at hd
      have s3 : decide (48 ≤ bt S i) = true := decide_eq_true hd.1
      have s4 : decide (bt S i ≤ 57) = true := decide_eq_true hd.2
      clear hd hZ hL h0
      go_wp2
      go_roundg k1
      case measure => omega
      case rel => exact ⟨i + 1, j + 1, by rw [w64 (by have := HJ.out; have := NL.out; omega) (by have := HJ.out; have := NL.out; omega)], ⟨by have := HJ.out; omega, by have := HJ.out; omega⟩, BK, HB⟩
   case rest =>
    clear BK4 HB hc4_0 hc4_1 hf4_0 hf4_1
    obtain ⟨rfl, BK, HB⟩ := hcut
    have hc4_0 : wc.cell? ⟨g4, 0, none⟩ = some (.int .i64 0) := (blk_cell BK.out 0).trans rfl
    have hc4_1 : wc.cell? ⟨g4, 1, none⟩ = some (.slice none 0 0) := (blk_cell BK.out 1).trans rfl
    have hf4_0 := blk_frozen BK.out 0
    have hf4_1 := blk_frozen BK.out 1
    by_cases hn0 : n = 0
    ·have h0 : digs 3 s = [] := List.eq_nil_of_length_eq_zero (by rw [← HNN.out]; exact hn0)
     have hy : yrd 3 (d + 1) (116 :: s) = none := by rw [yrd, if_neg (by decide), if_neg (fun h => h.2 h0)]
     have HN := aK (readF_none hy)
     have sq : ((n : Int) + 1 == 1) = true := by rw [hn0]; rfl
     clear hn0 h0 hy
     go_wp2
     refine bodyPost_ret (results_ct rfl _ _ g4 55 #[.int .i64 (0), .slice none 0 0] (0, 0) _ rfl (bP BK) Tryz.underlying55 rfl (by kernel_rfl)) rfl ?_
     exact ⟨_, by rw [HN.out] <;> rfl, by rw [HN.out]; exact Kd.R_nil _ _ _ _ _, (pH HB)⟩
    ·have sq : ((n : Int) + 1 == 1) = false := by
      have : (n : Int) + 1 ≠ 1 := by omega
      simpa using this
     have h0 : digs 3 s ≠ [] := fun h => hn0 (by rw [HNN.out, h]; rfl)
     have hy : yrd 3 (d + 1) (116 :: s) = some (.v ((valF 0 (digs 3 s) : Nat) : Int), s.drop n) := by rw [yrd, if_neg (by decide), if_pos ⟨rfl, h0⟩, HNN.out]
     obtain ⟨v, hv⟩ : ∃ z : Int, z = ((valF 0 (digs 3 s) : Nat) : Int) := ⟨_, rfl⟩
     rw [← hv] at hy
     have HN := aK (readF_some hy)
     have q5 : ((1 : Int) ≤ (n : Int) + 1) = True := eq_true (by omega)
     have q6 : ((n : Int) + 1 ≤ (S.size : Int)) = True := eq_true (by have := HZ.out; have := NL.out; omega)
     have q7 : ((0 : Int) ≤ (n : Int) + 1) = True := eq_true (by omega)
     have EX : S.extract 1 (n + 1) = B (digs 3 s) := by
      have hp := digs_pre 3 s
      rw [HS.out]
      refine data_inj ?_
      rw [B_list]
      have h1 : ((B (116 :: s)).extract 1 (n + 1)).data.toList = s.take n := by
       have : (B (116 :: s)).extract 1 (n + 1) = B (s.take n) := by
        apply ByteArray.ext
        simp [B, List.drop_take]
       rw [this, B_list]
      rw [h1, HNN.out]
      have h2 := congrArg (List.take (digs 3 s).length) hp
      rw [List.take_left] at h2
      exact h2
     have SE := small_ev (digs 3 s) (by have := (digs_len 3 s).1; omega) (digs_all 3 s)
     rw [← hv] at SE
     have EX1 := aK EX
     have S1 := aK SE
     clear EX SE h0 hn0 hy hv
     go_wp2_with (first
      | (go_at_call 74; rw [EX1.out]; obtain ⟨kk, hk⟩ := S1.out; refine (spec_laSmall.calls kk (B (digs 3 s)) v _ (hk kk (Nat.le_refl _))).mono ?_; rintro _ w4 ⟨rfl, hd⟩; have hb := hd.below; have BK5 := aK (blk_below BK.out hb); have HB5 := aK (below_step HB.out hb); have hd4_0 : w4.cell? ⟨g4, 0, none⟩ = some (.int .i64 0) := (blk_cell BK5.out 0).trans rfl; have hd4_1 : w4.cell? ⟨g4, 1, none⟩ = some (.slice none 0 0) := (blk_cell BK5.out 1).trans rfl; have he4_0 := blk_frozen BK5.out 0; have he4_1 := blk_frozen BK5.out 1; clear hb hd hk))
     refine bodyPost_ret (results_ct rfl _ _ g4 55 #[.int .i64 (v), .slice none 0 0] (0, 0) _ rfl (bP BK5) Tryz.underlying55 rfl (by kernel_rfl)) rfl ?_
     refine ⟨_, ?_, by rw [HN.out]; exact Kd.R_nil _ _ _ _ _, (pH HB5)⟩
     rw [HN.out]
     have e : (((116 :: s).length - (s.drop n).length : Nat) : Int) = (n : Int) + 1 := by rw [List.length_drop, List.length_cons]; have := NL.out; omega
     rw [e]; rfl
  ·have hne : ∀ h : 0 < S.size, (((S[0]'h).toNat : Int) == 116) = false := fun h => by
    rw [hx h]
    have : (c.toNat : Int) ≠ 116 := fun h => c116 (by have h2 : c.toNat = 116 := by { omega }; rw [show c = UInt8.ofNat c.toNat by simp, h2]; rfl)
    simpa using this
   by_cases c40 : c = 40
   ·subst c40
    replace hx : ∀ h : 0 < S.size, (((S[0]'h).toNat : Int) != 40) = false := fun h => by rw [hx h]; rfl
    have q2_ : (1 ≤ S.size) = True := eq_true (by omega)
    have q3_ : ((1 : Int) ≤ (S.size : Int)) = True := eq_true (by omega)
    have e1 : S.extract 1 S.size = B s := by rw [hS]; exact ext_drop _ 1 _ (by rw [B_size])
    have E1 := aK e1
    have EW : Aside0 (wrap64 (dp + 1) = 62 - (d : Int)) := ⟨by rw [w64 (by have := HD.out; omega) (by have := HD.out; omega)]; have := HD.out; omega⟩
    obtain ⟨q1, q2, q3, hq⟩ : ∃ a b e, readF d s = (a, b, e) := ⟨_, _, _, rfl⟩
    have IH1 : Aside0 (∀ w : World, Calls Tryz.prog 43 #[.string (B s), .int .i64 (62 - (d : Int))] w fun e w' => ∃ v1 : Value, e = .returned (.tuple #[.agg #[.int .i64 q1, v1], .int .i64 q3]) ∧ Kd.R k55 55 w' w.heap.size (fun _ => True) v1 q2 ∧ Below w.heap.size w w') := ⟨fun w => by
     have h := leRead_w d s w (by have := HD.out; omega) (by have := HL.out; omega)
     rw [hq] at h
     exact h⟩
    have HQ := aK hq
    clear e1 hS hsz hb0 hq c116
    go_enter Tryz.func43, Tryz.ntmps43
    go_upto_region 13 with (first
     | ((with_reducible refine gate_dst (N := 4) rfl ?_); refine bE (N := 4) (cs := #[.int .i64 0, .slice none 0 0]) (t := 55) ?_; intro g4 hg w1 hbox hb; have HB := aK hb; have G4 := aK (Nat.le_of_eq hg.symm : w.heap.size ≤ g4); have BK4 := aK hbox; clear hbox hg hb; have hc4_0 : w1.cell? ⟨g4, 0, none⟩ = some (.int .i64 0) := (blk_cell BK4.out 0).trans rfl; have hc4_1 : w1.cell? ⟨g4, 1, none⟩ = some (.slice none 0 0) := (blk_cell BK4.out 1).trans rfl; have hf4_0 := blk_frozen BK4.out 0; have hf4_1 := blk_frozen BK4.out 1)
     | ((first | ((with_reducible refine gate_callee (f := 43) rfl ?_); refine goesL_ (some 62) rfl rfl Tryz.func43 (by kernel_rfl) rfl #[.string (S.extract 1 S.size), .int .i64 (wrap64 (dp + 1))] rfl tA ?_) | go_at_call 43); rw [E1.out, EW.out]; refine (IH1.out _).mono ?_; rintro _ w2 ⟨v1, rfl, ho, hb⟩; (try refine ⟨_, rfl, ?_⟩); have R1 := aK (Kd.R_lower (Kd.R_newB ho BK4.out) (below_size (pH HB))); have n1_ := aK (blk_below BK4.out hb); have n2_ := aK (below_step (pH HB) hb); clear BK4 HB hc4_0 hc4_1 hf4_0 hf4_1; have BK4 := n1_; have HB := n2_; clear n1_ n2_ ho hb; obtain ⟨A1, cc1, ee1⟩ := Kd.R_slice R1.out; subst ee1)
     | ((with_reducible refine gate_dst (N := 7) rfl ?_); refine bE (N := 7) (cs := #[.int .i64 0, .slice none 0 0]) (t := 55) ?_; intro g7 hg w3 hbox hb; have n1_ := aK (Kd.R_below (Kd.R_elderB R1.out g7 (Nat.le_of_eq hg.symm)) hb); have n2_ := aK (blk_below BK4.out hb); have n3_ := aK (below_step (pH HB) hb); have G7 := aK ((by rw [hg]; exact below_size (pH HB)) : w.heap.size ≤ g7); have N47 := aK ((by rw [hg]; exact Nat.ne_of_lt (blk_lt BK4.out)) : g4 ≠ g7); have N74 := aK (Ne.symm N47.out); clear R1 BK4 HB; have R1 := n1_; have BK4 := n2_; have HB := n3_; have BK7 := aK hbox; clear n1_ n2_ n3_ hg hbox hb; have hc4_0 : w3.cell? ⟨g4, 0, none⟩ = some (.int .i64 0) := (blk_cell BK4.out 0).trans rfl; have hc4_1 : w3.cell? ⟨g4, 1, none⟩ = some (.slice none 0 0) := (blk_cell BK4.out 1).trans rfl; have hf4_0 := blk_frozen BK4.out 0; have hf4_1 := blk_frozen BK4.out 1; have hc7_0 : w3.cell? ⟨g7, 0, none⟩ = some (.int .i64 0) := (blk_cell BK7.out 0).trans rfl; have hc7_1 : w3.cell? ⟨g7, 1, none⟩ = some (.slice none 0 0) := (blk_cell BK7.out 1).trans rfl; have hf7_0 := blk_frozen BK7.out 0; have hf7_1 := blk_frozen BK7.out 1; have hn47 := N47.out; have hn74 := N74.out))
    cases y1 : yrd 3 d s with
    | none =>
     have hy : yrd 3 (d + 1) (40 :: s) = none := by rw [yrd, if_pos rfl, y1]; rfl
     have HN := aK (readF_none hy)
     have h3 : q3 = 0 := by have := HQ.out; rw [readF_none y1] at this; cases this; rfl
     have s0 : (q3 == 0) = true := by rw [h3]; rfl
     clear hy y1 h3
     go_wp2
     refine bodyPost_ret (results_ct rfl _ _ g4 55 #[.int .i64 (0), .slice none 0 0] (0, 0) _ rfl (by (with_reducible repeat first | apply zN | apply zD | apply zA); refine blk_put (cs := #[.int .i64 (0), .slice none 0 0]) ?_ 1 _ rfl; (with_reducible repeat first | apply zN | apply zD | apply zA); refine blk_put (cs := #[.int .i64 0, .slice none 0 0]) ?_ 0 _ rfl; (repeat first | with_reducible apply zN | with_reducible apply zD | with_reducible apply zA | refine blk_far ?_ N47.out _); exact BK4.out) Tryz.underlying55 rfl (by kernel_rfl)) rfl ?_
     exact ⟨_, by rw [HN.out] <;> rfl, by rw [HN.out]; exact Kd.R_nil _ _ _ _ _, (pH HB)⟩
    | some p1 =>
     obtain ⟨t1, r0⟩ := p1
     have Y1 := aK y1
     obtain ⟨c1, c1a, c1b, c1c⟩ := yrd_drop 3 d s t1 r0 y1
     have hr0 : r0.length = s.length - c1 := by rw [c1c, List.length_drop]
     have e0 : (q1, q2, q3) = ((toS t1).f0, (toS t1).f1, ((s.length - r0.length : Nat) : Int)) := HQ.out.symm.trans (readF_some y1)
     have e3 : q3 = (c1 : Int) := by
      have := congrArg (fun z : Int × List S55 × Int => z.2.2) e0
      dsimp only at this
      omega
     have ET1 : Aside0 ((⟨q1, q2⟩ : S55) = toS t1) := ⟨by cases e0; exact toS_eta t1⟩
     have C1 : Aside0 (1 ≤ c1 ∧ c1 ≤ s.length ∧ r0 = s.drop c1 ∧ r0.length = s.length - c1 ∧ q3 = (c1 : Int)) := ⟨⟨c1a, c1b, c1c, hr0, e3⟩⟩
     have s0 : (q3 == 0) = false := by
      have : q3 ≠ 0 := by omega
      simpa using this
     have W1 : Aside0 (wrap64 (q3 + 1) = q3 + 1) := ⟨w64 (by omega) (by have := HL.out; omega)⟩
     have W2 : Aside0 (wrap64 (q3 + 2) = q3 + 2) := ⟨w64 (by omega) (by have := HL.out; omega)⟩
     clear y1 c1a c1b c1c hr0 e0 e3
     cases r0 with
     | nil =>
      have hy : yrd 3 (d + 1) (40 :: s) = none := by rw [yrd, if_pos rfl, Y1.out]; rfl
      have HN := aK (readF_none hy)
      have s1 : decide ((S.size : Int) ≤ wrap64 (q3 + 1)) = true := decide_eq_true (by rw [W1.out]; have := C1.out; have := HZ.out; have h5 := C1.out.2.2.2.1; simp only [List.length_nil] at h5; omega)
      clear hy
      go_wp2
      refine bodyPost_ret (results_ct rfl _ _ g4 55 #[.int .i64 (0), .slice none 0 0] (0, 0) _ rfl (by (with_reducible repeat first | apply zN | apply zD | apply zA); refine blk_put (cs := #[.int .i64 (0), .slice none 0 0]) ?_ 1 _ rfl; (with_reducible repeat first | apply zN | apply zD | apply zA); refine blk_put (cs := #[.int .i64 0, .slice none 0 0]) ?_ 0 _ rfl; (repeat first | with_reducible apply zN | with_reducible apply zD | with_reducible apply zA | refine blk_far ?_ N47.out _); exact BK4.out) Tryz.underlying55 rfl (by kernel_rfl)) rfl ?_
      exact ⟨_, by rw [HN.out] <;> rfl, by rw [HN.out]; exact Kd.R_nil _ _ _ _ _, (pH HB)⟩
     | cons x r1 =>
      have L1 : Aside0 (r1.length + 1 = s.length - c1) := ⟨C1.out.2.2.2.1⟩
      have s1 : decide ((S.size : Int) ≤ wrap64 (q3 + 1)) = false := decide_eq_false (by rw [W1.out]; have := C1.out; have := HZ.out; have := L1.out; omega)
      have p1 : (0 ≤ wrap64 (q3 + 1)) = True := eq_true (by rw [W1.out]; have := C1.out; omega)
      have p2 : (wrap64 (q3 + 1) < (S.size : Int)) = True := eq_true (by rw [W1.out]; have := C1.out; have := HZ.out; have := L1.out; omega)
      have hbx : bt S (wrap64 (q3 + 1)) = (x.toNat : Int) := by
       rw [W1.out, C1.out.2.2.2.2, HS.out]
       have := bt_B (40 :: s) (c1 + 1) (by rw [List.length_cons]; have := L1.out; omega)
       rw [show (((c1 + 1 : Nat) : Int)) = (c1 : Int) + 1 by omega] at this
       rw [this]
       have h2 : s[c1]'(by have := L1.out; omega) = x := by
        have h3 := congrArg (fun z : List UInt8 => z[0]?) C1.out.2.2.1
        simp only [List.getElem?_cons_zero, List.getElem?_drop, Nat.add_zero] at h3
        rw [List.getElem?_eq_getElem (by have := L1.out; omega)] at h3
        exact (Option.some.inj h3).symm
       show ((s[c1]'_).toNat : Int) = _
       rw [h2]
      have hxi := bt_at S (wrap64 (q3 + 1))
      by_cases x62 : x = 62
      ·subst x62
       have s2 : (bt S (wrap64 (q3 + 1)) != 62) = false := by rw [hbx]; rfl
       have R1E : Aside0 (r1 = s.drop (c1 + 1)) := ⟨by rw [← List.drop_drop, ← C1.out.2.2.1]; rfl⟩
       have e2 : S.extract (wrap64 (q3 + 2)).toNat S.size = B r1 := by
        have hk : (wrap64 (q3 + 2)).toNat = (c1 + 1) + 1 := by rw [W2.out, C1.out.2.2.2.2]; omega
        rw [hk, R1E.out, HS.out]
        exact ext_drop _ _ _ (by rw [B_size])
       have E2 := aK e2
       have p3 : (0 ≤ wrap64 (q3 + 2)) = True := eq_true (by rw [W2.out]; have := C1.out; omega)
       have p4 : (wrap64 (q3 + 2) ≤ (S.size : Int)) = True := eq_true (by rw [W2.out]; have := C1.out; have := HZ.out; have := L1.out; omega)
       have p5 : ((wrap64 (q3 + 2)).toNat ≤ S.size) = True := eq_true (by rw [W2.out]; have := C1.out; have := HZ.out; have := L1.out; omega)
       obtain ⟨q4, q5, q6, hq'⟩ : ∃ a b e, readF d r1 = (a, b, e) := ⟨_, _, _, rfl⟩
       have IH2 : Aside0 (∀ w : World, Calls Tryz.prog 43 #[.string (B r1), .int .i64 (62 - (d : Int))] w fun e w' => ∃ v1 : Value, e = .returned (.tuple #[.agg #[.int .i64 q4, v1], .int .i64 q6]) ∧ Kd.R k55 55 w' w.heap.size (fun _ => True) v1 q5 ∧ Below w.heap.size w w') := ⟨fun w => by
        have h := leRead_w d r1 w (by have := HD.out; omega) (by have := HL.out; have := L1.out; omega)
        rw [hq'] at h
        exact h⟩
       have HQ2 := aK hq'
       clear hq' e2 hbx
       go_upto_region 17 with (first
        | ((first | ((with_reducible refine gate_callee (f := 43) rfl ?_); refine goesL_ (some 89) rfl rfl Tryz.func43 (by kernel_rfl) rfl #[.string (S.extract (wrap64 (q3 + 2)).toNat S.size), .int .i64 (wrap64 (dp + 1))] rfl tA ?_) | go_at_call 43); rw [E2.out, EW.out]; refine (IH2.out _).mono ?_; rintro _ w4 ⟨v2, rfl, ho, hb⟩; (try refine ⟨_, rfl, ?_⟩); have R2 := aK (Kd.R_lower (Kd.R_newB (Kd.R_newB ho (o := .cells #[.int .i64 0, .slice none 0 0] 55 (0, 0)) (g := g4) (bY BK4)) (o := .cells #[.int .i64 q1, .slice A1 q2.length cc1] 55 (0, 0)) (g := g7) (bP BK7)) (below_size (pH HB))); have n1_ := (bB BK4 hb); have n2_ := aK (blk_below (g := g7) (o := .cells #[.int .i64 q1, .slice A1 q2.length cc1] 55 (0, 0)) (bP BK7) hb); have n3_ := aK (below_step (pH HB) hb); have n4_ := aK (Kd.R_below (Kd.R_far (p := ⟨g7, 1, none⟩) (Kd.R_far (p := ⟨g7, 0, none⟩) R1.out (fun k (hk : (True ∧ k ≠ g4) ∧ k ≠ g7) => hk.2) _) (fun k (hk : (True ∧ k ≠ g4) ∧ k ≠ g7) => hk.2) _) hb); clear R1 BK4 BK7 HB hc4_0 hc4_1 hf4_0 hf4_1 hc7_0 hc7_1 hf7_0 hf7_1; have BK4 := n1_; have BK7 := n2_; have HB := n3_; have R1 := n4_; clear n1_ n2_ n3_ n4_ ho hb; obtain ⟨A2, cc2, ee2⟩ := Kd.R_slice R2.out; subst ee2)
        | ((with_reducible refine gate_dst (N := 9) rfl ?_); refine bE (N := 9) (cs := #[.int .i64 0, .slice none 0 0]) (t := 55) ?_; intro g9 hg w5 hbox hb; have n0_ := aK (Kd.R_below (Kd.R_elderB R2.out g9 (Nat.le_of_eq hg.symm)) hb); have n1_ := aK (Kd.R_below (Kd.R_elderB R1.out g9 (Nat.le_of_eq hg.symm)) hb); have n2_ := aK (blk_below BK4.out hb); have n5_ := aK (blk_below BK7.out hb); have n3_ := aK (below_step (pH HB) hb); have G9 := aK ((by rw [hg]; exact below_size (pH HB)) : w.heap.size ≤ g9); have N49 := aK ((by rw [hg]; exact Nat.ne_of_lt (blk_lt BK4.out)) : g4 ≠ g9); have N79 := aK ((by rw [hg]; exact Nat.ne_of_lt (blk_lt BK7.out)) : g7 ≠ g9); clear R1 R2 BK4 BK7 HB; have R2 := n0_; have R1 := n1_; have BK4 := n2_; have BK7 := n5_; have HB := n3_; have BK9 := aK hbox; clear n0_ n1_ n2_ n3_ n5_ hg hbox hb; have hc4_0 : w5.cell? ⟨g4, 0, none⟩ = some (.int .i64 0) := (blk_cell BK4.out 0).trans rfl; have hc4_1 : w5.cell? ⟨g4, 1, none⟩ = some (.slice none 0 0) := (blk_cell BK4.out 1).trans rfl; have hf4_0 := blk_frozen BK4.out 0; have hf4_1 := blk_frozen BK4.out 1; have hc7_0 : w5.cell? ⟨g7, 0, none⟩ = some (.int .i64 q1) := (blk_cell BK7.out 0).trans rfl; have hc7_1 : w5.cell? ⟨g7, 1, none⟩ = some (.slice A1 q2.length cc1) := (blk_cell BK7.out 1).trans rfl; have hf7_0 := blk_frozen BK7.out 0; have hf7_1 := blk_frozen BK7.out 1; have hc9_0 : w5.cell? ⟨g9, 0, none⟩ = some (.int .i64 0) := (blk_cell BK9.out 0).trans rfl; have hc9_1 : w5.cell? ⟨g9, 1, none⟩ = some (.slice none 0 0) := (blk_cell BK9.out 1).trans rfl; have hf9_0 := blk_frozen BK9.out 0; have hf9_1 := blk_frozen BK9.out 1; have hn49 := N49.out; have hn94 := Ne.symm N49.out; have hn79 := N79.out; have hn97 := Ne.symm N79.out))
       cases y2 : yrd 3 d r1 with
       | none =>
        have hy : yrd 3 (d + 1) (40 :: s) = none := by rw [yrd, if_pos rfl, Y1.out, Option.bind_some]; show (some r1).bind _ = _; rw [Option.bind_some, y2]; rfl
        have HN := aK (readF_none hy)
        have h3 : q6 = 0 := by have := HQ2.out; rw [readF_none y2] at this; cases this; rfl
        have t0 : (q6 == 0) = true := by rw [h3]; rfl
        clear hy y2 h3
        go_wp2
        refine bodyPost_ret (results_ct rfl _ _ g4 55 #[.int .i64 (0), .slice none 0 0] (0, 0) _ rfl (by (with_reducible repeat first | apply zN | apply zD | apply zA); refine blk_put (cs := #[.int .i64 (0), .slice none 0 0]) ?_ 1 _ rfl; (with_reducible repeat first | apply zN | apply zD | apply zA); refine blk_put (cs := #[.int .i64 0, .slice none 0 0]) ?_ 0 _ rfl; (repeat first | with_reducible apply zN | with_reducible apply zD | with_reducible apply zA | refine blk_far ?_ N49.out _); exact BK4.out) Tryz.underlying55 rfl (by kernel_rfl)) rfl ?_
        exact ⟨_, by rw [HN.out] <;> rfl, by rw [HN.out]; exact Kd.R_nil _ _ _ _ _, (pH HB)⟩
       | some p2 =>
        obtain ⟨t2, r2⟩ := p2
        have Y2 := aK y2
        obtain ⟨c2, c2a, c2b, c2c⟩ := yrd_drop 3 d r1 t2 r2 y2
        have hr2 : r2.length = r1.length - c2 := by rw [c2c, List.length_drop]
        have f0 : (q4, q5, q6) = ((toS t2).f0, (toS t2).f1, ((r1.length - r2.length : Nat) : Int)) := HQ2.out.symm.trans (readF_some y2)
        have f3 : q6 = (c2 : Int) := by
         have := congrArg (fun z : Int × List S55 × Int => z.2.2) f0
         dsimp only at this
         omega
        have ET2 : Aside0 ((⟨q4, q5⟩ : S55) = toS t2) := ⟨by cases f0; exact toS_eta t2⟩
        have C2 : Aside0 (1 ≤ c2 ∧ c2 ≤ r1.length ∧ r2 = r1.drop c2 ∧ r2.length = r1.length - c2 ∧ q6 = (c2 : Int)) := ⟨⟨c2a, c2b, c2c, hr2, f3⟩⟩
        have t0 : (q6 == 0) = false := by
         have : q6 ≠ 0 := by omega
         simpa using this
        have W3 : Aside0 (wrap64 (wrap64 (q3 + 2) + q6) = q3 + 2 + q6) := ⟨by rw [W2.out]; exact w64 (by have := C1.out; omega) (by have := C1.out; have := HL.out; have := L1.out; omega)⟩
        clear y2 c2a c2b c2c hr2 f0 f3
        cases r2 with
        | nil =>
         have hy : yrd 3 (d + 1) (40 :: s) = none := by rw [yrd, if_pos rfl, Y1.out, Option.bind_some]; show (some r1).bind _ = _; rw [Option.bind_some, Y2.out]; rfl
         have HN := aK (readF_none hy)
         have t1_ : decide ((S.size : Int) ≤ wrap64 (wrap64 (q3 + 2) + q6)) = true := decide_eq_true (by rw [W3.out]; have := C1.out; have := HZ.out; have := L1.out; have := C2.out; have h5 := C2.out.2.2.2.1; simp only [List.length_nil] at h5; omega)
         clear hy
         go_wp2
         refine bodyPost_ret (results_ct rfl _ _ g4 55 #[.int .i64 (0), .slice none 0 0] (0, 0) _ rfl (by (with_reducible repeat first | apply zN | apply zD | apply zA); refine blk_put (cs := #[.int .i64 (0), .slice none 0 0]) ?_ 1 _ rfl; (with_reducible repeat first | apply zN | apply zD | apply zA); refine blk_put (cs := #[.int .i64 0, .slice none 0 0]) ?_ 0 _ rfl; (repeat first | with_reducible apply zN | with_reducible apply zD | with_reducible apply zA | refine blk_far ?_ N49.out _); exact BK4.out) Tryz.underlying55 rfl (by kernel_rfl)) rfl ?_
         exact ⟨_, by rw [HN.out] <;> rfl, by rw [HN.out]; exact Kd.R_nil _ _ _ _ _, (pH HB)⟩
        | cons z r3 =>
         have L2 : Aside0 (r3.length + 1 = r1.length - c2) := ⟨C2.out.2.2.2.1⟩
         have t1_ : decide ((S.size : Int) ≤ wrap64 (wrap64 (q3 + 2) + q6)) = false := decide_eq_false (by rw [W3.out]; have := C1.out; have := HZ.out; have := L1.out; have := C2.out; have := L2.out; omega)
         have p6 : (0 ≤ wrap64 (wrap64 (q3 + 2) + q6)) = True := eq_true (by rw [W3.out]; have := C1.out; have := C2.out; omega)
         have p7 : (wrap64 (wrap64 (q3 + 2) + q6) < (S.size : Int)) = True := eq_true (by rw [W3.out]; have := C1.out; have := HZ.out; have := L1.out; have := C2.out; have := L2.out; omega)
         have hbz : bt S (wrap64 (wrap64 (q3 + 2) + q6)) = (z.toNat : Int) := by
          rw [W3.out, C1.out.2.2.2.2, C2.out.2.2.2.2, HS.out]
          have := bt_B (40 :: s) (c1 + 1 + c2 + 1) (by rw [List.length_cons]; have := L1.out; have := L2.out; have := C2.out; omega)
          rw [show (((c1 + 1 + c2 + 1 : Nat) : Int)) = (c1 : Int) + 2 + (c2 : Int) by omega] at this
          rw [this]
          have h2 : s[c1 + 1 + c2]'(by have := L1.out; have := L2.out; have := C2.out; omega) = z := by
           have h3 := congrArg (fun y : List UInt8 => y[0]?) C2.out.2.2.1
           rw [R1E.out, List.drop_drop] at h3
           simp only [List.getElem?_cons_zero, List.getElem?_drop, Nat.add_zero] at h3
           rw [List.getElem?_eq_getElem (by have := L1.out; have := L2.out; have := C2.out; omega)] at h3
           exact (Option.some.inj h3).symm
          show ((s[c1 + 1 + c2]'_).toNat : Int) = _
          rw [h2]
         have hzi := bt_at S (wrap64 (wrap64 (q3 + 2) + q6))
         by_cases z41 : z = 41
         ·subst z41
          have t2_ : (bt S (wrap64 (wrap64 (q3 + 2) + q6)) != 41) = false := by rw [hbz]; rfl
          have hy : yrd 3 (d + 1) (40 :: s) = some (.a t1 t2, r3) := by
           rw [yrd, if_pos rfl, Y1.out, Option.bind_some]; show (some r1).bind _ = _; rw [Option.bind_some, Y2.out, Option.bind_some]; rfl
          have HN := aK (readF_some hy)
          have W4 : Aside0 (wrap64 (wrap64 (wrap64 (q3 + 2) + q6) + 1) = (((40 :: s).length - r3.length : Nat) : Int)) := ⟨by
           rw [W3.out, w64 (by have := C1.out; have := C2.out; omega) (by have := C1.out; have := C2.out; have := HL.out; have := L1.out; omega), List.length_cons]
           have := C1.out; have := C2.out; have := L1.out; have := L2.out
           omega⟩
          clear hy hbz
          go_wp2_with (first
           | ((with_reducible refine gate_dst (N := 113) rfl ?_); refine Kd.R_lit k55 w.heap.size 55 ?hg (N := 113) ?hd (xs := ([⟨q1, q2⟩, ⟨q4, q5⟩] : List S55)) (inner := [.int .i64 q1, .slice A1 q2.length cc1, .int .i64 q4, .slice A2 q5.length cc2]) (ok := fun k => k ≠ g4) (okp := fun k => k ≠ g4) ?hr ?hp (fun _ hk => hk) ?hf (pH HB) ?hz (by simp) ?_; (case hd => rfl); (case hg => rfl); (case hr => go_simp); (case hf => exact Nat.ne_of_gt (blk_lt (g := g4) (o := .cells #[.int .i64 0, .slice none 0 0] 55 (0, 0)) (bY BK4))); (case hz => exact below_size (pH HB)); (case hp => exact Reps.c2 (k55_mkM _ _ _ ⟨q1, q2⟩ (Kd.R_mono (Kd.R_far (p := ⟨g9, 1, none⟩) (Kd.R_far (p := ⟨g9, 0, none⟩) R1.out (fun k (hk : ((True ∧ k ≠ g4) ∧ k ≠ g7) ∧ k ≠ g9) => hk.2) _) (fun k (hk : ((True ∧ k ≠ g4) ∧ k ≠ g7) ∧ k ≠ g9) => hk.2) _) (fun k (hk : ((True ∧ k ≠ g4) ∧ k ≠ g7) ∧ k ≠ g9) => hk.1.1.2))) (Reps.c2 (k55_mkM _ _ _ ⟨q4, q5⟩ (Kd.R_mono (Kd.R_far (p := ⟨g9, 1, none⟩) (Kd.R_far (p := ⟨g9, 0, none⟩) R2.out (fun k (hk : ((True ∧ k ≠ g4) ∧ k ≠ g7) ∧ k ≠ g9) => hk.2) _) (fun k (hk : ((True ∧ k ≠ g4) ∧ k ≠ g7) ∧ k ≠ g9) => hk.2) _) (fun k (hk : ((True ∧ k ≠ g4) ∧ k ≠ g7) ∧ k ≠ g9) => hk.1.1.2))) (Reps.none _ _))); intro v3 w6 ho hb hg_ hnew_; have BK4n := (bG BK4 hg_ (by simp)); have R3 := aK ho; have HB6 := aK hb; clear hnew_ hg_ hb ho; have hd4_0 : w6.cell? ⟨g4, 0, none⟩ = some (.int .i64 0) := (blk_cell BK4n.out 0).trans rfl; have hd4_1 : w6.cell? ⟨g4, 1, none⟩ = some (.slice none 0 0) := (blk_cell BK4n.out 1).trans rfl; have he4_0 := blk_frozen BK4n.out 0; have he4_1 := blk_frozen BK4n.out 1; obtain ⟨A3, cc3, ee3⟩ := Kd.R_slice R3.out; subst ee3))
          refine bodyPost_ret (results_ct rfl _ _ g4 55 #[.int .i64 (0), .slice A3 ([⟨q1, q2⟩, ⟨q4, q5⟩] : List S55).length cc3] (0, 0) _ rfl (bP BK4n) Tryz.underlying55 rfl (by kernel_rfl)) rfl ?_
          refine ⟨.slice A3 2 cc3, ?_, ?_, (pH HB6)⟩
          ·show Ending.returned (.tuple #[.agg #[.int .i64 0, .slice A3 2 cc3], .int .i64 (wrap64 (wrap64 (wrap64 (q3 + 2) + q6) + 1))]) = _
           rw [W4.out, HN.out]
           rfl
          ·rw [HN.out]
           show Kd.R k55 55 _ _ _ _ [toS t1, toS t2]
           rw [← ET1.out, ← ET2.out]
           exact Kd.R_mono (Kd.R_far (p := ⟨g4, 1, none⟩) (Kd.R_far (p := ⟨g4, 0, none⟩) R3.out (fun _ hk => hk) _) (fun _ hk => hk) _) (fun _ _ => trivial)
         ·have t2_ : (bt S (wrap64 (wrap64 (q3 + 2) + q6)) != 41) = true := by
           have h5 : (z.toNat : Int) ≠ 41 := fun h => z41 (by have h2 : z.toNat = 41 := by { omega }; rw [show z = UInt8.ofNat z.toNat by simp, h2]; rfl)
           rw [hbz]; simpa using h5
          have hy : yrd 3 (d + 1) (40 :: s) = none := by
           rw [yrd, if_pos rfl, Y1.out, Option.bind_some]; show (some r1).bind _ = _; rw [Option.bind_some, Y2.out, Option.bind_some]
           show ((if z = 41 then some r3 else none : Option (List UInt8))).bind _ = none
           rw [if_neg z41]; rfl
          have HN := aK (readF_none hy)
          clear hy hbz z41
          go_wp2
          refine bodyPost_ret (results_ct rfl _ _ g4 55 #[.int .i64 (0), .slice none 0 0] (0, 0) _ rfl (by (with_reducible repeat first | apply zN | apply zD | apply zA); refine blk_put (cs := #[.int .i64 (0), .slice none 0 0]) ?_ 1 _ rfl; (with_reducible repeat first | apply zN | apply zD | apply zA); refine blk_put (cs := #[.int .i64 0, .slice none 0 0]) ?_ 0 _ rfl; (repeat first | with_reducible apply zN | with_reducible apply zD | with_reducible apply zA | refine blk_far ?_ N49.out _); exact BK4.out) Tryz.underlying55 rfl (by kernel_rfl)) rfl ?_
          exact ⟨_, by rw [HN.out] <;> rfl, by rw [HN.out]; exact Kd.R_nil _ _ _ _ _, (pH HB)⟩
      ·have s2 : (bt S (wrap64 (q3 + 1)) != 62) = true := by
        have h5 : (x.toNat : Int) ≠ 62 := fun h => x62 (by have h2 : x.toNat = 62 := by { omega }; rw [show x = UInt8.ofNat x.toNat by simp, h2]; rfl)
        rw [hbx]; simpa using h5
       have hy : yrd 3 (d + 1) (40 :: s) = none := by
        rw [yrd, if_pos rfl, Y1.out, Option.bind_some]
        show ((if x = 62 then some r1 else none : Option (List UInt8))).bind _ = none
        rw [if_neg x62]; rfl
       have HN := aK (readF_none hy)
       clear hy hbx x62
       go_wp2
       refine bodyPost_ret (results_ct rfl _ _ g4 55 #[.int .i64 (0), .slice none 0 0] (0, 0) _ rfl (by (with_reducible repeat first | apply zN | apply zD | apply zA); refine blk_put (cs := #[.int .i64 (0), .slice none 0 0]) ?_ 1 _ rfl; (with_reducible repeat first | apply zN | apply zD | apply zA); refine blk_put (cs := #[.int .i64 0, .slice none 0 0]) ?_ 0 _ rfl; (repeat first | with_reducible apply zN | with_reducible apply zD | with_reducible apply zA | refine blk_far ?_ N47.out _); exact BK4.out) Tryz.underlying55 rfl (by kernel_rfl)) rfl ?_
       exact ⟨_, by rw [HN.out] <;> rfl, by rw [HN.out]; exact Kd.R_nil _ _ _ _ _, (pH HB)⟩
   ·have hne2 : ∀ h : 0 < S.size, (((S[0]'h).toNat : Int) == 40) = false := fun h => by
     rw [hx h]
     have : (c.toNat : Int) ≠ 40 := fun h => c40 (by have h2 : c.toNat = 40 := by { omega }; rw [show c = UInt8.ofNat c.toNat by simp, h2]; rfl)
     simpa using this
    have hne3 : ∀ h : 0 < S.size, (((S[0]'h).toNat : Int) != 40) = true := fun h => by
     have := hne2 h
     simp only [bne, this]; rfl
    have hy : yrd 3 (d + 1) (c :: s) = none := by rw [yrd, if_neg c40, if_neg (fun h => c116 h.1)]
    have HN := aK (readF_none hy)
    clear hy c40 c116 hx hS hsz hb0
    go_enter Tryz.func43, Tryz.ntmps43
    go_wp2_with (first | ((with_reducible refine gate_dst (N := 4) rfl ?_); refine bE (N := 4) (cs := #[.int .i64 0, .slice none 0 0]) (t := 55) ?_; intro g4 hg w1 hbox hb; have HB := aK hb; have G4 := aK (Nat.le_of_eq hg.symm : w.heap.size ≤ g4); have BK4 := aK hbox; clear hbox hg hb; have hc4_0 : w1.cell? ⟨g4, 0, none⟩ = some (.int .i64 0) := (blk_cell BK4.out 0).trans rfl; have hc4_1 : w1.cell? ⟨g4, 1, none⟩ = some (.slice none 0 0) := (blk_cell BK4.out 1).trans rfl; have hf4_0 := blk_frozen BK4.out 0; have hf4_1 := blk_frozen BK4.out 1))
    refine bodyPost_ret (results_ct rfl _ _ g4 55 #[.int .i64 (0), .slice none 0 0] (0, 0) _ rfl (bP BK4) Tryz.underlying55 rfl (by kernel_rfl)) rfl ?_
    exact ⟨_, by rw [HN.out] <;> rfl, by rw [HN.out]; exact Kd.R_nil _ _ _ _ _, (pH HB)⟩
def spec_leRead.f (_ : Nat) (a0 : ByteArray) (a1 : Int) : Option (Int × (List (S55)) × Int) := if (1 ≤ a1 ∧ a1 ≤ 62) ∧ a0.size ≤ 1099511627776 then some (readF (62 - a1).toNat a0.data.toList) else none
theorem spec_leRead.calls (k : Nat) (a0 : ByteArray) (a1 : Int) (r1 : Int) (r2 : List (S55)) (r3 : Int) (w : World) (h : spec_leRead.f k a0 a1 = some (r1, r2, r3)) :
  Calls Tryz.prog 43 #[.string a0, .int .i64 a1] w fun e w' => ∃ v1_ : Value, e = .returned (.tuple #[.agg #[.int .i64 r1, v1_], .int .i64 r3]) ∧ Kd.R k55 55 w' w.heap.size (fun _ => True) v1_ r2 ∧ Below w.heap.size w w' := by
 unfold spec_leRead.f at h
 by_cases hs : (1 ≤ a1 ∧ a1 ≤ 62) ∧ a0.size ≤ 1099511627776
 ·rw [if_pos hs] at h
  injection h with h
  have hw := leRead_w (62 - a1).toNat a0.data.toList w (by omega) (by rw [len]; exact hs.2)
  rw [h, show (62 : Int) - (((62 - a1).toNat : Nat) : Int) = a1 by omega] at hw
  exact hw
 ·rw [if_neg hs] at h; cases h
end Go.Proofs.YteffjlhljeodpaaGreatDoor.G

namespace Go.Proofs.YteffjlhljeodpaaGreatDoor.G
open Go.RowKit Go.Proofs.YteffjlhljeodpaaGreatDoorW.PrintWords Go.Proofs.YteffjlhljeodpaaGreatDoorW.PrintLast Go.Proofs.YteffjlhljeodpaaGreatDoorW.PrintMore Go.Proofs.YteffjlhljeodpaaGreatDoor.Short
attribute [local go_sem] max2_int min2_int max_two min_two max_three min_three max_four min_four   -- for this text's walks alone
set_option linter.unusedVariables false
set_option linter.unusedSimpArgs false

def spec_leOf.f (k : Nat) (a0 : ByteArray) : Option (Int × (List (S55)) × Bool) := (spec_leRead.f k a0 1).bind fun bt102 => (if bt102.2.2 > 0 then (if bt102.2.2 = (a0.size : Int) then ((spec_leText.f k bt102.1 bt102.2.1).bind fun t108 => (if t108.toList = a0.toList then ((spec_leFine.f k bt102.1 bt102.2.1).bind fun t109 => (some (bt102.1, bt102.2.1, t109))) else (some (bt102.1, bt102.2.1, false)))) else (some (bt102.1, bt102.2.1, false))) else (some (bt102.1, bt102.2.1, false)))
def spec_leOf.T2 : Bool × List (List Nat × List Nat) := (true, [([], []), ([], []), ([1], [1]), ([2], [2]), ([3], [3]), ([3], [3]), ([5, 3], [3, 5]), ([4, 6, 3], [3, 4, 6]), ([3, 7], [3, 7]), ([8, 3], [8]), ([9], [9]), ([10, 9, 9], [9, 10]), ([9], [9]), ([11, 12, 9], [9, 11, 12]), ([9, 13], [9, 13]), ([14, 11], [14]), ([15], [15]), ([16, 15, 15], [15, 16]), ([15, 17], [15, 17]), ([0, 17, 0], [0]), ([18, 19, 0, 1, 2, 3, 4, 5, 6, 7, 8, 9, 10, 11, 12, 13, 14, 15, 16, 17, 18, 19], [18])])
def spec_leOf.B2 : List Nat := [0, 0, 2, 6, 14, 14, 46, 126, 254, 510, 1022, 2046, 1022, 8190, 16382, 32766, 65534, 131070, 262142, 262143, 1048575]
theorem spec_leOf.tab2 : rtab .any (opsOf Tryz.f20 2) = spec_leOf.T2 := by kernel_rfl
theorem spec_leOf.bits2 : waitsOk spec_leOf.T2.2 spec_leOf.B2 = true := by kernel_rfl
set_option maxHeartbeats 8000000 in
set_option maxRecDepth 100000 in
theorem spec_leOf.calls (k : Nat) (a0 : ByteArray) (r1 : Int) (r2 : List (S55)) (r3 : Bool) (w : World) (h : spec_leOf.f k a0 = some (r1, r2, r3)) :
  Calls Tryz.prog 20 #[.string a0] w fun e w' => ∃ v1_ : Value, e = .returned (.tuple #[.agg #[.int .i64 r1, v1_], .bool r3]) ∧ Kd.R k55 55 w' w.heap.size (fun _ => True) v1_ r2 ∧ Below w.heap.size w w' := by
 have hu55 := Tryz.underlying55
 have HB := aK (Below.refl w.heap.size w)
 have H : ((spec_leRead.f k a0 1).bind fun bt102 => (if bt102.2.2 > 0 then (if bt102.2.2 = (a0.size : Int) then ((spec_leText.f k bt102.1 bt102.2.1).bind fun t108 => (if t108.toList = a0.toList then ((spec_leFine.f k bt102.1 bt102.2.1).bind fun t109 => (some (bt102.1, bt102.2.1, t109))) else (some (bt102.1, bt102.2.1, false)))) else (some (bt102.1, bt102.2.1, false))) else (some (bt102.1, bt102.2.1, false)))) = some (r1, r2, r3) := h
 clear h
 obtain ⟨⟨t102, t103, t106⟩, A2, H⟩ := oB H
 try dsimp only at H
 by_cases c3 : t106 > 0
 ·rw [if_pos c3] at H
  have c3b0 : decide (0 < t106) = true := decide_eq_true c3
  clear c3
  by_cases c4 : t106 = (a0.size : Int)
  ·rw [if_pos c4] at H
   have c4b0 : (t106 == (a0.size : Int)) = true := beq_iff_eq.mpr c4
   have c4b1 : (t106 != (a0.size : Int)) = false := bne_eq_false_iff_eq.mpr c4
   clear c4
   obtain ⟨t108, A5, H⟩ := oB H
   try dsimp only at H
   by_cases c6 : t108.toList = a0.toList
   ·rw [if_pos c6] at H
    have c6b0 : (t108.toList == a0.toList) = true := beq_iff_eq.mpr c6
    have c6b1 : (t108.toList != a0.toList) = false := bne_eq_false_iff_eq.mpr c6
    clear c6
    obtain ⟨t109, A7, H⟩ := oB H
    try dsimp only at H
    simp only [Option.some.injEq, Prod.mk.injEq] at H
    obtain ⟨rfl, rfl, rfl⟩ := H
    go_enter Tryz.func20, Tryz.ntmps20
    try go_wp2_with (first | ((with_reducible refine gate_dst (N := 2) rfl ?_); (try (refine gate_guard (by rfl) ?_; dsimp only)); refine bE (N := 2) (cs := #[.int .i64 0, .slice none 0 0]) (t := 55) ?_; intro gb101 hg w8 hbox hb; have GW101 := qw HB hg; have GE101 := qw HB hg; have BK101 := aK hbox; replace HB := qs HB hb; clear hb hbox hg) | ((with_reducible refine gate_callee (f := 43) rfl ?_); refine goesL_ (some 8) rfl rfl Tryz.func43 (by kernel_rfl) rfl #[.string a0, .int .i64 1] rfl tA ?_; (with_reducible refine (spec_leRead.calls k a0 1 t102 t103 t106 _ A2.out).mono ?_); rintro e w9 ⟨v104, rfl, ho0, hb⟩; refine ⟨_, rfl, ?_⟩; have HO105 := aK (Kd.R_lower (Kd.R_newB ho0 BK101.out) (below_size HB.out)); replace BK101 := qb BK101 hb; replace HB := qs HB hb; (try clear hb); (try clear ho0)) | ((with_reducible refine gate_dst (N := 4) rfl ?_); (try (refine gate_guard (by rfl) ?_; dsimp only)); refine bE (N := 4) (cs := #[.int .i64 0, .slice none 0 0]) (t := 55) ?_; intro gb107 hg w10 hbox hb; have n0_ := aK (Kd.R_below (Kd.R_elderB HO105.out gb107 (Nat.le_of_eq hg.symm)) hb); have GW107 := qw HB hg; have GE107 := qw HB hg; have NB101_107 := ql BK101 hg; have NB107_101 := qg BK101 hg; replace BK101 := qb BK101 hb; have BK107 := aK hbox; clear HO105; have HO105 := n0_; clear n0_; replace HB := qs HB hb; clear hb hbox hg; have hnb11 := NB107_101.out; have hnc11 := NB101_107.out; obtain ⟨hcz12_0, hcz12_1, hfz12_0, hfz12_1⟩ := cA2 BK107; obtain ⟨Ao13, co13, eo13⟩ := Kd.R_slice HO105.out; subst eo13))
    have n0_ : Aside0 (Kd.R k55 55 ((w10.setCell ⟨gb107, 0, none⟩ (.int .i64 t102)).setCell ⟨gb107, 1, none⟩ (.slice Ao13 t103.length co13)) w.heap.size (fun k_ => k_ ≠ gb101 ∧ k_ ≠ gb107) (.slice Ao13 t103.length co13) t103) := ⟨rZ HO105⟩
    have n1_ : Aside0 (((w10.setCell ⟨gb107, 0, none⟩ (.int .i64 t102)).setCell ⟨gb107, 1, none⟩ (.slice Ao13 t103.length co13)).heap[gb101]? = some (.cells #[.int .i64 0, .slice none 0 0] 55 (0, 0))) := ⟨bY BK101⟩
    have n2_ : Aside0 (((w10.setCell ⟨gb107, 0, none⟩ (.int .i64 t102)).setCell ⟨gb107, 1, none⟩ (.slice Ao13 t103.length co13)).heap[gb107]? = some (.cells #[.int .i64 t102, .slice Ao13 t103.length co13] 55 (0, 0))) := ⟨bP BK107⟩
    have n3_ : Aside0 (Below w.heap.size w ((w10.setCell ⟨gb107, 0, none⟩ (.int .i64 t102)).setCell ⟨gb107, 1, none⟩ (.slice Ao13 t103.length co13))) := ⟨pH HB⟩
    (try clear HO105)
    (try clear BK101)
    (try clear BK107)
    (try clear HB)
    generalize ((w10.setCell ⟨gb107, 0, none⟩ (.int .i64 t102)).setCell ⟨gb107, 1, none⟩ (.slice Ao13 t103.length co13)) = w14 at n0_ n1_ n2_ n3_ ⊢
    have HO105 := n0_
    have BK101 := n1_
    have BK107 := n2_
    have HB := n3_
    clear n0_ n1_ n2_ n3_
    have n_ := aJ (rE HO105) (aJ (aK (blk_drew BK101.out)) (aJ (aK (blk_drew BK107.out)) (aK (below_drew1 HB.out))))
    clear HO105 BK101 BK107 HB
    obtain ⟨HO105, BK101, BK107, HB⟩ := n_
    refine start_ (n := 21) (S := fun w' => w'.cell? ⟨gb107, 0, none⟩ = some (.int .i64 t102) ∧ w'.cell? ⟨gb107, 1, none⟩ = some (.slice Ao13 t103.length co13)) (ds := []) (bs 0 21) (by kernel_rfl) rfl rfl ⟨(blk_cell BK107.out 0).trans rfl, (blk_cell BK107.out 1).trans rfl⟩ (fun hHeld => ?_); refine with_tabW spec_leOf.tab2 spec_leOf.bits2 (fun HT_ HW_ => ?_)
    generalize w14.drew = w15 at HO105 BK101 BK107 HB hHeld ⊢
    refine pQ 1 12 HT_ ?_
    refine pQ 2 13 HT_ ?_
    refine pQ 3 14 HT_ ?_
    refine pQ 4 15 HT_ ?_
    refine pQ 5 16 HT_ ?_
    refine pQ 6 17 HT_ ?_
    refine pQ 7 18 HT_ ?_
    refine pQ 8 19 HT_ ?_
    refine pQ 9 20 HT_ ?_
    refine pQ 12 23 HT_ ?_
    refine tQ 0 11 HT_ HW_ hHeld ?_
    refine tQ 10 21 HT_ HW_ hHeld ?_
    refine oQ 11 22 HT_ (fun K hK => ?_)
    refine goes_ Tryz.func28 (by kernel_rfl) rfl #[.agg #[.int .i64 t102, .slice Ao13 t103.length co13]] (by rfl) rfl rfl tA ?_
    with_reducible refine (spec_leText.calls k t102 _ _ t103 t108 _ ?side1 ?side2 A5.out).mono ?_
    (case side1 => exact sC ((Kd.R_reads' HO105.out).2.2))
    (case side2 => exact (Kd.R_reads' HO105.out).2.1)
    rintro e w16 ⟨rfl, hb⟩
    refine ⟨_, rfl, ?_⟩
    have n_ := aJ (rB HO105 hb) (aJ (qb BK101 hb) (aJ (qb BK107 hb) (aK (below_step (pH HB) hb))))
    clear HO105 BK101 BK107 HB
    obtain ⟨HO105, BK101, BK107, HB⟩ := n_
    (try clear hb)
    (try clear hb2)
    (try clear hk)
    (try clear hi)
    refine hK.out _ _ ⟨(blk_cell BK107.out 0).trans rfl, (blk_cell BK107.out 1).trans rfl⟩ (fun hHeld => ?_)
    clear hK K
    refine nQ 22 ?_
    refine pQ 13 24 HT_ ?_
    refine pQ 14 25 HT_ ?_
    refine pQ 15 26 HT_ ?_
    refine tQ 16 27 HT_ HW_ hHeld ?_
    refine oQ 17 28 HT_ (fun K hK => ?_)
    refine goes_ Tryz.func27 (by kernel_rfl) rfl #[.agg #[.int .i64 t102, .slice Ao13 t103.length co13]] (by rfl) rfl rfl tA ?_
    with_reducible refine (spec_leFine.calls k t102 _ _ t103 t109 _ ?side1 ?side2 A7.out).mono ?_
    (case side1 => exact sC ((Kd.R_reads' HO105.out).2.2))
    (case side2 => exact (Kd.R_reads' HO105.out).2.1)
    rintro e w17 ⟨rfl, hb⟩
    refine ⟨_, rfl, ?_⟩
    have n_ := aJ (rB HO105 hb) (aJ (qb BK101 hb) (aJ (qb BK107 hb) (aK (below_step (pH HB) hb))))
    clear HO105 BK101 BK107 HB
    obtain ⟨HO105, BK101, BK107, HB⟩ := n_
    (try clear hb)
    (try clear hb2)
    (try clear hk)
    (try clear hi)
    refine hK.out _ _ ⟨(blk_cell BK107.out 0).trans rfl, (blk_cell BK107.out 1).trans rfl⟩ (fun hHeld => ?_)
    clear hK K
    refine nQ 28 ?_
    refine pQ 18 29 HT_ ?_
    refine one_ (i := 19) (N := none) (bs 20 1) rfl rfl (one_of HT_.out (by kernel_rfl)) (by decide) (fun K hK => ?_)
    have hs18 : w17.cell? ⟨gb101, 0, none⟩ = some (.int .i64 0) := (blk_cell BK101.out 0).trans rfl
    have hfs18 := blk_frozen BK101.out 0
    have hns18_1 := NB107_101.out
    have hms18_1 := NB101_107.out
    have hs19 : w17.cell? ⟨gb101, 1, none⟩ = some (.slice none 0 0) := (blk_cell BK101.out 1).trans rfl
    have hfs19 := blk_frozen BK101.out 1
    have hns19_1 := NB107_101.out
    have hms19_1 := NB101_107.out
    refine skip_ (w1 := ?_) (by rfl) rfl ?_ ?_
    rotate_left
    ·go_simp
     rfl
    refine hK.out _ _ ⟨((cell_far (p := ⟨gb101, _, none⟩) NB107_101.out _).trans (((cell_far (p := ⟨gb101, _, none⟩) NB107_101.out _).trans (hHeld.1)))), ((cell_far (p := ⟨gb101, _, none⟩) NB107_101.out _).trans (((cell_far (p := ⟨gb101, _, none⟩) NB107_101.out _).trans (hHeld.2))))⟩ (fun hHeld => ?_)
    clear hK K
    refine pQ 20 3 HT_ ?_
    refine done_ (done_of HT_.out (by kernel_rfl)) ?_
    try go_wp2
    refine bodyPost_ret (results_ct rfl _ _ gb101 55 #[.int .i64 t102, .slice Ao13 t103.length co13] (0, 0) _ rfl (bP BK101) Tryz.underlying55 rfl (by kernel_rfl)) rfl ?_
    exact ⟨_, eW, by (with_reducible repeat (first | apply rA | apply rN | apply rD)); exact Kd.R_mono (Kd.R_far (p := ⟨gb101, 1, none⟩) (Kd.R_far (p := ⟨gb101, 0, none⟩) (Kd.R_mono HO105.out (fun k_ hk => (⟨hk, hk.1⟩ : _ ∧ k_ ≠ gb101))) (fun _ hk => hk.2) (.int .i64 t102)) (fun _ hk => hk.2) (.slice Ao13 t103.length co13)) (fun _ hk => trivial), pH HB⟩
   ·rw [if_neg c6] at H
    have c6b0 : (t108.toList == a0.toList) = false := beq_eq_false_iff_ne.mpr c6
    have c6b1 : (t108.toList != a0.toList) = true := bne_iff_ne.mpr c6
    simp only [Option.some.injEq, Prod.mk.injEq] at H
    obtain ⟨rfl, rfl, rfl⟩ := H
    go_enter Tryz.func20, Tryz.ntmps20
    try go_wp2_with (first | ((with_reducible refine gate_dst (N := 2) rfl ?_); (try (refine gate_guard (by rfl) ?_; dsimp only)); refine bE (N := 2) (cs := #[.int .i64 0, .slice none 0 0]) (t := 55) ?_; intro gb101 hg w20 hbox hb; have GW101 := qw HB hg; have GE101 := qw HB hg; have BK101 := aK hbox; replace HB := qs HB hb; clear hb hbox hg) | ((with_reducible refine gate_callee (f := 43) rfl ?_); refine goesL_ (some 8) rfl rfl Tryz.func43 (by kernel_rfl) rfl #[.string a0, .int .i64 1] rfl tA ?_; (with_reducible refine (spec_leRead.calls k a0 1 t102 t103 t106 _ A2.out).mono ?_); rintro e w21 ⟨v104, rfl, ho0, hb⟩; refine ⟨_, rfl, ?_⟩; have HO105 := aK (Kd.R_lower (Kd.R_newB ho0 BK101.out) (below_size HB.out)); replace BK101 := qb BK101 hb; replace HB := qs HB hb; (try clear hb); (try clear ho0)) | ((with_reducible refine gate_dst (N := 4) rfl ?_); (try (refine gate_guard (by rfl) ?_; dsimp only)); refine bE (N := 4) (cs := #[.int .i64 0, .slice none 0 0]) (t := 55) ?_; intro gb107 hg w22 hbox hb; have n0_ := aK (Kd.R_below (Kd.R_elderB HO105.out gb107 (Nat.le_of_eq hg.symm)) hb); have GW107 := qw HB hg; have GE107 := qw HB hg; have NB101_107 := ql BK101 hg; have NB107_101 := qg BK101 hg; replace BK101 := qb BK101 hb; have BK107 := aK hbox; clear HO105; have HO105 := n0_; clear n0_; replace HB := qs HB hb; clear hb hbox hg; have hnb23 := NB107_101.out; have hnc23 := NB101_107.out; obtain ⟨hcz24_0, hcz24_1, hfz24_0, hfz24_1⟩ := cA2 BK107; obtain ⟨Ao25, co25, eo25⟩ := Kd.R_slice HO105.out; subst eo25))
    have n0_ : Aside0 (Kd.R k55 55 ((w22.setCell ⟨gb107, 0, none⟩ (.int .i64 t102)).setCell ⟨gb107, 1, none⟩ (.slice Ao25 t103.length co25)) w.heap.size (fun k_ => k_ ≠ gb101 ∧ k_ ≠ gb107) (.slice Ao25 t103.length co25) t103) := ⟨rZ HO105⟩
    have n1_ : Aside0 (((w22.setCell ⟨gb107, 0, none⟩ (.int .i64 t102)).setCell ⟨gb107, 1, none⟩ (.slice Ao25 t103.length co25)).heap[gb101]? = some (.cells #[.int .i64 0, .slice none 0 0] 55 (0, 0))) := ⟨bY BK101⟩
    have n2_ : Aside0 (((w22.setCell ⟨gb107, 0, none⟩ (.int .i64 t102)).setCell ⟨gb107, 1, none⟩ (.slice Ao25 t103.length co25)).heap[gb107]? = some (.cells #[.int .i64 t102, .slice Ao25 t103.length co25] 55 (0, 0))) := ⟨bP BK107⟩
    have n3_ : Aside0 (Below w.heap.size w ((w22.setCell ⟨gb107, 0, none⟩ (.int .i64 t102)).setCell ⟨gb107, 1, none⟩ (.slice Ao25 t103.length co25))) := ⟨pH HB⟩
    (try clear HO105)
    (try clear BK101)
    (try clear BK107)
    (try clear HB)
    generalize ((w22.setCell ⟨gb107, 0, none⟩ (.int .i64 t102)).setCell ⟨gb107, 1, none⟩ (.slice Ao25 t103.length co25)) = w26 at n0_ n1_ n2_ n3_ ⊢
    have HO105 := n0_
    have BK101 := n1_
    have BK107 := n2_
    have HB := n3_
    clear n0_ n1_ n2_ n3_
    have n_ := aJ (rE HO105) (aJ (aK (blk_drew BK101.out)) (aJ (aK (blk_drew BK107.out)) (aK (below_drew1 HB.out))))
    clear HO105 BK101 BK107 HB
    obtain ⟨HO105, BK101, BK107, HB⟩ := n_
    refine start_ (n := 21) (S := fun w' => w'.cell? ⟨gb107, 0, none⟩ = some (.int .i64 t102) ∧ w'.cell? ⟨gb107, 1, none⟩ = some (.slice Ao25 t103.length co25)) (ds := []) (bs 0 21) (by kernel_rfl) rfl rfl ⟨(blk_cell BK107.out 0).trans rfl, (blk_cell BK107.out 1).trans rfl⟩ (fun hHeld => ?_); refine with_tabW spec_leOf.tab2 spec_leOf.bits2 (fun HT_ HW_ => ?_)
    generalize w26.drew = w27 at HO105 BK101 BK107 HB hHeld ⊢
    refine pQ 1 12 HT_ ?_
    refine pQ 2 13 HT_ ?_
    refine pQ 3 14 HT_ ?_
    refine pQ 4 15 HT_ ?_
    refine pQ 5 16 HT_ ?_
    refine pQ 6 17 HT_ ?_
    refine pQ 7 18 HT_ ?_
    refine pQ 8 19 HT_ ?_
    refine pQ 9 20 HT_ ?_
    refine pQ 12 23 HT_ ?_
    refine tQ 0 11 HT_ HW_ hHeld ?_
    refine tQ 10 21 HT_ HW_ hHeld ?_
    refine oQ 11 22 HT_ (fun K hK => ?_)
    refine goes_ Tryz.func28 (by kernel_rfl) rfl #[.agg #[.int .i64 t102, .slice Ao25 t103.length co25]] (by rfl) rfl rfl tA ?_
    with_reducible refine (spec_leText.calls k t102 _ _ t103 t108 _ ?side1 ?side2 A5.out).mono ?_
    (case side1 => exact sC ((Kd.R_reads' HO105.out).2.2))
    (case side2 => exact (Kd.R_reads' HO105.out).2.1)
    rintro e w28 ⟨rfl, hb⟩
    refine ⟨_, rfl, ?_⟩
    have n_ := aJ (rB HO105 hb) (aJ (qb BK101 hb) (aJ (qb BK107 hb) (aK (below_step (pH HB) hb))))
    clear HO105 BK101 BK107 HB
    obtain ⟨HO105, BK101, BK107, HB⟩ := n_
    (try clear hb)
    (try clear hb2)
    (try clear hk)
    (try clear hi)
    refine hK.out _ _ ⟨(blk_cell BK107.out 0).trans rfl, (blk_cell BK107.out 1).trans rfl⟩ (fun hHeld => ?_)
    clear hK K
    refine nQ 22 ?_
    refine pQ 13 24 HT_ ?_
    refine pQ 14 25 HT_ ?_
    refine pQ 15 26 HT_ ?_
    refine uQ 16 27 HT_ ?_
    refine uQ 17 28 HT_ ?_
    refine pQ 18 29 HT_ ?_
    refine one_ (i := 19) (N := none) (bs 20 1) rfl rfl (one_of HT_.out (by kernel_rfl)) (by decide) (fun K hK => ?_)
    have hs29 : w28.cell? ⟨gb101, 0, none⟩ = some (.int .i64 0) := (blk_cell BK101.out 0).trans rfl
    have hfs29 := blk_frozen BK101.out 0
    have hns29_1 := NB107_101.out
    have hms29_1 := NB101_107.out
    have hs30 : w28.cell? ⟨gb101, 1, none⟩ = some (.slice none 0 0) := (blk_cell BK101.out 1).trans rfl
    have hfs30 := blk_frozen BK101.out 1
    have hns30_1 := NB107_101.out
    have hms30_1 := NB101_107.out
    refine skip_ (w1 := ?_) (by rfl) rfl ?_ ?_
    rotate_left
    ·go_simp
     rfl
    refine hK.out _ _ ⟨((cell_far (p := ⟨gb101, _, none⟩) NB107_101.out _).trans (((cell_far (p := ⟨gb101, _, none⟩) NB107_101.out _).trans (hHeld.1)))), ((cell_far (p := ⟨gb101, _, none⟩) NB107_101.out _).trans (((cell_far (p := ⟨gb101, _, none⟩) NB107_101.out _).trans (hHeld.2))))⟩ (fun hHeld => ?_)
    clear hK K
    refine pQ 20 3 HT_ ?_
    refine done_ (done_of HT_.out (by kernel_rfl)) ?_
    try go_wp2
    refine bodyPost_ret (results_ct rfl _ _ gb101 55 #[.int .i64 t102, .slice Ao25 t103.length co25] (0, 0) _ rfl (bP BK101) Tryz.underlying55 rfl (by kernel_rfl)) rfl ?_
    exact ⟨_, eW, by (with_reducible repeat (first | apply rA | apply rN | apply rD)); exact Kd.R_mono (Kd.R_far (p := ⟨gb101, 1, none⟩) (Kd.R_far (p := ⟨gb101, 0, none⟩) (Kd.R_mono HO105.out (fun k_ hk => (⟨hk, hk.1⟩ : _ ∧ k_ ≠ gb101))) (fun _ hk => hk.2) (.int .i64 t102)) (fun _ hk => hk.2) (.slice Ao25 t103.length co25)) (fun _ hk => trivial), pH HB⟩
  ·rw [if_neg c4] at H
   have c4b0 : (t106 == (a0.size : Int)) = false := beq_eq_false_iff_ne.mpr c4
   have c4b1 : (t106 != (a0.size : Int)) = true := bne_iff_ne.mpr c4
   simp only [Option.some.injEq, Prod.mk.injEq] at H
   obtain ⟨rfl, rfl, rfl⟩ := H
   go_enter Tryz.func20, Tryz.ntmps20
   try go_wp2_with (first | ((with_reducible refine gate_dst (N := 2) rfl ?_); (try (refine gate_guard (by rfl) ?_; dsimp only)); refine bE (N := 2) (cs := #[.int .i64 0, .slice none 0 0]) (t := 55) ?_; intro gb101 hg w31 hbox hb; have GW101 := qw HB hg; have GE101 := qw HB hg; have BK101 := aK hbox; replace HB := qs HB hb; clear hb hbox hg) | ((with_reducible refine gate_callee (f := 43) rfl ?_); refine goesL_ (some 8) rfl rfl Tryz.func43 (by kernel_rfl) rfl #[.string a0, .int .i64 1] rfl tA ?_; (with_reducible refine (spec_leRead.calls k a0 1 t102 t103 t106 _ A2.out).mono ?_); rintro e w32 ⟨v104, rfl, ho0, hb⟩; refine ⟨_, rfl, ?_⟩; have HO105 := aK (Kd.R_lower (Kd.R_newB ho0 BK101.out) (below_size HB.out)); replace BK101 := qb BK101 hb; replace HB := qs HB hb; (try clear hb); (try clear ho0)) | ((with_reducible refine gate_dst (N := 4) rfl ?_); (try (refine gate_guard (by rfl) ?_; dsimp only)); refine bE (N := 4) (cs := #[.int .i64 0, .slice none 0 0]) (t := 55) ?_; intro gb107 hg w33 hbox hb; have n0_ := aK (Kd.R_below (Kd.R_elderB HO105.out gb107 (Nat.le_of_eq hg.symm)) hb); have GW107 := qw HB hg; have GE107 := qw HB hg; have NB101_107 := ql BK101 hg; have NB107_101 := qg BK101 hg; replace BK101 := qb BK101 hb; have BK107 := aK hbox; clear HO105; have HO105 := n0_; clear n0_; replace HB := qs HB hb; clear hb hbox hg; have hnb34 := NB107_101.out; have hnc34 := NB101_107.out; obtain ⟨hcz35_0, hcz35_1, hfz35_0, hfz35_1⟩ := cA2 BK107; obtain ⟨Ao36, co36, eo36⟩ := Kd.R_slice HO105.out; subst eo36))
   have n0_ : Aside0 (Kd.R k55 55 ((w33.setCell ⟨gb107, 0, none⟩ (.int .i64 t102)).setCell ⟨gb107, 1, none⟩ (.slice Ao36 t103.length co36)) w.heap.size (fun k_ => k_ ≠ gb101 ∧ k_ ≠ gb107) (.slice Ao36 t103.length co36) t103) := ⟨rZ HO105⟩
   have n1_ : Aside0 (((w33.setCell ⟨gb107, 0, none⟩ (.int .i64 t102)).setCell ⟨gb107, 1, none⟩ (.slice Ao36 t103.length co36)).heap[gb101]? = some (.cells #[.int .i64 0, .slice none 0 0] 55 (0, 0))) := ⟨bY BK101⟩
   have n2_ : Aside0 (((w33.setCell ⟨gb107, 0, none⟩ (.int .i64 t102)).setCell ⟨gb107, 1, none⟩ (.slice Ao36 t103.length co36)).heap[gb107]? = some (.cells #[.int .i64 t102, .slice Ao36 t103.length co36] 55 (0, 0))) := ⟨bP BK107⟩
   have n3_ : Aside0 (Below w.heap.size w ((w33.setCell ⟨gb107, 0, none⟩ (.int .i64 t102)).setCell ⟨gb107, 1, none⟩ (.slice Ao36 t103.length co36))) := ⟨pH HB⟩
   (try clear HO105)
   (try clear BK101)
   (try clear BK107)
   (try clear HB)
   generalize ((w33.setCell ⟨gb107, 0, none⟩ (.int .i64 t102)).setCell ⟨gb107, 1, none⟩ (.slice Ao36 t103.length co36)) = w37 at n0_ n1_ n2_ n3_ ⊢
   have HO105 := n0_
   have BK101 := n1_
   have BK107 := n2_
   have HB := n3_
   clear n0_ n1_ n2_ n3_
   have n_ := aJ (rE HO105) (aJ (aK (blk_drew BK101.out)) (aJ (aK (blk_drew BK107.out)) (aK (below_drew1 HB.out))))
   clear HO105 BK101 BK107 HB
   obtain ⟨HO105, BK101, BK107, HB⟩ := n_
   refine start_ (n := 21) (S := fun w' => w'.cell? ⟨gb107, 0, none⟩ = some (.int .i64 t102) ∧ w'.cell? ⟨gb107, 1, none⟩ = some (.slice Ao36 t103.length co36)) (ds := []) (bs 0 21) (by kernel_rfl) rfl rfl ⟨(blk_cell BK107.out 0).trans rfl, (blk_cell BK107.out 1).trans rfl⟩ (fun hHeld => ?_); refine with_tabW spec_leOf.tab2 spec_leOf.bits2 (fun HT_ HW_ => ?_)
   generalize w37.drew = w38 at HO105 BK101 BK107 HB hHeld ⊢
   refine pQ 1 12 HT_ ?_
   refine pQ 2 13 HT_ ?_
   refine pQ 3 14 HT_ ?_
   refine pQ 4 15 HT_ ?_
   refine pQ 5 16 HT_ ?_
   refine pQ 6 17 HT_ ?_
   refine pQ 7 18 HT_ ?_
   refine pQ 8 19 HT_ ?_
   refine pQ 9 20 HT_ ?_
   refine uQ 10 21 HT_ ?_
   refine uQ 11 22 HT_ ?_
   refine uQ 12 23 HT_ ?_
   refine uQ 13 24 HT_ ?_
   refine pQ 14 25 HT_ ?_
   refine pQ 15 26 HT_ ?_
   refine uQ 16 27 HT_ ?_
   refine uQ 17 28 HT_ ?_
   refine pQ 18 29 HT_ ?_
   refine tQ 0 11 HT_ HW_ hHeld ?_
   refine one_ (i := 19) (N := none) (bs 20 1) rfl rfl (one_of HT_.out (by kernel_rfl)) (by decide) (fun K hK => ?_)
   have hs39 : w38.cell? ⟨gb101, 0, none⟩ = some (.int .i64 0) := (blk_cell BK101.out 0).trans rfl
   have hfs39 := blk_frozen BK101.out 0
   have hns39_1 := NB107_101.out
   have hms39_1 := NB101_107.out
   have hs40 : w38.cell? ⟨gb101, 1, none⟩ = some (.slice none 0 0) := (blk_cell BK101.out 1).trans rfl
   have hfs40 := blk_frozen BK101.out 1
   have hns40_1 := NB107_101.out
   have hms40_1 := NB101_107.out
   refine skip_ (w1 := ?_) (by rfl) rfl ?_ ?_
   rotate_left
   ·go_simp
    rfl
   refine hK.out _ _ ⟨((cell_far (p := ⟨gb101, _, none⟩) NB107_101.out _).trans (((cell_far (p := ⟨gb101, _, none⟩) NB107_101.out _).trans (hHeld.1)))), ((cell_far (p := ⟨gb101, _, none⟩) NB107_101.out _).trans (((cell_far (p := ⟨gb101, _, none⟩) NB107_101.out _).trans (hHeld.2))))⟩ (fun hHeld => ?_)
   clear hK K
   refine pQ 20 3 HT_ ?_
   refine done_ (done_of HT_.out (by kernel_rfl)) ?_
   try go_wp2
   refine bodyPost_ret (results_ct rfl _ _ gb101 55 #[.int .i64 t102, .slice Ao36 t103.length co36] (0, 0) _ rfl (bP BK101) Tryz.underlying55 rfl (by kernel_rfl)) rfl ?_
   exact ⟨_, eW, by (with_reducible repeat (first | apply rA | apply rN | apply rD)); exact Kd.R_mono (Kd.R_far (p := ⟨gb101, 1, none⟩) (Kd.R_far (p := ⟨gb101, 0, none⟩) (Kd.R_mono HO105.out (fun k_ hk => (⟨hk, hk.1⟩ : _ ∧ k_ ≠ gb101))) (fun _ hk => hk.2) (.int .i64 t102)) (fun _ hk => hk.2) (.slice Ao36 t103.length co36)) (fun _ hk => trivial), pH HB⟩
 ·rw [if_neg c3] at H
  have c3b0 : decide (0 < t106) = false := decide_eq_false c3
  clear c3
  simp only [Option.some.injEq, Prod.mk.injEq] at H
  obtain ⟨rfl, rfl, rfl⟩ := H
  go_enter Tryz.func20, Tryz.ntmps20
  try go_wp2_with (first | ((with_reducible refine gate_dst (N := 2) rfl ?_); (try (refine gate_guard (by rfl) ?_; dsimp only)); refine bE (N := 2) (cs := #[.int .i64 0, .slice none 0 0]) (t := 55) ?_; intro gb101 hg w41 hbox hb; have GW101 := qw HB hg; have GE101 := qw HB hg; have BK101 := aK hbox; replace HB := qs HB hb; clear hb hbox hg) | ((with_reducible refine gate_callee (f := 43) rfl ?_); refine goesL_ (some 8) rfl rfl Tryz.func43 (by kernel_rfl) rfl #[.string a0, .int .i64 1] rfl tA ?_; (with_reducible refine (spec_leRead.calls k a0 1 t102 t103 t106 _ A2.out).mono ?_); rintro e w42 ⟨v104, rfl, ho0, hb⟩; refine ⟨_, rfl, ?_⟩; have HO105 := aK (Kd.R_lower (Kd.R_newB ho0 BK101.out) (below_size HB.out)); replace BK101 := qb BK101 hb; replace HB := qs HB hb; (try clear hb); (try clear ho0)) | ((with_reducible refine gate_dst (N := 4) rfl ?_); (try (refine gate_guard (by rfl) ?_; dsimp only)); refine bE (N := 4) (cs := #[.int .i64 0, .slice none 0 0]) (t := 55) ?_; intro gb107 hg w43 hbox hb; have n0_ := aK (Kd.R_below (Kd.R_elderB HO105.out gb107 (Nat.le_of_eq hg.symm)) hb); have GW107 := qw HB hg; have GE107 := qw HB hg; have NB101_107 := ql BK101 hg; have NB107_101 := qg BK101 hg; replace BK101 := qb BK101 hb; have BK107 := aK hbox; clear HO105; have HO105 := n0_; clear n0_; replace HB := qs HB hb; clear hb hbox hg; have hnb44 := NB107_101.out; have hnc44 := NB101_107.out; obtain ⟨hcz45_0, hcz45_1, hfz45_0, hfz45_1⟩ := cA2 BK107; obtain ⟨Ao46, co46, eo46⟩ := Kd.R_slice HO105.out; subst eo46))
  have n0_ : Aside0 (Kd.R k55 55 ((w43.setCell ⟨gb107, 0, none⟩ (.int .i64 t102)).setCell ⟨gb107, 1, none⟩ (.slice Ao46 t103.length co46)) w.heap.size (fun k_ => k_ ≠ gb101 ∧ k_ ≠ gb107) (.slice Ao46 t103.length co46) t103) := ⟨rZ HO105⟩
  have n1_ : Aside0 (((w43.setCell ⟨gb107, 0, none⟩ (.int .i64 t102)).setCell ⟨gb107, 1, none⟩ (.slice Ao46 t103.length co46)).heap[gb101]? = some (.cells #[.int .i64 0, .slice none 0 0] 55 (0, 0))) := ⟨bY BK101⟩
  have n2_ : Aside0 (((w43.setCell ⟨gb107, 0, none⟩ (.int .i64 t102)).setCell ⟨gb107, 1, none⟩ (.slice Ao46 t103.length co46)).heap[gb107]? = some (.cells #[.int .i64 t102, .slice Ao46 t103.length co46] 55 (0, 0))) := ⟨bP BK107⟩
  have n3_ : Aside0 (Below w.heap.size w ((w43.setCell ⟨gb107, 0, none⟩ (.int .i64 t102)).setCell ⟨gb107, 1, none⟩ (.slice Ao46 t103.length co46))) := ⟨pH HB⟩
  (try clear HO105)
  (try clear BK101)
  (try clear BK107)
  (try clear HB)
  generalize ((w43.setCell ⟨gb107, 0, none⟩ (.int .i64 t102)).setCell ⟨gb107, 1, none⟩ (.slice Ao46 t103.length co46)) = w47 at n0_ n1_ n2_ n3_ ⊢
  have HO105 := n0_
  have BK101 := n1_
  have BK107 := n2_
  have HB := n3_
  clear n0_ n1_ n2_ n3_
  have n_ := aJ (rE HO105) (aJ (aK (blk_drew BK101.out)) (aJ (aK (blk_drew BK107.out)) (aK (below_drew1 HB.out))))
  clear HO105 BK101 BK107 HB
  obtain ⟨HO105, BK101, BK107, HB⟩ := n_
  refine start_ (n := 21) (S := fun w' => w'.cell? ⟨gb107, 0, none⟩ = some (.int .i64 t102) ∧ w'.cell? ⟨gb107, 1, none⟩ = some (.slice Ao46 t103.length co46)) (ds := []) (bs 0 21) (by kernel_rfl) rfl rfl ⟨(blk_cell BK107.out 0).trans rfl, (blk_cell BK107.out 1).trans rfl⟩ (fun hHeld => ?_); refine with_tabW spec_leOf.tab2 spec_leOf.bits2 (fun HT_ HW_ => ?_)
  generalize w47.drew = w48 at HO105 BK101 BK107 HB hHeld ⊢
  refine pQ 1 12 HT_ ?_
  refine pQ 2 13 HT_ ?_
  refine pQ 3 14 HT_ ?_
  refine uQ 4 15 HT_ ?_
  refine uQ 5 16 HT_ ?_
  refine uQ 6 17 HT_ ?_
  refine uQ 7 18 HT_ ?_
  refine pQ 8 19 HT_ ?_
  refine pQ 9 20 HT_ ?_
  refine uQ 10 21 HT_ ?_
  refine uQ 11 22 HT_ ?_
  refine uQ 12 23 HT_ ?_
  refine uQ 13 24 HT_ ?_
  refine pQ 14 25 HT_ ?_
  refine pQ 15 26 HT_ ?_
  refine uQ 16 27 HT_ ?_
  refine uQ 17 28 HT_ ?_
  refine pQ 18 29 HT_ ?_
  refine tQ 0 11 HT_ HW_ hHeld ?_
  refine one_ (i := 19) (N := none) (bs 20 1) rfl rfl (one_of HT_.out (by kernel_rfl)) (by decide) (fun K hK => ?_)
  have hs49 : w48.cell? ⟨gb101, 0, none⟩ = some (.int .i64 0) := (blk_cell BK101.out 0).trans rfl
  have hfs49 := blk_frozen BK101.out 0
  have hns49_1 := NB107_101.out
  have hms49_1 := NB101_107.out
  have hs50 : w48.cell? ⟨gb101, 1, none⟩ = some (.slice none 0 0) := (blk_cell BK101.out 1).trans rfl
  have hfs50 := blk_frozen BK101.out 1
  have hns50_1 := NB107_101.out
  have hms50_1 := NB101_107.out
  refine skip_ (w1 := ?_) (by rfl) rfl ?_ ?_
  rotate_left
  ·go_simp
   rfl
  refine hK.out _ _ ⟨((cell_far (p := ⟨gb101, _, none⟩) NB107_101.out _).trans (((cell_far (p := ⟨gb101, _, none⟩) NB107_101.out _).trans (hHeld.1)))), ((cell_far (p := ⟨gb101, _, none⟩) NB107_101.out _).trans (((cell_far (p := ⟨gb101, _, none⟩) NB107_101.out _).trans (hHeld.2))))⟩ (fun hHeld => ?_)
  clear hK K
  refine pQ 20 3 HT_ ?_
  refine done_ (done_of HT_.out (by kernel_rfl)) ?_
  try go_wp2
  refine bodyPost_ret (results_ct rfl _ _ gb101 55 #[.int .i64 t102, .slice Ao46 t103.length co46] (0, 0) _ rfl (bP BK101) Tryz.underlying55 rfl (by kernel_rfl)) rfl ?_
  exact ⟨_, eW, by (with_reducible repeat (first | apply rA | apply rN | apply rD)); exact Kd.R_mono (Kd.R_far (p := ⟨gb101, 1, none⟩) (Kd.R_far (p := ⟨gb101, 0, none⟩) (Kd.R_mono HO105.out (fun k_ hk => (⟨hk, hk.1⟩ : _ ∧ k_ ≠ gb101))) (fun _ hk => hk.2) (.int .i64 t102)) (fun _ hk => hk.2) (.slice Ao46 t103.length co46)) (fun _ hk => trivial), pH HB⟩


def spec_l1In.f (a0 : Int) (a1 : Int) (a2 : Int) : Option (Bool) := if a0 ≥ a1 then (some (decide (a0 ≤ a2))) else (some false)
set_option maxHeartbeats 8000000 in
set_option maxRecDepth 100000 in
theorem spec_l1In.calls (a0 : Int) (a1 : Int) (a2 : Int) (r : Bool) (w : World) (h : spec_l1In.f a0 a1 a2 = some r) :
  Calls Tryz.prog 54 #[.int .i64 a0, .int .i64 a1, .int .i64 a2] w fun e w' => e = .returned (.bool r) ∧ Drawn0 w w' := by
 have H : (if a0 ≥ a1 then (some (decide (a0 ≤ a2))) else (some false)) = some r := h
 clear h
 by_cases c4 : a0 ≥ a1
 ·rw [if_pos c4] at H
  have c4b0 : decide (a1 ≤ a0) = true := decide_eq_true c4
  clear c4
  obtain rfl := Option.some.inj H
  go_enter Tryz.func54, Tryz.ntmps54
  go_wp2
  go_ret
  exact ⟨by first | rfl | (simp; done) | (simp [*]; done), by repeat (first | exact Drawn0.refl _ | apply Drawn0.step)⟩
 ·rw [if_neg c4] at H
  have c4b0 : decide (a1 ≤ a0) = false := decide_eq_false c4
  clear c4
  obtain rfl := Option.some.inj H
  go_enter Tryz.func54, Tryz.ntmps54
  go_wp2
  go_ret
  exact ⟨by first | rfl | (simp; done) | (simp [*]; done), by repeat (first | exact Drawn0.refl _ | apply Drawn0.step)⟩

end Go.Proofs.YteffjlhljeodpaaGreatDoor.G

namespace Go.Proofs.YteffjlhljeodpaaGreatDoor.G
open Go.RowKit Go.Proofs.YteffjlhljeodpaaGreatDoorW.PrintWords Go.Proofs.YteffjlhljeodpaaGreatDoorW.PrintLast Go.Proofs.YteffjlhljeodpaaGreatDoorW.PrintMore
attribute [local go_sem] max2_int min2_int max_two min_two max_three min_three max_four min_four   -- for this text's walks alone
set_option linter.unusedVariables false
set_option linter.unusedSimpArgs false

open Go.Proofs.YteffjlhljeodpaaGreatDoor.Short
def spec_leBinds.l0 : Nat → List (S29) → List (S29) → Int → Int → List Int → List (S55) → Option (List Int × (List (S55)) × Bool)
 | 0, _, _, _, _, _, _ => none
 | k + 1, x0, x10, x11, x12, x103000, x103001 => if x12 < x11 then (if 0 ≤ x12 then (if x12 < (x10.length : Int) then ((spec_leOf.f k ((rd_T29 x10 x12).f1)).bind fun bt105 => (if bt105.2.2 = true then ((spec_l1In.f ((rd_T29 x10 x12).f0) 0 999).bind fun t111 => (if t111 = true then (if x12 > 0 then (if 0 ≤ (wrap64 (x12 - 1)) then (if (wrap64 (x12 - 1)) < (x0.length : Int) then (if ((rd_T29 x0 (wrap64 (x12 - 1))).f0) ≥ ((rd_T29 x10 x12).f0) then (some (x103000, x103001, false)) else (if x103000.length < 17592186044416 then (if x103001.length < 4398046511104 then (spec_leBinds.l0 k x0 x10 x11 (wrap64 (x12 + 1)) (x103000 ++ [(rd_T29 x10 x12).f0]) (x103001 ++ [(⟨bt105.1, bt105.2.1⟩ : S55)])) else (none)) else (none))) else (none)) else (none)) else (if x103000.length < 17592186044416 then (if x103001.length < 4398046511104 then (spec_leBinds.l0 k x0 x10 x11 (wrap64 (x12 + 1)) (x103000 ++ [(rd_T29 x10 x12).f0]) (x103001 ++ [(⟨bt105.1, bt105.2.1⟩ : S55)])) else (none)) else (none))) else (some (x103000, x103001, false)))) else (some (x103000, x103001, false)))) else (none)) else (none)) else (some (x103000, x103001, decide ((x0.length : Int) ≤ 200)))
def spec_leBinds.f (k : Nat) (l0 : List (S29)) : Option (List Int × (List (S55)) × Bool) := spec_leBinds.l0 k l0 l0 (l0.length : Int) 0 ([] : List Int) ([] : List (S55))
set_option maxHeartbeats 8000000 in
set_option maxRecDepth 100000 in
theorem spec_leBinds.calls (k : Nat) (A0 : Option Addr) (c0 : Nat) (l0 : List (S29)) (r1 : List Int) (r2 : List (S55)) (r3 : Bool) (w : World) (hr0 : Kd.C k29 w A0 l0.length l0) (hc0 : l0.length ≤ c0) (h : spec_leBinds.f k l0 = some (r1, r2, r3)) :
  Calls Tryz.prog 25 #[.slice A0 l0.length c0] w fun e w' => ∃ v0_ v1_ : Value, e = .returned (.tuple #[.agg #[v0_, v1_], .bool r3]) ∧ Kd.R (Kd.int .i64) 3 w' w.heap.size (fun _ => True) v0_ r1 ∧ Kd.R k55 55 w' w.heap.size (fun _ => True) v1_ r2 ∧ Below w.heap.size w w' := by
 have hu60 := Tryz.underlying60
 have hu29 := Tryz.underlying29
 have hu55 := Tryz.underlying55
 have HR0 := aM hr0
 have HC0 := aM hc0
 clear hr0 hc0
 have HB := aM (Below.refl w.heap.size w)
 have H : (spec_leBinds.l0 k l0 l0 (l0.length : Int) 0 ([] : List Int) ([] : List (S55))) = some (r1, r2, r3) := h
 clear h
 have H' := aM H
 clear H
 go_enter Tryz.func25, Tryz.ntmps25
 go_wp2_with (first | ((with_reducible refine gate_dst (N := 2) rfl ?_); refine bE (N := 2) (cs := #[.slice none 0 0, .slice none 0 0]) (t := 60) ?_; intro gb101 hg w2 hbox hb; have GW101 := qw HB hg; have GE101 := qw HB hg; have BK101 := aK hbox; replace HB := qs HB hb; clear hb hbox hg) | ((with_reducible refine gate_dst (N := 4) rfl ?_); refine bE (N := 4) (cs := #[.slice none 0 0, .slice none 0 0]) (t := 60) ?_; intro gb102 hg w3 hbox hb; have GW102 := qw HB hg; have GE102 := qw HB hg; have NB101_102 := ql BK101 hg; have NB102_101 := qg BK101 hg; replace BK101 := qb BK101 hb; have BK102 := aK hbox; replace HB := qs HB hb; clear hb hbox hg; have hnb4 := NB102_101.out; have hnc4 := NB101_102.out; obtain ⟨hcz5_0, hcz5_1, hfz5_0, hfz5_1⟩ := cA2 BK102))
 repeat (go_quiet (first | ((with_reducible refine gate_dst (N := 2) rfl ?_); refine bE (N := 2) (cs := #[.slice none 0 0, .slice none 0 0]) (t := 60) ?_; intro gb101 hg w2 hbox hb; have GW101 := qw HB hg; have GE101 := qw HB hg; have BK101 := aK hbox; replace HB := qs HB hb; clear hb hbox hg) | ((with_reducible refine gate_dst (N := 4) rfl ?_); refine bE (N := 4) (cs := #[.slice none 0 0, .slice none 0 0]) (t := 60) ?_; intro gb102 hg w3 hbox hb; have GW102 := qw HB hg; have GE102 := qw HB hg; have NB101_102 := ql BK101 hg; have NB102_101 := qg BK101 hg; replace BK101 := qb BK101 hb; have BK102 := aK hbox; replace HB := qs HB hb; clear hb hbox hg; have hnb4 := NB102_101.out; have hnc4 := NB101_102.out; obtain ⟨hcz5_0, hcz5_1, hfz5_0, hfz5_1⟩ := cA2 BK102)); try go_wp2_with (first | ((with_reducible refine gate_dst (N := 2) rfl ?_); refine bE (N := 2) (cs := #[.slice none 0 0, .slice none 0 0]) (t := 60) ?_; intro gb101 hg w2 hbox hb; have GW101 := qw HB hg; have GE101 := qw HB hg; have BK101 := aK hbox; replace HB := qs HB hb; clear hb hbox hg) | ((with_reducible refine gate_dst (N := 4) rfl ?_); refine bE (N := 4) (cs := #[.slice none 0 0, .slice none 0 0]) (t := 60) ?_; intro gb102 hg w3 hbox hb; have GW102 := qw HB hg; have GE102 := qw HB hg; have NB101_102 := ql BK101 hg; have NB102_101 := qg BK101 hg; replace BK101 := qb BK101 hb; have BK102 := aK hbox; replace HB := qs HB hb; clear hb hbox hg; have hnb4 := NB102_101.out; have hnc4 := NB101_102.out; obtain ⟨hcz5_0, hcz5_1, hfz5_0, hfz5_1⟩ := cA2 BK102)))
 go_loopg [12] k (fun kq v12 w' => ∃ (x12_1 : Int) (x103000_1 : List Int) (x103001_1 : List (S55)) (u103000 : Value) (u103001 : Value), v12 = .int .i64 x12_1 ∧ Aside0 (spec_leBinds.l0 kq l0 l0 (l0.length : Int) x12_1 x103000_1 x103001_1 = some (r1, r2, r3)) ∧ Aside0 (kq ≤ k) ∧ Aside0 (Kd.R (Kd.int .i64) 3 w' w.heap.size (fun _ => True) u103000 x103000_1) ∧ Aside0 (Kd.R k55 55 w' w.heap.size (fun _ => True) u103001 x103001_1) ∧ Aside0 (w'.heap[gb101]? = some (.cells #[(.slice none 0 0), (.slice none 0 0)] 60 (0, 0))) ∧ Aside0 (w'.heap[gb102]? = some (.cells #[u103000, u103001] 60 (0, 0))) ∧ Aside0 (Below w.heap.size w w'))
 case atStart => exact ⟨(0), (([] : List Int)), (([] : List (S55))), (.slice none 0 0), (.slice none 0 0), rS, H', ⟨Nat.le_refl _⟩, ⟨by first | exact Kd.R_nil _ _ _ _ _ | exact Kd.N_nil _ _ _ _ _ | exact Kd.V_nil _ _ _ _ _ | exact Kd.Q_nil _ _ _ _ _ | exact Kd.S_nil _ _ _ _ _⟩, ⟨by first | exact Kd.R_nil _ _ _ _ _ | exact Kd.N_nil _ _ _ _ _ | exact Kd.V_nil _ _ _ _ _ | exact Kd.Q_nil _ _ _ _ _ | exact Kd.S_nil _ _ _ _ _⟩, ⟨bY BK101⟩, ⟨bP BK102⟩, ⟨pH HB⟩⟩
 case round =>
  clear H'
  obtain ⟨x12_1, x103000_1, x103001_1, u103000, u103001, rfl, HA, HK1, HO_103000, HO_103001, BK101, BK102, HB⟩ := hrel
  cases gk with
  | zero => exact absurd HA.out (by simp [spec_leBinds.l0])
  | succ k1 =>
   have H := HA.out
   clear HA
   simp only [spec_leBinds.l0] at H
   by_cases c6 : x12_1 < (l0.length : Int)
   ·rw [if_pos c6] at H
    have c6b0 : decide (x12_1 < (l0.length : Int)) = true := decide_eq_true c6
    clear c6
    by_cases c7 : 0 ≤ x12_1
    ·rw [if_pos c7] at H
     have c7b0 : decide (0 ≤ x12_1) = true := decide_eq_true c7
     clear c7
     by_cases c8 : x12_1 < (l0.length : Int)
     ·rw [if_pos c8] at H
      have c8b0 : decide (x12_1 < (l0.length : Int)) = true := decide_eq_true c8
      clear c8
      replace H := Option.bind_eq_some_iff.mp H
      obtain ⟨⟨t105, t106, t109⟩, A90, H⟩ := H
      try dsimp only at H
      have A9 := aM A90
      clear A90
      by_cases c10 : t109 = true
      ·subst c10
       rw [if_pos rfl] at H
       replace H := Option.bind_eq_some_iff.mp H
       obtain ⟨t111, A110, H⟩ := H
       try dsimp only at H
       have A11 := aM A110
       clear A110
       by_cases c12 : t111 = true
       ·subst c12
        rw [if_pos rfl] at H
        by_cases c13 : x12_1 > 0
        ·rw [if_pos c13] at H
         have c13b0 : decide (0 < x12_1) = true := decide_eq_true c13
         clear c13
         obtain ⟨ji14, hji14⟩ : ∃ j_ : Int, (wrap64 (x12_1 - 1)) = j_ := ⟨_, rfl⟩
         replace H : (if 0 ≤ (ji14) then (if (ji14) < (l0.length : Int) then (if ((rd_T29 l0 (ji14)).f0) ≥ ((rd_T29 l0 x12_1).f0) then (some (x103000_1, x103001_1, false)) else (if x103000_1.length < 17592186044416 then (if x103001_1.length < 4398046511104 then (spec_leBinds.l0 k1 l0 l0 (l0.length : Int) (wrap64 (x12_1 + 1)) (x103000_1 ++ [(rd_T29 l0 x12_1).f0]) (x103001_1 ++ [(⟨t105, t106⟩ : S55)])) else (none)) else (none))) else (none)) else (none)) = some (r1, r2, r3) := by first | (rw [hji14] at H; exact H) | (simp only [hji14] at H ⊢; exact H)
         (try rw [hji14] at A9)
         (try rw [hji14] at A11)
         have hji14w : (IntKind.i64.wrap (x12_1 - 1)) = ji14 := (i64_w _).trans hji14
         by_cases c15 : 0 ≤ (ji14)
         ·rw [if_pos c15] at H
          have c15b0 : decide (0 ≤ (ji14)) = true := decide_eq_true c15
          clear c15
          by_cases c16 : (ji14) < (l0.length : Int)
          ·rw [if_pos c16] at H
           have c16b0 : decide ((ji14) < (l0.length : Int)) = true := decide_eq_true c16
           clear c16
           by_cases c17 : ((rd_T29 l0 (ji14)).f0) ≥ ((rd_T29 l0 x12_1).f0)
           ·rw [if_pos c17] at H
            have c17b0 : decide (((rd_T29 l0 x12_1).f0) ≤ ((rd_T29 l0 (ji14)).f0)) = true := decide_eq_true c17
            clear c17
            simp only [Option.some.injEq, Prod.mk.injEq] at H
            obtain ⟨rfl, rfl, rfl⟩ := H
            have p103 : 0 ≤ (x12_1 : Int) := dA
            have q103 : x12_1 < (l0.length : Int) := dA
            obtain ⟨ad103, e103, hx103_0, hx103_1⟩ := at_T29 HR0.out x12_1 p103 q103
            cases e103
            replace hx103_0 := uC HB hx103_0
            replace hx103_1 := uC HB hx103_1
            replace p103 := eq_true p103
            replace q103 := eq_true q103
            go_wp2_with (first | ((with_reducible refine gate_dst (N := 6) rfl ?_); refine box_event ?hg (N := 6) ?hd (cs := #[.int .i64 0, .string (⟨#[]⟩ : ByteArray)]) (t := 29) ?hr ?_; (case hd => rfl); (case hg => rfl); (case hr => go_simp); intro gb104 hg w18 hbox hb; have n0_ := aK (Kd.R_below HO_103000.out hb); have n1_ := aK (Kd.R_below HO_103001.out hb); have GW104 := qw HB hg; have GE104 := qw HB hg; have NB101_104 := ql BK101 hg; have NB104_101 := qg BK101 hg; have NB102_104 := ql BK102 hg; have NB104_102 := qg BK102 hg; replace BK101 := qb BK101 hb; replace BK102 := qb BK102 hb; have BK104 := aK hbox; clear HO_103000; have HO_103000 := n0_; clear n0_; clear HO_103001; have HO_103001 := n1_; clear n1_; replace HB := qs HB hb; clear hb hbox hg; have hnb19 := NB104_101.out; have hnc19 := NB101_104.out; have hnb20 := NB104_102.out; have hnc20 := NB102_104.out; obtain ⟨hcz21_0, hcz21_1, hfz21_0, hfz21_1⟩ := cA2 BK104) | (go_at_call 20; (with_reducible refine (spec_leOf.calls k1 ((rd_T29 l0 x12_1).f1) t105 t106 true _ A9.out).mono ?_); rintro e w22 ⟨v107, rfl, ho0, hb⟩; have n_ := aJ (aM (Kd.R_below (rY HO_103000 BK104) hb)) (aJ (aM (Kd.R_elder' (rY HO_103001 BK104) (Kd.R_base ho0) hb)) (aJ (aM (Kd.R_lower (Kd.R_new' ho0 (Kd.R_lt (rY HO_103001 BK104))) (below_size (pH HB)))) (aJ (bB BK101 hb) (aJ (bB BK102 hb) (aJ (aM (blk_below (g := gb104) (o := .cells #[.int .i64 ((rd_T29 l0 x12_1).f0), .string ((rd_T29 l0 x12_1).f1)] 29 (0, 0)) (bP BK104) hb)) (aM (below_step (pH HB) hb))))))); clear HO_103000 HO_103001 BK101 BK102 BK104 HB; obtain ⟨HO_103000, HO_103001, HO108, BK101, BK102, BK104, HB⟩ := n_; (try clear hb); (try clear ho0)) | ((with_reducible refine gate_dst (N := 7) rfl ?_); refine bE (N := 7) (cs := #[.int .i64 0, .slice none 0 0]) (t := 55) ?_; intro gb110 hg w23 hbox hb; have n0_ := aK (Kd.R_below HO_103000.out hb); have n1_ := aK (Kd.R_below (Kd.R_elderB HO_103001.out gb110 (Nat.le_of_eq hg.symm)) hb); have n2_ := aK (Kd.R_below (Kd.R_elderB HO108.out gb110 (Nat.le_of_eq hg.symm)) hb); have GW110 := qw HB hg; have GE110 := qw HB hg; have NB101_110 := ql BK101 hg; have NB110_101 := qg BK101 hg; have NB102_110 := ql BK102 hg; have NB110_102 := qg BK102 hg; have NB104_110 := ql BK104 hg; have NB110_104 := qg BK104 hg; replace BK101 := qb BK101 hb; replace BK102 := qb BK102 hb; replace BK104 := qb BK104 hb; have BK110 := aK hbox; clear HO_103000; have HO_103000 := n0_; clear n0_; clear HO_103001; have HO_103001 := n1_; clear n1_; clear HO108; have HO108 := n2_; clear n2_; replace HB := qs HB hb; clear hb hbox hg; have hnb24 := NB110_101.out; have hnc24 := NB101_110.out; have hnb25 := NB110_102.out; have hnc25 := NB102_110.out; have hnb26 := NB110_104.out; have hnc26 := NB104_110.out; obtain ⟨hcz27_0, hcz27_1, hfz27_0, hfz27_1⟩ := cA2 BK110; obtain ⟨Ao28, co28, eo28⟩ := Kd.R_slice HO108.out; subst eo28; obtain ⟨hcz29_0, hcz29_1, hfz29_0, hfz29_1⟩ := cA2 BK104) | (go_at_call 54; (with_reducible refine (spec_l1In.calls ((rd_T29 l0 x12_1).f0) 0 999 true _ A11.out).mono ?_); rintro e w' ⟨rfl, ⟨nd, rfl⟩⟩; (try first | exact ⟨rfl, _, World.drewN_drewN _ _ _⟩ | exact ⟨rfl, _, Eq.trans (World.drewN_drewN _ _ _) (congrArg (World.drewN _) (Nat.add_assoc _ _ _))⟩); have p112 : 0 ≤ ((ji14) : Int) := dA; have q112 : (ji14) < (l0.length : Int) := dA; obtain ⟨ad112, e112, hx112_0, hx112_1⟩ := at_T29 HR0.out (ji14) p112 q112; obtain rfl : ad103 = ad112 := (by injection e112); have hn112_0 : ad103.block ≠ gb110 := nF hx112_0 GW110; have hn112_1 : ad103.block ≠ gb110 := nF hx112_0 GW110; replace hx112_0 := uC HB hx112_0; replace hx112_1 := uC HB hx112_1; replace hx112_0 := (cell_far (p := ⟨gb110, 0, none⟩) (cB hn112_0) (.int .i64 t105)).trans hx112_0; replace hx112_1 := (cell_far (p := ⟨gb110, 0, none⟩) (cB hn112_0) (.int .i64 t105)).trans hx112_1; replace hx112_0 := (cell_far (p := ⟨gb110, 1, none⟩) (cB hn112_1) (.slice Ao28 t106.length co28)).trans hx112_0; replace hx112_1 := (cell_far (p := ⟨gb110, 1, none⟩) (cB hn112_1) (.slice Ao28 t106.length co28)).trans hx112_1; (try have hy112_0 := fun (n_ : Nat) => (show ((((w23.drewN n_).setCell ⟨gb110, 0, none⟩ (.int .i64 t105)).setCell ⟨gb110, 1, none⟩ (.slice Ao28 t106.length co28))).cell? _ = some _ from hx112_0)); (try have hy112_1 := fun (n_ : Nat) => (show ((((w23.drewN n_).setCell ⟨gb110, 0, none⟩ (.int .i64 t105)).setCell ⟨gb110, 1, none⟩ (.slice Ao28 t106.length co28))).cell? _ = some _ from hx112_1)); clear hn112_0; clear hn112_1; replace p112 := eq_true p112; replace q112 := eq_true q112; have hnb30 := NB102_101.out; have hnc30 := NB101_102.out; obtain ⟨hcz31_0, hcz31_1, hfz31_0, hfz31_1⟩ := cA2 BK102; obtain ⟨Ao32, co32, eo32⟩ := Kd.R_slice HO_103000.out; subst eo32; obtain ⟨hcz33_0, hcz33_1, hfz33_0, hfz33_1⟩ := cA2 BK101; obtain ⟨Ao34, co34, eo34⟩ := Kd.R_slice HO_103001.out; subst eo34))
            repeat (go_quiet (first | ((with_reducible refine gate_dst (N := 6) rfl ?_); refine box_event ?hg (N := 6) ?hd (cs := #[.int .i64 0, .string (⟨#[]⟩ : ByteArray)]) (t := 29) ?hr ?_; (case hd => rfl); (case hg => rfl); (case hr => go_simp); intro gb104 hg w18 hbox hb; have n0_ := aK (Kd.R_below HO_103000.out hb); have n1_ := aK (Kd.R_below HO_103001.out hb); have GW104 := qw HB hg; have GE104 := qw HB hg; have NB101_104 := ql BK101 hg; have NB104_101 := qg BK101 hg; have NB102_104 := ql BK102 hg; have NB104_102 := qg BK102 hg; replace BK101 := qb BK101 hb; replace BK102 := qb BK102 hb; have BK104 := aK hbox; clear HO_103000; have HO_103000 := n0_; clear n0_; clear HO_103001; have HO_103001 := n1_; clear n1_; replace HB := qs HB hb; clear hb hbox hg; have hnb19 := NB104_101.out; have hnc19 := NB101_104.out; have hnb20 := NB104_102.out; have hnc20 := NB102_104.out; obtain ⟨hcz21_0, hcz21_1, hfz21_0, hfz21_1⟩ := cA2 BK104) | (go_at_call 20; (with_reducible refine (spec_leOf.calls k1 ((rd_T29 l0 x12_1).f1) t105 t106 true _ A9.out).mono ?_); rintro e w22 ⟨v107, rfl, ho0, hb⟩; have n_ := aJ (aM (Kd.R_below (rY HO_103000 BK104) hb)) (aJ (aM (Kd.R_elder' (rY HO_103001 BK104) (Kd.R_base ho0) hb)) (aJ (aM (Kd.R_lower (Kd.R_new' ho0 (Kd.R_lt (rY HO_103001 BK104))) (below_size (pH HB)))) (aJ (bB BK101 hb) (aJ (bB BK102 hb) (aJ (aM (blk_below (g := gb104) (o := .cells #[.int .i64 ((rd_T29 l0 x12_1).f0), .string ((rd_T29 l0 x12_1).f1)] 29 (0, 0)) (bP BK104) hb)) (aM (below_step (pH HB) hb))))))); clear HO_103000 HO_103001 BK101 BK102 BK104 HB; obtain ⟨HO_103000, HO_103001, HO108, BK101, BK102, BK104, HB⟩ := n_; (try clear hb); (try clear ho0)) | ((with_reducible refine gate_dst (N := 7) rfl ?_); refine bE (N := 7) (cs := #[.int .i64 0, .slice none 0 0]) (t := 55) ?_; intro gb110 hg w23 hbox hb; have n0_ := aK (Kd.R_below HO_103000.out hb); have n1_ := aK (Kd.R_below (Kd.R_elderB HO_103001.out gb110 (Nat.le_of_eq hg.symm)) hb); have n2_ := aK (Kd.R_below (Kd.R_elderB HO108.out gb110 (Nat.le_of_eq hg.symm)) hb); have GW110 := qw HB hg; have GE110 := qw HB hg; have NB101_110 := ql BK101 hg; have NB110_101 := qg BK101 hg; have NB102_110 := ql BK102 hg; have NB110_102 := qg BK102 hg; have NB104_110 := ql BK104 hg; have NB110_104 := qg BK104 hg; replace BK101 := qb BK101 hb; replace BK102 := qb BK102 hb; replace BK104 := qb BK104 hb; have BK110 := aK hbox; clear HO_103000; have HO_103000 := n0_; clear n0_; clear HO_103001; have HO_103001 := n1_; clear n1_; clear HO108; have HO108 := n2_; clear n2_; replace HB := qs HB hb; clear hb hbox hg; have hnb24 := NB110_101.out; have hnc24 := NB101_110.out; have hnb25 := NB110_102.out; have hnc25 := NB102_110.out; have hnb26 := NB110_104.out; have hnc26 := NB104_110.out; obtain ⟨hcz27_0, hcz27_1, hfz27_0, hfz27_1⟩ := cA2 BK110; obtain ⟨Ao28, co28, eo28⟩ := Kd.R_slice HO108.out; subst eo28; obtain ⟨hcz29_0, hcz29_1, hfz29_0, hfz29_1⟩ := cA2 BK104) | (go_at_call 54; (with_reducible refine (spec_l1In.calls ((rd_T29 l0 x12_1).f0) 0 999 true _ A11.out).mono ?_); rintro e w' ⟨rfl, ⟨nd, rfl⟩⟩; (try first | exact ⟨rfl, _, World.drewN_drewN _ _ _⟩ | exact ⟨rfl, _, Eq.trans (World.drewN_drewN _ _ _) (congrArg (World.drewN _) (Nat.add_assoc _ _ _))⟩); have p112 : 0 ≤ ((ji14) : Int) := dA; have q112 : (ji14) < (l0.length : Int) := dA; obtain ⟨ad112, e112, hx112_0, hx112_1⟩ := at_T29 HR0.out (ji14) p112 q112; obtain rfl : ad103 = ad112 := (by injection e112); have hn112_0 : ad103.block ≠ gb110 := nF hx112_0 GW110; have hn112_1 : ad103.block ≠ gb110 := nF hx112_0 GW110; replace hx112_0 := uC HB hx112_0; replace hx112_1 := uC HB hx112_1; replace hx112_0 := (cell_far (p := ⟨gb110, 0, none⟩) (cB hn112_0) (.int .i64 t105)).trans hx112_0; replace hx112_1 := (cell_far (p := ⟨gb110, 0, none⟩) (cB hn112_0) (.int .i64 t105)).trans hx112_1; replace hx112_0 := (cell_far (p := ⟨gb110, 1, none⟩) (cB hn112_1) (.slice Ao28 t106.length co28)).trans hx112_0; replace hx112_1 := (cell_far (p := ⟨gb110, 1, none⟩) (cB hn112_1) (.slice Ao28 t106.length co28)).trans hx112_1; (try have hy112_0 := fun (n_ : Nat) => (show ((((w23.drewN n_).setCell ⟨gb110, 0, none⟩ (.int .i64 t105)).setCell ⟨gb110, 1, none⟩ (.slice Ao28 t106.length co28))).cell? _ = some _ from hx112_0)); (try have hy112_1 := fun (n_ : Nat) => (show ((((w23.drewN n_).setCell ⟨gb110, 0, none⟩ (.int .i64 t105)).setCell ⟨gb110, 1, none⟩ (.slice Ao28 t106.length co28))).cell? _ = some _ from hx112_1)); clear hn112_0; clear hn112_1; replace p112 := eq_true p112; replace q112 := eq_true q112; have hnb30 := NB102_101.out; have hnc30 := NB101_102.out; obtain ⟨hcz31_0, hcz31_1, hfz31_0, hfz31_1⟩ := cA2 BK102; obtain ⟨Ao32, co32, eo32⟩ := Kd.R_slice HO_103000.out; subst eo32; obtain ⟨hcz33_0, hcz33_1, hfz33_0, hfz33_1⟩ := cA2 BK101; obtain ⟨Ao34, co34, eo34⟩ := Kd.R_slice HO_103001.out; subst eo34)); try go_wp2_with (first | ((with_reducible refine gate_dst (N := 6) rfl ?_); refine box_event ?hg (N := 6) ?hd (cs := #[.int .i64 0, .string (⟨#[]⟩ : ByteArray)]) (t := 29) ?hr ?_; (case hd => rfl); (case hg => rfl); (case hr => go_simp); intro gb104 hg w18 hbox hb; have n0_ := aK (Kd.R_below HO_103000.out hb); have n1_ := aK (Kd.R_below HO_103001.out hb); have GW104 := qw HB hg; have GE104 := qw HB hg; have NB101_104 := ql BK101 hg; have NB104_101 := qg BK101 hg; have NB102_104 := ql BK102 hg; have NB104_102 := qg BK102 hg; replace BK101 := qb BK101 hb; replace BK102 := qb BK102 hb; have BK104 := aK hbox; clear HO_103000; have HO_103000 := n0_; clear n0_; clear HO_103001; have HO_103001 := n1_; clear n1_; replace HB := qs HB hb; clear hb hbox hg; have hnb19 := NB104_101.out; have hnc19 := NB101_104.out; have hnb20 := NB104_102.out; have hnc20 := NB102_104.out; obtain ⟨hcz21_0, hcz21_1, hfz21_0, hfz21_1⟩ := cA2 BK104) | (go_at_call 20; (with_reducible refine (spec_leOf.calls k1 ((rd_T29 l0 x12_1).f1) t105 t106 true _ A9.out).mono ?_); rintro e w22 ⟨v107, rfl, ho0, hb⟩; have n_ := aJ (aM (Kd.R_below (rY HO_103000 BK104) hb)) (aJ (aM (Kd.R_elder' (rY HO_103001 BK104) (Kd.R_base ho0) hb)) (aJ (aM (Kd.R_lower (Kd.R_new' ho0 (Kd.R_lt (rY HO_103001 BK104))) (below_size (pH HB)))) (aJ (bB BK101 hb) (aJ (bB BK102 hb) (aJ (aM (blk_below (g := gb104) (o := .cells #[.int .i64 ((rd_T29 l0 x12_1).f0), .string ((rd_T29 l0 x12_1).f1)] 29 (0, 0)) (bP BK104) hb)) (aM (below_step (pH HB) hb))))))); clear HO_103000 HO_103001 BK101 BK102 BK104 HB; obtain ⟨HO_103000, HO_103001, HO108, BK101, BK102, BK104, HB⟩ := n_; (try clear hb); (try clear ho0)) | ((with_reducible refine gate_dst (N := 7) rfl ?_); refine bE (N := 7) (cs := #[.int .i64 0, .slice none 0 0]) (t := 55) ?_; intro gb110 hg w23 hbox hb; have n0_ := aK (Kd.R_below HO_103000.out hb); have n1_ := aK (Kd.R_below (Kd.R_elderB HO_103001.out gb110 (Nat.le_of_eq hg.symm)) hb); have n2_ := aK (Kd.R_below (Kd.R_elderB HO108.out gb110 (Nat.le_of_eq hg.symm)) hb); have GW110 := qw HB hg; have GE110 := qw HB hg; have NB101_110 := ql BK101 hg; have NB110_101 := qg BK101 hg; have NB102_110 := ql BK102 hg; have NB110_102 := qg BK102 hg; have NB104_110 := ql BK104 hg; have NB110_104 := qg BK104 hg; replace BK101 := qb BK101 hb; replace BK102 := qb BK102 hb; replace BK104 := qb BK104 hb; have BK110 := aK hbox; clear HO_103000; have HO_103000 := n0_; clear n0_; clear HO_103001; have HO_103001 := n1_; clear n1_; clear HO108; have HO108 := n2_; clear n2_; replace HB := qs HB hb; clear hb hbox hg; have hnb24 := NB110_101.out; have hnc24 := NB101_110.out; have hnb25 := NB110_102.out; have hnc25 := NB102_110.out; have hnb26 := NB110_104.out; have hnc26 := NB104_110.out; obtain ⟨hcz27_0, hcz27_1, hfz27_0, hfz27_1⟩ := cA2 BK110; obtain ⟨Ao28, co28, eo28⟩ := Kd.R_slice HO108.out; subst eo28; obtain ⟨hcz29_0, hcz29_1, hfz29_0, hfz29_1⟩ := cA2 BK104) | (go_at_call 54; (with_reducible refine (spec_l1In.calls ((rd_T29 l0 x12_1).f0) 0 999 true _ A11.out).mono ?_); rintro e w' ⟨rfl, ⟨nd, rfl⟩⟩; (try first | exact ⟨rfl, _, World.drewN_drewN _ _ _⟩ | exact ⟨rfl, _, Eq.trans (World.drewN_drewN _ _ _) (congrArg (World.drewN _) (Nat.add_assoc _ _ _))⟩); have p112 : 0 ≤ ((ji14) : Int) := dA; have q112 : (ji14) < (l0.length : Int) := dA; obtain ⟨ad112, e112, hx112_0, hx112_1⟩ := at_T29 HR0.out (ji14) p112 q112; obtain rfl : ad103 = ad112 := (by injection e112); have hn112_0 : ad103.block ≠ gb110 := nF hx112_0 GW110; have hn112_1 : ad103.block ≠ gb110 := nF hx112_0 GW110; replace hx112_0 := uC HB hx112_0; replace hx112_1 := uC HB hx112_1; replace hx112_0 := (cell_far (p := ⟨gb110, 0, none⟩) (cB hn112_0) (.int .i64 t105)).trans hx112_0; replace hx112_1 := (cell_far (p := ⟨gb110, 0, none⟩) (cB hn112_0) (.int .i64 t105)).trans hx112_1; replace hx112_0 := (cell_far (p := ⟨gb110, 1, none⟩) (cB hn112_1) (.slice Ao28 t106.length co28)).trans hx112_0; replace hx112_1 := (cell_far (p := ⟨gb110, 1, none⟩) (cB hn112_1) (.slice Ao28 t106.length co28)).trans hx112_1; (try have hy112_0 := fun (n_ : Nat) => (show ((((w23.drewN n_).setCell ⟨gb110, 0, none⟩ (.int .i64 t105)).setCell ⟨gb110, 1, none⟩ (.slice Ao28 t106.length co28))).cell? _ = some _ from hx112_0)); (try have hy112_1 := fun (n_ : Nat) => (show ((((w23.drewN n_).setCell ⟨gb110, 0, none⟩ (.int .i64 t105)).setCell ⟨gb110, 1, none⟩ (.slice Ao28 t106.length co28))).cell? _ = some _ from hx112_1)); clear hn112_0; clear hn112_1; replace p112 := eq_true p112; replace q112 := eq_true q112; have hnb30 := NB102_101.out; have hnc30 := NB101_102.out; obtain ⟨hcz31_0, hcz31_1, hfz31_0, hfz31_1⟩ := cA2 BK102; obtain ⟨Ao32, co32, eo32⟩ := Kd.R_slice HO_103000.out; subst eo32; obtain ⟨hcz33_0, hcz33_1, hfz33_0, hfz33_1⟩ := cA2 BK101; obtain ⟨Ao34, co34, eo34⟩ := Kd.R_slice HO_103001.out; subst eo34)))
            refine bodyPost_ret (results_ct rfl _ _ gb101 60 #[.slice Ao32 x103000_1.length co32, .slice Ao34 x103001_1.length co34] (0, 0) _ rfl (by (with_reducible repeat first | apply zN | apply zD | apply zA); refine blk_put (cs := #[.slice Ao32 x103000_1.length co32, .slice none 0 0]) ?_ 1 _ rfl; (with_reducible repeat first | apply zN | apply zD | apply zA); refine blk_put (cs := #[.slice none 0 0, .slice none 0 0]) ?_ 0 _ rfl; (repeat first | with_reducible apply zN | with_reducible apply zD | with_reducible apply zA | refine blk_far ?_ NB101_110.out _); exact BK101.out) Tryz.underlying60 rfl (by kernel_rfl)) rfl ?_
            exact ⟨_, _, by first | rfl | (simp [errW_none, errW_some] <;> rfl) | (simp only [← hji14]; first | rfl | (simp [errW_none, errW_some] <;> rfl)) | (simp [*, errW_none, errW_some] <;> rfl), by (with_reducible repeat (first | apply rA | apply rN | apply rD)); exact Kd.R_mono (Kd.R_far (p := ⟨gb101, 1, none⟩) (Kd.R_far (p := ⟨gb101, 0, none⟩) (rN (Kd.R_far (p := ⟨gb110, 1, none⟩) (Kd.R_far (p := ⟨gb110, 0, none⟩) (Kd.R_types (Kd.R_types HO_103000.out BK110.out (by decide)) BK101.out (by decide)) (fun _ hk => hk.1.2) (.int .i64 t105)) (fun _ hk => hk.1.2) (.slice Ao28 t106.length co28)) _) (fun _ hk => hk.2) (.slice Ao32 x103000_1.length co32)) (fun _ hk => hk.2) (.slice Ao34 x103001_1.length co34)) (fun _ hk => trivial), by (with_reducible repeat (first | apply rA | apply rN | apply rD)); exact Kd.R_mono (Kd.R_far (p := ⟨gb101, 1, none⟩) (Kd.R_far (p := ⟨gb101, 0, none⟩) (rN (Kd.R_far (p := ⟨gb110, 1, none⟩) (Kd.R_far (p := ⟨gb110, 0, none⟩) (Kd.R_types (Kd.R_mono HO_103001.out (fun k_ hk => (⟨hk, hk.2⟩ : _ ∧ k_ ≠ gb110))) BK101.out (by decide)) (fun _ hk => hk.1.2) (.int .i64 t105)) (fun _ hk => hk.1.2) (.slice Ao28 t106.length co28)) _) (fun _ hk => hk.2) (.slice Ao32 x103000_1.length co32)) (fun _ hk => hk.2) (.slice Ao34 x103001_1.length co34)) (fun _ hk => trivial), pH HB⟩
           ·rw [if_neg c17] at H
            have c17b0 : decide (((rd_T29 l0 x12_1).f0) ≤ ((rd_T29 l0 (ji14)).f0)) = false := decide_eq_false c17
            clear c17
            by_cases c35 : x103000_1.length < 17592186044416
            ·rw [if_pos c35] at H
             have LMc35 := aM c35
             clear c35
             obtain ⟨y113, hy113⟩ : ∃ y_ : List Int, y_ = (x103000_1 ++ [(rd_T29 l0 x12_1).f0]) := ⟨_, rfl⟩
             replace H : (if x103001_1.length < 4398046511104 then (spec_leBinds.l0 k1 l0 l0 (l0.length : Int) (wrap64 (x12_1 + 1)) y113 (x103001_1 ++ [(⟨t105, t106⟩ : S55)])) else (none)) = some (r1, r2, r3) := by first | (rw [hy113]; with_reducible exact H) | (have H2_ := (Option.bind_some _ _).symm.trans H; rw [hy113]; with_reducible exact H2_) | (have H2_ := (Option.bind_some _ _).symm.trans H; with_reducible exact H2_) | with_reducible exact H | (rw [hy113]; exact H) | exact H
             have Ny113 := aM hy113
             clear hy113
             by_cases c36 : x103001_1.length < 4398046511104
             ·rw [if_pos c36] at H
              have LMc36 := aM c36
              clear c36
              obtain ⟨y116, hy116⟩ : ∃ y_ : List (S55), y_ = (x103001_1 ++ [(⟨t105, t106⟩ : S55)]) := ⟨_, rfl⟩
              replace H : (spec_leBinds.l0 k1 l0 l0 (l0.length : Int) (wrap64 (x12_1 + 1)) y113 y116) = some (r1, r2, r3) := by first | (rw [hy116]; with_reducible exact H) | (have H2_ := (Option.bind_some _ _).symm.trans H; rw [hy116]; with_reducible exact H2_) | (have H2_ := (Option.bind_some _ _).symm.trans H; with_reducible exact H2_) | with_reducible exact H | (rw [hy116]; exact H) | exact H
              have Ny116 := aM hy116
              clear hy116
              have H' := aM H
              clear H
              have p103 : 0 ≤ (x12_1 : Int) := dA
              have q103 : x12_1 < (l0.length : Int) := dA
              obtain ⟨ad103, e103, hx103_0, hx103_1⟩ := at_T29 HR0.out x12_1 p103 q103
              cases e103
              replace hx103_0 := uC HB hx103_0
              replace hx103_1 := uC HB hx103_1
              replace p103 := eq_true p103
              replace q103 := eq_true q103
              go_wp2_with (first | ((with_reducible refine gate_dst (N := 6) rfl ?_); refine box_event ?hg (N := 6) ?hd (cs := #[.int .i64 0, .string (⟨#[]⟩ : ByteArray)]) (t := 29) ?hr ?_; (case hd => rfl); (case hg => rfl); (case hr => go_simp); intro gb104 hg w37 hbox hb; have n0_ := aK (Kd.R_below HO_103000.out hb); have n1_ := aK (Kd.R_below HO_103001.out hb); have GW104 := qw HB hg; have GE104 := qw HB hg; have NB101_104 := ql BK101 hg; have NB104_101 := qg BK101 hg; have NB102_104 := ql BK102 hg; have NB104_102 := qg BK102 hg; replace BK101 := qb BK101 hb; replace BK102 := qb BK102 hb; have BK104 := aK hbox; clear HO_103000; have HO_103000 := n0_; clear n0_; clear HO_103001; have HO_103001 := n1_; clear n1_; replace HB := qs HB hb; clear hb hbox hg; have hnb38 := NB104_101.out; have hnc38 := NB101_104.out; have hnb39 := NB104_102.out; have hnc39 := NB102_104.out; obtain ⟨hcz40_0, hcz40_1, hfz40_0, hfz40_1⟩ := cA2 BK104) | (go_at_call 20; (with_reducible refine (spec_leOf.calls k1 ((rd_T29 l0 x12_1).f1) t105 t106 true _ A9.out).mono ?_); rintro e w41 ⟨v107, rfl, ho0, hb⟩; have n_ := aJ (aM (Kd.R_below (rY HO_103000 BK104) hb)) (aJ (aM (Kd.R_elder' (rY HO_103001 BK104) (Kd.R_base ho0) hb)) (aJ (aM (Kd.R_lower (Kd.R_new' ho0 (Kd.R_lt (rY HO_103001 BK104))) (below_size (pH HB)))) (aJ (bB BK101 hb) (aJ (bB BK102 hb) (aJ (aM (blk_below (g := gb104) (o := .cells #[.int .i64 ((rd_T29 l0 x12_1).f0), .string ((rd_T29 l0 x12_1).f1)] 29 (0, 0)) (bP BK104) hb)) (aM (below_step (pH HB) hb))))))); clear HO_103000 HO_103001 BK101 BK102 BK104 HB; obtain ⟨HO_103000, HO_103001, HO108, BK101, BK102, BK104, HB⟩ := n_; (try clear hb); (try clear ho0)) | ((with_reducible refine gate_dst (N := 7) rfl ?_); refine bE (N := 7) (cs := #[.int .i64 0, .slice none 0 0]) (t := 55) ?_; intro gb110 hg w42 hbox hb; have n0_ := aK (Kd.R_below HO_103000.out hb); have n1_ := aK (Kd.R_below (Kd.R_elderB HO_103001.out gb110 (Nat.le_of_eq hg.symm)) hb); have n2_ := aK (Kd.R_below (Kd.R_elderB HO108.out gb110 (Nat.le_of_eq hg.symm)) hb); have GW110 := qw HB hg; have GE110 := qw HB hg; have NB101_110 := ql BK101 hg; have NB110_101 := qg BK101 hg; have NB102_110 := ql BK102 hg; have NB110_102 := qg BK102 hg; have NB104_110 := ql BK104 hg; have NB110_104 := qg BK104 hg; replace BK101 := qb BK101 hb; replace BK102 := qb BK102 hb; replace BK104 := qb BK104 hb; have BK110 := aK hbox; clear HO_103000; have HO_103000 := n0_; clear n0_; clear HO_103001; have HO_103001 := n1_; clear n1_; clear HO108; have HO108 := n2_; clear n2_; replace HB := qs HB hb; clear hb hbox hg; have hnb43 := NB110_101.out; have hnc43 := NB101_110.out; have hnb44 := NB110_102.out; have hnc44 := NB102_110.out; have hnb45 := NB110_104.out; have hnc45 := NB104_110.out; obtain ⟨hcz46_0, hcz46_1, hfz46_0, hfz46_1⟩ := cA2 BK110; obtain ⟨Ao47, co47, eo47⟩ := Kd.R_slice HO108.out; subst eo47; obtain ⟨hcz48_0, hcz48_1, hfz48_0, hfz48_1⟩ := cA2 BK104) | (go_at_call 54; (with_reducible refine (spec_l1In.calls ((rd_T29 l0 x12_1).f0) 0 999 true _ A11.out).mono ?_); rintro e w' ⟨rfl, ⟨nd, rfl⟩⟩; (try first | exact ⟨rfl, _, World.drewN_drewN _ _ _⟩ | exact ⟨rfl, _, Eq.trans (World.drewN_drewN _ _ _) (congrArg (World.drewN _) (Nat.add_assoc _ _ _))⟩); have p112 : 0 ≤ ((ji14) : Int) := dA; have q112 : (ji14) < (l0.length : Int) := dA; obtain ⟨ad112, e112, hx112_0, hx112_1⟩ := at_T29 HR0.out (ji14) p112 q112; obtain rfl : ad103 = ad112 := (by injection e112); have hn112_0 : ad103.block ≠ gb110 := nF hx112_0 GW110; have hn112_1 : ad103.block ≠ gb110 := nF hx112_0 GW110; replace hx112_0 := uC HB hx112_0; replace hx112_1 := uC HB hx112_1; replace hx112_0 := (cell_far (p := ⟨gb110, 0, none⟩) (cB hn112_0) (.int .i64 t105)).trans hx112_0; replace hx112_1 := (cell_far (p := ⟨gb110, 0, none⟩) (cB hn112_0) (.int .i64 t105)).trans hx112_1; replace hx112_0 := (cell_far (p := ⟨gb110, 1, none⟩) (cB hn112_1) (.slice Ao47 t106.length co47)).trans hx112_0; replace hx112_1 := (cell_far (p := ⟨gb110, 1, none⟩) (cB hn112_1) (.slice Ao47 t106.length co47)).trans hx112_1; (try have hy112_0 := fun (n_ : Nat) => (show ((((w42.drewN n_).setCell ⟨gb110, 0, none⟩ (.int .i64 t105)).setCell ⟨gb110, 1, none⟩ (.slice Ao47 t106.length co47))).cell? _ = some _ from hx112_0)); (try have hy112_1 := fun (n_ : Nat) => (show ((((w42.drewN n_).setCell ⟨gb110, 0, none⟩ (.int .i64 t105)).setCell ⟨gb110, 1, none⟩ (.slice Ao47 t106.length co47))).cell? _ = some _ from hx112_1)); clear hn112_0; clear hn112_1; replace p112 := eq_true p112; replace q112 := eq_true q112; have hnb49 := NB102_101.out; have hnc49 := NB101_102.out; obtain ⟨hcz50_0, hcz50_1, hfz50_0, hfz50_1⟩ := cA2 BK102) | ((with_reducible refine gate_builtin (b := .append) (xs := #[.tmp 48, .tmp 51]) rfl ?_); at_builtin; refine Kd.R_append (Kd.int .i64) (w0 := w) w.heap.size rfl (.tmp 48) (.tmp 51) 58 3 (.int .i64 0) 8 rfl Tryz.underlying58 info3 rfl (by decide) (by omega) u103000 x103000_1 ((rd_T29 l0 x12_1).f0) [.int .i64 ((rd_T29 l0 x12_1).f0)] (fun _ => True) (fun _ => False) rfl (by first | (go_simp; done) | (go_simp; rfl)) ?aP (fun _ hk => hk.elim) ?aF ?aO ?aB ?aS ?aL ?_; (case aP => exact rfl); (case aB => exact (pH HB)); (case aF => exact (fun _ _ => trivial)); (case aO => exact (rW HO_103000 BK110)); (case aS => exact (below_size (pH HB))); (case aL => have := LMc35.out; omega); intro v114 w51 ho hb hg hat; rw [← Ny113.out] at ho; have n_ := aJ (aM (Kd.R_over' (rX HO_103001) (Kd.R_typed (rY HO_103000 BK110)) (by decide) hg)) (aJ (bG BK101 hg (Kd.R_ne HO_103000.out BK101.out (by decide))) (aJ (bG BK102 hg (Kd.R_ne HO_103000.out BK102.out (by decide))) (aJ (bG BK104 hg (Kd.R_ne HO_103000.out BK104.out (by decide))) (aJ (aM (Kd.R_over' (rX HO108) (Kd.R_typed (rY HO_103000 BK110)) (by decide) hg)) (aJ (aM (blk_grown (g := gb110) (o := .cells #[.int .i64 t105, .slice Ao47 t106.length co47] 55 (0, 0)) (bP BK110) hg (Kd.R_ne HO_103000.out BK110.out (by decide)))) (aJ (aM (hb)) (aM (ho)))))))); clear HO_103001 BK101 BK102 BK104 HO108 BK110 HB HO_103000; obtain ⟨HO_103001, BK101, BK102, BK104, HO108, BK110, HB, HO115⟩ := n_; clear ho hb hg hat; obtain ⟨Ao52, co52, eo52⟩ := Kd.R_slice HO115.out; subst eo52; obtain ⟨hcz53_0, hcz53_1, hfz53_0, hfz53_1⟩ := cA2 BK102) | ((with_reducible refine gate_store (t := 58) (p := 53) rfl ?_); (try (rw [drewN_self w51]; generalize hq_ : World.drewN w51 _ = w51; have n_ := aJ (aM (Kd.R_at hq_ HO_103001.out)) (aJ (aM (Kd.R_at hq_ HO108.out)) (aJ (aM (Kd.R_at hq_ HO115.out)) (aJ (aM (blk_at hq_ BK101.out)) (aJ (aM (blk_at hq_ BK102.out)) (aJ (aM (blk_at hq_ BK104.out)) (aJ (aM (blk_at hq_ BK110.out)) (aM (below_at hq_ HB.out)))))))); clear hq_ HO_103001 HO108 HO115 BK101 BK102 BK104 BK110 HB; obtain ⟨HO_103001, HO108, HO115, BK101, BK102, BK104, BK110, HB⟩ := n_)); refine store_event (t := 58) (p := 53) (v := ?vo_w54) (w1 := (w51.setCell ⟨gb102, 0, none⟩ (.slice Ao52 y113.length co52))) ?hg ?ho ?hn ?hr ?_; (case ho => rfl); (case hg => rfl); (case hn => rfl); (case hr => first | (go_simp; done) | (go_simp; rfl)); intro w54 hw; have n_ := aJ (show Aside0 (Kd.R k55 55 w54 w.heap.size (fun k_ => nS k_ Ao47 t106 co47 ∧ k_ ≠ gb110) u103001 x103001_1) from ⟨(by rw [hw]; exact (rW HO_103001 BK102))⟩) (aJ (show Aside0 (Kd.R k55 55 w54 w.heap.size (fun k_ => some k_ ≠ (u103001 : Value).ownBlock ∧ k_ ≠ gb110) (.slice Ao47 t106.length co47) t106) from ⟨(by rw [hw]; exact (rW HO108 BK102))⟩) (aJ (show Aside0 (Kd.R (Kd.int .i64) 3 w54 w.heap.size (fun _ => True) (.slice Ao52 y113.length co52) y113) from ⟨(by rw [hw]; exact (rW HO115 BK102))⟩) (aJ (show Aside0 (w54.heap[gb101]? = some (.cells #[.slice none 0 0, .slice none 0 0] 60 (0, 0))) from ⟨(by rw [hw]; exact (bY BK101))⟩) (aJ (show Aside0 (w54.heap[gb102]? = some (.cells #[.slice Ao52 y113.length co52, u103001] 60 (0, 0))) from ⟨(by rw [hw]; exact (bP BK102))⟩) (aJ (show Aside0 (w54.heap[gb104]? = some (.cells #[.int .i64 ((rd_T29 l0 x12_1).f0), .string ((rd_T29 l0 x12_1).f1)] 29 (0, 0))) from ⟨(by rw [hw]; exact (bY BK104))⟩) (aJ (show Aside0 (w54.heap[gb110]? = some (.cells #[.int .i64 t105, .slice Ao47 t106.length co47] 55 (0, 0))) from ⟨(by rw [hw]; exact (bY BK110))⟩) (show Aside0 (Below w.heap.size w w54) from ⟨(by rw [hw]; exact (pH HB))⟩))))))); clear hw HO_103001 HO108 HO115 BK101 BK102 BK104 BK110 HB; obtain ⟨HO_103001, HO108, HO115, BK101, BK102, BK104, BK110, HB⟩ := n_; obtain ⟨hcz55_0, hcz55_1, hfz55_0, hfz55_1⟩ := cA2 BK102; obtain ⟨hcz56_0, hcz56_1, hfz56_0, hfz56_1⟩ := cA2 BK110) | ((with_reducible refine gate_builtin (b := .append) (xs := #[.tmp 55, .tmp 57]) rfl ?_); at_builtin; refine Kd.R_append k55 (w0 := w) w.heap.size rfl (.tmp 55) (.tmp 57) 53 55 (.agg #[(.int .i64 0), (.slice none 0 0)]) 32 rfl Tryz.underlying53 info55 rfl (by decide) (by omega) u103001 x103001_1 (⟨t105, t106⟩ : S55) [.int .i64 t105, .slice Ao47 t106.length co47] (fun k_ => k_ ≠ gb110) (fun k_ => ((fun k_ => k_ ≠ gb110)) k_ ∧ some k_ ≠ (u103001 : Value).ownBlock) rfl rfl ?aP (fun _ hk => hk) ?aF ?aO ?aB ?aS ?aL ?_; (case aP => exact k55_mkM _ _ _ (⟨t105, t106⟩ : S55) (Kd.R_mono (HO108.out) (fun k_ hk => ⟨hk.2, hk.1⟩))); (case aB => exact (pH HB)); (case aF => exact (fun k_ hk => Kd.freshB BK110.out k_ hk)); (case aO => exact (rZ HO_103001)); (case aS => exact (below_size (pH HB))); (case aL => have := LMc36.out; omega); intro v117 w57 ho hb hg hat; rw [← Ny116.out] at ho; have n0_ := aK (blk_grown BK101.out hg (Kd.R_ne HO_103001.out BK101.out (by decide))); have n1_ := aK (blk_grown BK102.out hg (Kd.R_ne HO_103001.out BK102.out (by decide))); have n2_ := aK (blk_grown BK104.out hg (Kd.R_ne HO_103001.out BK104.out (by decide))); have n3_ := aK (blk_grown BK110.out hg (Kd.R_away HO_103001.out (fun _ hk => hk.2))); have n4_ := aK (Kd.R_over' HO115.out (Kd.R_typed HO_103001.out) (by decide) hg); have n5_ := aK (hb); have HO118 := aK (ho); clear BK101; have BK101 := n0_; clear n0_; clear BK102; have BK102 := n1_; clear n1_; clear BK104; have BK104 := n2_; clear n2_; clear BK110; have BK110 := n3_; clear n3_; clear HO115; have HO115 := n4_; clear n4_; clear HB; have HB := n5_; clear n5_; clear HO_103001; clear HO108; clear ho hb hg hat; obtain ⟨Ao58, co58, eo58⟩ := Kd.R_slice HO118.out; subst eo58; obtain ⟨hcz59_0, hcz59_1, hfz59_0, hfz59_1⟩ := cA2 BK102))
              repeat (go_quiet (first | ((with_reducible refine gate_dst (N := 6) rfl ?_); refine box_event ?hg (N := 6) ?hd (cs := #[.int .i64 0, .string (⟨#[]⟩ : ByteArray)]) (t := 29) ?hr ?_; (case hd => rfl); (case hg => rfl); (case hr => go_simp); intro gb104 hg w37 hbox hb; have n0_ := aK (Kd.R_below HO_103000.out hb); have n1_ := aK (Kd.R_below HO_103001.out hb); have GW104 := qw HB hg; have GE104 := qw HB hg; have NB101_104 := ql BK101 hg; have NB104_101 := qg BK101 hg; have NB102_104 := ql BK102 hg; have NB104_102 := qg BK102 hg; replace BK101 := qb BK101 hb; replace BK102 := qb BK102 hb; have BK104 := aK hbox; clear HO_103000; have HO_103000 := n0_; clear n0_; clear HO_103001; have HO_103001 := n1_; clear n1_; replace HB := qs HB hb; clear hb hbox hg; have hnb38 := NB104_101.out; have hnc38 := NB101_104.out; have hnb39 := NB104_102.out; have hnc39 := NB102_104.out; obtain ⟨hcz40_0, hcz40_1, hfz40_0, hfz40_1⟩ := cA2 BK104) | (go_at_call 20; (with_reducible refine (spec_leOf.calls k1 ((rd_T29 l0 x12_1).f1) t105 t106 true _ A9.out).mono ?_); rintro e w41 ⟨v107, rfl, ho0, hb⟩; have n_ := aJ (aM (Kd.R_below (rY HO_103000 BK104) hb)) (aJ (aM (Kd.R_elder' (rY HO_103001 BK104) (Kd.R_base ho0) hb)) (aJ (aM (Kd.R_lower (Kd.R_new' ho0 (Kd.R_lt (rY HO_103001 BK104))) (below_size (pH HB)))) (aJ (bB BK101 hb) (aJ (bB BK102 hb) (aJ (aM (blk_below (g := gb104) (o := .cells #[.int .i64 ((rd_T29 l0 x12_1).f0), .string ((rd_T29 l0 x12_1).f1)] 29 (0, 0)) (bP BK104) hb)) (aM (below_step (pH HB) hb))))))); clear HO_103000 HO_103001 BK101 BK102 BK104 HB; obtain ⟨HO_103000, HO_103001, HO108, BK101, BK102, BK104, HB⟩ := n_; (try clear hb); (try clear ho0)) | ((with_reducible refine gate_dst (N := 7) rfl ?_); refine bE (N := 7) (cs := #[.int .i64 0, .slice none 0 0]) (t := 55) ?_; intro gb110 hg w42 hbox hb; have n0_ := aK (Kd.R_below HO_103000.out hb); have n1_ := aK (Kd.R_below (Kd.R_elderB HO_103001.out gb110 (Nat.le_of_eq hg.symm)) hb); have n2_ := aK (Kd.R_below (Kd.R_elderB HO108.out gb110 (Nat.le_of_eq hg.symm)) hb); have GW110 := qw HB hg; have GE110 := qw HB hg; have NB101_110 := ql BK101 hg; have NB110_101 := qg BK101 hg; have NB102_110 := ql BK102 hg; have NB110_102 := qg BK102 hg; have NB104_110 := ql BK104 hg; have NB110_104 := qg BK104 hg; replace BK101 := qb BK101 hb; replace BK102 := qb BK102 hb; replace BK104 := qb BK104 hb; have BK110 := aK hbox; clear HO_103000; have HO_103000 := n0_; clear n0_; clear HO_103001; have HO_103001 := n1_; clear n1_; clear HO108; have HO108 := n2_; clear n2_; replace HB := qs HB hb; clear hb hbox hg; have hnb43 := NB110_101.out; have hnc43 := NB101_110.out; have hnb44 := NB110_102.out; have hnc44 := NB102_110.out; have hnb45 := NB110_104.out; have hnc45 := NB104_110.out; obtain ⟨hcz46_0, hcz46_1, hfz46_0, hfz46_1⟩ := cA2 BK110; obtain ⟨Ao47, co47, eo47⟩ := Kd.R_slice HO108.out; subst eo47; obtain ⟨hcz48_0, hcz48_1, hfz48_0, hfz48_1⟩ := cA2 BK104) | (go_at_call 54; (with_reducible refine (spec_l1In.calls ((rd_T29 l0 x12_1).f0) 0 999 true _ A11.out).mono ?_); rintro e w' ⟨rfl, ⟨nd, rfl⟩⟩; (try first | exact ⟨rfl, _, World.drewN_drewN _ _ _⟩ | exact ⟨rfl, _, Eq.trans (World.drewN_drewN _ _ _) (congrArg (World.drewN _) (Nat.add_assoc _ _ _))⟩); have p112 : 0 ≤ ((ji14) : Int) := dA; have q112 : (ji14) < (l0.length : Int) := dA; obtain ⟨ad112, e112, hx112_0, hx112_1⟩ := at_T29 HR0.out (ji14) p112 q112; obtain rfl : ad103 = ad112 := (by injection e112); have hn112_0 : ad103.block ≠ gb110 := nF hx112_0 GW110; have hn112_1 : ad103.block ≠ gb110 := nF hx112_0 GW110; replace hx112_0 := uC HB hx112_0; replace hx112_1 := uC HB hx112_1; replace hx112_0 := (cell_far (p := ⟨gb110, 0, none⟩) (cB hn112_0) (.int .i64 t105)).trans hx112_0; replace hx112_1 := (cell_far (p := ⟨gb110, 0, none⟩) (cB hn112_0) (.int .i64 t105)).trans hx112_1; replace hx112_0 := (cell_far (p := ⟨gb110, 1, none⟩) (cB hn112_1) (.slice Ao47 t106.length co47)).trans hx112_0; replace hx112_1 := (cell_far (p := ⟨gb110, 1, none⟩) (cB hn112_1) (.slice Ao47 t106.length co47)).trans hx112_1; (try have hy112_0 := fun (n_ : Nat) => (show ((((w42.drewN n_).setCell ⟨gb110, 0, none⟩ (.int .i64 t105)).setCell ⟨gb110, 1, none⟩ (.slice Ao47 t106.length co47))).cell? _ = some _ from hx112_0)); (try have hy112_1 := fun (n_ : Nat) => (show ((((w42.drewN n_).setCell ⟨gb110, 0, none⟩ (.int .i64 t105)).setCell ⟨gb110, 1, none⟩ (.slice Ao47 t106.length co47))).cell? _ = some _ from hx112_1)); clear hn112_0; clear hn112_1; replace p112 := eq_true p112; replace q112 := eq_true q112; have hnb49 := NB102_101.out; have hnc49 := NB101_102.out; obtain ⟨hcz50_0, hcz50_1, hfz50_0, hfz50_1⟩ := cA2 BK102) | ((with_reducible refine gate_builtin (b := .append) (xs := #[.tmp 48, .tmp 51]) rfl ?_); at_builtin; refine Kd.R_append (Kd.int .i64) (w0 := w) w.heap.size rfl (.tmp 48) (.tmp 51) 58 3 (.int .i64 0) 8 rfl Tryz.underlying58 info3 rfl (by decide) (by omega) u103000 x103000_1 ((rd_T29 l0 x12_1).f0) [.int .i64 ((rd_T29 l0 x12_1).f0)] (fun _ => True) (fun _ => False) rfl (by first | (go_simp; done) | (go_simp; rfl)) ?aP (fun _ hk => hk.elim) ?aF ?aO ?aB ?aS ?aL ?_; (case aP => exact rfl); (case aB => exact (pH HB)); (case aF => exact (fun _ _ => trivial)); (case aO => exact (rW HO_103000 BK110)); (case aS => exact (below_size (pH HB))); (case aL => have := LMc35.out; omega); intro v114 w51 ho hb hg hat; rw [← Ny113.out] at ho; have n_ := aJ (aM (Kd.R_over' (rX HO_103001) (Kd.R_typed (rY HO_103000 BK110)) (by decide) hg)) (aJ (bG BK101 hg (Kd.R_ne HO_103000.out BK101.out (by decide))) (aJ (bG BK102 hg (Kd.R_ne HO_103000.out BK102.out (by decide))) (aJ (bG BK104 hg (Kd.R_ne HO_103000.out BK104.out (by decide))) (aJ (aM (Kd.R_over' (rX HO108) (Kd.R_typed (rY HO_103000 BK110)) (by decide) hg)) (aJ (aM (blk_grown (g := gb110) (o := .cells #[.int .i64 t105, .slice Ao47 t106.length co47] 55 (0, 0)) (bP BK110) hg (Kd.R_ne HO_103000.out BK110.out (by decide)))) (aJ (aM (hb)) (aM (ho)))))))); clear HO_103001 BK101 BK102 BK104 HO108 BK110 HB HO_103000; obtain ⟨HO_103001, BK101, BK102, BK104, HO108, BK110, HB, HO115⟩ := n_; clear ho hb hg hat; obtain ⟨Ao52, co52, eo52⟩ := Kd.R_slice HO115.out; subst eo52; obtain ⟨hcz53_0, hcz53_1, hfz53_0, hfz53_1⟩ := cA2 BK102) | ((with_reducible refine gate_store (t := 58) (p := 53) rfl ?_); (try (rw [drewN_self w51]; generalize hq_ : World.drewN w51 _ = w51; have n_ := aJ (aM (Kd.R_at hq_ HO_103001.out)) (aJ (aM (Kd.R_at hq_ HO108.out)) (aJ (aM (Kd.R_at hq_ HO115.out)) (aJ (aM (blk_at hq_ BK101.out)) (aJ (aM (blk_at hq_ BK102.out)) (aJ (aM (blk_at hq_ BK104.out)) (aJ (aM (blk_at hq_ BK110.out)) (aM (below_at hq_ HB.out)))))))); clear hq_ HO_103001 HO108 HO115 BK101 BK102 BK104 BK110 HB; obtain ⟨HO_103001, HO108, HO115, BK101, BK102, BK104, BK110, HB⟩ := n_)); refine store_event (t := 58) (p := 53) (v := ?vo_w54) (w1 := (w51.setCell ⟨gb102, 0, none⟩ (.slice Ao52 y113.length co52))) ?hg ?ho ?hn ?hr ?_; (case ho => rfl); (case hg => rfl); (case hn => rfl); (case hr => first | (go_simp; done) | (go_simp; rfl)); intro w54 hw; have n_ := aJ (show Aside0 (Kd.R k55 55 w54 w.heap.size (fun k_ => nS k_ Ao47 t106 co47 ∧ k_ ≠ gb110) u103001 x103001_1) from ⟨(by rw [hw]; exact (rW HO_103001 BK102))⟩) (aJ (show Aside0 (Kd.R k55 55 w54 w.heap.size (fun k_ => some k_ ≠ (u103001 : Value).ownBlock ∧ k_ ≠ gb110) (.slice Ao47 t106.length co47) t106) from ⟨(by rw [hw]; exact (rW HO108 BK102))⟩) (aJ (show Aside0 (Kd.R (Kd.int .i64) 3 w54 w.heap.size (fun _ => True) (.slice Ao52 y113.length co52) y113) from ⟨(by rw [hw]; exact (rW HO115 BK102))⟩) (aJ (show Aside0 (w54.heap[gb101]? = some (.cells #[.slice none 0 0, .slice none 0 0] 60 (0, 0))) from ⟨(by rw [hw]; exact (bY BK101))⟩) (aJ (show Aside0 (w54.heap[gb102]? = some (.cells #[.slice Ao52 y113.length co52, u103001] 60 (0, 0))) from ⟨(by rw [hw]; exact (bP BK102))⟩) (aJ (show Aside0 (w54.heap[gb104]? = some (.cells #[.int .i64 ((rd_T29 l0 x12_1).f0), .string ((rd_T29 l0 x12_1).f1)] 29 (0, 0))) from ⟨(by rw [hw]; exact (bY BK104))⟩) (aJ (show Aside0 (w54.heap[gb110]? = some (.cells #[.int .i64 t105, .slice Ao47 t106.length co47] 55 (0, 0))) from ⟨(by rw [hw]; exact (bY BK110))⟩) (show Aside0 (Below w.heap.size w w54) from ⟨(by rw [hw]; exact (pH HB))⟩))))))); clear hw HO_103001 HO108 HO115 BK101 BK102 BK104 BK110 HB; obtain ⟨HO_103001, HO108, HO115, BK101, BK102, BK104, BK110, HB⟩ := n_; obtain ⟨hcz55_0, hcz55_1, hfz55_0, hfz55_1⟩ := cA2 BK102; obtain ⟨hcz56_0, hcz56_1, hfz56_0, hfz56_1⟩ := cA2 BK110) | ((with_reducible refine gate_builtin (b := .append) (xs := #[.tmp 55, .tmp 57]) rfl ?_); at_builtin; refine Kd.R_append k55 (w0 := w) w.heap.size rfl (.tmp 55) (.tmp 57) 53 55 (.agg #[(.int .i64 0), (.slice none 0 0)]) 32 rfl Tryz.underlying53 info55 rfl (by decide) (by omega) u103001 x103001_1 (⟨t105, t106⟩ : S55) [.int .i64 t105, .slice Ao47 t106.length co47] (fun k_ => k_ ≠ gb110) (fun k_ => ((fun k_ => k_ ≠ gb110)) k_ ∧ some k_ ≠ (u103001 : Value).ownBlock) rfl rfl ?aP (fun _ hk => hk) ?aF ?aO ?aB ?aS ?aL ?_; (case aP => exact k55_mkM _ _ _ (⟨t105, t106⟩ : S55) (Kd.R_mono (HO108.out) (fun k_ hk => ⟨hk.2, hk.1⟩))); (case aB => exact (pH HB)); (case aF => exact (fun k_ hk => Kd.freshB BK110.out k_ hk)); (case aO => exact (rZ HO_103001)); (case aS => exact (below_size (pH HB))); (case aL => have := LMc36.out; omega); intro v117 w57 ho hb hg hat; rw [← Ny116.out] at ho; have n0_ := aK (blk_grown BK101.out hg (Kd.R_ne HO_103001.out BK101.out (by decide))); have n1_ := aK (blk_grown BK102.out hg (Kd.R_ne HO_103001.out BK102.out (by decide))); have n2_ := aK (blk_grown BK104.out hg (Kd.R_ne HO_103001.out BK104.out (by decide))); have n3_ := aK (blk_grown BK110.out hg (Kd.R_away HO_103001.out (fun _ hk => hk.2))); have n4_ := aK (Kd.R_over' HO115.out (Kd.R_typed HO_103001.out) (by decide) hg); have n5_ := aK (hb); have HO118 := aK (ho); clear BK101; have BK101 := n0_; clear n0_; clear BK102; have BK102 := n1_; clear n1_; clear BK104; have BK104 := n2_; clear n2_; clear BK110; have BK110 := n3_; clear n3_; clear HO115; have HO115 := n4_; clear n4_; clear HB; have HB := n5_; clear n5_; clear HO_103001; clear HO108; clear ho hb hg hat; obtain ⟨Ao58, co58, eo58⟩ := Kd.R_slice HO118.out; subst eo58; obtain ⟨hcz59_0, hcz59_1, hfz59_0, hfz59_1⟩ := cA2 BK102)); try go_wp2_with (first | ((with_reducible refine gate_dst (N := 6) rfl ?_); refine box_event ?hg (N := 6) ?hd (cs := #[.int .i64 0, .string (⟨#[]⟩ : ByteArray)]) (t := 29) ?hr ?_; (case hd => rfl); (case hg => rfl); (case hr => go_simp); intro gb104 hg w37 hbox hb; have n0_ := aK (Kd.R_below HO_103000.out hb); have n1_ := aK (Kd.R_below HO_103001.out hb); have GW104 := qw HB hg; have GE104 := qw HB hg; have NB101_104 := ql BK101 hg; have NB104_101 := qg BK101 hg; have NB102_104 := ql BK102 hg; have NB104_102 := qg BK102 hg; replace BK101 := qb BK101 hb; replace BK102 := qb BK102 hb; have BK104 := aK hbox; clear HO_103000; have HO_103000 := n0_; clear n0_; clear HO_103001; have HO_103001 := n1_; clear n1_; replace HB := qs HB hb; clear hb hbox hg; have hnb38 := NB104_101.out; have hnc38 := NB101_104.out; have hnb39 := NB104_102.out; have hnc39 := NB102_104.out; obtain ⟨hcz40_0, hcz40_1, hfz40_0, hfz40_1⟩ := cA2 BK104) | (go_at_call 20; (with_reducible refine (spec_leOf.calls k1 ((rd_T29 l0 x12_1).f1) t105 t106 true _ A9.out).mono ?_); rintro e w41 ⟨v107, rfl, ho0, hb⟩; have n_ := aJ (aM (Kd.R_below (rY HO_103000 BK104) hb)) (aJ (aM (Kd.R_elder' (rY HO_103001 BK104) (Kd.R_base ho0) hb)) (aJ (aM (Kd.R_lower (Kd.R_new' ho0 (Kd.R_lt (rY HO_103001 BK104))) (below_size (pH HB)))) (aJ (bB BK101 hb) (aJ (bB BK102 hb) (aJ (aM (blk_below (g := gb104) (o := .cells #[.int .i64 ((rd_T29 l0 x12_1).f0), .string ((rd_T29 l0 x12_1).f1)] 29 (0, 0)) (bP BK104) hb)) (aM (below_step (pH HB) hb))))))); clear HO_103000 HO_103001 BK101 BK102 BK104 HB; obtain ⟨HO_103000, HO_103001, HO108, BK101, BK102, BK104, HB⟩ := n_; (try clear hb); (try clear ho0)) | ((with_reducible refine gate_dst (N := 7) rfl ?_); refine bE (N := 7) (cs := #[.int .i64 0, .slice none 0 0]) (t := 55) ?_; intro gb110 hg w42 hbox hb; have n0_ := aK (Kd.R_below HO_103000.out hb); have n1_ := aK (Kd.R_below (Kd.R_elderB HO_103001.out gb110 (Nat.le_of_eq hg.symm)) hb); have n2_ := aK (Kd.R_below (Kd.R_elderB HO108.out gb110 (Nat.le_of_eq hg.symm)) hb); have GW110 := qw HB hg; have GE110 := qw HB hg; have NB101_110 := ql BK101 hg; have NB110_101 := qg BK101 hg; have NB102_110 := ql BK102 hg; have NB110_102 := qg BK102 hg; have NB104_110 := ql BK104 hg; have NB110_104 := qg BK104 hg; replace BK101 := qb BK101 hb; replace BK102 := qb BK102 hb; replace BK104 := qb BK104 hb; have BK110 := aK hbox; clear HO_103000; have HO_103000 := n0_; clear n0_; clear HO_103001; have HO_103001 := n1_; clear n1_; clear HO108; have HO108 := n2_; clear n2_; replace HB := qs HB hb; clear hb hbox hg; have hnb43 := NB110_101.out; have hnc43 := NB101_110.out; have hnb44 := NB110_102.out; have hnc44 := NB102_110.out; have hnb45 := NB110_104.out; have hnc45 := NB104_110.out; obtain ⟨hcz46_0, hcz46_1, hfz46_0, hfz46_1⟩ := cA2 BK110; obtain ⟨Ao47, co47, eo47⟩ := Kd.R_slice HO108.out; subst eo47; obtain ⟨hcz48_0, hcz48_1, hfz48_0, hfz48_1⟩ := cA2 BK104) | (go_at_call 54; (with_reducible refine (spec_l1In.calls ((rd_T29 l0 x12_1).f0) 0 999 true _ A11.out).mono ?_); rintro e w' ⟨rfl, ⟨nd, rfl⟩⟩; (try first | exact ⟨rfl, _, World.drewN_drewN _ _ _⟩ | exact ⟨rfl, _, Eq.trans (World.drewN_drewN _ _ _) (congrArg (World.drewN _) (Nat.add_assoc _ _ _))⟩); have p112 : 0 ≤ ((ji14) : Int) := dA; have q112 : (ji14) < (l0.length : Int) := dA; obtain ⟨ad112, e112, hx112_0, hx112_1⟩ := at_T29 HR0.out (ji14) p112 q112; obtain rfl : ad103 = ad112 := (by injection e112); have hn112_0 : ad103.block ≠ gb110 := nF hx112_0 GW110; have hn112_1 : ad103.block ≠ gb110 := nF hx112_0 GW110; replace hx112_0 := uC HB hx112_0; replace hx112_1 := uC HB hx112_1; replace hx112_0 := (cell_far (p := ⟨gb110, 0, none⟩) (cB hn112_0) (.int .i64 t105)).trans hx112_0; replace hx112_1 := (cell_far (p := ⟨gb110, 0, none⟩) (cB hn112_0) (.int .i64 t105)).trans hx112_1; replace hx112_0 := (cell_far (p := ⟨gb110, 1, none⟩) (cB hn112_1) (.slice Ao47 t106.length co47)).trans hx112_0; replace hx112_1 := (cell_far (p := ⟨gb110, 1, none⟩) (cB hn112_1) (.slice Ao47 t106.length co47)).trans hx112_1; (try have hy112_0 := fun (n_ : Nat) => (show ((((w42.drewN n_).setCell ⟨gb110, 0, none⟩ (.int .i64 t105)).setCell ⟨gb110, 1, none⟩ (.slice Ao47 t106.length co47))).cell? _ = some _ from hx112_0)); (try have hy112_1 := fun (n_ : Nat) => (show ((((w42.drewN n_).setCell ⟨gb110, 0, none⟩ (.int .i64 t105)).setCell ⟨gb110, 1, none⟩ (.slice Ao47 t106.length co47))).cell? _ = some _ from hx112_1)); clear hn112_0; clear hn112_1; replace p112 := eq_true p112; replace q112 := eq_true q112; have hnb49 := NB102_101.out; have hnc49 := NB101_102.out; obtain ⟨hcz50_0, hcz50_1, hfz50_0, hfz50_1⟩ := cA2 BK102) | ((with_reducible refine gate_builtin (b := .append) (xs := #[.tmp 48, .tmp 51]) rfl ?_); at_builtin; refine Kd.R_append (Kd.int .i64) (w0 := w) w.heap.size rfl (.tmp 48) (.tmp 51) 58 3 (.int .i64 0) 8 rfl Tryz.underlying58 info3 rfl (by decide) (by omega) u103000 x103000_1 ((rd_T29 l0 x12_1).f0) [.int .i64 ((rd_T29 l0 x12_1).f0)] (fun _ => True) (fun _ => False) rfl (by first | (go_simp; done) | (go_simp; rfl)) ?aP (fun _ hk => hk.elim) ?aF ?aO ?aB ?aS ?aL ?_; (case aP => exact rfl); (case aB => exact (pH HB)); (case aF => exact (fun _ _ => trivial)); (case aO => exact (rW HO_103000 BK110)); (case aS => exact (below_size (pH HB))); (case aL => have := LMc35.out; omega); intro v114 w51 ho hb hg hat; rw [← Ny113.out] at ho; have n_ := aJ (aM (Kd.R_over' (rX HO_103001) (Kd.R_typed (rY HO_103000 BK110)) (by decide) hg)) (aJ (bG BK101 hg (Kd.R_ne HO_103000.out BK101.out (by decide))) (aJ (bG BK102 hg (Kd.R_ne HO_103000.out BK102.out (by decide))) (aJ (bG BK104 hg (Kd.R_ne HO_103000.out BK104.out (by decide))) (aJ (aM (Kd.R_over' (rX HO108) (Kd.R_typed (rY HO_103000 BK110)) (by decide) hg)) (aJ (aM (blk_grown (g := gb110) (o := .cells #[.int .i64 t105, .slice Ao47 t106.length co47] 55 (0, 0)) (bP BK110) hg (Kd.R_ne HO_103000.out BK110.out (by decide)))) (aJ (aM (hb)) (aM (ho)))))))); clear HO_103001 BK101 BK102 BK104 HO108 BK110 HB HO_103000; obtain ⟨HO_103001, BK101, BK102, BK104, HO108, BK110, HB, HO115⟩ := n_; clear ho hb hg hat; obtain ⟨Ao52, co52, eo52⟩ := Kd.R_slice HO115.out; subst eo52; obtain ⟨hcz53_0, hcz53_1, hfz53_0, hfz53_1⟩ := cA2 BK102) | ((with_reducible refine gate_store (t := 58) (p := 53) rfl ?_); (try (rw [drewN_self w51]; generalize hq_ : World.drewN w51 _ = w51; have n_ := aJ (aM (Kd.R_at hq_ HO_103001.out)) (aJ (aM (Kd.R_at hq_ HO108.out)) (aJ (aM (Kd.R_at hq_ HO115.out)) (aJ (aM (blk_at hq_ BK101.out)) (aJ (aM (blk_at hq_ BK102.out)) (aJ (aM (blk_at hq_ BK104.out)) (aJ (aM (blk_at hq_ BK110.out)) (aM (below_at hq_ HB.out)))))))); clear hq_ HO_103001 HO108 HO115 BK101 BK102 BK104 BK110 HB; obtain ⟨HO_103001, HO108, HO115, BK101, BK102, BK104, BK110, HB⟩ := n_)); refine store_event (t := 58) (p := 53) (v := ?vo_w54) (w1 := (w51.setCell ⟨gb102, 0, none⟩ (.slice Ao52 y113.length co52))) ?hg ?ho ?hn ?hr ?_; (case ho => rfl); (case hg => rfl); (case hn => rfl); (case hr => first | (go_simp; done) | (go_simp; rfl)); intro w54 hw; have n_ := aJ (show Aside0 (Kd.R k55 55 w54 w.heap.size (fun k_ => nS k_ Ao47 t106 co47 ∧ k_ ≠ gb110) u103001 x103001_1) from ⟨(by rw [hw]; exact (rW HO_103001 BK102))⟩) (aJ (show Aside0 (Kd.R k55 55 w54 w.heap.size (fun k_ => some k_ ≠ (u103001 : Value).ownBlock ∧ k_ ≠ gb110) (.slice Ao47 t106.length co47) t106) from ⟨(by rw [hw]; exact (rW HO108 BK102))⟩) (aJ (show Aside0 (Kd.R (Kd.int .i64) 3 w54 w.heap.size (fun _ => True) (.slice Ao52 y113.length co52) y113) from ⟨(by rw [hw]; exact (rW HO115 BK102))⟩) (aJ (show Aside0 (w54.heap[gb101]? = some (.cells #[.slice none 0 0, .slice none 0 0] 60 (0, 0))) from ⟨(by rw [hw]; exact (bY BK101))⟩) (aJ (show Aside0 (w54.heap[gb102]? = some (.cells #[.slice Ao52 y113.length co52, u103001] 60 (0, 0))) from ⟨(by rw [hw]; exact (bP BK102))⟩) (aJ (show Aside0 (w54.heap[gb104]? = some (.cells #[.int .i64 ((rd_T29 l0 x12_1).f0), .string ((rd_T29 l0 x12_1).f1)] 29 (0, 0))) from ⟨(by rw [hw]; exact (bY BK104))⟩) (aJ (show Aside0 (w54.heap[gb110]? = some (.cells #[.int .i64 t105, .slice Ao47 t106.length co47] 55 (0, 0))) from ⟨(by rw [hw]; exact (bY BK110))⟩) (show Aside0 (Below w.heap.size w w54) from ⟨(by rw [hw]; exact (pH HB))⟩))))))); clear hw HO_103001 HO108 HO115 BK101 BK102 BK104 BK110 HB; obtain ⟨HO_103001, HO108, HO115, BK101, BK102, BK104, BK110, HB⟩ := n_; obtain ⟨hcz55_0, hcz55_1, hfz55_0, hfz55_1⟩ := cA2 BK102; obtain ⟨hcz56_0, hcz56_1, hfz56_0, hfz56_1⟩ := cA2 BK110) | ((with_reducible refine gate_builtin (b := .append) (xs := #[.tmp 55, .tmp 57]) rfl ?_); at_builtin; refine Kd.R_append k55 (w0 := w) w.heap.size rfl (.tmp 55) (.tmp 57) 53 55 (.agg #[(.int .i64 0), (.slice none 0 0)]) 32 rfl Tryz.underlying53 info55 rfl (by decide) (by omega) u103001 x103001_1 (⟨t105, t106⟩ : S55) [.int .i64 t105, .slice Ao47 t106.length co47] (fun k_ => k_ ≠ gb110) (fun k_ => ((fun k_ => k_ ≠ gb110)) k_ ∧ some k_ ≠ (u103001 : Value).ownBlock) rfl rfl ?aP (fun _ hk => hk) ?aF ?aO ?aB ?aS ?aL ?_; (case aP => exact k55_mkM _ _ _ (⟨t105, t106⟩ : S55) (Kd.R_mono (HO108.out) (fun k_ hk => ⟨hk.2, hk.1⟩))); (case aB => exact (pH HB)); (case aF => exact (fun k_ hk => Kd.freshB BK110.out k_ hk)); (case aO => exact (rZ HO_103001)); (case aS => exact (below_size (pH HB))); (case aL => have := LMc36.out; omega); intro v117 w57 ho hb hg hat; rw [← Ny116.out] at ho; have n0_ := aK (blk_grown BK101.out hg (Kd.R_ne HO_103001.out BK101.out (by decide))); have n1_ := aK (blk_grown BK102.out hg (Kd.R_ne HO_103001.out BK102.out (by decide))); have n2_ := aK (blk_grown BK104.out hg (Kd.R_ne HO_103001.out BK104.out (by decide))); have n3_ := aK (blk_grown BK110.out hg (Kd.R_away HO_103001.out (fun _ hk => hk.2))); have n4_ := aK (Kd.R_over' HO115.out (Kd.R_typed HO_103001.out) (by decide) hg); have n5_ := aK (hb); have HO118 := aK (ho); clear BK101; have BK101 := n0_; clear n0_; clear BK102; have BK102 := n1_; clear n1_; clear BK104; have BK104 := n2_; clear n2_; clear BK110; have BK110 := n3_; clear n3_; clear HO115; have HO115 := n4_; clear n4_; clear HB; have HB := n5_; clear n5_; clear HO_103001; clear HO108; clear ho hb hg hat; obtain ⟨Ao58, co58, eo58⟩ := Kd.R_slice HO118.out; subst eo58; obtain ⟨hcz59_0, hcz59_1, hfz59_0, hfz59_1⟩ := cA2 BK102)))
              go_roundg k1
              case measure => have := HK1.out; omega
              case rel => exact ⟨(wrap64 (x12_1 + 1)), (y113), (y116), (.slice Ao52 y113.length co52), (.slice Ao58 y116.length co58), rS, H', ⟨by have := HK1.out; omega⟩, ⟨rW HO115 BK102⟩, ⟨rW HO118 BK102⟩, ⟨bY BK101⟩, ⟨bP BK102⟩, ⟨pH HB⟩⟩
             ·rw [if_neg c36] at H
              exact absurd H (by simp)
            ·rw [if_neg c35] at H
             exact absurd H (by simp)
          ·rw [if_neg c16] at H
           exact absurd H (by simp)
         ·rw [if_neg c15] at H
          exact absurd H (by simp)
        ·rw [if_neg c13] at H
         have c13b0 : decide (0 < x12_1) = false := decide_eq_false c13
         clear c13
         by_cases c60 : x103000_1.length < 17592186044416
         ·rw [if_pos c60] at H
          have LMc60 := aM c60
          clear c60
          obtain ⟨y119, hy119⟩ : ∃ y_ : List Int, y_ = (x103000_1 ++ [(rd_T29 l0 x12_1).f0]) := ⟨_, rfl⟩
          replace H : (if x103001_1.length < 4398046511104 then (spec_leBinds.l0 k1 l0 l0 (l0.length : Int) (wrap64 (x12_1 + 1)) y119 (x103001_1 ++ [(⟨t105, t106⟩ : S55)])) else (none)) = some (r1, r2, r3) := by first | (rw [hy119]; with_reducible exact H) | (have H2_ := (Option.bind_some _ _).symm.trans H; rw [hy119]; with_reducible exact H2_) | (have H2_ := (Option.bind_some _ _).symm.trans H; with_reducible exact H2_) | with_reducible exact H | (rw [hy119]; exact H) | exact H
          have Ny119 := aM hy119
          clear hy119
          by_cases c61 : x103001_1.length < 4398046511104
          ·rw [if_pos c61] at H
           have LMc61 := aM c61
           clear c61
           obtain ⟨y122, hy122⟩ : ∃ y_ : List (S55), y_ = (x103001_1 ++ [(⟨t105, t106⟩ : S55)]) := ⟨_, rfl⟩
           replace H : (spec_leBinds.l0 k1 l0 l0 (l0.length : Int) (wrap64 (x12_1 + 1)) y119 y122) = some (r1, r2, r3) := by first | (rw [hy122]; with_reducible exact H) | (have H2_ := (Option.bind_some _ _).symm.trans H; rw [hy122]; with_reducible exact H2_) | (have H2_ := (Option.bind_some _ _).symm.trans H; with_reducible exact H2_) | with_reducible exact H | (rw [hy122]; exact H) | exact H
           have Ny122 := aM hy122
           clear hy122
           have H' := aM H
           clear H
           have p103 : 0 ≤ (x12_1 : Int) := dA
           have q103 : x12_1 < (l0.length : Int) := dA
           obtain ⟨ad103, e103, hx103_0, hx103_1⟩ := at_T29 HR0.out x12_1 p103 q103
           cases e103
           replace hx103_0 := uC HB hx103_0
           replace hx103_1 := uC HB hx103_1
           replace p103 := eq_true p103
           replace q103 := eq_true q103
           go_wp2_with (first | ((with_reducible refine gate_dst (N := 6) rfl ?_); refine box_event ?hg (N := 6) ?hd (cs := #[.int .i64 0, .string (⟨#[]⟩ : ByteArray)]) (t := 29) ?hr ?_; (case hd => rfl); (case hg => rfl); (case hr => go_simp); intro gb104 hg w62 hbox hb; have n0_ := aK (Kd.R_below HO_103000.out hb); have n1_ := aK (Kd.R_below HO_103001.out hb); have GW104 := qw HB hg; have GE104 := qw HB hg; have NB101_104 := ql BK101 hg; have NB104_101 := qg BK101 hg; have NB102_104 := ql BK102 hg; have NB104_102 := qg BK102 hg; replace BK101 := qb BK101 hb; replace BK102 := qb BK102 hb; have BK104 := aK hbox; clear HO_103000; have HO_103000 := n0_; clear n0_; clear HO_103001; have HO_103001 := n1_; clear n1_; replace HB := qs HB hb; clear hb hbox hg; have hnb63 := NB104_101.out; have hnc63 := NB101_104.out; have hnb64 := NB104_102.out; have hnc64 := NB102_104.out; obtain ⟨hcz65_0, hcz65_1, hfz65_0, hfz65_1⟩ := cA2 BK104) | (go_at_call 20; (with_reducible refine (spec_leOf.calls k1 ((rd_T29 l0 x12_1).f1) t105 t106 true _ A9.out).mono ?_); rintro e w66 ⟨v107, rfl, ho0, hb⟩; have n_ := aJ (aM (Kd.R_below (rY HO_103000 BK104) hb)) (aJ (aM (Kd.R_elder' (rY HO_103001 BK104) (Kd.R_base ho0) hb)) (aJ (aM (Kd.R_lower (Kd.R_new' ho0 (Kd.R_lt (rY HO_103001 BK104))) (below_size (pH HB)))) (aJ (bB BK101 hb) (aJ (bB BK102 hb) (aJ (aM (blk_below (g := gb104) (o := .cells #[.int .i64 ((rd_T29 l0 x12_1).f0), .string ((rd_T29 l0 x12_1).f1)] 29 (0, 0)) (bP BK104) hb)) (aM (below_step (pH HB) hb))))))); clear HO_103000 HO_103001 BK101 BK102 BK104 HB; obtain ⟨HO_103000, HO_103001, HO108, BK101, BK102, BK104, HB⟩ := n_; (try clear hb); (try clear ho0)) | ((with_reducible refine gate_dst (N := 7) rfl ?_); refine bE (N := 7) (cs := #[.int .i64 0, .slice none 0 0]) (t := 55) ?_; intro gb110 hg w67 hbox hb; have n0_ := aK (Kd.R_below HO_103000.out hb); have n1_ := aK (Kd.R_below (Kd.R_elderB HO_103001.out gb110 (Nat.le_of_eq hg.symm)) hb); have n2_ := aK (Kd.R_below (Kd.R_elderB HO108.out gb110 (Nat.le_of_eq hg.symm)) hb); have GW110 := qw HB hg; have GE110 := qw HB hg; have NB101_110 := ql BK101 hg; have NB110_101 := qg BK101 hg; have NB102_110 := ql BK102 hg; have NB110_102 := qg BK102 hg; have NB104_110 := ql BK104 hg; have NB110_104 := qg BK104 hg; replace BK101 := qb BK101 hb; replace BK102 := qb BK102 hb; replace BK104 := qb BK104 hb; have BK110 := aK hbox; clear HO_103000; have HO_103000 := n0_; clear n0_; clear HO_103001; have HO_103001 := n1_; clear n1_; clear HO108; have HO108 := n2_; clear n2_; replace HB := qs HB hb; clear hb hbox hg; have hnb68 := NB110_101.out; have hnc68 := NB101_110.out; have hnb69 := NB110_102.out; have hnc69 := NB102_110.out; have hnb70 := NB110_104.out; have hnc70 := NB104_110.out; obtain ⟨hcz71_0, hcz71_1, hfz71_0, hfz71_1⟩ := cA2 BK110; obtain ⟨Ao72, co72, eo72⟩ := Kd.R_slice HO108.out; subst eo72; obtain ⟨hcz73_0, hcz73_1, hfz73_0, hfz73_1⟩ := cA2 BK104) | (go_at_call 54; (with_reducible refine (spec_l1In.calls ((rd_T29 l0 x12_1).f0) 0 999 true _ A11.out).mono ?_); rintro e w' ⟨rfl, ⟨nd, rfl⟩⟩; (try first | exact ⟨rfl, _, World.drewN_drewN _ _ _⟩ | exact ⟨rfl, _, Eq.trans (World.drewN_drewN _ _ _) (congrArg (World.drewN _) (Nat.add_assoc _ _ _))⟩); have hnb74 := NB102_101.out; have hnc74 := NB101_102.out; obtain ⟨hcz75_0, hcz75_1, hfz75_0, hfz75_1⟩ := cA2 BK102) | ((with_reducible refine gate_builtin (b := .append) (xs := #[.tmp 48, .tmp 51]) rfl ?_); at_builtin; refine Kd.R_append (Kd.int .i64) (w0 := w) w.heap.size rfl (.tmp 48) (.tmp 51) 58 3 (.int .i64 0) 8 rfl Tryz.underlying58 info3 rfl (by decide) (by omega) u103000 x103000_1 ((rd_T29 l0 x12_1).f0) [.int .i64 ((rd_T29 l0 x12_1).f0)] (fun _ => True) (fun _ => False) rfl (by first | (go_simp; done) | (go_simp; rfl)) ?aP (fun _ hk => hk.elim) ?aF ?aO ?aB ?aS ?aL ?_; (case aP => exact rfl); (case aB => exact (pH HB)); (case aF => exact (fun _ _ => trivial)); (case aO => exact (rW HO_103000 BK110)); (case aS => exact (below_size (pH HB))); (case aL => have := LMc60.out; omega); intro v120 w76 ho hb hg hat; rw [← Ny119.out] at ho; have n_ := aJ (aM (Kd.R_over' (rX HO_103001) (Kd.R_typed (rY HO_103000 BK110)) (by decide) hg)) (aJ (bG BK101 hg (Kd.R_ne HO_103000.out BK101.out (by decide))) (aJ (bG BK102 hg (Kd.R_ne HO_103000.out BK102.out (by decide))) (aJ (bG BK104 hg (Kd.R_ne HO_103000.out BK104.out (by decide))) (aJ (aM (Kd.R_over' (rX HO108) (Kd.R_typed (rY HO_103000 BK110)) (by decide) hg)) (aJ (aM (blk_grown (g := gb110) (o := .cells #[.int .i64 t105, .slice Ao72 t106.length co72] 55 (0, 0)) (bP BK110) hg (Kd.R_ne HO_103000.out BK110.out (by decide)))) (aJ (aM (hb)) (aM (ho)))))))); clear HO_103001 BK101 BK102 BK104 HO108 BK110 HB HO_103000; obtain ⟨HO_103001, BK101, BK102, BK104, HO108, BK110, HB, HO121⟩ := n_; clear ho hb hg hat; obtain ⟨Ao77, co77, eo77⟩ := Kd.R_slice HO121.out; subst eo77; obtain ⟨hcz78_0, hcz78_1, hfz78_0, hfz78_1⟩ := cA2 BK102) | ((with_reducible refine gate_store (t := 58) (p := 53) rfl ?_); (try (rw [drewN_self w76]; generalize hq_ : World.drewN w76 _ = w76; have n_ := aJ (aM (Kd.R_at hq_ HO_103001.out)) (aJ (aM (Kd.R_at hq_ HO108.out)) (aJ (aM (Kd.R_at hq_ HO121.out)) (aJ (aM (blk_at hq_ BK101.out)) (aJ (aM (blk_at hq_ BK102.out)) (aJ (aM (blk_at hq_ BK104.out)) (aJ (aM (blk_at hq_ BK110.out)) (aM (below_at hq_ HB.out)))))))); clear hq_ HO_103001 HO108 HO121 BK101 BK102 BK104 BK110 HB; obtain ⟨HO_103001, HO108, HO121, BK101, BK102, BK104, BK110, HB⟩ := n_)); refine store_event (t := 58) (p := 53) (v := ?vo_w79) (w1 := (w76.setCell ⟨gb102, 0, none⟩ (.slice Ao77 y119.length co77))) ?hg ?ho ?hn ?hr ?_; (case ho => rfl); (case hg => rfl); (case hn => rfl); (case hr => first | (go_simp; done) | (go_simp; rfl)); intro w79 hw; have n_ := aJ (show Aside0 (Kd.R k55 55 w79 w.heap.size (fun k_ => nS k_ Ao72 t106 co72 ∧ k_ ≠ gb110) u103001 x103001_1) from ⟨(by rw [hw]; exact (rW HO_103001 BK102))⟩) (aJ (show Aside0 (Kd.R k55 55 w79 w.heap.size (fun k_ => some k_ ≠ (u103001 : Value).ownBlock ∧ k_ ≠ gb110) (.slice Ao72 t106.length co72) t106) from ⟨(by rw [hw]; exact (rW HO108 BK102))⟩) (aJ (show Aside0 (Kd.R (Kd.int .i64) 3 w79 w.heap.size (fun _ => True) (.slice Ao77 y119.length co77) y119) from ⟨(by rw [hw]; exact (rW HO121 BK102))⟩) (aJ (show Aside0 (w79.heap[gb101]? = some (.cells #[.slice none 0 0, .slice none 0 0] 60 (0, 0))) from ⟨(by rw [hw]; exact (bY BK101))⟩) (aJ (show Aside0 (w79.heap[gb102]? = some (.cells #[.slice Ao77 y119.length co77, u103001] 60 (0, 0))) from ⟨(by rw [hw]; exact (bP BK102))⟩) (aJ (show Aside0 (w79.heap[gb104]? = some (.cells #[.int .i64 ((rd_T29 l0 x12_1).f0), .string ((rd_T29 l0 x12_1).f1)] 29 (0, 0))) from ⟨(by rw [hw]; exact (bY BK104))⟩) (aJ (show Aside0 (w79.heap[gb110]? = some (.cells #[.int .i64 t105, .slice Ao72 t106.length co72] 55 (0, 0))) from ⟨(by rw [hw]; exact (bY BK110))⟩) (show Aside0 (Below w.heap.size w w79) from ⟨(by rw [hw]; exact (pH HB))⟩))))))); clear hw HO_103001 HO108 HO121 BK101 BK102 BK104 BK110 HB; obtain ⟨HO_103001, HO108, HO121, BK101, BK102, BK104, BK110, HB⟩ := n_; obtain ⟨hcz80_0, hcz80_1, hfz80_0, hfz80_1⟩ := cA2 BK102; obtain ⟨hcz81_0, hcz81_1, hfz81_0, hfz81_1⟩ := cA2 BK110) | ((with_reducible refine gate_builtin (b := .append) (xs := #[.tmp 55, .tmp 57]) rfl ?_); at_builtin; refine Kd.R_append k55 (w0 := w) w.heap.size rfl (.tmp 55) (.tmp 57) 53 55 (.agg #[(.int .i64 0), (.slice none 0 0)]) 32 rfl Tryz.underlying53 info55 rfl (by decide) (by omega) u103001 x103001_1 (⟨t105, t106⟩ : S55) [.int .i64 t105, .slice Ao72 t106.length co72] (fun k_ => k_ ≠ gb110) (fun k_ => ((fun k_ => k_ ≠ gb110)) k_ ∧ some k_ ≠ (u103001 : Value).ownBlock) rfl rfl ?aP (fun _ hk => hk) ?aF ?aO ?aB ?aS ?aL ?_; (case aP => exact k55_mkM _ _ _ (⟨t105, t106⟩ : S55) (Kd.R_mono (HO108.out) (fun k_ hk => ⟨hk.2, hk.1⟩))); (case aB => exact (pH HB)); (case aF => exact (fun k_ hk => Kd.freshB BK110.out k_ hk)); (case aO => exact (rZ HO_103001)); (case aS => exact (below_size (pH HB))); (case aL => have := LMc61.out; omega); intro v123 w82 ho hb hg hat; rw [← Ny122.out] at ho; have n0_ := aK (blk_grown BK101.out hg (Kd.R_ne HO_103001.out BK101.out (by decide))); have n1_ := aK (blk_grown BK102.out hg (Kd.R_ne HO_103001.out BK102.out (by decide))); have n2_ := aK (blk_grown BK104.out hg (Kd.R_ne HO_103001.out BK104.out (by decide))); have n3_ := aK (blk_grown BK110.out hg (Kd.R_away HO_103001.out (fun _ hk => hk.2))); have n4_ := aK (Kd.R_over' HO121.out (Kd.R_typed HO_103001.out) (by decide) hg); have n5_ := aK (hb); have HO124 := aK (ho); clear BK101; have BK101 := n0_; clear n0_; clear BK102; have BK102 := n1_; clear n1_; clear BK104; have BK104 := n2_; clear n2_; clear BK110; have BK110 := n3_; clear n3_; clear HO121; have HO121 := n4_; clear n4_; clear HB; have HB := n5_; clear n5_; clear HO_103001; clear HO108; clear ho hb hg hat; obtain ⟨Ao83, co83, eo83⟩ := Kd.R_slice HO124.out; subst eo83; obtain ⟨hcz84_0, hcz84_1, hfz84_0, hfz84_1⟩ := cA2 BK102))
           have hnb74 := NB102_101.out; have hnc74 := NB101_102.out; obtain ⟨hcz75_0, hcz75_1, hfz75_0, hfz75_1⟩ := cA2 BK102
           go_quiet ((go_at_call 54; (with_reducible refine (spec_l1In.calls ((rd_T29 l0 x12_1).f0) 0 999 true _ A11.out).mono ?_); rintro e w' ⟨rfl, ⟨nd, rfl⟩⟩; (first | exact ⟨rfl, _, World.drewN_drewN _ _ _⟩ | exact ⟨rfl, _, Eq.trans (World.drewN_drewN _ _ _) (congrArg (World.drewN _) (Nat.add_assoc _ _ _))⟩)))
           try go_wp2_with (first | ((with_reducible refine gate_dst (N := 6) rfl ?_); refine box_event ?hg (N := 6) ?hd (cs := #[.int .i64 0, .string (⟨#[]⟩ : ByteArray)]) (t := 29) ?hr ?_; (case hd => rfl); (case hg => rfl); (case hr => go_simp); intro gb104 hg w62 hbox hb; have n0_ := aK (Kd.R_below HO_103000.out hb); have n1_ := aK (Kd.R_below HO_103001.out hb); have GW104 := qw HB hg; have GE104 := qw HB hg; have NB101_104 := ql BK101 hg; have NB104_101 := qg BK101 hg; have NB102_104 := ql BK102 hg; have NB104_102 := qg BK102 hg; replace BK101 := qb BK101 hb; replace BK102 := qb BK102 hb; have BK104 := aK hbox; clear HO_103000; have HO_103000 := n0_; clear n0_; clear HO_103001; have HO_103001 := n1_; clear n1_; replace HB := qs HB hb; clear hb hbox hg; have hnb63 := NB104_101.out; have hnc63 := NB101_104.out; have hnb64 := NB104_102.out; have hnc64 := NB102_104.out; obtain ⟨hcz65_0, hcz65_1, hfz65_0, hfz65_1⟩ := cA2 BK104) | (go_at_call 20; (with_reducible refine (spec_leOf.calls k1 ((rd_T29 l0 x12_1).f1) t105 t106 true _ A9.out).mono ?_); rintro e w66 ⟨v107, rfl, ho0, hb⟩; have n_ := aJ (aM (Kd.R_below (rY HO_103000 BK104) hb)) (aJ (aM (Kd.R_elder' (rY HO_103001 BK104) (Kd.R_base ho0) hb)) (aJ (aM (Kd.R_lower (Kd.R_new' ho0 (Kd.R_lt (rY HO_103001 BK104))) (below_size (pH HB)))) (aJ (bB BK101 hb) (aJ (bB BK102 hb) (aJ (aM (blk_below (g := gb104) (o := .cells #[.int .i64 ((rd_T29 l0 x12_1).f0), .string ((rd_T29 l0 x12_1).f1)] 29 (0, 0)) (bP BK104) hb)) (aM (below_step (pH HB) hb))))))); clear HO_103000 HO_103001 BK101 BK102 BK104 HB; obtain ⟨HO_103000, HO_103001, HO108, BK101, BK102, BK104, HB⟩ := n_; (try clear hb); (try clear ho0)) | ((with_reducible refine gate_dst (N := 7) rfl ?_); refine bE (N := 7) (cs := #[.int .i64 0, .slice none 0 0]) (t := 55) ?_; intro gb110 hg w67 hbox hb; have n0_ := aK (Kd.R_below HO_103000.out hb); have n1_ := aK (Kd.R_below (Kd.R_elderB HO_103001.out gb110 (Nat.le_of_eq hg.symm)) hb); have n2_ := aK (Kd.R_below (Kd.R_elderB HO108.out gb110 (Nat.le_of_eq hg.symm)) hb); have GW110 := qw HB hg; have GE110 := qw HB hg; have NB101_110 := ql BK101 hg; have NB110_101 := qg BK101 hg; have NB102_110 := ql BK102 hg; have NB110_102 := qg BK102 hg; have NB104_110 := ql BK104 hg; have NB110_104 := qg BK104 hg; replace BK101 := qb BK101 hb; replace BK102 := qb BK102 hb; replace BK104 := qb BK104 hb; have BK110 := aK hbox; clear HO_103000; have HO_103000 := n0_; clear n0_; clear HO_103001; have HO_103001 := n1_; clear n1_; clear HO108; have HO108 := n2_; clear n2_; replace HB := qs HB hb; clear hb hbox hg; have hnb68 := NB110_101.out; have hnc68 := NB101_110.out; have hnb69 := NB110_102.out; have hnc69 := NB102_110.out; have hnb70 := NB110_104.out; have hnc70 := NB104_110.out; obtain ⟨hcz71_0, hcz71_1, hfz71_0, hfz71_1⟩ := cA2 BK110; obtain ⟨Ao72, co72, eo72⟩ := Kd.R_slice HO108.out; subst eo72; obtain ⟨hcz73_0, hcz73_1, hfz73_0, hfz73_1⟩ := cA2 BK104) | (go_at_call 54; (with_reducible refine (spec_l1In.calls ((rd_T29 l0 x12_1).f0) 0 999 true _ A11.out).mono ?_); rintro e w' ⟨rfl, ⟨nd, rfl⟩⟩; (try first | exact ⟨rfl, _, World.drewN_drewN _ _ _⟩ | exact ⟨rfl, _, Eq.trans (World.drewN_drewN _ _ _) (congrArg (World.drewN _) (Nat.add_assoc _ _ _))⟩); have hnb74 := NB102_101.out; have hnc74 := NB101_102.out; obtain ⟨hcz75_0, hcz75_1, hfz75_0, hfz75_1⟩ := cA2 BK102) | ((with_reducible refine gate_builtin (b := .append) (xs := #[.tmp 48, .tmp 51]) rfl ?_); at_builtin; refine Kd.R_append (Kd.int .i64) (w0 := w) w.heap.size rfl (.tmp 48) (.tmp 51) 58 3 (.int .i64 0) 8 rfl Tryz.underlying58 info3 rfl (by decide) (by omega) u103000 x103000_1 ((rd_T29 l0 x12_1).f0) [.int .i64 ((rd_T29 l0 x12_1).f0)] (fun _ => True) (fun _ => False) rfl (by first | (go_simp; done) | (go_simp; rfl)) ?aP (fun _ hk => hk.elim) ?aF ?aO ?aB ?aS ?aL ?_; (case aP => exact rfl); (case aB => exact (pH HB)); (case aF => exact (fun _ _ => trivial)); (case aO => exact (rW HO_103000 BK110)); (case aS => exact (below_size (pH HB))); (case aL => have := LMc60.out; omega); intro v120 w76 ho hb hg hat; rw [← Ny119.out] at ho; have n_ := aJ (aM (Kd.R_over' (rX HO_103001) (Kd.R_typed (rY HO_103000 BK110)) (by decide) hg)) (aJ (bG BK101 hg (Kd.R_ne HO_103000.out BK101.out (by decide))) (aJ (bG BK102 hg (Kd.R_ne HO_103000.out BK102.out (by decide))) (aJ (bG BK104 hg (Kd.R_ne HO_103000.out BK104.out (by decide))) (aJ (aM (Kd.R_over' (rX HO108) (Kd.R_typed (rY HO_103000 BK110)) (by decide) hg)) (aJ (aM (blk_grown (g := gb110) (o := .cells #[.int .i64 t105, .slice Ao72 t106.length co72] 55 (0, 0)) (bP BK110) hg (Kd.R_ne HO_103000.out BK110.out (by decide)))) (aJ (aM (hb)) (aM (ho)))))))); clear HO_103001 BK101 BK102 BK104 HO108 BK110 HB HO_103000; obtain ⟨HO_103001, BK101, BK102, BK104, HO108, BK110, HB, HO121⟩ := n_; clear ho hb hg hat; obtain ⟨Ao77, co77, eo77⟩ := Kd.R_slice HO121.out; subst eo77; obtain ⟨hcz78_0, hcz78_1, hfz78_0, hfz78_1⟩ := cA2 BK102) | ((with_reducible refine gate_store (t := 58) (p := 53) rfl ?_); (try (rw [drewN_self w76]; generalize hq_ : World.drewN w76 _ = w76; have n_ := aJ (aM (Kd.R_at hq_ HO_103001.out)) (aJ (aM (Kd.R_at hq_ HO108.out)) (aJ (aM (Kd.R_at hq_ HO121.out)) (aJ (aM (blk_at hq_ BK101.out)) (aJ (aM (blk_at hq_ BK102.out)) (aJ (aM (blk_at hq_ BK104.out)) (aJ (aM (blk_at hq_ BK110.out)) (aM (below_at hq_ HB.out)))))))); clear hq_ HO_103001 HO108 HO121 BK101 BK102 BK104 BK110 HB; obtain ⟨HO_103001, HO108, HO121, BK101, BK102, BK104, BK110, HB⟩ := n_)); refine store_event (t := 58) (p := 53) (v := ?vo_w79) (w1 := (w76.setCell ⟨gb102, 0, none⟩ (.slice Ao77 y119.length co77))) ?hg ?ho ?hn ?hr ?_; (case ho => rfl); (case hg => rfl); (case hn => rfl); (case hr => first | (go_simp; done) | (go_simp; rfl)); intro w79 hw; have n_ := aJ (show Aside0 (Kd.R k55 55 w79 w.heap.size (fun k_ => nS k_ Ao72 t106 co72 ∧ k_ ≠ gb110) u103001 x103001_1) from ⟨(by rw [hw]; exact (rW HO_103001 BK102))⟩) (aJ (show Aside0 (Kd.R k55 55 w79 w.heap.size (fun k_ => some k_ ≠ (u103001 : Value).ownBlock ∧ k_ ≠ gb110) (.slice Ao72 t106.length co72) t106) from ⟨(by rw [hw]; exact (rW HO108 BK102))⟩) (aJ (show Aside0 (Kd.R (Kd.int .i64) 3 w79 w.heap.size (fun _ => True) (.slice Ao77 y119.length co77) y119) from ⟨(by rw [hw]; exact (rW HO121 BK102))⟩) (aJ (show Aside0 (w79.heap[gb101]? = some (.cells #[.slice none 0 0, .slice none 0 0] 60 (0, 0))) from ⟨(by rw [hw]; exact (bY BK101))⟩) (aJ (show Aside0 (w79.heap[gb102]? = some (.cells #[.slice Ao77 y119.length co77, u103001] 60 (0, 0))) from ⟨(by rw [hw]; exact (bP BK102))⟩) (aJ (show Aside0 (w79.heap[gb104]? = some (.cells #[.int .i64 ((rd_T29 l0 x12_1).f0), .string ((rd_T29 l0 x12_1).f1)] 29 (0, 0))) from ⟨(by rw [hw]; exact (bY BK104))⟩) (aJ (show Aside0 (w79.heap[gb110]? = some (.cells #[.int .i64 t105, .slice Ao72 t106.length co72] 55 (0, 0))) from ⟨(by rw [hw]; exact (bY BK110))⟩) (show Aside0 (Below w.heap.size w w79) from ⟨(by rw [hw]; exact (pH HB))⟩))))))); clear hw HO_103001 HO108 HO121 BK101 BK102 BK104 BK110 HB; obtain ⟨HO_103001, HO108, HO121, BK101, BK102, BK104, BK110, HB⟩ := n_; obtain ⟨hcz80_0, hcz80_1, hfz80_0, hfz80_1⟩ := cA2 BK102; obtain ⟨hcz81_0, hcz81_1, hfz81_0, hfz81_1⟩ := cA2 BK110) | ((with_reducible refine gate_builtin (b := .append) (xs := #[.tmp 55, .tmp 57]) rfl ?_); at_builtin; refine Kd.R_append k55 (w0 := w) w.heap.size rfl (.tmp 55) (.tmp 57) 53 55 (.agg #[(.int .i64 0), (.slice none 0 0)]) 32 rfl Tryz.underlying53 info55 rfl (by decide) (by omega) u103001 x103001_1 (⟨t105, t106⟩ : S55) [.int .i64 t105, .slice Ao72 t106.length co72] (fun k_ => k_ ≠ gb110) (fun k_ => ((fun k_ => k_ ≠ gb110)) k_ ∧ some k_ ≠ (u103001 : Value).ownBlock) rfl rfl ?aP (fun _ hk => hk) ?aF ?aO ?aB ?aS ?aL ?_; (case aP => exact k55_mkM _ _ _ (⟨t105, t106⟩ : S55) (Kd.R_mono (HO108.out) (fun k_ hk => ⟨hk.2, hk.1⟩))); (case aB => exact (pH HB)); (case aF => exact (fun k_ hk => Kd.freshB BK110.out k_ hk)); (case aO => exact (rZ HO_103001)); (case aS => exact (below_size (pH HB))); (case aL => have := LMc61.out; omega); intro v123 w82 ho hb hg hat; rw [← Ny122.out] at ho; have n0_ := aK (blk_grown BK101.out hg (Kd.R_ne HO_103001.out BK101.out (by decide))); have n1_ := aK (blk_grown BK102.out hg (Kd.R_ne HO_103001.out BK102.out (by decide))); have n2_ := aK (blk_grown BK104.out hg (Kd.R_ne HO_103001.out BK104.out (by decide))); have n3_ := aK (blk_grown BK110.out hg (Kd.R_away HO_103001.out (fun _ hk => hk.2))); have n4_ := aK (Kd.R_over' HO121.out (Kd.R_typed HO_103001.out) (by decide) hg); have n5_ := aK (hb); have HO124 := aK (ho); clear BK101; have BK101 := n0_; clear n0_; clear BK102; have BK102 := n1_; clear n1_; clear BK104; have BK104 := n2_; clear n2_; clear BK110; have BK110 := n3_; clear n3_; clear HO121; have HO121 := n4_; clear n4_; clear HB; have HB := n5_; clear n5_; clear HO_103001; clear HO108; clear ho hb hg hat; obtain ⟨Ao83, co83, eo83⟩ := Kd.R_slice HO124.out; subst eo83; obtain ⟨hcz84_0, hcz84_1, hfz84_0, hfz84_1⟩ := cA2 BK102))
           go_roundg k1
           case measure => have := HK1.out; omega
           case rel => exact ⟨(wrap64 (x12_1 + 1)), (y119), (y122), (.slice Ao77 y119.length co77), (.slice Ao83 y122.length co83), rS, H', ⟨by have := HK1.out; omega⟩, ⟨rW HO121 BK102⟩, ⟨rW HO124 BK102⟩, ⟨bY BK101⟩, ⟨bP BK102⟩, ⟨pH HB⟩⟩
          ·rw [if_neg c61] at H
           exact absurd H (by simp)
         ·rw [if_neg c60] at H
          exact absurd H (by simp)
       ·replace c12 := Bool.eq_false_iff.mpr c12
        subst c12
        rw [if_neg (show ¬ (false = true) by decide)] at H
        simp only [Option.some.injEq, Prod.mk.injEq] at H
        obtain ⟨rfl, rfl, rfl⟩ := H
        have p103 : 0 ≤ (x12_1 : Int) := dA
        have q103 : x12_1 < (l0.length : Int) := dA
        obtain ⟨ad103, e103, hx103_0, hx103_1⟩ := at_T29 HR0.out x12_1 p103 q103
        cases e103
        replace hx103_0 := uC HB hx103_0
        replace hx103_1 := uC HB hx103_1
        replace p103 := eq_true p103
        replace q103 := eq_true q103
        go_wp2_with (first | ((with_reducible refine gate_dst (N := 6) rfl ?_); refine box_event ?hg (N := 6) ?hd (cs := #[.int .i64 0, .string (⟨#[]⟩ : ByteArray)]) (t := 29) ?hr ?_; (case hd => rfl); (case hg => rfl); (case hr => go_simp); intro gb104 hg w85 hbox hb; have n0_ := aK (Kd.R_below HO_103000.out hb); have n1_ := aK (Kd.R_below HO_103001.out hb); have GW104 := qw HB hg; have GE104 := qw HB hg; have NB101_104 := ql BK101 hg; have NB104_101 := qg BK101 hg; have NB102_104 := ql BK102 hg; have NB104_102 := qg BK102 hg; replace BK101 := qb BK101 hb; replace BK102 := qb BK102 hb; have BK104 := aK hbox; clear HO_103000; have HO_103000 := n0_; clear n0_; clear HO_103001; have HO_103001 := n1_; clear n1_; replace HB := qs HB hb; clear hb hbox hg; have hnb86 := NB104_101.out; have hnc86 := NB101_104.out; have hnb87 := NB104_102.out; have hnc87 := NB102_104.out; obtain ⟨hcz88_0, hcz88_1, hfz88_0, hfz88_1⟩ := cA2 BK104) | (go_at_call 20; (with_reducible refine (spec_leOf.calls k1 ((rd_T29 l0 x12_1).f1) t105 t106 true _ A9.out).mono ?_); rintro e w89 ⟨v107, rfl, ho0, hb⟩; have n_ := aJ (aM (Kd.R_below (rY HO_103000 BK104) hb)) (aJ (aM (Kd.R_elder' (rY HO_103001 BK104) (Kd.R_base ho0) hb)) (aJ (aM (Kd.R_lower (Kd.R_new' ho0 (Kd.R_lt (rY HO_103001 BK104))) (below_size (pH HB)))) (aJ (bB BK101 hb) (aJ (bB BK102 hb) (aJ (aM (blk_below (g := gb104) (o := .cells #[.int .i64 ((rd_T29 l0 x12_1).f0), .string ((rd_T29 l0 x12_1).f1)] 29 (0, 0)) (bP BK104) hb)) (aM (below_step (pH HB) hb))))))); clear HO_103000 HO_103001 BK101 BK102 BK104 HB; obtain ⟨HO_103000, HO_103001, HO108, BK101, BK102, BK104, HB⟩ := n_; (try clear hb); (try clear ho0)) | ((with_reducible refine gate_dst (N := 7) rfl ?_); refine bE (N := 7) (cs := #[.int .i64 0, .slice none 0 0]) (t := 55) ?_; intro gb110 hg w90 hbox hb; have n0_ := aK (Kd.R_below HO_103000.out hb); have n1_ := aK (Kd.R_below (Kd.R_elderB HO_103001.out gb110 (Nat.le_of_eq hg.symm)) hb); have n2_ := aK (Kd.R_below (Kd.R_elderB HO108.out gb110 (Nat.le_of_eq hg.symm)) hb); have GW110 := qw HB hg; have GE110 := qw HB hg; have NB101_110 := ql BK101 hg; have NB110_101 := qg BK101 hg; have NB102_110 := ql BK102 hg; have NB110_102 := qg BK102 hg; have NB104_110 := ql BK104 hg; have NB110_104 := qg BK104 hg; replace BK101 := qb BK101 hb; replace BK102 := qb BK102 hb; replace BK104 := qb BK104 hb; have BK110 := aK hbox; clear HO_103000; have HO_103000 := n0_; clear n0_; clear HO_103001; have HO_103001 := n1_; clear n1_; clear HO108; have HO108 := n2_; clear n2_; replace HB := qs HB hb; clear hb hbox hg; have hnb91 := NB110_101.out; have hnc91 := NB101_110.out; have hnb92 := NB110_102.out; have hnc92 := NB102_110.out; have hnb93 := NB110_104.out; have hnc93 := NB104_110.out; obtain ⟨hcz94_0, hcz94_1, hfz94_0, hfz94_1⟩ := cA2 BK110; obtain ⟨Ao95, co95, eo95⟩ := Kd.R_slice HO108.out; subst eo95; obtain ⟨hcz96_0, hcz96_1, hfz96_0, hfz96_1⟩ := cA2 BK104) | (go_at_call 54; (with_reducible refine (spec_l1In.calls ((rd_T29 l0 x12_1).f0) 0 999 false _ A11.out).mono ?_); rintro e w' ⟨rfl, ⟨nd, rfl⟩⟩; (try first | exact ⟨rfl, _, World.drewN_drewN _ _ _⟩ | exact ⟨rfl, _, Eq.trans (World.drewN_drewN _ _ _) (congrArg (World.drewN _) (Nat.add_assoc _ _ _))⟩); have hnb97 := NB102_101.out; have hnc97 := NB101_102.out; obtain ⟨hcz98_0, hcz98_1, hfz98_0, hfz98_1⟩ := cA2 BK102; obtain ⟨Ao99, co99, eo99⟩ := Kd.R_slice HO_103000.out; subst eo99; obtain ⟨hcz100_0, hcz100_1, hfz100_0, hfz100_1⟩ := cA2 BK101; obtain ⟨Ao101, co101, eo101⟩ := Kd.R_slice HO_103001.out; subst eo101))
        have hnb97 := NB102_101.out; have hnc97 := NB101_102.out; obtain ⟨hcz98_0, hcz98_1, hfz98_0, hfz98_1⟩ := cA2 BK102; obtain ⟨Ao99, co99, eo99⟩ := Kd.R_slice HO_103000.out; subst eo99; obtain ⟨hcz100_0, hcz100_1, hfz100_0, hfz100_1⟩ := cA2 BK101; obtain ⟨Ao101, co101, eo101⟩ := Kd.R_slice HO_103001.out; subst eo101
        go_quiet ((go_at_call 54; (with_reducible refine (spec_l1In.calls ((rd_T29 l0 x12_1).f0) 0 999 false _ A11.out).mono ?_); rintro e w' ⟨rfl, ⟨nd, rfl⟩⟩; (first | exact ⟨rfl, _, World.drewN_drewN _ _ _⟩ | exact ⟨rfl, _, Eq.trans (World.drewN_drewN _ _ _) (congrArg (World.drewN _) (Nat.add_assoc _ _ _))⟩)))
        try go_wp2_with (first | ((with_reducible refine gate_dst (N := 6) rfl ?_); refine box_event ?hg (N := 6) ?hd (cs := #[.int .i64 0, .string (⟨#[]⟩ : ByteArray)]) (t := 29) ?hr ?_; (case hd => rfl); (case hg => rfl); (case hr => go_simp); intro gb104 hg w85 hbox hb; have n0_ := aK (Kd.R_below HO_103000.out hb); have n1_ := aK (Kd.R_below HO_103001.out hb); have GW104 := qw HB hg; have GE104 := qw HB hg; have NB101_104 := ql BK101 hg; have NB104_101 := qg BK101 hg; have NB102_104 := ql BK102 hg; have NB104_102 := qg BK102 hg; replace BK101 := qb BK101 hb; replace BK102 := qb BK102 hb; have BK104 := aK hbox; clear HO_103000; have HO_103000 := n0_; clear n0_; clear HO_103001; have HO_103001 := n1_; clear n1_; replace HB := qs HB hb; clear hb hbox hg; have hnb86 := NB104_101.out; have hnc86 := NB101_104.out; have hnb87 := NB104_102.out; have hnc87 := NB102_104.out; obtain ⟨hcz88_0, hcz88_1, hfz88_0, hfz88_1⟩ := cA2 BK104) | (go_at_call 20; (with_reducible refine (spec_leOf.calls k1 ((rd_T29 l0 x12_1).f1) t105 t106 true _ A9.out).mono ?_); rintro e w89 ⟨v107, rfl, ho0, hb⟩; have n_ := aJ (aM (Kd.R_below (rY HO_103000 BK104) hb)) (aJ (aM (Kd.R_elder' (rY HO_103001 BK104) (Kd.R_base ho0) hb)) (aJ (aM (Kd.R_lower (Kd.R_new' ho0 (Kd.R_lt (rY HO_103001 BK104))) (below_size (pH HB)))) (aJ (bB BK101 hb) (aJ (bB BK102 hb) (aJ (aM (blk_below (g := gb104) (o := .cells #[.int .i64 ((rd_T29 l0 x12_1).f0), .string ((rd_T29 l0 x12_1).f1)] 29 (0, 0)) (bP BK104) hb)) (aM (below_step (pH HB) hb))))))); clear HO_103000 HO_103001 BK101 BK102 BK104 HB; obtain ⟨HO_103000, HO_103001, HO108, BK101, BK102, BK104, HB⟩ := n_; (try clear hb); (try clear ho0)) | ((with_reducible refine gate_dst (N := 7) rfl ?_); refine bE (N := 7) (cs := #[.int .i64 0, .slice none 0 0]) (t := 55) ?_; intro gb110 hg w90 hbox hb; have n0_ := aK (Kd.R_below HO_103000.out hb); have n1_ := aK (Kd.R_below (Kd.R_elderB HO_103001.out gb110 (Nat.le_of_eq hg.symm)) hb); have n2_ := aK (Kd.R_below (Kd.R_elderB HO108.out gb110 (Nat.le_of_eq hg.symm)) hb); have GW110 := qw HB hg; have GE110 := qw HB hg; have NB101_110 := ql BK101 hg; have NB110_101 := qg BK101 hg; have NB102_110 := ql BK102 hg; have NB110_102 := qg BK102 hg; have NB104_110 := ql BK104 hg; have NB110_104 := qg BK104 hg; replace BK101 := qb BK101 hb; replace BK102 := qb BK102 hb; replace BK104 := qb BK104 hb; have BK110 := aK hbox; clear HO_103000; have HO_103000 := n0_; clear n0_; clear HO_103001; have HO_103001 := n1_; clear n1_; clear HO108; have HO108 := n2_; clear n2_; replace HB := qs HB hb; clear hb hbox hg; have hnb91 := NB110_101.out; have hnc91 := NB101_110.out; have hnb92 := NB110_102.out; have hnc92 := NB102_110.out; have hnb93 := NB110_104.out; have hnc93 := NB104_110.out; obtain ⟨hcz94_0, hcz94_1, hfz94_0, hfz94_1⟩ := cA2 BK110; obtain ⟨Ao95, co95, eo95⟩ := Kd.R_slice HO108.out; subst eo95; obtain ⟨hcz96_0, hcz96_1, hfz96_0, hfz96_1⟩ := cA2 BK104) | (go_at_call 54; (with_reducible refine (spec_l1In.calls ((rd_T29 l0 x12_1).f0) 0 999 false _ A11.out).mono ?_); rintro e w' ⟨rfl, ⟨nd, rfl⟩⟩; (try first | exact ⟨rfl, _, World.drewN_drewN _ _ _⟩ | exact ⟨rfl, _, Eq.trans (World.drewN_drewN _ _ _) (congrArg (World.drewN _) (Nat.add_assoc _ _ _))⟩); have hnb97 := NB102_101.out; have hnc97 := NB101_102.out; obtain ⟨hcz98_0, hcz98_1, hfz98_0, hfz98_1⟩ := cA2 BK102; obtain ⟨Ao99, co99, eo99⟩ := Kd.R_slice HO_103000.out; subst eo99; obtain ⟨hcz100_0, hcz100_1, hfz100_0, hfz100_1⟩ := cA2 BK101; obtain ⟨Ao101, co101, eo101⟩ := Kd.R_slice HO_103001.out; subst eo101))
        refine bodyPost_ret (results_ct rfl _ _ gb101 60 #[.slice Ao99 x103000_1.length co99, .slice Ao101 x103001_1.length co101] (0, 0) _ rfl (by (with_reducible repeat first | apply zN | apply zD | apply zA); refine blk_put (cs := #[.slice Ao99 x103000_1.length co99, .slice none 0 0]) ?_ 1 _ rfl; (with_reducible repeat first | apply zN | apply zD | apply zA); refine blk_put (cs := #[.slice none 0 0, .slice none 0 0]) ?_ 0 _ rfl; (repeat first | with_reducible apply zN | with_reducible apply zD | with_reducible apply zA | refine blk_far ?_ NB101_110.out _); exact BK101.out) Tryz.underlying60 rfl (by kernel_rfl)) rfl ?_
        exact ⟨_, _, eW, by (with_reducible repeat (first | apply rA | apply rN | apply rD)); exact Kd.R_mono (Kd.R_far (p := ⟨gb101, 1, none⟩) (Kd.R_far (p := ⟨gb101, 0, none⟩) (rN (Kd.R_far (p := ⟨gb110, 1, none⟩) (Kd.R_far (p := ⟨gb110, 0, none⟩) (Kd.R_types (Kd.R_types HO_103000.out BK110.out (by decide)) BK101.out (by decide)) (fun _ hk => hk.1.2) (.int .i64 t105)) (fun _ hk => hk.1.2) (.slice Ao95 t106.length co95)) _) (fun _ hk => hk.2) (.slice Ao99 x103000_1.length co99)) (fun _ hk => hk.2) (.slice Ao101 x103001_1.length co101)) (fun _ hk => trivial), by (with_reducible repeat (first | apply rA | apply rN | apply rD)); exact Kd.R_mono (Kd.R_far (p := ⟨gb101, 1, none⟩) (Kd.R_far (p := ⟨gb101, 0, none⟩) (rN (Kd.R_far (p := ⟨gb110, 1, none⟩) (Kd.R_far (p := ⟨gb110, 0, none⟩) (Kd.R_types (Kd.R_mono HO_103001.out (fun k_ hk => (⟨hk, hk.2⟩ : _ ∧ k_ ≠ gb110))) BK101.out (by decide)) (fun _ hk => hk.1.2) (.int .i64 t105)) (fun _ hk => hk.1.2) (.slice Ao95 t106.length co95)) _) (fun _ hk => hk.2) (.slice Ao99 x103000_1.length co99)) (fun _ hk => hk.2) (.slice Ao101 x103001_1.length co101)) (fun _ hk => trivial), pH HB⟩
      ·replace c10 := Bool.eq_false_iff.mpr c10
       subst c10
       rw [if_neg (show ¬ (false = true) by decide)] at H
       simp only [Option.some.injEq, Prod.mk.injEq] at H
       obtain ⟨rfl, rfl, rfl⟩ := H
       have p103 : 0 ≤ (x12_1 : Int) := dA
       have q103 : x12_1 < (l0.length : Int) := dA
       obtain ⟨ad103, e103, hx103_0, hx103_1⟩ := at_T29 HR0.out x12_1 p103 q103
       cases e103
       replace hx103_0 := uC HB hx103_0
       replace hx103_1 := uC HB hx103_1
       replace p103 := eq_true p103
       replace q103 := eq_true q103
       go_wp2_with (first | ((with_reducible refine gate_dst (N := 6) rfl ?_); refine box_event ?hg (N := 6) ?hd (cs := #[.int .i64 0, .string (⟨#[]⟩ : ByteArray)]) (t := 29) ?hr ?_; (case hd => rfl); (case hg => rfl); (case hr => go_simp); intro gb104 hg w102 hbox hb; have n0_ := aK (Kd.R_below HO_103000.out hb); have n1_ := aK (Kd.R_below HO_103001.out hb); have GW104 := qw HB hg; have GE104 := qw HB hg; have NB101_104 := ql BK101 hg; have NB104_101 := qg BK101 hg; have NB102_104 := ql BK102 hg; have NB104_102 := qg BK102 hg; replace BK101 := qb BK101 hb; replace BK102 := qb BK102 hb; have BK104 := aK hbox; clear HO_103000; have HO_103000 := n0_; clear n0_; clear HO_103001; have HO_103001 := n1_; clear n1_; replace HB := qs HB hb; clear hb hbox hg; have hnb103 := NB104_101.out; have hnc103 := NB101_104.out; have hnb104 := NB104_102.out; have hnc104 := NB102_104.out; obtain ⟨hcz105_0, hcz105_1, hfz105_0, hfz105_1⟩ := cA2 BK104) | (go_at_call 20; (with_reducible refine (spec_leOf.calls k1 ((rd_T29 l0 x12_1).f1) t105 t106 false _ A9.out).mono ?_); rintro e w106 ⟨v107, rfl, ho0, hb⟩; have n_ := aJ (aM (Kd.R_below (rY HO_103000 BK104) hb)) (aJ (aM (Kd.R_elder' (rY HO_103001 BK104) (Kd.R_base ho0) hb)) (aJ (aM (Kd.R_lower (Kd.R_new' ho0 (Kd.R_lt (rY HO_103001 BK104))) (below_size (pH HB)))) (aJ (bB BK101 hb) (aJ (bB BK102 hb) (aJ (aM (blk_below (g := gb104) (o := .cells #[.int .i64 ((rd_T29 l0 x12_1).f0), .string ((rd_T29 l0 x12_1).f1)] 29 (0, 0)) (bP BK104) hb)) (aM (below_step (pH HB) hb))))))); clear HO_103000 HO_103001 BK101 BK102 BK104 HB; obtain ⟨HO_103000, HO_103001, HO108, BK101, BK102, BK104, HB⟩ := n_; (try clear hb); (try clear ho0)) | ((with_reducible refine gate_dst (N := 7) rfl ?_); refine bE (N := 7) (cs := #[.int .i64 0, .slice none 0 0]) (t := 55) ?_; intro gb110 hg w107 hbox hb; have n0_ := aK (Kd.R_below HO_103000.out hb); have n1_ := aK (Kd.R_below (Kd.R_elderB HO_103001.out gb110 (Nat.le_of_eq hg.symm)) hb); have n2_ := aK (Kd.R_below (Kd.R_elderB HO108.out gb110 (Nat.le_of_eq hg.symm)) hb); have GW110 := qw HB hg; have GE110 := qw HB hg; have NB101_110 := ql BK101 hg; have NB110_101 := qg BK101 hg; have NB102_110 := ql BK102 hg; have NB110_102 := qg BK102 hg; have NB104_110 := ql BK104 hg; have NB110_104 := qg BK104 hg; replace BK101 := qb BK101 hb; replace BK102 := qb BK102 hb; replace BK104 := qb BK104 hb; have BK110 := aK hbox; clear HO_103000; have HO_103000 := n0_; clear n0_; clear HO_103001; have HO_103001 := n1_; clear n1_; clear HO108; have HO108 := n2_; clear n2_; replace HB := qs HB hb; clear hb hbox hg; have hnb108 := NB110_101.out; have hnc108 := NB101_110.out; have hnb109 := NB110_102.out; have hnc109 := NB102_110.out; have hnb110 := NB110_104.out; have hnc110 := NB104_110.out; obtain ⟨hcz111_0, hcz111_1, hfz111_0, hfz111_1⟩ := cA2 BK110; obtain ⟨Ao112, co112, eo112⟩ := Kd.R_slice HO108.out; subst eo112; have hnb113 := NB102_101.out; have hnc113 := NB101_102.out; obtain ⟨hcz114_0, hcz114_1, hfz114_0, hfz114_1⟩ := cA2 BK102; obtain ⟨Ao115, co115, eo115⟩ := Kd.R_slice HO_103000.out; subst eo115; obtain ⟨hcz116_0, hcz116_1, hfz116_0, hfz116_1⟩ := cA2 BK101; obtain ⟨Ao117, co117, eo117⟩ := Kd.R_slice HO_103001.out; subst eo117))
       repeat (go_quiet (first | ((with_reducible refine gate_dst (N := 6) rfl ?_); refine box_event ?hg (N := 6) ?hd (cs := #[.int .i64 0, .string (⟨#[]⟩ : ByteArray)]) (t := 29) ?hr ?_; (case hd => rfl); (case hg => rfl); (case hr => go_simp); intro gb104 hg w102 hbox hb; have n0_ := aK (Kd.R_below HO_103000.out hb); have n1_ := aK (Kd.R_below HO_103001.out hb); have GW104 := qw HB hg; have GE104 := qw HB hg; have NB101_104 := ql BK101 hg; have NB104_101 := qg BK101 hg; have NB102_104 := ql BK102 hg; have NB104_102 := qg BK102 hg; replace BK101 := qb BK101 hb; replace BK102 := qb BK102 hb; have BK104 := aK hbox; clear HO_103000; have HO_103000 := n0_; clear n0_; clear HO_103001; have HO_103001 := n1_; clear n1_; replace HB := qs HB hb; clear hb hbox hg; have hnb103 := NB104_101.out; have hnc103 := NB101_104.out; have hnb104 := NB104_102.out; have hnc104 := NB102_104.out; obtain ⟨hcz105_0, hcz105_1, hfz105_0, hfz105_1⟩ := cA2 BK104) | (go_at_call 20; (with_reducible refine (spec_leOf.calls k1 ((rd_T29 l0 x12_1).f1) t105 t106 false _ A9.out).mono ?_); rintro e w106 ⟨v107, rfl, ho0, hb⟩; have n_ := aJ (aM (Kd.R_below (rY HO_103000 BK104) hb)) (aJ (aM (Kd.R_elder' (rY HO_103001 BK104) (Kd.R_base ho0) hb)) (aJ (aM (Kd.R_lower (Kd.R_new' ho0 (Kd.R_lt (rY HO_103001 BK104))) (below_size (pH HB)))) (aJ (bB BK101 hb) (aJ (bB BK102 hb) (aJ (aM (blk_below (g := gb104) (o := .cells #[.int .i64 ((rd_T29 l0 x12_1).f0), .string ((rd_T29 l0 x12_1).f1)] 29 (0, 0)) (bP BK104) hb)) (aM (below_step (pH HB) hb))))))); clear HO_103000 HO_103001 BK101 BK102 BK104 HB; obtain ⟨HO_103000, HO_103001, HO108, BK101, BK102, BK104, HB⟩ := n_; (try clear hb); (try clear ho0)) | ((with_reducible refine gate_dst (N := 7) rfl ?_); refine bE (N := 7) (cs := #[.int .i64 0, .slice none 0 0]) (t := 55) ?_; intro gb110 hg w107 hbox hb; have n0_ := aK (Kd.R_below HO_103000.out hb); have n1_ := aK (Kd.R_below (Kd.R_elderB HO_103001.out gb110 (Nat.le_of_eq hg.symm)) hb); have n2_ := aK (Kd.R_below (Kd.R_elderB HO108.out gb110 (Nat.le_of_eq hg.symm)) hb); have GW110 := qw HB hg; have GE110 := qw HB hg; have NB101_110 := ql BK101 hg; have NB110_101 := qg BK101 hg; have NB102_110 := ql BK102 hg; have NB110_102 := qg BK102 hg; have NB104_110 := ql BK104 hg; have NB110_104 := qg BK104 hg; replace BK101 := qb BK101 hb; replace BK102 := qb BK102 hb; replace BK104 := qb BK104 hb; have BK110 := aK hbox; clear HO_103000; have HO_103000 := n0_; clear n0_; clear HO_103001; have HO_103001 := n1_; clear n1_; clear HO108; have HO108 := n2_; clear n2_; replace HB := qs HB hb; clear hb hbox hg; have hnb108 := NB110_101.out; have hnc108 := NB101_110.out; have hnb109 := NB110_102.out; have hnc109 := NB102_110.out; have hnb110 := NB110_104.out; have hnc110 := NB104_110.out; obtain ⟨hcz111_0, hcz111_1, hfz111_0, hfz111_1⟩ := cA2 BK110; obtain ⟨Ao112, co112, eo112⟩ := Kd.R_slice HO108.out; subst eo112; have hnb113 := NB102_101.out; have hnc113 := NB101_102.out; obtain ⟨hcz114_0, hcz114_1, hfz114_0, hfz114_1⟩ := cA2 BK102; obtain ⟨Ao115, co115, eo115⟩ := Kd.R_slice HO_103000.out; subst eo115; obtain ⟨hcz116_0, hcz116_1, hfz116_0, hfz116_1⟩ := cA2 BK101; obtain ⟨Ao117, co117, eo117⟩ := Kd.R_slice HO_103001.out; subst eo117)); try go_wp2_with (first | ((with_reducible refine gate_dst (N := 6) rfl ?_); refine box_event ?hg (N := 6) ?hd (cs := #[.int .i64 0, .string (⟨#[]⟩ : ByteArray)]) (t := 29) ?hr ?_; (case hd => rfl); (case hg => rfl); (case hr => go_simp); intro gb104 hg w102 hbox hb; have n0_ := aK (Kd.R_below HO_103000.out hb); have n1_ := aK (Kd.R_below HO_103001.out hb); have GW104 := qw HB hg; have GE104 := qw HB hg; have NB101_104 := ql BK101 hg; have NB104_101 := qg BK101 hg; have NB102_104 := ql BK102 hg; have NB104_102 := qg BK102 hg; replace BK101 := qb BK101 hb; replace BK102 := qb BK102 hb; have BK104 := aK hbox; clear HO_103000; have HO_103000 := n0_; clear n0_; clear HO_103001; have HO_103001 := n1_; clear n1_; replace HB := qs HB hb; clear hb hbox hg; have hnb103 := NB104_101.out; have hnc103 := NB101_104.out; have hnb104 := NB104_102.out; have hnc104 := NB102_104.out; obtain ⟨hcz105_0, hcz105_1, hfz105_0, hfz105_1⟩ := cA2 BK104) | (go_at_call 20; (with_reducible refine (spec_leOf.calls k1 ((rd_T29 l0 x12_1).f1) t105 t106 false _ A9.out).mono ?_); rintro e w106 ⟨v107, rfl, ho0, hb⟩; have n_ := aJ (aM (Kd.R_below (rY HO_103000 BK104) hb)) (aJ (aM (Kd.R_elder' (rY HO_103001 BK104) (Kd.R_base ho0) hb)) (aJ (aM (Kd.R_lower (Kd.R_new' ho0 (Kd.R_lt (rY HO_103001 BK104))) (below_size (pH HB)))) (aJ (bB BK101 hb) (aJ (bB BK102 hb) (aJ (aM (blk_below (g := gb104) (o := .cells #[.int .i64 ((rd_T29 l0 x12_1).f0), .string ((rd_T29 l0 x12_1).f1)] 29 (0, 0)) (bP BK104) hb)) (aM (below_step (pH HB) hb))))))); clear HO_103000 HO_103001 BK101 BK102 BK104 HB; obtain ⟨HO_103000, HO_103001, HO108, BK101, BK102, BK104, HB⟩ := n_; (try clear hb); (try clear ho0)) | ((with_reducible refine gate_dst (N := 7) rfl ?_); refine bE (N := 7) (cs := #[.int .i64 0, .slice none 0 0]) (t := 55) ?_; intro gb110 hg w107 hbox hb; have n0_ := aK (Kd.R_below HO_103000.out hb); have n1_ := aK (Kd.R_below (Kd.R_elderB HO_103001.out gb110 (Nat.le_of_eq hg.symm)) hb); have n2_ := aK (Kd.R_below (Kd.R_elderB HO108.out gb110 (Nat.le_of_eq hg.symm)) hb); have GW110 := qw HB hg; have GE110 := qw HB hg; have NB101_110 := ql BK101 hg; have NB110_101 := qg BK101 hg; have NB102_110 := ql BK102 hg; have NB110_102 := qg BK102 hg; have NB104_110 := ql BK104 hg; have NB110_104 := qg BK104 hg; replace BK101 := qb BK101 hb; replace BK102 := qb BK102 hb; replace BK104 := qb BK104 hb; have BK110 := aK hbox; clear HO_103000; have HO_103000 := n0_; clear n0_; clear HO_103001; have HO_103001 := n1_; clear n1_; clear HO108; have HO108 := n2_; clear n2_; replace HB := qs HB hb; clear hb hbox hg; have hnb108 := NB110_101.out; have hnc108 := NB101_110.out; have hnb109 := NB110_102.out; have hnc109 := NB102_110.out; have hnb110 := NB110_104.out; have hnc110 := NB104_110.out; obtain ⟨hcz111_0, hcz111_1, hfz111_0, hfz111_1⟩ := cA2 BK110; obtain ⟨Ao112, co112, eo112⟩ := Kd.R_slice HO108.out; subst eo112; have hnb113 := NB102_101.out; have hnc113 := NB101_102.out; obtain ⟨hcz114_0, hcz114_1, hfz114_0, hfz114_1⟩ := cA2 BK102; obtain ⟨Ao115, co115, eo115⟩ := Kd.R_slice HO_103000.out; subst eo115; obtain ⟨hcz116_0, hcz116_1, hfz116_0, hfz116_1⟩ := cA2 BK101; obtain ⟨Ao117, co117, eo117⟩ := Kd.R_slice HO_103001.out; subst eo117)))
       refine bodyPost_ret (results_ct rfl _ _ gb101 60 #[.slice Ao115 x103000_1.length co115, .slice Ao117 x103001_1.length co117] (0, 0) _ rfl (by (with_reducible repeat first | apply zN | apply zD | apply zA); refine blk_put (cs := #[.slice Ao115 x103000_1.length co115, .slice none 0 0]) ?_ 1 _ rfl; (with_reducible repeat first | apply zN | apply zD | apply zA); refine blk_put (cs := #[.slice none 0 0, .slice none 0 0]) ?_ 0 _ rfl; (repeat first | with_reducible apply zN | with_reducible apply zD | with_reducible apply zA | refine blk_far ?_ NB101_110.out _); exact BK101.out) Tryz.underlying60 rfl (by kernel_rfl)) rfl ?_
       exact ⟨_, _, eW, by (with_reducible repeat (first | apply rA | apply rN | apply rD)); exact Kd.R_mono (Kd.R_far (p := ⟨gb101, 1, none⟩) (Kd.R_far (p := ⟨gb101, 0, none⟩) (rN (Kd.R_far (p := ⟨gb110, 1, none⟩) (Kd.R_far (p := ⟨gb110, 0, none⟩) (Kd.R_types (Kd.R_types HO_103000.out BK110.out (by decide)) BK101.out (by decide)) (fun _ hk => hk.1.2) (.int .i64 t105)) (fun _ hk => hk.1.2) (.slice Ao112 t106.length co112)) _) (fun _ hk => hk.2) (.slice Ao115 x103000_1.length co115)) (fun _ hk => hk.2) (.slice Ao117 x103001_1.length co117)) (fun _ hk => trivial), by (with_reducible repeat (first | apply rA | apply rN | apply rD)); exact Kd.R_mono (Kd.R_far (p := ⟨gb101, 1, none⟩) (Kd.R_far (p := ⟨gb101, 0, none⟩) (rN (Kd.R_far (p := ⟨gb110, 1, none⟩) (Kd.R_far (p := ⟨gb110, 0, none⟩) (Kd.R_types (Kd.R_mono HO_103001.out (fun k_ hk => (⟨hk, hk.2⟩ : _ ∧ k_ ≠ gb110))) BK101.out (by decide)) (fun _ hk => hk.1.2) (.int .i64 t105)) (fun _ hk => hk.1.2) (.slice Ao112 t106.length co112)) _) (fun _ hk => hk.2) (.slice Ao115 x103000_1.length co115)) (fun _ hk => hk.2) (.slice Ao117 x103001_1.length co117)) (fun _ hk => trivial), pH HB⟩
     ·rw [if_neg c8] at H
      exact absurd H (by simp)
    ·rw [if_neg c7] at H
     exact absurd H (by simp)
   ·rw [if_neg c6] at H
    have c6b0 : decide (x12_1 < (l0.length : Int)) = false := decide_eq_false c6
    clear c6
    simp only [Option.some.injEq, Prod.mk.injEq] at H
    obtain ⟨rfl, rfl, rfl⟩ := H
    have hnb118 := NB102_101.out
    have hnc118 := NB101_102.out
    obtain ⟨hcz119_0, hcz119_1, hfz119_0, hfz119_1⟩ := cA2 BK102
    obtain ⟨Ao120, co120, eo120⟩ := Kd.R_slice HO_103000.out
    subst eo120
    obtain ⟨hcz121_0, hcz121_1, hfz121_0, hfz121_1⟩ := cA2 BK101
    obtain ⟨Ao122, co122, eo122⟩ := Kd.R_slice HO_103001.out
    subst eo122
    go_wp2
    repeat (go_quiet (fail); try go_wp2)
    refine bodyPost_ret (results_ct rfl _ _ gb101 60 #[.slice Ao120 x103000_1.length co120, .slice Ao122 x103001_1.length co122] (0, 0) _ rfl (bP BK101) Tryz.underlying60 rfl (by kernel_rfl)) rfl ?_
    exact ⟨_, _, eW, by (with_reducible repeat (first | apply rA | apply rN | apply rD)); exact Kd.R_mono (Kd.R_far (p := ⟨gb101, 1, none⟩) (Kd.R_far (p := ⟨gb101, 0, none⟩) (Kd.R_types HO_103000.out BK101.out (by decide)) (fun _ hk => hk.2) (.slice Ao120 x103000_1.length co120)) (fun _ hk => hk.2) (.slice Ao122 x103001_1.length co122)) (fun _ hk => trivial), by (with_reducible repeat (first | apply rA | apply rN | apply rD)); exact Kd.R_mono (Kd.R_far (p := ⟨gb101, 1, none⟩) (Kd.R_far (p := ⟨gb101, 0, none⟩) (Kd.R_types HO_103001.out BK101.out (by decide)) (fun _ hk => hk.2) (.slice Ao120 x103000_1.length co120)) (fun _ hk => hk.2) (.slice Ao122 x103001_1.length co122)) (fun _ hk => trivial), pH HB⟩

end Go.Proofs.YteffjlhljeodpaaGreatDoor.G
