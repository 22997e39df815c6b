/- Part 3 of 5 of the proof that the law FnExactCombOfTermSaid holds: for every input that can be read the call returns true and leaves its arguments as they were; no condition but those each theorem names. -/
import Derived.Test.YtcjhhdecckcibaaQCombOfTermW1
import Derived.Test.YtcjhhdecckcibaaQCombOfTerm1
import Derived.Test.YtcjhhdecckcibaaQCombOfTerm2
namespace Go.Proofs.Ytcjhhdecckcibaa.G
open Go.RowKit Go.Proofs.YtcjhhdecckcibaaW.PrintWords Go.Proofs.YtcjhhdecckcibaaW.PrintLast Go.Proofs.YtcjhhdecckcibaaW.PrintMore
attribute [local go_sem] max2_int min2_int max_two min_two max_three min_three max_four min_four   -- for this text's walks alone
set_option linter.unusedVariables false
set_option linter.unusedSimpArgs false

def impl_termOf.j0 : Nat → List (S62) → Bool → Option (Int × Int × (List (S68)) × Bool)
 | 0, _, _ => none
 | k + 1, x0, x14 => if x14 = true then (some (0, 0, ([] : List (S68)), false)) else ((impl_termAt.f k x0 0 (-1)).bind fun bt102 => (if bt102.2.2.2.2 = true then (if bt102.2.2.2.1 = (x0.length : Int) then ((impl_term_isGood.f k bt102.1 bt102.2.1 bt102.2.2.1).bind fun t110 => (some (bt102.1, bt102.2.1, bt102.2.2.1, t110))) else (some (bt102.1, bt102.2.1, bt102.2.2.1, false))) else (some (bt102.1, bt102.2.1, bt102.2.2.1, false))))
def impl_termOf.f (k : Nat) (l0 : List (S62)) : Option (Int × Int × (List (S68)) × Bool) := if (l0.length : Int) < 1 then (impl_termOf.j0 k l0 true) else (impl_termOf.j0 k l0 (decide ((l0.length : Int) > 150)))
def impl_termOf.T4 : Bool × List (List Nat × List Nat) := (true, [([], []), ([], []), ([1], [1]), ([2], [2]), ([2], [2]), ([4, 2], [2, 4]), ([3, 5, 2], [2, 3, 5]), ([2, 6], [2, 6]), ([7, 2], [7]), ([8], [8]), ([9, 8, 8], [8, 9]), ([8, 10], [8, 10]), ([0, 10, 0], [0]), ([11, 12, 0, 1, 2, 3, 4, 5, 6, 7, 8, 9, 10, 11, 12], [11])])
def impl_termOf.B4 : List Nat := [0, 0, 2, 6, 6, 22, 62, 126, 254, 510, 1022, 2046, 2047, 8191]
theorem impl_termOf.tab4 : rtab .any (opsOf Try.f46 4) = impl_termOf.T4 := by kernel_rfl
theorem impl_termOf.bits4 : waitsOk impl_termOf.T4.2 impl_termOf.B4 = true := by kernel_rfl
set_option maxHeartbeats 8000000 in
set_option maxRecDepth 100000 in
theorem impl_termOf.calls (k : Nat) (A0 : Option Addr) (c0 : Nat) (l0 : List (S62)) (r1 : Int) (r2 : Int) (r3 : List (S68)) (r4 : Bool) (w : World) (hr0 : Kd.C k62 w A0 l0.length l0) (hc0 : l0.length ≤ c0) (h : impl_termOf.f k l0 = some (r1, r2, r3, r4)) :
  Calls Try.prog 46 #[.slice A0 l0.length c0] w fun e w' => ∃ v2_ : Value, e = .returned (.tuple #[.agg #[.int .i64 r1, .int .i64 r2, v2_], .bool r4]) ∧ Kd.R k68 68 w' w.heap.size (fun _ => True) v2_ r3 ∧ Below w.heap.size w w' := by
 have hu68 := Try.underlying68
 have HR0 := aK hr0
 have HC0 := aK hc0
 clear hr0 hc0
 have HB := aK (Below.refl w.heap.size w)
 have H : (if (l0.length : Int) < 1 then (impl_termOf.j0 k l0 true) else (impl_termOf.j0 k l0 (decide ((l0.length : Int) > 150)))) = some (r1, r2, r3, r4) := h
 clear h
 have HC2 := aK H
 clear H
 go_enter Try.func46, Try.ntmps46
 go_upto_region 1 with (first | ((with_reducible refine gate_dst (N := 2) rfl ?_); (try (refine gate_guard (by rfl) ?_; dsimp only)); refine bE (N := 2) (cs := #[.int .i64 0, .int .i64 0, .slice none 0 0]) (t := 68) ?_; intro gb101 hg w3 hbox hb; have GW101 := qw HB hg; have GE101 := qw HB hg; have BK101 := aK hbox; replace HB := qs HB hb; clear hb hbox hg))
 (try simp only [Act.put, List.setIfInBounds_toArray, List.set_cons_zero, List.set_cons_succ])
 go_cut [14] (fun v14 wc => ∃ (kq : Nat) (x14_1 : Bool), v14 = .bool x14_1 ∧ Aside0 (impl_termOf.j0 kq l0 x14_1 = some (r1, r2, r3, r4)) ∧ Aside0 (kq ≤ k) ∧ Aside0 (wc.heap[gb101]? = some (.cells #[.int .i64 0, .int .i64 0, (.slice none 0 0)] 68 (0, 0))) ∧ Aside0 (Below w.heap.size w wc))
 case first =>
  have H := HC2.out
  clear HC2
  by_cases c4 : (l0.length : Int) < 1
  ·rw [if_pos c4] at H
   have c4b0 : decide ((l0.length : Int) < 1) = true := decide_eq_true c4
   have c4b1 : decide (l0.length < 1) = true := decide_eq_true (by omega)
   clear c4
   (first | rw [c4b0] | (simp only [i64_w, i32_w]; rw [c4b0]) | skip)
   have H' := aK H
   clear H
   go_wp2
   go_meet
   case rel => exact ⟨_, (true), rS, H', ⟨by first | omega | exact Nat.le_refl _⟩, ⟨pB BK101⟩, ⟨pH HB⟩⟩
  ·rw [if_neg c4] at H
   have c4b0 : decide ((l0.length : Int) < 1) = false := decide_eq_false c4
   have c4b1 : decide (l0.length < 1) = false := decide_eq_false (by omega)
   clear c4
   (first | rw [c4b0] | (simp only [i64_w, i32_w]; rw [c4b0]) | skip)
   have H' := aK H
   clear H
   go_wp2
   go_meet
   case rel => exact ⟨_, (decide ((l0.length : Int) > 150)), rS, H', ⟨by first | omega | exact Nat.le_refl _⟩, ⟨pB BK101⟩, ⟨pH HB⟩⟩
 case rest =>
  clear HC2
  try clear p2
  try clear c4
  try clear c4b0
  try clear c4b1
  obtain ⟨kq, x14_1, rfl, HA, HJ1, BK101, HB⟩ := hcut
  cases kq with
  | zero => exact absurd HA.out (by simp [impl_termOf.j0])
  | succ kj1 =>
   have H := HA.out
   clear HA
   simp only [impl_termOf.j0] at H
   by_cases c5 : x14_1 = true
   ·subst c5
    rw [if_pos rfl] at H
    simp only [Option.some.injEq, Prod.mk.injEq] at H
    obtain ⟨rfl, rfl, rfl, rfl⟩ := H
    have hcz6_0 := k30 BK101
    have hcz6_1 := k31 BK101
    have hcz6_2 := k32 BK101
    have hfz6_0 := fz BK101 0
    have hfz6_1 := fz BK101 1
    have hfz6_2 := fz BK101 2
    go_wp2
    refine bodyPost_ret (results_ct rfl _ _ gb101 68 #[.int .i64 0, .int .i64 0, .slice none 0 0] (0, 0) _ rfl (p3 BK101) Try.underlying68 rfl (by kernel_rfl)) rfl ?_
    exact ⟨_, eW, by first | exact Kd.R_nil _ _ _ _ _ | exact Kd.N_nil _ _ _ _ _ | exact Kd.V_nil _ _ _ _ _ | exact Kd.Q_nil _ _ _ _ _ | exact Kd.S_nil _ _ _ _ _, pH HB⟩
   ·replace c5 := Bool.eq_false_iff.mpr c5
    subst c5
    rw [if_neg (show ¬ (false = true) by decide)] at H
    replace H := Option.bind_eq_some_iff.mp H
    obtain ⟨⟨t102, t103, t104, t107, t108⟩, A70, H⟩ := H
    try dsimp only at H
    have A7 := aK A70
    clear A70
    by_cases c8 : t108 = true
    ·subst c8
     rw [if_pos rfl] at H
     by_cases c9 : t107 = (l0.length : Int)
     ·rw [if_pos c9] at H
      have c9b0 : (t107 == (l0.length : Int)) = true := beq_iff_eq.mpr c9
      have c9b1 : (t107 != (l0.length : Int)) = false := bne_eq_false_iff_eq.mpr c9
      clear c9
      replace H := Option.bind_eq_some_iff.mp H
      obtain ⟨t110, A100, H⟩ := H
      try dsimp only at H
      have A10 := aK A100
      clear A100
      simp only [Option.some.injEq, Prod.mk.injEq] at H
      obtain ⟨rfl, rfl, rfl, rfl⟩ := H
      try go_wp2_with (first | ((with_reducible refine gate_callee (f := 65) rfl ?_); refine goesL_ (some 18) rfl rfl Try.func65 (by kernel_rfl) rfl #[.slice A0 l0.length c0, .int .i64 0, .int .i64 (-1)] rfl tA ?_; (with_reducible refine (impl_termAt.calls kj1 _ _ l0 0 (-1) t102 t103 t104 t107 true _ ?side1 ?side2 A7.out).mono ?_); (case side1 => exact sC (Kd.C_below HR0.out HB.out)); (case side2 => exact HC0.out); rintro e w11 ⟨v105, rfl, ho0, hb⟩; refine ⟨_, rfl, ?_⟩; have HO106 := aK (Kd.R_lower (Kd.R_newB ho0 BK101.out) (below_size HB.out)); replace BK101 := qb BK101 hb; replace HB := qs HB hb; (try clear hb); (try clear ho0)) | ((with_reducible refine gate_dst (N := 4) rfl ?_); (try (refine gate_guard (by rfl) ?_; dsimp only)); refine bE (N := 4) (cs := #[.int .i64 0, .int .i64 0, .slice none 0 0]) (t := 68) ?_; intro gb109 hg w12 hbox hb; have n0_ := aK (Kd.R_below (Kd.R_elderB HO106.out gb109 (Nat.le_of_eq hg.symm)) hb); have GW109 := qw HB hg; have GE109 := qw HB hg; have NB101_109 := ql BK101 hg; have NB109_101 := qg BK101 hg; replace BK101 := qb BK101 hb; have BK109 := aK hbox; clear HO106; have HO106 := n0_; clear n0_; replace HB := qs HB hb; clear hb hbox hg; have hnb13 := NB109_101.out; have hnc13 := NB101_109.out; have hcz14_0 := k30 BK109; have hcz14_1 := k31 BK109; have hcz14_2 := k32 BK109; have hfz14_0 := fz BK109 0; have hfz14_1 := fz BK109 1; have hfz14_2 := fz BK109 2; obtain ⟨Ao15, co15, eo15⟩ := Kd.R_slice HO106.out; subst eo15))
      have n0_ : Aside0 (Kd.R k68 68 (((w12.setCell ⟨gb109, 0, none⟩ (.int .i64 t102)).setCell ⟨gb109, 1, none⟩ (.int .i64 t103)).setCell ⟨gb109, 2, none⟩ (.slice Ao15 t104.length co15)) w.heap.size (fun k_ => k_ ≠ gb101 ∧ k_ ≠ gb109) (.slice Ao15 t104.length co15) t104) := ⟨by (with_reducible repeat (first | apply Kd.R_alloc | apply Kd.R_drewN | apply Kd.R_drew)); exact Kd.R_mono (Kd.R_far (p := ⟨gb109, 2, none⟩) (Kd.R_far (p := ⟨gb109, 1, none⟩) (Kd.R_far (p := ⟨gb109, 0, none⟩) (Kd.R_mono HO106.out (fun k_ hk => (⟨hk, hk.2⟩ : _ ∧ k_ ≠ gb109))) (fun _ hk => hk.2) (.int .i64 t102)) (fun _ hk => hk.2) (.int .i64 t103)) (fun _ hk => hk.2) (.slice Ao15 t104.length co15)) (fun _ hk => ⟨hk.1.1.2, hk.1.2⟩)⟩
      have n1_ : Aside0 ((((w12.setCell ⟨gb109, 0, none⟩ (.int .i64 t102)).setCell ⟨gb109, 1, none⟩ (.int .i64 t103)).setCell ⟨gb109, 2, none⟩ (.slice Ao15 t104.length co15)).heap[gb101]? = some (.cells #[.int .i64 0, .int .i64 0, .slice none 0 0] 68 (0, 0))) := ⟨by (repeat first | with_reducible apply zN | with_reducible apply zD | with_reducible apply zA | refine blk_far ?_ NB101_109.out _); exact BK101.out⟩
      have n2_ : Aside0 ((((w12.setCell ⟨gb109, 0, none⟩ (.int .i64 t102)).setCell ⟨gb109, 1, none⟩ (.int .i64 t103)).setCell ⟨gb109, 2, none⟩ (.slice Ao15 t104.length co15)).heap[gb109]? = some (.cells #[.int .i64 t102, .int .i64 t103, .slice Ao15 t104.length co15] 68 (0, 0))) := ⟨p3 BK109⟩
      have n3_ : Aside0 (Below w.heap.size w (((w12.setCell ⟨gb109, 0, none⟩ (.int .i64 t102)).setCell ⟨gb109, 1, none⟩ (.int .i64 t103)).setCell ⟨gb109, 2, none⟩ (.slice Ao15 t104.length co15))) := ⟨pH HB⟩
      (try clear HO106)
      (try clear BK101)
      (try clear BK109)
      (try clear HB)
      generalize (((w12.setCell ⟨gb109, 0, none⟩ (.int .i64 t102)).setCell ⟨gb109, 1, none⟩ (.int .i64 t103)).setCell ⟨gb109, 2, none⟩ (.slice Ao15 t104.length co15)) = w16 at n0_ n1_ n2_ n3_ ⊢
      have HO106 := n0_
      have BK101 := n1_
      have BK109 := n2_
      have HB := n3_
      clear n0_ n1_ n2_ n3_
      have n0_ := aK (Kd.R_drew HO106.out)
      have n1_ := aK (blk_drew BK101.out)
      have n2_ := aK (blk_drew BK109.out)
      have n3_ := aK (below_drew1 HB.out)
      clear HO106
      clear BK101
      clear BK109
      clear HB
      have HO106 := n0_
      have BK101 := n1_
      have BK109 := n2_
      have HB := n3_
      clear n0_ n1_ n2_ n3_
      refine start_ (n := 14) (S := fun w' => w'.cell? ⟨gb109, 0, none⟩ = some (.int .i64 t102) ∧ w'.cell? ⟨gb109, 1, none⟩ = some (.int .i64 t103) ∧ w'.cell? ⟨gb109, 2, none⟩ = some (.slice Ao15 t104.length co15)) (ds := []) (bs 0 14) (by kernel_rfl) rfl rfl ⟨(blk_cell BK109.out 0).trans rfl, (blk_cell BK109.out 1).trans rfl, (blk_cell BK109.out 2).trans rfl⟩ (fun hHeld => ?_); refine with_tabW impl_termOf.tab4 impl_termOf.bits4 (fun HT_ HW_ => ?_)
      generalize w16.drew = w17 at HO106 BK101 BK109 HB hHeld ⊢
      refine pure_ (i := 1) (N := some 23) (v := ?_) (a' := ?_) #[false, true, false, false, false, false, false, false, false, false, false, false, false, false] rfl rfl (any_of HT_.out (by kernel_rfl)) (fun _ _ _ h => h) (Or.inl ⟨by rfl, ?_⟩) ?_ ?_
      rotate_left
      ·intro w'
       go_simp
       with_reducible rfl
      rotate_left
      ·simp only [sP, i64_w, i32_w]
       rfl
      refine pure_ (i := 2) (N := some 24) (v := ?_) (a' := ?_) #[false, true, true, false, false, false, false, false, false, false, false, false, false, false] rfl rfl (any_of HT_.out (by kernel_rfl)) (fun _ _ _ h => h) (Or.inl ⟨by rfl, ?_⟩) ?_ ?_
      rotate_left
      ·intro w'
       go_simp
       with_reducible rfl
      rotate_left
      ·simp only [sP, i64_w, i32_w]
       rfl
      refine pure_ (i := 3) (N := some 25) (v := ?_) (a' := ?_) #[false, true, true, true, false, false, false, false, false, false, false, false, false, false] rfl rfl (any_of HT_.out (by kernel_rfl)) (fun _ _ _ h => h) (Or.inl ⟨by rfl, ?_⟩) ?_ ?_
      rotate_left
      ·intro w'
       go_simp
       with_reducible rfl
      rotate_left
      ·simp only [sP, i64_w, i32_w]
       rfl
      refine pure_ (i := 4) (N := some 26) (v := ?_) (a' := ?_) #[false, true, true, true, true, false, false, false, false, false, false, false, false, false] rfl rfl (any_of HT_.out (by kernel_rfl)) (fun _ _ _ h => h) (Or.inl ⟨by rfl, ?_⟩) ?_ ?_
      rotate_left
      ·intro w'
       go_simp
       with_reducible rfl
      rotate_left
      ·simp only [sP, i64_w, i32_w]
       rfl
      refine pure_ (i := 5) (N := some 27) (v := ?_) (a' := ?_) #[false, true, true, true, true, true, false, false, false, false, false, false, false, false] rfl rfl (any_of HT_.out (by kernel_rfl)) (fun _ _ _ h => h) (Or.inl ⟨by rfl, ?_⟩) ?_ ?_
      rotate_left
      ·intro w'
       go_simp
       with_reducible rfl
      rotate_left
      ·simp only [sP, i64_w, i32_w]
       rfl
      refine pure_ (i := 6) (N := some 28) (v := ?_) (a' := ?_) #[false, true, true, true, true, true, true, false, false, false, false, false, false, false] rfl rfl (any_of HT_.out (by kernel_rfl)) (fun _ _ _ h => h) (Or.inl ⟨by rfl, ?_⟩) ?_ ?_
      rotate_left
      ·intro w'
       go_simp
       with_reducible rfl
      rotate_left
      ·simp only [sP, i64_w, i32_w]
       rfl
      refine pure_ (i := 7) (N := some 29) (v := ?_) (a' := ?_) #[false, true, true, true, true, true, true, true, false, false, false, false, false, false] rfl rfl (any_of HT_.out (by kernel_rfl)) (fun _ _ _ h => h) (Or.inl ⟨by rfl, ?_⟩) ?_ ?_
      rotate_left
      ·intro w'
       go_simp
       with_reducible rfl
      rotate_left
      ·simp only [sP, i64_w, i32_w]
       rfl
      refine pure_ (i := 8) (N := some 30) (v := ?_) (a' := ?_) #[false, true, true, true, true, true, true, true, true, false, false, false, false, false] rfl rfl (any_of HT_.out (by kernel_rfl)) (fun _ _ _ h => h) (Or.inl ⟨by rfl, ?_⟩) ?_ ?_
      rotate_left
      ·intro w'
       go_simp
       with_reducible rfl
      rotate_left
      ·simp only [sP, i64_w, i32_w]
       rfl
      refine take_ (i := 0) (N := some 22) (v := ?_) (a' := ?_) (bs 9 5) rfl rfl (take_ofW HT_.out HW_.out (by kernel_rfl)) (fun _ _ _ h => h) (Or.inl ⟨by rfl, ?_⟩) hHeld ?_ ?_
      rotate_left
      ·rintro w' ⟨s0, s1, s2⟩
       go_simp
       with_reducible rfl
      rotate_left
      ·simp only [sP, i64_w, i32_w]
       rfl
      refine take_ (i := 9) (N := some 31) (v := ?_) (a' := ?_) (bs 10 4) rfl rfl (take_ofW HT_.out HW_.out (by kernel_rfl)) (fun _ _ _ h => h) (Or.inl ⟨by rfl, ?_⟩) hHeld ?_ ?_
      rotate_left
      ·rintro w' ⟨s0, s1, s2⟩
       go_simp
       with_reducible rfl
      rotate_left
      ·simp only [sP, i64_w, i32_w]
       rfl
      refine one_ (i := 10) (N := some 32) (bs 11 3) rfl rfl (one_of HT_.out (by kernel_rfl)) (by decide) (fun K hK => ?_)
      refine goes_ Try.func66 (by kernel_rfl) rfl #[.agg #[.int .i64 t102, .int .i64 t103, .slice Ao15 t104.length co15]] (by rfl) rfl rfl tA ?_
      with_reducible refine (impl_term_isGood.calls kj1 t102 t103 _ _ t104 t110 _ ?side1 ?side2 A10.out).mono ?_
      (case side1 => exact sC ((Kd.R_reads' HO106.out).2.2))
      (case side2 => exact (Kd.R_reads' HO106.out).2.1)
      rintro e w18 ⟨rfl, hb⟩
      refine ⟨_, rfl, ?_⟩
      have n0_ := aK (Kd.R_below HO106.out hb)
      have n1_ := aK (blk_below BK101.out hb)
      have n2_ := aK (blk_below BK109.out hb)
      have n3_ := aK (below_step (pH HB) hb)
      clear HO106
      clear BK101
      clear BK109
      clear HB
      have HO106 := n0_
      have BK101 := n1_
      have BK109 := n2_
      have HB := n3_
      clear n0_ n1_ n2_ n3_
      (try clear hb)
      (try clear hb2)
      (try clear hk)
      (try clear hi)
      refine hK.out _ _ ⟨(blk_cell BK109.out 0).trans rfl, (blk_cell BK109.out 1).trans rfl, (blk_cell BK109.out 2).trans rfl⟩ (fun hHeld => ?_)
      clear hK K
      refine norm_ (a' := ?_) ?_ ?_
      rotate_left
      ·show Act.put _ (some 32) _ = _
       simp only [sP, i64_w, i32_w]
       rfl
      refine pure_ (i := 11) (N := some 33) (v := ?_) (a' := ?_) (bs 12 2) rfl rfl (any_of HT_.out (by kernel_rfl)) (fun _ _ _ h => h) (Or.inl ⟨by rfl, ?_⟩) ?_ ?_
      rotate_left
      ·intro w'
       go_simp
       with_reducible rfl
      rotate_left
      ·simp only [sP, i64_w, i32_w]
       rfl
      refine one_ (i := 12) (N := none) (bs 13 1) rfl rfl (one_of HT_.out (by kernel_rfl)) (by decide) (fun K hK => ?_)
      have hs19 : w18.cell? ⟨gb101, 0, none⟩ = some (.int .i64 0) := (blk_cell BK101.out 0).trans rfl
      have hfs19 := blk_frozen BK101.out 0
      have hns19_1 := NB109_101.out
      have hms19_1 := NB101_109.out
      have hs20 : w18.cell? ⟨gb101, 1, none⟩ = some (.int .i64 0) := (blk_cell BK101.out 1).trans rfl
      have hfs20 := blk_frozen BK101.out 1
      have hns20_1 := NB109_101.out
      have hms20_1 := NB101_109.out
      have hs21 : w18.cell? ⟨gb101, 2, none⟩ = some (.slice none 0 0) := (blk_cell BK101.out 2).trans rfl
      have hfs21 := blk_frozen BK101.out 2
      have hns21_1 := NB109_101.out
      have hms21_1 := NB101_109.out
      refine skip_ (w1 := ?_) (by rfl) rfl ?_ ?_
      rotate_left
      ·go_simp
       rfl
      refine hK.out _ _ ⟨((cell_far (p := ⟨gb101, _, none⟩) NB109_101.out _).trans (((cell_far (p := ⟨gb101, _, none⟩) NB109_101.out _).trans (((cell_far (p := ⟨gb101, _, none⟩) NB109_101.out _).trans (hHeld.1)))))), ((cell_far (p := ⟨gb101, _, none⟩) NB109_101.out _).trans (((cell_far (p := ⟨gb101, _, none⟩) NB109_101.out _).trans (((cell_far (p := ⟨gb101, _, none⟩) NB109_101.out _).trans (hHeld.2.1)))))), ((cell_far (p := ⟨gb101, _, none⟩) NB109_101.out _).trans (((cell_far (p := ⟨gb101, _, none⟩) NB109_101.out _).trans (((cell_far (p := ⟨gb101, _, none⟩) NB109_101.out _).trans (hHeld.2.2))))))⟩ (fun hHeld => ?_)
      clear hK K
      refine pure_ (i := 13) (N := some 3) (v := ?_) (a' := ?_) (bs 14 0) rfl rfl (any_of HT_.out (by kernel_rfl)) (fun _ _ _ h => h) (Or.inl ⟨by rfl, ?_⟩) ?_ ?_
      rotate_left
      ·intro w'
       go_simp
       with_reducible rfl
      rotate_left
      ·simp only [sP, i64_w, i32_w]
       rfl
      refine done_ (done_of HT_.out (by kernel_rfl)) ?_
      try go_wp2
      refine bodyPost_ret (results_ct rfl _ _ gb101 68 #[.int .i64 t102, .int .i64 t103, .slice Ao15 t104.length co15] (0, 0) _ rfl (p3 BK101) Try.underlying68 rfl (by kernel_rfl)) rfl ?_
      exact ⟨_, eW, by (with_reducible repeat (first | apply Kd.R_alloc | apply Kd.R_drewN | apply Kd.R_drew)); exact Kd.R_mono (Kd.R_far (p := ⟨gb101, 2, none⟩) (Kd.R_far (p := ⟨gb101, 1, none⟩) (Kd.R_far (p := ⟨gb101, 0, none⟩) (Kd.R_mono HO106.out (fun k_ hk => (⟨hk, hk.1⟩ : _ ∧ k_ ≠ gb101))) (fun _ hk => hk.2) (.int .i64 t102)) (fun _ hk => hk.2) (.int .i64 t103)) (fun _ hk => hk.2) (.slice Ao15 t104.length co15)) (fun _ hk => trivial), pH HB⟩
     ·rw [if_neg c9] at H
      have c9b0 : (t107 == (l0.length : Int)) = false := beq_eq_false_iff_ne.mpr c9
      have c9b1 : (t107 != (l0.length : Int)) = true := bne_iff_ne.mpr c9
      simp only [Option.some.injEq, Prod.mk.injEq] at H
      obtain ⟨rfl, rfl, rfl, rfl⟩ := H
      try go_wp2_with (first | ((with_reducible refine gate_callee (f := 65) rfl ?_); refine goesL_ (some 18) rfl rfl Try.func65 (by kernel_rfl) rfl #[.slice A0 l0.length c0, .int .i64 0, .int .i64 (-1)] rfl tA ?_; (with_reducible refine (impl_termAt.calls kj1 _ _ l0 0 (-1) t102 t103 t104 t107 true _ ?side1 ?side2 A7.out).mono ?_); (case side1 => exact sC (Kd.C_below HR0.out HB.out)); (case side2 => exact HC0.out); rintro e w22 ⟨v105, rfl, ho0, hb⟩; refine ⟨_, rfl, ?_⟩; have HO106 := aK (Kd.R_lower (Kd.R_newB ho0 BK101.out) (below_size HB.out)); replace BK101 := qb BK101 hb; replace HB := qs HB hb; (try clear hb); (try clear ho0)) | ((with_reducible refine gate_dst (N := 4) rfl ?_); (try (refine gate_guard (by rfl) ?_; dsimp only)); refine bE (N := 4) (cs := #[.int .i64 0, .int .i64 0, .slice none 0 0]) (t := 68) ?_; intro gb109 hg w23 hbox hb; have n0_ := aK (Kd.R_below (Kd.R_elderB HO106.out gb109 (Nat.le_of_eq hg.symm)) hb); have GW109 := qw HB hg; have GE109 := qw HB hg; have NB101_109 := ql BK101 hg; have NB109_101 := qg BK101 hg; replace BK101 := qb BK101 hb; have BK109 := aK hbox; clear HO106; have HO106 := n0_; clear n0_; replace HB := qs HB hb; clear hb hbox hg; have hnb24 := NB109_101.out; have hnc24 := NB101_109.out; have hcz25_0 := k30 BK109; have hcz25_1 := k31 BK109; have hcz25_2 := k32 BK109; have hfz25_0 := fz BK109 0; have hfz25_1 := fz BK109 1; have hfz25_2 := fz BK109 2; obtain ⟨Ao26, co26, eo26⟩ := Kd.R_slice HO106.out; subst eo26))
      have n0_ : Aside0 (Kd.R k68 68 (((w23.setCell ⟨gb109, 0, none⟩ (.int .i64 t102)).setCell ⟨gb109, 1, none⟩ (.int .i64 t103)).setCell ⟨gb109, 2, none⟩ (.slice Ao26 t104.length co26)) w.heap.size (fun k_ => k_ ≠ gb101 ∧ k_ ≠ gb109) (.slice Ao26 t104.length co26) t104) := ⟨by (with_reducible repeat (first | apply Kd.R_alloc | apply Kd.R_drewN | apply Kd.R_drew)); exact Kd.R_mono (Kd.R_far (p := ⟨gb109, 2, none⟩) (Kd.R_far (p := ⟨gb109, 1, none⟩) (Kd.R_far (p := ⟨gb109, 0, none⟩) (Kd.R_mono HO106.out (fun k_ hk => (⟨hk, hk.2⟩ : _ ∧ k_ ≠ gb109))) (fun _ hk => hk.2) (.int .i64 t102)) (fun _ hk => hk.2) (.int .i64 t103)) (fun _ hk => hk.2) (.slice Ao26 t104.length co26)) (fun _ hk => ⟨hk.1.1.2, hk.1.2⟩)⟩
      have n1_ : Aside0 ((((w23.setCell ⟨gb109, 0, none⟩ (.int .i64 t102)).setCell ⟨gb109, 1, none⟩ (.int .i64 t103)).setCell ⟨gb109, 2, none⟩ (.slice Ao26 t104.length co26)).heap[gb101]? = some (.cells #[.int .i64 0, .int .i64 0, .slice none 0 0] 68 (0, 0))) := ⟨by (repeat first | with_reducible apply zN | with_reducible apply zD | with_reducible apply zA | refine blk_far ?_ NB101_109.out _); exact BK101.out⟩
      have n2_ : Aside0 ((((w23.setCell ⟨gb109, 0, none⟩ (.int .i64 t102)).setCell ⟨gb109, 1, none⟩ (.int .i64 t103)).setCell ⟨gb109, 2, none⟩ (.slice Ao26 t104.length co26)).heap[gb109]? = some (.cells #[.int .i64 t102, .int .i64 t103, .slice Ao26 t104.length co26] 68 (0, 0))) := ⟨p3 BK109⟩
      have n3_ : Aside0 (Below w.heap.size w (((w23.setCell ⟨gb109, 0, none⟩ (.int .i64 t102)).setCell ⟨gb109, 1, none⟩ (.int .i64 t103)).setCell ⟨gb109, 2, none⟩ (.slice Ao26 t104.length co26))) := ⟨pH HB⟩
      (try clear HO106)
      (try clear BK101)
      (try clear BK109)
      (try clear HB)
      generalize (((w23.setCell ⟨gb109, 0, none⟩ (.int .i64 t102)).setCell ⟨gb109, 1, none⟩ (.int .i64 t103)).setCell ⟨gb109, 2, none⟩ (.slice Ao26 t104.length co26)) = w27 at n0_ n1_ n2_ n3_ ⊢
      have HO106 := n0_
      have BK101 := n1_
      have BK109 := n2_
      have HB := n3_
      clear n0_ n1_ n2_ n3_
      have n0_ := aK (Kd.R_drew HO106.out)
      have n1_ := aK (blk_drew BK101.out)
      have n2_ := aK (blk_drew BK109.out)
      have n3_ := aK (below_drew1 HB.out)
      clear HO106
      clear BK101
      clear BK109
      clear HB
      have HO106 := n0_
      have BK101 := n1_
      have BK109 := n2_
      have HB := n3_
      clear n0_ n1_ n2_ n3_
      refine start_ (n := 14) (S := fun w' => w'.cell? ⟨gb109, 0, none⟩ = some (.int .i64 t102) ∧ w'.cell? ⟨gb109, 1, none⟩ = some (.int .i64 t103) ∧ w'.cell? ⟨gb109, 2, none⟩ = some (.slice Ao26 t104.length co26)) (ds := []) (bs 0 14) (by kernel_rfl) rfl rfl ⟨(blk_cell BK109.out 0).trans rfl, (blk_cell BK109.out 1).trans rfl, (blk_cell BK109.out 2).trans rfl⟩ (fun hHeld => ?_); refine with_tabW impl_termOf.tab4 impl_termOf.bits4 (fun HT_ HW_ => ?_)
      generalize w27.drew = w28 at HO106 BK101 BK109 HB hHeld ⊢
      refine pure_ (i := 1) (N := some 23) (v := ?_) (a' := ?_) #[false, true, false, false, false, false, false, false, false, false, false, false, false, false] rfl rfl (any_of HT_.out (by kernel_rfl)) (fun _ _ _ h => h) (Or.inl ⟨by rfl, ?_⟩) ?_ ?_
      rotate_left
      ·intro w'
       go_simp
       with_reducible rfl
      rotate_left
      ·simp only [sP, i64_w, i32_w]
       rfl
      refine pure_ (i := 2) (N := some 24) (v := ?_) (a' := ?_) #[false, true, true, false, false, false, false, false, false, false, false, false, false, false] rfl rfl (any_of HT_.out (by kernel_rfl)) (fun _ _ _ h => h) (Or.inl ⟨by rfl, ?_⟩) ?_ ?_
      rotate_left
      ·intro w'
       go_simp
       with_reducible rfl
      rotate_left
      ·simp only [sP, i64_w, i32_w]
       rfl
      refine pure_ (i := 3) (N := some 25) (v := ?_) (a' := ?_) #[false, true, true, true, false, false, false, false, false, false, false, false, false, false] rfl rfl (any_of HT_.out (by kernel_rfl)) (fun _ _ _ h => h) (Or.inl ⟨by rfl, ?_⟩) ?_ ?_
      rotate_left
      ·intro w'
       go_simp
       with_reducible rfl
      rotate_left
      ·simp only [sP, i64_w, i32_w]
       rfl
      refine pure_ (i := 4) (N := some 26) (v := ?_) (a' := ?_) #[false, true, true, true, true, false, false, false, false, false, false, false, false, false] rfl rfl (any_of HT_.out (by kernel_rfl)) (fun _ _ _ h => h) (Or.inl ⟨by rfl, ?_⟩) ?_ ?_
      rotate_left
      ·intro w'
       go_simp
       with_reducible rfl
      rotate_left
      ·simp only [sP, i64_w, i32_w]
       rfl
      refine pure_ (i := 5) (N := some 27) (v := ?_) (a' := ?_) #[false, true, true, true, true, true, false, false, false, false, false, false, false, false] rfl rfl (any_of HT_.out (by kernel_rfl)) (fun _ _ _ h => h) (Or.inl ⟨by rfl, ?_⟩) ?_ ?_
      rotate_left
      ·intro w'
       go_simp
       with_reducible rfl
      rotate_left
      ·simp only [sP, i64_w, i32_w]
       rfl
      refine pure_ (i := 6) (N := some 28) (v := ?_) (a' := ?_) #[false, true, true, true, true, true, true, false, false, false, false, false, false, false] rfl rfl (any_of HT_.out (by kernel_rfl)) (fun _ _ _ h => h) (Or.inl ⟨by rfl, ?_⟩) ?_ ?_
      rotate_left
      ·intro w'
       go_simp
       with_reducible rfl
      rotate_left
      ·simp only [sP, i64_w, i32_w]
       rfl
      refine pure_ (i := 7) (N := some 29) (v := ?_) (a' := ?_) #[false, true, true, true, true, true, true, true, false, false, false, false, false, false] rfl rfl (any_of HT_.out (by kernel_rfl)) (fun _ _ _ h => h) (Or.inl ⟨by rfl, ?_⟩) ?_ ?_
      rotate_left
      ·intro w'
       go_simp
       with_reducible rfl
      rotate_left
      ·simp only [sP, i64_w, i32_w]
       rfl
      refine pure_ (i := 8) (N := some 30) (v := ?_) (a' := ?_) #[false, true, true, true, true, true, true, true, true, false, false, false, false, false] rfl rfl (any_of HT_.out (by kernel_rfl)) (fun _ _ _ h => h) (Or.inl ⟨by rfl, ?_⟩) ?_ ?_
      rotate_left
      ·intro w'
       go_simp
       with_reducible rfl
      rotate_left
      ·simp only [sP, i64_w, i32_w]
       rfl
      refine pure_ (i := 9) (N := some 31) (v := undef) (a' := ?_) #[false, true, true, true, true, true, true, true, true, true, false, false, false, false] rfl rfl (any_of HT_.out (by kernel_rfl)) (fun _ _ _ h => h) (Or.inr ⟨by rfl, rfl⟩) ?_ ?_
      rotate_left
      ·simp only [sP, i64_w, i32_w]
       rfl
      refine pure_ (i := 10) (N := some 32) (v := undef) (a' := ?_) #[false, true, true, true, true, true, true, true, true, true, true, false, false, false] rfl rfl (any_of HT_.out (by kernel_rfl)) (fun _ _ _ h => h) (Or.inr ⟨by rfl, rfl⟩) ?_ ?_
      rotate_left
      ·simp only [sP, i64_w, i32_w]
       rfl
      refine pure_ (i := 11) (N := some 33) (v := ?_) (a' := ?_) #[false, true, true, true, true, true, true, true, true, true, true, true, false, false] rfl rfl (any_of HT_.out (by kernel_rfl)) (fun _ _ _ h => h) (Or.inl ⟨by rfl, ?_⟩) ?_ ?_
      rotate_left
      ·intro w'
       go_simp
       with_reducible rfl
      rotate_left
      ·simp only [sP, i64_w, i32_w]
       rfl
      refine take_ (i := 0) (N := some 22) (v := ?_) (a' := ?_) (bs 12 2) rfl rfl (take_ofW HT_.out HW_.out (by kernel_rfl)) (fun _ _ _ h => h) (Or.inl ⟨by rfl, ?_⟩) hHeld ?_ ?_
      rotate_left
      ·rintro w' ⟨s0, s1, s2⟩
       go_simp
       with_reducible rfl
      rotate_left
      ·simp only [sP, i64_w, i32_w]
       rfl
      refine one_ (i := 12) (N := none) (bs 13 1) rfl rfl (one_of HT_.out (by kernel_rfl)) (by decide) (fun K hK => ?_)
      have hs29 : w28.cell? ⟨gb101, 0, none⟩ = some (.int .i64 0) := (blk_cell BK101.out 0).trans rfl
      have hfs29 := blk_frozen BK101.out 0
      have hns29_1 := NB109_101.out
      have hms29_1 := NB101_109.out
      have hs30 : w28.cell? ⟨gb101, 1, none⟩ = some (.int .i64 0) := (blk_cell BK101.out 1).trans rfl
      have hfs30 := blk_frozen BK101.out 1
      have hns30_1 := NB109_101.out
      have hms30_1 := NB101_109.out
      have hs31 : w28.cell? ⟨gb101, 2, none⟩ = some (.slice none 0 0) := (blk_cell BK101.out 2).trans rfl
      have hfs31 := blk_frozen BK101.out 2
      have hns31_1 := NB109_101.out
      have hms31_1 := NB101_109.out
      refine skip_ (w1 := ?_) (by rfl) rfl ?_ ?_
      rotate_left
      ·go_simp
       rfl
      refine hK.out _ _ ⟨((cell_far (p := ⟨gb101, _, none⟩) NB109_101.out _).trans (((cell_far (p := ⟨gb101, _, none⟩) NB109_101.out _).trans (((cell_far (p := ⟨gb101, _, none⟩) NB109_101.out _).trans (hHeld.1)))))), ((cell_far (p := ⟨gb101, _, none⟩) NB109_101.out _).trans (((cell_far (p := ⟨gb101, _, none⟩) NB109_101.out _).trans (((cell_far (p := ⟨gb101, _, none⟩) NB109_101.out _).trans (hHeld.2.1)))))), ((cell_far (p := ⟨gb101, _, none⟩) NB109_101.out _).trans (((cell_far (p := ⟨gb101, _, none⟩) NB109_101.out _).trans (((cell_far (p := ⟨gb101, _, none⟩) NB109_101.out _).trans (hHeld.2.2))))))⟩ (fun hHeld => ?_)
      clear hK K
      refine pure_ (i := 13) (N := some 3) (v := ?_) (a' := ?_) (bs 14 0) rfl rfl (any_of HT_.out (by kernel_rfl)) (fun _ _ _ h => h) (Or.inl ⟨by rfl, ?_⟩) ?_ ?_
      rotate_left
      ·intro w'
       go_simp
       with_reducible rfl
      rotate_left
      ·simp only [sP, i64_w, i32_w]
       rfl
      refine done_ (done_of HT_.out (by kernel_rfl)) ?_
      try go_wp2
      refine bodyPost_ret (results_ct rfl _ _ gb101 68 #[.int .i64 t102, .int .i64 t103, .slice Ao26 t104.length co26] (0, 0) _ rfl (p3 BK101) Try.underlying68 rfl (by kernel_rfl)) rfl ?_
      exact ⟨_, eW, by (with_reducible repeat (first | apply Kd.R_alloc | apply Kd.R_drewN | apply Kd.R_drew)); exact Kd.R_mono (Kd.R_far (p := ⟨gb101, 2, none⟩) (Kd.R_far (p := ⟨gb101, 1, none⟩) (Kd.R_far (p := ⟨gb101, 0, none⟩) (Kd.R_mono HO106.out (fun k_ hk => (⟨hk, hk.1⟩ : _ ∧ k_ ≠ gb101))) (fun _ hk => hk.2) (.int .i64 t102)) (fun _ hk => hk.2) (.int .i64 t103)) (fun _ hk => hk.2) (.slice Ao26 t104.length co26)) (fun _ hk => trivial), pH HB⟩
    ·replace c8 := Bool.eq_false_iff.mpr c8
     subst c8
     rw [if_neg (show ¬ (false = true) by decide)] at H
     simp only [Option.some.injEq, Prod.mk.injEq] at H
     obtain ⟨rfl, rfl, rfl, rfl⟩ := H
     try go_wp2_with (first | ((with_reducible refine gate_callee (f := 65) rfl ?_); refine goesL_ (some 18) rfl rfl Try.func65 (by kernel_rfl) rfl #[.slice A0 l0.length c0, .int .i64 0, .int .i64 (-1)] rfl tA ?_; (with_reducible refine (impl_termAt.calls kj1 _ _ l0 0 (-1) t102 t103 t104 t107 false _ ?side1 ?side2 A7.out).mono ?_); (case side1 => exact sC (Kd.C_below HR0.out HB.out)); (case side2 => exact HC0.out); rintro e w32 ⟨v105, rfl, ho0, hb⟩; refine ⟨_, rfl, ?_⟩; have HO106 := aK (Kd.R_lower (Kd.R_newB ho0 BK101.out) (below_size HB.out)); replace BK101 := qb BK101 hb; replace HB := qs HB hb; (try clear hb); (try clear ho0)) | ((with_reducible refine gate_dst (N := 4) rfl ?_); (try (refine gate_guard (by rfl) ?_; dsimp only)); refine bE (N := 4) (cs := #[.int .i64 0, .int .i64 0, .slice none 0 0]) (t := 68) ?_; intro gb109 hg w33 hbox hb; have n0_ := aK (Kd.R_below (Kd.R_elderB HO106.out gb109 (Nat.le_of_eq hg.symm)) hb); have GW109 := qw HB hg; have GE109 := qw HB hg; have NB101_109 := ql BK101 hg; have NB109_101 := qg BK101 hg; replace BK101 := qb BK101 hb; have BK109 := aK hbox; clear HO106; have HO106 := n0_; clear n0_; replace HB := qs HB hb; clear hb hbox hg; have hnb34 := NB109_101.out; have hnc34 := NB101_109.out; have hcz35_0 := k30 BK109; have hcz35_1 := k31 BK109; have hcz35_2 := k32 BK109; have hfz35_0 := fz BK109 0; have hfz35_1 := fz BK109 1; have hfz35_2 := fz BK109 2; obtain ⟨Ao36, co36, eo36⟩ := Kd.R_slice HO106.out; subst eo36))
     have n0_ : Aside0 (Kd.R k68 68 (((w33.setCell ⟨gb109, 0, none⟩ (.int .i64 t102)).setCell ⟨gb109, 1, none⟩ (.int .i64 t103)).setCell ⟨gb109, 2, none⟩ (.slice Ao36 t104.length co36)) w.heap.size (fun k_ => k_ ≠ gb101 ∧ k_ ≠ gb109) (.slice Ao36 t104.length co36) t104) := ⟨by (with_reducible repeat (first | apply Kd.R_alloc | apply Kd.R_drewN | apply Kd.R_drew)); exact Kd.R_mono (Kd.R_far (p := ⟨gb109, 2, none⟩) (Kd.R_far (p := ⟨gb109, 1, none⟩) (Kd.R_far (p := ⟨gb109, 0, none⟩) (Kd.R_mono HO106.out (fun k_ hk => (⟨hk, hk.2⟩ : _ ∧ k_ ≠ gb109))) (fun _ hk => hk.2) (.int .i64 t102)) (fun _ hk => hk.2) (.int .i64 t103)) (fun _ hk => hk.2) (.slice Ao36 t104.length co36)) (fun _ hk => ⟨hk.1.1.2, hk.1.2⟩)⟩
     have n1_ : Aside0 ((((w33.setCell ⟨gb109, 0, none⟩ (.int .i64 t102)).setCell ⟨gb109, 1, none⟩ (.int .i64 t103)).setCell ⟨gb109, 2, none⟩ (.slice Ao36 t104.length co36)).heap[gb101]? = some (.cells #[.int .i64 0, .int .i64 0, .slice none 0 0] 68 (0, 0))) := ⟨by (repeat first | with_reducible apply zN | with_reducible apply zD | with_reducible apply zA | refine blk_far ?_ NB101_109.out _); exact BK101.out⟩
     have n2_ : Aside0 ((((w33.setCell ⟨gb109, 0, none⟩ (.int .i64 t102)).setCell ⟨gb109, 1, none⟩ (.int .i64 t103)).setCell ⟨gb109, 2, none⟩ (.slice Ao36 t104.length co36)).heap[gb109]? = some (.cells #[.int .i64 t102, .int .i64 t103, .slice Ao36 t104.length co36] 68 (0, 0))) := ⟨p3 BK109⟩
     have n3_ : Aside0 (Below w.heap.size w (((w33.setCell ⟨gb109, 0, none⟩ (.int .i64 t102)).setCell ⟨gb109, 1, none⟩ (.int .i64 t103)).setCell ⟨gb109, 2, none⟩ (.slice Ao36 t104.length co36))) := ⟨pH HB⟩
     (try clear HO106)
     (try clear BK101)
     (try clear BK109)
     (try clear HB)
     generalize (((w33.setCell ⟨gb109, 0, none⟩ (.int .i64 t102)).setCell ⟨gb109, 1, none⟩ (.int .i64 t103)).setCell ⟨gb109, 2, none⟩ (.slice Ao36 t104.length co36)) = w37 at n0_ n1_ n2_ n3_ ⊢
     have HO106 := n0_
     have BK101 := n1_
     have BK109 := n2_
     have HB := n3_
     clear n0_ n1_ n2_ n3_
     have n0_ := aK (Kd.R_drew HO106.out)
     have n1_ := aK (blk_drew BK101.out)
     have n2_ := aK (blk_drew BK109.out)
     have n3_ := aK (below_drew1 HB.out)
     clear HO106
     clear BK101
     clear BK109
     clear HB
     have HO106 := n0_
     have BK101 := n1_
     have BK109 := n2_
     have HB := n3_
     clear n0_ n1_ n2_ n3_
     refine start_ (n := 14) (S := fun w' => w'.cell? ⟨gb109, 0, none⟩ = some (.int .i64 t102) ∧ w'.cell? ⟨gb109, 1, none⟩ = some (.int .i64 t103) ∧ w'.cell? ⟨gb109, 2, none⟩ = some (.slice Ao36 t104.length co36)) (ds := []) (bs 0 14) (by kernel_rfl) rfl rfl ⟨(blk_cell BK109.out 0).trans rfl, (blk_cell BK109.out 1).trans rfl, (blk_cell BK109.out 2).trans rfl⟩ (fun hHeld => ?_); refine with_tabW impl_termOf.tab4 impl_termOf.bits4 (fun HT_ HW_ => ?_)
     generalize w37.drew = w38 at HO106 BK101 BK109 HB hHeld ⊢
     refine pure_ (i := 1) (N := some 23) (v := ?_) (a' := ?_) #[false, true, false, false, false, false, false, false, false, false, false, false, false, false] rfl rfl (any_of HT_.out (by kernel_rfl)) (fun _ _ _ h => h) (Or.inl ⟨by rfl, ?_⟩) ?_ ?_
     rotate_left
     ·intro w'
      go_simp
      with_reducible rfl
     rotate_left
     ·simp only [sP, i64_w, i32_w]
      rfl
     refine pure_ (i := 2) (N := some 24) (v := ?_) (a' := ?_) #[false, true, true, false, false, false, false, false, false, false, false, false, false, false] rfl rfl (any_of HT_.out (by kernel_rfl)) (fun _ _ _ h => h) (Or.inl ⟨by rfl, ?_⟩) ?_ ?_
     rotate_left
     ·intro w'
      go_simp
      with_reducible rfl
     rotate_left
     ·simp only [sP, i64_w, i32_w]
      rfl
     refine pure_ (i := 3) (N := some 25) (v := undef) (a' := ?_) #[false, true, true, true, false, false, false, false, false, false, false, false, false, false] rfl rfl (any_of HT_.out (by kernel_rfl)) (fun _ _ _ h => h) (Or.inr ⟨by rfl, rfl⟩) ?_ ?_
     rotate_left
     ·simp only [sP, i64_w, i32_w]
      rfl
     refine pure_ (i := 4) (N := some 26) (v := undef) (a' := ?_) #[false, true, true, true, true, false, false, false, false, false, false, false, false, false] rfl rfl (any_of HT_.out (by kernel_rfl)) (fun _ _ _ h => h) (Or.inr ⟨by rfl, rfl⟩) ?_ ?_
     rotate_left
     ·simp only [sP, i64_w, i32_w]
      rfl
     refine pure_ (i := 5) (N := some 27) (v := undef) (a' := ?_) #[false, true, true, true, true, true, false, false, false, false, false, false, false, false] rfl rfl (any_of HT_.out (by kernel_rfl)) (fun _ _ _ h => h) (Or.inr ⟨by rfl, rfl⟩) ?_ ?_
     rotate_left
     ·simp only [sP, i64_w, i32_w]
      rfl
     refine pure_ (i := 6) (N := some 28) (v := undef) (a' := ?_) #[false, true, true, true, true, true, true, false, false, false, false, false, false, false] rfl rfl (any_of HT_.out (by kernel_rfl)) (fun _ _ _ h => h) (Or.inr ⟨by rfl, rfl⟩) ?_ ?_
     rotate_left
     ·simp only [sP, i64_w, i32_w]
      rfl
     refine pure_ (i := 7) (N := some 29) (v := ?_) (a' := ?_) #[false, true, true, true, true, true, true, true, false, false, false, false, false, false] rfl rfl (any_of HT_.out (by kernel_rfl)) (fun _ _ _ h => h) (Or.inl ⟨by rfl, ?_⟩) ?_ ?_
     rotate_left
     ·intro w'
      go_simp
      with_reducible rfl
     rotate_left
     ·simp only [sP, i64_w, i32_w]
      rfl
     refine pure_ (i := 8) (N := some 30) (v := ?_) (a' := ?_) #[false, true, true, true, true, true, true, true, true, false, false, false, false, false] rfl rfl (any_of HT_.out (by kernel_rfl)) (fun _ _ _ h => h) (Or.inl ⟨by rfl, ?_⟩) ?_ ?_
     rotate_left
     ·intro w'
      go_simp
      with_reducible rfl
     rotate_left
     ·simp only [sP, i64_w, i32_w]
      rfl
     refine pure_ (i := 9) (N := some 31) (v := undef) (a' := ?_) #[false, true, true, true, true, true, true, true, true, true, false, false, false, false] rfl rfl (any_of HT_.out (by kernel_rfl)) (fun _ _ _ h => h) (Or.inr ⟨by rfl, rfl⟩) ?_ ?_
     rotate_left
     ·simp only [sP, i64_w, i32_w]
      rfl
     refine pure_ (i := 10) (N := some 32) (v := undef) (a' := ?_) #[false, true, true, true, true, true, true, true, true, true, true, false, false, false] rfl rfl (any_of HT_.out (by kernel_rfl)) (fun _ _ _ h => h) (Or.inr ⟨by rfl, rfl⟩) ?_ ?_
     rotate_left
     ·simp only [sP, i64_w, i32_w]
      rfl
     refine pure_ (i := 11) (N := some 33) (v := ?_) (a' := ?_) #[false, true, true, true, true, true, true, true, true, true, true, true, false, false] rfl rfl (any_of HT_.out (by kernel_rfl)) (fun _ _ _ h => h) (Or.inl ⟨by rfl, ?_⟩) ?_ ?_
     rotate_left
     ·intro w'
      go_simp
      with_reducible rfl
     rotate_left
     ·simp only [sP, i64_w, i32_w]
      rfl
     refine take_ (i := 0) (N := some 22) (v := ?_) (a' := ?_) (bs 12 2) rfl rfl (take_ofW HT_.out HW_.out (by kernel_rfl)) (fun _ _ _ h => h) (Or.inl ⟨by rfl, ?_⟩) hHeld ?_ ?_
     rotate_left
     ·rintro w' ⟨s0, s1, s2⟩
      go_simp
      with_reducible rfl
     rotate_left
     ·simp only [sP, i64_w, i32_w]
      rfl
     refine one_ (i := 12) (N := none) (bs 13 1) rfl rfl (one_of HT_.out (by kernel_rfl)) (by decide) (fun K hK => ?_)
     have hs39 : w38.cell? ⟨gb101, 0, none⟩ = some (.int .i64 0) := (blk_cell BK101.out 0).trans rfl
     have hfs39 := blk_frozen BK101.out 0
     have hns39_1 := NB109_101.out
     have hms39_1 := NB101_109.out
     have hs40 : w38.cell? ⟨gb101, 1, none⟩ = some (.int .i64 0) := (blk_cell BK101.out 1).trans rfl
     have hfs40 := blk_frozen BK101.out 1
     have hns40_1 := NB109_101.out
     have hms40_1 := NB101_109.out
     have hs41 : w38.cell? ⟨gb101, 2, none⟩ = some (.slice none 0 0) := (blk_cell BK101.out 2).trans rfl
     have hfs41 := blk_frozen BK101.out 2
     have hns41_1 := NB109_101.out
     have hms41_1 := NB101_109.out
     refine skip_ (w1 := ?_) (by rfl) rfl ?_ ?_
     rotate_left
     ·go_simp
      rfl
     refine hK.out _ _ ⟨((cell_far (p := ⟨gb101, _, none⟩) NB109_101.out _).trans (((cell_far (p := ⟨gb101, _, none⟩) NB109_101.out _).trans (((cell_far (p := ⟨gb101, _, none⟩) NB109_101.out _).trans (hHeld.1)))))), ((cell_far (p := ⟨gb101, _, none⟩) NB109_101.out _).trans (((cell_far (p := ⟨gb101, _, none⟩) NB109_101.out _).trans (((cell_far (p := ⟨gb101, _, none⟩) NB109_101.out _).trans (hHeld.2.1)))))), ((cell_far (p := ⟨gb101, _, none⟩) NB109_101.out _).trans (((cell_far (p := ⟨gb101, _, none⟩) NB109_101.out _).trans (((cell_far (p := ⟨gb101, _, none⟩) NB109_101.out _).trans (hHeld.2.2))))))⟩ (fun hHeld => ?_)
     clear hK K
     refine pure_ (i := 13) (N := some 3) (v := ?_) (a' := ?_) (bs 14 0) rfl rfl (any_of HT_.out (by kernel_rfl)) (fun _ _ _ h => h) (Or.inl ⟨by rfl, ?_⟩) ?_ ?_
     rotate_left
     ·intro w'
      go_simp
      with_reducible rfl
     rotate_left
     ·simp only [sP, i64_w, i32_w]
      rfl
     refine done_ (done_of HT_.out (by kernel_rfl)) ?_
     try go_wp2
     refine bodyPost_ret (results_ct rfl _ _ gb101 68 #[.int .i64 t102, .int .i64 t103, .slice Ao36 t104.length co36] (0, 0) _ rfl (p3 BK101) Try.underlying68 rfl (by kernel_rfl)) rfl ?_
     exact ⟨_, eW, by (with_reducible repeat (first | apply Kd.R_alloc | apply Kd.R_drewN | apply Kd.R_drew)); exact Kd.R_mono (Kd.R_far (p := ⟨gb101, 2, none⟩) (Kd.R_far (p := ⟨gb101, 1, none⟩) (Kd.R_far (p := ⟨gb101, 0, none⟩) (Kd.R_mono HO106.out (fun k_ hk => (⟨hk, hk.1⟩ : _ ∧ k_ ≠ gb101))) (fun _ hk => hk.2) (.int .i64 t102)) (fun _ hk => hk.2) (.int .i64 t103)) (fun _ hk => hk.2) (.slice Ao36 t104.length co36)) (fun _ hk => trivial), pH HB⟩

end Go.Proofs.Ytcjhhdecckcibaa.G

namespace Go.Proofs.Ytcjhhdecckcibaa.G
open Go.RowKit Go.Proofs.YtcjhhdecckcibaaW.PrintWords Go.Proofs.YtcjhhdecckcibaaW.PrintLast Go.Proofs.YtcjhhdecckcibaaW.PrintMore
attribute [local go_sem] max2_int min2_int max_two min_two max_three min_three max_four min_four   -- for this text's walks alone
set_option linter.unusedVariables false
set_option linter.unusedSimpArgs false

mutual
def impl_comb_measure.j0 : Nat → Int → Int → Bool → Int → Int → List (S58) → Option (Int × Int × Bool)
 | 0, _, _, _, _, _, _ => none
 | k + 1, x5, x6, x7, x102000, x102001, x102002 => impl_comb_measure.l0 k x5 x6 x7 x102002 (x102002.length : Int) 0
def impl_comb_measure.l0 : Nat → Int → Int → Bool → List (S58) → Int → Int → Option (Int × Int × Bool)
 | 0, _, _, _, _, _, _ => none
 | k + 1, x5, x6, x7, x32, x33, x34 => if x34 < x33 then (if 0 ≤ x34 then (if x34 < (x32.length : Int) then ((impl_comb_measure.f k ((rd_T58 x32 x34).f0) ((rd_T58 x32 x34).f1) ((rd_T58 x32 x34).f2)).bind fun bt104 => (if x7 = true then (impl_comb_measure.l0 k (wrap64 (x5 + bt104.1)) (mx x6 bt104.2.1) bt104.2.2 x32 x33 (wrap64 (x34 + 1))) else (impl_comb_measure.l0 k (wrap64 (x5 + bt104.1)) (mx x6 bt104.2.1) false x32 x33 (wrap64 (x34 + 1))))) else (none)) else (none)) else (some (x5, wrap64 (x6 + 1), x7))
def impl_comb_measure.f : Nat → Int → Int → List (S58) → Option (Int × Int × Bool)
 | 0, _, _, _ => none
 | k + 1, a0_0, a0_1, l0_2 => if a0_1 ≥ 0 then (if a0_1 ≤ 999 then (if a0_0 = 1 then (impl_comb_measure.j0 k 1 0 true a0_0 a0_1 l0_2) else (impl_comb_measure.j0 k 1 0 (a0_1 == 0) a0_0 a0_1 l0_2)) else (impl_comb_measure.j0 k 1 0 false a0_0 a0_1 l0_2)) else (impl_comb_measure.j0 k 1 0 false a0_0 a0_1 l0_2)
end
set_option maxHeartbeats 8000000 in
set_option maxRecDepth 100000 in
theorem impl_comb_measure.calls (k : Nat) : ∀ (a0_0 : Int) (a0_1 : Int) (A0_2 : Option Addr) (c0_2 : Nat) (l0_2 : List (S58)) (r1 : Int) (r2 : Int) (r3 : Bool) (w : World) (hr0_2 : Kd.C k58 w A0_2 l0_2.length l0_2) (hc0_2 : l0_2.length ≤ c0_2) (h : impl_comb_measure.f k a0_0 a0_1 l0_2 = some (r1, r2, r3)),
  Calls Try.prog 81 #[.agg #[.int .i64 a0_0, .int .i64 a0_1, .slice A0_2 l0_2.length c0_2]] w fun e w' => e = .returned (.tuple #[.int .i64 r1, .int .i64 r2, .bool r3]) ∧ Below w.heap.size w w' := by
 induction k using Nat.strongRecOn with
 | _ k ih =>
 intro a0_0 a0_1 A0_2 c0_2 l0_2 r1 r2 r3 w hr0_2 hc0_2 h
 cases k with
 | zero => exact absurd h (by simp [impl_comb_measure.f])
 | succ k =>
 simp only [impl_comb_measure.f] at h
 have hu58 := Try.underlying58
 have HR0_2 := aK hr0_2
 have HC0_2 := aK hc0_2
 clear hr0_2 hc0_2
 have HB := aK (Below.refl w.heap.size w)
 have H : (if a0_1 ≥ 0 then (if a0_1 ≤ 999 then (if a0_0 = 1 then (impl_comb_measure.j0 k 1 0 true a0_0 a0_1 l0_2) else (impl_comb_measure.j0 k 1 0 (a0_1 == 0) a0_0 a0_1 l0_2)) else (impl_comb_measure.j0 k 1 0 false a0_0 a0_1 l0_2)) else (impl_comb_measure.j0 k 1 0 false a0_0 a0_1 l0_2)) = some (r1, r2, r3) := h
 clear h
 have HC2 := aK H
 clear H
 go_enter Try.func81, Try.ntmps81
 go_upto_region 2 with (first | ((with_reducible refine gate_dst (N := 1) rfl ?_); refine bE (N := 1) (cs := #[.int .i64 a0_0, .int .i64 a0_1, .slice A0_2 l0_2.length c0_2]) (t := 58) ?_; intro gb101 hg w3 hbox hb; have GW101 := qw HB hg; have GE101 := qw HB hg; have BK101 := aK hbox; replace HB := qs HB hb; clear hb hbox hg))
 (try simp only [Act.put, List.setIfInBounds_toArray, List.set_cons_zero, List.set_cons_succ])
 go_cut [7] (fun v7 wc => ∃ (kq : Nat) (x7_1 : Bool), v7 = .bool x7_1 ∧ Aside0 (impl_comb_measure.j0 kq 1 0 x7_1 a0_0 a0_1 l0_2 = some (r1, r2, r3)) ∧ Aside0 (kq ≤ k) ∧ Aside0 (wc.heap[gb101]? = some (.cells #[.int .i64 a0_0, .int .i64 a0_1, (.slice A0_2 l0_2.length c0_2)] 58 (0, 0))) ∧ Aside0 (Below w.heap.size w wc))
 case first =>
  have H := HC2.out
  clear HC2
  by_cases c4 : a0_1 ≥ 0
  ·rw [if_pos c4] at H
   have c4b0 : decide (0 ≤ a0_1) = true := decide_eq_true c4
   clear c4
   (first | rw [c4b0] | (simp only [i64_w, i32_w]; rw [c4b0]) | skip)
   by_cases c5 : a0_1 ≤ 999
   ·rw [if_pos c5] at H
    have c5b0 : decide (a0_1 ≤ 999) = true := decide_eq_true c5
    clear c5
    by_cases c6 : a0_0 = 1
    ·rw [if_pos c6] at H
     have c6b0 : (a0_0 == 1) = true := beq_iff_eq.mpr c6
     have c6b1 : (a0_0 != 1) = false := bne_eq_false_iff_eq.mpr c6
     clear c6
     have H' := aK H
     clear H
     have hcz7_0 := k30 BK101
     have hcz7_1 := k31 BK101
     have hcz7_2 := k32 BK101
     have hfz7_0 := fz BK101 0
     have hfz7_1 := fz BK101 1
     have hfz7_2 := fz BK101 2
     go_wp2
     go_meet
     case rel => exact ⟨_, (true), rS, H', ⟨by first | omega | exact Nat.le_refl _⟩, ⟨pB BK101⟩, ⟨pH HB⟩⟩
    ·rw [if_neg c6] at H
     have c6b0 : (a0_0 == 1) = false := beq_eq_false_iff_ne.mpr c6
     have c6b1 : (a0_0 != 1) = true := bne_iff_ne.mpr c6
     have H' := aK H
     clear H
     have hcz8_0 := k30 BK101
     have hcz8_1 := k31 BK101
     have hcz8_2 := k32 BK101
     have hfz8_0 := fz BK101 0
     have hfz8_1 := fz BK101 1
     have hfz8_2 := fz BK101 2
     go_wp2
     go_meet
     case rel => exact ⟨_, ((a0_1 == 0)), rS, H', ⟨by first | omega | exact Nat.le_refl _⟩, ⟨pB BK101⟩, ⟨pH HB⟩⟩
   ·rw [if_neg c5] at H
    have c5b0 : decide (a0_1 ≤ 999) = false := decide_eq_false c5
    clear c5
    have H' := aK H
    clear H
    have hcz9_0 := k30 BK101
    have hcz9_1 := k31 BK101
    have hcz9_2 := k32 BK101
    have hfz9_0 := fz BK101 0
    have hfz9_1 := fz BK101 1
    have hfz9_2 := fz BK101 2
    go_wp2
    go_meet
    case rel => exact ⟨_, (false), rS, H', ⟨by first | omega | exact Nat.le_refl _⟩, ⟨pB BK101⟩, ⟨pH HB⟩⟩
  ·rw [if_neg c4] at H
   have c4b0 : decide (0 ≤ a0_1) = false := decide_eq_false c4
   clear c4
   (first | rw [c4b0] | (simp only [i64_w, i32_w]; rw [c4b0]) | skip)
   have H' := aK H
   clear H
   have hcz10_0 := k30 BK101
   have hcz10_1 := k31 BK101
   have hcz10_2 := k32 BK101
   have hfz10_0 := fz BK101 0
   have hfz10_1 := fz BK101 1
   have hfz10_2 := fz BK101 2
   go_wp2
   go_meet
   case rel => exact ⟨_, (false), rS, H', ⟨by first | omega | exact Nat.le_refl _⟩, ⟨pB BK101⟩, ⟨pH HB⟩⟩
 case rest =>
  clear HC2
  try clear p2
  try clear c4
  try clear c4b0
  try clear c5
  try clear c5b0
  try clear c6
  try clear c6b0
  try clear c6b1
  try clear c8
  try clear hcz10_0
  try clear hcz10_1
  try clear hcz10_2
  try clear hcz7_0
  try clear hcz7_1
  try clear hcz7_2
  try clear hcz8_0
  try clear hcz8_1
  try clear hcz8_2
  try clear hcz9_0
  try clear hcz9_1
  try clear hcz9_2
  try clear hfz10_0
  try clear hfz10_1
  try clear hfz10_2
  try clear hfz7_0
  try clear hfz7_1
  try clear hfz7_2
  try clear hfz8_0
  try clear hfz8_1
  try clear hfz8_2
  try clear hfz9_0
  try clear hfz9_1
  try clear hfz9_2
  obtain ⟨kq, x7_1, rfl, HA, HJ1, BK101, HB⟩ := hcut
  cases kq with
  | zero => exact absurd HA.out (by simp [impl_comb_measure.j0])
  | succ kj1 =>
   have H := HA.out
   clear HA
   simp only [impl_comb_measure.j0] at H
   have H' := aK H
   clear H
   have hcz11_0 := k30 BK101
   have hcz11_1 := k31 BK101
   have hcz11_2 := k32 BK101
   have hfz11_0 := fz BK101 0
   have hfz11_1 := fz BK101 1
   have hfz11_2 := fz BK101 2
   go_wp2
   go_loopg [5, 6, 7, 34] kj1 (fun kq v5 v6 v7 v34 w' => ∃ (x5_2 : Int) (x6_2 : Int) (x7_2 : Bool) (x34_2 : Int), v5 = .int .i64 x5_2 ∧ v6 = .int .i64 x6_2 ∧ v7 = .bool x7_2 ∧ v34 = .int .i64 x34_2 ∧ Aside0 (impl_comb_measure.l0 kq x5_2 x6_2 x7_2 l0_2 (l0_2.length : Int) x34_2 = some (r1, r2, r3)) ∧ Aside0 (kq ≤ kj1) ∧ Aside0 (w'.heap[gb101]? = some (.cells #[.int .i64 a0_0, .int .i64 a0_1, (.slice A0_2 l0_2.length c0_2)] 58 (0, 0))) ∧ Aside0 (Below w.heap.size w w'))
   case atStart => exact ⟨(1), (0), (x7_1), (0), rS, rS, rS, rS, H', ⟨Nat.le_refl _⟩, ⟨pB BK101⟩, ⟨pH HB⟩⟩
   case round =>
    clear H'
    try clear p2
    try clear c4
    try clear c4b0
    try clear c5
    try clear c5b0
    try clear c6
    try clear c6b0
    try clear c6b1
    try clear c8
    try clear hcz10_0
    try clear hcz10_1
    try clear hcz10_2
    try clear hcz11_0
    try clear hcz11_1
    try clear hcz11_2
    try clear hcz7_0
    try clear hcz7_1
    try clear hcz7_2
    try clear hcz8_0
    try clear hcz8_1
    try clear hcz8_2
    try clear hcz9_0
    try clear hcz9_1
    try clear hcz9_2
    try clear hfz10_0
    try clear hfz10_1
    try clear hfz10_2
    try clear hfz11_0
    try clear hfz11_1
    try clear hfz11_2
    try clear hfz7_0
    try clear hfz7_1
    try clear hfz7_2
    try clear hfz8_0
    try clear hfz8_1
    try clear hfz8_2
    try clear hfz9_0
    try clear hfz9_1
    try clear hfz9_2
    try clear p2
    obtain ⟨x5_2, x6_2, x7_2, x34_2, rfl, rfl, rfl, rfl, HA, HK2, BK101, HB⟩ := hrel
    cases gk with
    | zero => exact absurd HA.out (by simp [impl_comb_measure.l0])
    | succ k2 =>
     have H := HA.out
     clear HA
     simp only [impl_comb_measure.l0] at H
     by_cases c12 : x34_2 < (l0_2.length : Int)
     ·rw [if_pos c12] at H
      have c12b0 : decide (x34_2 < (l0_2.length : Int)) = true := decide_eq_true c12
      clear c12
      by_cases c13 : 0 ≤ x34_2
      ·rw [if_pos c13] at H
       have c13b0 : decide (0 ≤ x34_2) = true := decide_eq_true c13
       clear c13
       by_cases c14 : x34_2 < (l0_2.length : Int)
       ·rw [if_pos c14] at H
        have c14b0 : decide (x34_2 < (l0_2.length : Int)) = true := decide_eq_true c14
        clear c14
        replace H := Option.bind_eq_some_iff.mp H
        obtain ⟨⟨t104, t105, t106⟩, A150, H⟩ := H
        try dsimp only at H
        have A15 := aK A150
        clear A150
        obtain ⟨ji16, hji16⟩ : ∃ j_ : Int, (mx x6_2 t105) = j_ := ⟨_, rfl⟩
        replace H : (if x7_2 = true then (impl_comb_measure.l0 k2 (wrap64 (x5_2 + t104)) ji16 t106 l0_2 (l0_2.length : Int) (wrap64 (x34_2 + 1))) else (impl_comb_measure.l0 k2 (wrap64 (x5_2 + t104)) ji16 false l0_2 (l0_2.length : Int) (wrap64 (x34_2 + 1)))) = some (r1, r2, r3) := by first | (rw [hji16] at H; exact H) | (simp only [hji16] at H ⊢; exact H)
        (try rw [hji16] at A15)
        have hji16_ : (if x6_2 < t105 then t105 else x6_2) = ji16 := hji16
        by_cases c17 : x7_2 = true
        ·subst c17
         rw [if_pos rfl] at H
         have H' := aK H
         clear H
         have p102 : 0 ≤ (x34_2 : Int) := dA
         have q102 : x34_2 < (l0_2.length : Int) := dA
         obtain ⟨ad102, A102_2, c102_2, e102, hx102_0, hx102_1, hx102_2, hl102_2, hi102_2⟩ := at_T58 HR0_2.out x34_2 p102 q102
         cases e102
         replace hx102_0 := uC HB hx102_0
         replace hx102_1 := uC HB hx102_1
         replace hx102_2 := uC HB hx102_2
         have HR102_2 := aK hi102_2
         have HC102_2 := aK hl102_2
         clear hi102_2 hl102_2
         replace p102 := eq_true p102
         replace q102 := eq_true q102
         go_wp2_with (first | ((with_reducible refine gate_dst (N := 9) rfl ?_); refine bE (N := 9) (cs := #[.int .i64 0, .int .i64 0, .slice none 0 0]) (t := 58) ?_; intro gb103 hg w18 hbox hb; have GW103 := qw HB hg; have GE103 := qw HB hg; have NB101_103 := ql BK101 hg; have NB103_101 := qg BK101 hg; replace BK101 := qb BK101 hb; have BK103 := aK hbox; replace HB := qs HB hb; clear hb hbox hg; have hnb19 := NB103_101.out; have hnc19 := NB101_103.out; have hcz20_0 := k30 BK103; have hcz20_1 := k31 BK103; have hcz20_2 := k32 BK103; have hfz20_0 := fz BK103 0; have hfz20_1 := fz BK103 1; have hfz20_2 := fz BK103 2) | ((with_reducible refine gate_callee (f := 81) rfl ?_); refine goesL_ (some 40) rfl rfl Try.func81 (by kernel_rfl) rfl #[.agg #[.int .i64 ((rd_T58 l0_2 x34_2).f0), .int .i64 ((rd_T58 l0_2 x34_2).f1), .slice A102_2 ((rd_T58 l0_2 x34_2).f2).length c102_2]] rfl tA ?_; (with_reducible refine (ih k2 (by have := HJ1.out; have := HK2.out; omega) ((rd_T58 l0_2 x34_2).f0) ((rd_T58 l0_2 x34_2).f1) _ _ ((rd_T58 l0_2 x34_2).f2) t104 t105 t106 _ ?side1 ?side2 A15.out).mono ?_); (case side1 => exact Kd.C_below HR102_2.out (pH HB)); (case side2 => exact HC102_2.out); rintro e w21 ⟨rfl, hb⟩; refine ⟨_, rfl, ?_⟩; have n0_ := aK (blk_below (g := gb101) (o := .cells #[.int .i64 a0_0, .int .i64 a0_1, .slice (some ad102) l0_2.length c0_2] 58 (0, 0)) (by (repeat first | with_reducible apply zN | with_reducible apply zD | with_reducible apply zA | refine blk_far ?_ NB101_103.out _); exact BK101.out) hb); have n1_ := aK (blk_below (g := gb103) (o := .cells #[.int .i64 ((rd_T58 l0_2 x34_2).f0), .int .i64 ((rd_T58 l0_2 x34_2).f1), .slice A102_2 ((rd_T58 l0_2 x34_2).f2).length c102_2] 58 (0, 0)) (p3 BK103) hb); have n2_ := aK (below_step (pH HB) hb); clear BK101; clear BK103; clear HB; have BK101 := n0_; have BK103 := n1_; have HB := n2_; clear n0_ n1_ n2_; (try clear hb)))
         go_roundg k2
         case measure => have := HJ1.out; have := HK2.out; omega
         case rel => exact ⟨(wrap64 (x5_2 + t104)), (ji16), (t106), (wrap64 (x34_2 + 1)), rS, (by first | rfl | (simp; done) | (simp only [← hji16] <;> (first | rfl | simp)) | (simp [*]; done)), rS, rS, H', ⟨by have := HJ1.out; have := HK2.out; omega⟩, ⟨pB BK101⟩, ⟨pH HB⟩⟩
        ·replace c17 := Bool.eq_false_iff.mpr c17
         subst c17
         rw [if_neg (show ¬ (false = true) by decide)] at H
         have H' := aK H
         clear H
         have p102 : 0 ≤ (x34_2 : Int) := dA
         have q102 : x34_2 < (l0_2.length : Int) := dA
         obtain ⟨ad102, A102_2, c102_2, e102, hx102_0, hx102_1, hx102_2, hl102_2, hi102_2⟩ := at_T58 HR0_2.out x34_2 p102 q102
         cases e102
         replace hx102_0 := uC HB hx102_0
         replace hx102_1 := uC HB hx102_1
         replace hx102_2 := uC HB hx102_2
         have HR102_2 := aK hi102_2
         have HC102_2 := aK hl102_2
         clear hi102_2 hl102_2
         replace p102 := eq_true p102
         replace q102 := eq_true q102
         go_wp2_with (first | ((with_reducible refine gate_dst (N := 9) rfl ?_); refine bE (N := 9) (cs := #[.int .i64 0, .int .i64 0, .slice none 0 0]) (t := 58) ?_; intro gb103 hg w22 hbox hb; have GW103 := qw HB hg; have GE103 := qw HB hg; have NB101_103 := ql BK101 hg; have NB103_101 := qg BK101 hg; replace BK101 := qb BK101 hb; have BK103 := aK hbox; replace HB := qs HB hb; clear hb hbox hg; have hnb23 := NB103_101.out; have hnc23 := NB101_103.out; have hcz24_0 := k30 BK103; have hcz24_1 := k31 BK103; have hcz24_2 := k32 BK103; have hfz24_0 := fz BK103 0; have hfz24_1 := fz BK103 1; have hfz24_2 := fz BK103 2) | ((with_reducible refine gate_callee (f := 81) rfl ?_); refine goesL_ (some 40) rfl rfl Try.func81 (by kernel_rfl) rfl #[.agg #[.int .i64 ((rd_T58 l0_2 x34_2).f0), .int .i64 ((rd_T58 l0_2 x34_2).f1), .slice A102_2 ((rd_T58 l0_2 x34_2).f2).length c102_2]] rfl tA ?_; (with_reducible refine (ih k2 (by have := HJ1.out; have := HK2.out; omega) ((rd_T58 l0_2 x34_2).f0) ((rd_T58 l0_2 x34_2).f1) _ _ ((rd_T58 l0_2 x34_2).f2) t104 t105 t106 _ ?side1 ?side2 A15.out).mono ?_); (case side1 => exact Kd.C_below HR102_2.out (pH HB)); (case side2 => exact HC102_2.out); rintro e w25 ⟨rfl, hb⟩; refine ⟨_, rfl, ?_⟩; have n0_ := aK (blk_below (g := gb101) (o := .cells #[.int .i64 a0_0, .int .i64 a0_1, .slice (some ad102) l0_2.length c0_2] 58 (0, 0)) (by (repeat first | with_reducible apply zN | with_reducible apply zD | with_reducible apply zA | refine blk_far ?_ NB101_103.out _); exact BK101.out) hb); have n1_ := aK (blk_below (g := gb103) (o := .cells #[.int .i64 ((rd_T58 l0_2 x34_2).f0), .int .i64 ((rd_T58 l0_2 x34_2).f1), .slice A102_2 ((rd_T58 l0_2 x34_2).f2).length c102_2] 58 (0, 0)) (p3 BK103) hb); have n2_ := aK (below_step (pH HB) hb); clear BK101; clear BK103; clear HB; have BK101 := n0_; have BK103 := n1_; have HB := n2_; clear n0_ n1_ n2_; (try clear hb)))
         go_roundg k2
         case measure => have := HJ1.out; have := HK2.out; omega
         case rel => exact ⟨(wrap64 (x5_2 + t104)), (ji16), (false), (wrap64 (x34_2 + 1)), rS, (by first | rfl | (simp; done) | (simp only [← hji16] <;> (first | rfl | simp)) | (simp [*]; done)), rS, rS, H', ⟨by have := HJ1.out; have := HK2.out; omega⟩, ⟨pB BK101⟩, ⟨pH HB⟩⟩
       ·rw [if_neg c14] at H
        exact absurd H (by simp)
      ·rw [if_neg c13] at H
       exact absurd H (by simp)
     ·rw [if_neg c12] at H
      have c12b0 : decide (x34_2 < (l0_2.length : Int)) = false := decide_eq_false c12
      clear c12
      simp only [Option.some.injEq, Prod.mk.injEq] at H
      obtain ⟨rfl, rfl, rfl⟩ := H
      go_wp2
      go_ret3
      exact ⟨eW, pH HB⟩

end Go.Proofs.Ytcjhhdecckcibaa.G

namespace Go.Proofs.Ytcjhhdecckcibaa.G
open Go.RowKit Go.Proofs.YtcjhhdecckcibaaW.PrintWords Go.Proofs.YtcjhhdecckcibaaW.PrintLast Go.Proofs.YtcjhhdecckcibaaW.PrintMore
attribute [local go_sem] max2_int min2_int max_two min_two max_three min_three max_four min_four   -- for this text's walks alone
set_option linter.unusedVariables false
set_option linter.unusedSimpArgs false

def impl_comb_isGood.f (k : Nat) (a0_0 : Int) (a0_1 : Int) (l0_2 : List (S58)) : Option (Bool) := (impl_comb_measure.f k a0_0 a0_1 l0_2).bind fun bt102 => (if bt102.2.2 = true then (if bt102.1 ≤ 200 then (some (decide (bt102.2.1 ≤ 60))) else (some false)) else (some false))
set_option maxHeartbeats 8000000 in
set_option maxRecDepth 100000 in
theorem impl_comb_isGood.calls (k : Nat) (a0_0 : Int) (a0_1 : Int) (A0_2 : Option Addr) (c0_2 : Nat) (l0_2 : List (S58)) (r : Bool) (w : World) (hr0_2 : Kd.C k58 w A0_2 l0_2.length l0_2) (hc0_2 : l0_2.length ≤ c0_2) (h : impl_comb_isGood.f k a0_0 a0_1 l0_2 = some r) :
    Calls Try.prog 58 #[.agg #[.int .i64 a0_0, .int .i64 a0_1, .slice A0_2 l0_2.length c0_2]] w fun e w' => e = .returned (.bool r) ∧ Below w.heap.size w w' := by
  have hu58 := Try.underlying58
  have HR0_2 := Aside0.mk hr0_2
  have HC0_2 := Aside0.mk hc0_2
  clear hr0_2 hc0_2
  have HB := Aside0.mk (Below.refl w.heap.size w)
  have H : ((impl_comb_measure.f k a0_0 a0_1 l0_2).bind fun bt102 => (if bt102.2.2 = true then (if bt102.1 ≤ 200 then (some (decide (bt102.2.1 ≤ 60))) else (some false)) else (some false))) = some r := h
  clear h
  replace H := Option.bind_eq_some_iff.mp H
  obtain ⟨⟨t102, t103, t104⟩, A20, H⟩ := H
  replace H : (if t104 = true then (if t102 ≤ 200 then (some (decide (t103 ≤ 60))) else (some false)) else (some false)) = some r := H
  have A2 := Aside0.mk A20
  clear A20
  by_cases c3 : t104 = true
  · subst c3
    have H1 : (if t102 ≤ 200 then (some (decide (t103 ≤ 60))) else (some false)) = some r := by rw [if_pos rfl] at H; exact H
    clear H
    have H := H1
    clear H1
    by_cases c4 : t102 ≤ 200
    · rw [if_pos c4] at H
      have c4b0 : decide (t102 ≤ 200) = true := decide_eq_true c4
      clear c4
      obtain rfl := Option.some.inj H
      go_enter Try.func58, Try.ntmps58
      go_wp2_with (first | ((with_reducible refine gate_dst (N := 1) rfl ?_); refine box_event ?hg (N := 1) ?hd (cs := #[.int .i64 a0_0, .int .i64 a0_1, .slice A0_2 l0_2.length c0_2]) (t := 58) ?hr ?_; (case hd => rfl); (case hg => rfl); (case hr => first | (go_simp; done) | (go_simp; rfl)); intro gb101 hg w5 hbox hb; have n0_ := Aside0.mk (below_step (by repeat (first | (with_reducible first | exact HB.out | apply below_alloc | apply pw_below_drewN | apply below_drew1) | exact HB.out)) hb); have n1_ := Aside0.mk (hbox); have n2_ := Aside0.mk ((by rw [hg]; exact (below_size (by repeat (first | (with_reducible first | exact HB.out | apply below_alloc | apply pw_below_drewN | apply below_drew1) | exact HB.out))) : w.heap.size ≤ gb101)); have n3_ := Aside0.mk ((by rw [hg]; exact (below_size (by repeat (first | (with_reducible first | exact HB.out | apply below_alloc | apply pw_below_drewN | apply below_drew1) | exact HB.out))) : w.heap.size ≤ gb101)); clear HB; have HB := n0_; have BK101 := n1_; have GW101 := n2_; have GE101 := n3_; clear n0_ n1_ n2_ n3_; clear hb hbox hg; have hcz6_0 : w5.cell? ⟨gb101, 0, none⟩ = some (.int .i64 a0_0) := (blk_cell BK101.out 0).trans rfl; have hcz6_1 : w5.cell? ⟨gb101, 1, none⟩ = some (.int .i64 a0_1) := (blk_cell BK101.out 1).trans rfl; have hcz6_2 : w5.cell? ⟨gb101, 2, none⟩ = some (.slice A0_2 l0_2.length c0_2) := (blk_cell BK101.out 2).trans rfl; have hfz6_0 := blk_frozen BK101.out 0; have hfz6_1 := blk_frozen BK101.out 1; have hfz6_2 := blk_frozen BK101.out 2) | ((with_reducible refine gate_callee (f := 81) rfl ?_); refine goesL_ (some 8) rfl rfl Try.func81 (by kernel_rfl) rfl #[.agg #[.int .i64 a0_0, .int .i64 a0_1, .slice A0_2 l0_2.length c0_2]] rfl (by (try simp only [List.map_toArray, List.map_cons, List.map_nil]); first | done | rfl | (simp only [List.length_drop, List.length_take]; rfl)) ?_; (with_reducible refine (impl_comb_measure.calls k a0_0 a0_1 _ _ l0_2 t102 t103 true _ ?side1 ?side2 A2.out).mono ?_); (case side1 => repeat (first | exact (Kd.C_below HR0_2.out HB.out) | (with_reducible refine Kd.C_alloc ?_ _) | (with_reducible refine Kd.C_drewN ?_ _) | (with_reducible refine Kd.C_drew ?_))); (case side2 => exact HC0_2.out); rintro e w7 ⟨rfl, hb⟩; refine ⟨_, rfl, ?_⟩; have n0_ := Aside0.mk (blk_below (g := gb101) (o := .cells #[.int .i64 a0_0, .int .i64 a0_1, .slice A0_2 l0_2.length c0_2] 58 (0, 0)) (by (with_reducible repeat (first | refine blk_drewN ?_ _ | refine blk_drew ?_ | refine blk_alloc ?_ _)); exact BK101.out) hb); have n1_ := Aside0.mk (below_step (by repeat (first | (with_reducible first | exact HB.out | apply below_alloc | apply pw_below_drewN | apply below_drew1 | refine below_set ?_ GE101.out) | exact HB.out)) hb); clear BK101; clear HB; have BK101 := n0_; have HB := n1_; clear n0_ n1_; (try clear hb); (try clear hb2); (try clear hk); (try clear hi)))
      go_ret
      exact ⟨by first | rfl | (simp [errW_none, errW_some] <;> rfl) | (simp [*, errW_none, errW_some] <;> rfl), by repeat (first | (with_reducible first | exact HB.out | apply below_alloc | apply pw_below_drewN | apply below_drew1 | refine below_set ?_ GE101.out) | exact HB.out)⟩
    · rw [if_neg c4] at H
      have c4b0 : decide (t102 ≤ 200) = false := decide_eq_false c4
      clear c4
      obtain rfl := Option.some.inj H
      go_enter Try.func58, Try.ntmps58
      go_wp2_with (first | ((with_reducible refine gate_dst (N := 1) rfl ?_); refine box_event ?hg (N := 1) ?hd (cs := #[.int .i64 a0_0, .int .i64 a0_1, .slice A0_2 l0_2.length c0_2]) (t := 58) ?hr ?_; (case hd => rfl); (case hg => rfl); (case hr => first | (go_simp; done) | (go_simp; rfl)); intro gb101 hg w8 hbox hb; have n0_ := Aside0.mk (below_step (by repeat (first | (with_reducible first | exact HB.out | apply below_alloc | apply pw_below_drewN | apply below_drew1) | exact HB.out)) hb); have n1_ := Aside0.mk (hbox); have n2_ := Aside0.mk ((by rw [hg]; exact (below_size (by repeat (first | (with_reducible first | exact HB.out | apply below_alloc | apply pw_below_drewN | apply below_drew1) | exact HB.out))) : w.heap.size ≤ gb101)); have n3_ := Aside0.mk ((by rw [hg]; exact (below_size (by repeat (first | (with_reducible first | exact HB.out | apply below_alloc | apply pw_below_drewN | apply below_drew1) | exact HB.out))) : w.heap.size ≤ gb101)); clear HB; have HB := n0_; have BK101 := n1_; have GW101 := n2_; have GE101 := n3_; clear n0_ n1_ n2_ n3_; clear hb hbox hg; have hcz9_0 : w8.cell? ⟨gb101, 0, none⟩ = some (.int .i64 a0_0) := (blk_cell BK101.out 0).trans rfl; have hcz9_1 : w8.cell? ⟨gb101, 1, none⟩ = some (.int .i64 a0_1) := (blk_cell BK101.out 1).trans rfl; have hcz9_2 : w8.cell? ⟨gb101, 2, none⟩ = some (.slice A0_2 l0_2.length c0_2) := (blk_cell BK101.out 2).trans rfl; have hfz9_0 := blk_frozen BK101.out 0; have hfz9_1 := blk_frozen BK101.out 1; have hfz9_2 := blk_frozen BK101.out 2) | ((with_reducible refine gate_callee (f := 81) rfl ?_); refine goesL_ (some 8) rfl rfl Try.func81 (by kernel_rfl) rfl #[.agg #[.int .i64 a0_0, .int .i64 a0_1, .slice A0_2 l0_2.length c0_2]] rfl (by (try simp only [List.map_toArray, List.map_cons, List.map_nil]); first | done | rfl | (simp only [List.length_drop, List.length_take]; rfl)) ?_; (with_reducible refine (impl_comb_measure.calls k a0_0 a0_1 _ _ l0_2 t102 t103 true _ ?side1 ?side2 A2.out).mono ?_); (case side1 => repeat (first | exact (Kd.C_below HR0_2.out HB.out) | (with_reducible refine Kd.C_alloc ?_ _) | (with_reducible refine Kd.C_drewN ?_ _) | (with_reducible refine Kd.C_drew ?_))); (case side2 => exact HC0_2.out); rintro e w10 ⟨rfl, hb⟩; refine ⟨_, rfl, ?_⟩; have n0_ := Aside0.mk (blk_below (g := gb101) (o := .cells #[.int .i64 a0_0, .int .i64 a0_1, .slice A0_2 l0_2.length c0_2] 58 (0, 0)) (by (with_reducible repeat (first | refine blk_drewN ?_ _ | refine blk_drew ?_ | refine blk_alloc ?_ _)); exact BK101.out) hb); have n1_ := Aside0.mk (below_step (by repeat (first | (with_reducible first | exact HB.out | apply below_alloc | apply pw_below_drewN | apply below_drew1 | refine below_set ?_ GE101.out) | exact HB.out)) hb); clear BK101; clear HB; have BK101 := n0_; have HB := n1_; clear n0_ n1_; (try clear hb); (try clear hb2); (try clear hk); (try clear hi)))
      go_ret
      exact ⟨by first | rfl | (simp [errW_none, errW_some] <;> rfl) | (simp [*, errW_none, errW_some] <;> rfl), by repeat (first | (with_reducible first | exact HB.out | apply below_alloc | apply pw_below_drewN | apply below_drew1 | refine below_set ?_ GE101.out) | exact HB.out)⟩
  · replace c3 := Bool.eq_false_iff.mpr c3
    subst c3
    have H1 : (some false) = some r := by rw [if_neg (show ¬ (false = true) by decide)] at H; exact H
    clear H
    have H := H1
    clear H1
    obtain rfl := Option.some.inj H
    go_enter Try.func58, Try.ntmps58
    go_wp2_with (first | ((with_reducible refine gate_dst (N := 1) rfl ?_); refine box_event ?hg (N := 1) ?hd (cs := #[.int .i64 a0_0, .int .i64 a0_1, .slice A0_2 l0_2.length c0_2]) (t := 58) ?hr ?_; (case hd => rfl); (case hg => rfl); (case hr => first | (go_simp; done) | (go_simp; rfl)); intro gb101 hg w11 hbox hb; have n0_ := Aside0.mk (below_step (by repeat (first | (with_reducible first | exact HB.out | apply below_alloc | apply pw_below_drewN | apply below_drew1) | exact HB.out)) hb); have n1_ := Aside0.mk (hbox); have n2_ := Aside0.mk ((by rw [hg]; exact (below_size (by repeat (first | (with_reducible first | exact HB.out | apply below_alloc | apply pw_below_drewN | apply below_drew1) | exact HB.out))) : w.heap.size ≤ gb101)); have n3_ := Aside0.mk ((by rw [hg]; exact (below_size (by repeat (first | (with_reducible first | exact HB.out | apply below_alloc | apply pw_below_drewN | apply below_drew1) | exact HB.out))) : w.heap.size ≤ gb101)); clear HB; have HB := n0_; have BK101 := n1_; have GW101 := n2_; have GE101 := n3_; clear n0_ n1_ n2_ n3_; clear hb hbox hg; have hcz12_0 : w11.cell? ⟨gb101, 0, none⟩ = some (.int .i64 a0_0) := (blk_cell BK101.out 0).trans rfl; have hcz12_1 : w11.cell? ⟨gb101, 1, none⟩ = some (.int .i64 a0_1) := (blk_cell BK101.out 1).trans rfl; have hcz12_2 : w11.cell? ⟨gb101, 2, none⟩ = some (.slice A0_2 l0_2.length c0_2) := (blk_cell BK101.out 2).trans rfl; have hfz12_0 := blk_frozen BK101.out 0; have hfz12_1 := blk_frozen BK101.out 1; have hfz12_2 := blk_frozen BK101.out 2) | ((with_reducible refine gate_callee (f := 81) rfl ?_); refine goesL_ (some 8) rfl rfl Try.func81 (by kernel_rfl) rfl #[.agg #[.int .i64 a0_0, .int .i64 a0_1, .slice A0_2 l0_2.length c0_2]] rfl (by (try simp only [List.map_toArray, List.map_cons, List.map_nil]); first | done | rfl | (simp only [List.length_drop, List.length_take]; rfl)) ?_; (with_reducible refine (impl_comb_measure.calls k a0_0 a0_1 _ _ l0_2 t102 t103 false _ ?side1 ?side2 A2.out).mono ?_); (case side1 => repeat (first | exact (Kd.C_below HR0_2.out HB.out) | (with_reducible refine Kd.C_alloc ?_ _) | (with_reducible refine Kd.C_drewN ?_ _) | (with_reducible refine Kd.C_drew ?_))); (case side2 => exact HC0_2.out); rintro e w13 ⟨rfl, hb⟩; refine ⟨_, rfl, ?_⟩; have n0_ := Aside0.mk (blk_below (g := gb101) (o := .cells #[.int .i64 a0_0, .int .i64 a0_1, .slice A0_2 l0_2.length c0_2] 58 (0, 0)) (by (with_reducible repeat (first | refine blk_drewN ?_ _ | refine blk_drew ?_ | refine blk_alloc ?_ _)); exact BK101.out) hb); have n1_ := Aside0.mk (below_step (by repeat (first | (with_reducible first | exact HB.out | apply below_alloc | apply pw_below_drewN | apply below_drew1 | refine below_set ?_ GE101.out) | exact HB.out)) hb); clear BK101; clear HB; have BK101 := n0_; have HB := n1_; clear n0_ n1_; (try clear hb); (try clear hb2); (try clear hk); (try clear hi)))
    go_ret
    exact ⟨by first | rfl | (simp [errW_none, errW_some] <;> rfl) | (simp [*, errW_none, errW_some] <;> rfl), by repeat (first | (with_reducible first | exact HB.out | apply below_alloc | apply pw_below_drewN | apply below_drew1 | refine below_set ?_ GE101.out) | exact HB.out)⟩

end Go.Proofs.Ytcjhhdecckcibaa.G

namespace Go.Proofs.Ytcjhhdecckcibaa.G
open Go.RowKit Go.Proofs.YtcjhhdecckcibaaW.PrintWords Go.Proofs.YtcjhhdecckcibaaW.PrintLast Go.Proofs.YtcjhhdecckcibaaW.PrintMore
attribute [local go_sem] max2_int min2_int max_two min_two max_three min_three max_four min_four   -- for this text's walks alone
set_option linter.unusedVariables false
set_option linter.unusedSimpArgs false

namespace Nodes58
mutual
def flT : S58 → Int → List S52 → List S52
 | ⟨k, n, ks⟩, up, l => flL ks (l.length : Int) (l ++ [⟨k, n, up⟩])
def flL : List S58 → Int → List S52 → List S52
 | [], _, l => l
 | x :: xs, k, l => flL xs k (flT x k l)
end
mutual
def szT : S58 → Nat
 | ⟨_, _, ks⟩ => 1 + szL ks
def szL : List S58 → Nat
 | [] => 0
 | x :: xs => szT x + szL xs
end
theorem flT_eq (x : S58) (up : Int) (l : List S52) : flT x up l = flL x.f2 (l.length : Int) (l ++ [⟨x.f0, x.f1, up⟩]) := by cases x; rw [flT]
theorem szT_eq (x : S58) : szT x = 1 + szL x.f2 := by cases x; rw [szT]
theorem flL_cons (x : S58) (xs : List S58) (k : Int) (l : List S52) : flL (x :: xs) k l = flL xs k (flT x k l) := by rw [flL]
theorem flL_nil (k : Int) (l : List S52) : flL [] k l = l := by rw [flL]
theorem szL_cons (x : S58) (xs : List S58) : szL (x :: xs) = szT x + szL xs := by rw [szL]
theorem rd_drop (l : List S58) (i : Nat) (h : i < l.length) : l.drop i = rd_T58 l (i : Int) :: l.drop (i + 1) := by
 rw [List.drop_eq_getElem_cons h]
 congr 1
 unfold rd_T58
 rw [Int.toNat_natCast, List.getD_eq_getElem?_getD, List.getElem?_eq_getElem h]; rfl
theorem rd_mem (l : List S58) (i : Int) (h0 : 0 ≤ i) (h1 : i < l.length) : rd_T58 l i ∈ l := by
 have hlt : i.toNat < l.length := by omega
 have e : rd_T58 l i = l[i.toNat] := by unfold rd_T58; rw [List.getD_eq_getElem?_getD, List.getElem?_eq_getElem hlt]; rfl
 rw [e]; exact List.getElem_mem hlt
theorem len_of : ∀ (N : Nat), (∀ (x : S58) (up : Int) (l : List S52), SizeOf.sizeOf x ≤ N → (flT x up l).length = l.length + szT x) ∧ (∀ (xs : List S58) (k : Int) (l : List S52), SizeOf.sizeOf xs ≤ N → (flL xs k l).length = l.length + szL xs) := by
 intro N
 induction N with
 | zero =>
  refine ⟨fun x up l h => ?_, fun xs k l h => ?_⟩
  ·cases x; simp at h
  ·cases xs <;> simp at h
 | succ N ih =>
  refine ⟨fun x up l h => ?_, fun xs k l h => ?_⟩
  ·cases x with
   | mk k n ks =>
    rw [flT, szT, ih.2 ks _ _ (by simp at h; omega), List.length_append]
    show l.length + 1 + szL ks = _; omega
  ·cases xs with
   | nil => rw [flL, szL]; rfl
   | cons x xs =>
    have h1 : SizeOf.sizeOf x ≤ N := by simp at h; omega
    have h2 : SizeOf.sizeOf xs ≤ N := by simp at h; omega
    rw [flL, szL, ih.2 xs k _ h2, ih.1 x k l h1]; omega
theorem flT_len (x : S58) (up : Int) (l : List S52) : (flT x up l).length = l.length + szT x := (len_of _).1 x up l (Nat.le_refl _)

set_option maxHeartbeats 4000000 in
set_option maxRecDepth 100000 in
theorem node_some (w0 : World) (go gp : Nat) (hgo : w0.heap.size ≤ go) (hgp : w0.heap.size ≤ gp) (hne : gp ≠ go) (a0 a1 up : Int) (ks : List S58) (A : Option Addr) (c : Nat) (l : List S52) (A0 : Option Addr) (c0 : Nat) (w : World) (hC : Kd.C k58 w0 A ks.length ks) (hc : ks.length ≤ c) (hl : l.length + (1 + szL ks) ≤ 200000)
  (hO : Kd.R k52 52 w w0.heap.size (fun _ => True) (.slice A0 l.length c0) l) (hB : Below w0.heap.size w0 w) (hbo : w.heap[go]? = some (.cells #[.slice A0 l.length c0] 25 (0, 0))) (hbp : w.heap[gp]? = some (.cells #[.func (.func 77) #[] #[.pointer (some ⟨go, 0, none⟩), .pointer (some ⟨gp, 0, none⟩)]] 106 (0, 0)))
  (ih : ∀ (j : Nat) (A : Option Addr) (c : Nat) (acc : List S52) (v : Value) (w : World), j < ks.length → (rd_T58 ks (j : Int)).f2.length ≤ c → acc.length + szT (rd_T58 ks (j : Int)) ≤ 200000 → Kd.R k52 52 w w0.heap.size (fun _ => True) v acc → Below w0.heap.size w0 w → w.heap[go]? = some (.cells #[v] 25 (0, 0)) → w.heap[gp]? = some (.cells #[.func (.func 77) #[] #[.pointer (some ⟨go, 0, none⟩), .pointer (some ⟨gp, 0, none⟩)]] 106 (0, 0)) → Kd.C k58 w0 A (rd_T58 ks (j : Int)).f2.length (rd_T58 ks (j : Int)).f2 →
   Calls Try.prog 77 #[.agg #[.int .i64 (rd_T58 ks (j : Int)).f0, .int .i64 (rd_T58 ks (j : Int)).f1, .slice A (rd_T58 ks (j : Int)).f2.length c], .int .i64 (l.length : Int), .pointer (some ⟨go, 0, none⟩), .pointer (some ⟨gp, 0, none⟩)] w fun e w' => ∃ v2, e = .returned (.tuple #[]) ∧ w'.heap[go]? = some (.cells #[v2] 25 (0, 0)) ∧ w'.heap[gp]? = some (.cells #[.func (.func 77) #[] #[.pointer (some ⟨go, 0, none⟩), .pointer (some ⟨gp, 0, none⟩)]] 106 (0, 0)) ∧ Kd.R k52 52 w' w0.heap.size (fun _ => True) v2 (flT (rd_T58 ks (j : Int)) (l.length : Int) acc) ∧ Below w0.heap.size w0 w') :
  Calls Try.prog 77 #[.agg #[.int .i64 a0, .int .i64 a1, .slice A ks.length c], .int .i64 up, .pointer (some ⟨go, 0, none⟩), .pointer (some ⟨gp, 0, none⟩)] w fun e w' => ∃ v2, e = .returned (.tuple #[]) ∧ w'.heap[go]? = some (.cells #[v2] 25 (0, 0)) ∧ w'.heap[gp]? = some (.cells #[.func (.func 77) #[] #[.pointer (some ⟨go, 0, none⟩), .pointer (some ⟨gp, 0, none⟩)]] 106 (0, 0)) ∧ Kd.R k52 52 w' w0.heap.size (fun _ => True) v2 (flL ks (l.length : Int) (l ++ [⟨a0, a1, up⟩])) ∧ Below w0.heap.size w0 w' := by
 have hu58 := Try.underlying58
 have hu25 := Try.underlying25
 have eg := enters_ Try.func77 (by kernel_rfl) rfl
 have HM := aK hC.2.1
 have HC0 := aK hC
 have HL := aK (show l.length ≤ 200000 by omega)
 have HZ := aK hl
 have HO := aK hO
 have HB := aK hB
 have BO := aK hbo
 have BP := aK hbp
 have GO := aK hgo
 have NGO := aK hne
 have NGB : Aside0 (∀ {gb : Nat} {v : Value} {W : World}, W.heap[gb]? = some (.cells #[.int .i64 a0, .int .i64 a1, .slice A ks.length c] 58 (0, 0)) → W.heap[go]? = some (.cells #[v] 25 (0, 0)) → gb ≠ go) := ⟨fun h1 h2 e => by subst e; rw [h1] at h2; simp at h2⟩
 have IH := aK ih
 clear hC hl hO hB ih hbo hbp hgo hgp hne
 go_enter Try.func77, Try.ntmps77
 go_wp2_with (first | ((with_reducible refine gate_dst (N := 4) rfl ?_); refine bE (N := 4) (cs := #[.int .i64 a0, .int .i64 a1, .slice A ks.length c]) (t := 58) ?_; intro gb hg w5 hbox hb; have m0_ := aK (below_step HB.out hb); have m1_ := aK (hbox); have m2_ := aK (Kd.R_below HO.out hb); have m3_ := aK (blk_below (g := go) (o := .cells #[.slice A0 l.length c0] 25 (0, 0)) BO.out hb); have m4_ := aK (blk_below (g := gp) (o := .cells #[.func (.func 77) #[] #[.pointer (some ⟨go, 0, none⟩), .pointer (some ⟨gp, 0, none⟩)]] 106 (0, 0)) BP.out hb); clear BO BP HB HO; have HB := m0_; have BK := m1_; have HO := m2_; have BO := m3_; have BP := m4_; clear m0_ m1_ m2_ m3_ m4_; clear hb hbox hg; have hcz_0 : w5.cell? ⟨gb, 0, none⟩ = some (.int .i64 a0) := (blk_cell BK.out 0).trans rfl; have hcz_1 : w5.cell? ⟨gb, 1, none⟩ = some (.int .i64 a1) := (blk_cell BK.out 1).trans rfl; have hcz_2 : w5.cell? ⟨gb, 2, none⟩ = some (.slice A ks.length c) := (blk_cell BK.out 2).trans rfl; have hfz_0 := blk_frozen BK.out 0; have hfz_1 := blk_frozen BK.out 1; have hfz_2 := blk_frozen BK.out 2; have hczo_0 : w5.cell? ⟨go, 0, none⟩ = some (.slice A0 l.length c0) := (blk_cell BO.out 0).trans rfl; have hfzo_0 := blk_frozen BO.out 0) | ((with_reducible refine gate_builtin (b := .append) (xs := #[.tmp 11, .tmp 18]) rfl ?_); at_builtin; refine Kd.R_append k52 (w0 := w0) w0.heap.size rfl (.tmp 11) (.tmp 18) 25 52 (.agg #[(.int .i64 0), (.int .i64 0), (.int .i64 0)]) 24 rfl Try.underlying25 info52 rfl (by decide) (by omega) (.slice A0 l.length c0) l (⟨a0, a1, up⟩ : S52) [.int .i64 a0, .int .i64 a1, .int .i64 up] (fun _ => True) (fun _ => False) rfl (by first | (go_simp; done) | (go_simp; rfl)) ?aP (fun _ hk => hk.elim) ?aF ?aO ?aB ?aS ?aL ?_; (case aP => exact k52_mkM _ _ _ (⟨a0, a1, up⟩ : S52)); (case aB => exact HB.out); (case aF => exact (fun _ _ => trivial)); (case aO => exact HO.out); (case aS => exact (below_size HB.out)); (case aL => have := HL.out; omega); intro v1 w7 ho hb hg hat; obtain ⟨A3, c3, hv3⟩ := Kd.R_slice ho; obtain ⟨n3, hn3⟩ : ∃ n3, n3 = (l ++ [(⟨a0, a1, up⟩ : S52)]).length := ⟨_, rfl⟩; rw [← hn3] at hv3; subst hv3; clear hn3; have m0_ := aK (hb); have m1_ := aK ((hg.block gb (blk_lt BK.out) (Kd.R_ne HO.out BK.out (by decide))).trans BK.out); have m2_ := aK ((hg.block go (blk_lt BO.out) (Kd.R_ne HO.out BO.out (by decide))).trans BO.out); have m3_ := aK ((hg.block gp (blk_lt BP.out) (Kd.R_ne HO.out BP.out (by decide))).trans BP.out); have m4_ := aK (ho); clear BO BP HB HO; have HB := m0_; have BK := m1_; have BO := m2_; have BP := m3_; have HO := m4_; clear m0_ m1_ m2_ m3_ m4_; clear ho hb hg hat; clear hcz_0 hfz_0 hcz_1 hfz_1 hcz_2 hfz_2 hczo_0 hfzo_0; have hcza_0 : w7.cell? ⟨gb, 0, none⟩ = some (.int .i64 a0) := (blk_cell BK.out 0).trans rfl; have hcza_1 : w7.cell? ⟨gb, 1, none⟩ = some (.int .i64 a1) := (blk_cell BK.out 1).trans rfl; have hcza_2 : w7.cell? ⟨gb, 2, none⟩ = some (.slice A ks.length c) := (blk_cell BK.out 2).trans rfl; have hfza_0 := blk_frozen BK.out 0; have hfza_1 := blk_frozen BK.out 1; have hfza_2 := blk_frozen BK.out 2; have hczp_0 : w7.cell? ⟨go, 0, none⟩ = some (.slice A0 l.length c0) := (blk_cell BO.out 0).trans rfl; have hfzp_0 := blk_frozen BO.out 0; have hnb_ := NGB.out BK.out BO.out; have hnc_ := NGO.out))
 have n0_ : Aside0 (Kd.R k52 52 (w7.setCell ⟨go, 0, none⟩ (.slice A3 n3 c3)) w0.heap.size (fun _ => True) (.slice A3 n3 c3) (l ++ [⟨a0, a1, up⟩])) := ⟨Kd.R_mono (Kd.R_far (p := ⟨go, 0, none⟩) (Kd.R_types HO.out BO.out (by decide)) (fun _ hk => hk.2) (.slice A3 n3 c3)) (fun _ hk => hk.1)⟩
 have n1_ : Aside0 (Below w0.heap.size w0 (w7.setCell ⟨go, 0, none⟩ (.slice A3 n3 c3))) := ⟨below_set HB.out GO.out⟩
 have n2_ : Aside0 ((w7.setCell ⟨go, 0, none⟩ (.slice A3 n3 c3)).heap[go]? = some (.cells #[.slice A3 n3 c3] 25 (0, 0))) := ⟨by refine blk_put (cs := #[.slice A0 l.length c0]) ?_ 0 _ rfl; exact BO.out⟩
 have n3_ : Aside0 ((w7.setCell ⟨go, 0, none⟩ (.slice A3 n3 c3)).heap[gp]? = some (.cells #[.func (.func 77) #[] #[.pointer (some ⟨go, 0, none⟩), .pointer (some ⟨gp, 0, none⟩)]] 106 (0, 0))) := ⟨by refine blk_far ?_ NGO.out _; exact BP.out⟩
 clear HO HB BO BP
 go_loopg [23] (ks.length + 1) (fun kq v23 w' => ∃ (i : Int) (acc : List S52) (v : Value), v23 = .int .i64 i ∧ Aside0 (Kd.R k52 52 w' w0.heap.size (fun _ => True) v acc) ∧ Aside0 (0 ≤ i ∧ i ≤ ks.length ∧ (kq : Int) = ks.length - i + 1) ∧ Aside0 (acc.length + szL (ks.drop i.toNat) ≤ 200000 ∧ flL (ks.drop i.toNat) (l.length : Int) acc = flL ks (l.length : Int) (l ++ [⟨a0, a1, up⟩])) ∧ Aside0 (Below w0.heap.size w0 w') ∧ Aside0 (w'.heap[go]? = some (.cells #[v] 25 (0, 0))) ∧ Aside0 (w'.heap[gp]? = some (.cells #[.func (.func 77) #[] #[.pointer (some ⟨go, 0, none⟩), .pointer (some ⟨gp, 0, none⟩)]] 106 (0, 0))))
 case atStart => exact ⟨0, l ++ [⟨a0, a1, up⟩], .slice A3 n3 c3, rfl, n0_, ⟨by omega, by omega, by omega⟩, ⟨by have := HZ.out; rw [List.length_append, show (0 : Int).toNat = 0 from rfl, List.drop_zero]; show l.length + 1 + _ ≤ _; omega, by rw [show (0 : Int).toNat = 0 from rfl, List.drop_zero]⟩, n1_, n2_, n3_⟩
 case round =>
  clear n0_ n1_ n2_ n3_ BK
  obtain ⟨i, acc, v, rfl, HO0, HA, HF, HB, BO, BP⟩ := hrel
  obtain ⟨A1, c1, rfl⟩ := Kd.R_slice HO0.out
  have HO := HO0
  clear HO0
  by_cases c2 : i < (ks.length : Int)
  ·have cb : decide (i < (ks.length : Int)) = true := decide_eq_true c2
   have cz : decide (0 ≤ i) = true := decide_eq_true HA.out.1
   obtain ⟨j, rfl⟩ : ∃ j : Nat, i = (j : Int) := ⟨i.toNat, by have := HA.out.1; omega⟩
   obtain ⟨ad, A2, c2_, e1, hx0, hx1, hx2, hl2, hi2⟩ := at_T58 (HC0.out) (j : Int) HA.out.1 c2
   cases e1
   simp only [Int.toNat_natCast] at hx0 hx1 hx2
   have HC2 := aK hl2
   have HR2 := aK hi2
   clear hl2 hi2
   replace hx0 := uC HB hx0
   replace hx1 := uC HB hx1
   replace hx2 := uC HB hx2
   have w1 : wrap64 ((j : Int) + 1) = (j : Int) + 1 := by have := HM.out; unfold wrap64; omega
   have W1 := aK w1
   have PI := aK (show j < ks.length by omega)
   have p1 := eq_true HA.out.1
   have q1 := eq_true c2
   clear c2 w1
   have e9 : flL (ks.drop j) (l.length : Int) acc = flL (ks.drop (j + 1)) (l.length : Int) (flT (rd_T58 ks (j : Int)) (l.length : Int) acc) := by rw [rd_drop ks j PI.out, flL_cons]
   have E9 := aK e9
   have e8 : szL (ks.drop j) = szT (rd_T58 ks (j : Int)) + szL (ks.drop (j + 1)) := by rw [rd_drop ks j PI.out, szL_cons]
   have E8 := aK e8
   have CL : Aside0 (acc.length + szT (rd_T58 ks (j : Int)) ≤ 200000) := ⟨by have h := HF.out.1; rw [show ((j : Int)).toNat = j by omega, e8] at h; omega⟩
   clear e9 e8
   obtain ⟨k1, rfl⟩ : ∃ m, gk = m + 1 := ⟨gk - 1, by have := HA.out; have := PI.out; omega⟩
   go_wp2_with ((with_reducible refine gate_dst (N := 8) rfl ?_); refine bE (N := 8) (cs := #[.int .i64 0, .int .i64 0, .slice none 0 0]) (t := 58) ?_; intro g2 hg w9 hbox hb; have hy0 := (hb.cell (World.block_lt_of_cell? _ _ hx0)).trans hx0; have hy1 := (hb.cell (World.block_lt_of_cell? _ _ hx1)).trans hx1; have hy2 := (hb.cell (World.block_lt_of_cell? _ _ hx2)).trans hx2; clear hx0 hx1 hx2; have hx0 := hy0; have hx1 := hy1; have hx2 := hy2; clear hy0 hy1 hy2; have m0_ := aK (below_step HB.out hb); have m1_ := aK (hbox); have m2_ := aK (Kd.R_below HO.out hb); have m3_ := aK (blk_below (g := go) (o := .cells #[.slice A1 acc.length c1] 25 (0, 0)) BO.out hb); have m4_ := aK (blk_below (g := gp) (o := .cells #[.func (.func 77) #[] #[.pointer (some ⟨go, 0, none⟩), .pointer (some ⟨gp, 0, none⟩)]] 106 (0, 0)) BP.out hb); have m5_ := aK ((by rw [hg]; exact below_size HB.out : w0.heap.size ≤ g2)); have m6_ := aK ((by rw [hg]; exact Nat.ne_of_lt (blk_lt BO.out) : go ≠ g2)); have m7_ := aK ((by rw [hg]; exact Nat.ne_of_lt (blk_lt BP.out) : gp ≠ g2)); clear BO BP HB HO; have HB := m0_; have BK2 := m1_; have HO := m2_; have BO := m3_; have BP := m4_; have GE2 := m5_; have N2O := m6_; have N2P := m7_; clear m0_ m1_ m2_ m3_ m4_ m5_ m6_ m7_; clear hb hbox hg; have hn1_ := N2O.out; have hn2_ := N2P.out; have hczb_0 : w9.cell? ⟨g2, 0, none⟩ = some (.int .i64 0) := (blk_cell BK2.out 0).trans rfl; have hczb_1 : w9.cell? ⟨g2, 1, none⟩ = some (.int .i64 0) := (blk_cell BK2.out 1).trans rfl; have hczb_2 : w9.cell? ⟨g2, 2, none⟩ = some (.slice none 0 0) := (blk_cell BK2.out 2).trans rfl; have hfzb_0 := blk_frozen BK2.out 0; have hfzb_1 := blk_frozen BK2.out 1; have hfzb_2 := blk_frozen BK2.out 2; have hczq_0 : w9.cell? ⟨go, 0, none⟩ = some (.slice A1 acc.length c1) := (blk_cell BO.out 0).trans rfl; have hfzq_0 := blk_frozen BO.out 0; have hczr_0 : w9.cell? ⟨gp, 0, none⟩ = some (.func (.func 77) #[] #[.pointer (some ⟨go, 0, none⟩), .pointer (some ⟨gp, 0, none⟩)]) := (blk_cell BP.out 0).trans rfl; have hfzr_0 := blk_frozen BP.out 0)
   refine (IH.out j A2 c2_ acc (.slice A1 acc.length c1) _ PI.out HC2.out (by have := CL.out; omega) (Kd.R_mono (Kd.R_far (p := ⟨g2, 2, none⟩) (Kd.R_far (p := ⟨g2, 1, none⟩) (Kd.R_far (p := ⟨g2, 0, none⟩) (Kd.R_types HO.out BK2.out (by decide)) (fun _ hk => hk.2) (.int .i64 (rd_T58 ks (j : Int)).f0)) (fun _ hk => hk.2) (.int .i64 (rd_T58 ks (j : Int)).f1)) (fun _ hk => hk.2) (.slice A2 (rd_T58 ks (j : Int)).f2.length c2_)) (fun _ hk => hk.1)) (below_set (below_set (below_set HB.out GE2.out) GE2.out) GE2.out) (by refine blk_far ?_ N2O.out _; refine blk_far ?_ N2O.out _; refine blk_far ?_ N2O.out _; exact BO.out) (by refine blk_far ?_ N2P.out _; refine blk_far ?_ N2P.out _; refine blk_far ?_ N2P.out _; exact BP.out) HR2.out).mono ?_
   rintro e w' ⟨v2, rfl, bo2, bp2, ho2, hb2⟩
   have HO2 := aK ho2
   have HB2 := aK hb2
   have BO2 := aK bo2
   have BP2 := aK bp2
   clear HB HO BK2 BO BP ho2 hb2 bo2 bp2
   go_wp2
   go_roundg k1
   case measure => omega
   case rel => exact ⟨(j : Int) + 1, _, v2, by first | rfl | rw [W1.out], HO2, ⟨by have := HA.out; omega, by have := PI.out; omega, by have := HA.out; omega⟩, ⟨by have h := HF.out.1; rw [show ((j : Int)).toNat = j by omega, E8.out] at h; rw [flT_len, show ((j : Int) + 1).toNat = j + 1 by omega]; omega, by rw [← HF.out.2, show ((j : Int) + 1).toNat = j + 1 by omega, show ((j : Int)).toNat = j by omega, E9.out]⟩, HB2, BO2, BP2⟩
  ·have cb : decide (i < (ks.length : Int)) = false := decide_eq_false c2
   have hi : i.toNat = ks.length := by have := HA.out; omega
   have e := HF.out.2
   rw [hi, List.drop_length, flL_nil] at e
   have E := aK e
   clear c2 hi e
   go_wp2
   go_end0
   exact ⟨_, rfl, BO.out, BP.out, by rw [← E.out]; exact HO.out, HB.out⟩

theorem flat_some (w0 : World) (go gp : Nat) (hgo : w0.heap.size ≤ go) (hgp : w0.heap.size ≤ gp) (hne : gp ≠ go) : ∀ (N : Nat) (x : S58) (up : Int) (A : Option Addr) (c : Nat) (l : List S52) (v : Value) (w : World), SizeOf.sizeOf x.f2 ≤ N → x.f2.length ≤ c → l.length + szT x ≤ 200000 → Kd.R k52 52 w w0.heap.size (fun _ => True) v l → Below w0.heap.size w0 w → w.heap[go]? = some (.cells #[v] 25 (0, 0)) → w.heap[gp]? = some (.cells #[.func (.func 77) #[] #[.pointer (some ⟨go, 0, none⟩), .pointer (some ⟨gp, 0, none⟩)]] 106 (0, 0)) → Kd.C k58 w0 A x.f2.length x.f2 →
  Calls Try.prog 77 #[.agg #[.int .i64 x.f0, .int .i64 x.f1, .slice A x.f2.length c], .int .i64 up, .pointer (some ⟨go, 0, none⟩), .pointer (some ⟨gp, 0, none⟩)] w fun e w' => ∃ v2, e = .returned (.tuple #[]) ∧ w'.heap[go]? = some (.cells #[v2] 25 (0, 0)) ∧ w'.heap[gp]? = some (.cells #[.func (.func 77) #[] #[.pointer (some ⟨go, 0, none⟩), .pointer (some ⟨gp, 0, none⟩)]] 106 (0, 0)) ∧ Kd.R k52 52 w' w0.heap.size (fun _ => True) v2 (flT x up l) ∧ Below w0.heap.size w0 w' := by
 intro N
 induction N with
 | zero =>
  intro x up A c l v w hN
  cases h : x.f2 with
  | nil => rw [h] at hN; simp at hN
  | cons y ys => rw [h] at hN; simp at hN
 | succ N ih =>
  intro x up A c l v w hN hc hl hO hB hbo hbp hC
  obtain ⟨A0, c0, rfl⟩ := Kd.R_slice hO
  rw [flT_eq]
  refine node_some w0 go gp hgo hgp hne x.f0 x.f1 up x.f2 A c l A0 c0 w hC hc (by rw [← szT_eq]; exact hl) hO hB hbo hbp fun j A2 c2 acc v2 w2 hj hc2 hacc hO2 hB2 hbo2 hbp2 hC2 => ?_
  refine ih (rd_T58 x.f2 (j : Int)) (l.length : Int) A2 c2 acc v2 w2 ?_ hc2 hacc hO2 hB2 hbo2 hbp2 hC2
  have h1 := List.sizeOf_lt_of_mem (rd_mem x.f2 (j : Int) (by omega) (by omega))
  have h2 : ∀ y : S58, SizeOf.sizeOf y.f2 < SizeOf.sizeOf y := fun y => by cases y; simp; omega
  have h3 := h2 (rd_T58 x.f2 (j : Int))
  omega
end Nodes58

theorem Nodes58.store_func (P : Program) (w : World) (a : Addr) (m : Mode) (fn : Fn) (first captured : Array Value) : (store a (.func fn first captured) m).run P w = stored P w a (.func fn first captured) m := run_store P w a _ m rfl
attribute [local go_sem] Nodes58.store_func
def impl_comb_goodNodes.f (k : Nat) (a0_0 : Int) (a0_1 : Int) (l0_2 : List (S58)) : Option ((List (S52)) × Bool) := (impl_comb_isGood.f k a0_0 a0_1 l0_2).bind fun b => (if b = true then (if Nodes58.szT ⟨a0_0, a0_1, l0_2⟩ ≤ 200000 then (some (Nodes58.flT ⟨a0_0, a0_1, l0_2⟩ (-1) [], true)) else (none)) else (some (([] : List S52), false)))
set_option maxHeartbeats 4000000 in
set_option maxRecDepth 100000 in
theorem impl_comb_goodNodes.calls (k : Nat) (a0_0 : Int) (a0_1 : Int) (A0_2 : Option Addr) (c0_2 : Nat) (l0_2 : List (S58)) (r1 : List (S52)) (r2 : Bool) (w : World) (hr0_2 : Kd.C k58 w A0_2 l0_2.length l0_2) (hc0_2 : l0_2.length ≤ c0_2) (h : impl_comb_goodNodes.f k a0_0 a0_1 l0_2 = some (r1, r2)) :
  Calls Try.prog 54 #[.agg #[.int .i64 a0_0, .int .i64 a0_1, .slice A0_2 l0_2.length c0_2]] w fun e w' => ∃ v0_ : Value, e = .returned (.tuple #[v0_, .bool r2]) ∧ Kd.R k52 52 w' w.heap.size (fun _ => True) v0_ r1 ∧ Below w.heap.size w w' := by
 have hu58 := Try.underlying58
 have hu25 := Try.underlying25
 have eg := enters_ Try.func77 (by kernel_rfl) rfl
 have hmf : ∀ (fn : Fn) (first cap : Array Value) (w : World), (Instr.makeFunc fn first cap).run Try.prog w = .ok (.func fn first cap) w := fun _ _ _ _ => rfl
 have HR0 := aK hr0_2
 have HC0 := aK hc0_2
 clear hr0_2 hc0_2
 have HB := aK (Below.refl w.heap.size w)
 have H : ((impl_comb_isGood.f k a0_0 a0_1 l0_2).bind fun b => (if b = true then (if Nodes58.szT ⟨a0_0, a0_1, l0_2⟩ ≤ 200000 then (some (Nodes58.flT ⟨a0_0, a0_1, l0_2⟩ (-1) [], true)) else (none)) else (some (([] : List S52), false)))) = some (r1, r2) := h
 clear h
 replace H := Option.bind_eq_some_iff.mp H
 obtain ⟨b, HG0, H⟩ := H
 have HG := aK HG0
 clear HG0
 cases b with
 | true =>
  rw [if_pos rfl] at H
  by_cases hz : Nodes58.szT ⟨a0_0, a0_1, l0_2⟩ ≤ 200000
  case neg => rw [if_neg hz] at H; exact absurd H (by simp)
  rw [if_pos hz] at H
  have HZ := aK hz
  clear hz
  simp only [Option.some.injEq, Prod.mk.injEq] at H
  obtain ⟨rfl, rfl⟩ := H
  go_enter Try.func54, Try.ntmps54
  go_wp2_with (first | ((with_reducible refine gate_dst (N := 1) rfl ?_); refine bE (N := 1) (cs := #[.int .i64 a0_0, .int .i64 a0_1, .slice A0_2 l0_2.length c0_2]) (t := 58) ?_; intro gb hg w5 hbox hb; have n0_ := aK (below_step HB.out hb); have BK := aK hbox; clear HB; have HB := n0_; clear n0_; clear hb hbox hg; have hcz_0 : w5.cell? ⟨gb, 0, none⟩ = some (.int .i64 a0_0) := (blk_cell BK.out 0).trans rfl; have hcz_1 : w5.cell? ⟨gb, 1, none⟩ = some (.int .i64 a0_1) := (blk_cell BK.out 1).trans rfl; have hcz_2 : w5.cell? ⟨gb, 2, none⟩ = some (.slice A0_2 l0_2.length c0_2) := (blk_cell BK.out 2).trans rfl; have hfz_0 := blk_frozen BK.out 0; have hfz_1 := blk_frozen BK.out 1; have hfz_2 := blk_frozen BK.out 2) | ((with_reducible refine gate_callee (f := 58) rfl ?_); refine goesL_ (some 7) rfl rfl Try.func58 (by kernel_rfl) rfl #[.agg #[.int .i64 a0_0, .int .i64 a0_1, .slice A0_2 l0_2.length c0_2]] rfl tA ?_; refine (impl_comb_isGood.calls k a0_0 a0_1 _ _ l0_2 true _ (Kd.C_below HR0.out HB.out) HC0.out HG.out).mono ?_; rintro e w7 ⟨rfl, hb⟩; refine ⟨_, rfl, ?_⟩; have n0_ := aK (below_step HB.out hb); have n1_ := aK (blk_below (g := gb) (o := .cells #[.int .i64 a0_0, .int .i64 a0_1, .slice A0_2 l0_2.length c0_2] 58 (0, 0)) BK.out hb); clear HB BK; have HB := n0_; have BK := n1_; clear n0_ n1_; clear hb; clear hcz_0 hcz_1 hcz_2 hfz_0 hfz_1 hfz_2; have hcza_0 : w7.cell? ⟨gb, 0, none⟩ = some (.int .i64 a0_0) := (blk_cell BK.out 0).trans rfl; have hcza_1 : w7.cell? ⟨gb, 1, none⟩ = some (.int .i64 a0_1) := (blk_cell BK.out 1).trans rfl; have hcza_2 : w7.cell? ⟨gb, 2, none⟩ = some (.slice A0_2 l0_2.length c0_2) := (blk_cell BK.out 2).trans rfl; have hfza_0 := blk_frozen BK.out 0; have hfza_1 := blk_frozen BK.out 1; have hfza_2 := blk_frozen BK.out 2) | ((with_reducible refine gate_dst (N := 9) rfl ?_); refine Kd.R_lit k52 _ 52 ?hg (N := 9) ?hd (xs := ([] : List S52)) (inner := []) (ok := fun _ => True) (okp := fun _ => True) ?hr ?hp (fun _ hk => hk) trivial (Below.refl _ _) (Nat.le_refl _) (by simp) ?_; (case hd => rfl); (case hg => rfl); (case hr => go_simp); (case hp => exact (Reps.none _ _)); intro v1 w8 ho hb hg_ hnew_; clear hg_ hnew_; obtain ⟨A1, c1, rfl⟩ := Kd.R_slice ho; have n0_ := aK (Kd.R_lower ho (below_size HB.out)); have n1_ := aK (below_step HB.out hb); have n2_ := aK (blk_below (g := gb) (o := .cells #[.int .i64 a0_0, .int .i64 a0_1, .slice A0_2 l0_2.length c0_2] 58 (0, 0)) BK.out hb); clear HB BK; have HO := n0_; have HB := n1_; have BK := n2_; clear n0_ n1_ n2_; clear hb ho; clear hcza_0 hcza_1 hcza_2 hfza_0 hfza_1 hfza_2) | ((with_reducible refine gate_dst (N := 4) rfl ?_); refine bE (N := 4) (cs := #[.slice none 0 0]) (t := 25) ?_; intro go hg w9 hbox hb; have n0_ := aK (Kd.R_below HO.out hb); have n1_ := aK (below_step HB.out hb); have n2_ := aK (blk_below (g := gb) (o := .cells #[.int .i64 a0_0, .int .i64 a0_1, .slice A0_2 l0_2.length c0_2] 58 (0, 0)) BK.out hb); have n3_ := aK hbox; have n4_ := aK ((by rw [hg]; exact below_size HB.out : w.heap.size ≤ go)); have n5_ := aK ((by rw [hg]; exact Nat.ne_of_lt (blk_lt BK.out) : gb ≠ go)); clear HB BK HO; have HO := n0_; have HB := n1_; have BK := n2_; have BO := n3_; have GO := n4_; have NGB := n5_; clear n0_ n1_ n2_ n3_ n4_ n5_; clear hb hbox hg; have hczo_0 : w9.cell? ⟨go, 0, none⟩ = some (.slice none 0 0) := (blk_cell BO.out 0).trans rfl; have hfzo_0 := blk_frozen BO.out 0) | ((with_reducible refine gate_dst (N := 5) rfl ?_); refine bE (N := 5) (cs := #[.nilFunc]) (t := 106) ?_; intro gp hg w10 hbox hb; have n0_ := aK (Kd.R_below (Kd.R_mono (Kd.R_far (p := ⟨go, 0, none⟩) (Kd.R_types HO.out BO.out (by decide)) (fun _ hk => hk.2) (.slice A1 0 c1)) (fun _ hk => hk.1)) hb); have n1_ := aK (below_step (below_set HB.out GO.out) hb); have n2_ := aK (blk_below (g := gb) (o := .cells #[.int .i64 a0_0, .int .i64 a0_1, .slice A0_2 l0_2.length c0_2] 58 (0, 0)) (blk_far BK.out NGB.out _) hb); have n3_ := aK (blk_below (g := go) (o := .cells #[.slice A1 0 c1] 25 (0, 0)) (blk_put (cs := #[.slice none 0 0]) BO.out 0 (.slice A1 0 c1) rfl) hb); have n4_ := aK hbox; have n5_ := aK ((by rw [hg]; exact below_size (below_set HB.out GO.out) : w.heap.size ≤ gp)); have n6_ := aK ((by rw [hg]; exact Nat.ne_of_gt (blk_lt (o := .cells #[.slice A1 0 c1] 25 (0, 0)) (blk_put (cs := #[.slice none 0 0]) BO.out 0 (.slice A1 0 c1) rfl)) : gp ≠ go)); have n7_ := aK ((by rw [hg]; exact Nat.ne_of_lt (blk_lt (o := .cells #[.int .i64 a0_0, .int .i64 a0_1, .slice A0_2 l0_2.length c0_2] 58 (0, 0)) (blk_far BK.out NGB.out _)) : gb ≠ gp)); clear HB BK HO BO; have HO := n0_; have HB := n1_; have BK := n2_; have BO := n3_; have BP := n4_; have GP := n5_; have NPO := n6_; have NBP := n7_; clear n0_ n1_ n2_ n3_ n4_ n5_ n6_ n7_; clear hb hbox hg; clear hczo_0 hfzo_0; have hq1_ := NBP.out; have hq2_ := NPO.out; have hq3_ := NGB.out; have hczc_0 : w10.cell? ⟨gb, 0, none⟩ = some (.int .i64 a0_0) := (blk_cell BK.out 0).trans rfl; have hczc_1 : w10.cell? ⟨gb, 1, none⟩ = some (.int .i64 a0_1) := (blk_cell BK.out 1).trans rfl; have hczc_2 : w10.cell? ⟨gb, 2, none⟩ = some (.slice A0_2 l0_2.length c0_2) := (blk_cell BK.out 2).trans rfl; have hfzc_0 := blk_frozen BK.out 0; have hfzc_1 := blk_frozen BK.out 1; have hfzc_2 := blk_frozen BK.out 2; have hczd_0 : w10.cell? ⟨go, 0, none⟩ = some (.slice A1 0 c1) := (blk_cell BO.out 0).trans rfl; have hfzd_0 := blk_frozen BO.out 0; have hcze_0 : w10.cell? ⟨gp, 0, none⟩ = some (.nilFunc) := (blk_cell BP.out 0).trans rfl; have hfze_0 := blk_frozen BP.out 0))
  refine (Nodes58.flat_some w go gp GO.out GP.out NPO.out (SizeOf.sizeOf l0_2) (⟨a0_0, a0_1, l0_2⟩ : S58) (-1) A0_2 c0_2 [] (.slice A1 0 c1) _ (Nat.le_refl _) HC0.out (by have := HZ.out; simpa using this) (Kd.R_mono (Kd.R_far (p := ⟨gp, 0, none⟩) (Kd.R_types HO.out BP.out (by decide)) (fun _ hk => hk.2) (.func (.func 77) #[] #[.pointer (some ⟨go, 0, none⟩), .pointer (some ⟨gp, 0, none⟩)])) (fun _ hk => hk.1)) (below_set HB.out GP.out) (blk_far BO.out NPO.out.symm _) (blk_put (cs := #[.nilFunc]) BP.out 0 (.func (.func 77) #[] #[.pointer (some ⟨go, 0, none⟩), .pointer (some ⟨gp, 0, none⟩)]) rfl) HR0.out).mono ?_
  rintro e w' ⟨v2, rfl, bo2, bp2, ho2, hb2⟩
  obtain ⟨A9, c9, hv9⟩ := Kd.R_slice ho2
  obtain ⟨n9, hn9⟩ : ∃ n9, n9 = (Nodes58.flT (⟨a0_0, a0_1, l0_2⟩ : S58) (-1) []).length := ⟨_, rfl⟩
  rw [← hn9] at hv9
  subst hv9
  clear hn9
  have hq_ : w'.cell? ⟨go, 0, none⟩ = some (.slice A9 n9 c9) := (blk_cell bo2 0).trans rfl
  have hf_ := blk_frozen bo2 0
  have HO2 := aK ho2
  have HB2 := aK hb2
  clear ho2 hb2 bo2 bp2
  go_wp2
  go_ret2
  exact ⟨_, rfl, HO2.out, HB2.out⟩
 | false =>
  rw [if_neg (by decide)] at H
  simp only [Option.some.injEq, Prod.mk.injEq] at H
  obtain ⟨rfl, rfl⟩ := H
  go_enter Try.func54, Try.ntmps54
  go_wp2_with (first | ((with_reducible refine gate_dst (N := 1) rfl ?_); refine bE (N := 1) (cs := #[.int .i64 a0_0, .int .i64 a0_1, .slice A0_2 l0_2.length c0_2]) (t := 58) ?_; intro gb hg w5 hbox hb; have n0_ := aK (below_step HB.out hb); have BK := aK hbox; clear HB; have HB := n0_; clear n0_; clear hb hbox hg; have hcz_0 : w5.cell? ⟨gb, 0, none⟩ = some (.int .i64 a0_0) := (blk_cell BK.out 0).trans rfl; have hcz_1 : w5.cell? ⟨gb, 1, none⟩ = some (.int .i64 a0_1) := (blk_cell BK.out 1).trans rfl; have hcz_2 : w5.cell? ⟨gb, 2, none⟩ = some (.slice A0_2 l0_2.length c0_2) := (blk_cell BK.out 2).trans rfl; have hfz_0 := blk_frozen BK.out 0; have hfz_1 := blk_frozen BK.out 1; have hfz_2 := blk_frozen BK.out 2) | ((with_reducible refine gate_callee (f := 58) rfl ?_); refine goesL_ (some 7) rfl rfl Try.func58 (by kernel_rfl) rfl #[.agg #[.int .i64 a0_0, .int .i64 a0_1, .slice A0_2 l0_2.length c0_2]] rfl tA ?_; refine (impl_comb_isGood.calls k a0_0 a0_1 _ _ l0_2 false _ (Kd.C_below HR0.out HB.out) HC0.out HG.out).mono ?_; rintro e w7 ⟨rfl, hb⟩; refine ⟨_, rfl, ?_⟩; have n0_ := aK (below_step HB.out hb); have n1_ := aK (blk_below (g := gb) (o := .cells #[.int .i64 a0_0, .int .i64 a0_1, .slice A0_2 l0_2.length c0_2] 58 (0, 0)) BK.out hb); clear HB BK; have HB := n0_; have BK := n1_; clear n0_ n1_; clear hb; clear hcz_0 hcz_1 hcz_2 hfz_0 hfz_1 hfz_2; have hcza_0 : w7.cell? ⟨gb, 0, none⟩ = some (.int .i64 a0_0) := (blk_cell BK.out 0).trans rfl; have hcza_1 : w7.cell? ⟨gb, 1, none⟩ = some (.int .i64 a0_1) := (blk_cell BK.out 1).trans rfl; have hcza_2 : w7.cell? ⟨gb, 2, none⟩ = some (.slice A0_2 l0_2.length c0_2) := (blk_cell BK.out 2).trans rfl; have hfza_0 := blk_frozen BK.out 0; have hfza_1 := blk_frozen BK.out 1; have hfza_2 := blk_frozen BK.out 2))
  go_ret2
  exact ⟨_, rfl, Kd.R_nil _ _ _ _ _, HB.out⟩
end Go.Proofs.Ytcjhhdecckcibaa.G

namespace Go.Proofs.Ytcjhhdecckcibaa.G
open Go.RowKit Go.Proofs.YtcjhhdecckcibaaW.PrintWords Go.Proofs.YtcjhhdecckcibaaW.PrintLast Go.Proofs.YtcjhhdecckcibaaW.PrintMore
attribute [local go_sem] max2_int min2_int max_two min_two max_three min_three max_four min_four   -- for this text's walks alone
set_option linter.unusedVariables false
set_option linter.unusedSimpArgs false

namespace Has58
def Tells (g : Nat) (lb : Array Value) (p : S58 → Bool) (l : List S58) (w : World) : Prop :=
 ∀ (W : World) (x : S58) (A : Option Addr) (c : Nat), x ∈ l → Below w.heap.size w W → Kd.C k58 W A x.f2.length x.f2 → x.f2.length ≤ c → Calls Try.prog g (#[.agg #[.int .i64 x.f0, .int .i64 x.f1, .slice A x.f2.length c]] ++ lb) W fun e w' => e = .returned (.bool (p x)) ∧ Below W.heap.size W w'

theorem rd_mem (l : List S58) (i : Int) (h0 : 0 ≤ i) (h1 : i < l.length) : rd_T58 l i ∈ l := by
 have hlt : i.toNat < l.length := by omega
 have e : rd_T58 l i = l[i.toNat] := by unfold rd_T58; rw [List.getD_eq_getElem?_getD, List.getElem?_eq_getElem hlt]; rfl
 rw [e]; exact List.getElem_mem hlt
theorem any_take_succ (p : S58 → Bool) (l : List S58) (i : Int) (h0 : 0 ≤ i) (h1 : i < l.length) (h : (l.take i.toNat).any p = false) (hx : p (rd_T58 l i) = false) : (l.take (i + 1).toNat).any p = false := by
 have hlt : i.toNat < l.length := by omega
 rw [show (i + 1).toNat = i.toNat + 1 by omega, List.take_succ_eq_append_getElem hlt, List.any_append, h]
 have e : rd_T58 l i = l[i.toNat] := by unfold rd_T58; rw [List.getD_eq_getElem?_getD, List.getElem?_eq_getElem hlt]; rfl
 rw [← e]; simp [hx]
theorem any_at (p : S58 → Bool) (l : List S58) (i : Int) (h0 : 0 ≤ i) (h1 : i < l.length) (hx : p (rd_T58 l i) = true) : l.any p = true := by
 rw [List.any_eq_true]
 exact ⟨_, rd_mem l i h0 h1, hx⟩

set_option maxHeartbeats 1000000 in
set_option maxRecDepth 100000 in
theorem index_some (g : Nat) (lb : Array Value) (p : S58 → Bool) (A0 : Option Addr) (c0 : Nat) (l0 : List S58) (w : World) (hr0 : Kd.C k58 w A0 l0.length l0)
  (eg : ∀ (args : Array Value) (w : World), (callFunc g args).run Try.prog w = .ok (.enter g args) w) (hp : Tells g lb p l0 w) :
  Calls Try.prog 96 #[.slice A0 l0.length c0, .func (.func g) #[] lb] w fun e w' => (∃ r : Int, e = .returned (.int .i64 r) ∧ decide (0 ≤ r) = l0.any p) ∧ Below w.heap.size w w' := by
 have hu58 := Try.underlying58
 have HR0 := aK hr0
 have HL := aK hr0.2.1
 clear hr0
 have HP := aK hp
 clear hp
 have HB := aK (Below.refl w.heap.size w)
 go_enter Try.func96, Try.ntmps96
 go_wp2
 go_loopg [8] (l0.length + 1) (fun kq v8 w' => ∃ (i : Int), v8 = .int .i64 i ∧ Aside0 (0 ≤ i ∧ i ≤ l0.length ∧ (kq : Int) = l0.length - i + 1 ∧ (l0.take i.toNat).any p = false) ∧ Aside0 (Below w.heap.size w w'))
 case atStart => exact ⟨0, rfl, ⟨by omega, by omega, by omega, by simp⟩, HB⟩
 case round =>
  clear HB
  obtain ⟨i, rfl, HA, HB1⟩ := hrel
  by_cases c : i < (l0.length : Int)
  ·have cb : decide (i < (l0.length : Int)) = true := decide_eq_true c
   have cz : decide (0 ≤ i) = true := decide_eq_true HA.out.1
   obtain ⟨ad, A2, c2, e1, hx0, hx1, hx2, hl2, hi2⟩ := at_T58 (Kd.C_below HR0.out HB1.out) i HA.out.1 c
   cases e1
   have HC2 := aK hl2
   have HR2 := aK hi2
   clear hl2 hi2
   have p1 := eq_true HA.out.1
   have q1 := eq_true c
   have w1 : wrap64 (i + 1) = i + 1 := by have := HA.out.1; have := HA.out.2.1; have := HL.out; unfold wrap64; omega
   have W1 := aK w1
   have Cc := aK c
   clear c w1
   go_wp2_with fail
   refine (HP.out _ (rd_T58 l0 i) A2 c2 (rd_mem l0 i HA.out.1 Cc.out) HB1.out HR2.out HC2.out).mono ?_
   rintro e w' ⟨rfl, hb⟩
   have HB2 := aK (below_step HB1.out hb)
   clear hb
   by_cases hpx : p (rd_T58 l0 i) = true
   ·have HX := aK hpx
    go_wp2
    go_ret
    exact ⟨⟨i, rfl, by rw [any_at p l0 i HA.out.1 Cc.out HX.out]; exact decide_eq_true HA.out.1⟩, HB2.out⟩
   ·replace hpx := Bool.eq_false_iff.mpr hpx
    have HX := aK hpx
    obtain ⟨k1, rfl⟩ : ∃ m, gk = m + 1 := ⟨gk - 1, by have := HA.out; omega⟩
    go_wp2
    go_roundg k1
    case measure => omega
    case rel => exact ⟨i + 1, by first | rfl | rw [W1.out], ⟨by have := HA.out; omega, by have := HA.out; have := Cc.out; omega, by have := HA.out; omega, any_take_succ p l0 i HA.out.1 Cc.out HA.out.2.2.2 HX.out⟩, HB2⟩
  ·have cb : decide (i < (l0.length : Int)) = false := decide_eq_false c
   have Cc := aK c
   clear c
   go_wp2
   go_ret
   refine ⟨⟨-1, rfl, ?_⟩, HB1.out⟩
   have h := HA.out.2.2.2
   rw [List.take_of_length_le (by have := HA.out; have := Cc.out; omega)] at h
   rw [h]; rfl

set_option maxHeartbeats 1000000 in
set_option maxRecDepth 100000 in
theorem contains_some (g : Nat) (lb : Array Value) (p : S58 → Bool) (A0 : Option Addr) (c0 : Nat) (l0 : List S58) (w : World) (hr0 : Kd.C k58 w A0 l0.length l0)
  (eg : ∀ (args : Array Value) (w : World), (callFunc g args).run Try.prog w = .ok (.enter g args) w) (hp : Tells g lb p l0 w) :
  Calls Try.prog 89 #[.slice A0 l0.length c0, .func (.func g) #[] lb] w fun e w' => e = .returned (.bool (l0.any p)) ∧ Below w.heap.size w w' := by
 go_enter Try.func89, Try.ntmps89
 go_wp2_with fail
 refine (index_some g lb p A0 c0 l0 _ hr0 eg hp).mono ?_
 rintro e w' ⟨⟨r, rfl, hr⟩, hb⟩
 have HR := aK hr
 clear hr
 go_wp2
 go_ret
 exact ⟨by rw [← HR.out]; rfl, hb⟩

mutual
def hasT (x : Int) : S58 → Bool
 | ⟨k, n, l⟩ => (decide (k = 1) && decide (n = x)) || hasL x l
def hasL (x : Int) : List S58 → Bool
 | [] => false
 | y :: l => hasT x y || hasL x l
end
theorem hasL_any (x : Int) (l : List S58) : hasL x l = l.any (hasT x) := by
 induction l with
 | nil => rw [hasL]; rfl
 | cons y l ih => rw [hasL, ih]; rfl
theorem hasT_eq (x : Int) (y : S58) : hasT x y = ((decide (y.f0 = 1) && decide (y.f1 = x)) || hasL x y.f2) := by cases y; rw [hasT]

set_option maxHeartbeats 1000000 in
set_option maxRecDepth 100000 in
theorem lit_some (x : Int) (p : Addr) (y : S58) (A : Option Addr) (c : Nat) (W : World) (hr : Kd.C k58 W A y.f2.length y.f2) (hc : y.f2.length ≤ c) (hcx : W.cell? p = some (.int .i64 x))
  (ih : ∀ (w : World), Kd.C k58 w A y.f2.length y.f2 → Calls Try.prog 74 #[.agg #[.int .i64 y.f0, .int .i64 y.f1, .slice A y.f2.length c], .int .i64 x] w fun e w' => e = .returned (.bool (hasT x y)) ∧ Below w.heap.size w w') :
  Calls Try.prog 90 #[.agg #[.int .i64 y.f0, .int .i64 y.f1, .slice A y.f2.length c], .pointer (some p)] W fun e w' => e = .returned (.bool (hasT x y)) ∧ Below W.heap.size W w' := by
 have hu58 := Try.underlying58
 have HR0 := aK hr
 clear hr
 have HI := aK ih
 clear ih
 have HB := aK (Below.refl W.heap.size W)
 go_enter Try.func90, Try.ntmps90
 go_wp2_with (first | ((with_reducible refine gate_dst (N := 2) rfl ?_); refine bE (N := 2) (cs := #[.int .i64 y.f0, .int .i64 y.f1, .slice A y.f2.length c]) (t := 58) ?_; intro gb hg w5 hbox hb; have n0_ := aK (below_step HB.out hb); have n1_ := aK (hbox); have hcx2 := (hb.cell (World.block_lt_of_cell? _ _ hcx)).trans hcx; clear HB; have HB := n0_; have BK := n1_; clear n0_ n1_; clear hb hbox hg; have hcz_0 : w5.cell? ⟨gb, 0, none⟩ = some (.int .i64 y.f0) := (blk_cell BK.out 0).trans rfl; have hcz_1 : w5.cell? ⟨gb, 1, none⟩ = some (.int .i64 y.f1) := (blk_cell BK.out 1).trans rfl; have hcz_2 : w5.cell? ⟨gb, 2, none⟩ = some (.slice A y.f2.length c) := (blk_cell BK.out 2).trans rfl; have hfz_0 := blk_frozen BK.out 0; have hfz_1 := blk_frozen BK.out 1; have hfz_2 := blk_frozen BK.out 2) | ((with_reducible refine gate_callee (f := 74) rfl ?_); refine goesL_ (some 6) rfl rfl Try.func74 (by kernel_rfl) rfl #[.agg #[.int .i64 y.f0, .int .i64 y.f1, .slice A y.f2.length c], .int .i64 x] rfl tA ?_; refine (HI.out _ (Kd.C_below HR0.out HB.out)).mono ?_; rintro e w7 ⟨rfl, hb⟩; refine ⟨_, rfl, ?_⟩; have n1_ := aK (below_step HB.out hb); clear BK HB; have HB := n1_; clear n1_; clear hb))
 go_ret
 exact ⟨rfl, pH HB⟩

set_option maxHeartbeats 2000000 in
set_option maxRecDepth 100000 in
theorem node_is (a0 a1 x : Int) (A : Option Addr) (c : Nat) (l : List S58) (w : World) (hk : a0 = 1) (hn : a1 = x) :
  Calls Try.prog 74 #[.agg #[.int .i64 a0, .int .i64 a1, .slice A l.length c], .int .i64 x] w fun e w' => e = .returned (.bool true) ∧ Below w.heap.size w w' := by
 subst hk; subst hn
 have hu58 := Try.underlying58
 have HB := aK (Below.refl w.heap.size w)
 go_enter Try.func74, Try.ntmps74
 go_wp2_with (first | ((with_reducible refine gate_dst (N := 2) rfl ?_); refine bE (N := 2) (cs := #[.int .i64 1, .int .i64 a1, .slice A l.length c]) (t := 58) ?_; intro gb hg w5 hbox hb; have n0_ := aK (below_step HB.out hb); have BK := aK hbox; clear HB; have HB := n0_; clear n0_; clear hb hbox hg; have hcz_0 : w5.cell? ⟨gb, 0, none⟩ = some (.int .i64 1) := (blk_cell BK.out 0).trans rfl; have hcz_1 : w5.cell? ⟨gb, 1, none⟩ = some (.int .i64 a1) := (blk_cell BK.out 1).trans rfl; have hcz_2 : w5.cell? ⟨gb, 2, none⟩ = some (.slice A l.length c) := (blk_cell BK.out 2).trans rfl; have hfz_0 := blk_frozen BK.out 0; have hfz_1 := blk_frozen BK.out 1; have hfz_2 := blk_frozen BK.out 2) | ((with_reducible refine gate_dst (N := 3) rfl ?_); refine bE (N := 3) (cs := #[.int .i64 a1]) (t := 3) ?_; intro g2 hg w6 hbox hb; have n0_ := aK (below_step HB.out hb); have n1_ := aK (hbox); have n2_ := aK (blk_below (g := gb) (o := .cells #[.int .i64 1, .int .i64 a1, .slice A l.length c] 58 (0, 0)) (pB BK) hb); clear HB BK; have HB := n0_; have BX := n1_; have BK := n2_; clear n0_ n1_ n2_; clear hb hbox hg; clear hcz_0 hfz_0 hcz_1 hfz_1 hcz_2 hfz_2; have hcza_0 : w6.cell? ⟨gb, 0, none⟩ = some (.int .i64 1) := (blk_cell BK.out 0).trans rfl; have hcza_1 : w6.cell? ⟨gb, 1, none⟩ = some (.int .i64 a1) := (blk_cell BK.out 1).trans rfl; have hcza_2 : w6.cell? ⟨gb, 2, none⟩ = some (.slice A l.length c) := (blk_cell BK.out 2).trans rfl; have hfza_0 := blk_frozen BK.out 0; have hfza_1 := blk_frozen BK.out 1; have hfza_2 := blk_frozen BK.out 2; have hczb_0 : w6.cell? ⟨g2, 0, none⟩ = some (.int .i64 a1) := (blk_cell BX.out 0).trans rfl; have hfzb_0 := blk_frozen BX.out 0))
 go_ret
 exact ⟨rfl, HB.out⟩

set_option maxHeartbeats 2000000 in
set_option maxRecDepth 100000 in
theorem node_not (a0 a1 x : Int) (A : Option Addr) (c : Nat) (l : List S58) (w : World) (hr : Kd.C k58 w A l.length l) (hc : l.length ≤ c) (h : ¬ (a0 = 1 ∧ a1 = x))
  (ih : ∀ y ∈ l, ∀ (A : Option Addr) (c : Nat) (w : World), y.f2.length ≤ c → Kd.C k58 w A y.f2.length y.f2 → Calls Try.prog 74 #[.agg #[.int .i64 y.f0, .int .i64 y.f1, .slice A y.f2.length c], .int .i64 x] w fun e w' => e = .returned (.bool (hasT x y)) ∧ Below w.heap.size w w') :
  Calls Try.prog 74 #[.agg #[.int .i64 a0, .int .i64 a1, .slice A l.length c], .int .i64 x] w fun e w' => e = .returned (.bool (hasL x l)) ∧ Below w.heap.size w w' := by
 have hu58 := Try.underlying58
 have HR0 := aK hr
 clear hr
 have eg := enters_ Try.func90 (by kernel_rfl) rfl
 have EG := aK eg
 clear eg
 have hmf : ∀ (fn : Fn) (first cap : Array Value) (w : World), (Instr.makeFunc fn first cap).run Try.prog w = .ok (.func fn first cap) w := fun _ _ _ _ => rfl
 have HT : ∀ (W : World) (g : Nat), Below w.heap.size w W → W.cell? ⟨g, 0, none⟩ = some (.int .i64 x) → Tells 90 #[.pointer (some ⟨g, 0, none⟩)] (fun y => hasT x y) l W := by
  intro W g hW hg W2 y A2 c2 hy hb hC hl
  have := lit_some x ⟨g, 0, none⟩ y A2 c2 W2 hC hl ((hb.cell (World.block_lt_of_cell? _ _ hg)).trans hg) (fun w3 h3 => ih y hy A2 c2 w3 hl h3)
  simpa using this
 have HI := aK HT
 clear HT ih
 have HB := aK (Below.refl w.heap.size w)
 by_cases hk : a0 = 1
 ·have hn : (a1 == x) = false := by simp; intro e; exact h ⟨hk, e⟩
  have hn2 : ¬ a1 = x := fun e => h ⟨hk, e⟩
  subst hk
  clear h
  go_enter Try.func74, Try.ntmps74
  go_wp2_with (first | ((with_reducible refine gate_dst (N := 2) rfl ?_); refine bE (N := 2) (cs := #[.int .i64 1, .int .i64 a1, .slice A l.length c]) (t := 58) ?_; intro gb hg w5 hbox hb; have n0_ := aK (below_step HB.out hb); have BK := aK hbox; clear HB; have HB := n0_; clear n0_; clear hb hbox hg; have hcz_0 : w5.cell? ⟨gb, 0, none⟩ = some (.int .i64 1) := (blk_cell BK.out 0).trans rfl; have hcz_1 : w5.cell? ⟨gb, 1, none⟩ = some (.int .i64 a1) := (blk_cell BK.out 1).trans rfl; have hcz_2 : w5.cell? ⟨gb, 2, none⟩ = some (.slice A l.length c) := (blk_cell BK.out 2).trans rfl; have hfz_0 := blk_frozen BK.out 0; have hfz_1 := blk_frozen BK.out 1; have hfz_2 := blk_frozen BK.out 2) | ((with_reducible refine gate_dst (N := 3) rfl ?_); refine bE (N := 3) (cs := #[.int .i64 x]) (t := 3) ?_; intro g2 hg w6 hbox hb; have n0_ := aK (below_step HB.out hb); have n1_ := aK (hbox); have n2_ := aK (blk_below (g := gb) (o := .cells #[.int .i64 1, .int .i64 a1, .slice A l.length c] 58 (0, 0)) (pB BK) hb); clear HB BK; have HB := n0_; have BX := n1_; have BK := n2_; clear n0_ n1_ n2_; clear hb hbox hg; clear hcz_0 hfz_0 hcz_1 hfz_1 hcz_2 hfz_2; have hcza_0 : w6.cell? ⟨gb, 0, none⟩ = some (.int .i64 1) := (blk_cell BK.out 0).trans rfl; have hcza_1 : w6.cell? ⟨gb, 1, none⟩ = some (.int .i64 a1) := (blk_cell BK.out 1).trans rfl; have hcza_2 : w6.cell? ⟨gb, 2, none⟩ = some (.slice A l.length c) := (blk_cell BK.out 2).trans rfl; have hfza_0 := blk_frozen BK.out 0; have hfza_1 := blk_frozen BK.out 1; have hfza_2 := blk_frozen BK.out 2; have hczb_0 : w6.cell? ⟨g2, 0, none⟩ = some (.int .i64 x) := (blk_cell BX.out 0).trans rfl; have hfzb_0 := blk_frozen BX.out 0) | (go_at_call 89; refine (contains_some 90 #[.pointer (some ⟨g2, 0, none⟩)] (fun y => hasT x y) A c l _ (Kd.C_below HR0.out HB.out) EG.out (HI.out _ g2 HB.out ((blk_cell BX.out 0).trans rfl))).mono ?_; rintro e w7 ⟨rfl, hb⟩; have n1_ := aK (below_step HB.out hb); clear BK HB BX; have HB := n1_; clear n1_; clear hb))
  go_ret
  exact ⟨by rw [hasL_any]; rfl, HB.out⟩
 ·have hk2 : (a0 == 1) = false := by simpa using hk
  clear h
  go_enter Try.func74, Try.ntmps74
  go_wp2_with (first | ((with_reducible refine gate_dst (N := 2) rfl ?_); refine bE (N := 2) (cs := #[.int .i64 a0, .int .i64 a1, .slice A l.length c]) (t := 58) ?_; intro gb hg w5 hbox hb; have n0_ := aK (below_step HB.out hb); have BK := aK hbox; clear HB; have HB := n0_; clear n0_; clear hb hbox hg; have hcz_0 : w5.cell? ⟨gb, 0, none⟩ = some (.int .i64 a0) := (blk_cell BK.out 0).trans rfl; have hcz_1 : w5.cell? ⟨gb, 1, none⟩ = some (.int .i64 a1) := (blk_cell BK.out 1).trans rfl; have hcz_2 : w5.cell? ⟨gb, 2, none⟩ = some (.slice A l.length c) := (blk_cell BK.out 2).trans rfl; have hfz_0 := blk_frozen BK.out 0; have hfz_1 := blk_frozen BK.out 1; have hfz_2 := blk_frozen BK.out 2) | ((with_reducible refine gate_dst (N := 3) rfl ?_); refine bE (N := 3) (cs := #[.int .i64 x]) (t := 3) ?_; intro g2 hg w6 hbox hb; have n0_ := aK (below_step HB.out hb); have n1_ := aK (hbox); have n2_ := aK (blk_below (g := gb) (o := .cells #[.int .i64 a0, .int .i64 a1, .slice A l.length c] 58 (0, 0)) (pB BK) hb); clear HB BK; have HB := n0_; have BX := n1_; have BK := n2_; clear n0_ n1_ n2_; clear hb hbox hg; clear hcz_0 hfz_0 hcz_1 hfz_1 hcz_2 hfz_2; have hcza_0 : w6.cell? ⟨gb, 0, none⟩ = some (.int .i64 a0) := (blk_cell BK.out 0).trans rfl; have hcza_1 : w6.cell? ⟨gb, 1, none⟩ = some (.int .i64 a1) := (blk_cell BK.out 1).trans rfl; have hcza_2 : w6.cell? ⟨gb, 2, none⟩ = some (.slice A l.length c) := (blk_cell BK.out 2).trans rfl; have hfza_0 := blk_frozen BK.out 0; have hfza_1 := blk_frozen BK.out 1; have hfza_2 := blk_frozen BK.out 2; have hczb_0 : w6.cell? ⟨g2, 0, none⟩ = some (.int .i64 x) := (blk_cell BX.out 0).trans rfl; have hfzb_0 := blk_frozen BX.out 0) | (go_at_call 89; refine (contains_some 90 #[.pointer (some ⟨g2, 0, none⟩)] (fun y => hasT x y) A c l _ (Kd.C_below HR0.out HB.out) EG.out (HI.out _ g2 HB.out ((blk_cell BX.out 0).trans rfl))).mono ?_; rintro e w7 ⟨rfl, hb⟩; have n1_ := aK (below_step HB.out hb); clear BK HB BX; have HB := n1_; clear n1_; clear hb))
  go_ret
  exact ⟨by rw [hasL_any]; rfl, HB.out⟩

theorem all_some (x : Int) : ∀ (N : Nat) (a0 a1 : Int) (l : List S58) (A : Option Addr) (c : Nat) (w : World), SizeOf.sizeOf l ≤ N → l.length ≤ c → Kd.C k58 w A l.length l →
  Calls Try.prog 74 #[.agg #[.int .i64 a0, .int .i64 a1, .slice A l.length c], .int .i64 x] w fun e w' => e = .returned (.bool ((decide (a0 = 1) && decide (a1 = x)) || hasL x l)) ∧ Below w.heap.size w w' := by
 intro N
 induction N with
 | zero =>
  intro a0 a1 l A c w hN
  cases l with
  | nil => simp at hN
  | cons y l => simp at hN
 | succ N ih =>
  intro a0 a1 l A c w hN hl hC
  by_cases h : a0 = 1 ∧ a1 = x
  ·rw [decide_eq_true h.1, decide_eq_true h.2]
   exact node_is a0 a1 x A c l w h.1 h.2
  ·have e : (decide (a0 = 1) && decide (a1 = x)) = false := by
    rw [Bool.eq_false_iff]; intro h2; simp at h2; exact h h2
   rw [e, Bool.false_or]
   refine node_not a0 a1 x A c l w hC hl h fun y hy A2 c2 w2 hl2 hC2 => ?_
   rw [hasT_eq]
   refine ih y.f0 y.f1 y.f2 A2 c2 w2 ?_ hl2 hC2
   have h1 := List.sizeOf_lt_of_mem hy
   have h2 : SizeOf.sizeOf y.f2 < SizeOf.sizeOf y := by cases y; simp; omega
   omega
end Has58

def impl_comb_has.f (k : Nat) (a0_0 : Int) (a0_1 : Int) (l0_2 : List (S58)) (a1 : Int) : Option (Bool) := some ((decide (a0_0 = 1) && decide (a0_1 = a1)) || Has58.hasL a1 l0_2)
theorem impl_comb_has.calls (k : Nat) (a0_0 : Int) (a0_1 : Int) (A0_2 : Option Addr) (c0_2 : Nat) (l0_2 : List (S58)) (a1 : Int) (r : Bool) (w : World) (hr0_2 : Kd.C k58 w A0_2 l0_2.length l0_2) (hc0_2 : l0_2.length ≤ c0_2) (h : impl_comb_has.f k a0_0 a0_1 l0_2 a1 = some r) :
  Calls Try.prog 74 #[.agg #[.int .i64 a0_0, .int .i64 a0_1, .slice A0_2 l0_2.length c0_2], .int .i64 a1] w fun e w' => e = .returned (.bool r) ∧ Below w.heap.size w w' := by
 obtain rfl := Option.some.inj h
 exact Has58.all_some a1 (SizeOf.sizeOf l0_2) a0_0 a0_1 l0_2 A0_2 c0_2 w (Nat.le_refl _) hc0_2 hr0_2
end Go.Proofs.Ytcjhhdecckcibaa.G

namespace Go.Proofs.Ytcjhhdecckcibaa.G
open Go.RowKit Go.Proofs.YtcjhhdecckcibaaW.PrintWords Go.Proofs.YtcjhhdecckcibaaW.PrintLast Go.Proofs.YtcjhhdecckcibaaW.PrintMore
attribute [local go_sem] max2_int min2_int max_two min_two max_three min_three max_four min_four   -- for this text's walks alone
set_option linter.unusedVariables false
set_option linter.unusedSimpArgs false

def impl_combApp.f (a0_0 : Int) (a0_1 : Int) (l0_2 : List (S58)) (a1_0 : Int) (a1_1 : Int) (l1_2 : List (S58)) : Option (Int × Int × (List (S58))) := some (2, 0, (([(⟨a0_0, a0_1, l0_2⟩ : S58), (⟨a1_0, a1_1, l1_2⟩ : S58)] : List (S58))))
set_option maxHeartbeats 8000000 in
set_option maxRecDepth 100000 in
theorem impl_combApp.calls (a0_0 : Int) (a0_1 : Int) (P0_2_ : Nat → Prop) (A0_2 : Option Addr) (c0_2 : Nat) (l0_2 : List (S58)) (a1_0 : Int) (a1_1 : Int) (P1_2_ : Nat → Prop) (A1_2 : Option Addr) (c1_2 : Nat) (l1_2 : List (S58)) (r1 : Int) (r2 : Int) (r3 : List (S58)) (w : World) (hs0_2 : Kd.V k58 58 w w.heap.size (fun k_ => P0_2_ k_) (.slice A0_2 l0_2.length c0_2) l0_2) (hs1_2 : Kd.V k58 58 w w.heap.size (fun k_ => P1_2_ k_) (.slice A1_2 l1_2.length c1_2) l1_2) (h : impl_combApp.f a0_0 a0_1 l0_2 a1_0 a1_1 l1_2 = some (r1, r2, r3)) :
  Calls Try.prog 75 #[.agg #[.int .i64 a0_0, .int .i64 a0_1, .slice A0_2 l0_2.length c0_2], .agg #[.int .i64 a1_0, .int .i64 a1_1, .slice A1_2 l1_2.length c1_2]] w fun e w' => ∃ v2_ : Value, e = .returned (.agg #[.int .i64 r1, .int .i64 r2, v2_]) ∧ Kd.N k58 58 w' w.heap.size (fun k_ => ((P0_2_ k_ ∨ P1_2_ k_) ∨ w.heap.size ≤ k_)) v2_ r3 ∧ Below w.heap.size w w' := by
 have hu58 := Try.underlying58
 have HO0_2 := aK (show Kd.V k58 58 w w.heap.size (fun k_ => ((P0_2_ k_ ∨ P1_2_ k_) ∨ w.heap.size ≤ k_)) (.slice A0_2 l0_2.length c0_2) l0_2 from Kd.V_mono hs0_2 (fun k_ hk => .inl (.inl hk)))
 have HO1_2 := aK (show Kd.V k58 58 w w.heap.size (fun k_ => ((P0_2_ k_ ∨ P1_2_ k_) ∨ w.heap.size ≤ k_)) (.slice A1_2 l1_2.length c1_2) l1_2 from Kd.V_mono hs1_2 (fun k_ hk => .inl (.inr hk)))
 have HB := aK (Below.refl w.heap.size w)
 have H : (some (2, 0, (([(⟨a0_0, a0_1, l0_2⟩ : S58), (⟨a1_0, a1_1, l1_2⟩ : S58)] : List (S58))))) = some (r1, r2, r3) := h
 clear h
 obtain ⟨y104, hy104⟩ : ∃ y_ : List (S58), y_ = (([(⟨a0_0, a0_1, l0_2⟩ : S58), (⟨a1_0, a1_1, l1_2⟩ : S58)] : List (S58))) := ⟨_, rfl⟩
 replace H : (some (2, 0, y104)) = some (r1, r2, r3) := by first | (rw [hy104]; with_reducible exact H) | (have H2_ := (Option.bind_some _ _).symm.trans H; rw [hy104]; with_reducible exact H2_) | (have H2_ := (Option.bind_some _ _).symm.trans H; with_reducible exact H2_) | with_reducible exact H | (rw [hy104]; exact H) | exact H
 have Ny104 := aK hy104
 clear hy104
 simp only [Option.some.injEq, Prod.mk.injEq] at H
 obtain ⟨rfl, rfl, rfl⟩ := H
 go_enter Try.func75, Try.ntmps75
 go_wp2_with (first | ((with_reducible refine gate_dst (N := 2) rfl ?_); refine bE (N := 2) (cs := #[.int .i64 a0_0, .int .i64 a0_1, .slice A0_2 l0_2.length c0_2]) (t := 58) ?_; intro gb101 hg w3 hbox hb; have GW101 := qw HB hg; have GE101 := qw HB hg; replace HO0_2 := qv HO0_2 hg hb; replace HO1_2 := qv HO1_2 hg hb; have BK101 := aK hbox; replace HB := qs HB hb; clear hb hbox hg) | ((with_reducible refine gate_dst (N := 3) rfl ?_); refine bE (N := 3) (cs := #[.int .i64 a1_0, .int .i64 a1_1, .slice A1_2 l1_2.length c1_2]) (t := 58) ?_; intro gb102 hg w4 hbox hb; have GW102 := qw HB hg; have GE102 := qw HB hg; have NB101_102 := ql BK101 hg; have NB102_101 := qg BK101 hg; replace HO0_2 := qv HO0_2 hg hb; replace HO1_2 := qv HO1_2 hg hb; replace BK101 := qb BK101 hb; have BK102 := aK hbox; replace HB := qs HB hb; clear hb hbox hg) | ((with_reducible refine gate_dst (N := 4) rfl ?_); refine bE (N := 4) (cs := #[.int .i64 0, .int .i64 0, .slice none 0 0]) (t := 58) ?_; intro gb103 hg w5 hbox hb; have GW103 := qw HB hg; have GE103 := qw HB hg; have NB101_103 := ql BK101 hg; have NB103_101 := qg BK101 hg; have NB102_103 := ql BK102 hg; have NB103_102 := qg BK102 hg; replace HO0_2 := qv HO0_2 hg hb; replace HO1_2 := qv HO1_2 hg hb; replace BK101 := qb BK101 hb; replace BK102 := qb BK102 hb; have BK103 := aK hbox; replace HB := qs HB hb; clear hb hbox hg; have hnb6 := NB101_102.out; have hnc6 := NB102_101.out; have hnb7 := NB101_103.out; have hnc7 := NB103_101.out; have hcz8_0 := k30 BK101; have hcz8_1 := k31 BK101; have hcz8_2 := k32 BK101; have hfz8_0 := fz BK101 0; have hfz8_1 := fz BK101 1; have hfz8_2 := fz BK101 2; have hnb9 := NB102_103.out; have hnc9 := NB103_102.out; have hcz10_0 := k30 BK102; have hcz10_1 := k31 BK102; have hcz10_2 := k32 BK102; have hfz10_0 := fz BK102 0; have hfz10_1 := fz BK102 1; have hfz10_2 := fz BK102 2) | ((with_reducible refine gate_dst (N := 7) rfl ?_); refine Kd.N_lit k58 _ 58 ?hg (N' := 7) ?hd (xs := ([(⟨a0_0, a0_1, l0_2⟩ : S58), (⟨a1_0, a1_1, l1_2⟩ : S58)] : List (S58))) (inner := [.int .i64 a0_0, .int .i64 a0_1, .slice A0_2 l0_2.length c0_2, .int .i64 a1_0, .int .i64 a1_1, .slice A1_2 l1_2.length c1_2]) (ok := (fun k_ => ((P0_2_ k_ ∨ P1_2_ k_) ∨ w.heap.size ≤ k_) ∧ k_ ≠ gb101 ∧ k_ ≠ gb102 ∧ k_ ≠ gb103)) (okp := (fun k_ => ((P0_2_ k_ ∨ P1_2_ k_) ∨ w.heap.size ≤ k_) ∧ k_ ≠ gb101 ∧ k_ ≠ gb102 ∧ k_ ≠ gb103)) ?hr ?hp (fun _ hk => hk) ((show ∀ k_, w5.heap.size ≤ k_ → (fun k_ => ((P0_2_ k_ ∨ P1_2_ k_) ∨ w.heap.size ≤ k_) ∧ k_ ≠ gb101 ∧ k_ ≠ gb102 ∧ k_ ≠ gb103) k_ from fun k_ hk => ⟨(.inr (Nat.le_trans (below_size (pH HB)) hk)), Kd.freshB BK101.out k_ hk, Kd.freshB BK102.out k_ hk, Kd.freshB BK103.out k_ hk⟩) _ (Nat.le_refl _)) (Below.refl _ _) (Nat.le_refl _) (by simp) ?_; (case hd => rfl); (case hg => rfl); (case hr => go_simp); (case hp => exact (Reps.c3 (show Kd.FK k58 _ _ (⟨a0_0, a0_1, l0_2⟩ : S58) [.int .i64 a0_0, .int .i64 a0_1, .slice A0_2 l0_2.length c0_2] from (k58_mkF _ _ (⟨a0_0, a0_1, l0_2⟩ : S58) (Kd.V_reads' (Kd.V_mono (ok' := (fun k_ => ((P0_2_ k_ ∨ P1_2_ k_) ∨ w.heap.size ≤ k_) ∧ k_ ≠ gb101 ∧ k_ ≠ gb102 ∧ k_ ≠ gb103)) (HO0_2.out) (fun k_ hk => ⟨hk.1.1.1, ⟨hk.1.1.2, ⟨hk.1.2, hk.2⟩⟩⟩))).2.1 (Kd.V_F (Kd.V_mono (ok' := (fun k_ => ((P0_2_ k_ ∨ P1_2_ k_) ∨ w.heap.size ≤ k_) ∧ k_ ≠ gb101 ∧ k_ ≠ gb102 ∧ k_ ≠ gb103)) (HO0_2.out) (fun k_ hk => ⟨hk.1.1.1, ⟨hk.1.1.2, ⟨hk.1.2, hk.2⟩⟩⟩))))) (Reps.c3 (show Kd.FK k58 _ _ (⟨a1_0, a1_1, l1_2⟩ : S58) [.int .i64 a1_0, .int .i64 a1_1, .slice A1_2 l1_2.length c1_2] from (k58_mkF _ _ (⟨a1_0, a1_1, l1_2⟩ : S58) (Kd.V_reads' (Kd.V_mono (ok' := (fun k_ => ((P0_2_ k_ ∨ P1_2_ k_) ∨ w.heap.size ≤ k_) ∧ k_ ≠ gb101 ∧ k_ ≠ gb102 ∧ k_ ≠ gb103)) (HO1_2.out) (fun k_ hk => ⟨hk.1.1.1, ⟨hk.1.1.2, ⟨hk.1.2, hk.2⟩⟩⟩))).2.1 (Kd.V_F (Kd.V_mono (ok' := (fun k_ => ((P0_2_ k_ ∨ P1_2_ k_) ∨ w.heap.size ≤ k_) ∧ k_ ≠ gb101 ∧ k_ ≠ gb102 ∧ k_ ≠ gb103)) (HO1_2.out) (fun k_ hk => ⟨hk.1.1.1, ⟨hk.1.1.2, ⟨hk.1.2, hk.2⟩⟩⟩))))) (Reps.none _ _)))); intro v105 w11 ho12 hb hg_ hnew_; clear hg_ hnew_; (first | rw [← Ny104.out] at ho12 | (simp only [Int.reduceToNat] at ho12; rw [← Ny104.out] at ho12)); have HO106 := aK (Kd.N_lower ho12 (below_size HB.out)); replace HO0_2 := qe HO0_2 (Kd.N_base ho12) hb; replace HO1_2 := qe HO1_2 (Kd.N_base ho12) hb; replace BK101 := qb BK101 hb; replace BK102 := qb BK102 hb; replace BK103 := qb BK103 hb; replace HB := qs HB hb; clear hb ho12; obtain ⟨Ao13, co13, eo13⟩ := Kd.N_slice HO106.out; subst eo13; have hcz14_0 := k30 BK103; have hcz14_1 := k31 BK103; have hcz14_2 := k32 BK103; have hfz14_0 := fz BK103 0; have hfz14_1 := fz BK103 1; have hfz14_2 := fz BK103 2))
 refine bodyPost_ret (results_cell_row rfl _ _ gb103 58 #[.int .i64 2, .int .i64 0, .slice Ao13 y104.length co13] (0, 0) _ rfl (p3 BK103) Try.underlying58 rfl (by kernel_rfl)) rfl ?_
 exact ⟨_, eW, by (with_reducible repeat (first | apply Kd.N_alloc | apply Kd.N_drewN | apply Kd.N_drew)); exact Kd.N_mono (nF3 gb103 (Kd.N_mono HO106.out (fun k_ hk => (⟨hk, hk.2.2.2⟩ : _ ∧ k_ ≠ gb103))) (fun _ hk => hk.2)) (fun _ hk => hk.1.1), pH HB⟩

end Go.Proofs.Ytcjhhdecckcibaa.G

namespace Go.Proofs.Ytcjhhdecckcibaa.G
open Go.RowKit Go.Proofs.YtcjhhdecckcibaaW.PrintWords Go.Proofs.YtcjhhdecckcibaaW.PrintLast Go.Proofs.YtcjhhdecckcibaaW.PrintMore
attribute [local go_sem] max2_int min2_int max_two min_two max_three min_three max_four min_four   -- for this text's walks alone
set_option linter.unusedVariables false
set_option linter.unusedSimpArgs false

def impl_combOf.f (a0 : Int) : Option (Int × Int × (List (S58))) := some (a0, 0, ([] : List (S58)))
set_option maxHeartbeats 8000000 in
set_option maxRecDepth 100000 in
theorem impl_combOf.calls (a0 : Int) (r1 : Int) (r2 : Int) (r3 : List (S58)) (w : World) (h : impl_combOf.f a0 = some (r1, r2, r3)) :
    Calls Try.prog 76 #[.int .i64 a0] w fun e w' => ∃ v2_ : Value, e = .returned (.agg #[.int .i64 r1, .int .i64 r2, v2_]) ∧ Kd.R k58 58 w' w.heap.size (fun _ => True) v2_ r3 ∧ Below w.heap.size w w' := by
  have hu58 := Try.underlying58
  have HB := Aside0.mk (Below.refl w.heap.size w)
  have H : (some (a0, 0, ([] : List (S58)))) = some (r1, r2, r3) := h
  clear h
  simp only [Option.some.injEq, Prod.mk.injEq] at H
  obtain ⟨rfl, rfl, rfl⟩ := H
  go_enter Try.func76, Try.ntmps76
  go_wp2_with (first | ((with_reducible refine gate_dst (N := 2) rfl ?_); refine box_event ?hg (N := 2) ?hd (cs := #[.int .i64 0, .int .i64 0, .slice none 0 0]) (t := 58) ?hr ?_; (case hd => rfl); (case hg => rfl); (case hr => first | (go_simp; done) | (go_simp; rfl)); intro gb101 hg w2 hbox hb; have n0_ := Aside0.mk (below_step (by repeat (first | (with_reducible first | exact HB.out | apply below_alloc | apply pw_below_drewN | apply below_drew1) | exact HB.out)) hb); have n1_ := Aside0.mk (hbox); have n2_ := Aside0.mk ((by rw [hg]; exact (below_size (by repeat (first | (with_reducible first | exact HB.out | apply below_alloc | apply pw_below_drewN | apply below_drew1) | exact HB.out))) : w.heap.size ≤ gb101)); have n3_ := Aside0.mk ((by rw [hg]; exact (below_size (by repeat (first | (with_reducible first | exact HB.out | apply below_alloc | apply pw_below_drewN | apply below_drew1) | exact HB.out))) : w.heap.size ≤ gb101)); clear HB; have HB := n0_; have BK101 := n1_; have GW101 := n2_; have GE101 := n3_; clear n0_ n1_ n2_ n3_; clear hb hbox hg; have hcz3_0 : w2.cell? ⟨gb101, 0, none⟩ = some (.int .i64 0) := (blk_cell BK101.out 0).trans rfl; have hcz3_1 : w2.cell? ⟨gb101, 1, none⟩ = some (.int .i64 0) := (blk_cell BK101.out 1).trans rfl; have hcz3_2 : w2.cell? ⟨gb101, 2, none⟩ = some (.slice none 0 0) := (blk_cell BK101.out 2).trans rfl; have hfz3_0 := blk_frozen BK101.out 0; have hfz3_1 := blk_frozen BK101.out 1; have hfz3_2 := blk_frozen BK101.out 2))
  refine bodyPost_ret (results_cell_row rfl _ _ gb101 58 #[.int .i64 a0, .int .i64 0, .slice none 0 0] (0, 0) _ rfl (by (with_reducible repeat (first | refine blk_drewN ?_ _ | refine blk_drew ?_ | refine blk_alloc ?_ _)); refine blk_put (cs := #[.int .i64 a0, .int .i64 0, .slice none 0 0]) ?_ 2 _ rfl; (with_reducible repeat (first | refine blk_drewN ?_ _ | refine blk_drew ?_ | refine blk_alloc ?_ _)); refine blk_put (cs := #[.int .i64 a0, .int .i64 0, .slice none 0 0]) ?_ 1 _ rfl; (with_reducible repeat (first | refine blk_drewN ?_ _ | refine blk_drew ?_ | refine blk_alloc ?_ _)); refine blk_put (cs := #[.int .i64 0, .int .i64 0, .slice none 0 0]) ?_ 0 _ rfl; (with_reducible repeat (first | refine blk_drewN ?_ _ | refine blk_drew ?_ | refine blk_alloc ?_ _)); exact BK101.out) Try.underlying58 rfl (by kernel_rfl)) rfl ?_
  exact ⟨_, by first | rfl | (simp [errW_none, errW_some] <;> rfl) | (simp [*, errW_none, errW_some] <;> rfl), by first | exact Kd.R_nil _ _ _ _ _ | exact Kd.N_nil _ _ _ _ _ | exact Kd.V_nil _ _ _ _ _ | exact Kd.Q_nil _ _ _ _ _ | exact Kd.S_nil _ _ _ _ _, by repeat (first | (with_reducible first | exact HB.out | apply below_alloc | apply pw_below_drewN | apply below_drew1 | refine below_set ?_ GE101.out) | exact HB.out)⟩

end Go.Proofs.Ytcjhhdecckcibaa.G

namespace Go.Proofs.Ytcjhhdecckcibaa.G
open Go.RowKit Go.Proofs.YtcjhhdecckcibaaW.PrintWords Go.Proofs.YtcjhhdecckcibaaW.PrintLast Go.Proofs.YtcjhhdecckcibaaW.PrintMore
attribute [local go_sem] max2_int min2_int max_two min_two max_three min_three max_four min_four   -- for this text's walks alone
set_option linter.unusedVariables false
set_option linter.unusedSimpArgs false

theorem Kd.V_away {α : Type} {d : Kd α} {e : Nat} {W : World} {base : Nat} {ok : Nat → Prop} {v : Value} {xs : List α} {g : Nat} (h : Kd.V d e W base ok v xs) (hok : ∀ k, ok k → k ≠ g) (h0 : decide (0 < xs.length) = true := by assumption) (hs : 0 < d.sz := by decide) : some g ≠ v.ownBlock := by
 obtain ⟨A, c, rfl, hl, hf⟩ := h
 have hp : 0 < xs.length := of_decide_eq_true h0
 intro hg
 have hC := Kd.F_now hf
 obtain ⟨a, rfl, hcell⟩ := hC.2.2 hp
 have hga : g = a.block := by simpa [Value.ownBlock] using hg
 -- a world in which that block holds nothing
 have key : ∀ (W' : World), d.C W' (some a) xs.length xs → ∃ (n : Nat) (u : Value), W'.cell? (a.add n) = some u := by
  intro W' hC'
  obtain ⟨a', ha', hcell'⟩ := hC'.2.2 hp
  injection ha' with ha'
  subst ha'
  obtain ⟨c0, hc0, _, hcc⟩ := hcell' 0 (xs[0]) (by simp [hp])
  exact ⟨0 * d.sz + 0, c0[0]'(by omega), hcc 0 _ (by simp)⟩
 obtain ⟨n0, u0, hu0⟩ := key W hC
 have hlt : a.block < W.heap.size := by
  have := World.block_lt_of_cell? W _ hu0
  rwa [add_block] at this
 let W' : World := { W with heap := W.heap.setIfInBounds a.block (.pending #[] 0) }
 have hC' : d.C W' (some a) xs.length xs := hf W' (fun k hk _ => by
  have : k ≠ a.block := hga ▸ hok k hk
  show (W.heap.setIfInBounds a.block (.pending #[] 0))[k]? = _
  rw [Array.getElem?_setIfInBounds_ne (Ne.symm this)])
 obtain ⟨n1, u1, hu1⟩ := key W' hC'
 unfold World.cell? at hu1
 rw [add_block] at hu1
 have e : W'.heap[a.block]? = some (.pending #[] 0) := by
  show (W.heap.setIfInBounds a.block (.pending #[] 0))[a.block]? = _
  simp [hlt]
 rw [e] at hu1
 simp at hu1
mutual
def impl_comb_abstract.j0 : Nat → Int → Bool → Int → Int → List (S58) → Int → Int → List (S58) → Option (Int × Int × (List (S58)))
 | 0, _, _, _, _, _, _, _, _ => none
 | k + 1, x1, x42, x122000, x122001, x122002, x123000, x123001, x123002 => if x42 = true then (some (x122000, x122001, x122002)) else ((impl_combOf.f 3).bind fun bt124 => ((impl_comb_abstract.f k x122000 x122001 x122002 x1).bind fun bt129 => ((impl_combApp.f bt124.1 bt124.2.1 bt124.2.2 bt129.1 bt129.2.1 bt129.2.2).bind fun bt134 => ((impl_comb_abstract.f k x123000 x123001 x123002 x1).bind fun bt139 => ((impl_combApp.f bt134.1 bt134.2.1 bt134.2.2 bt139.1 bt139.2.1 bt139.2.2).bind fun bt144 => (some (bt144.1, bt144.2.1, bt144.2.2)))))))
def impl_comb_abstract.f : Nat → Int → Int → List (S58) → Int → Option (Int × Int × (List (S58)))
 | 0, _, _, _, _ => none
 | k + 1, a0_0, a0_1, l0_2, a1 => (impl_comb_has.f k a0_0 a0_1 l0_2 a1).bind fun t103 => (if t103 = true then (if a0_0 = 1 then ((impl_combOf.f 5).bind fun bt104 => (some (bt104.1, bt104.2.1, bt104.2.2))) else (if 0 < (l0_2.length : Int) then (if 1 < (l0_2.length : Int) then (if ((rd_T58 l0_2 1).f0) = 1 then (if ((rd_T58 l0_2 1).f1) = a1 then ((impl_comb_has.f k ((rd_T58 l0_2 0).f0) ((rd_T58 l0_2 0).f1) ((rd_T58 l0_2 0).f2) a1).bind fun t123 => (impl_comb_abstract.j0 k a1 (!t123) ((rd_T58 l0_2 0).f0) ((rd_T58 l0_2 0).f1) ((rd_T58 l0_2 0).f2) ((rd_T58 l0_2 1).f0) ((rd_T58 l0_2 1).f1) ((rd_T58 l0_2 1).f2))) else (impl_comb_abstract.j0 k a1 false ((rd_T58 l0_2 0).f0) ((rd_T58 l0_2 0).f1) ((rd_T58 l0_2 0).f2) ((rd_T58 l0_2 1).f0) ((rd_T58 l0_2 1).f1) ((rd_T58 l0_2 1).f2))) else (impl_comb_abstract.j0 k a1 false ((rd_T58 l0_2 0).f0) ((rd_T58 l0_2 0).f1) ((rd_T58 l0_2 0).f2) ((rd_T58 l0_2 1).f0) ((rd_T58 l0_2 1).f1) ((rd_T58 l0_2 1).f2))) else (none)) else (none))) else ((impl_combOf.f 4).bind fun bt109 => ((impl_combApp.f bt109.1 bt109.2.1 bt109.2.2 a0_0 a0_1 l0_2).bind fun bt114 => (some (bt114.1, bt114.2.1, bt114.2.2)))))
end
def impl_comb_abstract.T5 : Bool × List (List Nat × List Nat) := (true, [([], []), ([0], [0]), ([1], [1]), ([2], [2]), ([], []), ([4], [4]), ([5], [5]), ([6], [6]), ([], []), ([], []), ([8, 3, 0, 1, 2, 3, 8, 9], [3, 8]), ([9, 7, 10, 0, 1, 2, 3, 4, 5, 6, 7, 8, 9, 10], [7, 9])])
def impl_comb_abstract.B5 : List Nat := [0, 1, 3, 7, 0, 16, 48, 112, 0, 0, 783, 2047]
theorem impl_comb_abstract.tab5 : rtab .any (opsOf Try.f53 5) = impl_comb_abstract.T5 := by kernel_rfl
theorem impl_comb_abstract.bits5 : waitsOk impl_comb_abstract.T5.2 impl_comb_abstract.B5 = true := by kernel_rfl
def impl_comb_abstract.T8 : Bool × List (List Nat × List Nat) := (true, [([], []), ([], []), ([], []), ([1, 2, 0], [1, 2]), ([0, 3, 3], [0, 3]), ([], []), ([], []), ([5, 6, 4], [5, 6]), ([4, 7, 7], [4, 7]), ([8, 8, 0, 1, 2, 3, 4, 5, 6, 7, 8], [8])])
def impl_comb_abstract.B8 : List Nat := [0, 0, 0, 7, 15, 0, 0, 127, 255, 511]
theorem impl_comb_abstract.tab8 : rtab .any (opsOf Try.f53 8) = impl_comb_abstract.T8 := by kernel_rfl
theorem impl_comb_abstract.bits8 : waitsOk impl_comb_abstract.T8.2 impl_comb_abstract.B8 = true := by kernel_rfl
set_option maxHeartbeats 8000000 in
set_option maxRecDepth 100000 in
theorem impl_comb_abstract.calls (k : Nat) : ∀ (a0_0 : Int) (a0_1 : Int) (P0_2_ : Nat → Prop) (A0_2 : Option Addr) (c0_2 : Nat) (l0_2 : List (S58)) (a1 : Int) (r1 : Int) (r2 : Int) (r3 : List (S58)) (w : World) (hs0_2 : Kd.V k58 58 w w.heap.size (fun k_ => P0_2_ k_) (.slice A0_2 l0_2.length c0_2) l0_2) (h : impl_comb_abstract.f k a0_0 a0_1 l0_2 a1 = some (r1, r2, r3)),
  Calls Try.prog 53 #[.agg #[.int .i64 a0_0, .int .i64 a0_1, .slice A0_2 l0_2.length c0_2], .int .i64 a1] w fun e w' => ∃ v2_ : Value, e = .returned (.agg #[.int .i64 r1, .int .i64 r2, v2_]) ∧ Kd.V k58 58 w' w.heap.size (fun k_ => (P0_2_ k_ ∨ w.heap.size ≤ k_)) v2_ r3 ∧ Below w.heap.size w w' := by
 induction k using Nat.strongRecOn with
 | _ k ih =>
 intro a0_0 a0_1 P0_2_ A0_2 c0_2 l0_2 a1 r1 r2 r3 w hs0_2 h
 cases k with
 | zero => exact absurd h (by simp [impl_comb_abstract.f])
 | succ k =>
 simp only [impl_comb_abstract.f] at h
 have hu58 := Try.underlying58
 have HO0_2 := aK (show Kd.V k58 58 w w.heap.size (fun k_ => (P0_2_ k_ ∨ w.heap.size ≤ k_)) (.slice A0_2 l0_2.length c0_2) l0_2 from Kd.V_mono hs0_2 (fun k_ hk => .inl hk))
 have HB := aK (Below.refl w.heap.size w)
 have H : ((impl_comb_has.f k a0_0 a0_1 l0_2 a1).bind fun t103 => (if t103 = true then (if a0_0 = 1 then ((impl_combOf.f 5).bind fun bt104 => (some (bt104.1, bt104.2.1, bt104.2.2))) else (if 0 < (l0_2.length : Int) then (if 1 < (l0_2.length : Int) then (if ((rd_T58 l0_2 1).f0) = 1 then (if ((rd_T58 l0_2 1).f1) = a1 then ((impl_comb_has.f k ((rd_T58 l0_2 0).f0) ((rd_T58 l0_2 0).f1) ((rd_T58 l0_2 0).f2) a1).bind fun t123 => (impl_comb_abstract.j0 k a1 (!t123) ((rd_T58 l0_2 0).f0) ((rd_T58 l0_2 0).f1) ((rd_T58 l0_2 0).f2) ((rd_T58 l0_2 1).f0) ((rd_T58 l0_2 1).f1) ((rd_T58 l0_2 1).f2))) else (impl_comb_abstract.j0 k a1 false ((rd_T58 l0_2 0).f0) ((rd_T58 l0_2 0).f1) ((rd_T58 l0_2 0).f2) ((rd_T58 l0_2 1).f0) ((rd_T58 l0_2 1).f1) ((rd_T58 l0_2 1).f2))) else (impl_comb_abstract.j0 k a1 false ((rd_T58 l0_2 0).f0) ((rd_T58 l0_2 0).f1) ((rd_T58 l0_2 0).f2) ((rd_T58 l0_2 1).f0) ((rd_T58 l0_2 1).f1) ((rd_T58 l0_2 1).f2))) else (none)) else (none))) else ((impl_combOf.f 4).bind fun bt109 => ((impl_combApp.f bt109.1 bt109.2.1 bt109.2.2 a0_0 a0_1 l0_2).bind fun bt114 => (some (bt114.1, bt114.2.1, bt114.2.2)))))) = some (r1, r2, r3) := h
 clear h
 replace H := Option.bind_eq_some_iff.mp H
 obtain ⟨t103, A30, H⟩ := H
 try dsimp only at H
 have A3 := aK A30
 clear A30
 by_cases c4 : t103 = true
 ·subst c4
  rw [if_pos rfl] at H
  by_cases c5 : a0_0 = 1
  ·rw [if_pos c5] at H
   have c5b0 : (a0_0 == 1) = true := beq_iff_eq.mpr c5
   have c5b1 : (a0_0 != 1) = false := bne_eq_false_iff_eq.mpr c5
   clear c5
   replace H := Option.bind_eq_some_iff.mp H
   obtain ⟨⟨t104, t105, t106⟩, A60, H⟩ := H
   try dsimp only at H
   have A6 := aK A60
   clear A60
   simp only [Option.some.injEq, Prod.mk.injEq] at H
   obtain ⟨rfl, rfl, rfl⟩ := H
   go_enter Try.func53, Try.ntmps53
   go_wp2_with (first | ((with_reducible refine gate_dst (N := 2) rfl ?_); refine bE (N := 2) (cs := #[.int .i64 a0_0, .int .i64 a0_1, .slice A0_2 l0_2.length c0_2]) (t := 58) ?_; intro gb101 hg w7 hbox hb; have GW101 := qw HB hg; have GE101 := qw HB hg; replace HO0_2 := qv HO0_2 hg hb; have BK101 := aK hbox; replace HB := qs HB hb; clear hb hbox hg) | ((with_reducible refine gate_dst (N := 4) rfl ?_); refine bE (N := 4) (cs := #[.int .i64 0, .int .i64 0, .slice none 0 0]) (t := 58) ?_; intro gb102 hg w8 hbox hb; have GW102 := qw HB hg; have GE102 := qw HB hg; have NB101_102 := ql BK101 hg; have NB102_101 := qg BK101 hg; replace HO0_2 := qv HO0_2 hg hb; replace BK101 := qb BK101 hb; have BK102 := aK hbox; replace HB := qs HB hb; clear hb hbox hg; have hnb9 := NB101_102.out; have hnc9 := NB102_101.out; have hcz10_0 := k30 BK101; have hcz10_1 := k31 BK101; have hcz10_2 := k32 BK101; have hfz10_0 := fz BK101 0; have hfz10_1 := fz BK101 1; have hfz10_2 := fz BK101 2) | ((with_reducible refine gate_callee (f := 74) rfl ?_); refine goesL_ (some 10) rfl rfl Try.func74 (by kernel_rfl) rfl #[.agg #[.int .i64 a0_0, .int .i64 a0_1, .slice A0_2 l0_2.length c0_2], .int .i64 a1] rfl tA ?_; (with_reducible refine (impl_comb_has.calls k a0_0 a0_1 _ _ l0_2 a1 true _ ?side1 ?side2 A3.out).mono ?_); (case side1 => exact sC ((Kd.V_reads' HO0_2.out).2.2)); (case side2 => exact (Kd.V_reads' HO0_2.out).2.1); rintro e w11 ⟨rfl, hb⟩; refine ⟨_, rfl, ?_⟩; have n0_ := aK (Kd.V_below HO0_2.out hb); replace BK101 := qb BK101 hb; replace BK102 := qb BK102 hb; clear HO0_2; have HO0_2 := n0_; clear n0_; replace HB := qs HB hb; (try clear hb); have hcz12_0 := k30 BK101; have hcz12_1 := k31 BK101; have hcz12_2 := k32 BK101; have hfz12_0 := fz BK101 0; have hfz12_1 := fz BK101 1; have hfz12_2 := fz BK101 2) | ((with_reducible refine gate_callee (f := 76) rfl ?_); refine goesL_ (some 19) rfl rfl Try.func76 (by kernel_rfl) rfl #[.int .i64 5] rfl tA ?_; (with_reducible refine (impl_combOf.calls 5 t104 t105 t106 _ A6.out).mono ?_); rintro e w13 ⟨v107, rfl, ho0, hb⟩; refine ⟨_, rfl, ?_⟩; have HO108 := aK (Kd.N_lower (Kd.N_mono (ok' := fun k_ => (P0_2_ k_ ∨ w.heap.size ≤ k_) ∧ k_ ≠ gb101 ∧ k_ ≠ gb102) (Kd.R_N (Kd.R_bound ho0)) (fun k_ hk_ => ⟨(.inr (Nat.le_trans (below_size HB.out) hk_.2.1)), (Kd.freshB BK101.out k_ hk_.2.1), (Kd.freshB BK102.out k_ hk_.2.1)⟩)) (below_size HB.out)); replace HO0_2 := qe HO0_2 (by first | exact Kd.N_base ho0 | exact Kd.R_base ho0) hb; replace BK101 := qb BK101 hb; replace BK102 := qb BK102 hb; replace HB := qs HB hb; (try clear hb); (try clear ho0); have hcz14_0 := k30 BK102; have hcz14_1 := k31 BK102; have hcz14_2 := k32 BK102; have hfz14_0 := fz BK102 0; have hfz14_1 := fz BK102 1; have hfz14_2 := fz BK102 2; obtain ⟨Ao15, co15, eo15⟩ := Kd.N_slice HO108.out; subst eo15))
   refine bodyPost_ret (results_cell_row rfl _ _ gb102 58 #[.int .i64 t104, .int .i64 t105, .slice Ao15 t106.length co15] (0, 0) _ rfl (p3 BK102) Try.underlying58 rfl (by kernel_rfl)) rfl ?_
   exact ⟨_, eW, Kd.N_V (by (with_reducible repeat (first | apply Kd.N_alloc | apply Kd.N_drewN | apply Kd.N_drew)); exact Kd.N_mono (nF3 gb102 (Kd.N_mono HO108.out (fun k_ hk => (⟨hk, hk.2.2⟩ : _ ∧ k_ ≠ gb102))) (fun _ hk => hk.2)) (fun _ hk => hk.1.1)), pH HB⟩
  ·rw [if_neg c5] at H
   have c5b0 : (a0_0 == 1) = false := beq_eq_false_iff_ne.mpr c5
   have c5b1 : (a0_0 != 1) = true := bne_iff_ne.mpr c5
   by_cases c16 : 0 < (l0_2.length : Int)
   ·rw [if_pos c16] at H
    have c16b0 : decide (0 < (l0_2.length : Int)) = true := decide_eq_true c16
    have c16b1 : decide (0 < l0_2.length) = true := decide_eq_true (by omega)
    clear c16
    by_cases c17 : 1 < (l0_2.length : Int)
    ·rw [if_pos c17] at H
     have c17b0 : decide (1 < (l0_2.length : Int)) = true := decide_eq_true c17
     have c17b1 : decide (1 < l0_2.length) = true := decide_eq_true (by omega)
     clear c17
     have HC18 := aK H
     clear H
     go_enter Try.func53, Try.ntmps53
     try go_wp2_with (first | ((with_reducible refine gate_dst (N := 2) rfl ?_); refine bE (N := 2) (cs := #[.int .i64 a0_0, .int .i64 a0_1, .slice A0_2 l0_2.length c0_2]) (t := 58) ?_; intro gb101 hg w19 hbox hb; have GW101 := qw HB hg; have GE101 := qw HB hg; replace HO0_2 := qv HO0_2 hg hb; have BK101 := aK hbox; replace HB := qs HB hb; clear hb hbox hg) | ((with_reducible refine gate_dst (N := 4) rfl ?_); refine bE (N := 4) (cs := #[.int .i64 0, .int .i64 0, .slice none 0 0]) (t := 58) ?_; intro gb102 hg w20 hbox hb; have GW102 := qw HB hg; have GE102 := qw HB hg; have NB101_102 := ql BK101 hg; have NB102_101 := qg BK101 hg; replace HO0_2 := qv HO0_2 hg hb; replace BK101 := qb BK101 hb; have BK102 := aK hbox; replace HB := qs HB hb; clear hb hbox hg; have hnb21 := NB101_102.out; have hnc21 := NB102_101.out; have hcz22_0 := k30 BK101; have hcz22_1 := k31 BK101; have hcz22_2 := k32 BK101; have hfz22_0 := fz BK101 0; have hfz22_1 := fz BK101 1; have hfz22_2 := fz BK101 2) | ((with_reducible refine gate_callee (f := 74) rfl ?_); refine goesL_ (some 10) rfl rfl Try.func74 (by kernel_rfl) rfl #[.agg #[.int .i64 a0_0, .int .i64 a0_1, .slice A0_2 l0_2.length c0_2], .int .i64 a1] rfl tA ?_; (with_reducible refine (impl_comb_has.calls k a0_0 a0_1 _ _ l0_2 a1 true _ ?side1 ?side2 A3.out).mono ?_); (case side1 => exact sC ((Kd.V_reads' HO0_2.out).2.2)); (case side2 => exact (Kd.V_reads' HO0_2.out).2.1); rintro e w23 ⟨rfl, hb⟩; refine ⟨_, rfl, ?_⟩; have n0_ := aK (Kd.V_below HO0_2.out hb); replace BK101 := qb BK101 hb; replace BK102 := qb BK102 hb; clear HO0_2; have HO0_2 := n0_; clear n0_; replace HB := qs HB hb; (try clear hb); have hcz24_0 := k30 BK101; have hcz24_1 := k31 BK101; have hcz24_2 := k32 BK101; have hfz24_0 := fz BK101 0; have hfz24_1 := fz BK101 1; have hfz24_2 := fz BK101 2))
     have n0_ := aK (Kd.V_drew HO0_2.out)
     have n1_ := aK (blk_drew BK101.out)
     have n2_ := aK (blk_drew BK102.out)
     have n3_ := aK (below_drew1 HB.out)
     clear HO0_2
     clear BK101
     clear BK102
     clear HB
     have HO0_2 := n0_
     have BK101 := n1_
     have BK102 := n2_
     have HB := n3_
     clear n0_ n1_ n2_ n3_
     have p119 : 0 ≤ (0 : Int) := (by omega)
     have q119 : 0 < (l0_2.length : Int) := dA
     obtain ⟨ad119, A119_2, c119_2, e119, hx119_0, hx119_1, hx119_2, hl119_2, hi119_2⟩ := at_T58 (Kd.V_reads' HO0_2.out).2.2 0 p119 q119
     cases e119
     obtain ⟨ce119, hce119, hMe119, hcc119⟩ := Kd.V_get HO0_2.out z58 0 p119 (by first | exact q119 | exact dA | (have e_ := (Kd.V_reads' HO0_2.out).1; omega))
     obtain ⟨ua119_2, uc119_2, rfl, ul119_2, ge119_2⟩ := k58_openF hMe119
     have hv119_2 := hcc119 2 _ rfl
     rw [add_field _ _ 2 (by omega)] at hv119_2
     replace hv119_2 := Option.some.inj (hv119_2.symm.trans hx119_2)
     injection hv119_2 with hva_ hvn_ hvc_
     rw [hva_] at ge119_2
     rw [hvc_] at ul119_2
     have HL119_2 := aK (show Kd.V k58 58 _ w.heap.size _ _ ((rd_T58 l0_2 0).f2) from Kd.V_mk ul119_2 ge119_2)
     clear hva_ hvn_ hvc_ ge119_2 ul119_2
     clear hcc119 hce119
     have qi119 : (0 < l0_2.length) = True := eq_true (by omega)
     (try rw [show ((0 : Int)).toNat = 0 from rfl] at hx119_0)
     (try rw [show 0 * 3 = 0 from rfl] at hx119_0)
     (try rw [Addr.add_zero'] at hx119_0)
     (try rw [show ((0 : Int)).toNat = 0 from rfl] at hx119_1)
     (try rw [show 0 * 3 = 0 from rfl] at hx119_1)
     (try rw [Addr.add_zero'] at hx119_1)
     (try rw [show ((0 : Int)).toNat = 0 from rfl] at hx119_2)
     (try rw [show 0 * 3 = 0 from rfl] at hx119_2)
     (try rw [Addr.add_zero'] at hx119_2)
     have HR119_2 := aK hi119_2
     have HC119_2 := aK hl119_2
     clear hi119_2 hl119_2
     replace p119 := eq_true p119
     replace q119 := eq_true q119
     have p120 : 0 ≤ (1 : Int) := (by omega)
     have q120 : 1 < (l0_2.length : Int) := dA
     obtain ⟨ad120, A120_2, c120_2, e120, hx120_0, hx120_1, hx120_2, hl120_2, hi120_2⟩ := at_T58 (Kd.V_reads' HO0_2.out).2.2 1 p120 q120
     obtain rfl : ad119 = ad120 := (by injection e120)
     obtain ⟨ce120, hce120, hMe120, hcc120⟩ := Kd.V_get HO0_2.out z58 1 p120 (by first | exact q120 | exact dA | (have e_ := (Kd.V_reads' HO0_2.out).1; omega))
     obtain ⟨ua120_2, uc120_2, rfl, ul120_2, ge120_2⟩ := k58_openF hMe120
     have hv120_2 := hcc120 2 _ rfl
     rw [add_field _ _ 2 (by omega)] at hv120_2
     replace hv120_2 := Option.some.inj (hv120_2.symm.trans hx120_2)
     injection hv120_2 with hva_ hvn_ hvc_
     rw [hva_] at ge120_2
     rw [hvc_] at ul120_2
     have HL120_2 := aK (show Kd.V k58 58 _ w.heap.size _ _ ((rd_T58 l0_2 1).f2) from Kd.V_mk ul120_2 ge120_2)
     clear hva_ hvn_ hvc_ ge120_2 ul120_2
     clear hcc120 hce120
     (try simp only [show (1 : Int).toNat = 1 from rfl, Nat.reduceMul, Nat.reduceEqDiff, Go.Addr.add, ↓reduceIte] at hx120_0)
     (try simp only [show (1 : Int).toNat = 1 from rfl, Nat.reduceMul, Nat.reduceEqDiff, Go.Addr.add, ↓reduceIte] at hx120_1)
     (try simp only [show (1 : Int).toNat = 1 from rfl, Nat.reduceMul, Nat.reduceEqDiff, Go.Addr.add, ↓reduceIte] at hx120_2)
     have qi120 : (1 < l0_2.length) = True := eq_true (by omega)
     (try rw [show ((1 : Int)).toNat = 1 from rfl] at hx120_0)
     (try rw [show 1 * 3 = 3 from rfl] at hx120_0)
     (try rw [show ((1 : Int)).toNat = 1 from rfl] at hx120_1)
     (try rw [show 1 * 3 = 3 from rfl] at hx120_1)
     (try rw [show ((1 : Int)).toNat = 1 from rfl] at hx120_2)
     (try rw [show 1 * 3 = 3 from rfl] at hx120_2)
     have HR120_2 := aK hi120_2
     have HC120_2 := aK hl120_2
     clear hi120_2 hl120_2
     replace p120 := eq_true p120
     replace q120 := eq_true q120
     refine start_ (n := 12) (S := fun w' => w'.cell? ⟨gb101, 0, none⟩ = some (.int .i64 a0_0) ∧ w'.cell? ⟨gb101, 1, none⟩ = some (.int .i64 a0_1) ∧ w'.cell? ⟨gb101, 2, none⟩ = some (.slice (some ad119) l0_2.length c0_2) ∧ w'.cell? ad119 = some (.int .i64 ((rd_T58 l0_2 0).f0)) ∧ w'.cell? ⟨ad119.block, ad119.off + 1, none⟩ = some (.int .i64 ((rd_T58 l0_2 0).f1)) ∧ w'.cell? ⟨ad119.block, ad119.off + 2, none⟩ = some (.slice A119_2 ((rd_T58 l0_2 0).f2).length c119_2) ∧ w'.cell? ⟨ad119.block, ad119.off + 3, none⟩ = some (.int .i64 ((rd_T58 l0_2 1).f0)) ∧ w'.cell? ⟨ad119.block, ad119.off + 3 + 1, none⟩ = some (.int .i64 ((rd_T58 l0_2 1).f1)) ∧ w'.cell? ⟨ad119.block, ad119.off + 3 + 2, none⟩ = some (.slice A120_2 ((rd_T58 l0_2 1).f2).length c120_2)) (ds := []) (bs 0 12) (by kernel_rfl) rfl rfl ⟨(blk_cell BK101.out 0).trans rfl, (blk_cell BK101.out 1).trans rfl, (blk_cell BK101.out 2).trans rfl, hx119_0, hx119_1, hx119_2, hx120_0, hx120_1, hx120_2⟩ (fun hHeld => ?_); refine with_tabW impl_comb_abstract.tab5 impl_comb_abstract.bits5 (fun HT_ HW_ => ?_)
     generalize w23.drew = w25 at HO0_2 BK101 BK102 HB HL119_2 HL120_2 HR119_2 HR120_2 hx119_0 hx119_1 hx119_2 hx120_0 hx120_1 hx120_2 hHeld ⊢
     refine pure_ (i := 0) (N := some 20) (v := ?_) (a' := ?_) (bs 1 11) rfl rfl (any_of HT_.out (by kernel_rfl)) (fun _ _ _ h => h) (Or.inl ⟨by rfl, ?_⟩) ?_ ?_
     rotate_left
     ·intro w'
      go_simp
      with_reducible rfl
     rotate_left
     ·simp only [sP, i64_w, i32_w]
      rfl
     refine pure_ (i := 4) (N := some 24) (v := ?_) (a' := ?_) #[true, false, false, false, true, false, false, false, false, false, false, false] rfl rfl (any_of HT_.out (by kernel_rfl)) (fun _ _ _ h => h) (Or.inl ⟨by rfl, ?_⟩) ?_ ?_
     rotate_left
     ·intro w'
      go_simp
      with_reducible rfl
     rotate_left
     ·simp only [sP, i64_w, i32_w]
      rfl
     refine take_ (i := 1) (N := some 21) (v := ?_) (a' := ?_) #[true, true, false, false, true, false, false, false, false, false, false, false] rfl rfl (take_ofW HT_.out HW_.out (by kernel_rfl)) (fun _ _ _ h => h) (Or.inl ⟨by rfl, ?_⟩) hHeld ?_ ?_
     rotate_left
     ·rintro w' ⟨s0, s1, s2, s3, s4, s5, s6, s7, s8⟩
      go_simp
      with_reducible rfl
     rotate_left
     ·simp only [sP, i64_w, i32_w]
      rfl
     refine pure_ (i := 2) (N := some 22) (v := ?_) (a' := ?_) #[true, true, true, false, true, false, false, false, false, false, false, false] rfl rfl (any_of HT_.out (by kernel_rfl)) (fun _ _ _ h => h) (Or.inl ⟨by rfl, ?_⟩) ?_ ?_
     rotate_left
     ·intro w'
      go_simp
      with_reducible rfl
     rotate_left
     ·simp only [sP, i64_w, i32_w]
      rfl
     refine take_ (i := 3) (N := some 23) (v := ?_) (a' := ?_) (bs 5 7) rfl rfl (take_ofW HT_.out HW_.out (by kernel_rfl)) (fun _ _ _ h => h) (Or.inl ⟨by rfl, ?_⟩) hHeld ?_ ?_
     rotate_left
     ·rintro w' ⟨s0, s1, s2, s3, s4, s5, s6, s7, s8⟩
      go_simp
      with_reducible rfl
     rotate_left
     ·simp only [sP, i64_w, i32_w]
      rfl
     refine take_ (i := 5) (N := some 25) (v := ?_) (a' := ?_) (bs 6 6) rfl rfl (take_ofW HT_.out HW_.out (by kernel_rfl)) (fun _ _ _ h => h) (Or.inl ⟨by rfl, ?_⟩) hHeld ?_ ?_
     rotate_left
     ·rintro w' ⟨s0, s1, s2, s3, s4, s5, s6, s7, s8⟩
      go_simp
      with_reducible rfl
     rotate_left
     ·simp only [sP, i64_w, i32_w]
      rfl
     refine pure_ (i := 6) (N := some 26) (v := ?_) (a' := ?_) (bs 7 5) rfl rfl (any_of HT_.out (by kernel_rfl)) (fun _ _ _ h => h) (Or.inl ⟨by rfl, ?_⟩) ?_ ?_
     rotate_left
     ·intro w'
      go_simp
      with_reducible rfl
     rotate_left
     ·simp only [sP, i64_w, i32_w]
      rfl
     refine take_ (i := 7) (N := some 27) (v := ?_) (a' := ?_) (bs 8 4) rfl rfl (take_ofW HT_.out HW_.out (by kernel_rfl)) (fun _ _ _ h => h) (Or.inl ⟨by rfl, ?_⟩) hHeld ?_ ?_
     rotate_left
     ·rintro w' ⟨s0, s1, s2, s3, s4, s5, s6, s7, s8⟩
      go_simp
      with_reducible rfl
     rotate_left
     ·simp only [sP, i64_w, i32_w]
      rfl
     refine join_ (σ := Nat × Nat) 2 (bs 10 2) (fun s_ => [(5, .pointer (some ⟨s_.1, 0, none⟩)), (6, .pointer (some ⟨s_.2, 0, none⟩))]) (fun s_ w' => (w'.cell? ⟨gb101, 0, none⟩ = some (.int .i64 a0_0) ∧ w'.cell? ⟨gb101, 1, none⟩ = some (.int .i64 a0_1) ∧ w'.cell? ⟨gb101, 2, none⟩ = some (.slice (some ad119) l0_2.length c0_2) ∧ w'.cell? ad119 = some (.int .i64 ((rd_T58 l0_2 0).f0)) ∧ w'.cell? ⟨ad119.block, ad119.off + 1, none⟩ = some (.int .i64 ((rd_T58 l0_2 0).f1)) ∧ w'.cell? ⟨ad119.block, ad119.off + 2, none⟩ = some (.slice A119_2 ((rd_T58 l0_2 0).f2).length c119_2) ∧ w'.cell? ⟨ad119.block, ad119.off + 3, none⟩ = some (.int .i64 ((rd_T58 l0_2 1).f0)) ∧ w'.cell? ⟨ad119.block, ad119.off + 3 + 1, none⟩ = some (.int .i64 ((rd_T58 l0_2 1).f1)) ∧ w'.cell? ⟨ad119.block, ad119.off + 3 + 2, none⟩ = some (.slice A120_2 ((rd_T58 l0_2 1).f2).length c120_2)) ∧ (Kd.V k58 58 w' w.heap.size (fun k_ => (P0_2_ k_ ∨ w.heap.size ≤ k_) ∧ k_ ≠ gb101 ∧ k_ ≠ gb102 ∧ k_ ≠ s_.1 ∧ k_ ≠ s_.2) (.slice A119_2 ((rd_T58 l0_2 0).f2).length c119_2) ((rd_T58 l0_2 0).f2)) ∧ (Kd.V k58 58 w' w.heap.size (fun k_ => (P0_2_ k_ ∨ w.heap.size ≤ k_) ∧ k_ ≠ gb101 ∧ k_ ≠ gb102 ∧ k_ ≠ s_.1 ∧ k_ ≠ s_.2) (.slice A120_2 ((rd_T58 l0_2 1).f2).length c120_2) ((rd_T58 l0_2 1).f2)) ∧ (Kd.V k58 58 w' w.heap.size (fun k_ => (P0_2_ k_ ∨ w.heap.size ≤ k_) ∧ k_ ≠ gb101 ∧ k_ ≠ gb102 ∧ k_ ≠ s_.1 ∧ k_ ≠ s_.2) (.slice (some ad119) l0_2.length c0_2) l0_2) ∧ (w'.heap[gb101]? = some (.cells #[.int .i64 a0_0, .int .i64 a0_1, .slice (some ad119) l0_2.length c0_2] 58 (0, 0))) ∧ (w'.heap[gb102]? = some (.cells #[.int .i64 0, .int .i64 0, .slice none 0 0] 58 (0, 0))) ∧ (w'.heap[s_.1]? = some (.cells #[.int .i64 0, .int .i64 0, .slice none 0 0] 58 (0, 0))) ∧ (w'.heap[s_.2]? = some (.cells #[.int .i64 0, .int .i64 0, .slice none 0 0] 58 (0, 0))) ∧ (w.heap.size ≤ s_.1) ∧ (w.heap.size ≤ s_.1) ∧ (gb101 ≠ s_.1) ∧ (s_.1 ≠ gb101) ∧ (gb102 ≠ s_.1) ∧ (s_.1 ≠ gb102) ∧ (s_.2 ≠ s_.1) ∧ (s_.1 ≠ s_.2) ∧ (w.heap.size ≤ s_.2) ∧ (w.heap.size ≤ s_.2) ∧ (gb101 ≠ s_.2) ∧ (s_.2 ≠ gb101) ∧ (gb102 ≠ s_.2) ∧ (s_.2 ≠ gb102) ∧ (Below w.heap.size w w')) ?_ ?_
     rotate_left
     ·intro hCont
      refine two_ (i := 8) (j := 9) (Ni := some 5) (Nj := some 6) (bs 9 3) #[true, true, true, true, true, true, true, true, false, true, false, false] rfl rfl rfl rfl (two_of HT_.out (by kernel_rfl)) (by decide) (by decide) (fun K hK => ?_) (fun K hK => ?_)
      ·skip
       refine box_step ?hg (N := 5) ?hd (cs := #[.int .i64 0, .int .i64 0, .slice none 0 0]) (t := 58) ?hr ?_; (case hd => rfl); (case hg => rfl); (case hr => go_simp)
       intro gb121 hg w26 hbox hb
       have HS3_ := (hb.cell (World.block_lt_of_cell? _ _ (hHeld.2.2.2.1))).trans (hHeld.2.2.2.1)
       have HS4_ := (hb.cell (World.block_lt_of_cell? _ _ (hHeld.2.2.2.2.1))).trans (hHeld.2.2.2.2.1)
       have HS5_ := (hb.cell (World.block_lt_of_cell? _ _ (hHeld.2.2.2.2.2.1))).trans (hHeld.2.2.2.2.2.1)
       have HS6_ := (hb.cell (World.block_lt_of_cell? _ _ (hHeld.2.2.2.2.2.2.1))).trans (hHeld.2.2.2.2.2.2.1)
       have HS7_ := (hb.cell (World.block_lt_of_cell? _ _ (hHeld.2.2.2.2.2.2.2.1))).trans (hHeld.2.2.2.2.2.2.2.1)
       have HS8_ := (hb.cell (World.block_lt_of_cell? _ _ (hHeld.2.2.2.2.2.2.2.2))).trans (hHeld.2.2.2.2.2.2.2.2)
       have n0_ := aK (Kd.V_below (Kd.V_elderB HO0_2.out gb121 (Nat.le_of_eq hg.symm)) hb)
       have n1_ := aK (Kd.V_below (Kd.V_elderB HL119_2.out gb121 (Nat.le_of_eq hg.symm)) hb)
       have n2_ := aK (Kd.V_below (Kd.V_elderB HL120_2.out gb121 (Nat.le_of_eq hg.symm)) hb)
       have n3_ := aK (blk_below BK101.out hb)
       have n4_ := aK (blk_below BK102.out hb)
       have n5_ := aK (Kd.C_below (vC HL119_2.out) hb)
       have n6_ := aK (Kd.C_below (vC HL120_2.out) hb)
       have n7_ := aK (below_step (pH HB) hb)
       have n8_ := aK (hbox)
       have n9_ := aK ((by rw [hg]; exact (below_size (pH HB)) : w.heap.size ≤ gb121))
       have n10_ := aK ((by rw [hg]; exact (below_size (pH HB)) : w.heap.size ≤ gb121))
       have n11_ := aK ((by rw [hg]; exact Nat.ne_of_lt (blk_lt BK101.out) : gb101 ≠ gb121))
       have n12_ := aK ((by rw [hg]; exact Nat.ne_of_gt (blk_lt BK101.out) : gb121 ≠ gb101))
       have n13_ := aK ((by rw [hg]; exact Nat.ne_of_lt (blk_lt BK102.out) : gb102 ≠ gb121))
       have n14_ := aK ((by rw [hg]; exact Nat.ne_of_gt (blk_lt BK102.out) : gb121 ≠ gb102))
       clear HO0_2
       clear HL119_2
       clear HL120_2
       clear BK101
       clear BK102
       clear HR119_2
       clear HR120_2
       clear HB
       have HO0_2 := n0_
       have HL119_2 := n1_
       have HL120_2 := n2_
       have BK101 := n3_
       have BK102 := n4_
       have HR119_2 := n5_
       have HR120_2 := n6_
       have HB := n7_
       have BK121 := n8_
       have GW121 := n9_
       have GE121 := n10_
       have NB101_121 := n11_
       have NB121_101 := n12_
       have NB102_121 := n13_
       have NB121_102 := n14_
       clear n0_ n1_ n2_ n3_ n4_ n5_ n6_ n7_ n8_ n9_ n10_ n11_ n12_ n13_ n14_
       clear hb hbox hg
       refine hK.out _ _ ⟨(blk_cell BK101.out 0).trans rfl, (blk_cell BK101.out 1).trans rfl, (blk_cell BK101.out 2).trans rfl, HS3_, HS4_, HS5_, HS6_, HS7_, HS8_⟩ (fun hHeld => ?_)
       clear hK K
       refine norm_ (a' := ?_) ?_ ?_
       rotate_left
       ·show Act.put _ (some 5) _ = _
        simp only [sP, i64_w, i32_w]
        rfl
       refine one_ (i := 9) (N := some 6) (bs 10 2) rfl rfl (one_of HT_.out (by kernel_rfl)) (by decide) (fun K hK => ?_)
       refine box_step ?hg (N := 6) ?hd (cs := #[.int .i64 0, .int .i64 0, .slice none 0 0]) (t := 58) ?hr ?_; (case hd => rfl); (case hg => rfl); (case hr => go_simp)
       intro gb122 hg w27 hbox hb
       have HS3_ := (hb.cell (World.block_lt_of_cell? _ _ (hHeld.2.2.2.1))).trans (hHeld.2.2.2.1)
       have HS4_ := (hb.cell (World.block_lt_of_cell? _ _ (hHeld.2.2.2.2.1))).trans (hHeld.2.2.2.2.1)
       have HS5_ := (hb.cell (World.block_lt_of_cell? _ _ (hHeld.2.2.2.2.2.1))).trans (hHeld.2.2.2.2.2.1)
       have HS6_ := (hb.cell (World.block_lt_of_cell? _ _ (hHeld.2.2.2.2.2.2.1))).trans (hHeld.2.2.2.2.2.2.1)
       have HS7_ := (hb.cell (World.block_lt_of_cell? _ _ (hHeld.2.2.2.2.2.2.2.1))).trans (hHeld.2.2.2.2.2.2.2.1)
       have HS8_ := (hb.cell (World.block_lt_of_cell? _ _ (hHeld.2.2.2.2.2.2.2.2))).trans (hHeld.2.2.2.2.2.2.2.2)
       have n0_ := aK (Kd.V_below (Kd.V_elderB HO0_2.out gb122 (Nat.le_of_eq hg.symm)) hb)
       have n1_ := aK (Kd.V_below (Kd.V_elderB HL119_2.out gb122 (Nat.le_of_eq hg.symm)) hb)
       have n2_ := aK (Kd.V_below (Kd.V_elderB HL120_2.out gb122 (Nat.le_of_eq hg.symm)) hb)
       have n3_ := aK (blk_below BK101.out hb)
       have n4_ := aK (blk_below BK102.out hb)
       have n5_ := aK (Kd.C_below (vC HL119_2.out) hb)
       have n6_ := aK (Kd.C_below (vC HL120_2.out) hb)
       have n7_ := aK (blk_below BK121.out hb)
       have n8_ := aK (below_step (pH HB) hb)
       have n9_ := aK (hbox)
       have n10_ := aK ((by rw [hg]; exact (below_size (pH HB)) : w.heap.size ≤ gb122))
       have n11_ := aK ((by rw [hg]; exact (below_size (pH HB)) : w.heap.size ≤ gb122))
       have n12_ := aK ((by rw [hg]; exact Nat.ne_of_lt (blk_lt BK101.out) : gb101 ≠ gb122))
       have n13_ := aK ((by rw [hg]; exact Nat.ne_of_gt (blk_lt BK101.out) : gb122 ≠ gb101))
       have n14_ := aK ((by rw [hg]; exact Nat.ne_of_lt (blk_lt BK102.out) : gb102 ≠ gb122))
       have n15_ := aK ((by rw [hg]; exact Nat.ne_of_gt (blk_lt BK102.out) : gb122 ≠ gb102))
       have n16_ := aK ((by rw [hg]; exact Nat.ne_of_lt (blk_lt BK121.out) : gb121 ≠ gb122))
       have n17_ := aK ((by rw [hg]; exact Nat.ne_of_gt (blk_lt BK121.out) : gb122 ≠ gb121))
       clear HO0_2
       clear HL119_2
       clear HL120_2
       clear BK101
       clear BK102
       clear HR119_2
       clear HR120_2
       clear BK121
       clear HB
       have HO0_2 := n0_
       have HL119_2 := n1_
       have HL120_2 := n2_
       have BK101 := n3_
       have BK102 := n4_
       have HR119_2 := n5_
       have HR120_2 := n6_
       have BK121 := n7_
       have HB := n8_
       have BK122 := n9_
       have GW122 := n10_
       have GE122 := n11_
       have NB101_122 := n12_
       have NB122_101 := n13_
       have NB102_122 := n14_
       have NB122_102 := n15_
       have NB121_122 := n16_
       have NB122_121 := n17_
       clear n0_ n1_ n2_ n3_ n4_ n5_ n6_ n7_ n8_ n9_ n10_ n11_ n12_ n13_ n14_ n15_ n16_ n17_
       clear hb hbox hg
       refine hK.out _ _ ⟨(blk_cell BK101.out 0).trans rfl, (blk_cell BK101.out 1).trans rfl, (blk_cell BK101.out 2).trans rfl, HS3_, HS4_, HS5_, HS6_, HS7_, HS8_⟩ (fun hHeld => ?_)
       clear hK K
       refine norm_ (a' := ?_) ?_ ?_
       rotate_left
       ·show Act.put _ (some 6) _ = _
        simp only [sP, i64_w, i32_w]
        rfl
       exact norm_ (by simp only [putAll, Act.put, List.setIfInBounds_toArray, List.set_cons_zero, List.set_cons_succ]) (hCont (gb121, gb122) _ ⟨hHeld, (by (with_reducible repeat (first | apply Kd.V_alloc | apply Kd.V_drewN | apply Kd.V_drew)); exact Kd.V_mono HL119_2.out (fun _ hk => ⟨hk.1.1.1.1, ⟨hk.1.1.1.2, ⟨hk.1.1.2, ⟨hk.1.2, hk.2⟩⟩⟩⟩)), (by (with_reducible repeat (first | apply Kd.V_alloc | apply Kd.V_drewN | apply Kd.V_drew)); exact Kd.V_mono HL120_2.out (fun _ hk => ⟨hk.1.1.1.1, ⟨hk.1.1.1.2, ⟨hk.1.1.2, ⟨hk.1.2, hk.2⟩⟩⟩⟩)), (by (with_reducible repeat (first | apply Kd.V_alloc | apply Kd.V_drewN | apply Kd.V_drew)); exact Kd.V_mono HO0_2.out (fun _ hk => ⟨hk.1.1.1.1, ⟨hk.1.1.1.2, ⟨hk.1.1.2, ⟨hk.1.2, hk.2⟩⟩⟩⟩)), BK101.out, BK102.out, BK121.out, BK122.out, GW121.out, GE121.out, NB101_121.out, NB121_101.out, NB102_121.out, NB121_102.out, NB122_121.out, NB121_122.out, GW122.out, GE122.out, NB101_122.out, NB122_101.out, NB102_122.out, NB122_102.out, (pH HB)⟩)
      ·skip
       refine box_step ?hg (N := 6) ?hd (cs := #[.int .i64 0, .int .i64 0, .slice none 0 0]) (t := 58) ?hr ?_; (case hd => rfl); (case hg => rfl); (case hr => go_simp)
       intro gb122 hg w26 hbox hb
       have HS3_ := (hb.cell (World.block_lt_of_cell? _ _ (hHeld.2.2.2.1))).trans (hHeld.2.2.2.1)
       have HS4_ := (hb.cell (World.block_lt_of_cell? _ _ (hHeld.2.2.2.2.1))).trans (hHeld.2.2.2.2.1)
       have HS5_ := (hb.cell (World.block_lt_of_cell? _ _ (hHeld.2.2.2.2.2.1))).trans (hHeld.2.2.2.2.2.1)
       have HS6_ := (hb.cell (World.block_lt_of_cell? _ _ (hHeld.2.2.2.2.2.2.1))).trans (hHeld.2.2.2.2.2.2.1)
       have HS7_ := (hb.cell (World.block_lt_of_cell? _ _ (hHeld.2.2.2.2.2.2.2.1))).trans (hHeld.2.2.2.2.2.2.2.1)
       have HS8_ := (hb.cell (World.block_lt_of_cell? _ _ (hHeld.2.2.2.2.2.2.2.2))).trans (hHeld.2.2.2.2.2.2.2.2)
       have n0_ := aK (Kd.V_below (Kd.V_elderB HO0_2.out gb122 (Nat.le_of_eq hg.symm)) hb)
       have n1_ := aK (Kd.V_below (Kd.V_elderB HL119_2.out gb122 (Nat.le_of_eq hg.symm)) hb)
       have n2_ := aK (Kd.V_below (Kd.V_elderB HL120_2.out gb122 (Nat.le_of_eq hg.symm)) hb)
       have n3_ := aK (blk_below BK101.out hb)
       have n4_ := aK (blk_below BK102.out hb)
       have n5_ := aK (Kd.C_below (vC HL119_2.out) hb)
       have n6_ := aK (Kd.C_below (vC HL120_2.out) hb)
       have n7_ := aK (below_step (pH HB) hb)
       have n8_ := aK (hbox)
       have n9_ := aK ((by rw [hg]; exact (below_size (pH HB)) : w.heap.size ≤ gb122))
       have n10_ := aK ((by rw [hg]; exact (below_size (pH HB)) : w.heap.size ≤ gb122))
       have n11_ := aK ((by rw [hg]; exact Nat.ne_of_lt (blk_lt BK101.out) : gb101 ≠ gb122))
       have n12_ := aK ((by rw [hg]; exact Nat.ne_of_gt (blk_lt BK101.out) : gb122 ≠ gb101))
       have n13_ := aK ((by rw [hg]; exact Nat.ne_of_lt (blk_lt BK102.out) : gb102 ≠ gb122))
       have n14_ := aK ((by rw [hg]; exact Nat.ne_of_gt (blk_lt BK102.out) : gb122 ≠ gb102))
       clear HO0_2
       clear HL119_2
       clear HL120_2
       clear BK101
       clear BK102
       clear HR119_2
       clear HR120_2
       clear HB
       have HO0_2 := n0_
       have HL119_2 := n1_
       have HL120_2 := n2_
       have BK101 := n3_
       have BK102 := n4_
       have HR119_2 := n5_
       have HR120_2 := n6_
       have HB := n7_
       have BK122 := n8_
       have GW122 := n9_
       have GE122 := n10_
       have NB101_122 := n11_
       have NB122_101 := n12_
       have NB102_122 := n13_
       have NB122_102 := n14_
       clear n0_ n1_ n2_ n3_ n4_ n5_ n6_ n7_ n8_ n9_ n10_ n11_ n12_ n13_ n14_
       clear hb hbox hg
       refine hK.out _ _ ⟨(blk_cell BK101.out 0).trans rfl, (blk_cell BK101.out 1).trans rfl, (blk_cell BK101.out 2).trans rfl, HS3_, HS4_, HS5_, HS6_, HS7_, HS8_⟩ (fun hHeld => ?_)
       clear hK K
       refine norm_ (a' := ?_) ?_ ?_
       rotate_left
       ·show Act.put _ (some 6) _ = _
        simp only [sP, i64_w, i32_w]
        rfl
       refine one_ (i := 8) (N := some 5) (bs 10 2) rfl rfl (one_of HT_.out (by kernel_rfl)) (by decide) (fun K hK => ?_)
       refine box_step ?hg (N := 5) ?hd (cs := #[.int .i64 0, .int .i64 0, .slice none 0 0]) (t := 58) ?hr ?_; (case hd => rfl); (case hg => rfl); (case hr => go_simp)
       intro gb121 hg w27 hbox hb
       have HS3_ := (hb.cell (World.block_lt_of_cell? _ _ (hHeld.2.2.2.1))).trans (hHeld.2.2.2.1)
       have HS4_ := (hb.cell (World.block_lt_of_cell? _ _ (hHeld.2.2.2.2.1))).trans (hHeld.2.2.2.2.1)
       have HS5_ := (hb.cell (World.block_lt_of_cell? _ _ (hHeld.2.2.2.2.2.1))).trans (hHeld.2.2.2.2.2.1)
       have HS6_ := (hb.cell (World.block_lt_of_cell? _ _ (hHeld.2.2.2.2.2.2.1))).trans (hHeld.2.2.2.2.2.2.1)
       have HS7_ := (hb.cell (World.block_lt_of_cell? _ _ (hHeld.2.2.2.2.2.2.2.1))).trans (hHeld.2.2.2.2.2.2.2.1)
       have HS8_ := (hb.cell (World.block_lt_of_cell? _ _ (hHeld.2.2.2.2.2.2.2.2))).trans (hHeld.2.2.2.2.2.2.2.2)
       have n0_ := aK (Kd.V_below (Kd.V_elderB HO0_2.out gb121 (Nat.le_of_eq hg.symm)) hb)
       have n1_ := aK (Kd.V_below (Kd.V_elderB HL119_2.out gb121 (Nat.le_of_eq hg.symm)) hb)
       have n2_ := aK (Kd.V_below (Kd.V_elderB HL120_2.out gb121 (Nat.le_of_eq hg.symm)) hb)
       have n3_ := aK (blk_below BK101.out hb)
       have n4_ := aK (blk_below BK102.out hb)
       have n5_ := aK (Kd.C_below (vC HL119_2.out) hb)
       have n6_ := aK (Kd.C_below (vC HL120_2.out) hb)
       have n7_ := aK (blk_below BK122.out hb)
       have n8_ := aK (below_step (pH HB) hb)
       have n9_ := aK (hbox)
       have n10_ := aK ((by rw [hg]; exact (below_size (pH HB)) : w.heap.size ≤ gb121))
       have n11_ := aK ((by rw [hg]; exact (below_size (pH HB)) : w.heap.size ≤ gb121))
       have n12_ := aK ((by rw [hg]; exact Nat.ne_of_lt (blk_lt BK101.out) : gb101 ≠ gb121))
       have n13_ := aK ((by rw [hg]; exact Nat.ne_of_gt (blk_lt BK101.out) : gb121 ≠ gb101))
       have n14_ := aK ((by rw [hg]; exact Nat.ne_of_lt (blk_lt BK102.out) : gb102 ≠ gb121))
       have n15_ := aK ((by rw [hg]; exact Nat.ne_of_gt (blk_lt BK102.out) : gb121 ≠ gb102))
       have n16_ := aK ((by rw [hg]; exact Nat.ne_of_lt (blk_lt BK122.out) : gb122 ≠ gb121))
       have n17_ := aK ((by rw [hg]; exact Nat.ne_of_gt (blk_lt BK122.out) : gb121 ≠ gb122))
       clear HO0_2
       clear HL119_2
       clear HL120_2
       clear BK101
       clear BK102
       clear HR119_2
       clear HR120_2
       clear BK122
       clear HB
       have HO0_2 := n0_
       have HL119_2 := n1_
       have HL120_2 := n2_
       have BK101 := n3_
       have BK102 := n4_
       have HR119_2 := n5_
       have HR120_2 := n6_
       have BK122 := n7_
       have HB := n8_
       have BK121 := n9_
       have GW121 := n10_
       have GE121 := n11_
       have NB101_121 := n12_
       have NB121_101 := n13_
       have NB102_121 := n14_
       have NB121_102 := n15_
       have NB122_121 := n16_
       have NB121_122 := n17_
       clear n0_ n1_ n2_ n3_ n4_ n5_ n6_ n7_ n8_ n9_ n10_ n11_ n12_ n13_ n14_ n15_ n16_ n17_
       clear hb hbox hg
       refine hK.out _ _ ⟨(blk_cell BK101.out 0).trans rfl, (blk_cell BK101.out 1).trans rfl, (blk_cell BK101.out 2).trans rfl, HS3_, HS4_, HS5_, HS6_, HS7_, HS8_⟩ (fun hHeld => ?_)
       clear hK K
       refine norm_ (a' := ?_) ?_ ?_
       rotate_left
       ·show Act.put _ (some 5) _ = _
        simp only [sP, i64_w, i32_w]
        rfl
       exact norm_ (by simp only [putAll, Act.put, List.setIfInBounds_toArray, List.set_cons_zero, List.set_cons_succ]) (hCont (gb121, gb122) _ ⟨hHeld, (by (with_reducible repeat (first | apply Kd.V_alloc | apply Kd.V_drewN | apply Kd.V_drew)); exact Kd.V_mono HL119_2.out (fun _ hk => ⟨hk.1.1.1.1, ⟨hk.1.1.1.2, ⟨hk.1.1.2, ⟨hk.2, hk.1.2⟩⟩⟩⟩)), (by (with_reducible repeat (first | apply Kd.V_alloc | apply Kd.V_drewN | apply Kd.V_drew)); exact Kd.V_mono HL120_2.out (fun _ hk => ⟨hk.1.1.1.1, ⟨hk.1.1.1.2, ⟨hk.1.1.2, ⟨hk.2, hk.1.2⟩⟩⟩⟩)), (by (with_reducible repeat (first | apply Kd.V_alloc | apply Kd.V_drewN | apply Kd.V_drew)); exact Kd.V_mono HO0_2.out (fun _ hk => ⟨hk.1.1.1.1, ⟨hk.1.1.1.2, ⟨hk.1.1.2, ⟨hk.2, hk.1.2⟩⟩⟩⟩)), BK101.out, BK102.out, BK121.out, BK122.out, GW121.out, GE121.out, NB101_121.out, NB121_101.out, NB102_121.out, NB121_102.out, NB122_121.out, NB121_122.out, GW122.out, GE122.out, NB101_122.out, NB122_101.out, NB102_122.out, NB122_102.out, (pH HB)⟩)
     rintro ⟨gb121, gb122⟩ w28 ⟨hS_, h0_, h1_, h2_, h3_, h4_, h5_, h6_, h7_, h8_, h9_, h10_, h11_, h12_, h13_, h14_, h15_, h16_, h17_, h18_, h19_, h20_, h21_⟩
     have n0_ : Aside0 (Kd.V k58 58 w28 w.heap.size (fun k_ => (P0_2_ k_ ∨ w.heap.size ≤ k_) ∧ k_ ≠ gb101 ∧ k_ ≠ gb102 ∧ k_ ≠ gb121 ∧ k_ ≠ gb122) (.slice A119_2 ((rd_T58 l0_2 0).f2).length c119_2) ((rd_T58 l0_2 0).f2)) := ⟨h0_⟩
     have n1_ : Aside0 (Kd.V k58 58 w28 w.heap.size (fun k_ => (P0_2_ k_ ∨ w.heap.size ≤ k_) ∧ k_ ≠ gb101 ∧ k_ ≠ gb102 ∧ k_ ≠ gb121 ∧ k_ ≠ gb122) (.slice A120_2 ((rd_T58 l0_2 1).f2).length c120_2) ((rd_T58 l0_2 1).f2)) := ⟨h1_⟩
     have n2_ : Aside0 (Kd.V k58 58 w28 w.heap.size (fun k_ => (P0_2_ k_ ∨ w.heap.size ≤ k_) ∧ k_ ≠ gb101 ∧ k_ ≠ gb102 ∧ k_ ≠ gb121 ∧ k_ ≠ gb122) (.slice (some ad119) l0_2.length c0_2) l0_2) := ⟨h2_⟩
     have n3_ : Aside0 (w28.heap[gb101]? = some (.cells #[.int .i64 a0_0, .int .i64 a0_1, .slice (some ad119) l0_2.length c0_2] 58 (0, 0))) := ⟨h3_⟩
     have n4_ : Aside0 (w28.heap[gb102]? = some (.cells #[.int .i64 0, .int .i64 0, .slice none 0 0] 58 (0, 0))) := ⟨h4_⟩
     have n5_ : Aside0 (w28.heap[gb121]? = some (.cells #[.int .i64 0, .int .i64 0, .slice none 0 0] 58 (0, 0))) := ⟨h5_⟩
     have n6_ : Aside0 (w28.heap[gb122]? = some (.cells #[.int .i64 0, .int .i64 0, .slice none 0 0] 58 (0, 0))) := ⟨h6_⟩
     have n7_ : Aside0 (w.heap.size ≤ gb121) := ⟨h7_⟩
     have n8_ : Aside0 (w.heap.size ≤ gb121) := ⟨h8_⟩
     have n9_ : Aside0 (gb101 ≠ gb121) := ⟨h9_⟩
     have n10_ : Aside0 (gb121 ≠ gb101) := ⟨h10_⟩
     have n11_ : Aside0 (gb102 ≠ gb121) := ⟨h11_⟩
     have n12_ : Aside0 (gb121 ≠ gb102) := ⟨h12_⟩
     have n13_ : Aside0 (gb122 ≠ gb121) := ⟨h13_⟩
     have n14_ : Aside0 (gb121 ≠ gb122) := ⟨h14_⟩
     have n15_ : Aside0 (w.heap.size ≤ gb122) := ⟨h15_⟩
     have n16_ : Aside0 (w.heap.size ≤ gb122) := ⟨h16_⟩
     have n17_ : Aside0 (gb101 ≠ gb122) := ⟨h17_⟩
     have n18_ : Aside0 (gb122 ≠ gb101) := ⟨h18_⟩
     have n19_ : Aside0 (gb102 ≠ gb122) := ⟨h19_⟩
     have n20_ : Aside0 (gb122 ≠ gb102) := ⟨h20_⟩
     have n21_ : Aside0 (Below w.heap.size w w28) := ⟨h21_⟩
     clear HO0_2
     clear BK101
     clear BK102
     clear HB
     clear h0_ h1_ h2_ h3_ h4_ h5_ h6_ h7_ h8_ h9_ h10_ h11_ h12_ h13_ h14_ h15_ h16_ h17_ h18_ h19_ h20_ h21_
     have HL119_2 := n0_
     have HL120_2 := n1_
     have HO0_2 := n2_
     have BK101 := n3_
     have BK102 := n4_
     have BK121 := n5_
     have BK122 := n6_
     have GW121 := n7_
     have GE121 := n8_
     have NB101_121 := n9_
     have NB121_101 := n10_
     have NB102_121 := n11_
     have NB121_102 := n12_
     have NB122_121 := n13_
     have NB121_122 := n14_
     have GW122 := n15_
     have GE122 := n16_
     have NB101_122 := n17_
     have NB122_101 := n18_
     have NB102_122 := n19_
     have NB122_102 := n20_
     have HB := n21_
     clear n0_ n1_ n2_ n3_ n4_ n5_ n6_ n7_ n8_ n9_ n10_ n11_ n12_ n13_ n14_ n15_ n16_ n17_ n18_ n19_ n20_ n21_
     have hHeld : w28.cell? ⟨gb101, 0, none⟩ = some (.int .i64 a0_0) ∧ w28.cell? ⟨gb101, 1, none⟩ = some (.int .i64 a0_1) ∧ w28.cell? ⟨gb101, 2, none⟩ = some (.slice (some ad119) l0_2.length c0_2) ∧ w28.cell? ad119 = some (.int .i64 ((rd_T58 l0_2 0).f0)) ∧ w28.cell? ⟨ad119.block, ad119.off + 1, none⟩ = some (.int .i64 ((rd_T58 l0_2 0).f1)) ∧ w28.cell? ⟨ad119.block, ad119.off + 2, none⟩ = some (.slice A119_2 ((rd_T58 l0_2 0).f2).length c119_2) ∧ w28.cell? ⟨ad119.block, ad119.off + 3, none⟩ = some (.int .i64 ((rd_T58 l0_2 1).f0)) ∧ w28.cell? ⟨ad119.block, ad119.off + 3 + 1, none⟩ = some (.int .i64 ((rd_T58 l0_2 1).f1)) ∧ w28.cell? ⟨ad119.block, ad119.off + 3 + 2, none⟩ = some (.slice A120_2 ((rd_T58 l0_2 1).f2).length c120_2) := hS_
     refine norm_ (a' := ?_) ?_ ?_
     rotate_left
     ·simp only [putAll, Act.put, List.setIfInBounds_toArray, List.set_cons_zero, List.set_cons_succ]
      rfl
     refine one_ (i := 10) (N := none) (bs 11 1) rfl rfl (one_of HT_.out (by kernel_rfl)) (by decide) (fun K hK => ?_)
     have hs29 : w28.cell? ⟨gb121, 0, none⟩ = some (.int .i64 0) := (blk_cell BK121.out 0).trans rfl
     have hfs29 := blk_frozen BK121.out 0
     have hns29_0 := NB101_121.out
     have hns29_1 := NB102_121.out
     have hns29_3 := NB122_121.out
     have hms29_0 := NB121_101.out
     have hms29_1 := NB121_102.out
     have hms29_3 := NB121_122.out
     have hs30 : w28.cell? ⟨gb121, 1, none⟩ = some (.int .i64 0) := (blk_cell BK121.out 1).trans rfl
     have hfs30 := blk_frozen BK121.out 1
     have hns30_0 := NB101_121.out
     have hns30_1 := NB102_121.out
     have hns30_3 := NB122_121.out
     have hms30_0 := NB121_101.out
     have hms30_1 := NB121_102.out
     have hms30_3 := NB121_122.out
     have hs31 : w28.cell? ⟨gb121, 2, none⟩ = some (.slice none 0 0) := (blk_cell BK121.out 2).trans rfl
     have hfs31 := blk_frozen BK121.out 2
     have hns31_0 := NB101_121.out
     have hns31_1 := NB102_121.out
     have hns31_3 := NB122_121.out
     have hms31_0 := NB121_101.out
     have hms31_1 := NB121_102.out
     have hms31_3 := NB121_122.out
     refine skip_ (w1 := ?_) (by rfl) rfl ?_ ?_
     rotate_left
     ·go_simp
      rfl
     refine hK.out _ _ ⟨((cell_far (p := ⟨gb121, _, none⟩) NB101_121.out _).trans (((cell_far (p := ⟨gb121, _, none⟩) NB101_121.out _).trans (((cell_far (p := ⟨gb121, _, none⟩) NB101_121.out _).trans (hHeld.1)))))), ((cell_far (p := ⟨gb121, _, none⟩) NB101_121.out _).trans (((cell_far (p := ⟨gb121, _, none⟩) NB101_121.out _).trans (((cell_far (p := ⟨gb121, _, none⟩) NB101_121.out _).trans (hHeld.2.1)))))), ((cell_far (p := ⟨gb121, _, none⟩) NB101_121.out _).trans (((cell_far (p := ⟨gb121, _, none⟩) NB101_121.out _).trans (((cell_far (p := ⟨gb121, _, none⟩) NB101_121.out _).trans (hHeld.2.2.1)))))), ((cell_far (p := ⟨gb121, _, none⟩) (cB (Kd.own_blk (Kd.V_away HO0_2.out (fun _ hk => hk.2.2.2.1)))) _).trans (((cell_far (p := ⟨gb121, _, none⟩) (cB (Kd.own_blk (Kd.V_away HO0_2.out (fun _ hk => hk.2.2.2.1)))) _).trans (((cell_far (p := ⟨gb121, _, none⟩) (cB (Kd.own_blk (Kd.V_away HO0_2.out (fun _ hk => hk.2.2.2.1)))) _).trans (hHeld.2.2.2.1)))))), ((cell_far (p := ⟨gb121, _, none⟩) (cB (Kd.own_blk (Kd.V_away HO0_2.out (fun _ hk => hk.2.2.2.1)))) _).trans (((cell_far (p := ⟨gb121, _, none⟩) (cB (Kd.own_blk (Kd.V_away HO0_2.out (fun _ hk => hk.2.2.2.1)))) _).trans (((cell_far (p := ⟨gb121, _, none⟩) (cB (Kd.own_blk (Kd.V_away HO0_2.out (fun _ hk => hk.2.2.2.1)))) _).trans (hHeld.2.2.2.2.1)))))), ((cell_far (p := ⟨gb121, _, none⟩) (cB (Kd.own_blk (Kd.V_away HO0_2.out (fun _ hk => hk.2.2.2.1)))) _).trans (((cell_far (p := ⟨gb121, _, none⟩) (cB (Kd.own_blk (Kd.V_away HO0_2.out (fun _ hk => hk.2.2.2.1)))) _).trans (((cell_far (p := ⟨gb121, _, none⟩) (cB (Kd.own_blk (Kd.V_away HO0_2.out (fun _ hk => hk.2.2.2.1)))) _).trans (hHeld.2.2.2.2.2.1)))))), ((cell_far (p := ⟨gb121, _, none⟩) (cB (Kd.own_blk (Kd.V_away HO0_2.out (fun _ hk => hk.2.2.2.1)))) _).trans (((cell_far (p := ⟨gb121, _, none⟩) (cB (Kd.own_blk (Kd.V_away HO0_2.out (fun _ hk => hk.2.2.2.1)))) _).trans (((cell_far (p := ⟨gb121, _, none⟩) (cB (Kd.own_blk (Kd.V_away HO0_2.out (fun _ hk => hk.2.2.2.1)))) _).trans (hHeld.2.2.2.2.2.2.1)))))), ((cell_far (p := ⟨gb121, _, none⟩) (cB (Kd.own_blk (Kd.V_away HO0_2.out (fun _ hk => hk.2.2.2.1)))) _).trans (((cell_far (p := ⟨gb121, _, none⟩) (cB (Kd.own_blk (Kd.V_away HO0_2.out (fun _ hk => hk.2.2.2.1)))) _).trans (((cell_far (p := ⟨gb121, _, none⟩) (cB (Kd.own_blk (Kd.V_away HO0_2.out (fun _ hk => hk.2.2.2.1)))) _).trans (hHeld.2.2.2.2.2.2.2.1)))))), ((cell_far (p := ⟨gb121, _, none⟩) (cB (Kd.own_blk (Kd.V_away HO0_2.out (fun _ hk => hk.2.2.2.1)))) _).trans (((cell_far (p := ⟨gb121, _, none⟩) (cB (Kd.own_blk (Kd.V_away HO0_2.out (fun _ hk => hk.2.2.2.1)))) _).trans (((cell_far (p := ⟨gb121, _, none⟩) (cB (Kd.own_blk (Kd.V_away HO0_2.out (fun _ hk => hk.2.2.2.1)))) _).trans (hHeld.2.2.2.2.2.2.2.2))))))⟩ (fun hHeld => ?_)
     clear hK K
     refine one_ (i := 11) (N := none) (bs 12 0) rfl rfl (one_of HT_.out (by kernel_rfl)) (by decide) (fun K hK => ?_)
     have hs32 : w28.cell? ⟨gb122, 0, none⟩ = some (.int .i64 0) := (blk_cell BK122.out 0).trans rfl
     have hfs32 := blk_frozen BK122.out 0
     have hns32_0 := NB101_122.out
     have hns32_1 := NB102_122.out
     have hns32_2 := NB121_122.out
     have hms32_0 := NB122_101.out
     have hms32_1 := NB122_102.out
     have hms32_2 := NB122_121.out
     have hs33 : w28.cell? ⟨gb122, 1, none⟩ = some (.int .i64 0) := (blk_cell BK122.out 1).trans rfl
     have hfs33 := blk_frozen BK122.out 1
     have hns33_0 := NB101_122.out
     have hns33_1 := NB102_122.out
     have hns33_2 := NB121_122.out
     have hms33_0 := NB122_101.out
     have hms33_1 := NB122_102.out
     have hms33_2 := NB122_121.out
     have hs34 : w28.cell? ⟨gb122, 2, none⟩ = some (.slice none 0 0) := (blk_cell BK122.out 2).trans rfl
     have hfs34 := blk_frozen BK122.out 2
     have hns34_0 := NB101_122.out
     have hns34_1 := NB102_122.out
     have hns34_2 := NB121_122.out
     have hms34_0 := NB122_101.out
     have hms34_1 := NB122_102.out
     have hms34_2 := NB122_121.out
     refine skip_ (w1 := ?_) (by rfl) rfl ?_ ?_
     rotate_left
     ·go_simp
      rfl
     refine hK.out _ _ ⟨((cell_far (p := ⟨gb122, _, none⟩) NB101_122.out _).trans (((cell_far (p := ⟨gb122, _, none⟩) NB101_122.out _).trans (((cell_far (p := ⟨gb122, _, none⟩) NB101_122.out _).trans (hHeld.1)))))), ((cell_far (p := ⟨gb122, _, none⟩) NB101_122.out _).trans (((cell_far (p := ⟨gb122, _, none⟩) NB101_122.out _).trans (((cell_far (p := ⟨gb122, _, none⟩) NB101_122.out _).trans (hHeld.2.1)))))), ((cell_far (p := ⟨gb122, _, none⟩) NB101_122.out _).trans (((cell_far (p := ⟨gb122, _, none⟩) NB101_122.out _).trans (((cell_far (p := ⟨gb122, _, none⟩) NB101_122.out _).trans (hHeld.2.2.1)))))), ((cell_far (p := ⟨gb122, _, none⟩) (cB (Kd.own_blk (Kd.V_away HO0_2.out (fun _ hk => hk.2.2.2.2)))) _).trans (((cell_far (p := ⟨gb122, _, none⟩) (cB (Kd.own_blk (Kd.V_away HO0_2.out (fun _ hk => hk.2.2.2.2)))) _).trans (((cell_far (p := ⟨gb122, _, none⟩) (cB (Kd.own_blk (Kd.V_away HO0_2.out (fun _ hk => hk.2.2.2.2)))) _).trans (hHeld.2.2.2.1)))))), ((cell_far (p := ⟨gb122, _, none⟩) (cB (Kd.own_blk (Kd.V_away HO0_2.out (fun _ hk => hk.2.2.2.2)))) _).trans (((cell_far (p := ⟨gb122, _, none⟩) (cB (Kd.own_blk (Kd.V_away HO0_2.out (fun _ hk => hk.2.2.2.2)))) _).trans (((cell_far (p := ⟨gb122, _, none⟩) (cB (Kd.own_blk (Kd.V_away HO0_2.out (fun _ hk => hk.2.2.2.2)))) _).trans (hHeld.2.2.2.2.1)))))), ((cell_far (p := ⟨gb122, _, none⟩) (cB (Kd.own_blk (Kd.V_away HO0_2.out (fun _ hk => hk.2.2.2.2)))) _).trans (((cell_far (p := ⟨gb122, _, none⟩) (cB (Kd.own_blk (Kd.V_away HO0_2.out (fun _ hk => hk.2.2.2.2)))) _).trans (((cell_far (p := ⟨gb122, _, none⟩) (cB (Kd.own_blk (Kd.V_away HO0_2.out (fun _ hk => hk.2.2.2.2)))) _).trans (hHeld.2.2.2.2.2.1)))))), ((cell_far (p := ⟨gb122, _, none⟩) (cB (Kd.own_blk (Kd.V_away HO0_2.out (fun _ hk => hk.2.2.2.2)))) _).trans (((cell_far (p := ⟨gb122, _, none⟩) (cB (Kd.own_blk (Kd.V_away HO0_2.out (fun _ hk => hk.2.2.2.2)))) _).trans (((cell_far (p := ⟨gb122, _, none⟩) (cB (Kd.own_blk (Kd.V_away HO0_2.out (fun _ hk => hk.2.2.2.2)))) _).trans (hHeld.2.2.2.2.2.2.1)))))), ((cell_far (p := ⟨gb122, _, none⟩) (cB (Kd.own_blk (Kd.V_away HO0_2.out (fun _ hk => hk.2.2.2.2)))) _).trans (((cell_far (p := ⟨gb122, _, none⟩) (cB (Kd.own_blk (Kd.V_away HO0_2.out (fun _ hk => hk.2.2.2.2)))) _).trans (((cell_far (p := ⟨gb122, _, none⟩) (cB (Kd.own_blk (Kd.V_away HO0_2.out (fun _ hk => hk.2.2.2.2)))) _).trans (hHeld.2.2.2.2.2.2.2.1)))))), ((cell_far (p := ⟨gb122, _, none⟩) (cB (Kd.own_blk (Kd.V_away HO0_2.out (fun _ hk => hk.2.2.2.2)))) _).trans (((cell_far (p := ⟨gb122, _, none⟩) (cB (Kd.own_blk (Kd.V_away HO0_2.out (fun _ hk => hk.2.2.2.2)))) _).trans (((cell_far (p := ⟨gb122, _, none⟩) (cB (Kd.own_blk (Kd.V_away HO0_2.out (fun _ hk => hk.2.2.2.2)))) _).trans (hHeld.2.2.2.2.2.2.2.2))))))⟩ (fun hHeld => ?_)
     clear hK K
     refine done_ (done_of HT_.out (by kernel_rfl)) ?_
     go_upto_region 6 with (fail)
     go_cut [42] (fun v42 wc => ∃ (kq : Nat) (x42_17 : Bool), v42 = .bool x42_17 ∧ Aside0 (impl_comb_abstract.j0 kq a1 x42_17 ((rd_T58 l0_2 0).f0) ((rd_T58 l0_2 0).f1) ((rd_T58 l0_2 0).f2) ((rd_T58 l0_2 1).f0) ((rd_T58 l0_2 1).f1) ((rd_T58 l0_2 1).f2) = some (r1, r2, r3)) ∧ Aside0 (kq ≤ k) ∧ Aside0 (Kd.V k58 58 wc w.heap.size (fun k_ => (P0_2_ k_ ∨ w.heap.size ≤ k_) ∧ k_ ≠ gb101 ∧ k_ ≠ gb102 ∧ k_ ≠ gb121 ∧ k_ ≠ gb122) (.slice (some ad119) l0_2.length c0_2) l0_2) ∧ Aside0 (Kd.V k58 58 wc w.heap.size (fun k_ => (P0_2_ k_ ∨ w.heap.size ≤ k_) ∧ k_ ≠ gb101 ∧ k_ ≠ gb102 ∧ k_ ≠ gb121 ∧ k_ ≠ gb122) (.slice A119_2 ((rd_T58 l0_2 0).f2).length c119_2) ((rd_T58 l0_2 0).f2)) ∧ Aside0 (Kd.V k58 58 wc w.heap.size (fun k_ => (P0_2_ k_ ∨ w.heap.size ≤ k_) ∧ k_ ≠ gb101 ∧ k_ ≠ gb102 ∧ k_ ≠ gb121 ∧ k_ ≠ gb122) (.slice A120_2 ((rd_T58 l0_2 1).f2).length c120_2) ((rd_T58 l0_2 1).f2)) ∧ Aside0 (wc.heap[gb101]? = some (.cells #[.int .i64 a0_0, .int .i64 a0_1, (.slice (some ad119) l0_2.length c0_2)] 58 (0, 0))) ∧ Aside0 (wc.heap[gb102]? = some (.cells #[.int .i64 0, .int .i64 0, (.slice none 0 0)] 58 (0, 0))) ∧ Aside0 (wc.heap[gb121]? = some (.cells #[.int .i64 ((rd_T58 l0_2 0).f0), .int .i64 ((rd_T58 l0_2 0).f1), (.slice A119_2 ((rd_T58 l0_2 0).f2).length c119_2)] 58 (0, 0))) ∧ Aside0 (wc.heap[gb122]? = some (.cells #[.int .i64 ((rd_T58 l0_2 1).f0), .int .i64 ((rd_T58 l0_2 1).f1), (.slice A120_2 ((rd_T58 l0_2 1).f2).length c120_2)] 58 (0, 0))) ∧ Aside0 (Below w.heap.size w wc))
     case first =>
      have H := HC18.out
      clear HC18
      by_cases c35 : ((rd_T58 l0_2 1).f0) = 1
      ·rw [if_pos c35] at H
       have c35b0 : (((rd_T58 l0_2 1).f0) == 1) = true := beq_iff_eq.mpr c35
       have c35b1 : (((rd_T58 l0_2 1).f0) != 1) = false := bne_eq_false_iff_eq.mpr c35
       clear c35
       (first | rw [c35b0] | (simp only [i64_w, i32_w]; rw [c35b0]) | skip)
       by_cases c36 : ((rd_T58 l0_2 1).f1) = a1
       ·rw [if_pos c36] at H
        have c36b0 : (((rd_T58 l0_2 1).f1) == a1) = true := beq_iff_eq.mpr c36
        have c36b1 : (((rd_T58 l0_2 1).f1) != a1) = false := bne_eq_false_iff_eq.mpr c36
        clear c36
        replace H := Option.bind_eq_some_iff.mp H
        obtain ⟨t123, A370, H⟩ := H
        try dsimp only at H
        have A37 := aK A370
        clear A370
        have H' := aK H
        clear H
        have hnb38 := NB122_101.out
        have hnc38 := NB101_122.out
        have hnb39 := NB122_102.out
        have hnc39 := NB102_122.out
        have hnb40 := NB122_121.out
        have hnc40 := NB121_122.out
        have hcz41_0 := k30 BK122
        have hcz41_1 := k31 BK122
        have hcz41_2 := k32 BK122
        have hfz41_0 := fz BK122 0
        have hfz41_1 := fz BK122 1
        have hfz41_2 := fz BK122 2
        have hnb42 := NB121_101.out
        have hnc42 := NB101_121.out
        have hnb43 := NB121_102.out
        have hnc43 := NB102_121.out
        have hcz44_0 := k30 BK121
        have hcz44_1 := k31 BK121
        have hcz44_2 := k32 BK121
        have hfz44_0 := fz BK121 0
        have hfz44_1 := fz BK121 1
        have hfz44_2 := fz BK121 2
        go_wp2_with (first | (go_at_call 74; (with_reducible refine (impl_comb_has.calls k ((rd_T58 l0_2 0).f0) ((rd_T58 l0_2 0).f1) _ _ ((rd_T58 l0_2 0).f2) a1 t123 _ ?side1 ?side2 A37.out).mono ?_); (case side1 => repeat (first | exact ((Kd.V_reads' (by (with_reducible repeat (first | apply Kd.V_alloc | apply Kd.V_drewN | apply Kd.V_drew)); exact (Kd.V_mono (Kd.V_mono (vF3 gb122 (vF3 gb121 (Kd.V_mono (Kd.V_mono HL119_2.out (fun k_ hk => (⟨hk, hk.2.2.2.1⟩ : _ ∧ k_ ≠ gb121))) (fun k_ hk => (⟨hk, hk.1.2.2.2.2⟩ : _ ∧ k_ ≠ gb122))) (fun _ hk => hk.1.2)) (fun _ hk => hk.2)) (fun _ h_ => h_.1)) (fun _ h_ => h_.1)))).2.2) | (with_reducible refine Kd.C_alloc ?_ _) | (with_reducible refine Kd.C_drewN ?_ _) | (with_reducible refine Kd.C_drew ?_))); (case side2 => exact HC119_2.out); rintro e w45 ⟨rfl, hb⟩; have n0_ := aK (Kd.V_below (by (with_reducible repeat (first | apply Kd.V_alloc | apply Kd.V_drewN | apply Kd.V_drew)); exact (Kd.V_mono (Kd.V_mono (vF3 gb122 (vF3 gb121 (Kd.V_mono (Kd.V_mono HO0_2.out (fun k_ hk => (⟨hk, hk.2.2.2.1⟩ : _ ∧ k_ ≠ gb121))) (fun k_ hk => (⟨hk, hk.1.2.2.2.2⟩ : _ ∧ k_ ≠ gb122))) (fun _ hk => hk.1.2)) (fun _ hk => hk.2)) (fun _ h_ => h_.1)) (fun _ h_ => h_.1))) hb); have n1_ := aK (Kd.V_below (by (with_reducible repeat (first | apply Kd.V_alloc | apply Kd.V_drewN | apply Kd.V_drew)); exact (Kd.V_mono (Kd.V_mono (vF3 gb122 (vF3 gb121 (Kd.V_mono (Kd.V_mono HL119_2.out (fun k_ hk => (⟨hk, hk.2.2.2.1⟩ : _ ∧ k_ ≠ gb121))) (fun k_ hk => (⟨hk, hk.1.2.2.2.2⟩ : _ ∧ k_ ≠ gb122))) (fun _ hk => hk.1.2)) (fun _ hk => hk.2)) (fun _ h_ => h_.1)) (fun _ h_ => h_.1))) hb); have n2_ := aK (Kd.V_below (by (with_reducible repeat (first | apply Kd.V_alloc | apply Kd.V_drewN | apply Kd.V_drew)); exact (Kd.V_mono (Kd.V_mono (vF3 gb122 (vF3 gb121 (Kd.V_mono (Kd.V_mono HL120_2.out (fun k_ hk => (⟨hk, hk.2.2.2.1⟩ : _ ∧ k_ ≠ gb121))) (fun k_ hk => (⟨hk, hk.1.2.2.2.2⟩ : _ ∧ k_ ≠ gb122))) (fun _ hk => hk.1.2)) (fun _ hk => hk.2)) (fun _ h_ => h_.1)) (fun _ h_ => h_.1))) hb); have n3_ := aK (blk_below (g := gb101) (o := .cells #[.int .i64 a0_0, .int .i64 a0_1, .slice (some ad119) l0_2.length c0_2] 58 (0, 0)) (by (repeat first | with_reducible apply zN | with_reducible apply zD | with_reducible apply zA | refine blk_far ?_ NB101_122.out _ | refine blk_far ?_ NB101_121.out _); exact BK101.out) hb); have n4_ := aK (blk_below (g := gb102) (o := .cells #[.int .i64 0, .int .i64 0, .slice none 0 0] 58 (0, 0)) (by (repeat first | with_reducible apply zN | with_reducible apply zD | with_reducible apply zA | refine blk_far ?_ NB102_122.out _ | refine blk_far ?_ NB102_121.out _); exact BK102.out) hb); have n5_ := aK (blk_below (g := gb121) (o := .cells #[.int .i64 ((rd_T58 l0_2 0).f0), .int .i64 ((rd_T58 l0_2 0).f1), .slice A119_2 ((rd_T58 l0_2 0).f2).length c119_2] 58 (0, 0)) (by (repeat first | with_reducible apply zN | with_reducible apply zD | with_reducible apply zA | refine blk_far ?_ NB121_122.out _); refine blk_put (cs := #[.int .i64 ((rd_T58 l0_2 0).f0), .int .i64 ((rd_T58 l0_2 0).f1), .slice none 0 0]) ?_ 2 _ rfl; (with_reducible repeat first | apply zN | apply zD | apply zA); refine blk_put (cs := #[.int .i64 ((rd_T58 l0_2 0).f0), .int .i64 0, .slice none 0 0]) ?_ 1 _ rfl; (with_reducible repeat first | apply zN | apply zD | apply zA); refine blk_put (cs := #[.int .i64 0, .int .i64 0, .slice none 0 0]) ?_ 0 _ rfl; (with_reducible repeat first | apply zN | apply zD | apply zA); exact BK121.out) hb); have n6_ := aK (blk_below (g := gb122) (o := .cells #[.int .i64 ((rd_T58 l0_2 1).f0), .int .i64 ((rd_T58 l0_2 1).f1), .slice A120_2 ((rd_T58 l0_2 1).f2).length c120_2] 58 (0, 0)) (by (with_reducible repeat first | apply zN | apply zD | apply zA); refine blk_put (cs := #[.int .i64 ((rd_T58 l0_2 1).f0), .int .i64 ((rd_T58 l0_2 1).f1), .slice none 0 0]) ?_ 2 _ rfl; (with_reducible repeat first | apply zN | apply zD | apply zA); refine blk_put (cs := #[.int .i64 ((rd_T58 l0_2 1).f0), .int .i64 0, .slice none 0 0]) ?_ 1 _ rfl; (with_reducible repeat first | apply zN | apply zD | apply zA); refine blk_put (cs := #[.int .i64 0, .int .i64 0, .slice none 0 0]) ?_ 0 _ rfl; (repeat first | with_reducible apply zN | with_reducible apply zD | with_reducible apply zA | refine blk_far ?_ NB122_121.out _); exact BK122.out) hb); have n7_ := aK (below_step (pH HB) hb); clear HO0_2; clear HL119_2; clear HL120_2; clear BK101; clear BK102; clear BK121; clear BK122; clear HB; have HO0_2 := n0_; have HL119_2 := n1_; have HL120_2 := n2_; have BK101 := n3_; have BK102 := n4_; have BK121 := n5_; have BK122 := n6_; have HB := n7_; clear n0_ n1_ n2_ n3_ n4_ n5_ n6_ n7_; (try clear hb)))
        go_meet
        case rel => exact ⟨_, (!t123), rS, H', ⟨by first | omega | exact Nat.le_refl _⟩, ⟨by (with_reducible repeat (first | apply Kd.V_alloc | apply Kd.V_drewN | apply Kd.V_drew)); exact HO0_2.out⟩, ⟨by (with_reducible repeat (first | apply Kd.V_alloc | apply Kd.V_drewN | apply Kd.V_drew)); exact HL119_2.out⟩, ⟨by (with_reducible repeat (first | apply Kd.V_alloc | apply Kd.V_drewN | apply Kd.V_drew)); exact HL120_2.out⟩, ⟨pB BK101⟩, ⟨pB BK102⟩, ⟨pB BK121⟩, ⟨pB BK122⟩, ⟨pH HB⟩⟩
       ·rw [if_neg c36] at H
        have c36b0 : (((rd_T58 l0_2 1).f1) == a1) = false := beq_eq_false_iff_ne.mpr c36
        have c36b1 : (((rd_T58 l0_2 1).f1) != a1) = true := bne_iff_ne.mpr c36
        have H' := aK H
        clear H
        have hnb46 := NB122_101.out
        have hnc46 := NB101_122.out
        have hnb47 := NB122_102.out
        have hnc47 := NB102_122.out
        have hnb48 := NB122_121.out
        have hnc48 := NB121_122.out
        have hcz49_0 := k30 BK122
        have hcz49_1 := k31 BK122
        have hcz49_2 := k32 BK122
        have hfz49_0 := fz BK122 0
        have hfz49_1 := fz BK122 1
        have hfz49_2 := fz BK122 2
        go_wp2
        go_meet
        case rel => exact ⟨_, (false), rS, H', ⟨by first | omega | exact Nat.le_refl _⟩, ⟨by (with_reducible repeat (first | apply Kd.V_alloc | apply Kd.V_drewN | apply Kd.V_drew)); exact Kd.V_mono (vF3 gb122 (vF3 gb121 (Kd.V_mono (Kd.V_mono HO0_2.out (fun k_ hk => (⟨hk, hk.2.2.2.1⟩ : _ ∧ k_ ≠ gb121))) (fun k_ hk => (⟨hk, hk.1.2.2.2.2⟩ : _ ∧ k_ ≠ gb122))) (fun _ hk => hk.1.2)) (fun _ hk => hk.2)) (fun _ hk => ⟨hk.1.1.1, ⟨hk.1.1.2.1, ⟨hk.1.1.2.2.1, ⟨hk.1.1.2.2.2.1, hk.1.1.2.2.2.2⟩⟩⟩⟩)⟩, ⟨by (with_reducible repeat (first | apply Kd.V_alloc | apply Kd.V_drewN | apply Kd.V_drew)); exact Kd.V_mono (vF3 gb122 (vF3 gb121 (Kd.V_mono (Kd.V_mono HL119_2.out (fun k_ hk => (⟨hk, hk.2.2.2.1⟩ : _ ∧ k_ ≠ gb121))) (fun k_ hk => (⟨hk, hk.1.2.2.2.2⟩ : _ ∧ k_ ≠ gb122))) (fun _ hk => hk.1.2)) (fun _ hk => hk.2)) (fun _ hk => ⟨hk.1.1.1, ⟨hk.1.1.2.1, ⟨hk.1.1.2.2.1, ⟨hk.1.1.2.2.2.1, hk.1.1.2.2.2.2⟩⟩⟩⟩)⟩, ⟨by (with_reducible repeat (first | apply Kd.V_alloc | apply Kd.V_drewN | apply Kd.V_drew)); exact Kd.V_mono (vF3 gb122 (vF3 gb121 (Kd.V_mono (Kd.V_mono HL120_2.out (fun k_ hk => (⟨hk, hk.2.2.2.1⟩ : _ ∧ k_ ≠ gb121))) (fun k_ hk => (⟨hk, hk.1.2.2.2.2⟩ : _ ∧ k_ ≠ gb122))) (fun _ hk => hk.1.2)) (fun _ hk => hk.2)) (fun _ hk => ⟨hk.1.1.1, ⟨hk.1.1.2.1, ⟨hk.1.1.2.2.1, ⟨hk.1.1.2.2.2.1, hk.1.1.2.2.2.2⟩⟩⟩⟩)⟩, ⟨by (repeat first | with_reducible apply zN | with_reducible apply zD | with_reducible apply zA | refine blk_far ?_ NB101_122.out _ | refine blk_far ?_ NB101_121.out _); exact BK101.out⟩, ⟨by (repeat first | with_reducible apply zN | with_reducible apply zD | with_reducible apply zA | refine blk_far ?_ NB102_122.out _ | refine blk_far ?_ NB102_121.out _); exact BK102.out⟩, ⟨by (repeat first | with_reducible apply zN | with_reducible apply zD | with_reducible apply zA | refine blk_far ?_ NB121_122.out _); refine blk_put (cs := #[.int .i64 ((rd_T58 l0_2 0).f0), .int .i64 ((rd_T58 l0_2 0).f1), .slice none 0 0]) ?_ 2 _ rfl; (with_reducible repeat first | apply zN | apply zD | apply zA); refine blk_put (cs := #[.int .i64 ((rd_T58 l0_2 0).f0), .int .i64 0, .slice none 0 0]) ?_ 1 _ rfl; (with_reducible repeat first | apply zN | apply zD | apply zA); refine blk_put (cs := #[.int .i64 0, .int .i64 0, .slice none 0 0]) ?_ 0 _ rfl; (with_reducible repeat first | apply zN | apply zD | apply zA); exact BK121.out⟩, ⟨by (with_reducible repeat first | apply zN | apply zD | apply zA); refine blk_put (cs := #[.int .i64 ((rd_T58 l0_2 1).f0), .int .i64 ((rd_T58 l0_2 1).f1), .slice none 0 0]) ?_ 2 _ rfl; (with_reducible repeat first | apply zN | apply zD | apply zA); refine blk_put (cs := #[.int .i64 ((rd_T58 l0_2 1).f0), .int .i64 0, .slice none 0 0]) ?_ 1 _ rfl; (with_reducible repeat first | apply zN | apply zD | apply zA); refine blk_put (cs := #[.int .i64 0, .int .i64 0, .slice none 0 0]) ?_ 0 _ rfl; (repeat first | with_reducible apply zN | with_reducible apply zD | with_reducible apply zA | refine blk_far ?_ NB122_121.out _); exact BK122.out⟩, ⟨pH HB⟩⟩
      ·rw [if_neg c35] at H
       have c35b0 : (((rd_T58 l0_2 1).f0) == 1) = false := beq_eq_false_iff_ne.mpr c35
       have c35b1 : (((rd_T58 l0_2 1).f0) != 1) = true := bne_iff_ne.mpr c35
       (first | rw [c35b0] | (simp only [i64_w, i32_w]; rw [c35b0]) | skip)
       have H' := aK H
       clear H
       have hnb50 := NB122_101.out
       have hnc50 := NB101_122.out
       have hnb51 := NB122_102.out
       have hnc51 := NB102_122.out
       have hnb52 := NB122_121.out
       have hnc52 := NB121_122.out
       have hcz53_0 := k30 BK122
       have hcz53_1 := k31 BK122
       have hcz53_2 := k32 BK122
       have hfz53_0 := fz BK122 0
       have hfz53_1 := fz BK122 1
       have hfz53_2 := fz BK122 2
       go_wp2
       go_meet
       case rel => exact ⟨_, (false), rS, H', ⟨by first | omega | exact Nat.le_refl _⟩, ⟨by (with_reducible repeat (first | apply Kd.V_alloc | apply Kd.V_drewN | apply Kd.V_drew)); exact Kd.V_mono (vF3 gb122 (vF3 gb121 (Kd.V_mono (Kd.V_mono HO0_2.out (fun k_ hk => (⟨hk, hk.2.2.2.1⟩ : _ ∧ k_ ≠ gb121))) (fun k_ hk => (⟨hk, hk.1.2.2.2.2⟩ : _ ∧ k_ ≠ gb122))) (fun _ hk => hk.1.2)) (fun _ hk => hk.2)) (fun _ hk => ⟨hk.1.1.1, ⟨hk.1.1.2.1, ⟨hk.1.1.2.2.1, ⟨hk.1.1.2.2.2.1, hk.1.1.2.2.2.2⟩⟩⟩⟩)⟩, ⟨by (with_reducible repeat (first | apply Kd.V_alloc | apply Kd.V_drewN | apply Kd.V_drew)); exact Kd.V_mono (vF3 gb122 (vF3 gb121 (Kd.V_mono (Kd.V_mono HL119_2.out (fun k_ hk => (⟨hk, hk.2.2.2.1⟩ : _ ∧ k_ ≠ gb121))) (fun k_ hk => (⟨hk, hk.1.2.2.2.2⟩ : _ ∧ k_ ≠ gb122))) (fun _ hk => hk.1.2)) (fun _ hk => hk.2)) (fun _ hk => ⟨hk.1.1.1, ⟨hk.1.1.2.1, ⟨hk.1.1.2.2.1, ⟨hk.1.1.2.2.2.1, hk.1.1.2.2.2.2⟩⟩⟩⟩)⟩, ⟨by (with_reducible repeat (first | apply Kd.V_alloc | apply Kd.V_drewN | apply Kd.V_drew)); exact Kd.V_mono (vF3 gb122 (vF3 gb121 (Kd.V_mono (Kd.V_mono HL120_2.out (fun k_ hk => (⟨hk, hk.2.2.2.1⟩ : _ ∧ k_ ≠ gb121))) (fun k_ hk => (⟨hk, hk.1.2.2.2.2⟩ : _ ∧ k_ ≠ gb122))) (fun _ hk => hk.1.2)) (fun _ hk => hk.2)) (fun _ hk => ⟨hk.1.1.1, ⟨hk.1.1.2.1, ⟨hk.1.1.2.2.1, ⟨hk.1.1.2.2.2.1, hk.1.1.2.2.2.2⟩⟩⟩⟩)⟩, ⟨by (repeat first | with_reducible apply zN | with_reducible apply zD | with_reducible apply zA | refine blk_far ?_ NB101_122.out _ | refine blk_far ?_ NB101_121.out _); exact BK101.out⟩, ⟨by (repeat first | with_reducible apply zN | with_reducible apply zD | with_reducible apply zA | refine blk_far ?_ NB102_122.out _ | refine blk_far ?_ NB102_121.out _); exact BK102.out⟩, ⟨by (repeat first | with_reducible apply zN | with_reducible apply zD | with_reducible apply zA | refine blk_far ?_ NB121_122.out _); refine blk_put (cs := #[.int .i64 ((rd_T58 l0_2 0).f0), .int .i64 ((rd_T58 l0_2 0).f1), .slice none 0 0]) ?_ 2 _ rfl; (with_reducible repeat first | apply zN | apply zD | apply zA); refine blk_put (cs := #[.int .i64 ((rd_T58 l0_2 0).f0), .int .i64 0, .slice none 0 0]) ?_ 1 _ rfl; (with_reducible repeat first | apply zN | apply zD | apply zA); refine blk_put (cs := #[.int .i64 0, .int .i64 0, .slice none 0 0]) ?_ 0 _ rfl; (with_reducible repeat first | apply zN | apply zD | apply zA); exact BK121.out⟩, ⟨by (with_reducible repeat first | apply zN | apply zD | apply zA); refine blk_put (cs := #[.int .i64 ((rd_T58 l0_2 1).f0), .int .i64 ((rd_T58 l0_2 1).f1), .slice none 0 0]) ?_ 2 _ rfl; (with_reducible repeat first | apply zN | apply zD | apply zA); refine blk_put (cs := #[.int .i64 ((rd_T58 l0_2 1).f0), .int .i64 0, .slice none 0 0]) ?_ 1 _ rfl; (with_reducible repeat first | apply zN | apply zD | apply zA); refine blk_put (cs := #[.int .i64 0, .int .i64 0, .slice none 0 0]) ?_ 0 _ rfl; (repeat first | with_reducible apply zN | with_reducible apply zD | with_reducible apply zA | refine blk_far ?_ NB122_121.out _); exact BK122.out⟩, ⟨pH HB⟩⟩
     case rest =>
      clear HC18
      try clear c1
      try clear p1
      try clear q1
      try clear hx1
      try clear qi1
      try clear c2
      try clear p2
      try clear c3
      try clear c4
      try clear c5
      try clear c7
      try clear c11
      try clear p11
      try clear q11
      try clear hx11
      try clear qi11
      try clear c12
      try clear p12
      try clear q12
      try clear hx12
      try clear qi12
      try clear c17
      try clear c17b0
      try clear c17b1
      try clear c21
      try clear c35
      try clear c35b0
      try clear c35b1
      try clear c36
      try clear c36b0
      try clear c36b1
      try clear c38
      try clear c39
      try clear c40
      try clear c42
      try clear c43
      try clear c46
      try clear c47
      try clear c48
      try clear c50
      try clear c51
      try clear c52
      try clear c53
      try clear hcz22_0
      try clear hcz22_1
      try clear hcz22_2
      try clear hcz24_0
      try clear hcz24_1
      try clear hcz24_2
      try clear hcz41_0
      try clear hcz41_1
      try clear hcz41_2
      try clear hcz44_0
      try clear hcz44_1
      try clear hcz44_2
      try clear hcz49_0
      try clear hcz49_1
      try clear hcz49_2
      try clear hcz53_0
      try clear hcz53_1
      try clear hcz53_2
      try clear hfz22_0
      try clear hfz22_1
      try clear hfz22_2
      try clear hfz24_0
      try clear hfz24_1
      try clear hfz24_2
      try clear hfz41_0
      try clear hfz41_1
      try clear hfz41_2
      try clear hfz44_0
      try clear hfz44_1
      try clear hfz44_2
      try clear hfz49_0
      try clear hfz49_1
      try clear hfz49_2
      try clear hfz53_0
      try clear hfz53_1
      try clear hfz53_2
      try clear hx119_0
      try clear hx119_1
      try clear hx119_2
      try clear hx120_0
      try clear hx120_1
      try clear hx120_2
      try clear p119
      try clear p120
      try clear q119
      try clear q120
      obtain ⟨kq, x42_17, rfl, HA, HJ17, HO_102002, HO_122002, HO_123002, BK101, BK102, BK121, BK122, HB⟩ := hcut
      cases kq with
      | zero => exact absurd HA.out (by simp [impl_comb_abstract.j0])
      | succ kj17 =>
       have H := HA.out
       clear HA
       simp only [impl_comb_abstract.j0] at H
       by_cases c54 : x42_17 = true
       ·subst c54
        rw [if_pos rfl] at H
        simp only [Option.some.injEq, Prod.mk.injEq] at H
        obtain ⟨rfl, rfl, rfl⟩ := H
        have hnb55 := NB121_101.out
        have hnc55 := NB101_121.out
        have hnb56 := NB121_102.out
        have hnc56 := NB102_121.out
        have hnb57 := NB121_122.out
        have hnc57 := NB122_121.out
        have hcz58_0 := k30 BK121
        have hcz58_1 := k31 BK121
        have hcz58_2 := k32 BK121
        have hfz58_0 := fz BK121 0
        have hfz58_1 := fz BK121 1
        have hfz58_2 := fz BK121 2
        have hnb59 := NB102_101.out
        have hnc59 := NB101_102.out
        have hnb60 := NB102_122.out
        have hnc60 := NB122_102.out
        have hcz61_0 := k30 BK102
        have hcz61_1 := k31 BK102
        have hcz61_2 := k32 BK102
        have hfz61_0 := fz BK102 0
        have hfz61_1 := fz BK102 1
        have hfz61_2 := fz BK102 2
        go_wp2
        refine bodyPost_ret (results_cell_row rfl _ _ gb102 58 #[.int .i64 ((rd_T58 l0_2 0).f0), .int .i64 ((rd_T58 l0_2 0).f1), .slice A119_2 ((rd_T58 l0_2 0).f2).length c119_2] (0, 0) _ rfl (p3 BK102) Try.underlying58 rfl (by kernel_rfl)) rfl ?_
        exact ⟨_, eW, by (with_reducible repeat (first | apply Kd.V_alloc | apply Kd.V_drewN | apply Kd.V_drew)); exact Kd.V_mono (vF3 gb102 (Kd.V_mono HO_122002.out (fun k_ hk => (⟨hk, hk.2.2.1⟩ : _ ∧ k_ ≠ gb102))) (fun _ hk => hk.2)) (fun _ hk => hk.1.1), pH HB⟩
       ·replace c54 := Bool.eq_false_iff.mpr c54
        subst c54
        rw [if_neg (show ¬ (false = true) by decide)] at H
        replace H := Option.bind_eq_some_iff.mp H
        obtain ⟨⟨t124, t125, t126⟩, A620, H⟩ := H
        try dsimp only at H
        have A62 := aK A620
        clear A620
        replace H := Option.bind_eq_some_iff.mp H
        obtain ⟨⟨t129, t130, t131⟩, A630, H⟩ := H
        try dsimp only at H
        have A63 := aK A630
        clear A630
        replace H := Option.bind_eq_some_iff.mp H
        obtain ⟨⟨t134, t135, t136⟩, A640, H⟩ := H
        try dsimp only at H
        have A64 := aK A640
        clear A640
        replace H := Option.bind_eq_some_iff.mp H
        obtain ⟨⟨t139, t140, t141⟩, A650, H⟩ := H
        try dsimp only at H
        have A65 := aK A650
        clear A650
        replace H := Option.bind_eq_some_iff.mp H
        obtain ⟨⟨t144, t145, t146⟩, A660, H⟩ := H
        try dsimp only at H
        have A66 := aK A660
        clear A660
        simp only [Option.some.injEq, Prod.mk.injEq] at H
        obtain ⟨rfl, rfl, rfl⟩ := H
        try go_wp2
        have n0_ := aK (Kd.V_drew HO_102002.out)
        have n1_ := aK (Kd.V_drew HO_122002.out)
        have n2_ := aK (Kd.V_drew HO_123002.out)
        have n3_ := aK (blk_drew BK101.out)
        have n4_ := aK (blk_drew BK102.out)
        have n5_ := aK (blk_drew BK121.out)
        have n6_ := aK (blk_drew BK122.out)
        have n7_ := aK (below_drew1 HB.out)
        clear HO_102002
        clear HO_122002
        clear HO_123002
        clear BK101
        clear BK102
        clear BK121
        clear BK122
        clear HB
        have HO_102002 := n0_
        have HO_122002 := n1_
        have HO_123002 := n2_
        have BK101 := n3_
        have BK102 := n4_
        have BK121 := n5_
        have BK122 := n6_
        have HB := n7_
        clear n0_ n1_ n2_ n3_ n4_ n5_ n6_ n7_
        refine start_ (n := 10) (S := fun w' => w'.cell? ⟨gb121, 0, none⟩ = some (.int .i64 ((rd_T58 l0_2 0).f0)) ∧ w'.cell? ⟨gb121, 1, none⟩ = some (.int .i64 ((rd_T58 l0_2 0).f1)) ∧ w'.cell? ⟨gb121, 2, none⟩ = some (.slice A119_2 ((rd_T58 l0_2 0).f2).length c119_2) ∧ w'.cell? ⟨gb122, 0, none⟩ = some (.int .i64 ((rd_T58 l0_2 1).f0)) ∧ w'.cell? ⟨gb122, 1, none⟩ = some (.int .i64 ((rd_T58 l0_2 1).f1)) ∧ w'.cell? ⟨gb122, 2, none⟩ = some (.slice A120_2 ((rd_T58 l0_2 1).f2).length c120_2)) (ds := []) (bs 0 10) (by kernel_rfl) rfl rfl ⟨(blk_cell BK121.out 0).trans rfl, (blk_cell BK121.out 1).trans rfl, (blk_cell BK121.out 2).trans rfl, (blk_cell BK122.out 0).trans rfl, (blk_cell BK122.out 1).trans rfl, (blk_cell BK122.out 2).trans rfl⟩ (fun hHeld => ?_); refine with_tabW impl_comb_abstract.tab8 impl_comb_abstract.bits8 (fun HT_ HW_ => ?_)
        generalize wc.drew = w67 at HO_102002 HO_122002 HO_123002 BK101 BK102 BK121 BK122 HB hHeld ⊢
        refine pure_ (i := 2) (N := some 46) (v := ?_) (a' := ?_) #[false, false, true, false, false, false, false, false, false, false] rfl rfl (any_of HT_.out (by kernel_rfl)) (fun _ _ _ h => h) (Or.inl ⟨by rfl, ?_⟩) ?_ ?_
        rotate_left
        ·intro w'
         go_simp
         with_reducible rfl
        rotate_left
        ·simp only [sP, i64_w, i32_w]
         rfl
        refine pure_ (i := 6) (N := some 50) (v := ?_) (a' := ?_) #[false, false, true, false, false, false, true, false, false, false] rfl rfl (any_of HT_.out (by kernel_rfl)) (fun _ _ _ h => h) (Or.inl ⟨by rfl, ?_⟩) ?_ ?_
        rotate_left
        ·intro w'
         go_simp
         with_reducible rfl
        rotate_left
        ·simp only [sP, i64_w, i32_w]
         rfl
        refine take_ (i := 1) (N := some 45) (v := ?_) (a' := ?_) #[false, true, true, false, false, false, true, false, false, false] rfl rfl (take_ofW HT_.out HW_.out (by kernel_rfl)) (fun _ _ _ h => h) (Or.inl ⟨by rfl, ?_⟩) hHeld ?_ ?_
        rotate_left
        ·rintro w' ⟨s0, s1, s2, s3, s4, s5⟩
         go_simp
         with_reducible rfl
        rotate_left
        ·simp only [sP, i64_w, i32_w]
         rfl
        refine take_ (i := 5) (N := some 49) (v := ?_) (a' := ?_) #[false, true, true, false, false, true, true, false, false, false] rfl rfl (take_ofW HT_.out HW_.out (by kernel_rfl)) (fun _ _ _ h => h) (Or.inl ⟨by rfl, ?_⟩) hHeld ?_ ?_
        rotate_left
        ·rintro w' ⟨s0, s1, s2, s3, s4, s5⟩
         go_simp
         with_reducible rfl
        rotate_left
        ·simp only [sP, i64_w, i32_w]
         rfl
        refine one_ (i := 0) (N := some 44) #[true, true, true, false, false, true, true, false, false, false] rfl rfl (one_of HT_.out (by kernel_rfl)) (by decide) (fun K hK => ?_)
        refine goes_ Try.func76 (by kernel_rfl) rfl #[.int .i64 3] (by rfl) rfl rfl tA ?_
        with_reducible refine (impl_combOf.calls 3 t124 t125 t126 _ A62.out).mono ?_
        rintro e w68 ⟨v127, rfl, ho0, hb⟩
        refine ⟨_, rfl, ?_⟩
        have n0_ := aK (Kd.V_elder' HO_102002.out (by first | exact Kd.N_base ho0 | exact Kd.R_base ho0) hb)
        have n1_ := aK (Kd.V_elder' HO_122002.out (by first | exact Kd.N_base ho0 | exact Kd.R_base ho0) hb)
        have n2_ := aK (Kd.V_elder' HO_123002.out (by first | exact Kd.N_base ho0 | exact Kd.R_base ho0) hb)
        have n3_ := aK (Kd.N_lower (Kd.N_mono (ok' := fun k_ => (P0_2_ k_ ∨ w.heap.size ≤ k_) ∧ k_ ≠ gb101 ∧ k_ ≠ gb102 ∧ k_ ≠ gb121 ∧ k_ ≠ gb122) (Kd.R_N (Kd.R_bound ho0)) (fun k_ hk_ => ⟨(.inr (Nat.le_trans (below_size (pH HB)) hk_.2.1)), (Kd.freshB BK101.out k_ hk_.2.1), (Kd.freshB BK102.out k_ hk_.2.1), (Kd.freshB BK121.out k_ hk_.2.1), (Kd.freshB BK122.out k_ hk_.2.1)⟩)) (below_size (pH HB)))
        have n4_ := aK (blk_below BK101.out hb)
        have n5_ := aK (blk_below BK102.out hb)
        have n6_ := aK (blk_below BK121.out hb)
        have n7_ := aK (blk_below BK122.out hb)
        have n8_ := aK (below_step (pH HB) hb)
        clear HO_102002
        clear HO_122002
        clear HO_123002
        clear BK101
        clear BK102
        clear BK121
        clear BK122
        clear HB
        have HO_102002 := n0_
        have HO_122002 := n1_
        have HO_123002 := n2_
        have HO128 := n3_
        have BK101 := n4_
        have BK102 := n5_
        have BK121 := n6_
        have BK122 := n7_
        have HB := n8_
        clear n0_ n1_ n2_ n3_ n4_ n5_ n6_ n7_ n8_
        (try clear hb)
        (try clear hb2)
        (try clear hk)
        (try clear hi)
        (try clear ho0)
        refine hK.out _ _ ⟨(blk_cell BK121.out 0).trans rfl, (blk_cell BK121.out 1).trans rfl, (blk_cell BK121.out 2).trans rfl, (blk_cell BK122.out 0).trans rfl, (blk_cell BK122.out 1).trans rfl, (blk_cell BK122.out 2).trans rfl⟩ (fun hHeld => ?_)
        clear hK K
        refine norm_ (a' := ?_) ?_ ?_
        rotate_left
        ·show Act.put _ (some 44) _ = _
         simp only [sP, i64_w, i32_w]
         rfl
        refine one_ (i := 3) (N := some 47) #[true, true, true, true, false, true, true, false, false, false] rfl rfl (one_of HT_.out (by kernel_rfl)) (by decide) (fun K hK => ?_)
        refine goes_ Try.func53 (by kernel_rfl) rfl #[.agg #[.int .i64 ((rd_T58 l0_2 0).f0), .int .i64 ((rd_T58 l0_2 0).f1), .slice A119_2 ((rd_T58 l0_2 0).f2).length c119_2], .int .i64 a1] (by rfl) rfl rfl tA ?_
        with_reducible refine (ih kj17 (by have := HJ17.out; omega) ((rd_T58 l0_2 0).f0) ((rd_T58 l0_2 0).f1) (fun k_ => (((P0_2_ k_ ∨ w.heap.size ≤ k_) ∧ (k_ ≠ gb101 ∧ (k_ ≠ gb102 ∧ (k_ ≠ gb121 ∧ k_ ≠ gb122)))) ∧ some k_ ≠ (v127 : Value).ownBlock)) _ _ ((rd_T58 l0_2 0).f2) a1 t129 t130 t131 _ ?side1 A63.out).mono ?_
        (case side1 => exact HO_122002.out)
        rintro e w69 ⟨v132, rfl, ho0, hb⟩
        refine ⟨_, rfl, ?_⟩
        have n0_ := aK (Kd.V_below HO_102002.out hb)
        have n1_ := aK (Kd.V_below HO_122002.out hb)
        have n2_ := aK (Kd.V_below HO_123002.out hb)
        have n3_ := aK (Kd.N_below HO128.out hb)
        have n4_ := aK (Kd.V_lower (Kd.V_mono (ok' := fun k_ => (P0_2_ k_ ∨ w.heap.size ≤ k_) ∧ some k_ ≠ (v127 : Value).ownBlock ∧ k_ ≠ gb101 ∧ k_ ≠ gb102 ∧ k_ ≠ gb121 ∧ k_ ≠ gb122) ho0 (fun k_ hk_ => ⟨Or.elim hk_ (fun hs_ => hs_.1.1) (fun hn_ => (.inr (Nat.le_trans (below_size (pH HB)) hn_))), Or.elim hk_ (fun hs_ => hs_.2) (fun hn_ => (Kd.fresh' (Kd.N_lt HO128.out) k_ hn_)), Or.elim hk_ (fun hs_ => hs_.1.2.1) (fun hn_ => (Kd.freshB BK101.out k_ hn_)), Or.elim hk_ (fun hs_ => hs_.1.2.2.1) (fun hn_ => (Kd.freshB BK102.out k_ hn_)), Or.elim hk_ (fun hs_ => hs_.1.2.2.2.1) (fun hn_ => (Kd.freshB BK121.out k_ hn_)), Or.elim hk_ (fun hs_ => hs_.1.2.2.2.2) (fun hn_ => (Kd.freshB BK122.out k_ hn_))⟩)) (below_size (pH HB)))
        have n5_ := aK (blk_below BK101.out hb)
        have n6_ := aK (blk_below BK102.out hb)
        have n7_ := aK (blk_below BK121.out hb)
        have n8_ := aK (blk_below BK122.out hb)
        have n9_ := aK (below_step (pH HB) hb)
        clear HO_102002
        clear HO_122002
        clear HO_123002
        clear HO128
        clear BK101
        clear BK102
        clear BK121
        clear BK122
        clear HB
        have HO_102002 := n0_
        have HO_122002 := n1_
        have HO_123002 := n2_
        have HO128 := n3_
        have HO133 := n4_
        have BK101 := n5_
        have BK102 := n6_
        have BK121 := n7_
        have BK122 := n8_
        have HB := n9_
        clear n0_ n1_ n2_ n3_ n4_ n5_ n6_ n7_ n8_ n9_
        (try clear hb)
        (try clear hb2)
        (try clear hk)
        (try clear hi)
        (try clear ho0)
        obtain ⟨Ao70, co70, eo70⟩ := Kd.N_slice HO128.out
        (first | subst eo70 | (injection eo70 with f1_ f2_ f3_; have f4_ := f1_.symm; have f5_ := f3_.symm; clear f1_ f2_ f3_; subst f4_; subst f5_))
        obtain ⟨Ao71, co71, eo71⟩ := Kd.V_slice HO133.out
        (first | subst eo71 | (injection eo71 with f1_ f2_ f3_; have f4_ := f1_.symm; have f5_ := f3_.symm; clear f1_ f2_ f3_; subst f4_; subst f5_))
        refine hK.out _ _ ⟨(blk_cell BK121.out 0).trans rfl, (blk_cell BK121.out 1).trans rfl, (blk_cell BK121.out 2).trans rfl, (blk_cell BK122.out 0).trans rfl, (blk_cell BK122.out 1).trans rfl, (blk_cell BK122.out 2).trans rfl⟩ (fun hHeld => ?_)
        clear hK K
        refine norm_ (a' := ?_) ?_ ?_
        rotate_left
        ·show Act.put _ (some 47) _ = _
         simp only [sP, i64_w, i32_w]
         rfl
        refine one_ (i := 4) (N := some 48) (bs 7 3) rfl rfl (one_of HT_.out (by kernel_rfl)) (by decide) (fun K hK => ?_)
        refine goes_ Try.func75 (by kernel_rfl) rfl #[.agg #[.int .i64 t124, .int .i64 t125, .slice Ao70 t126.length co70], .agg #[.int .i64 t129, .int .i64 t130, .slice Ao71 t131.length co71]] (by rfl) rfl rfl tA ?_
        with_reducible refine (impl_combApp.calls t124 t125 (fun k_ => ((P0_2_ k_ ∨ w.heap.size ≤ k_) ∧ (k_ ≠ gb101 ∧ (k_ ≠ gb102 ∧ (k_ ≠ gb121 ∧ k_ ≠ gb122))))) _ _ t126 t129 t130 (fun k_ => ((P0_2_ k_ ∨ w.heap.size ≤ k_) ∧ (some k_ ≠ (.slice Ao70 t126.length co70 : Value).ownBlock ∧ (k_ ≠ gb101 ∧ (k_ ≠ gb102 ∧ (k_ ≠ gb121 ∧ k_ ≠ gb122)))))) _ _ t131 t134 t135 t136 _ ?side1 ?side2 A64.out).mono ?_
        (case side1 => exact Kd.N_V (HO128.out))
        (case side2 => exact HO133.out)
        rintro e w72 ⟨v137, rfl, ho0, hb⟩
        refine ⟨_, rfl, ?_⟩
        have n0_ := aK (Kd.V_elder' HO_102002.out (by first | exact Kd.N_base ho0 | exact Kd.R_base ho0) hb)
        have n1_ := aK (Kd.V_elder' HO_122002.out (by first | exact Kd.N_base ho0 | exact Kd.R_base ho0) hb)
        have n2_ := aK (Kd.V_elder' HO_123002.out (by first | exact Kd.N_base ho0 | exact Kd.R_base ho0) hb)
        have n3_ := aK (Kd.N_elder' HO128.out (by first | exact Kd.N_base ho0 | exact Kd.R_base ho0) hb)
        have n4_ := aK (Kd.V_elder' HO133.out (by first | exact Kd.N_base ho0 | exact Kd.R_base ho0) hb)
        have n5_ := aK (Kd.N_lower (Kd.N_mono (ok' := fun k_ => (P0_2_ k_ ∨ w.heap.size ≤ k_) ∧ k_ ≠ gb101 ∧ k_ ≠ gb102 ∧ k_ ≠ gb121 ∧ k_ ≠ gb122) ho0 (fun k_ hk_ => ⟨Or.elim hk_ (fun hs_ => Or.elim hs_ (fun hs_ => hs_.1) (fun hs_ => hs_.1)) (fun hn_ => (.inr (Nat.le_trans (below_size (pH HB)) hn_))), Or.elim hk_ (fun hs_ => Or.elim hs_ (fun hs_ => hs_.2.1) (fun hs_ => hs_.2.2.1)) (fun hn_ => (Kd.freshB BK101.out k_ hn_)), Or.elim hk_ (fun hs_ => Or.elim hs_ (fun hs_ => hs_.2.2.1) (fun hs_ => hs_.2.2.2.1)) (fun hn_ => (Kd.freshB BK102.out k_ hn_)), Or.elim hk_ (fun hs_ => Or.elim hs_ (fun hs_ => hs_.2.2.2.1) (fun hs_ => hs_.2.2.2.2.1)) (fun hn_ => (Kd.freshB BK121.out k_ hn_)), Or.elim hk_ (fun hs_ => Or.elim hs_ (fun hs_ => hs_.2.2.2.2) (fun hs_ => hs_.2.2.2.2.2)) (fun hn_ => (Kd.freshB BK122.out k_ hn_))⟩)) (below_size (pH HB)))
        have n6_ := aK (blk_below BK101.out hb)
        have n7_ := aK (blk_below BK102.out hb)
        have n8_ := aK (blk_below BK121.out hb)
        have n9_ := aK (blk_below BK122.out hb)
        have n10_ := aK (below_step (pH HB) hb)
        clear HO_102002
        clear HO_122002
        clear HO_123002
        clear HO128
        clear HO133
        clear BK101
        clear BK102
        clear BK121
        clear BK122
        clear HB
        have HO_102002 := n0_
        have HO_122002 := n1_
        have HO_123002 := n2_
        have HO128 := n3_
        have HO133 := n4_
        have HO138 := n5_
        have BK101 := n6_
        have BK102 := n7_
        have BK121 := n8_
        have BK122 := n9_
        have HB := n10_
        clear n0_ n1_ n2_ n3_ n4_ n5_ n6_ n7_ n8_ n9_ n10_
        (try clear hb)
        (try clear hb2)
        (try clear hk)
        (try clear hi)
        (try clear ho0)
        refine hK.out _ _ ⟨(blk_cell BK121.out 0).trans rfl, (blk_cell BK121.out 1).trans rfl, (blk_cell BK121.out 2).trans rfl, (blk_cell BK122.out 0).trans rfl, (blk_cell BK122.out 1).trans rfl, (blk_cell BK122.out 2).trans rfl⟩ (fun hHeld => ?_)
        clear hK K
        refine norm_ (a' := ?_) ?_ ?_
        rotate_left
        ·show Act.put _ (some 48) _ = _
         simp only [sP, i64_w, i32_w]
         rfl
        refine one_ (i := 7) (N := some 51) (bs 8 2) rfl rfl (one_of HT_.out (by kernel_rfl)) (by decide) (fun K hK => ?_)
        refine goes_ Try.func53 (by kernel_rfl) rfl #[.agg #[.int .i64 ((rd_T58 l0_2 1).f0), .int .i64 ((rd_T58 l0_2 1).f1), .slice A120_2 ((rd_T58 l0_2 1).f2).length c120_2], .int .i64 a1] (by rfl) rfl rfl tA ?_
        with_reducible refine (ih kj17 (by have := HJ17.out; omega) ((rd_T58 l0_2 1).f0) ((rd_T58 l0_2 1).f1) (fun k_ => ((((P0_2_ k_ ∨ w.heap.size ≤ k_) ∧ (k_ ≠ gb101 ∧ (k_ ≠ gb102 ∧ (k_ ≠ gb121 ∧ k_ ≠ gb122)))) ∧ some k_ ≠ (.slice Ao70 t126.length co70 : Value).ownBlock) ∧ some k_ ≠ (v137 : Value).ownBlock)) _ _ ((rd_T58 l0_2 1).f2) a1 t139 t140 t141 _ ?side1 A65.out).mono ?_
        (case side1 => exact HO_123002.out)
        rintro e w73 ⟨v142, rfl, ho0, hb⟩
        refine ⟨_, rfl, ?_⟩
        have n0_ := aK (Kd.V_below HO_102002.out hb)
        have n1_ := aK (Kd.V_below HO_122002.out hb)
        have n2_ := aK (Kd.V_below HO_123002.out hb)
        have n3_ := aK (Kd.N_below HO128.out hb)
        have n4_ := aK (Kd.V_below HO133.out hb)
        have n5_ := aK (Kd.N_below HO138.out hb)
        have n6_ := aK (Kd.V_lower (Kd.V_mono (ok' := fun k_ => (P0_2_ k_ ∨ w.heap.size ≤ k_) ∧ some k_ ≠ (.slice Ao70 t126.length co70 : Value).ownBlock ∧ some k_ ≠ (v137 : Value).ownBlock ∧ k_ ≠ gb101 ∧ k_ ≠ gb102 ∧ k_ ≠ gb121 ∧ k_ ≠ gb122) ho0 (fun k_ hk_ => ⟨Or.elim hk_ (fun hs_ => hs_.1.1.1) (fun hn_ => (.inr (Nat.le_trans (below_size (pH HB)) hn_))), Or.elim hk_ (fun hs_ => hs_.1.2) (fun hn_ => (Kd.fresh' (Kd.N_lt HO128.out) k_ hn_)), Or.elim hk_ (fun hs_ => hs_.2) (fun hn_ => (Kd.fresh' (Kd.N_lt HO138.out) k_ hn_)), Or.elim hk_ (fun hs_ => hs_.1.1.2.1) (fun hn_ => (Kd.freshB BK101.out k_ hn_)), Or.elim hk_ (fun hs_ => hs_.1.1.2.2.1) (fun hn_ => (Kd.freshB BK102.out k_ hn_)), Or.elim hk_ (fun hs_ => hs_.1.1.2.2.2.1) (fun hn_ => (Kd.freshB BK121.out k_ hn_)), Or.elim hk_ (fun hs_ => hs_.1.1.2.2.2.2) (fun hn_ => (Kd.freshB BK122.out k_ hn_))⟩)) (below_size (pH HB)))
        have n7_ := aK (blk_below BK101.out hb)
        have n8_ := aK (blk_below BK102.out hb)
        have n9_ := aK (blk_below BK121.out hb)
        have n10_ := aK (blk_below BK122.out hb)
        have n11_ := aK (below_step (pH HB) hb)
        clear HO_102002
        clear HO_122002
        clear HO_123002
        clear HO128
        clear HO133
        clear HO138
        clear BK101
        clear BK102
        clear BK121
        clear BK122
        clear HB
        have HO_102002 := n0_
        have HO_122002 := n1_
        have HO_123002 := n2_
        have HO128 := n3_
        have HO133 := n4_
        have HO138 := n5_
        have HO143 := n6_
        have BK101 := n7_
        have BK102 := n8_
        have BK121 := n9_
        have BK122 := n10_
        have HB := n11_
        clear n0_ n1_ n2_ n3_ n4_ n5_ n6_ n7_ n8_ n9_ n10_ n11_
        (try clear hb)
        (try clear hb2)
        (try clear hk)
        (try clear hi)
        (try clear ho0)
        obtain ⟨Ao74, co74, eo74⟩ := Kd.N_slice HO138.out
        (first | subst eo74 | (injection eo74 with f1_ f2_ f3_; have f4_ := f1_.symm; have f5_ := f3_.symm; clear f1_ f2_ f3_; subst f4_; subst f5_))
        obtain ⟨Ao75, co75, eo75⟩ := Kd.V_slice HO143.out
        (first | subst eo75 | (injection eo75 with f1_ f2_ f3_; have f4_ := f1_.symm; have f5_ := f3_.symm; clear f1_ f2_ f3_; subst f4_; subst f5_))
        refine hK.out _ _ ⟨(blk_cell BK121.out 0).trans rfl, (blk_cell BK121.out 1).trans rfl, (blk_cell BK121.out 2).trans rfl, (blk_cell BK122.out 0).trans rfl, (blk_cell BK122.out 1).trans rfl, (blk_cell BK122.out 2).trans rfl⟩ (fun hHeld => ?_)
        clear hK K
        refine norm_ (a' := ?_) ?_ ?_
        rotate_left
        ·show Act.put _ (some 51) _ = _
         simp only [sP, i64_w, i32_w]
         rfl
        refine one_ (i := 8) (N := some 52) (bs 9 1) rfl rfl (one_of HT_.out (by kernel_rfl)) (by decide) (fun K hK => ?_)
        refine goes_ Try.func75 (by kernel_rfl) rfl #[.agg #[.int .i64 t134, .int .i64 t135, .slice Ao74 t136.length co74], .agg #[.int .i64 t139, .int .i64 t140, .slice Ao75 t141.length co75]] (by rfl) rfl rfl tA ?_
        with_reducible refine (impl_combApp.calls t134 t135 (fun k_ => ((P0_2_ k_ ∨ w.heap.size ≤ k_) ∧ (k_ ≠ gb101 ∧ (k_ ≠ gb102 ∧ (k_ ≠ gb121 ∧ k_ ≠ gb122))))) _ _ t136 t139 t140 (fun k_ => ((P0_2_ k_ ∨ w.heap.size ≤ k_) ∧ (some k_ ≠ (.slice Ao70 t126.length co70 : Value).ownBlock ∧ (some k_ ≠ (.slice Ao74 t136.length co74 : Value).ownBlock ∧ (k_ ≠ gb101 ∧ (k_ ≠ gb102 ∧ (k_ ≠ gb121 ∧ k_ ≠ gb122))))))) _ _ t141 t144 t145 t146 _ ?side1 ?side2 A66.out).mono ?_
        (case side1 => exact Kd.N_V (HO138.out))
        (case side2 => exact HO143.out)
        rintro e w76 ⟨v147, rfl, ho0, hb⟩
        refine ⟨_, rfl, ?_⟩
        have n0_ := aK (Kd.V_elder' HO_102002.out (by first | exact Kd.N_base ho0 | exact Kd.R_base ho0) hb)
        have n1_ := aK (Kd.V_elder' HO_122002.out (by first | exact Kd.N_base ho0 | exact Kd.R_base ho0) hb)
        have n2_ := aK (Kd.V_elder' HO_123002.out (by first | exact Kd.N_base ho0 | exact Kd.R_base ho0) hb)
        have n3_ := aK (Kd.N_elder' HO128.out (by first | exact Kd.N_base ho0 | exact Kd.R_base ho0) hb)
        have n4_ := aK (Kd.V_elder' HO133.out (by first | exact Kd.N_base ho0 | exact Kd.R_base ho0) hb)
        have n5_ := aK (Kd.N_elder' HO138.out (by first | exact Kd.N_base ho0 | exact Kd.R_base ho0) hb)
        have n6_ := aK (Kd.V_elder' HO143.out (by first | exact Kd.N_base ho0 | exact Kd.R_base ho0) hb)
        have n7_ := aK (Kd.N_lower (Kd.N_mono (ok' := fun k_ => (P0_2_ k_ ∨ w.heap.size ≤ k_) ∧ k_ ≠ gb101 ∧ k_ ≠ gb102 ∧ k_ ≠ gb121 ∧ k_ ≠ gb122) ho0 (fun k_ hk_ => ⟨Or.elim hk_ (fun hs_ => Or.elim hs_ (fun hs_ => hs_.1) (fun hs_ => hs_.1)) (fun hn_ => (.inr (Nat.le_trans (below_size (pH HB)) hn_))), Or.elim hk_ (fun hs_ => Or.elim hs_ (fun hs_ => hs_.2.1) (fun hs_ => hs_.2.2.2.1)) (fun hn_ => (Kd.freshB BK101.out k_ hn_)), Or.elim hk_ (fun hs_ => Or.elim hs_ (fun hs_ => hs_.2.2.1) (fun hs_ => hs_.2.2.2.2.1)) (fun hn_ => (Kd.freshB BK102.out k_ hn_)), Or.elim hk_ (fun hs_ => Or.elim hs_ (fun hs_ => hs_.2.2.2.1) (fun hs_ => hs_.2.2.2.2.2.1)) (fun hn_ => (Kd.freshB BK121.out k_ hn_)), Or.elim hk_ (fun hs_ => Or.elim hs_ (fun hs_ => hs_.2.2.2.2) (fun hs_ => hs_.2.2.2.2.2.2)) (fun hn_ => (Kd.freshB BK122.out k_ hn_))⟩)) (below_size (pH HB)))
        have n8_ := aK (blk_below BK101.out hb)
        have n9_ := aK (blk_below BK102.out hb)
        have n10_ := aK (blk_below BK121.out hb)
        have n11_ := aK (blk_below BK122.out hb)
        have n12_ := aK (below_step (pH HB) hb)
        clear HO_102002
        clear HO_122002
        clear HO_123002
        clear HO128
        clear HO133
        clear HO138
        clear HO143
        clear BK101
        clear BK102
        clear BK121
        clear BK122
        clear HB
        have HO_102002 := n0_
        have HO_122002 := n1_
        have HO_123002 := n2_
        have HO128 := n3_
        have HO133 := n4_
        have HO138 := n5_
        have HO143 := n6_
        have HO148 := n7_
        have BK101 := n8_
        have BK102 := n9_
        have BK121 := n10_
        have BK122 := n11_
        have HB := n12_
        clear n0_ n1_ n2_ n3_ n4_ n5_ n6_ n7_ n8_ n9_ n10_ n11_ n12_
        (try clear hb)
        (try clear hb2)
        (try clear hk)
        (try clear hi)
        (try clear ho0)
        obtain ⟨Ao79, co79, eo79⟩ := Kd.N_slice HO148.out
        (first | subst eo79 | (injection eo79 with f1_ f2_ f3_; have f4_ := f1_.symm; have f5_ := f3_.symm; clear f1_ f2_ f3_; subst f4_; subst f5_))
        refine hK.out _ _ ⟨(blk_cell BK121.out 0).trans rfl, (blk_cell BK121.out 1).trans rfl, (blk_cell BK121.out 2).trans rfl, (blk_cell BK122.out 0).trans rfl, (blk_cell BK122.out 1).trans rfl, (blk_cell BK122.out 2).trans rfl⟩ (fun hHeld => ?_)
        clear hK K
        refine norm_ (a' := ?_) ?_ ?_
        rotate_left
        ·show Act.put _ (some 52) _ = _
         simp only [sP, i64_w, i32_w]
         rfl
        refine one_ (i := 9) (N := none) (bs 10 0) rfl rfl (one_of HT_.out (by kernel_rfl)) (by decide) (fun K hK => ?_)
        have hs77 : w76.cell? ⟨gb102, 0, none⟩ = some (.int .i64 0) := (blk_cell BK102.out 0).trans rfl
        have hfs77 := blk_frozen BK102.out 0
        have hns77_0 := NB101_102.out
        have hns77_2 := NB121_102.out
        have hns77_3 := NB122_102.out
        have hms77_0 := NB102_101.out
        have hms77_2 := NB102_121.out
        have hms77_3 := NB102_122.out
        have hs78 : w76.cell? ⟨gb102, 1, none⟩ = some (.int .i64 0) := (blk_cell BK102.out 1).trans rfl
        have hfs78 := blk_frozen BK102.out 1
        have hns78_0 := NB101_102.out
        have hns78_2 := NB121_102.out
        have hns78_3 := NB122_102.out
        have hms78_0 := NB102_101.out
        have hms78_2 := NB102_121.out
        have hms78_3 := NB102_122.out
        have hs80 : w76.cell? ⟨gb102, 2, none⟩ = some (.slice none 0 0) := (blk_cell BK102.out 2).trans rfl
        have hfs80 := blk_frozen BK102.out 2
        have hns80_0 := NB101_102.out
        have hns80_2 := NB121_102.out
        have hns80_3 := NB122_102.out
        have hms80_0 := NB102_101.out
        have hms80_2 := NB102_121.out
        have hms80_3 := NB102_122.out
        refine skip_ (w1 := ?_) (by rfl) rfl ?_ ?_
        rotate_left
        ·go_simp
         rfl
        refine hK.out _ _ ⟨((cell_far (p := ⟨gb102, _, none⟩) NB121_102.out _).trans (((cell_far (p := ⟨gb102, _, none⟩) NB121_102.out _).trans (((cell_far (p := ⟨gb102, _, none⟩) NB121_102.out _).trans (hHeld.1)))))), ((cell_far (p := ⟨gb102, _, none⟩) NB121_102.out _).trans (((cell_far (p := ⟨gb102, _, none⟩) NB121_102.out _).trans (((cell_far (p := ⟨gb102, _, none⟩) NB121_102.out _).trans (hHeld.2.1)))))), ((cell_far (p := ⟨gb102, _, none⟩) NB121_102.out _).trans (((cell_far (p := ⟨gb102, _, none⟩) NB121_102.out _).trans (((cell_far (p := ⟨gb102, _, none⟩) NB121_102.out _).trans (hHeld.2.2.1)))))), ((cell_far (p := ⟨gb102, _, none⟩) NB122_102.out _).trans (((cell_far (p := ⟨gb102, _, none⟩) NB122_102.out _).trans (((cell_far (p := ⟨gb102, _, none⟩) NB122_102.out _).trans (hHeld.2.2.2.1)))))), ((cell_far (p := ⟨gb102, _, none⟩) NB122_102.out _).trans (((cell_far (p := ⟨gb102, _, none⟩) NB122_102.out _).trans (((cell_far (p := ⟨gb102, _, none⟩) NB122_102.out _).trans (hHeld.2.2.2.2.1)))))), ((cell_far (p := ⟨gb102, _, none⟩) NB122_102.out _).trans (((cell_far (p := ⟨gb102, _, none⟩) NB122_102.out _).trans (((cell_far (p := ⟨gb102, _, none⟩) NB122_102.out _).trans (hHeld.2.2.2.2.2))))))⟩ (fun hHeld => ?_)
        clear hK K
        refine done_ (done_of HT_.out (by kernel_rfl)) ?_
        try go_wp2
        refine bodyPost_ret (results_cell_row rfl _ _ gb102 58 #[.int .i64 t144, .int .i64 t145, .slice Ao79 t146.length co79] (0, 0) _ rfl (p3 BK102) Try.underlying58 rfl (by kernel_rfl)) rfl ?_
        exact ⟨_, eW, Kd.N_V (by (with_reducible repeat (first | apply Kd.N_alloc | apply Kd.N_drewN | apply Kd.N_drew)); exact Kd.N_mono (nF3 gb102 (Kd.N_mono HO148.out (fun k_ hk => (⟨hk, hk.2.2.1⟩ : _ ∧ k_ ≠ gb102))) (fun _ hk => hk.2)) (fun _ hk => hk.1.1)), pH HB⟩
    ·rw [if_neg c17] at H
     exact absurd H (by simp)
   ·rw [if_neg c16] at H
    exact absurd H (by simp)
 ·replace c4 := Bool.eq_false_iff.mpr c4
  subst c4
  rw [if_neg (show ¬ (false = true) by decide)] at H
  replace H := Option.bind_eq_some_iff.mp H
  obtain ⟨⟨t109, t110, t111⟩, A810, H⟩ := H
  try dsimp only at H
  have A81 := aK A810
  clear A810
  replace H := Option.bind_eq_some_iff.mp H
  obtain ⟨⟨t114, t115, t116⟩, A820, H⟩ := H
  try dsimp only at H
  have A82 := aK A820
  clear A820
  simp only [Option.some.injEq, Prod.mk.injEq] at H
  obtain ⟨rfl, rfl, rfl⟩ := H
  go_enter Try.func53, Try.ntmps53
  try go_wp2_with (first | ((with_reducible refine gate_dst (N := 2) rfl ?_); refine bE (N := 2) (cs := #[.int .i64 a0_0, .int .i64 a0_1, .slice A0_2 l0_2.length c0_2]) (t := 58) ?_; intro gb101 hg w83 hbox hb; have GW101 := qw HB hg; have GE101 := qw HB hg; replace HO0_2 := qv HO0_2 hg hb; have BK101 := aK hbox; replace HB := qs HB hb; clear hb hbox hg) | ((with_reducible refine gate_dst (N := 4) rfl ?_); refine bE (N := 4) (cs := #[.int .i64 0, .int .i64 0, .slice none 0 0]) (t := 58) ?_; intro gb102 hg w84 hbox hb; have GW102 := qw HB hg; have GE102 := qw HB hg; have NB101_102 := ql BK101 hg; have NB102_101 := qg BK101 hg; replace HO0_2 := qv HO0_2 hg hb; replace BK101 := qb BK101 hb; have BK102 := aK hbox; replace HB := qs HB hb; clear hb hbox hg; have hnb85 := NB101_102.out; have hnc85 := NB102_101.out; have hcz86_0 := k30 BK101; have hcz86_1 := k31 BK101; have hcz86_2 := k32 BK101; have hfz86_0 := fz BK101 0; have hfz86_1 := fz BK101 1; have hfz86_2 := fz BK101 2) | ((with_reducible refine gate_callee (f := 74) rfl ?_); refine goesL_ (some 10) rfl rfl Try.func74 (by kernel_rfl) rfl #[.agg #[.int .i64 a0_0, .int .i64 a0_1, .slice A0_2 l0_2.length c0_2], .int .i64 a1] rfl tA ?_; (with_reducible refine (impl_comb_has.calls k a0_0 a0_1 _ _ l0_2 a1 false _ ?side1 ?side2 A3.out).mono ?_); (case side1 => exact sC ((Kd.V_reads' HO0_2.out).2.2)); (case side2 => exact (Kd.V_reads' HO0_2.out).2.1); rintro e w87 ⟨rfl, hb⟩; refine ⟨_, rfl, ?_⟩; have n0_ := aK (Kd.V_below HO0_2.out hb); replace BK101 := qb BK101 hb; replace BK102 := qb BK102 hb; clear HO0_2; have HO0_2 := n0_; clear n0_; replace HB := qs HB hb; (try clear hb)))
  have n0_ := aK (Kd.V_drew HO0_2.out)
  have n1_ := aK (blk_drew BK101.out)
  have n2_ := aK (blk_drew BK102.out)
  have n3_ := aK (below_drew1 HB.out)
  clear HO0_2
  clear BK101
  clear BK102
  clear HB
  have HO0_2 := n0_
  have BK101 := n1_
  have BK102 := n2_
  have HB := n3_
  clear n0_ n1_ n2_ n3_
  refine start_ (n := 4) (S := fun w' => w'.cell? ⟨gb101, 0, none⟩ = some (.int .i64 a0_0) ∧ w'.cell? ⟨gb101, 1, none⟩ = some (.int .i64 a0_1) ∧ w'.cell? ⟨gb101, 2, none⟩ = some (.slice A0_2 l0_2.length c0_2)) (ds := []) (bs 0 4) (by kernel_rfl) rfl rfl ⟨(blk_cell BK101.out 0).trans rfl, (blk_cell BK101.out 1).trans rfl, (blk_cell BK101.out 2).trans rfl⟩ (fun hHeld => ?_)
  generalize w87.drew = w88 at HO0_2 BK101 BK102 HB hHeld ⊢
  refine take_ (i := 1) (N := some 13) (v := ?_) (a' := ?_) #[false, true, false, false] rfl rfl (by kernel_rfl) (fun _ _ _ h => h) (Or.inl ⟨by rfl, ?_⟩) hHeld ?_ ?_
  rotate_left
  ·rintro w' ⟨s0, s1, s2⟩
   go_simp
   with_reducible rfl
  rotate_left
  ·simp only [sP, i64_w, i32_w]
   rfl
  refine one_ (i := 0) (N := some 12) (bs 2 2) rfl rfl (by kernel_rfl) (by decide) (fun K hK => ?_)
  refine goes_ Try.func76 (by kernel_rfl) rfl #[.int .i64 4] (by rfl) rfl rfl tA ?_
  with_reducible refine (impl_combOf.calls 4 t109 t110 t111 _ A81.out).mono ?_
  rintro e w89 ⟨v112, rfl, ho0, hb⟩
  refine ⟨_, rfl, ?_⟩
  have n0_ := aK (Kd.V_elder' HO0_2.out (by first | exact Kd.N_base ho0 | exact Kd.R_base ho0) hb)
  have n1_ := aK (Kd.N_lower (Kd.N_mono (ok' := fun k_ => (P0_2_ k_ ∨ w.heap.size ≤ k_) ∧ k_ ≠ gb101 ∧ k_ ≠ gb102) (Kd.R_N (Kd.R_bound ho0)) (fun k_ hk_ => ⟨(.inr (Nat.le_trans (below_size (pH HB)) hk_.2.1)), (Kd.freshB BK101.out k_ hk_.2.1), (Kd.freshB BK102.out k_ hk_.2.1)⟩)) (below_size (pH HB)))
  have n2_ := aK (blk_below BK101.out hb)
  have n3_ := aK (blk_below BK102.out hb)
  have n4_ := aK (below_step (pH HB) hb)
  clear HO0_2
  clear BK101
  clear BK102
  clear HB
  have HO0_2 := n0_
  have HO113 := n1_
  have BK101 := n2_
  have BK102 := n3_
  have HB := n4_
  clear n0_ n1_ n2_ n3_ n4_
  (try clear hb)
  (try clear hb2)
  (try clear hk)
  (try clear hi)
  (try clear ho0)
  obtain ⟨Ao90, co90, eo90⟩ := Kd.N_slice HO113.out
  (first | subst eo90 | (injection eo90 with f1_ f2_ f3_; have f4_ := f1_.symm; have f5_ := f3_.symm; clear f1_ f2_ f3_; subst f4_; subst f5_))
  refine hK.out _ _ ⟨(blk_cell BK101.out 0).trans rfl, (blk_cell BK101.out 1).trans rfl, (blk_cell BK101.out 2).trans rfl⟩ (fun hHeld => ?_)
  clear hK K
  refine norm_ (a' := ?_) ?_ ?_
  rotate_left
  ·show Act.put _ (some 12) _ = _
   simp only [sP, i64_w, i32_w]
   rfl
  refine one_ (i := 2) (N := some 14) (bs 3 1) rfl rfl (by kernel_rfl) (by decide) (fun K hK => ?_)
  refine goes_ Try.func75 (by kernel_rfl) rfl #[.agg #[.int .i64 t109, .int .i64 t110, .slice Ao90 t111.length co90], .agg #[.int .i64 a0_0, .int .i64 a0_1, .slice A0_2 l0_2.length c0_2]] (by rfl) rfl rfl tA ?_
  with_reducible refine (impl_combApp.calls t109 t110 (fun k_ => ((P0_2_ k_ ∨ w.heap.size ≤ k_) ∧ (k_ ≠ gb101 ∧ k_ ≠ gb102))) _ _ t111 a0_0 a0_1 (fun k_ => ((((P0_2_ k_ ∨ w.heap.size ≤ k_) ∧ k_ ≠ gb101) ∧ k_ ≠ gb102) ∧ some k_ ≠ (.slice Ao90 t111.length co90 : Value).ownBlock)) _ _ l0_2 t114 t115 t116 _ ?side1 ?side2 A82.out).mono ?_
  (case side1 => exact Kd.N_V (HO113.out))
  (case side2 => exact HO0_2.out)
  rintro e w91 ⟨v117, rfl, ho0, hb⟩
  refine ⟨_, rfl, ?_⟩
  have n0_ := aK (Kd.V_elder' HO0_2.out (by first | exact Kd.N_base ho0 | exact Kd.R_base ho0) hb)
  have n1_ := aK (Kd.N_elder' HO113.out (by first | exact Kd.N_base ho0 | exact Kd.R_base ho0) hb)
  have n2_ := aK (Kd.N_lower (Kd.N_mono (ok' := fun k_ => (P0_2_ k_ ∨ w.heap.size ≤ k_) ∧ k_ ≠ gb101 ∧ k_ ≠ gb102) ho0 (fun k_ hk_ => ⟨Or.elim hk_ (fun hs_ => Or.elim hs_ (fun hs_ => hs_.1) (fun hs_ => hs_.1.1.1)) (fun hn_ => (.inr (Nat.le_trans (below_size (pH HB)) hn_))), Or.elim hk_ (fun hs_ => Or.elim hs_ (fun hs_ => hs_.2.1) (fun hs_ => hs_.1.1.2)) (fun hn_ => (Kd.freshB BK101.out k_ hn_)), Or.elim hk_ (fun hs_ => Or.elim hs_ (fun hs_ => hs_.2.2) (fun hs_ => hs_.1.2)) (fun hn_ => (Kd.freshB BK102.out k_ hn_))⟩)) (below_size (pH HB)))
  have n3_ := aK (blk_below BK101.out hb)
  have n4_ := aK (blk_below BK102.out hb)
  have n5_ := aK (below_step (pH HB) hb)
  clear HO0_2
  clear HO113
  clear BK101
  clear BK102
  clear HB
  have HO0_2 := n0_
  have HO113 := n1_
  have HO118 := n2_
  have BK101 := n3_
  have BK102 := n4_
  have HB := n5_
  clear n0_ n1_ n2_ n3_ n4_ n5_
  (try clear hb)
  (try clear hb2)
  (try clear hk)
  (try clear hi)
  (try clear ho0)
  obtain ⟨Ao94, co94, eo94⟩ := Kd.N_slice HO118.out
  (first | subst eo94 | (injection eo94 with f1_ f2_ f3_; have f4_ := f1_.symm; have f5_ := f3_.symm; clear f1_ f2_ f3_; subst f4_; subst f5_))
  refine hK.out _ _ ⟨(blk_cell BK101.out 0).trans rfl, (blk_cell BK101.out 1).trans rfl, (blk_cell BK101.out 2).trans rfl⟩ (fun hHeld => ?_)
  clear hK K
  refine norm_ (a' := ?_) ?_ ?_
  rotate_left
  ·show Act.put _ (some 14) _ = _
   simp only [sP, i64_w, i32_w]
   rfl
  refine one_ (i := 3) (N := none) (bs 4 0) rfl rfl (by kernel_rfl) (by decide) (fun K hK => ?_)
  have hs92 : w91.cell? ⟨gb102, 0, none⟩ = some (.int .i64 0) := (blk_cell BK102.out 0).trans rfl
  have hfs92 := blk_frozen BK102.out 0
  have hns92_0 := NB101_102.out
  have hms92_0 := NB102_101.out
  have hs93 : w91.cell? ⟨gb102, 1, none⟩ = some (.int .i64 0) := (blk_cell BK102.out 1).trans rfl
  have hfs93 := blk_frozen BK102.out 1
  have hns93_0 := NB101_102.out
  have hms93_0 := NB102_101.out
  have hs95 : w91.cell? ⟨gb102, 2, none⟩ = some (.slice none 0 0) := (blk_cell BK102.out 2).trans rfl
  have hfs95 := blk_frozen BK102.out 2
  have hns95_0 := NB101_102.out
  have hms95_0 := NB102_101.out
  refine skip_ (w1 := ?_) (by rfl) rfl ?_ ?_
  rotate_left
  ·go_simp
   rfl
  refine hK.out _ _ ⟨((cell_far (p := ⟨gb102, _, none⟩) NB101_102.out _).trans (((cell_far (p := ⟨gb102, _, none⟩) NB101_102.out _).trans (((cell_far (p := ⟨gb102, _, none⟩) NB101_102.out _).trans (hHeld.1)))))), ((cell_far (p := ⟨gb102, _, none⟩) NB101_102.out _).trans (((cell_far (p := ⟨gb102, _, none⟩) NB101_102.out _).trans (((cell_far (p := ⟨gb102, _, none⟩) NB101_102.out _).trans (hHeld.2.1)))))), ((cell_far (p := ⟨gb102, _, none⟩) NB101_102.out _).trans (((cell_far (p := ⟨gb102, _, none⟩) NB101_102.out _).trans (((cell_far (p := ⟨gb102, _, none⟩) NB101_102.out _).trans (hHeld.2.2))))))⟩ (fun hHeld => ?_)
  clear hK K
  refine done_ (by kernel_rfl) ?_
  try go_wp2
  refine bodyPost_ret (results_cell_row rfl _ _ gb102 58 #[.int .i64 t114, .int .i64 t115, .slice Ao94 t116.length co94] (0, 0) _ rfl (p3 BK102) Try.underlying58 rfl (by kernel_rfl)) rfl ?_
  exact ⟨_, eW, Kd.N_V (by (with_reducible repeat (first | apply Kd.N_alloc | apply Kd.N_drewN | apply Kd.N_drew)); exact Kd.N_mono (nF3 gb102 (Kd.N_mono HO118.out (fun k_ hk => (⟨hk, hk.2.2⟩ : _ ∧ k_ ≠ gb102))) (fun _ hk => hk.2)) (fun _ hk => hk.1.1)), pH HB⟩

end Go.Proofs.Ytcjhhdecckcibaa.G

namespace Go.Proofs.Ytcjhhdecckcibaa.G
open Go.RowKit Go.Proofs.YtcjhhdecckcibaaW.PrintWords Go.Proofs.YtcjhhdecckcibaaW.PrintLast Go.Proofs.YtcjhhdecckcibaaW.PrintMore
attribute [local go_sem] max2_int min2_int max_two min_two max_three min_three max_four min_four   -- for this text's walks alone
set_option linter.unusedVariables false
set_option linter.unusedSimpArgs false

def impl_combVar.f (a0 : Int) : Option (Int × Int × (List (S58))) := some (1, a0, ([] : List (S58)))
set_option maxHeartbeats 8000000 in
set_option maxRecDepth 100000 in
theorem impl_combVar.calls (a0 : Int) (r1 : Int) (r2 : Int) (r3 : List (S58)) (w : World) (h : impl_combVar.f a0 = some (r1, r2, r3)) :
    Calls Try.prog 82 #[.int .i64 a0] w fun e w' => ∃ v2_ : Value, e = .returned (.agg #[.int .i64 r1, .int .i64 r2, v2_]) ∧ Kd.R k58 58 w' w.heap.size (fun _ => True) v2_ r3 ∧ Below w.heap.size w w' := by
  have hu58 := Try.underlying58
  have HB := Aside0.mk (Below.refl w.heap.size w)
  have H : (some (1, a0, ([] : List (S58)))) = some (r1, r2, r3) := h
  clear h
  simp only [Option.some.injEq, Prod.mk.injEq] at H
  obtain ⟨rfl, rfl, rfl⟩ := H
  go_enter Try.func82, Try.ntmps82
  go_wp2_with (first | ((with_reducible refine gate_dst (N := 2) rfl ?_); refine box_event ?hg (N := 2) ?hd (cs := #[.int .i64 0, .int .i64 0, .slice none 0 0]) (t := 58) ?hr ?_; (case hd => rfl); (case hg => rfl); (case hr => first | (go_simp; done) | (go_simp; rfl)); intro gb101 hg w2 hbox hb; have n0_ := Aside0.mk (below_step (by repeat (first | (with_reducible first | exact HB.out | apply below_alloc | apply pw_below_drewN | apply below_drew1) | exact HB.out)) hb); have n1_ := Aside0.mk (hbox); have n2_ := Aside0.mk ((by rw [hg]; exact (below_size (by repeat (first | (with_reducible first | exact HB.out | apply below_alloc | apply pw_below_drewN | apply below_drew1) | exact HB.out))) : w.heap.size ≤ gb101)); have n3_ := Aside0.mk ((by rw [hg]; exact (below_size (by repeat (first | (with_reducible first | exact HB.out | apply below_alloc | apply pw_below_drewN | apply below_drew1) | exact HB.out))) : w.heap.size ≤ gb101)); clear HB; have HB := n0_; have BK101 := n1_; have GW101 := n2_; have GE101 := n3_; clear n0_ n1_ n2_ n3_; clear hb hbox hg; have hcz3_0 : w2.cell? ⟨gb101, 0, none⟩ = some (.int .i64 0) := (blk_cell BK101.out 0).trans rfl; have hcz3_1 : w2.cell? ⟨gb101, 1, none⟩ = some (.int .i64 0) := (blk_cell BK101.out 1).trans rfl; have hcz3_2 : w2.cell? ⟨gb101, 2, none⟩ = some (.slice none 0 0) := (blk_cell BK101.out 2).trans rfl; have hfz3_0 := blk_frozen BK101.out 0; have hfz3_1 := blk_frozen BK101.out 1; have hfz3_2 := blk_frozen BK101.out 2))
  refine bodyPost_ret (results_cell_row rfl _ _ gb101 58 #[.int .i64 1, .int .i64 a0, .slice none 0 0] (0, 0) _ rfl (by (with_reducible repeat (first | refine blk_drewN ?_ _ | refine blk_drew ?_ | refine blk_alloc ?_ _)); refine blk_put (cs := #[.int .i64 1, .int .i64 a0, .slice none 0 0]) ?_ 2 _ rfl; (with_reducible repeat (first | refine blk_drewN ?_ _ | refine blk_drew ?_ | refine blk_alloc ?_ _)); refine blk_put (cs := #[.int .i64 1, .int .i64 0, .slice none 0 0]) ?_ 1 _ rfl; (with_reducible repeat (first | refine blk_drewN ?_ _ | refine blk_drew ?_ | refine blk_alloc ?_ _)); refine blk_put (cs := #[.int .i64 0, .int .i64 0, .slice none 0 0]) ?_ 0 _ rfl; (with_reducible repeat (first | refine blk_drewN ?_ _ | refine blk_drew ?_ | refine blk_alloc ?_ _)); exact BK101.out) Try.underlying58 rfl (by kernel_rfl)) rfl ?_
  exact ⟨_, by first | rfl | (simp [errW_none, errW_some] <;> rfl) | (simp [*, errW_none, errW_some] <;> rfl), by first | exact Kd.R_nil _ _ _ _ _ | exact Kd.N_nil _ _ _ _ _ | exact Kd.V_nil _ _ _ _ _ | exact Kd.Q_nil _ _ _ _ _ | exact Kd.S_nil _ _ _ _ _, by repeat (first | (with_reducible first | exact HB.out | apply below_alloc | apply pw_below_drewN | apply below_drew1 | refine below_set ?_ GE101.out) | exact HB.out)⟩

end Go.Proofs.Ytcjhhdecckcibaa.G
