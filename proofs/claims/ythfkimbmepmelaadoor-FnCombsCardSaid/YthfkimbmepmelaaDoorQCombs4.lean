/- Part 4 of 6 of the proof that the law FnCombsCardSaid holds: for every input that can be read the call returns true and leaves its arguments as they were; no condition but those each theorem names. -/
import Derived.Test.YthfkimbmepmelaaDoorQCombsW1
import Derived.Test.YthfkimbmepmelaaDoorQCombs1
import Derived.Test.YthfkimbmepmelaaDoorQCombs2
import Derived.Test.YthfkimbmepmelaaDoorQCombs3
namespace Go.Proofs.YthfkimbmepmelaaDoor.G
open Go.RowKit Go.Proofs.YthfkimbmepmelaaDoorW.PrintWords Go.Proofs.YthfkimbmepmelaaDoorW.PrintLast Go.Proofs.YthfkimbmepmelaaDoorW.PrintMore
attribute [local go_sem] max2_int min2_int max_two min_two max_three min_three max_four min_four   -- for this text's walks alone
set_option linter.unusedVariables false
set_option linter.unusedSimpArgs false

open Go.Proofs.YthfkimbmepmelaaDoor.Short
mutual
def impl_combRead.j0 : Nat → ByteArray → Int → Bool → Option (Int × Int × (List (S45)) × ByteArray × Bool)
 | 0, _, _, _ => none
 | k + 1, x0, x1, x23 => if x23 = true then (some (0, 0, ([] : List (S45)), (⟨#[]⟩ : ByteArray), false)) else (if 0 < (x0.size : Int) then (if (bt x0 0) = 83 then ((impl_combOf.f 3).bind fun bt102 => (if 1 ≤ (x0.size : Int) then (some (bt102.1, bt102.2.1, bt102.2.2, x0.extract 1 x0.size, true)) else (none))) else (if (bt x0 0) = 75 then ((impl_combOf.f 4).bind fun bt107 => (if 1 ≤ (x0.size : Int) then (some (bt107.1, bt107.2.1, bt107.2.2, x0.extract 1 x0.size, true)) else (none))) else (if (bt x0 0) = 73 then ((impl_combOf.f 5).bind fun bt112 => (if 1 ≤ (x0.size : Int) then (some (bt112.1, bt112.2.1, bt112.2.2, x0.extract 1 x0.size, true)) else (none))) else (if (bt x0 0) = 40 then (if 1 ≤ (x0.size : Int) then ((impl_combRead.f k (x0.extract 1 x0.size) (wrap64 (x1 + 1))).bind fun bt117 => ((strings_CutPrefix.f bt117.2.2.2.1 (⟨#[32]⟩ : ByteArray)).bind fun bt125 => ((impl_combRead.f k bt125.1 (wrap64 (x1 + 1))).bind fun bt127 => ((strings_CutPrefix.f bt127.2.2.2.1 (⟨#[41]⟩ : ByteArray)).bind fun bt135 => ((impl_combApp.f bt117.1 bt117.2.1 bt117.2.2.1 bt127.1 bt127.2.1 bt127.2.2.1).bind fun bt137 => (if bt117.2.2.2.2 = true then (if bt125.2 = true then (if bt127.2.2.2.2 = true then (some (bt137.1, bt137.2.1, bt137.2.2, bt135.1, bt135.2)) else (some (bt137.1, bt137.2.1, bt137.2.2, bt135.1, false))) else (some (bt137.1, bt137.2.1, bt137.2.2, bt135.1, false))) else (some (bt137.1, bt137.2.1, bt137.2.2, bt135.1, false)))))))) else (none)) else (impl_combRead.l0 k x0 1))))) else (none))
def impl_combRead.l0 : Nat → ByteArray → Int → Option (Int × Int × (List (S45)) × ByteArray × Bool)
 | 0, _, _ => none
 | k + 1, x0, x15 => if x15 < (x0.size : Int) then (if x15 < 5 then (if 0 ≤ x15 then (if (bt x0 x15) ≥ 48 then (if (bt x0 x15) ≤ 57 then (impl_combRead.l0 k x0 (wrap64 (x15 + 1))) else (if 1 ≤ x15 then (if x15 ≤ (x0.size : Int) then ((strconv_Atoi_38.f (x0.extract 1 (x15 : Int).toNat)).bind fun bt142 => ((impl_combVar.f bt142.1).bind fun bt144 => (if bt142.2.isNone = true then (if 0 < (x0.size : Int) then (some (bt144.1, bt144.2.1, bt144.2.2, x0.extract (x15 : Int).toNat x0.size, ((bt x0 0) == 120))) else (none)) else (some (bt144.1, bt144.2.1, bt144.2.2, x0.extract (x15 : Int).toNat x0.size, false))))) else (none)) else (none))) else (if 1 ≤ x15 then (if x15 ≤ (x0.size : Int) then ((strconv_Atoi_38.f (x0.extract 1 (x15 : Int).toNat)).bind fun bt150 => ((impl_combVar.f bt150.1).bind fun bt152 => (if bt150.2.isNone = true then (if 0 < (x0.size : Int) then (some (bt152.1, bt152.2.1, bt152.2.2, x0.extract (x15 : Int).toNat x0.size, ((bt x0 0) == 120))) else (none)) else (some (bt152.1, bt152.2.1, bt152.2.2, x0.extract (x15 : Int).toNat x0.size, false))))) else (none)) else (none))) else (none)) else (if 1 ≤ x15 then (if x15 ≤ (x0.size : Int) then ((strconv_Atoi_38.f (x0.extract 1 (x15 : Int).toNat)).bind fun bt158 => ((impl_combVar.f bt158.1).bind fun bt160 => (if 0 ≤ x15 then (if bt158.2.isNone = true then (if 0 < (x0.size : Int) then (some (bt160.1, bt160.2.1, bt160.2.2, x0.extract (x15 : Int).toNat x0.size, ((bt x0 0) == 120))) else (none)) else (some (bt160.1, bt160.2.1, bt160.2.2, x0.extract (x15 : Int).toNat x0.size, false))) else (none)))) else (none)) else (none))) else (if 1 ≤ x15 then (if x15 ≤ (x0.size : Int) then ((strconv_Atoi_38.f (x0.extract 1 (x15 : Int).toNat)).bind fun bt166 => ((impl_combVar.f bt166.1).bind fun bt168 => (if 0 ≤ x15 then (if bt166.2.isNone = true then (if 0 < (x0.size : Int) then (some (bt168.1, bt168.2.1, bt168.2.2, x0.extract (x15 : Int).toNat x0.size, ((bt x0 0) == 120))) else (none)) else (some (bt168.1, bt168.2.1, bt168.2.2, x0.extract (x15 : Int).toNat x0.size, false))) else (none)))) else (none)) else (none))
def impl_combRead.f : Nat → ByteArray → Int → Option (Int × Int × (List (S45)) × ByteArray × Bool)
 | 0, _, _ => none
 | k + 1, a0, a1 => if a0.toList = ([] : List UInt8) then (impl_combRead.j0 k a0 a1 true) else (impl_combRead.j0 k a0 a1 (decide (a1 > 60)))
end
def impl_combRead.T20 : Bool × List (List Nat × List Nat) := (true, [([], []), ([0], [0]), ([], []), ([], []), ([2, 3], [2, 3]), ([], []), ([5], [5]), ([6, 1], [6]), ([7], [7]), ([8, 7], [7, 8]), ([9, 7], [7, 9]), ([7, 10], [7, 10]), ([1, 7, 0, 1], [1]), ([4, 12, 0, 1, 2, 3, 4, 12], [4]), ([11, 13, 0, 1, 2, 3, 4, 5, 6, 7, 8, 9, 10, 11, 12, 13], [11])])
def impl_combRead.B20 : List Nat := [0, 1, 0, 0, 12, 0, 32, 99, 227, 483, 995, 2019, 227, 4351, 16383]
theorem impl_combRead.tab20 : rtab .any (opsOf Tryd.f20 20) = impl_combRead.T20 := by kernel_rfl
theorem impl_combRead.bits20 : waitsOk impl_combRead.T20.2 impl_combRead.B20 = true := by kernel_rfl
set_option maxHeartbeats 8000000 in
set_option maxRecDepth 100000 in
theorem impl_combRead.calls (k : Nat) : ∀ (a0 : ByteArray) (a1 : Int) (r1 : Int) (r2 : Int) (r3 : List (S45)) (r4 : ByteArray) (r5 : Bool) (w : World) (h : impl_combRead.f k a0 a1 = some (r1, r2, r3, r4, r5)) (hE : Met w),
  Calls Tryd.prog 20 #[.string a0, .int .i64 a1] w fun e w' => ∃ v2_ : Value, e = .returned (.tuple #[.agg #[.int .i64 r1, .int .i64 r2, v2_], .string r4, .bool r5]) ∧ Kd.N k45 45 w' w.heap.size (fun k_ => (w.heap.size ≤ k_)) v2_ r3 ∧ Below w.heap.size w w' := by
 induction k using Nat.strongRecOn with
 | _ k ih =>
 intro a0 a1 r1 r2 r3 r4 r5 w h hE
 cases k with
 | zero => exact absurd h (by simp [impl_combRead.f])
 | succ k =>
 simp only [impl_combRead.f] at h
 have hu56 := Tryd.underlying45
 have hu107 := Tryd.underlying78
 have hu129 := Tryd.underlying92
 have HB := aM (Below.refl w.heap.size w)
 have HE := aK hE
 clear hE
 have H : (if a0.toList = ([] : List UInt8) then (impl_combRead.j0 k a0 a1 true) else (impl_combRead.j0 k a0 a1 (decide (a1 > 60)))) = some (r1, r2, r3, r4, r5) := h
 clear h
 have HC3 := aM H
 clear H
 go_enter Tryd.func20, Tryd.ntmps20
 go_upto_region 1 with (first | ((with_reducible refine gate_dst (N := 4) rfl ?_); refine bE (N := 4) (cs := #[.int .i64 0, .int .i64 0, .slice none 0 0]) (t := 45) ?_; intro gb101 hg w4 hbox hb; have GW101 := qw HB hg; have GE101 := qw HB hg; have BK101 := aK hbox; replace HB := qs HB hb; clear hb hbox hg))
 (try simp only [Act.put, List.setIfInBounds_toArray, List.set_cons_zero, List.set_cons_succ])
 go_cut [23] (fun v23 wc => ∃ (kq : Nat) (x23_2 : Bool), v23 = .bool x23_2 ∧ Aside0 (impl_combRead.j0 kq a0 a1 x23_2 = some (r1, r2, r3, r4, r5)) ∧ Aside0 (kq ≤ k) ∧ Aside0 (wc.heap[gb101]? = some (.cells #[.int .i64 0, .int .i64 0, (.slice none 0 0)] 45 (0, 0))) ∧ Aside0 (Below w.heap.size w wc))
 case first =>
  have H := HC3.out
  clear HC3
  by_cases c5 : a0.toList = ([] : List UInt8)
  ·rw [if_pos c5] at H
   have c5b0 : (a0.toList == ([] : List UInt8)) = true := beq_iff_eq.mpr c5
   have c5b1 : (a0.toList != ([] : List UInt8)) = false := bne_eq_false_iff_eq.mpr c5
   clear c5
   (first | rw [c5b0] | (simp only [i64_w, i32_w]; rw [c5b0]) | skip)
   have H' := aM H
   clear H
   go_wp2
   go_meet
   case rel => exact ⟨_, (true), rS, H', ⟨by first | omega | exact Nat.le_refl _⟩, ⟨pB BK101⟩, ⟨pH HB⟩⟩
  ·rw [if_neg c5] at H
   have c5b0 : (a0.toList == ([] : List UInt8)) = false := beq_eq_false_iff_ne.mpr c5
   have c5b1 : (a0.toList != ([] : List UInt8)) = true := bne_iff_ne.mpr c5
   (first | rw [c5b0] | (simp only [i64_w, i32_w]; rw [c5b0]) | skip)
   have H' := aM H
   clear H
   go_wp2
   go_meet
   case rel => exact ⟨_, (decide (a1 > 60)), rS, H', ⟨by first | omega | exact Nat.le_refl _⟩, ⟨pB BK101⟩, ⟨pH HB⟩⟩
 case rest =>
  clear HC3
  try clear p2; try clear c4; try clear c5; try clear c5b0; try clear c5b1
  obtain ⟨kq, x23_2, rfl, HA, HJ2, BK101, HB⟩ := hcut
  cases kq with
  | zero => exact absurd HA.out (by simp [impl_combRead.j0])
  | succ kj2 =>
   have H := HA.out
   clear HA
   simp only [impl_combRead.j0] at H
   by_cases c6 : x23_2 = true
   ·subst c6
    rw [if_pos rfl] at H
    simp only [Option.some.injEq, Prod.mk.injEq] at H
    obtain ⟨rfl, rfl, rfl, rfl, rfl⟩ := H
    obtain ⟨hcz7_0, hcz7_1, hcz7_2, hfz7_0, hfz7_1, hfz7_2⟩ := cA3 BK101
    go_wp2
    refine bodyPost_ret (results_ctt rfl _ _ gb101 45 #[.int .i64 0, .int .i64 0, .slice none 0 0] (0, 0) _ rfl (p3 BK101) Tryd.underlying45 rfl (by kernel_rfl)) rfl ?_
    exact ⟨_, eW, by first | exact Kd.R_nil _ _ _ _ _ | exact Kd.N_nil _ _ _ _ _ | exact Kd.V_nil _ _ _ _ _ | exact Kd.Q_nil _ _ _ _ _ | exact Kd.S_nil _ _ _ _ _, pH HB⟩
   ·replace c6 := Bool.eq_false_iff.mpr c6
    subst c6
    rw [if_neg (show ¬ (false = true) by decide)] at H
    by_cases c8 : 0 < (a0.size : Int)
    ·rw [if_pos c8] at H
     have c8b0 : decide (0 < (a0.size : Int)) = true := decide_eq_true c8
     have c8b1 : decide (0 < a0.size) = true := decide_eq_true (by omega)
     clear c8
     by_cases c10 : (bt a0 0) = 83
     ·rw [if_pos c10] at H
      have c10b0 : ((bt a0 0) == 83) = true := beq_iff_eq.mpr c10
      have c10b1 : ((bt a0 0) != 83) = false := bne_eq_false_iff_eq.mpr c10
      clear c10
      replace H := Option.bind_eq_some_iff.mp H
      obtain ⟨⟨t102, t103, t104⟩, A110, H⟩ := H
      try dsimp only at H
      have A11 := aM A110
      clear A110
      by_cases c12 : 1 ≤ (a0.size : Int)
      ·rw [if_pos c12] at H
       have c12b0 := eq_true c12
       have c12b1 : decide (1 ≤ (a0.size : Int)) = true := decide_eq_true c12
       clear c12
       simp only [Option.some.injEq, Prod.mk.injEq] at H
       obtain ⟨rfl, rfl, rfl, rfl, rfl⟩ := H
       have p9 : 0 ≤ (0 : Int) := (by omega)
       have q9 : 0 < a0.size := (by have : (0 : Int) < (a0.size : Int) := dA; omega)
       have hx9 : ∀ h : 0 < a0.size, ((a0[0]'h).toNat : Int) = bt a0 0 := bt_at a0 0
       clear p9
       have qi9 : (0 < (a0.size : Int)) = True := eq_true (dA)
       replace q9 := eq_true q9
       try go_wp2
       have n_ := aJ (aM (blk_drew BK101.out)) (aM (below_drew1 HB.out))
       clear BK101 HB
       obtain ⟨BK101, HB⟩ := n_
       refine start_ (n := 6) (S := fun w' => True) (ds := []) (bs 0 6) (by kernel_rfl) rfl rfl trivial (fun hHeld => ?_)
       generalize wc.drew = w13 at BK101 HB hHeld ⊢
       refine pS (i := 1) (N := some 30) #[false, true, false, false, false, false] (by kernel_rfl) ?_
       refine pS (i := 2) (N := some 31) #[false, true, true, false, false, false] (by kernel_rfl) ?_
       refine one_ (i := 0) (N := some 29) (bs 3 3) rfl rfl (by kernel_rfl) (by decide) (fun K hK => ?_)
       refine goes_ Tryd.func35 (by kernel_rfl) rfl #[.int .i64 3] (by rfl) rfl rfl tA ?_
       with_reducible refine (impl_combOf.calls 3 t102 t103 t104 _ A11.out).mono ?_
       rintro e w14 ⟨v105, rfl, ho0, hb⟩
       refine ⟨_, rfl, ?_⟩
       have n_ := aJ (aM (Kd.N_lower (Kd.N_mono (ok' := fun k_ => (w.heap.size ≤ k_) ∧ k_ ≠ gb101) (Kd.R_N (Kd.R_bound ho0)) (fun k_ hk_ => ⟨(Nat.le_trans (below_size (pH HB)) hk_.2.1), (Kd.freshB BK101.out k_ hk_.2.1)⟩)) (below_size (pH HB)))) (aJ (aM (blk_below BK101.out hb)) (aM (below_step (pH HB) hb)))
       clear BK101 HB
       obtain ⟨HO106, BK101, HB⟩ := n_
       (try clear hb)
       (try clear hb2)
       (try clear hk)
       (try clear hi)
       (try clear ho0)
       obtain ⟨Ao17, co17, eo17⟩ := Kd.N_slice HO106.out
       (first | subst eo17 | (injection eo17 with f1_ f2_ f3_; have f4_ := f1_.symm; have f5_ := f3_.symm; clear f1_ f2_ f3_; subst f4_; subst f5_))
       refine hK.out _ _ trivial (fun hHeld => ?_)
       clear hK K
       refine norm_ (a' := ?_) ?_ ?_
       rotate_left
       ·show Act.put _ (some 29) _ = _
        simp only [sP, i64_w, i32_w]
        rfl
       refine one_ (i := 3) (N := none) (bs 4 2) rfl rfl (by kernel_rfl) (by decide) (fun K hK => ?_)
       have hs15 : w14.cell? ⟨gb101, 0, none⟩ = some (.int .i64 0) := (blk_cell BK101.out 0).trans rfl
       have hfs15 := blk_frozen BK101.out 0
       have hs16 : w14.cell? ⟨gb101, 1, none⟩ = some (.int .i64 0) := (blk_cell BK101.out 1).trans rfl
       have hfs16 := blk_frozen BK101.out 1
       have hs18 : w14.cell? ⟨gb101, 2, none⟩ = some (.slice none 0 0) := (blk_cell BK101.out 2).trans rfl
       have hfs18 := blk_frozen BK101.out 2
       refine skip_ (w1 := ?_) (by rfl) rfl ?_ ?_
       rotate_left
       ·go_simp
        rfl
       refine hK.out _ _ trivial (fun hHeld => ?_)
       clear hK K
       refine pS (i := 4) (N := some 5) (bs 5 1) (by kernel_rfl) ?_
       refine pS (i := 5) (N := some 6) (bs 6 0) (by kernel_rfl) ?_
       refine done_ (by kernel_rfl) ?_
       try go_wp2
       refine bodyPost_ret (results_ctt rfl _ _ gb101 45 #[.int .i64 t102, .int .i64 t103, .slice Ao17 t104.length co17] (0, 0) _ rfl (p3 BK101) Tryd.underlying45 rfl (by kernel_rfl)) rfl ?_
       exact ⟨_, eW, by (with_reducible repeat (first | apply Kd.N_alloc | apply Kd.N_drewN | apply Kd.N_drew)); exact Kd.N_mono (nF3 gb101 (Kd.N_mono HO106.out (fun k_ hk => (⟨hk, hk.2⟩ : _ ∧ k_ ≠ gb101))) (fun _ hk => hk.2)) (fun _ hk => hk.1.1), pH HB⟩
      ·rw [if_neg c12] at H
       exact absurd H (by simp)
     ·rw [if_neg c10] at H
      have c10b0 : ((bt a0 0) == 83) = false := beq_eq_false_iff_ne.mpr c10
      have c10b1 : ((bt a0 0) != 83) = true := bne_iff_ne.mpr c10
      by_cases c19 : (bt a0 0) = 75
      ·rw [if_pos c19] at H
       have c19b0 : ((bt a0 0) == 75) = true := beq_iff_eq.mpr c19
       have c19b1 : ((bt a0 0) != 75) = false := bne_eq_false_iff_eq.mpr c19
       clear c19
       replace H := Option.bind_eq_some_iff.mp H
       obtain ⟨⟨t107, t108, t109⟩, A200, H⟩ := H
       try dsimp only at H
       have A20 := aM A200
       clear A200
       by_cases c21 : 1 ≤ (a0.size : Int)
       ·rw [if_pos c21] at H
        have c21b0 := eq_true c21
        have c21b1 : decide (1 ≤ (a0.size : Int)) = true := decide_eq_true c21
        clear c21
        simp only [Option.some.injEq, Prod.mk.injEq] at H
        obtain ⟨rfl, rfl, rfl, rfl, rfl⟩ := H
        have p9 : 0 ≤ (0 : Int) := (by omega)
        have q9 : 0 < a0.size := (by have : (0 : Int) < (a0.size : Int) := dA; omega)
        have hx9 : ∀ h : 0 < a0.size, ((a0[0]'h).toNat : Int) = bt a0 0 := bt_at a0 0
        clear p9
        have qi9 : (0 < (a0.size : Int)) = True := eq_true (dA)
        replace q9 := eq_true q9
        try go_wp2
        have n_ := aJ (aM (blk_drew BK101.out)) (aM (below_drew1 HB.out))
        clear BK101 HB
        obtain ⟨BK101, HB⟩ := n_
        refine start_ (n := 6) (S := fun w' => True) (ds := []) (bs 0 6) (by kernel_rfl) rfl rfl trivial (fun hHeld => ?_)
        generalize wc.drew = w22 at BK101 HB hHeld ⊢
        refine pS (i := 1) (N := some 35) #[false, true, false, false, false, false] (by kernel_rfl) ?_
        refine pS (i := 2) (N := some 36) #[false, true, true, false, false, false] (by kernel_rfl) ?_
        refine one_ (i := 0) (N := some 34) (bs 3 3) rfl rfl (by kernel_rfl) (by decide) (fun K hK => ?_)
        refine goes_ Tryd.func35 (by kernel_rfl) rfl #[.int .i64 4] (by rfl) rfl rfl tA ?_
        with_reducible refine (impl_combOf.calls 4 t107 t108 t109 _ A20.out).mono ?_
        rintro e w23 ⟨v110, rfl, ho0, hb⟩
        refine ⟨_, rfl, ?_⟩
        have n_ := aJ (aM (Kd.N_lower (Kd.N_mono (ok' := fun k_ => (w.heap.size ≤ k_) ∧ k_ ≠ gb101) (Kd.R_N (Kd.R_bound ho0)) (fun k_ hk_ => ⟨(Nat.le_trans (below_size (pH HB)) hk_.2.1), (Kd.freshB BK101.out k_ hk_.2.1)⟩)) (below_size (pH HB)))) (aJ (aM (blk_below BK101.out hb)) (aM (below_step (pH HB) hb)))
        clear BK101 HB
        obtain ⟨HO111, BK101, HB⟩ := n_
        (try clear hb)
        (try clear hb2)
        (try clear hk)
        (try clear hi)
        (try clear ho0)
        obtain ⟨Ao26, co26, eo26⟩ := Kd.N_slice HO111.out
        (first | subst eo26 | (injection eo26 with f1_ f2_ f3_; have f4_ := f1_.symm; have f5_ := f3_.symm; clear f1_ f2_ f3_; subst f4_; subst f5_))
        refine hK.out _ _ trivial (fun hHeld => ?_)
        clear hK K
        refine norm_ (a' := ?_) ?_ ?_
        rotate_left
        ·show Act.put _ (some 34) _ = _
         simp only [sP, i64_w, i32_w]
         rfl
        refine one_ (i := 3) (N := none) (bs 4 2) rfl rfl (by kernel_rfl) (by decide) (fun K hK => ?_)
        have hs24 : w23.cell? ⟨gb101, 0, none⟩ = some (.int .i64 0) := (blk_cell BK101.out 0).trans rfl
        have hfs24 := blk_frozen BK101.out 0
        have hs25 : w23.cell? ⟨gb101, 1, none⟩ = some (.int .i64 0) := (blk_cell BK101.out 1).trans rfl
        have hfs25 := blk_frozen BK101.out 1
        have hs27 : w23.cell? ⟨gb101, 2, none⟩ = some (.slice none 0 0) := (blk_cell BK101.out 2).trans rfl
        have hfs27 := blk_frozen BK101.out 2
        refine skip_ (w1 := ?_) (by rfl) rfl ?_ ?_
        rotate_left
        ·go_simp
         rfl
        refine hK.out _ _ trivial (fun hHeld => ?_)
        clear hK K
        refine pS (i := 4) (N := some 5) (bs 5 1) (by kernel_rfl) ?_
        refine pS (i := 5) (N := some 6) (bs 6 0) (by kernel_rfl) ?_
        refine done_ (by kernel_rfl) ?_
        try go_wp2
        refine bodyPost_ret (results_ctt rfl _ _ gb101 45 #[.int .i64 t107, .int .i64 t108, .slice Ao26 t109.length co26] (0, 0) _ rfl (p3 BK101) Tryd.underlying45 rfl (by kernel_rfl)) rfl ?_
        exact ⟨_, eW, by (with_reducible repeat (first | apply Kd.N_alloc | apply Kd.N_drewN | apply Kd.N_drew)); exact Kd.N_mono (nF3 gb101 (Kd.N_mono HO111.out (fun k_ hk => (⟨hk, hk.2⟩ : _ ∧ k_ ≠ gb101))) (fun _ hk => hk.2)) (fun _ hk => hk.1.1), pH HB⟩
       ·rw [if_neg c21] at H
        exact absurd H (by simp)
      ·rw [if_neg c19] at H
       have c19b0 : ((bt a0 0) == 75) = false := beq_eq_false_iff_ne.mpr c19
       have c19b1 : ((bt a0 0) != 75) = true := bne_iff_ne.mpr c19
       by_cases c28 : (bt a0 0) = 73
       ·rw [if_pos c28] at H
        have c28b0 : ((bt a0 0) == 73) = true := beq_iff_eq.mpr c28
        have c28b1 : ((bt a0 0) != 73) = false := bne_eq_false_iff_eq.mpr c28
        clear c28
        replace H := Option.bind_eq_some_iff.mp H
        obtain ⟨⟨t112, t113, t114⟩, A290, H⟩ := H
        try dsimp only at H
        have A29 := aM A290
        clear A290
        by_cases c30 : 1 ≤ (a0.size : Int)
        ·rw [if_pos c30] at H
         have c30b0 := eq_true c30
         have c30b1 : decide (1 ≤ (a0.size : Int)) = true := decide_eq_true c30
         clear c30
         simp only [Option.some.injEq, Prod.mk.injEq] at H
         obtain ⟨rfl, rfl, rfl, rfl, rfl⟩ := H
         have p9 : 0 ≤ (0 : Int) := (by omega)
         have q9 : 0 < a0.size := (by have : (0 : Int) < (a0.size : Int) := dA; omega)
         have hx9 : ∀ h : 0 < a0.size, ((a0[0]'h).toNat : Int) = bt a0 0 := bt_at a0 0
         clear p9
         have qi9 : (0 < (a0.size : Int)) = True := eq_true (dA)
         replace q9 := eq_true q9
         try go_wp2
         have n_ := aJ (aM (blk_drew BK101.out)) (aM (below_drew1 HB.out))
         clear BK101 HB
         obtain ⟨BK101, HB⟩ := n_
         refine start_ (n := 6) (S := fun w' => True) (ds := []) (bs 0 6) (by kernel_rfl) rfl rfl trivial (fun hHeld => ?_)
         generalize wc.drew = w31 at BK101 HB hHeld ⊢
         refine pS (i := 1) (N := some 40) #[false, true, false, false, false, false] (by kernel_rfl) ?_
         refine pS (i := 2) (N := some 41) #[false, true, true, false, false, false] (by kernel_rfl) ?_
         refine one_ (i := 0) (N := some 39) (bs 3 3) rfl rfl (by kernel_rfl) (by decide) (fun K hK => ?_)
         refine goes_ Tryd.func35 (by kernel_rfl) rfl #[.int .i64 5] (by rfl) rfl rfl tA ?_
         with_reducible refine (impl_combOf.calls 5 t112 t113 t114 _ A29.out).mono ?_
         rintro e w32 ⟨v115, rfl, ho0, hb⟩
         refine ⟨_, rfl, ?_⟩
         have n_ := aJ (aM (Kd.N_lower (Kd.N_mono (ok' := fun k_ => (w.heap.size ≤ k_) ∧ k_ ≠ gb101) (Kd.R_N (Kd.R_bound ho0)) (fun k_ hk_ => ⟨(Nat.le_trans (below_size (pH HB)) hk_.2.1), (Kd.freshB BK101.out k_ hk_.2.1)⟩)) (below_size (pH HB)))) (aJ (aM (blk_below BK101.out hb)) (aM (below_step (pH HB) hb)))
         clear BK101 HB
         obtain ⟨HO116, BK101, HB⟩ := n_
         (try clear hb)
         (try clear hb2)
         (try clear hk)
         (try clear hi)
         (try clear ho0)
         obtain ⟨Ao35, co35, eo35⟩ := Kd.N_slice HO116.out
         (first | subst eo35 | (injection eo35 with f1_ f2_ f3_; have f4_ := f1_.symm; have f5_ := f3_.symm; clear f1_ f2_ f3_; subst f4_; subst f5_))
         refine hK.out _ _ trivial (fun hHeld => ?_)
         clear hK K
         refine norm_ (a' := ?_) ?_ ?_
         rotate_left
         ·show Act.put _ (some 39) _ = _
          simp only [sP, i64_w, i32_w]
          rfl
         refine one_ (i := 3) (N := none) (bs 4 2) rfl rfl (by kernel_rfl) (by decide) (fun K hK => ?_)
         have hs33 : w32.cell? ⟨gb101, 0, none⟩ = some (.int .i64 0) := (blk_cell BK101.out 0).trans rfl
         have hfs33 := blk_frozen BK101.out 0
         have hs34 : w32.cell? ⟨gb101, 1, none⟩ = some (.int .i64 0) := (blk_cell BK101.out 1).trans rfl
         have hfs34 := blk_frozen BK101.out 1
         have hs36 : w32.cell? ⟨gb101, 2, none⟩ = some (.slice none 0 0) := (blk_cell BK101.out 2).trans rfl
         have hfs36 := blk_frozen BK101.out 2
         refine skip_ (w1 := ?_) (by rfl) rfl ?_ ?_
         rotate_left
         ·go_simp
          rfl
         refine hK.out _ _ trivial (fun hHeld => ?_)
         clear hK K
         refine pS (i := 4) (N := some 5) (bs 5 1) (by kernel_rfl) ?_
         refine pS (i := 5) (N := some 6) (bs 6 0) (by kernel_rfl) ?_
         refine done_ (by kernel_rfl) ?_
         try go_wp2
         refine bodyPost_ret (results_ctt rfl _ _ gb101 45 #[.int .i64 t112, .int .i64 t113, .slice Ao35 t114.length co35] (0, 0) _ rfl (p3 BK101) Tryd.underlying45 rfl (by kernel_rfl)) rfl ?_
         exact ⟨_, eW, by (with_reducible repeat (first | apply Kd.N_alloc | apply Kd.N_drewN | apply Kd.N_drew)); exact Kd.N_mono (nF3 gb101 (Kd.N_mono HO116.out (fun k_ hk => (⟨hk, hk.2⟩ : _ ∧ k_ ≠ gb101))) (fun _ hk => hk.2)) (fun _ hk => hk.1.1), pH HB⟩
        ·rw [if_neg c30] at H
         exact absurd H (by simp)
       ·rw [if_neg c28] at H
        have c28b0 : ((bt a0 0) == 73) = false := beq_eq_false_iff_ne.mpr c28
        have c28b1 : ((bt a0 0) != 73) = true := bne_iff_ne.mpr c28
        by_cases c37 : (bt a0 0) = 40
        ·rw [if_pos c37] at H
         have c37b0 : ((bt a0 0) == 40) = true := beq_iff_eq.mpr c37
         have c37b1 : ((bt a0 0) != 40) = false := bne_eq_false_iff_eq.mpr c37
         clear c37
         by_cases c38 : 1 ≤ (a0.size : Int)
         ·rw [if_pos c38] at H
          have c38b0 := eq_true c38
          have c38b1 : decide (1 ≤ (a0.size : Int)) = true := decide_eq_true c38
          clear c38
          replace H := Option.bind_eq_some_iff.mp H
          obtain ⟨⟨t117, t118, t119, t122, t123⟩, A390, H⟩ := H
          try dsimp only at H
          have A39 := aM A390
          clear A390
          replace H := Option.bind_eq_some_iff.mp H
          obtain ⟨⟨t125, t126⟩, A400, H⟩ := H
          try dsimp only at H
          have A40 := aM A400
          clear A400
          replace H := Option.bind_eq_some_iff.mp H
          obtain ⟨⟨t127, t128, t129, t132, t133⟩, A410, H⟩ := H
          try dsimp only at H
          have A41 := aM A410
          clear A410
          replace H := Option.bind_eq_some_iff.mp H
          obtain ⟨⟨t135, t136⟩, A420, H⟩ := H
          try dsimp only at H
          have A42 := aM A420
          clear A420
          replace H := Option.bind_eq_some_iff.mp H
          obtain ⟨⟨t137, t138, t139⟩, A430, H⟩ := H
          try dsimp only at H
          have A43 := aM A430
          clear A430
          by_cases c44 : t123 = true
          ·subst c44
           rw [if_pos rfl] at H
           by_cases c45 : t126 = true
           ·subst c45
            rw [if_pos rfl] at H
            by_cases c46 : t133 = true
            ·subst c46
             rw [if_pos rfl] at H
             simp only [Option.some.injEq, Prod.mk.injEq] at H
             obtain ⟨rfl, rfl, rfl, rfl, rfl⟩ := H
             have p9 : 0 ≤ (0 : Int) := (by omega)
             have q9 : 0 < a0.size := (by have : (0 : Int) < (a0.size : Int) := dA; omega)
             have hx9 : ∀ h : 0 < a0.size, ((a0[0]'h).toNat : Int) = bt a0 0 := bt_at a0 0
             clear p9
             have qi9 : (0 < (a0.size : Int)) = True := eq_true (dA)
             replace q9 := eq_true q9
             go_wp2_with (first | ((with_reducible refine gate_callee (f := 20) rfl ?_); refine goesL_ (some 49) rfl rfl Tryd.func20 (by kernel_rfl) rfl #[.string (a0.extract 1 a0.size), .int .i64 (wrap64 (a1 + 1))] rfl tA ?_; (with_reducible refine (ih kj2 (by have := HJ2.out; omega) (a0.extract 1 a0.size) (wrap64 (a1 + 1)) t117 t118 t119 t122 true _ A39.out (HE.out.below (pH HB))).mono ?_); rintro e w47 ⟨v120, rfl, ho0, hb⟩; refine ⟨_, rfl, ?_⟩; have HO121 := aK (Kd.N_lower (Kd.N_mono (ok' := fun k_ => (w.heap.size ≤ k_) ∧ k_ ≠ gb101) ho0 (fun k_ hk_ => ⟨(Nat.le_trans (below_size HB.out) hk_), (Kd.freshB BK101.out k_ hk_)⟩)) (below_size HB.out)); replace BK101 := qb BK101 hb; replace HB := qs HB hb; (try clear hb); (try clear ho0)) | ((with_reducible refine gate_dst (N := 7) rfl ?_); refine bE (N := 7) (cs := #[.int .i64 0, .int .i64 0, .slice none 0 0]) (t := 45) ?_; intro gb124 hg w48 hbox hb; have GW124 := qw HB hg; have GE124 := qw HB hg; have NB101_124 := ql BK101 hg; have NB124_101 := qg BK101 hg; replace HO121 := qn HO121 hg hb; replace BK101 := qb BK101 hb; have BK124 := aK hbox; replace HB := qs HB hb; clear hb hbox hg; have hnb49 := NB124_101.out; have hnc49 := NB101_124.out; obtain ⟨hcz50_0, hcz50_1, hcz50_2, hfz50_0, hfz50_1, hfz50_2⟩ := cA3 BK124; obtain ⟨Ao51, co51, eo51⟩ := Kd.N_slice HO121.out; subst eo51) | ((with_reducible refine gate_callee (f := 36) rfl ?_); refine goesL_ (some 55) rfl rfl Tryd.func36 (by kernel_rfl) rfl #[.string t122, .string (⟨#[32]⟩ : ByteArray)] rfl tA ?_; (with_reducible refine (strings_CutPrefix.calls t122 (⟨#[32]⟩ : ByteArray) t125 true _ A40.out).mono ?_); rintro e w52 ⟨rfl, hb⟩; refine ⟨_, rfl, ?_⟩; have n_ := aJ (aM (Kd.N_below (by (with_reducible repeat (first | apply Kd.N_alloc | apply Kd.N_drewN | apply Kd.N_drew)); exact (Kd.N_mono (nF3 gb124 (Kd.N_mono HO121.out (fun k_ hk => (⟨hk, hk.2⟩ : _ ∧ k_ ≠ gb124))) (fun _ hk => hk.2)) (fun _ h_ => h_.1))) hb)) (aJ (aM (blk_below (g := gb101) (o := .cells #[.int .i64 0, .int .i64 0, .slice none 0 0] 45 (0, 0)) (by (repeat first | with_reducible apply zN | with_reducible apply zD | with_reducible apply zA | refine blk_far ?_ NB101_124.out _); exact BK101.out) hb)) (aJ (aM (blk_below (g := gb124) (o := .cells #[.int .i64 t117, .int .i64 t118, .slice Ao51 t119.length co51] 45 (0, 0)) (p3 BK124) hb)) (aM (below_step (pH HB) hb)))); clear HO121 BK101 BK124 HB; obtain ⟨HO121, BK101, BK124, HB⟩ := n_; (try clear hb)) | ((with_reducible refine gate_callee (f := 20) rfl ?_); refine goesL_ (some 62) rfl rfl Tryd.func20 (by kernel_rfl) rfl #[.string t125, .int .i64 (wrap64 (a1 + 1))] rfl tA ?_; (with_reducible refine (ih kj2 (by have := HJ2.out; omega) t125 (wrap64 (a1 + 1)) t127 t128 t129 t132 true _ A41.out (HE.out.below (pH HB))).mono ?_); rintro e w53 ⟨v130, rfl, ho0, hb⟩; refine ⟨_, rfl, ?_⟩; have n0_ := aK (Kd.N_elder' HO121.out (Kd.N_base ho0) hb); have HO131 := aK (Kd.N_lower (Kd.N_mono (ok' := fun k_ => (w.heap.size ≤ k_) ∧ some k_ ≠ (.slice Ao51 t119.length co51 : Value).ownBlock ∧ k_ ≠ gb101 ∧ k_ ≠ gb124) ho0 (fun k_ hk_ => ⟨(Nat.le_trans (below_size HB.out) hk_), (Kd.fresh' (Kd.N_lt HO121.out) k_ hk_), (Kd.freshB BK101.out k_ hk_), (Kd.freshB BK124.out k_ hk_)⟩)) (below_size HB.out)); replace BK101 := qb BK101 hb; replace BK124 := qb BK124 hb; clear HO121; have HO121 := n0_; clear n0_; replace HB := qs HB hb; (try clear hb); (try clear ho0)) | ((with_reducible refine gate_dst (N := 11) rfl ?_); refine bE (N := 11) (cs := #[.int .i64 0, .int .i64 0, .slice none 0 0]) (t := 45) ?_; intro gb134 hg w54 hbox hb; have GW134 := qw HB hg; have GE134 := qw HB hg; have NB101_134 := ql BK101 hg; have NB134_101 := qg BK101 hg; have NB124_134 := ql BK124 hg; have NB134_124 := qg BK124 hg; replace HO121 := qn HO121 hg hb; replace HO131 := qn HO131 hg hb; replace BK101 := qb BK101 hb; replace BK124 := qb BK124 hb; have BK134 := aK hbox; replace HB := qs HB hb; clear hb hbox hg; have hnb55 := NB134_101.out; have hnc55 := NB101_134.out; have hnb56 := NB134_124.out; have hnc56 := NB124_134.out; obtain ⟨hcz57_0, hcz57_1, hcz57_2, hfz57_0, hfz57_1, hfz57_2⟩ := cA3 BK134; obtain ⟨Ao58, co58, eo58⟩ := Kd.N_slice HO131.out; subst eo58) | ((with_reducible refine gate_callee (f := 36) rfl ?_); refine goesL_ (some 68) rfl rfl Tryd.func36 (by kernel_rfl) rfl #[.string t132, .string (⟨#[41]⟩ : ByteArray)] rfl tA ?_; (with_reducible refine (strings_CutPrefix.calls t132 (⟨#[41]⟩ : ByteArray) t135 t136 _ A42.out).mono ?_); rintro e w59 ⟨rfl, hb⟩; refine ⟨_, rfl, ?_⟩; have n_ := aJ (aM (Kd.N_below (by (with_reducible repeat (first | apply Kd.N_alloc | apply Kd.N_drewN | apply Kd.N_drew)); exact (Kd.N_mono (nF3 gb134 (Kd.N_mono HO121.out (fun k_ hk => (⟨hk, hk.2⟩ : _ ∧ k_ ≠ gb134))) (fun _ hk => hk.2)) (fun _ h_ => h_.1))) hb)) (aJ (aM (Kd.N_below (by (with_reducible repeat (first | apply Kd.N_alloc | apply Kd.N_drewN | apply Kd.N_drew)); exact (Kd.N_mono (nF3 gb134 (Kd.N_mono HO131.out (fun k_ hk => (⟨hk, hk.2⟩ : _ ∧ k_ ≠ gb134))) (fun _ hk => hk.2)) (fun _ h_ => h_.1))) hb)) (aJ (aM (blk_below (g := gb101) (o := .cells #[.int .i64 0, .int .i64 0, .slice none 0 0] 45 (0, 0)) (by (repeat first | with_reducible apply zN | with_reducible apply zD | with_reducible apply zA | refine blk_far ?_ NB101_134.out _); exact BK101.out) hb)) (aJ (aM (blk_below (g := gb124) (o := .cells #[.int .i64 t117, .int .i64 t118, .slice Ao51 t119.length co51] 45 (0, 0)) (by (repeat first | with_reducible apply zN | with_reducible apply zD | with_reducible apply zA | refine blk_far ?_ NB124_134.out _); exact BK124.out) hb)) (aJ (aM (blk_below (g := gb134) (o := .cells #[.int .i64 t127, .int .i64 t128, .slice Ao58 t129.length co58] 45 (0, 0)) (p3 BK134) hb)) (aM (below_step (pH HB) hb)))))); clear HO121 HO131 BK101 BK124 BK134 HB; obtain ⟨HO121, HO131, BK101, BK124, BK134, HB⟩ := n_; (try clear hb); obtain ⟨hcz60_0, hcz60_1, hcz60_2, hfz60_0, hfz60_1, hfz60_2⟩ := cA3 BK124; obtain ⟨hcz61_0, hcz61_1, hcz61_2, hfz61_0, hfz61_1, hfz61_2⟩ := cA3 BK134) | ((with_reducible refine gate_callee (f := 37) rfl ?_); refine goesL_ (some 73) rfl rfl Tryd.func37 (by kernel_rfl) rfl #[.agg #[.int .i64 t117, .int .i64 t118, .slice Ao51 t119.length co51], .agg #[.int .i64 t127, .int .i64 t128, .slice Ao58 t129.length co58]] rfl tA ?_; (with_reducible refine (impl_combApp.calls t117 t118 (fun k_ => (((((w.heap.size ≤ k_) ∧ k_ ≠ gb101) ∧ k_ ≠ gb124) ∧ some k_ ≠ (.slice Ao58 t129.length co58 : Value).ownBlock) ∧ k_ ≠ gb134)) _ _ t119 t127 t128 (fun k_ => (((w.heap.size ≤ k_) ∧ (some k_ ≠ (.slice Ao51 t119.length co51 : Value).ownBlock ∧ (k_ ≠ gb101 ∧ k_ ≠ gb124))) ∧ k_ ≠ gb134)) _ _ t129 t137 t138 t139 _ ?side1 ?side2 A43.out).mono ?_); (case side1 => exact Kd.N_V (HO121.out)); (case side2 => exact Kd.N_V (HO131.out)); rintro e w62 ⟨v140, rfl, ho0, hb⟩; refine ⟨_, rfl, ?_⟩; have n0_ := aK (Kd.N_elder' HO121.out (Kd.N_base ho0) hb); have n1_ := aK (Kd.N_elder' HO131.out (Kd.N_base ho0) hb); have HO141 := aK (Kd.N_lower (Kd.N_mono (ok' := fun k_ => (w.heap.size ≤ k_) ∧ k_ ≠ gb101 ∧ k_ ≠ gb124 ∧ k_ ≠ gb134) ho0 (fun k_ hk_ => ⟨Or.elim hk_ (fun hs_ => Or.elim hs_ (fun hs_ => hs_.1.1.1.1) (fun hs_ => hs_.1.1)) (fun hn_ => (Nat.le_trans (below_size HB.out) hn_)), Or.elim hk_ (fun hs_ => Or.elim hs_ (fun hs_ => hs_.1.1.1.2) (fun hs_ => hs_.1.2.2.1)) (fun hn_ => (Kd.freshB BK101.out k_ hn_)), Or.elim hk_ (fun hs_ => Or.elim hs_ (fun hs_ => hs_.1.1.2) (fun hs_ => hs_.1.2.2.2)) (fun hn_ => (Kd.freshB BK124.out k_ hn_)), Or.elim hk_ (fun hs_ => Or.elim hs_ (fun hs_ => hs_.2) (fun hs_ => hs_.2)) (fun hn_ => (Kd.freshB BK134.out k_ hn_))⟩)) (below_size HB.out)); replace BK101 := qb BK101 hb; replace BK124 := qb BK124 hb; replace BK134 := qb BK134 hb; clear HO121; have HO121 := n0_; clear n0_; clear HO131; have HO131 := n1_; clear n1_; replace HB := qs HB hb; (try clear hb); (try clear ho0); obtain ⟨hcz63_0, hcz63_1, hcz63_2, hfz63_0, hfz63_1, hfz63_2⟩ := cA3 BK101; obtain ⟨Ao64, co64, eo64⟩ := Kd.N_slice HO141.out; subst eo64))
             refine bodyPost_ret (results_ctt rfl _ _ gb101 45 #[.int .i64 t137, .int .i64 t138, .slice Ao64 t139.length co64] (0, 0) _ rfl (p3 BK101) Tryd.underlying45 rfl (by kernel_rfl)) rfl ?_
             exact ⟨_, eW, by (with_reducible repeat (first | apply Kd.N_alloc | apply Kd.N_drewN | apply Kd.N_drew)); exact Kd.N_mono (nF3 gb101 (Kd.N_mono HO141.out (fun k_ hk => (⟨hk, hk.2.1⟩ : _ ∧ k_ ≠ gb101))) (fun _ hk => hk.2)) (fun _ hk => hk.1.1), pH HB⟩
            ·replace c46 := Bool.eq_false_iff.mpr c46
             subst c46
             rw [if_neg (show ¬ (false = true) by decide)] at H
             simp only [Option.some.injEq, Prod.mk.injEq] at H
             obtain ⟨rfl, rfl, rfl, rfl, rfl⟩ := H
             have p9 : 0 ≤ (0 : Int) := (by omega)
             have q9 : 0 < a0.size := (by have : (0 : Int) < (a0.size : Int) := dA; omega)
             have hx9 : ∀ h : 0 < a0.size, ((a0[0]'h).toNat : Int) = bt a0 0 := bt_at a0 0
             clear p9
             have qi9 : (0 < (a0.size : Int)) = True := eq_true (dA)
             replace q9 := eq_true q9
             go_wp2_with (first | ((with_reducible refine gate_callee (f := 20) rfl ?_); refine goesL_ (some 49) rfl rfl Tryd.func20 (by kernel_rfl) rfl #[.string (a0.extract 1 a0.size), .int .i64 (wrap64 (a1 + 1))] rfl tA ?_; (with_reducible refine (ih kj2 (by have := HJ2.out; omega) (a0.extract 1 a0.size) (wrap64 (a1 + 1)) t117 t118 t119 t122 true _ A39.out (HE.out.below (pH HB))).mono ?_); rintro e w65 ⟨v120, rfl, ho0, hb⟩; refine ⟨_, rfl, ?_⟩; have HO121 := aK (Kd.N_lower (Kd.N_mono (ok' := fun k_ => (w.heap.size ≤ k_) ∧ k_ ≠ gb101) ho0 (fun k_ hk_ => ⟨(Nat.le_trans (below_size HB.out) hk_), (Kd.freshB BK101.out k_ hk_)⟩)) (below_size HB.out)); replace BK101 := qb BK101 hb; replace HB := qs HB hb; (try clear hb); (try clear ho0)) | ((with_reducible refine gate_dst (N := 7) rfl ?_); refine bE (N := 7) (cs := #[.int .i64 0, .int .i64 0, .slice none 0 0]) (t := 45) ?_; intro gb124 hg w66 hbox hb; have GW124 := qw HB hg; have GE124 := qw HB hg; have NB101_124 := ql BK101 hg; have NB124_101 := qg BK101 hg; replace HO121 := qn HO121 hg hb; replace BK101 := qb BK101 hb; have BK124 := aK hbox; replace HB := qs HB hb; clear hb hbox hg; have hnb67 := NB124_101.out; have hnc67 := NB101_124.out; obtain ⟨hcz68_0, hcz68_1, hcz68_2, hfz68_0, hfz68_1, hfz68_2⟩ := cA3 BK124; obtain ⟨Ao69, co69, eo69⟩ := Kd.N_slice HO121.out; subst eo69) | ((with_reducible refine gate_callee (f := 36) rfl ?_); refine goesL_ (some 55) rfl rfl Tryd.func36 (by kernel_rfl) rfl #[.string t122, .string (⟨#[32]⟩ : ByteArray)] rfl tA ?_; (with_reducible refine (strings_CutPrefix.calls t122 (⟨#[32]⟩ : ByteArray) t125 true _ A40.out).mono ?_); rintro e w70 ⟨rfl, hb⟩; refine ⟨_, rfl, ?_⟩; have n_ := aJ (aM (Kd.N_below (by (with_reducible repeat (first | apply Kd.N_alloc | apply Kd.N_drewN | apply Kd.N_drew)); exact (Kd.N_mono (nF3 gb124 (Kd.N_mono HO121.out (fun k_ hk => (⟨hk, hk.2⟩ : _ ∧ k_ ≠ gb124))) (fun _ hk => hk.2)) (fun _ h_ => h_.1))) hb)) (aJ (aM (blk_below (g := gb101) (o := .cells #[.int .i64 0, .int .i64 0, .slice none 0 0] 45 (0, 0)) (by (repeat first | with_reducible apply zN | with_reducible apply zD | with_reducible apply zA | refine blk_far ?_ NB101_124.out _); exact BK101.out) hb)) (aJ (aM (blk_below (g := gb124) (o := .cells #[.int .i64 t117, .int .i64 t118, .slice Ao69 t119.length co69] 45 (0, 0)) (p3 BK124) hb)) (aM (below_step (pH HB) hb)))); clear HO121 BK101 BK124 HB; obtain ⟨HO121, BK101, BK124, HB⟩ := n_; (try clear hb)) | ((with_reducible refine gate_callee (f := 20) rfl ?_); refine goesL_ (some 62) rfl rfl Tryd.func20 (by kernel_rfl) rfl #[.string t125, .int .i64 (wrap64 (a1 + 1))] rfl tA ?_; (with_reducible refine (ih kj2 (by have := HJ2.out; omega) t125 (wrap64 (a1 + 1)) t127 t128 t129 t132 false _ A41.out (HE.out.below (pH HB))).mono ?_); rintro e w71 ⟨v130, rfl, ho0, hb⟩; refine ⟨_, rfl, ?_⟩; have n0_ := aK (Kd.N_elder' HO121.out (Kd.N_base ho0) hb); have HO131 := aK (Kd.N_lower (Kd.N_mono (ok' := fun k_ => (w.heap.size ≤ k_) ∧ some k_ ≠ (.slice Ao69 t119.length co69 : Value).ownBlock ∧ k_ ≠ gb101 ∧ k_ ≠ gb124) ho0 (fun k_ hk_ => ⟨(Nat.le_trans (below_size HB.out) hk_), (Kd.fresh' (Kd.N_lt HO121.out) k_ hk_), (Kd.freshB BK101.out k_ hk_), (Kd.freshB BK124.out k_ hk_)⟩)) (below_size HB.out)); replace BK101 := qb BK101 hb; replace BK124 := qb BK124 hb; clear HO121; have HO121 := n0_; clear n0_; replace HB := qs HB hb; (try clear hb); (try clear ho0)) | ((with_reducible refine gate_dst (N := 11) rfl ?_); refine bE (N := 11) (cs := #[.int .i64 0, .int .i64 0, .slice none 0 0]) (t := 45) ?_; intro gb134 hg w72 hbox hb; have GW134 := qw HB hg; have GE134 := qw HB hg; have NB101_134 := ql BK101 hg; have NB134_101 := qg BK101 hg; have NB124_134 := ql BK124 hg; have NB134_124 := qg BK124 hg; replace HO121 := qn HO121 hg hb; replace HO131 := qn HO131 hg hb; replace BK101 := qb BK101 hb; replace BK124 := qb BK124 hb; have BK134 := aK hbox; replace HB := qs HB hb; clear hb hbox hg; have hnb73 := NB134_101.out; have hnc73 := NB101_134.out; have hnb74 := NB134_124.out; have hnc74 := NB124_134.out; obtain ⟨hcz75_0, hcz75_1, hcz75_2, hfz75_0, hfz75_1, hfz75_2⟩ := cA3 BK134; obtain ⟨Ao76, co76, eo76⟩ := Kd.N_slice HO131.out; subst eo76) | ((with_reducible refine gate_callee (f := 36) rfl ?_); refine goesL_ (some 68) rfl rfl Tryd.func36 (by kernel_rfl) rfl #[.string t132, .string (⟨#[41]⟩ : ByteArray)] rfl tA ?_; (with_reducible refine (strings_CutPrefix.calls t132 (⟨#[41]⟩ : ByteArray) t135 t136 _ A42.out).mono ?_); rintro e w77 ⟨rfl, hb⟩; refine ⟨_, rfl, ?_⟩; have n_ := aJ (aM (Kd.N_below (by (with_reducible repeat (first | apply Kd.N_alloc | apply Kd.N_drewN | apply Kd.N_drew)); exact (Kd.N_mono (nF3 gb134 (Kd.N_mono HO121.out (fun k_ hk => (⟨hk, hk.2⟩ : _ ∧ k_ ≠ gb134))) (fun _ hk => hk.2)) (fun _ h_ => h_.1))) hb)) (aJ (aM (Kd.N_below (by (with_reducible repeat (first | apply Kd.N_alloc | apply Kd.N_drewN | apply Kd.N_drew)); exact (Kd.N_mono (nF3 gb134 (Kd.N_mono HO131.out (fun k_ hk => (⟨hk, hk.2⟩ : _ ∧ k_ ≠ gb134))) (fun _ hk => hk.2)) (fun _ h_ => h_.1))) hb)) (aJ (aM (blk_below (g := gb101) (o := .cells #[.int .i64 0, .int .i64 0, .slice none 0 0] 45 (0, 0)) (by (repeat first | with_reducible apply zN | with_reducible apply zD | with_reducible apply zA | refine blk_far ?_ NB101_134.out _); exact BK101.out) hb)) (aJ (aM (blk_below (g := gb124) (o := .cells #[.int .i64 t117, .int .i64 t118, .slice Ao69 t119.length co69] 45 (0, 0)) (by (repeat first | with_reducible apply zN | with_reducible apply zD | with_reducible apply zA | refine blk_far ?_ NB124_134.out _); exact BK124.out) hb)) (aJ (aM (blk_below (g := gb134) (o := .cells #[.int .i64 t127, .int .i64 t128, .slice Ao76 t129.length co76] 45 (0, 0)) (p3 BK134) hb)) (aM (below_step (pH HB) hb)))))); clear HO121 HO131 BK101 BK124 BK134 HB; obtain ⟨HO121, HO131, BK101, BK124, BK134, HB⟩ := n_; (try clear hb); obtain ⟨hcz78_0, hcz78_1, hcz78_2, hfz78_0, hfz78_1, hfz78_2⟩ := cA3 BK124; obtain ⟨hcz79_0, hcz79_1, hcz79_2, hfz79_0, hfz79_1, hfz79_2⟩ := cA3 BK134) | ((with_reducible refine gate_callee (f := 37) rfl ?_); refine goesL_ (some 73) rfl rfl Tryd.func37 (by kernel_rfl) rfl #[.agg #[.int .i64 t117, .int .i64 t118, .slice Ao69 t119.length co69], .agg #[.int .i64 t127, .int .i64 t128, .slice Ao76 t129.length co76]] rfl tA ?_; (with_reducible refine (impl_combApp.calls t117 t118 (fun k_ => (((((w.heap.size ≤ k_) ∧ k_ ≠ gb101) ∧ k_ ≠ gb124) ∧ some k_ ≠ (.slice Ao76 t129.length co76 : Value).ownBlock) ∧ k_ ≠ gb134)) _ _ t119 t127 t128 (fun k_ => (((w.heap.size ≤ k_) ∧ (some k_ ≠ (.slice Ao69 t119.length co69 : Value).ownBlock ∧ (k_ ≠ gb101 ∧ k_ ≠ gb124))) ∧ k_ ≠ gb134)) _ _ t129 t137 t138 t139 _ ?side1 ?side2 A43.out).mono ?_); (case side1 => exact Kd.N_V (HO121.out)); (case side2 => exact Kd.N_V (HO131.out)); rintro e w80 ⟨v140, rfl, ho0, hb⟩; refine ⟨_, rfl, ?_⟩; have n0_ := aK (Kd.N_elder' HO121.out (Kd.N_base ho0) hb); have n1_ := aK (Kd.N_elder' HO131.out (Kd.N_base ho0) hb); have HO141 := aK (Kd.N_lower (Kd.N_mono (ok' := fun k_ => (w.heap.size ≤ k_) ∧ k_ ≠ gb101 ∧ k_ ≠ gb124 ∧ k_ ≠ gb134) ho0 (fun k_ hk_ => ⟨Or.elim hk_ (fun hs_ => Or.elim hs_ (fun hs_ => hs_.1.1.1.1) (fun hs_ => hs_.1.1)) (fun hn_ => (Nat.le_trans (below_size HB.out) hn_)), Or.elim hk_ (fun hs_ => Or.elim hs_ (fun hs_ => hs_.1.1.1.2) (fun hs_ => hs_.1.2.2.1)) (fun hn_ => (Kd.freshB BK101.out k_ hn_)), Or.elim hk_ (fun hs_ => Or.elim hs_ (fun hs_ => hs_.1.1.2) (fun hs_ => hs_.1.2.2.2)) (fun hn_ => (Kd.freshB BK124.out k_ hn_)), Or.elim hk_ (fun hs_ => Or.elim hs_ (fun hs_ => hs_.2) (fun hs_ => hs_.2)) (fun hn_ => (Kd.freshB BK134.out k_ hn_))⟩)) (below_size HB.out)); replace BK101 := qb BK101 hb; replace BK124 := qb BK124 hb; replace BK134 := qb BK134 hb; clear HO121; have HO121 := n0_; clear n0_; clear HO131; have HO131 := n1_; clear n1_; replace HB := qs HB hb; (try clear hb); (try clear ho0); obtain ⟨hcz81_0, hcz81_1, hcz81_2, hfz81_0, hfz81_1, hfz81_2⟩ := cA3 BK101; obtain ⟨Ao82, co82, eo82⟩ := Kd.N_slice HO141.out; subst eo82))
             refine bodyPost_ret (results_ctt rfl _ _ gb101 45 #[.int .i64 t137, .int .i64 t138, .slice Ao82 t139.length co82] (0, 0) _ rfl (p3 BK101) Tryd.underlying45 rfl (by kernel_rfl)) rfl ?_
             exact ⟨_, eW, by (with_reducible repeat (first | apply Kd.N_alloc | apply Kd.N_drewN | apply Kd.N_drew)); exact Kd.N_mono (nF3 gb101 (Kd.N_mono HO141.out (fun k_ hk => (⟨hk, hk.2.1⟩ : _ ∧ k_ ≠ gb101))) (fun _ hk => hk.2)) (fun _ hk => hk.1.1), pH HB⟩
           ·replace c45 := Bool.eq_false_iff.mpr c45
            subst c45
            rw [if_neg (show ¬ (false = true) by decide)] at H
            simp only [Option.some.injEq, Prod.mk.injEq] at H
            obtain ⟨rfl, rfl, rfl, rfl, rfl⟩ := H
            have p9 : 0 ≤ (0 : Int) := (by omega)
            have q9 : 0 < a0.size := (by have : (0 : Int) < (a0.size : Int) := dA; omega)
            have hx9 : ∀ h : 0 < a0.size, ((a0[0]'h).toNat : Int) = bt a0 0 := bt_at a0 0
            clear p9
            have qi9 : (0 < (a0.size : Int)) = True := eq_true (dA)
            replace q9 := eq_true q9
            go_wp2_with (first | ((with_reducible refine gate_callee (f := 20) rfl ?_); refine goesL_ (some 49) rfl rfl Tryd.func20 (by kernel_rfl) rfl #[.string (a0.extract 1 a0.size), .int .i64 (wrap64 (a1 + 1))] rfl tA ?_; (with_reducible refine (ih kj2 (by have := HJ2.out; omega) (a0.extract 1 a0.size) (wrap64 (a1 + 1)) t117 t118 t119 t122 true _ A39.out (HE.out.below (pH HB))).mono ?_); rintro e w83 ⟨v120, rfl, ho0, hb⟩; refine ⟨_, rfl, ?_⟩; have HO121 := aK (Kd.N_lower (Kd.N_mono (ok' := fun k_ => (w.heap.size ≤ k_) ∧ k_ ≠ gb101) ho0 (fun k_ hk_ => ⟨(Nat.le_trans (below_size HB.out) hk_), (Kd.freshB BK101.out k_ hk_)⟩)) (below_size HB.out)); replace BK101 := qb BK101 hb; replace HB := qs HB hb; (try clear hb); (try clear ho0)) | ((with_reducible refine gate_dst (N := 7) rfl ?_); refine bE (N := 7) (cs := #[.int .i64 0, .int .i64 0, .slice none 0 0]) (t := 45) ?_; intro gb124 hg w84 hbox hb; have GW124 := qw HB hg; have GE124 := qw HB hg; have NB101_124 := ql BK101 hg; have NB124_101 := qg BK101 hg; replace HO121 := qn HO121 hg hb; replace BK101 := qb BK101 hb; have BK124 := aK hbox; replace HB := qs HB hb; clear hb hbox hg; have hnb85 := NB124_101.out; have hnc85 := NB101_124.out; obtain ⟨hcz86_0, hcz86_1, hcz86_2, hfz86_0, hfz86_1, hfz86_2⟩ := cA3 BK124; obtain ⟨Ao87, co87, eo87⟩ := Kd.N_slice HO121.out; subst eo87) | ((with_reducible refine gate_callee (f := 36) rfl ?_); refine goesL_ (some 55) rfl rfl Tryd.func36 (by kernel_rfl) rfl #[.string t122, .string (⟨#[32]⟩ : ByteArray)] rfl tA ?_; (with_reducible refine (strings_CutPrefix.calls t122 (⟨#[32]⟩ : ByteArray) t125 false _ A40.out).mono ?_); rintro e w88 ⟨rfl, hb⟩; refine ⟨_, rfl, ?_⟩; have n_ := aJ (aM (Kd.N_below (by (with_reducible repeat (first | apply Kd.N_alloc | apply Kd.N_drewN | apply Kd.N_drew)); exact (Kd.N_mono (nF3 gb124 (Kd.N_mono HO121.out (fun k_ hk => (⟨hk, hk.2⟩ : _ ∧ k_ ≠ gb124))) (fun _ hk => hk.2)) (fun _ h_ => h_.1))) hb)) (aJ (aM (blk_below (g := gb101) (o := .cells #[.int .i64 0, .int .i64 0, .slice none 0 0] 45 (0, 0)) (by (repeat first | with_reducible apply zN | with_reducible apply zD | with_reducible apply zA | refine blk_far ?_ NB101_124.out _); exact BK101.out) hb)) (aJ (aM (blk_below (g := gb124) (o := .cells #[.int .i64 t117, .int .i64 t118, .slice Ao87 t119.length co87] 45 (0, 0)) (p3 BK124) hb)) (aM (below_step (pH HB) hb)))); clear HO121 BK101 BK124 HB; obtain ⟨HO121, BK101, BK124, HB⟩ := n_; (try clear hb)) | ((with_reducible refine gate_callee (f := 20) rfl ?_); refine goesL_ (some 62) rfl rfl Tryd.func20 (by kernel_rfl) rfl #[.string t125, .int .i64 (wrap64 (a1 + 1))] rfl tA ?_; (with_reducible refine (ih kj2 (by have := HJ2.out; omega) t125 (wrap64 (a1 + 1)) t127 t128 t129 t132 t133 _ A41.out (HE.out.below (pH HB))).mono ?_); rintro e w89 ⟨v130, rfl, ho0, hb⟩; refine ⟨_, rfl, ?_⟩; have n0_ := aK (Kd.N_elder' HO121.out (Kd.N_base ho0) hb); have HO131 := aK (Kd.N_lower (Kd.N_mono (ok' := fun k_ => (w.heap.size ≤ k_) ∧ some k_ ≠ (.slice Ao87 t119.length co87 : Value).ownBlock ∧ k_ ≠ gb101 ∧ k_ ≠ gb124) ho0 (fun k_ hk_ => ⟨(Nat.le_trans (below_size HB.out) hk_), (Kd.fresh' (Kd.N_lt HO121.out) k_ hk_), (Kd.freshB BK101.out k_ hk_), (Kd.freshB BK124.out k_ hk_)⟩)) (below_size HB.out)); replace BK101 := qb BK101 hb; replace BK124 := qb BK124 hb; clear HO121; have HO121 := n0_; clear n0_; replace HB := qs HB hb; (try clear hb); (try clear ho0)) | ((with_reducible refine gate_dst (N := 11) rfl ?_); refine bE (N := 11) (cs := #[.int .i64 0, .int .i64 0, .slice none 0 0]) (t := 45) ?_; intro gb134 hg w90 hbox hb; have GW134 := qw HB hg; have GE134 := qw HB hg; have NB101_134 := ql BK101 hg; have NB134_101 := qg BK101 hg; have NB124_134 := ql BK124 hg; have NB134_124 := qg BK124 hg; replace HO121 := qn HO121 hg hb; replace HO131 := qn HO131 hg hb; replace BK101 := qb BK101 hb; replace BK124 := qb BK124 hb; have BK134 := aK hbox; replace HB := qs HB hb; clear hb hbox hg; have hnb91 := NB134_101.out; have hnc91 := NB101_134.out; have hnb92 := NB134_124.out; have hnc92 := NB124_134.out; obtain ⟨hcz93_0, hcz93_1, hcz93_2, hfz93_0, hfz93_1, hfz93_2⟩ := cA3 BK134; obtain ⟨Ao94, co94, eo94⟩ := Kd.N_slice HO131.out; subst eo94) | ((with_reducible refine gate_callee (f := 36) rfl ?_); refine goesL_ (some 68) rfl rfl Tryd.func36 (by kernel_rfl) rfl #[.string t132, .string (⟨#[41]⟩ : ByteArray)] rfl tA ?_; (with_reducible refine (strings_CutPrefix.calls t132 (⟨#[41]⟩ : ByteArray) t135 t136 _ A42.out).mono ?_); rintro e w95 ⟨rfl, hb⟩; refine ⟨_, rfl, ?_⟩; have n_ := aJ (aM (Kd.N_below (by (with_reducible repeat (first | apply Kd.N_alloc | apply Kd.N_drewN | apply Kd.N_drew)); exact (Kd.N_mono (nF3 gb134 (Kd.N_mono HO121.out (fun k_ hk => (⟨hk, hk.2⟩ : _ ∧ k_ ≠ gb134))) (fun _ hk => hk.2)) (fun _ h_ => h_.1))) hb)) (aJ (aM (Kd.N_below (by (with_reducible repeat (first | apply Kd.N_alloc | apply Kd.N_drewN | apply Kd.N_drew)); exact (Kd.N_mono (nF3 gb134 (Kd.N_mono HO131.out (fun k_ hk => (⟨hk, hk.2⟩ : _ ∧ k_ ≠ gb134))) (fun _ hk => hk.2)) (fun _ h_ => h_.1))) hb)) (aJ (aM (blk_below (g := gb101) (o := .cells #[.int .i64 0, .int .i64 0, .slice none 0 0] 45 (0, 0)) (by (repeat first | with_reducible apply zN | with_reducible apply zD | with_reducible apply zA | refine blk_far ?_ NB101_134.out _); exact BK101.out) hb)) (aJ (aM (blk_below (g := gb124) (o := .cells #[.int .i64 t117, .int .i64 t118, .slice Ao87 t119.length co87] 45 (0, 0)) (by (repeat first | with_reducible apply zN | with_reducible apply zD | with_reducible apply zA | refine blk_far ?_ NB124_134.out _); exact BK124.out) hb)) (aJ (aM (blk_below (g := gb134) (o := .cells #[.int .i64 t127, .int .i64 t128, .slice Ao94 t129.length co94] 45 (0, 0)) (p3 BK134) hb)) (aM (below_step (pH HB) hb)))))); clear HO121 HO131 BK101 BK124 BK134 HB; obtain ⟨HO121, HO131, BK101, BK124, BK134, HB⟩ := n_; (try clear hb); obtain ⟨hcz96_0, hcz96_1, hcz96_2, hfz96_0, hfz96_1, hfz96_2⟩ := cA3 BK124; obtain ⟨hcz97_0, hcz97_1, hcz97_2, hfz97_0, hfz97_1, hfz97_2⟩ := cA3 BK134) | ((with_reducible refine gate_callee (f := 37) rfl ?_); refine goesL_ (some 73) rfl rfl Tryd.func37 (by kernel_rfl) rfl #[.agg #[.int .i64 t117, .int .i64 t118, .slice Ao87 t119.length co87], .agg #[.int .i64 t127, .int .i64 t128, .slice Ao94 t129.length co94]] rfl tA ?_; (with_reducible refine (impl_combApp.calls t117 t118 (fun k_ => (((((w.heap.size ≤ k_) ∧ k_ ≠ gb101) ∧ k_ ≠ gb124) ∧ some k_ ≠ (.slice Ao94 t129.length co94 : Value).ownBlock) ∧ k_ ≠ gb134)) _ _ t119 t127 t128 (fun k_ => (((w.heap.size ≤ k_) ∧ (some k_ ≠ (.slice Ao87 t119.length co87 : Value).ownBlock ∧ (k_ ≠ gb101 ∧ k_ ≠ gb124))) ∧ k_ ≠ gb134)) _ _ t129 t137 t138 t139 _ ?side1 ?side2 A43.out).mono ?_); (case side1 => exact Kd.N_V (HO121.out)); (case side2 => exact Kd.N_V (HO131.out)); rintro e w98 ⟨v140, rfl, ho0, hb⟩; refine ⟨_, rfl, ?_⟩; have n0_ := aK (Kd.N_elder' HO121.out (Kd.N_base ho0) hb); have n1_ := aK (Kd.N_elder' HO131.out (Kd.N_base ho0) hb); have HO141 := aK (Kd.N_lower (Kd.N_mono (ok' := fun k_ => (w.heap.size ≤ k_) ∧ k_ ≠ gb101 ∧ k_ ≠ gb124 ∧ k_ ≠ gb134) ho0 (fun k_ hk_ => ⟨Or.elim hk_ (fun hs_ => Or.elim hs_ (fun hs_ => hs_.1.1.1.1) (fun hs_ => hs_.1.1)) (fun hn_ => (Nat.le_trans (below_size HB.out) hn_)), Or.elim hk_ (fun hs_ => Or.elim hs_ (fun hs_ => hs_.1.1.1.2) (fun hs_ => hs_.1.2.2.1)) (fun hn_ => (Kd.freshB BK101.out k_ hn_)), Or.elim hk_ (fun hs_ => Or.elim hs_ (fun hs_ => hs_.1.1.2) (fun hs_ => hs_.1.2.2.2)) (fun hn_ => (Kd.freshB BK124.out k_ hn_)), Or.elim hk_ (fun hs_ => Or.elim hs_ (fun hs_ => hs_.2) (fun hs_ => hs_.2)) (fun hn_ => (Kd.freshB BK134.out k_ hn_))⟩)) (below_size HB.out)); replace BK101 := qb BK101 hb; replace BK124 := qb BK124 hb; replace BK134 := qb BK134 hb; clear HO121; have HO121 := n0_; clear n0_; clear HO131; have HO131 := n1_; clear n1_; replace HB := qs HB hb; (try clear hb); (try clear ho0); obtain ⟨hcz99_0, hcz99_1, hcz99_2, hfz99_0, hfz99_1, hfz99_2⟩ := cA3 BK101; obtain ⟨Ao100, co100, eo100⟩ := Kd.N_slice HO141.out; subst eo100))
            refine bodyPost_ret (results_ctt rfl _ _ gb101 45 #[.int .i64 t137, .int .i64 t138, .slice Ao100 t139.length co100] (0, 0) _ rfl (p3 BK101) Tryd.underlying45 rfl (by kernel_rfl)) rfl ?_
            exact ⟨_, eW, by (with_reducible repeat (first | apply Kd.N_alloc | apply Kd.N_drewN | apply Kd.N_drew)); exact Kd.N_mono (nF3 gb101 (Kd.N_mono HO141.out (fun k_ hk => (⟨hk, hk.2.1⟩ : _ ∧ k_ ≠ gb101))) (fun _ hk => hk.2)) (fun _ hk => hk.1.1), pH HB⟩
          ·replace c44 := Bool.eq_false_iff.mpr c44
           subst c44
           rw [if_neg (show ¬ (false = true) by decide)] at H
           simp only [Option.some.injEq, Prod.mk.injEq] at H
           obtain ⟨rfl, rfl, rfl, rfl, rfl⟩ := H
           have p9 : 0 ≤ (0 : Int) := (by omega)
           have q9 : 0 < a0.size := (by have : (0 : Int) < (a0.size : Int) := dA; omega)
           have hx9 : ∀ h : 0 < a0.size, ((a0[0]'h).toNat : Int) = bt a0 0 := bt_at a0 0
           clear p9
           have qi9 : (0 < (a0.size : Int)) = True := eq_true (dA)
           replace q9 := eq_true q9
           go_wp2_with (first | ((with_reducible refine gate_callee (f := 20) rfl ?_); refine goesL_ (some 49) rfl rfl Tryd.func20 (by kernel_rfl) rfl #[.string (a0.extract 1 a0.size), .int .i64 (wrap64 (a1 + 1))] rfl tA ?_; (with_reducible refine (ih kj2 (by have := HJ2.out; omega) (a0.extract 1 a0.size) (wrap64 (a1 + 1)) t117 t118 t119 t122 false _ A39.out (HE.out.below (pH HB))).mono ?_); rintro e w101 ⟨v120, rfl, ho0, hb⟩; refine ⟨_, rfl, ?_⟩; have HO121 := aK (Kd.N_lower (Kd.N_mono (ok' := fun k_ => (w.heap.size ≤ k_) ∧ k_ ≠ gb101) ho0 (fun k_ hk_ => ⟨(Nat.le_trans (below_size HB.out) hk_), (Kd.freshB BK101.out k_ hk_)⟩)) (below_size HB.out)); replace BK101 := qb BK101 hb; replace HB := qs HB hb; (try clear hb); (try clear ho0)) | ((with_reducible refine gate_dst (N := 7) rfl ?_); refine bE (N := 7) (cs := #[.int .i64 0, .int .i64 0, .slice none 0 0]) (t := 45) ?_; intro gb124 hg w102 hbox hb; have GW124 := qw HB hg; have GE124 := qw HB hg; have NB101_124 := ql BK101 hg; have NB124_101 := qg BK101 hg; replace HO121 := qn HO121 hg hb; replace BK101 := qb BK101 hb; have BK124 := aK hbox; replace HB := qs HB hb; clear hb hbox hg; have hnb103 := NB124_101.out; have hnc103 := NB101_124.out; obtain ⟨hcz104_0, hcz104_1, hcz104_2, hfz104_0, hfz104_1, hfz104_2⟩ := cA3 BK124; obtain ⟨Ao105, co105, eo105⟩ := Kd.N_slice HO121.out; subst eo105) | ((with_reducible refine gate_callee (f := 36) rfl ?_); refine goesL_ (some 55) rfl rfl Tryd.func36 (by kernel_rfl) rfl #[.string t122, .string (⟨#[32]⟩ : ByteArray)] rfl tA ?_; (with_reducible refine (strings_CutPrefix.calls t122 (⟨#[32]⟩ : ByteArray) t125 t126 _ A40.out).mono ?_); rintro e w106 ⟨rfl, hb⟩; refine ⟨_, rfl, ?_⟩; have n_ := aJ (aM (Kd.N_below (by (with_reducible repeat (first | apply Kd.N_alloc | apply Kd.N_drewN | apply Kd.N_drew)); exact (Kd.N_mono (nF3 gb124 (Kd.N_mono HO121.out (fun k_ hk => (⟨hk, hk.2⟩ : _ ∧ k_ ≠ gb124))) (fun _ hk => hk.2)) (fun _ h_ => h_.1))) hb)) (aJ (aM (blk_below (g := gb101) (o := .cells #[.int .i64 0, .int .i64 0, .slice none 0 0] 45 (0, 0)) (by (repeat first | with_reducible apply zN | with_reducible apply zD | with_reducible apply zA | refine blk_far ?_ NB101_124.out _); exact BK101.out) hb)) (aJ (aM (blk_below (g := gb124) (o := .cells #[.int .i64 t117, .int .i64 t118, .slice Ao105 t119.length co105] 45 (0, 0)) (p3 BK124) hb)) (aM (below_step (pH HB) hb)))); clear HO121 BK101 BK124 HB; obtain ⟨HO121, BK101, BK124, HB⟩ := n_; (try clear hb)) | ((with_reducible refine gate_callee (f := 20) rfl ?_); refine goesL_ (some 62) rfl rfl Tryd.func20 (by kernel_rfl) rfl #[.string t125, .int .i64 (wrap64 (a1 + 1))] rfl tA ?_; (with_reducible refine (ih kj2 (by have := HJ2.out; omega) t125 (wrap64 (a1 + 1)) t127 t128 t129 t132 t133 _ A41.out (HE.out.below (pH HB))).mono ?_); rintro e w107 ⟨v130, rfl, ho0, hb⟩; refine ⟨_, rfl, ?_⟩; have n0_ := aK (Kd.N_elder' HO121.out (Kd.N_base ho0) hb); have HO131 := aK (Kd.N_lower (Kd.N_mono (ok' := fun k_ => (w.heap.size ≤ k_) ∧ some k_ ≠ (.slice Ao105 t119.length co105 : Value).ownBlock ∧ k_ ≠ gb101 ∧ k_ ≠ gb124) ho0 (fun k_ hk_ => ⟨(Nat.le_trans (below_size HB.out) hk_), (Kd.fresh' (Kd.N_lt HO121.out) k_ hk_), (Kd.freshB BK101.out k_ hk_), (Kd.freshB BK124.out k_ hk_)⟩)) (below_size HB.out)); replace BK101 := qb BK101 hb; replace BK124 := qb BK124 hb; clear HO121; have HO121 := n0_; clear n0_; replace HB := qs HB hb; (try clear hb); (try clear ho0)) | ((with_reducible refine gate_dst (N := 11) rfl ?_); refine bE (N := 11) (cs := #[.int .i64 0, .int .i64 0, .slice none 0 0]) (t := 45) ?_; intro gb134 hg w108 hbox hb; have GW134 := qw HB hg; have GE134 := qw HB hg; have NB101_134 := ql BK101 hg; have NB134_101 := qg BK101 hg; have NB124_134 := ql BK124 hg; have NB134_124 := qg BK124 hg; replace HO121 := qn HO121 hg hb; replace HO131 := qn HO131 hg hb; replace BK101 := qb BK101 hb; replace BK124 := qb BK124 hb; have BK134 := aK hbox; replace HB := qs HB hb; clear hb hbox hg; have hnb109 := NB134_101.out; have hnc109 := NB101_134.out; have hnb110 := NB134_124.out; have hnc110 := NB124_134.out; obtain ⟨hcz111_0, hcz111_1, hcz111_2, hfz111_0, hfz111_1, hfz111_2⟩ := cA3 BK134; obtain ⟨Ao112, co112, eo112⟩ := Kd.N_slice HO131.out; subst eo112) | ((with_reducible refine gate_callee (f := 36) rfl ?_); refine goesL_ (some 68) rfl rfl Tryd.func36 (by kernel_rfl) rfl #[.string t132, .string (⟨#[41]⟩ : ByteArray)] rfl tA ?_; (with_reducible refine (strings_CutPrefix.calls t132 (⟨#[41]⟩ : ByteArray) t135 t136 _ A42.out).mono ?_); rintro e w113 ⟨rfl, hb⟩; refine ⟨_, rfl, ?_⟩; have n_ := aJ (aM (Kd.N_below (by (with_reducible repeat (first | apply Kd.N_alloc | apply Kd.N_drewN | apply Kd.N_drew)); exact (Kd.N_mono (nF3 gb134 (Kd.N_mono HO121.out (fun k_ hk => (⟨hk, hk.2⟩ : _ ∧ k_ ≠ gb134))) (fun _ hk => hk.2)) (fun _ h_ => h_.1))) hb)) (aJ (aM (Kd.N_below (by (with_reducible repeat (first | apply Kd.N_alloc | apply Kd.N_drewN | apply Kd.N_drew)); exact (Kd.N_mono (nF3 gb134 (Kd.N_mono HO131.out (fun k_ hk => (⟨hk, hk.2⟩ : _ ∧ k_ ≠ gb134))) (fun _ hk => hk.2)) (fun _ h_ => h_.1))) hb)) (aJ (aM (blk_below (g := gb101) (o := .cells #[.int .i64 0, .int .i64 0, .slice none 0 0] 45 (0, 0)) (by (repeat first | with_reducible apply zN | with_reducible apply zD | with_reducible apply zA | refine blk_far ?_ NB101_134.out _); exact BK101.out) hb)) (aJ (aM (blk_below (g := gb124) (o := .cells #[.int .i64 t117, .int .i64 t118, .slice Ao105 t119.length co105] 45 (0, 0)) (by (repeat first | with_reducible apply zN | with_reducible apply zD | with_reducible apply zA | refine blk_far ?_ NB124_134.out _); exact BK124.out) hb)) (aJ (aM (blk_below (g := gb134) (o := .cells #[.int .i64 t127, .int .i64 t128, .slice Ao112 t129.length co112] 45 (0, 0)) (p3 BK134) hb)) (aM (below_step (pH HB) hb)))))); clear HO121 HO131 BK101 BK124 BK134 HB; obtain ⟨HO121, HO131, BK101, BK124, BK134, HB⟩ := n_; (try clear hb); obtain ⟨hcz114_0, hcz114_1, hcz114_2, hfz114_0, hfz114_1, hfz114_2⟩ := cA3 BK124; obtain ⟨hcz115_0, hcz115_1, hcz115_2, hfz115_0, hfz115_1, hfz115_2⟩ := cA3 BK134) | ((with_reducible refine gate_callee (f := 37) rfl ?_); refine goesL_ (some 73) rfl rfl Tryd.func37 (by kernel_rfl) rfl #[.agg #[.int .i64 t117, .int .i64 t118, .slice Ao105 t119.length co105], .agg #[.int .i64 t127, .int .i64 t128, .slice Ao112 t129.length co112]] rfl tA ?_; (with_reducible refine (impl_combApp.calls t117 t118 (fun k_ => (((((w.heap.size ≤ k_) ∧ k_ ≠ gb101) ∧ k_ ≠ gb124) ∧ some k_ ≠ (.slice Ao112 t129.length co112 : Value).ownBlock) ∧ k_ ≠ gb134)) _ _ t119 t127 t128 (fun k_ => (((w.heap.size ≤ k_) ∧ (some k_ ≠ (.slice Ao105 t119.length co105 : Value).ownBlock ∧ (k_ ≠ gb101 ∧ k_ ≠ gb124))) ∧ k_ ≠ gb134)) _ _ t129 t137 t138 t139 _ ?side1 ?side2 A43.out).mono ?_); (case side1 => exact Kd.N_V (HO121.out)); (case side2 => exact Kd.N_V (HO131.out)); rintro e w116 ⟨v140, rfl, ho0, hb⟩; refine ⟨_, rfl, ?_⟩; have n0_ := aK (Kd.N_elder' HO121.out (Kd.N_base ho0) hb); have n1_ := aK (Kd.N_elder' HO131.out (Kd.N_base ho0) hb); have HO141 := aK (Kd.N_lower (Kd.N_mono (ok' := fun k_ => (w.heap.size ≤ k_) ∧ k_ ≠ gb101 ∧ k_ ≠ gb124 ∧ k_ ≠ gb134) ho0 (fun k_ hk_ => ⟨Or.elim hk_ (fun hs_ => Or.elim hs_ (fun hs_ => hs_.1.1.1.1) (fun hs_ => hs_.1.1)) (fun hn_ => (Nat.le_trans (below_size HB.out) hn_)), Or.elim hk_ (fun hs_ => Or.elim hs_ (fun hs_ => hs_.1.1.1.2) (fun hs_ => hs_.1.2.2.1)) (fun hn_ => (Kd.freshB BK101.out k_ hn_)), Or.elim hk_ (fun hs_ => Or.elim hs_ (fun hs_ => hs_.1.1.2) (fun hs_ => hs_.1.2.2.2)) (fun hn_ => (Kd.freshB BK124.out k_ hn_)), Or.elim hk_ (fun hs_ => Or.elim hs_ (fun hs_ => hs_.2) (fun hs_ => hs_.2)) (fun hn_ => (Kd.freshB BK134.out k_ hn_))⟩)) (below_size HB.out)); replace BK101 := qb BK101 hb; replace BK124 := qb BK124 hb; replace BK134 := qb BK134 hb; clear HO121; have HO121 := n0_; clear n0_; clear HO131; have HO131 := n1_; clear n1_; replace HB := qs HB hb; (try clear hb); (try clear ho0); obtain ⟨hcz117_0, hcz117_1, hcz117_2, hfz117_0, hfz117_1, hfz117_2⟩ := cA3 BK101; obtain ⟨Ao118, co118, eo118⟩ := Kd.N_slice HO141.out; subst eo118))
           refine bodyPost_ret (results_ctt rfl _ _ gb101 45 #[.int .i64 t137, .int .i64 t138, .slice Ao118 t139.length co118] (0, 0) _ rfl (p3 BK101) Tryd.underlying45 rfl (by kernel_rfl)) rfl ?_
           exact ⟨_, eW, by (with_reducible repeat (first | apply Kd.N_alloc | apply Kd.N_drewN | apply Kd.N_drew)); exact Kd.N_mono (nF3 gb101 (Kd.N_mono HO141.out (fun k_ hk => (⟨hk, hk.2.1⟩ : _ ∧ k_ ≠ gb101))) (fun _ hk => hk.2)) (fun _ hk => hk.1.1), pH HB⟩
         ·rw [if_neg c38] at H
          exact absurd H (by simp)
        ·rw [if_neg c37] at H
         have c37b0 : ((bt a0 0) == 40) = false := beq_eq_false_iff_ne.mpr c37
         have c37b1 : ((bt a0 0) != 40) = true := bne_iff_ne.mpr c37
         have H' := aM H
         clear H
         have p9 : 0 ≤ (0 : Int) := (by omega)
         have q9 : 0 < a0.size := (by have : (0 : Int) < (a0.size : Int) := dA; omega)
         have hx9 : ∀ h : 0 < a0.size, ((a0[0]'h).toNat : Int) = bt a0 0 := bt_at a0 0
         clear p9
         have qi9 : (0 < (a0.size : Int)) = True := eq_true (dA)
         replace q9 := eq_true q9
         go_wp2
         go_loopg [15] kj2 (fun kq v15 w' => ∃ (x15_2 : Int), v15 = .int .i64 x15_2 ∧ Aside0 (impl_combRead.l0 kq a0 x15_2 = some (r1, r2, r3, r4, r5)) ∧ Aside0 (kq ≤ kj2) ∧ Aside0 (w'.heap[gb101]? = some (.cells #[.int .i64 0, .int .i64 0, (.slice none 0 0)] 45 (0, 0))) ∧ Aside0 (Below w.heap.size w w'))
         case atStart => exact ⟨(1), rS, H', ⟨Nat.le_refl _⟩, ⟨pB BK101⟩, ⟨pH HB⟩⟩
         case round =>
          clear H'
          try clear c1; try clear c2; try clear p2; try clear c3; try clear c4; try clear c5; try clear c5b0; try clear c5b1; try clear c6; try clear p6; try clear c7; try clear c8; try clear c8b0; try clear c8b1; try clear c9; try clear p9; try clear q9; try clear hx9; try clear qi9; try clear c10; try clear c10b0; try clear c10b1; try clear c11; try clear c12; try clear c12b0; try clear c12b1; try clear c19; try clear c19b0; try clear c19b1; try clear c21; try clear c21b0; try clear c21b1; try clear c28; try clear c28b0; try clear c28b1; try clear c30; try clear c30b0; try clear c30b1; try clear c37; try clear c37b0; try clear c37b1; try clear c38; try clear c38b0; try clear c38b1; try clear c41; try clear c44; try clear c45; try clear c46; try clear c49; try clear c55; try clear c56; try clear c60; try clear c61; try clear c62; try clear p64; try clear c67; try clear c73; try clear c74; try clear c85; try clear c91; try clear c92; try clear c103; try clear c109; try clear c110; try clear p2; try clear p9; try clear q9; try clear hcz104_0 hcz104_1 hcz104_2 hfz104_0 hfz104_1 hfz104_2; try clear hcz111_0 hcz111_1 hcz111_2 hfz111_0 hfz111_1 hfz111_2; try clear hcz114_0 hcz114_1 hcz114_2 hfz114_0 hfz114_1 hfz114_2; try clear hcz115_0 hcz115_1 hcz115_2 hfz115_0 hfz115_1 hfz115_2; try clear hcz117_0 hcz117_1 hcz117_2 hfz117_0 hfz117_1 hfz117_2; try clear hcz50_0 hcz50_1 hcz50_2 hfz50_0 hfz50_1 hfz50_2; try clear hcz57_0 hcz57_1 hcz57_2 hfz57_0 hfz57_1 hfz57_2; try clear hcz60_0 hcz60_1 hcz60_2 hfz60_0 hfz60_1 hfz60_2; try clear hcz61_0 hcz61_1 hcz61_2 hfz61_0 hfz61_1 hfz61_2; try clear hcz63_0 hcz63_1 hcz63_2 hfz63_0 hfz63_1 hfz63_2; try clear hcz68_0 hcz68_1 hcz68_2 hfz68_0 hfz68_1 hfz68_2; try clear hcz75_0 hcz75_1 hcz75_2 hfz75_0 hfz75_1 hfz75_2; try clear hcz78_0 hcz78_1 hcz78_2 hfz78_0 hfz78_1 hfz78_2; try clear hcz79_0 hcz79_1 hcz79_2 hfz79_0 hfz79_1 hfz79_2; try clear hcz7_0 hcz7_1 hcz7_2 hfz7_0 hfz7_1 hfz7_2; try clear hcz81_0 hcz81_1 hcz81_2 hfz81_0 hfz81_1 hfz81_2; try clear hcz86_0 hcz86_1 hcz86_2 hfz86_0 hfz86_1 hfz86_2; try clear hcz93_0 hcz93_1 hcz93_2 hfz93_0 hfz93_1 hfz93_2; try clear hcz96_0 hcz96_1 hcz96_2 hfz96_0 hfz96_1 hfz96_2; try clear hcz97_0 hcz97_1 hcz97_2 hfz97_0 hfz97_1 hfz97_2; try clear hcz99_0 hcz99_1 hcz99_2 hfz99_0 hfz99_1 hfz99_2
          obtain ⟨x15_2, rfl, HA, HK2, BK101, HB⟩ := hrel
          cases gk with
          | zero => exact absurd HA.out (by simp [impl_combRead.l0])
          | succ k2 =>
           have H := HA.out
           clear HA
           simp only [impl_combRead.l0] at H
           by_cases c119 : x15_2 < (a0.size : Int)
           ·rw [if_pos c119] at H
            have c119b0 : decide (x15_2 < (a0.size : Int)) = true := decide_eq_true c119
            clear c119
            by_cases c120 : x15_2 < 5
            ·rw [if_pos c120] at H
             have c120b0 : decide (x15_2 < 5) = true := decide_eq_true c120
             clear c120
             by_cases c121 : 0 ≤ x15_2
             ·rw [if_pos c121] at H
              have c121b0 : decide (0 ≤ x15_2) = true := decide_eq_true c121
              clear c121
              by_cases c123 : (bt a0 x15_2) ≥ 48
              ·rw [if_pos c123] at H
               have c123b0 : decide (48 ≤ (bt a0 x15_2)) = true := decide_eq_true c123
               clear c123
               by_cases c125 : (bt a0 x15_2) ≤ 57
               ·rw [if_pos c125] at H
                have c125b0 : decide ((bt a0 x15_2) ≤ 57) = true := decide_eq_true c125
                clear c125
                have H' := aM H
                clear H
                have p122 : 0 ≤ (x15_2 : Int) := dA
                have q122 : x15_2 < (a0.size : Int) := dA
                have hx122 := bt_at a0 x15_2
                replace p122 := eq_true p122
                replace q122 := eq_true q122
                have p124 : 0 ≤ (x15_2 : Int) := dA
                have q124 : x15_2 < (a0.size : Int) := dA
                have hx124 := bt_at a0 x15_2
                replace p124 := eq_true p124
                replace q124 := eq_true q124
                go_wp2
                go_roundg k2
                case measure => have := HJ2.out; have := HK2.out; omega
                case rel => exact ⟨(wrap64 (x15_2 + 1)), rS, H', ⟨by have := HJ2.out; have := HK2.out; omega⟩, ⟨pB BK101⟩, ⟨pH HB⟩⟩
               ·rw [if_neg c125] at H
                have c125b0 : decide ((bt a0 x15_2) ≤ 57) = false := decide_eq_false c125
                clear c125
                by_cases c126 : 1 ≤ x15_2
                ·rw [if_pos c126] at H
                 have c126b0 := eq_true c126
                 have c126b1 : decide (1 ≤ x15_2) = true := decide_eq_true c126
                 clear c126
                 by_cases c127 : x15_2 ≤ (a0.size : Int)
                 ·rw [if_pos c127] at H
                  have c127b0 := eq_true c127
                  have c127b1 : decide (x15_2 ≤ (a0.size : Int)) = true := decide_eq_true c127
                  clear c127
                  replace H := Option.bind_eq_some_iff.mp H
                  obtain ⟨⟨t142, t143⟩, A1280, H⟩ := H
                  try dsimp only at H
                  have A128 := aM A1280
                  clear A1280
                  replace H := Option.bind_eq_some_iff.mp H
                  obtain ⟨⟨t144, t145, t146⟩, A1290, H⟩ := H
                  try dsimp only at H
                  have A129 := aM A1290
                  clear A1290
                  have c130b0 := eq_true (dA : 0 ≤ x15_2)
                  have c131b0 := eq_true (dA : x15_2 ≤ (a0.size : Int))
                  rcases t143 with _ | q149
                  ·have H1 : (if 0 < (a0.size : Int) then (some (t144, t145, t146, a0.extract (x15_2 : Int).toNat a0.size, ((bt a0 0) == 120))) else (none)) = some (r1, r2, r3, r4, r5) := by rw [if_pos (show (none : Option Int).isNone = true by rfl)] at H; exact H
                   clear H
                   have H := H1
                   clear H1
                   try simp only [errW_none, errW_some]
                   by_cases c132 : 0 < (a0.size : Int)
                   ·rw [if_pos c132] at H
                    have c132b0 : decide (0 < (a0.size : Int)) = true := decide_eq_true c132
                    have c132b1 : decide (0 < a0.size) = true := decide_eq_true (by omega)
                    clear c132
                    simp only [Option.some.injEq, Prod.mk.injEq] at H
                    obtain ⟨rfl, rfl, rfl, rfl, rfl⟩ := H
                    have p122 : 0 ≤ (x15_2 : Int) := dA
                    have q122 : x15_2 < (a0.size : Int) := dA
                    have hx122 := bt_at a0 x15_2
                    replace p122 := eq_true p122
                    replace q122 := eq_true q122
                    have p124 : 0 ≤ (x15_2 : Int) := dA
                    have q124 : x15_2 < (a0.size : Int) := dA
                    have hx124 := bt_at a0 x15_2
                    replace p124 := eq_true p124
                    replace q124 := eq_true q124
                    try go_wp2_with (first | ((with_reducible refine gate_callee (f := 38) rfl ?_); refine goesL_ (some 111) rfl rfl Tryd.func38 (by kernel_rfl) rfl #[.string (a0.extract 1 (x15_2 : Int).toNat)] rfl tA ?_; (with_reducible refine (strconv_Atoi_38.callsN (a0.extract 1 (x15_2 : Int).toNat) t142 _ A128.out (HE.out.below (pH HB)).lib).mono ?_); rintro e w134 ⟨rfl, hb⟩; refine ⟨_, rfl, ?_⟩; replace BK101 := qb BK101 hb; replace HB := qs HB hb; (try clear hb); (try simp only [errW_none, errW_some])))
                    have n_ := aJ (aM (blk_drew BK101.out)) (aM (below_drew1 HB.out))
                    clear BK101 HB
                    obtain ⟨BK101, HB⟩ := n_
                    refine start_ (n := 15) (S := fun w' => True) (ds := []) (bs 0 15) (by kernel_rfl) rfl rfl trivial (fun hHeld => ?_); refine with_tabW impl_combRead.tab20 impl_combRead.bits20 (fun HT_ HW_ => ?_)
                    generalize w134.drew = w135 at BK101 HB hHeld ⊢
                    refine pS (i := 0) (N := some 114) (bs 1 14) (aO HT_) ?_
                    refine pS (i := 2) (N := some 116) #[true, false, true, false, false, false, false, false, false, false, false, false, false, false, false] (aO HT_) ?_
                    refine pS (i := 3) (N := some 117) #[true, false, true, true, false, false, false, false, false, false, false, false, false, false, false] (aO HT_) ?_
                    refine pS (i := 4) (N := some 118) #[true, false, true, true, true, false, false, false, false, false, false, false, false, false, false] (aO HT_) ?_
                    refine pS (i := 5) (N := some 119) #[true, false, true, true, true, true, false, false, false, false, false, false, false, false, false] (aO HT_) ?_
                    refine pS (i := 6) (N := some 120) #[true, false, true, true, true, true, true, false, false, false, false, false, false, false, false] (aO HT_) ?_
                    refine one_ (i := 1) (N := some 115) (bs 7 8) rfl rfl (one_of HT_.out (by kernel_rfl)) (by decide) (fun K hK => ?_)
                    refine goes_ Tryd.func39 (by kernel_rfl) rfl #[.int .i64 t142] (by rfl) rfl rfl tA ?_
                    with_reducible refine (impl_combVar.calls t142 t144 t145 t146 _ A129.out).mono ?_
                    rintro e w136 ⟨v147, rfl, ho0, hb⟩
                    refine ⟨_, rfl, ?_⟩
                    have n_ := aJ (aM (Kd.N_lower (Kd.N_mono (ok' := fun k_ => (w.heap.size ≤ k_) ∧ k_ ≠ gb101) (Kd.R_N (Kd.R_bound ho0)) (fun k_ hk_ => ⟨(Nat.le_trans (below_size (pH HB)) hk_.2.1), (Kd.freshB BK101.out k_ hk_.2.1)⟩)) (below_size (pH HB)))) (aJ (aM (blk_below BK101.out hb)) (aM (below_step (pH HB) hb)))
                    clear BK101 HB
                    obtain ⟨HO148, BK101, HB⟩ := n_
                    (try clear hb)
                    (try clear hb2)
                    (try clear hk)
                    (try clear hi)
                    (try clear ho0)
                    have p133 : 0 ≤ (0 : Int) := (by omega)
                    have q133 : 0 < a0.size := (by have : (0 : Int) < (a0.size : Int) := dA; omega)
                    have hx133 : ∀ h : 0 < a0.size, ((a0[0]'h).toNat : Int) = bt a0 0 := bt_at a0 0
                    clear p133
                    have qi133 : (0 < (a0.size : Int)) = True := eq_true (dA)
                    replace q133 := eq_true q133
                    obtain ⟨Ao139, co139, eo139⟩ := Kd.N_slice HO148.out
                    (first | subst eo139 | (injection eo139 with f1_ f2_ f3_; have f4_ := f1_.symm; have f5_ := f3_.symm; clear f1_ f2_ f3_; subst f4_; subst f5_))
                    refine hK.out _ _ trivial (fun hHeld => ?_)
                    clear hK K
                    refine norm_ (a' := ?_) ?_ ?_
                    rotate_left
                    ·show Act.put _ (some 115) _ = _
                     simp only [sP, i64_w, i32_w]
                     rfl
                    refine pS (i := 7) (N := some 121) (bs 8 7) (aO HT_) ?_
                    refine pS (i := 8) (N := some 122) (bs 9 6) (aO HT_) ?_
                    refine take_ (i := 9) (N := some 123) (v := ?_) (a' := ?_) (bs 10 5) rfl rfl (take_ofW HT_.out HW_.out (by kernel_rfl)) (fun _ _ _ h => h) (Or.inl ⟨by rfl, ?_⟩) hHeld ?_ ?_
                    rotate_left
                    ·intro w' _
                     go_simp
                     with_reducible rfl
                    rotate_left
                    ·simp only [sP, i64_w, i32_w]
                     rfl
                    refine pS (i := 10) (N := some 124) (bs 11 4) (aO HT_) ?_
                    refine pS (i := 11) (N := some 125) (bs 12 3) (aO HT_) ?_
                    refine one_ (i := 12) (N := none) (bs 13 2) rfl rfl (one_of HT_.out (by kernel_rfl)) (by decide) (fun K hK => ?_)
                    have hs137 : w136.cell? ⟨gb101, 0, none⟩ = some (.int .i64 0) := (blk_cell BK101.out 0).trans rfl
                    have hfs137 := blk_frozen BK101.out 0
                    have hs138 : w136.cell? ⟨gb101, 1, none⟩ = some (.int .i64 0) := (blk_cell BK101.out 1).trans rfl
                    have hfs138 := blk_frozen BK101.out 1
                    have hs140 : w136.cell? ⟨gb101, 2, none⟩ = some (.slice none 0 0) := (blk_cell BK101.out 2).trans rfl
                    have hfs140 := blk_frozen BK101.out 2
                    refine skip_ (w1 := ?_) (by rfl) rfl ?_ ?_
                    rotate_left
                    ·go_simp
                     rfl
                    refine hK.out _ _ trivial (fun hHeld => ?_)
                    clear hK K
                    refine pS (i := 13) (N := some 5) (bs 14 1) (aO HT_) ?_
                    refine pS (i := 14) (N := some 6) (bs 15 0) (aO HT_) ?_
                    refine done_ (done_of HT_.out (by kernel_rfl)) ?_
                    try go_wp2
                    refine bodyPost_ret (results_ctt rfl _ _ gb101 45 #[.int .i64 t144, .int .i64 t145, .slice Ao139 t146.length co139] (0, 0) _ rfl (p3 BK101) Tryd.underlying45 rfl (by kernel_rfl)) rfl ?_
                    exact ⟨_, eW, by (with_reducible repeat (first | apply Kd.N_alloc | apply Kd.N_drewN | apply Kd.N_drew)); exact Kd.N_mono (nF3 gb101 (Kd.N_mono HO148.out (fun k_ hk => (⟨hk, hk.2⟩ : _ ∧ k_ ≠ gb101))) (fun _ hk => hk.2)) (fun _ hk => hk.1.1), pH HB⟩
                   ·rw [if_neg c132] at H
                    exact absurd H (by simp)
                  ·have H1 : (some (t144, t145, t146, a0.extract (x15_2 : Int).toNat a0.size, false)) = some (r1, r2, r3, r4, r5) := by rw [if_neg (show ¬ (some q149).isNone = true by simp)] at H; exact H
                   clear H
                   have H := H1
                   clear H1
                   try simp only [errW_none, errW_some]
                   simp only [Option.some.injEq, Prod.mk.injEq] at H
                   obtain ⟨rfl, rfl, rfl, rfl, rfl⟩ := H
                   have p122 : 0 ≤ (x15_2 : Int) := dA
                   have q122 : x15_2 < (a0.size : Int) := dA
                   have hx122 := bt_at a0 x15_2
                   replace p122 := eq_true p122
                   replace q122 := eq_true q122
                   have p124 : 0 ≤ (x15_2 : Int) := dA
                   have q124 : x15_2 < (a0.size : Int) := dA
                   have hx124 := bt_at a0 x15_2
                   replace p124 := eq_true p124
                   replace q124 := eq_true q124
                   try go_wp2_with (first | ((with_reducible refine gate_callee (f := 38) rfl ?_); refine goesL_ (some 111) rfl rfl Tryd.func38 (by kernel_rfl) rfl #[.string (a0.extract 1 (x15_2 : Int).toNat)] rfl tA ?_; (with_reducible refine (strconv_Atoi_38.callsS (a0.extract 1 (x15_2 : Int).toNat) t142 q149 _ A128.out (HE.out.below (pH HB)).lib).mono ?_); rintro e w141 ⟨et_, ep_, rfl, hb⟩; refine ⟨_, rfl, ?_⟩; replace BK101 := qb BK101 hb; replace HB := qs HB hb; (try clear hb); (try simp only [errW_none, errW_some])))
                   have n_ := aJ (aM (blk_drew BK101.out)) (aM (below_drew1 HB.out))
                   clear BK101 HB
                   obtain ⟨BK101, HB⟩ := n_
                   refine start_ (n := 15) (S := fun w' => True) (ds := []) (bs 0 15) (by kernel_rfl) rfl rfl trivial (fun hHeld => ?_); refine with_tabW impl_combRead.tab20 impl_combRead.bits20 (fun HT_ HW_ => ?_)
                   generalize w141.drew = w142 at BK101 HB hHeld ⊢
                   refine pS (i := 0) (N := some 114) (bs 1 14) (aO HT_) ?_
                   refine pS (i := 2) (N := some 116) #[true, false, true, false, false, false, false, false, false, false, false, false, false, false, false] (aO HT_) ?_
                   refine pS (i := 3) (N := some 117) #[true, false, true, true, false, false, false, false, false, false, false, false, false, false, false] (aO HT_) ?_
                   refine pS (i := 4) (N := some 118) #[true, false, true, true, true, false, false, false, false, false, false, false, false, false, false] (aO HT_) ?_
                   refine pS (i := 5) (N := some 119) #[true, false, true, true, true, true, false, false, false, false, false, false, false, false, false] (aO HT_) ?_
                   refine pS (i := 6) (N := some 120) #[true, false, true, true, true, true, true, false, false, false, false, false, false, false, false] (aO HT_) ?_
                   refine one_ (i := 1) (N := some 115) (bs 7 8) rfl rfl (one_of HT_.out (by kernel_rfl)) (by decide) (fun K hK => ?_)
                   refine goes_ Tryd.func39 (by kernel_rfl) rfl #[.int .i64 t142] (by rfl) rfl rfl tA ?_
                   with_reducible refine (impl_combVar.calls t142 t144 t145 t146 _ A129.out).mono ?_
                   rintro e w143 ⟨v147, rfl, ho0, hb⟩
                   refine ⟨_, rfl, ?_⟩
                   have n_ := aJ (aM (Kd.N_lower (Kd.N_mono (ok' := fun k_ => (w.heap.size ≤ k_) ∧ k_ ≠ gb101) (Kd.R_N (Kd.R_bound ho0)) (fun k_ hk_ => ⟨(Nat.le_trans (below_size (pH HB)) hk_.2.1), (Kd.freshB BK101.out k_ hk_.2.1)⟩)) (below_size (pH HB)))) (aJ (aM (blk_below BK101.out hb)) (aM (below_step (pH HB) hb)))
                   clear BK101 HB
                   obtain ⟨HO148, BK101, HB⟩ := n_
                   (try clear hb)
                   (try clear hb2)
                   (try clear hk)
                   (try clear hi)
                   (try clear ho0)
                   obtain ⟨Ao146, co146, eo146⟩ := Kd.N_slice HO148.out
                   (first | subst eo146 | (injection eo146 with f1_ f2_ f3_; have f4_ := f1_.symm; have f5_ := f3_.symm; clear f1_ f2_ f3_; subst f4_; subst f5_))
                   refine hK.out _ _ trivial (fun hHeld => ?_)
                   clear hK K
                   refine norm_ (a' := ?_) ?_ ?_
                   rotate_left
                   ·show Act.put _ (some 115) _ = _
                    simp only [sP, i64_w, i32_w]
                    rfl
                   refine pS (i := 7) (N := some 121) (bs 8 7) (aO HT_) ?_
                   refine pure_ (i := 8) (N := some 122) (v := undef) (a' := ?_) (bs 9 6) rfl rfl (any_of HT_.out (by kernel_rfl)) (fun _ _ _ h => h) (Or.inr ⟨by rfl, rfl⟩) ?_ ?_
                   rotate_left
                   ·simp only [sP, i64_w, i32_w]
                    rfl
                   refine pure_ (i := 9) (N := some 123) (v := undef) (a' := ?_) (bs 10 5) rfl rfl (any_of HT_.out (by kernel_rfl)) (fun _ _ _ h => h) (Or.inr ⟨by rfl, rfl⟩) ?_ ?_
                   rotate_left
                   ·simp only [sP, i64_w, i32_w]
                    rfl
                   refine pure_ (i := 10) (N := some 124) (v := undef) (a' := ?_) (bs 11 4) rfl rfl (any_of HT_.out (by kernel_rfl)) (fun _ _ _ h => h) (Or.inr ⟨by rfl, rfl⟩) ?_ ?_
                   rotate_left
                   ·simp only [sP, i64_w, i32_w]
                    rfl
                   refine pS (i := 11) (N := some 125) (bs 12 3) (aO HT_) ?_
                   refine one_ (i := 12) (N := none) (bs 13 2) rfl rfl (one_of HT_.out (by kernel_rfl)) (by decide) (fun K hK => ?_)
                   have hs144 : w143.cell? ⟨gb101, 0, none⟩ = some (.int .i64 0) := (blk_cell BK101.out 0).trans rfl
                   have hfs144 := blk_frozen BK101.out 0
                   have hs145 : w143.cell? ⟨gb101, 1, none⟩ = some (.int .i64 0) := (blk_cell BK101.out 1).trans rfl
                   have hfs145 := blk_frozen BK101.out 1
                   have hs147 : w143.cell? ⟨gb101, 2, none⟩ = some (.slice none 0 0) := (blk_cell BK101.out 2).trans rfl
                   have hfs147 := blk_frozen BK101.out 2
                   refine skip_ (w1 := ?_) (by rfl) rfl ?_ ?_
                   rotate_left
                   ·go_simp
                    rfl
                   refine hK.out _ _ trivial (fun hHeld => ?_)
                   clear hK K
                   refine pS (i := 13) (N := some 5) (bs 14 1) (aO HT_) ?_
                   refine pS (i := 14) (N := some 6) (bs 15 0) (aO HT_) ?_
                   refine done_ (done_of HT_.out (by kernel_rfl)) ?_
                   try go_wp2
                   refine bodyPost_ret (results_ctt rfl _ _ gb101 45 #[.int .i64 t144, .int .i64 t145, .slice Ao146 t146.length co146] (0, 0) _ rfl (p3 BK101) Tryd.underlying45 rfl (by kernel_rfl)) rfl ?_
                   exact ⟨_, eW, by (with_reducible repeat (first | apply Kd.N_alloc | apply Kd.N_drewN | apply Kd.N_drew)); exact Kd.N_mono (nF3 gb101 (Kd.N_mono HO148.out (fun k_ hk => (⟨hk, hk.2⟩ : _ ∧ k_ ≠ gb101))) (fun _ hk => hk.2)) (fun _ hk => hk.1.1), pH HB⟩
                 ·rw [if_neg c127] at H
                  exact absurd H (by simp)
                ·rw [if_neg c126] at H
                 exact absurd H (by simp)
              ·rw [if_neg c123] at H
               have c123b0 : decide (48 ≤ (bt a0 x15_2)) = false := decide_eq_false c123
               clear c123
               by_cases c148 : 1 ≤ x15_2
               ·rw [if_pos c148] at H
                have c148b0 := eq_true c148
                have c148b1 : decide (1 ≤ x15_2) = true := decide_eq_true c148
                clear c148
                by_cases c149 : x15_2 ≤ (a0.size : Int)
                ·rw [if_pos c149] at H
                 have c149b0 := eq_true c149
                 have c149b1 : decide (x15_2 ≤ (a0.size : Int)) = true := decide_eq_true c149
                 clear c149
                 replace H := Option.bind_eq_some_iff.mp H
                 obtain ⟨⟨t150, t151⟩, A1500, H⟩ := H
                 try dsimp only at H
                 have A150 := aM A1500
                 clear A1500
                 replace H := Option.bind_eq_some_iff.mp H
                 obtain ⟨⟨t152, t153, t154⟩, A1510, H⟩ := H
                 try dsimp only at H
                 have A151 := aM A1510
                 clear A1510
                 have c152b0 := eq_true (dA : 0 ≤ x15_2)
                 have c153b0 := eq_true (dA : x15_2 ≤ (a0.size : Int))
                 rcases t151 with _ | q157
                 ·have H1 : (if 0 < (a0.size : Int) then (some (t152, t153, t154, a0.extract (x15_2 : Int).toNat a0.size, ((bt a0 0) == 120))) else (none)) = some (r1, r2, r3, r4, r5) := by rw [if_pos (show (none : Option Int).isNone = true by rfl)] at H; exact H
                  clear H
                  have H := H1
                  clear H1
                  try simp only [errW_none, errW_some]
                  by_cases c154 : 0 < (a0.size : Int)
                  ·rw [if_pos c154] at H
                   have c154b0 : decide (0 < (a0.size : Int)) = true := decide_eq_true c154
                   have c154b1 : decide (0 < a0.size) = true := decide_eq_true (by omega)
                   clear c154
                   simp only [Option.some.injEq, Prod.mk.injEq] at H
                   obtain ⟨rfl, rfl, rfl, rfl, rfl⟩ := H
                   have p122 : 0 ≤ (x15_2 : Int) := dA
                   have q122 : x15_2 < (a0.size : Int) := dA
                   have hx122 := bt_at a0 x15_2
                   replace p122 := eq_true p122
                   replace q122 := eq_true q122
                   try go_wp2_with (first | ((with_reducible refine gate_callee (f := 38) rfl ?_); refine goesL_ (some 111) rfl rfl Tryd.func38 (by kernel_rfl) rfl #[.string (a0.extract 1 (x15_2 : Int).toNat)] rfl tA ?_; (with_reducible refine (strconv_Atoi_38.callsN (a0.extract 1 (x15_2 : Int).toNat) t150 _ A150.out (HE.out.below (pH HB)).lib).mono ?_); rintro e w156 ⟨rfl, hb⟩; refine ⟨_, rfl, ?_⟩; replace BK101 := qb BK101 hb; replace HB := qs HB hb; (try clear hb); (try simp only [errW_none, errW_some])))
                   have n_ := aJ (aM (blk_drew BK101.out)) (aM (below_drew1 HB.out))
                   clear BK101 HB
                   obtain ⟨BK101, HB⟩ := n_
                   refine start_ (n := 15) (S := fun w' => True) (ds := []) (bs 0 15) (by kernel_rfl) rfl rfl trivial (fun hHeld => ?_); refine with_tabW impl_combRead.tab20 impl_combRead.bits20 (fun HT_ HW_ => ?_)
                   generalize w156.drew = w157 at BK101 HB hHeld ⊢
                   refine pS (i := 0) (N := some 114) (bs 1 14) (aO HT_) ?_
                   refine pS (i := 2) (N := some 116) #[true, false, true, false, false, false, false, false, false, false, false, false, false, false, false] (aO HT_) ?_
                   refine pS (i := 3) (N := some 117) #[true, false, true, true, false, false, false, false, false, false, false, false, false, false, false] (aO HT_) ?_
                   refine pS (i := 4) (N := some 118) #[true, false, true, true, true, false, false, false, false, false, false, false, false, false, false] (aO HT_) ?_
                   refine pS (i := 5) (N := some 119) #[true, false, true, true, true, true, false, false, false, false, false, false, false, false, false] (aO HT_) ?_
                   refine pS (i := 6) (N := some 120) #[true, false, true, true, true, true, true, false, false, false, false, false, false, false, false] (aO HT_) ?_
                   refine one_ (i := 1) (N := some 115) (bs 7 8) rfl rfl (one_of HT_.out (by kernel_rfl)) (by decide) (fun K hK => ?_)
                   refine goes_ Tryd.func39 (by kernel_rfl) rfl #[.int .i64 t150] (by rfl) rfl rfl tA ?_
                   with_reducible refine (impl_combVar.calls t150 t152 t153 t154 _ A151.out).mono ?_
                   rintro e w158 ⟨v155, rfl, ho0, hb⟩
                   refine ⟨_, rfl, ?_⟩
                   have n_ := aJ (aM (Kd.N_lower (Kd.N_mono (ok' := fun k_ => (w.heap.size ≤ k_) ∧ k_ ≠ gb101) (Kd.R_N (Kd.R_bound ho0)) (fun k_ hk_ => ⟨(Nat.le_trans (below_size (pH HB)) hk_.2.1), (Kd.freshB BK101.out k_ hk_.2.1)⟩)) (below_size (pH HB)))) (aJ (aM (blk_below BK101.out hb)) (aM (below_step (pH HB) hb)))
                   clear BK101 HB
                   obtain ⟨HO156, BK101, HB⟩ := n_
                   (try clear hb)
                   (try clear hb2)
                   (try clear hk)
                   (try clear hi)
                   (try clear ho0)
                   have p155 : 0 ≤ (0 : Int) := (by omega)
                   have q155 : 0 < a0.size := (by have : (0 : Int) < (a0.size : Int) := dA; omega)
                   have hx155 : ∀ h : 0 < a0.size, ((a0[0]'h).toNat : Int) = bt a0 0 := bt_at a0 0
                   clear p155
                   have qi155 : (0 < (a0.size : Int)) = True := eq_true (dA)
                   replace q155 := eq_true q155
                   obtain ⟨Ao161, co161, eo161⟩ := Kd.N_slice HO156.out
                   (first | subst eo161 | (injection eo161 with f1_ f2_ f3_; have f4_ := f1_.symm; have f5_ := f3_.symm; clear f1_ f2_ f3_; subst f4_; subst f5_))
                   refine hK.out _ _ trivial (fun hHeld => ?_)
                   clear hK K
                   refine norm_ (a' := ?_) ?_ ?_
                   rotate_left
                   ·show Act.put _ (some 115) _ = _
                    simp only [sP, i64_w, i32_w]
                    rfl
                   refine pS (i := 7) (N := some 121) (bs 8 7) (aO HT_) ?_
                   refine pS (i := 8) (N := some 122) (bs 9 6) (aO HT_) ?_
                   refine take_ (i := 9) (N := some 123) (v := ?_) (a' := ?_) (bs 10 5) rfl rfl (take_ofW HT_.out HW_.out (by kernel_rfl)) (fun _ _ _ h => h) (Or.inl ⟨by rfl, ?_⟩) hHeld ?_ ?_
                   rotate_left
                   ·intro w' _
                    go_simp
                    with_reducible rfl
                   rotate_left
                   ·simp only [sP, i64_w, i32_w]
                    rfl
                   refine pS (i := 10) (N := some 124) (bs 11 4) (aO HT_) ?_
                   refine pS (i := 11) (N := some 125) (bs 12 3) (aO HT_) ?_
                   refine one_ (i := 12) (N := none) (bs 13 2) rfl rfl (one_of HT_.out (by kernel_rfl)) (by decide) (fun K hK => ?_)
                   have hs159 : w158.cell? ⟨gb101, 0, none⟩ = some (.int .i64 0) := (blk_cell BK101.out 0).trans rfl
                   have hfs159 := blk_frozen BK101.out 0
                   have hs160 : w158.cell? ⟨gb101, 1, none⟩ = some (.int .i64 0) := (blk_cell BK101.out 1).trans rfl
                   have hfs160 := blk_frozen BK101.out 1
                   have hs162 : w158.cell? ⟨gb101, 2, none⟩ = some (.slice none 0 0) := (blk_cell BK101.out 2).trans rfl
                   have hfs162 := blk_frozen BK101.out 2
                   refine skip_ (w1 := ?_) (by rfl) rfl ?_ ?_
                   rotate_left
                   ·go_simp
                    rfl
                   refine hK.out _ _ trivial (fun hHeld => ?_)
                   clear hK K
                   refine pS (i := 13) (N := some 5) (bs 14 1) (aO HT_) ?_
                   refine pS (i := 14) (N := some 6) (bs 15 0) (aO HT_) ?_
                   refine done_ (done_of HT_.out (by kernel_rfl)) ?_
                   try go_wp2
                   refine bodyPost_ret (results_ctt rfl _ _ gb101 45 #[.int .i64 t152, .int .i64 t153, .slice Ao161 t154.length co161] (0, 0) _ rfl (p3 BK101) Tryd.underlying45 rfl (by kernel_rfl)) rfl ?_
                   exact ⟨_, eW, by (with_reducible repeat (first | apply Kd.N_alloc | apply Kd.N_drewN | apply Kd.N_drew)); exact Kd.N_mono (nF3 gb101 (Kd.N_mono HO156.out (fun k_ hk => (⟨hk, hk.2⟩ : _ ∧ k_ ≠ gb101))) (fun _ hk => hk.2)) (fun _ hk => hk.1.1), pH HB⟩
                  ·rw [if_neg c154] at H
                   exact absurd H (by simp)
                 ·have H1 : (some (t152, t153, t154, a0.extract (x15_2 : Int).toNat a0.size, false)) = some (r1, r2, r3, r4, r5) := by rw [if_neg (show ¬ (some q157).isNone = true by simp)] at H; exact H
                  clear H
                  have H := H1
                  clear H1
                  try simp only [errW_none, errW_some]
                  simp only [Option.some.injEq, Prod.mk.injEq] at H
                  obtain ⟨rfl, rfl, rfl, rfl, rfl⟩ := H
                  have p122 : 0 ≤ (x15_2 : Int) := dA
                  have q122 : x15_2 < (a0.size : Int) := dA
                  have hx122 := bt_at a0 x15_2
                  replace p122 := eq_true p122
                  replace q122 := eq_true q122
                  try go_wp2_with (first | ((with_reducible refine gate_callee (f := 38) rfl ?_); refine goesL_ (some 111) rfl rfl Tryd.func38 (by kernel_rfl) rfl #[.string (a0.extract 1 (x15_2 : Int).toNat)] rfl tA ?_; (with_reducible refine (strconv_Atoi_38.callsS (a0.extract 1 (x15_2 : Int).toNat) t150 q157 _ A150.out (HE.out.below (pH HB)).lib).mono ?_); rintro e w163 ⟨et_, ep_, rfl, hb⟩; refine ⟨_, rfl, ?_⟩; replace BK101 := qb BK101 hb; replace HB := qs HB hb; (try clear hb); (try simp only [errW_none, errW_some])))
                  have n_ := aJ (aM (blk_drew BK101.out)) (aM (below_drew1 HB.out))
                  clear BK101 HB
                  obtain ⟨BK101, HB⟩ := n_
                  refine start_ (n := 15) (S := fun w' => True) (ds := []) (bs 0 15) (by kernel_rfl) rfl rfl trivial (fun hHeld => ?_); refine with_tabW impl_combRead.tab20 impl_combRead.bits20 (fun HT_ HW_ => ?_)
                  generalize w163.drew = w164 at BK101 HB hHeld ⊢
                  refine pS (i := 0) (N := some 114) (bs 1 14) (aO HT_) ?_
                  refine pS (i := 2) (N := some 116) #[true, false, true, false, false, false, false, false, false, false, false, false, false, false, false] (aO HT_) ?_
                  refine pS (i := 3) (N := some 117) #[true, false, true, true, false, false, false, false, false, false, false, false, false, false, false] (aO HT_) ?_
                  refine pS (i := 4) (N := some 118) #[true, false, true, true, true, false, false, false, false, false, false, false, false, false, false] (aO HT_) ?_
                  refine pS (i := 5) (N := some 119) #[true, false, true, true, true, true, false, false, false, false, false, false, false, false, false] (aO HT_) ?_
                  refine pS (i := 6) (N := some 120) #[true, false, true, true, true, true, true, false, false, false, false, false, false, false, false] (aO HT_) ?_
                  refine one_ (i := 1) (N := some 115) (bs 7 8) rfl rfl (one_of HT_.out (by kernel_rfl)) (by decide) (fun K hK => ?_)
                  refine goes_ Tryd.func39 (by kernel_rfl) rfl #[.int .i64 t150] (by rfl) rfl rfl tA ?_
                  with_reducible refine (impl_combVar.calls t150 t152 t153 t154 _ A151.out).mono ?_
                  rintro e w165 ⟨v155, rfl, ho0, hb⟩
                  refine ⟨_, rfl, ?_⟩
                  have n_ := aJ (aM (Kd.N_lower (Kd.N_mono (ok' := fun k_ => (w.heap.size ≤ k_) ∧ k_ ≠ gb101) (Kd.R_N (Kd.R_bound ho0)) (fun k_ hk_ => ⟨(Nat.le_trans (below_size (pH HB)) hk_.2.1), (Kd.freshB BK101.out k_ hk_.2.1)⟩)) (below_size (pH HB)))) (aJ (aM (blk_below BK101.out hb)) (aM (below_step (pH HB) hb)))
                  clear BK101 HB
                  obtain ⟨HO156, BK101, HB⟩ := n_
                  (try clear hb)
                  (try clear hb2)
                  (try clear hk)
                  (try clear hi)
                  (try clear ho0)
                  obtain ⟨Ao168, co168, eo168⟩ := Kd.N_slice HO156.out
                  (first | subst eo168 | (injection eo168 with f1_ f2_ f3_; have f4_ := f1_.symm; have f5_ := f3_.symm; clear f1_ f2_ f3_; subst f4_; subst f5_))
                  refine hK.out _ _ trivial (fun hHeld => ?_)
                  clear hK K
                  refine norm_ (a' := ?_) ?_ ?_
                  rotate_left
                  ·show Act.put _ (some 115) _ = _
                   simp only [sP, i64_w, i32_w]
                   rfl
                  refine pS (i := 7) (N := some 121) (bs 8 7) (aO HT_) ?_
                  refine pure_ (i := 8) (N := some 122) (v := undef) (a' := ?_) (bs 9 6) rfl rfl (any_of HT_.out (by kernel_rfl)) (fun _ _ _ h => h) (Or.inr ⟨by rfl, rfl⟩) ?_ ?_
                  rotate_left
                  ·simp only [sP, i64_w, i32_w]
                   rfl
                  refine pure_ (i := 9) (N := some 123) (v := undef) (a' := ?_) (bs 10 5) rfl rfl (any_of HT_.out (by kernel_rfl)) (fun _ _ _ h => h) (Or.inr ⟨by rfl, rfl⟩) ?_ ?_
                  rotate_left
                  ·simp only [sP, i64_w, i32_w]
                   rfl
                  refine pure_ (i := 10) (N := some 124) (v := undef) (a' := ?_) (bs 11 4) rfl rfl (any_of HT_.out (by kernel_rfl)) (fun _ _ _ h => h) (Or.inr ⟨by rfl, rfl⟩) ?_ ?_
                  rotate_left
                  ·simp only [sP, i64_w, i32_w]
                   rfl
                  refine pS (i := 11) (N := some 125) (bs 12 3) (aO HT_) ?_
                  refine one_ (i := 12) (N := none) (bs 13 2) rfl rfl (one_of HT_.out (by kernel_rfl)) (by decide) (fun K hK => ?_)
                  have hs166 : w165.cell? ⟨gb101, 0, none⟩ = some (.int .i64 0) := (blk_cell BK101.out 0).trans rfl
                  have hfs166 := blk_frozen BK101.out 0
                  have hs167 : w165.cell? ⟨gb101, 1, none⟩ = some (.int .i64 0) := (blk_cell BK101.out 1).trans rfl
                  have hfs167 := blk_frozen BK101.out 1
                  have hs169 : w165.cell? ⟨gb101, 2, none⟩ = some (.slice none 0 0) := (blk_cell BK101.out 2).trans rfl
                  have hfs169 := blk_frozen BK101.out 2
                  refine skip_ (w1 := ?_) (by rfl) rfl ?_ ?_
                  rotate_left
                  ·go_simp
                   rfl
                  refine hK.out _ _ trivial (fun hHeld => ?_)
                  clear hK K
                  refine pS (i := 13) (N := some 5) (bs 14 1) (aO HT_) ?_
                  refine pS (i := 14) (N := some 6) (bs 15 0) (aO HT_) ?_
                  refine done_ (done_of HT_.out (by kernel_rfl)) ?_
                  try go_wp2
                  refine bodyPost_ret (results_ctt rfl _ _ gb101 45 #[.int .i64 t152, .int .i64 t153, .slice Ao168 t154.length co168] (0, 0) _ rfl (p3 BK101) Tryd.underlying45 rfl (by kernel_rfl)) rfl ?_
                  exact ⟨_, eW, by (with_reducible repeat (first | apply Kd.N_alloc | apply Kd.N_drewN | apply Kd.N_drew)); exact Kd.N_mono (nF3 gb101 (Kd.N_mono HO156.out (fun k_ hk => (⟨hk, hk.2⟩ : _ ∧ k_ ≠ gb101))) (fun _ hk => hk.2)) (fun _ hk => hk.1.1), pH HB⟩
                ·rw [if_neg c149] at H
                 exact absurd H (by simp)
               ·rw [if_neg c148] at H
                exact absurd H (by simp)
             ·rw [if_neg c121] at H
              exact absurd H (by simp)
            ·rw [if_neg c120] at H
             have c120b0 : decide (x15_2 < 5) = false := decide_eq_false c120
             clear c120
             by_cases c170 : 1 ≤ x15_2
             ·rw [if_pos c170] at H
              have c170b0 := eq_true c170
              have c170b1 : decide (1 ≤ x15_2) = true := decide_eq_true c170
              clear c170
              by_cases c171 : x15_2 ≤ (a0.size : Int)
              ·rw [if_pos c171] at H
               have c171b0 := eq_true c171
               have c171b1 : decide (x15_2 ≤ (a0.size : Int)) = true := decide_eq_true c171
               clear c171
               replace H := Option.bind_eq_some_iff.mp H
               obtain ⟨⟨t158, t159⟩, A1720, H⟩ := H
               try dsimp only at H
               have A172 := aM A1720
               clear A1720
               replace H := Option.bind_eq_some_iff.mp H
               obtain ⟨⟨t160, t161, t162⟩, A1730, H⟩ := H
               try dsimp only at H
               have A173 := aM A1730
               clear A1730
               by_cases c174 : 0 ≤ x15_2
               ·rw [if_pos c174] at H
                have c174b0 := eq_true c174
                have c174b1 : decide (0 ≤ x15_2) = true := decide_eq_true c174
                clear c174
                have c175b0 := eq_true (dA : x15_2 ≤ (a0.size : Int))
                rcases t159 with _ | q165
                ·have H1 : (if 0 < (a0.size : Int) then (some (t160, t161, t162, a0.extract (x15_2 : Int).toNat a0.size, ((bt a0 0) == 120))) else (none)) = some (r1, r2, r3, r4, r5) := by rw [if_pos (show (none : Option Int).isNone = true by rfl)] at H; exact H
                 clear H
                 have H := H1
                 clear H1
                 try simp only [errW_none, errW_some]
                 by_cases c176 : 0 < (a0.size : Int)
                 ·rw [if_pos c176] at H
                  have c176b0 : decide (0 < (a0.size : Int)) = true := decide_eq_true c176
                  have c176b1 : decide (0 < a0.size) = true := decide_eq_true (by omega)
                  clear c176
                  simp only [Option.some.injEq, Prod.mk.injEq] at H
                  obtain ⟨rfl, rfl, rfl, rfl, rfl⟩ := H
                  try go_wp2_with (first | ((with_reducible refine gate_callee (f := 38) rfl ?_); refine goesL_ (some 111) rfl rfl Tryd.func38 (by kernel_rfl) rfl #[.string (a0.extract 1 (x15_2 : Int).toNat)] rfl tA ?_; (with_reducible refine (strconv_Atoi_38.callsN (a0.extract 1 (x15_2 : Int).toNat) t158 _ A172.out (HE.out.below (pH HB)).lib).mono ?_); rintro e w178 ⟨rfl, hb⟩; refine ⟨_, rfl, ?_⟩; replace BK101 := qb BK101 hb; replace HB := qs HB hb; (try clear hb); (try simp only [errW_none, errW_some])))
                  have n_ := aJ (aM (blk_drew BK101.out)) (aM (below_drew1 HB.out))
                  clear BK101 HB
                  obtain ⟨BK101, HB⟩ := n_
                  refine start_ (n := 15) (S := fun w' => True) (ds := []) (bs 0 15) (by kernel_rfl) rfl rfl trivial (fun hHeld => ?_); refine with_tabW impl_combRead.tab20 impl_combRead.bits20 (fun HT_ HW_ => ?_)
                  generalize w178.drew = w179 at BK101 HB hHeld ⊢
                  refine pS (i := 0) (N := some 114) (bs 1 14) (aO HT_) ?_
                  refine pS (i := 2) (N := some 116) #[true, false, true, false, false, false, false, false, false, false, false, false, false, false, false] (aO HT_) ?_
                  refine pS (i := 3) (N := some 117) #[true, false, true, true, false, false, false, false, false, false, false, false, false, false, false] (aO HT_) ?_
                  refine pS (i := 4) (N := some 118) #[true, false, true, true, true, false, false, false, false, false, false, false, false, false, false] (aO HT_) ?_
                  refine pS (i := 5) (N := some 119) #[true, false, true, true, true, true, false, false, false, false, false, false, false, false, false] (aO HT_) ?_
                  refine pS (i := 6) (N := some 120) #[true, false, true, true, true, true, true, false, false, false, false, false, false, false, false] (aO HT_) ?_
                  refine one_ (i := 1) (N := some 115) (bs 7 8) rfl rfl (one_of HT_.out (by kernel_rfl)) (by decide) (fun K hK => ?_)
                  refine goes_ Tryd.func39 (by kernel_rfl) rfl #[.int .i64 t158] (by rfl) rfl rfl tA ?_
                  with_reducible refine (impl_combVar.calls t158 t160 t161 t162 _ A173.out).mono ?_
                  rintro e w180 ⟨v163, rfl, ho0, hb⟩
                  refine ⟨_, rfl, ?_⟩
                  have n_ := aJ (aM (Kd.N_lower (Kd.N_mono (ok' := fun k_ => (w.heap.size ≤ k_) ∧ k_ ≠ gb101) (Kd.R_N (Kd.R_bound ho0)) (fun k_ hk_ => ⟨(Nat.le_trans (below_size (pH HB)) hk_.2.1), (Kd.freshB BK101.out k_ hk_.2.1)⟩)) (below_size (pH HB)))) (aJ (aM (blk_below BK101.out hb)) (aM (below_step (pH HB) hb)))
                  clear BK101 HB
                  obtain ⟨HO164, BK101, HB⟩ := n_
                  (try clear hb)
                  (try clear hb2)
                  (try clear hk)
                  (try clear hi)
                  (try clear ho0)
                  have p177 : 0 ≤ (0 : Int) := (by omega)
                  have q177 : 0 < a0.size := (by have : (0 : Int) < (a0.size : Int) := dA; omega)
                  have hx177 : ∀ h : 0 < a0.size, ((a0[0]'h).toNat : Int) = bt a0 0 := bt_at a0 0
                  clear p177
                  have qi177 : (0 < (a0.size : Int)) = True := eq_true (dA)
                  replace q177 := eq_true q177
                  obtain ⟨Ao183, co183, eo183⟩ := Kd.N_slice HO164.out
                  (first | subst eo183 | (injection eo183 with f1_ f2_ f3_; have f4_ := f1_.symm; have f5_ := f3_.symm; clear f1_ f2_ f3_; subst f4_; subst f5_))
                  refine hK.out _ _ trivial (fun hHeld => ?_)
                  clear hK K
                  refine norm_ (a' := ?_) ?_ ?_
                  rotate_left
                  ·show Act.put _ (some 115) _ = _
                   simp only [sP, i64_w, i32_w]
                   rfl
                  refine pS (i := 7) (N := some 121) (bs 8 7) (aO HT_) ?_
                  refine pS (i := 8) (N := some 122) (bs 9 6) (aO HT_) ?_
                  refine take_ (i := 9) (N := some 123) (v := ?_) (a' := ?_) (bs 10 5) rfl rfl (take_ofW HT_.out HW_.out (by kernel_rfl)) (fun _ _ _ h => h) (Or.inl ⟨by rfl, ?_⟩) hHeld ?_ ?_
                  rotate_left
                  ·intro w' _
                   go_simp
                   with_reducible rfl
                  rotate_left
                  ·simp only [sP, i64_w, i32_w]
                   rfl
                  refine pS (i := 10) (N := some 124) (bs 11 4) (aO HT_) ?_
                  refine pS (i := 11) (N := some 125) (bs 12 3) (aO HT_) ?_
                  refine one_ (i := 12) (N := none) (bs 13 2) rfl rfl (one_of HT_.out (by kernel_rfl)) (by decide) (fun K hK => ?_)
                  have hs181 : w180.cell? ⟨gb101, 0, none⟩ = some (.int .i64 0) := (blk_cell BK101.out 0).trans rfl
                  have hfs181 := blk_frozen BK101.out 0
                  have hs182 : w180.cell? ⟨gb101, 1, none⟩ = some (.int .i64 0) := (blk_cell BK101.out 1).trans rfl
                  have hfs182 := blk_frozen BK101.out 1
                  have hs184 : w180.cell? ⟨gb101, 2, none⟩ = some (.slice none 0 0) := (blk_cell BK101.out 2).trans rfl
                  have hfs184 := blk_frozen BK101.out 2
                  refine skip_ (w1 := ?_) (by rfl) rfl ?_ ?_
                  rotate_left
                  ·go_simp
                   rfl
                  refine hK.out _ _ trivial (fun hHeld => ?_)
                  clear hK K
                  refine pS (i := 13) (N := some 5) (bs 14 1) (aO HT_) ?_
                  refine pS (i := 14) (N := some 6) (bs 15 0) (aO HT_) ?_
                  refine done_ (done_of HT_.out (by kernel_rfl)) ?_
                  try go_wp2
                  refine bodyPost_ret (results_ctt rfl _ _ gb101 45 #[.int .i64 t160, .int .i64 t161, .slice Ao183 t162.length co183] (0, 0) _ rfl (p3 BK101) Tryd.underlying45 rfl (by kernel_rfl)) rfl ?_
                  exact ⟨_, eW, by (with_reducible repeat (first | apply Kd.N_alloc | apply Kd.N_drewN | apply Kd.N_drew)); exact Kd.N_mono (nF3 gb101 (Kd.N_mono HO164.out (fun k_ hk => (⟨hk, hk.2⟩ : _ ∧ k_ ≠ gb101))) (fun _ hk => hk.2)) (fun _ hk => hk.1.1), pH HB⟩
                 ·rw [if_neg c176] at H
                  exact absurd H (by simp)
                ·have H1 : (some (t160, t161, t162, a0.extract (x15_2 : Int).toNat a0.size, false)) = some (r1, r2, r3, r4, r5) := by rw [if_neg (show ¬ (some q165).isNone = true by simp)] at H; exact H
                 clear H
                 have H := H1
                 clear H1
                 try simp only [errW_none, errW_some]
                 simp only [Option.some.injEq, Prod.mk.injEq] at H
                 obtain ⟨rfl, rfl, rfl, rfl, rfl⟩ := H
                 try go_wp2_with (first | ((with_reducible refine gate_callee (f := 38) rfl ?_); refine goesL_ (some 111) rfl rfl Tryd.func38 (by kernel_rfl) rfl #[.string (a0.extract 1 (x15_2 : Int).toNat)] rfl tA ?_; (with_reducible refine (strconv_Atoi_38.callsS (a0.extract 1 (x15_2 : Int).toNat) t158 q165 _ A172.out (HE.out.below (pH HB)).lib).mono ?_); rintro e w185 ⟨et_, ep_, rfl, hb⟩; refine ⟨_, rfl, ?_⟩; replace BK101 := qb BK101 hb; replace HB := qs HB hb; (try clear hb); (try simp only [errW_none, errW_some])))
                 have n_ := aJ (aM (blk_drew BK101.out)) (aM (below_drew1 HB.out))
                 clear BK101 HB
                 obtain ⟨BK101, HB⟩ := n_
                 refine start_ (n := 15) (S := fun w' => True) (ds := []) (bs 0 15) (by kernel_rfl) rfl rfl trivial (fun hHeld => ?_); refine with_tabW impl_combRead.tab20 impl_combRead.bits20 (fun HT_ HW_ => ?_)
                 generalize w185.drew = w186 at BK101 HB hHeld ⊢
                 refine pS (i := 0) (N := some 114) (bs 1 14) (aO HT_) ?_
                 refine pS (i := 2) (N := some 116) #[true, false, true, false, false, false, false, false, false, false, false, false, false, false, false] (aO HT_) ?_
                 refine pS (i := 3) (N := some 117) #[true, false, true, true, false, false, false, false, false, false, false, false, false, false, false] (aO HT_) ?_
                 refine pS (i := 4) (N := some 118) #[true, false, true, true, true, false, false, false, false, false, false, false, false, false, false] (aO HT_) ?_
                 refine pS (i := 5) (N := some 119) #[true, false, true, true, true, true, false, false, false, false, false, false, false, false, false] (aO HT_) ?_
                 refine pS (i := 6) (N := some 120) #[true, false, true, true, true, true, true, false, false, false, false, false, false, false, false] (aO HT_) ?_
                 refine one_ (i := 1) (N := some 115) (bs 7 8) rfl rfl (one_of HT_.out (by kernel_rfl)) (by decide) (fun K hK => ?_)
                 refine goes_ Tryd.func39 (by kernel_rfl) rfl #[.int .i64 t158] (by rfl) rfl rfl tA ?_
                 with_reducible refine (impl_combVar.calls t158 t160 t161 t162 _ A173.out).mono ?_
                 rintro e w187 ⟨v163, rfl, ho0, hb⟩
                 refine ⟨_, rfl, ?_⟩
                 have n_ := aJ (aM (Kd.N_lower (Kd.N_mono (ok' := fun k_ => (w.heap.size ≤ k_) ∧ k_ ≠ gb101) (Kd.R_N (Kd.R_bound ho0)) (fun k_ hk_ => ⟨(Nat.le_trans (below_size (pH HB)) hk_.2.1), (Kd.freshB BK101.out k_ hk_.2.1)⟩)) (below_size (pH HB)))) (aJ (aM (blk_below BK101.out hb)) (aM (below_step (pH HB) hb)))
                 clear BK101 HB
                 obtain ⟨HO164, BK101, HB⟩ := n_
                 (try clear hb)
                 (try clear hb2)
                 (try clear hk)
                 (try clear hi)
                 (try clear ho0)
                 obtain ⟨Ao190, co190, eo190⟩ := Kd.N_slice HO164.out
                 (first | subst eo190 | (injection eo190 with f1_ f2_ f3_; have f4_ := f1_.symm; have f5_ := f3_.symm; clear f1_ f2_ f3_; subst f4_; subst f5_))
                 refine hK.out _ _ trivial (fun hHeld => ?_)
                 clear hK K
                 refine norm_ (a' := ?_) ?_ ?_
                 rotate_left
                 ·show Act.put _ (some 115) _ = _
                  simp only [sP, i64_w, i32_w]
                  rfl
                 refine pS (i := 7) (N := some 121) (bs 8 7) (aO HT_) ?_
                 refine pure_ (i := 8) (N := some 122) (v := undef) (a' := ?_) (bs 9 6) rfl rfl (any_of HT_.out (by kernel_rfl)) (fun _ _ _ h => h) (Or.inr ⟨by rfl, rfl⟩) ?_ ?_
                 rotate_left
                 ·simp only [sP, i64_w, i32_w]
                  rfl
                 refine pure_ (i := 9) (N := some 123) (v := undef) (a' := ?_) (bs 10 5) rfl rfl (any_of HT_.out (by kernel_rfl)) (fun _ _ _ h => h) (Or.inr ⟨by rfl, rfl⟩) ?_ ?_
                 rotate_left
                 ·simp only [sP, i64_w, i32_w]
                  rfl
                 refine pure_ (i := 10) (N := some 124) (v := undef) (a' := ?_) (bs 11 4) rfl rfl (any_of HT_.out (by kernel_rfl)) (fun _ _ _ h => h) (Or.inr ⟨by rfl, rfl⟩) ?_ ?_
                 rotate_left
                 ·simp only [sP, i64_w, i32_w]
                  rfl
                 refine pS (i := 11) (N := some 125) (bs 12 3) (aO HT_) ?_
                 refine one_ (i := 12) (N := none) (bs 13 2) rfl rfl (one_of HT_.out (by kernel_rfl)) (by decide) (fun K hK => ?_)
                 have hs188 : w187.cell? ⟨gb101, 0, none⟩ = some (.int .i64 0) := (blk_cell BK101.out 0).trans rfl
                 have hfs188 := blk_frozen BK101.out 0
                 have hs189 : w187.cell? ⟨gb101, 1, none⟩ = some (.int .i64 0) := (blk_cell BK101.out 1).trans rfl
                 have hfs189 := blk_frozen BK101.out 1
                 have hs191 : w187.cell? ⟨gb101, 2, none⟩ = some (.slice none 0 0) := (blk_cell BK101.out 2).trans rfl
                 have hfs191 := blk_frozen BK101.out 2
                 refine skip_ (w1 := ?_) (by rfl) rfl ?_ ?_
                 rotate_left
                 ·go_simp
                  rfl
                 refine hK.out _ _ trivial (fun hHeld => ?_)
                 clear hK K
                 refine pS (i := 13) (N := some 5) (bs 14 1) (aO HT_) ?_
                 refine pS (i := 14) (N := some 6) (bs 15 0) (aO HT_) ?_
                 refine done_ (done_of HT_.out (by kernel_rfl)) ?_
                 try go_wp2
                 refine bodyPost_ret (results_ctt rfl _ _ gb101 45 #[.int .i64 t160, .int .i64 t161, .slice Ao190 t162.length co190] (0, 0) _ rfl (p3 BK101) Tryd.underlying45 rfl (by kernel_rfl)) rfl ?_
                 exact ⟨_, eW, by (with_reducible repeat (first | apply Kd.N_alloc | apply Kd.N_drewN | apply Kd.N_drew)); exact Kd.N_mono (nF3 gb101 (Kd.N_mono HO164.out (fun k_ hk => (⟨hk, hk.2⟩ : _ ∧ k_ ≠ gb101))) (fun _ hk => hk.2)) (fun _ hk => hk.1.1), pH HB⟩
               ·rw [if_neg c174] at H
                exact absurd H (by simp)
              ·rw [if_neg c171] at H
               exact absurd H (by simp)
             ·rw [if_neg c170] at H
              exact absurd H (by simp)
           ·rw [if_neg c119] at H
            have c119b0 : decide (x15_2 < (a0.size : Int)) = false := decide_eq_false c119
            clear c119
            by_cases c192 : 1 ≤ x15_2
            ·rw [if_pos c192] at H
             have c192b0 := eq_true c192
             have c192b1 : decide (1 ≤ x15_2) = true := decide_eq_true c192
             clear c192
             by_cases c193 : x15_2 ≤ (a0.size : Int)
             ·rw [if_pos c193] at H
              have c193b0 := eq_true c193
              have c193b1 : decide (x15_2 ≤ (a0.size : Int)) = true := decide_eq_true c193
              clear c193
              replace H := Option.bind_eq_some_iff.mp H
              obtain ⟨⟨t166, t167⟩, A1940, H⟩ := H
              try dsimp only at H
              have A194 := aM A1940
              clear A1940
              replace H := Option.bind_eq_some_iff.mp H
              obtain ⟨⟨t168, t169, t170⟩, A1950, H⟩ := H
              try dsimp only at H
              have A195 := aM A1950
              clear A1950
              by_cases c196 : 0 ≤ x15_2
              ·rw [if_pos c196] at H
               have c196b0 := eq_true c196
               have c196b1 : decide (0 ≤ x15_2) = true := decide_eq_true c196
               clear c196
               have c197b0 := eq_true (dA : x15_2 ≤ (a0.size : Int))
               rcases t167 with _ | q173
               ·have H1 : (if 0 < (a0.size : Int) then (some (t168, t169, t170, a0.extract (x15_2 : Int).toNat a0.size, ((bt a0 0) == 120))) else (none)) = some (r1, r2, r3, r4, r5) := by rw [if_pos (show (none : Option Int).isNone = true by rfl)] at H; exact H
                clear H
                have H := H1
                clear H1
                try simp only [errW_none, errW_some]
                by_cases c198 : 0 < (a0.size : Int)
                ·rw [if_pos c198] at H
                 have c198b0 : decide (0 < (a0.size : Int)) = true := decide_eq_true c198
                 have c198b1 : decide (0 < a0.size) = true := decide_eq_true (by omega)
                 clear c198
                 simp only [Option.some.injEq, Prod.mk.injEq] at H
                 obtain ⟨rfl, rfl, rfl, rfl, rfl⟩ := H
                 try go_wp2_with (first | ((with_reducible refine gate_callee (f := 38) rfl ?_); refine goesL_ (some 111) rfl rfl Tryd.func38 (by kernel_rfl) rfl #[.string (a0.extract 1 (x15_2 : Int).toNat)] rfl tA ?_; (with_reducible refine (strconv_Atoi_38.callsN (a0.extract 1 (x15_2 : Int).toNat) t166 _ A194.out (HE.out.below (pH HB)).lib).mono ?_); rintro e w200 ⟨rfl, hb⟩; refine ⟨_, rfl, ?_⟩; replace BK101 := qb BK101 hb; replace HB := qs HB hb; (try clear hb); (try simp only [errW_none, errW_some])))
                 have n_ := aJ (aM (blk_drew BK101.out)) (aM (below_drew1 HB.out))
                 clear BK101 HB
                 obtain ⟨BK101, HB⟩ := n_
                 refine start_ (n := 15) (S := fun w' => True) (ds := []) (bs 0 15) (by kernel_rfl) rfl rfl trivial (fun hHeld => ?_); refine with_tabW impl_combRead.tab20 impl_combRead.bits20 (fun HT_ HW_ => ?_)
                 generalize w200.drew = w201 at BK101 HB hHeld ⊢
                 refine pS (i := 0) (N := some 114) (bs 1 14) (aO HT_) ?_
                 refine pS (i := 2) (N := some 116) #[true, false, true, false, false, false, false, false, false, false, false, false, false, false, false] (aO HT_) ?_
                 refine pS (i := 3) (N := some 117) #[true, false, true, true, false, false, false, false, false, false, false, false, false, false, false] (aO HT_) ?_
                 refine pS (i := 4) (N := some 118) #[true, false, true, true, true, false, false, false, false, false, false, false, false, false, false] (aO HT_) ?_
                 refine pS (i := 5) (N := some 119) #[true, false, true, true, true, true, false, false, false, false, false, false, false, false, false] (aO HT_) ?_
                 refine pS (i := 6) (N := some 120) #[true, false, true, true, true, true, true, false, false, false, false, false, false, false, false] (aO HT_) ?_
                 refine one_ (i := 1) (N := some 115) (bs 7 8) rfl rfl (one_of HT_.out (by kernel_rfl)) (by decide) (fun K hK => ?_)
                 refine goes_ Tryd.func39 (by kernel_rfl) rfl #[.int .i64 t166] (by rfl) rfl rfl tA ?_
                 with_reducible refine (impl_combVar.calls t166 t168 t169 t170 _ A195.out).mono ?_
                 rintro e w202 ⟨v171, rfl, ho0, hb⟩
                 refine ⟨_, rfl, ?_⟩
                 have n_ := aJ (aM (Kd.N_lower (Kd.N_mono (ok' := fun k_ => (w.heap.size ≤ k_) ∧ k_ ≠ gb101) (Kd.R_N (Kd.R_bound ho0)) (fun k_ hk_ => ⟨(Nat.le_trans (below_size (pH HB)) hk_.2.1), (Kd.freshB BK101.out k_ hk_.2.1)⟩)) (below_size (pH HB)))) (aJ (aM (blk_below BK101.out hb)) (aM (below_step (pH HB) hb)))
                 clear BK101 HB
                 obtain ⟨HO172, BK101, HB⟩ := n_
                 (try clear hb)
                 (try clear hb2)
                 (try clear hk)
                 (try clear hi)
                 (try clear ho0)
                 have p199 : 0 ≤ (0 : Int) := (by omega)
                 have q199 : 0 < a0.size := (by have : (0 : Int) < (a0.size : Int) := dA; omega)
                 have hx199 : ∀ h : 0 < a0.size, ((a0[0]'h).toNat : Int) = bt a0 0 := bt_at a0 0
                 clear p199
                 have qi199 : (0 < (a0.size : Int)) = True := eq_true (dA)
                 replace q199 := eq_true q199
                 obtain ⟨Ao205, co205, eo205⟩ := Kd.N_slice HO172.out
                 (first | subst eo205 | (injection eo205 with f1_ f2_ f3_; have f4_ := f1_.symm; have f5_ := f3_.symm; clear f1_ f2_ f3_; subst f4_; subst f5_))
                 refine hK.out _ _ trivial (fun hHeld => ?_)
                 clear hK K
                 refine norm_ (a' := ?_) ?_ ?_
                 rotate_left
                 ·show Act.put _ (some 115) _ = _
                  simp only [sP, i64_w, i32_w]
                  rfl
                 refine pS (i := 7) (N := some 121) (bs 8 7) (aO HT_) ?_
                 refine pS (i := 8) (N := some 122) (bs 9 6) (aO HT_) ?_
                 refine take_ (i := 9) (N := some 123) (v := ?_) (a' := ?_) (bs 10 5) rfl rfl (take_ofW HT_.out HW_.out (by kernel_rfl)) (fun _ _ _ h => h) (Or.inl ⟨by rfl, ?_⟩) hHeld ?_ ?_
                 rotate_left
                 ·intro w' _
                  go_simp
                  with_reducible rfl
                 rotate_left
                 ·simp only [sP, i64_w, i32_w]
                  rfl
                 refine pS (i := 10) (N := some 124) (bs 11 4) (aO HT_) ?_
                 refine pS (i := 11) (N := some 125) (bs 12 3) (aO HT_) ?_
                 refine one_ (i := 12) (N := none) (bs 13 2) rfl rfl (one_of HT_.out (by kernel_rfl)) (by decide) (fun K hK => ?_)
                 have hs203 : w202.cell? ⟨gb101, 0, none⟩ = some (.int .i64 0) := (blk_cell BK101.out 0).trans rfl
                 have hfs203 := blk_frozen BK101.out 0
                 have hs204 : w202.cell? ⟨gb101, 1, none⟩ = some (.int .i64 0) := (blk_cell BK101.out 1).trans rfl
                 have hfs204 := blk_frozen BK101.out 1
                 have hs206 : w202.cell? ⟨gb101, 2, none⟩ = some (.slice none 0 0) := (blk_cell BK101.out 2).trans rfl
                 have hfs206 := blk_frozen BK101.out 2
                 refine skip_ (w1 := ?_) (by rfl) rfl ?_ ?_
                 rotate_left
                 ·go_simp
                  rfl
                 refine hK.out _ _ trivial (fun hHeld => ?_)
                 clear hK K
                 refine pS (i := 13) (N := some 5) (bs 14 1) (aO HT_) ?_
                 refine pS (i := 14) (N := some 6) (bs 15 0) (aO HT_) ?_
                 refine done_ (done_of HT_.out (by kernel_rfl)) ?_
                 try go_wp2
                 refine bodyPost_ret (results_ctt rfl _ _ gb101 45 #[.int .i64 t168, .int .i64 t169, .slice Ao205 t170.length co205] (0, 0) _ rfl (p3 BK101) Tryd.underlying45 rfl (by kernel_rfl)) rfl ?_
                 exact ⟨_, eW, by (with_reducible repeat (first | apply Kd.N_alloc | apply Kd.N_drewN | apply Kd.N_drew)); exact Kd.N_mono (nF3 gb101 (Kd.N_mono HO172.out (fun k_ hk => (⟨hk, hk.2⟩ : _ ∧ k_ ≠ gb101))) (fun _ hk => hk.2)) (fun _ hk => hk.1.1), pH HB⟩
                ·rw [if_neg c198] at H
                 exact absurd H (by simp)
               ·have H1 : (some (t168, t169, t170, a0.extract (x15_2 : Int).toNat a0.size, false)) = some (r1, r2, r3, r4, r5) := by rw [if_neg (show ¬ (some q173).isNone = true by simp)] at H; exact H
                clear H
                have H := H1
                clear H1
                try simp only [errW_none, errW_some]
                simp only [Option.some.injEq, Prod.mk.injEq] at H
                obtain ⟨rfl, rfl, rfl, rfl, rfl⟩ := H
                try go_wp2_with (first | ((with_reducible refine gate_callee (f := 38) rfl ?_); refine goesL_ (some 111) rfl rfl Tryd.func38 (by kernel_rfl) rfl #[.string (a0.extract 1 (x15_2 : Int).toNat)] rfl tA ?_; (with_reducible refine (strconv_Atoi_38.callsS (a0.extract 1 (x15_2 : Int).toNat) t166 q173 _ A194.out (HE.out.below (pH HB)).lib).mono ?_); rintro e w207 ⟨et_, ep_, rfl, hb⟩; refine ⟨_, rfl, ?_⟩; replace BK101 := qb BK101 hb; replace HB := qs HB hb; (try clear hb); (try simp only [errW_none, errW_some])))
                have n_ := aJ (aM (blk_drew BK101.out)) (aM (below_drew1 HB.out))
                clear BK101 HB
                obtain ⟨BK101, HB⟩ := n_
                refine start_ (n := 15) (S := fun w' => True) (ds := []) (bs 0 15) (by kernel_rfl) rfl rfl trivial (fun hHeld => ?_); refine with_tabW impl_combRead.tab20 impl_combRead.bits20 (fun HT_ HW_ => ?_)
                generalize w207.drew = w208 at BK101 HB hHeld ⊢
                refine pS (i := 0) (N := some 114) (bs 1 14) (aO HT_) ?_
                refine pS (i := 2) (N := some 116) #[true, false, true, false, false, false, false, false, false, false, false, false, false, false, false] (aO HT_) ?_
                refine pS (i := 3) (N := some 117) #[true, false, true, true, false, false, false, false, false, false, false, false, false, false, false] (aO HT_) ?_
                refine pS (i := 4) (N := some 118) #[true, false, true, true, true, false, false, false, false, false, false, false, false, false, false] (aO HT_) ?_
                refine pS (i := 5) (N := some 119) #[true, false, true, true, true, true, false, false, false, false, false, false, false, false, false] (aO HT_) ?_
                refine pS (i := 6) (N := some 120) #[true, false, true, true, true, true, true, false, false, false, false, false, false, false, false] (aO HT_) ?_
                refine one_ (i := 1) (N := some 115) (bs 7 8) rfl rfl (one_of HT_.out (by kernel_rfl)) (by decide) (fun K hK => ?_)
                refine goes_ Tryd.func39 (by kernel_rfl) rfl #[.int .i64 t166] (by rfl) rfl rfl tA ?_
                with_reducible refine (impl_combVar.calls t166 t168 t169 t170 _ A195.out).mono ?_
                rintro e w209 ⟨v171, rfl, ho0, hb⟩
                refine ⟨_, rfl, ?_⟩
                have n_ := aJ (aM (Kd.N_lower (Kd.N_mono (ok' := fun k_ => (w.heap.size ≤ k_) ∧ k_ ≠ gb101) (Kd.R_N (Kd.R_bound ho0)) (fun k_ hk_ => ⟨(Nat.le_trans (below_size (pH HB)) hk_.2.1), (Kd.freshB BK101.out k_ hk_.2.1)⟩)) (below_size (pH HB)))) (aJ (aM (blk_below BK101.out hb)) (aM (below_step (pH HB) hb)))
                clear BK101 HB
                obtain ⟨HO172, BK101, HB⟩ := n_
                (try clear hb)
                (try clear hb2)
                (try clear hk)
                (try clear hi)
                (try clear ho0)
                obtain ⟨Ao212, co212, eo212⟩ := Kd.N_slice HO172.out
                (first | subst eo212 | (injection eo212 with f1_ f2_ f3_; have f4_ := f1_.symm; have f5_ := f3_.symm; clear f1_ f2_ f3_; subst f4_; subst f5_))
                refine hK.out _ _ trivial (fun hHeld => ?_)
                clear hK K
                refine norm_ (a' := ?_) ?_ ?_
                rotate_left
                ·show Act.put _ (some 115) _ = _
                 simp only [sP, i64_w, i32_w]
                 rfl
                refine pS (i := 7) (N := some 121) (bs 8 7) (aO HT_) ?_
                refine pure_ (i := 8) (N := some 122) (v := undef) (a' := ?_) (bs 9 6) rfl rfl (any_of HT_.out (by kernel_rfl)) (fun _ _ _ h => h) (Or.inr ⟨by rfl, rfl⟩) ?_ ?_
                rotate_left
                ·simp only [sP, i64_w, i32_w]
                 rfl
                refine pure_ (i := 9) (N := some 123) (v := undef) (a' := ?_) (bs 10 5) rfl rfl (any_of HT_.out (by kernel_rfl)) (fun _ _ _ h => h) (Or.inr ⟨by rfl, rfl⟩) ?_ ?_
                rotate_left
                ·simp only [sP, i64_w, i32_w]
                 rfl
                refine pure_ (i := 10) (N := some 124) (v := undef) (a' := ?_) (bs 11 4) rfl rfl (any_of HT_.out (by kernel_rfl)) (fun _ _ _ h => h) (Or.inr ⟨by rfl, rfl⟩) ?_ ?_
                rotate_left
                ·simp only [sP, i64_w, i32_w]
                 rfl
                refine pS (i := 11) (N := some 125) (bs 12 3) (aO HT_) ?_
                refine one_ (i := 12) (N := none) (bs 13 2) rfl rfl (one_of HT_.out (by kernel_rfl)) (by decide) (fun K hK => ?_)
                have hs210 : w209.cell? ⟨gb101, 0, none⟩ = some (.int .i64 0) := (blk_cell BK101.out 0).trans rfl
                have hfs210 := blk_frozen BK101.out 0
                have hs211 : w209.cell? ⟨gb101, 1, none⟩ = some (.int .i64 0) := (blk_cell BK101.out 1).trans rfl
                have hfs211 := blk_frozen BK101.out 1
                have hs213 : w209.cell? ⟨gb101, 2, none⟩ = some (.slice none 0 0) := (blk_cell BK101.out 2).trans rfl
                have hfs213 := blk_frozen BK101.out 2
                refine skip_ (w1 := ?_) (by rfl) rfl ?_ ?_
                rotate_left
                ·go_simp
                 rfl
                refine hK.out _ _ trivial (fun hHeld => ?_)
                clear hK K
                refine pS (i := 13) (N := some 5) (bs 14 1) (aO HT_) ?_
                refine pS (i := 14) (N := some 6) (bs 15 0) (aO HT_) ?_
                refine done_ (done_of HT_.out (by kernel_rfl)) ?_
                try go_wp2
                refine bodyPost_ret (results_ctt rfl _ _ gb101 45 #[.int .i64 t168, .int .i64 t169, .slice Ao212 t170.length co212] (0, 0) _ rfl (p3 BK101) Tryd.underlying45 rfl (by kernel_rfl)) rfl ?_
                exact ⟨_, eW, by (with_reducible repeat (first | apply Kd.N_alloc | apply Kd.N_drewN | apply Kd.N_drew)); exact Kd.N_mono (nF3 gb101 (Kd.N_mono HO172.out (fun k_ hk => (⟨hk, hk.2⟩ : _ ∧ k_ ≠ gb101))) (fun _ hk => hk.2)) (fun _ hk => hk.1.1), pH HB⟩
              ·rw [if_neg c196] at H
               exact absurd H (by simp)
             ·rw [if_neg c193] at H
              exact absurd H (by simp)
            ·rw [if_neg c192] at H
             exact absurd H (by simp)
    ·rw [if_neg c8] at H
     exact absurd H (by simp)


def impl_ReadComb.f (k : Nat) (a0 : ByteArray) : Option ((List (S65)) × Bool) := if (a0.size : Int) > 1000 then (some (([] : List (S65)), false)) else ((impl_combRead.f k a0 1).bind fun bt101 => (if bt101.2.2.2.2 = true then (if bt101.2.2.2.1.toList = ([] : List UInt8) then ((impl_comb_text.f k bt101.1 bt101.2.1 bt101.2.2.1).bind fun t109 => (if t109.toList = a0.toList then ((impl_comb_goodNodes.f k bt101.1 bt101.2.1 bt101.2.2.1).bind fun bt110 => (some (bt110.1, bt110.2))) else (some (([] : List (S65)), false)))) else (some (([] : List (S65)), false))) else (some (([] : List (S65)), false))))
set_option maxHeartbeats 8000000 in
set_option maxRecDepth 100000 in
theorem impl_ReadComb.calls (k : Nat) (a0 : ByteArray) (r1 : List (S65)) (r2 : Bool) (w : World) (h : impl_ReadComb.f k a0 = some (r1, r2)) (hE : Met w) :
  Calls Tryd.prog 7 #[.string a0] w fun e w' => ∃ v0_ : Value, e = .returned (.tuple #[v0_, .bool r2]) ∧ Kd.R k65 65 w' w.heap.size (fun _ => True) v0_ r1 ∧ Below w.heap.size w w' := by
 have hu45 := Tryd.underlying45
 have HB := aK (Below.refl w.heap.size w)
 have HE := aK hE
 clear hE
 have H : (if (a0.size : Int) > 1000 then (some (([] : List (S65)), false)) else ((impl_combRead.f k a0 1).bind fun bt101 => (if bt101.2.2.2.2 = true then (if bt101.2.2.2.1.toList = ([] : List UInt8) then ((impl_comb_text.f k bt101.1 bt101.2.1 bt101.2.2.1).bind fun t109 => (if t109.toList = a0.toList then ((impl_comb_goodNodes.f k bt101.1 bt101.2.1 bt101.2.2.1).bind fun bt110 => (some (bt110.1, bt110.2))) else (some (([] : List (S65)), false)))) else (some (([] : List (S65)), false))) else (some (([] : List (S65)), false))))) = some (r1, r2) := h
 clear h
 by_cases c2 : (a0.size : Int) > 1000
 ·rw [if_pos c2] at H
  have c2b0 : decide (1000 < (a0.size : Int)) = true := decide_eq_true c2
  have c2b1 : decide (1000 < a0.size) = true := decide_eq_true (by omega)
  clear c2
  simp only [Option.some.injEq, Prod.mk.injEq] at H
  obtain ⟨rfl, rfl⟩ := H
  go_enter Tryd.func7, Tryd.ntmps7
  go_wp2
  go_ret2
  exact ⟨_, eW, by first | exact Kd.R_nil _ _ _ _ _ | exact Kd.N_nil _ _ _ _ _ | exact Kd.V_nil _ _ _ _ _ | exact Kd.Q_nil _ _ _ _ _ | exact Kd.S_nil _ _ _ _ _, pH HB⟩
 ·rw [if_neg c2] at H
  have c2b0 : decide (1000 < (a0.size : Int)) = false := decide_eq_false c2
  have c2b1 : decide (1000 < a0.size) = false := decide_eq_false (by omega)
  clear c2
  obtain ⟨⟨t101, t102, t103, t106, t107⟩, A3, H⟩ := oB H
  try dsimp only at H
  by_cases c4 : t107 = true
  ·subst c4
   rw [if_pos rfl] at H
   by_cases c5 : t106.toList = ([] : List UInt8)
   ·rw [if_pos c5] at H
    have c5b0 : (t106.toList == ([] : List UInt8)) = true := beq_iff_eq.mpr c5
    have c5b1 : (t106.toList != ([] : List UInt8)) = false := bne_eq_false_iff_eq.mpr c5
    clear c5
    obtain ⟨t109, A6, H⟩ := oB H
    try dsimp only at H
    by_cases c7 : t109.toList = a0.toList
    ·rw [if_pos c7] at H
     have c7b0 : (t109.toList == a0.toList) = true := beq_iff_eq.mpr c7
     have c7b1 : (t109.toList != a0.toList) = false := bne_eq_false_iff_eq.mpr c7
     clear c7
     obtain ⟨⟨t110, t113⟩, A8, H⟩ := oB H
     try dsimp only at H
     simp only [Option.some.injEq, Prod.mk.injEq] at H
     obtain ⟨rfl, rfl⟩ := H
     go_enter Tryd.func7, Tryd.ntmps7
     go_wp2_with (first | ((with_reducible refine gate_callee (f := 20) rfl ?_); refine goesL_ (some 12) rfl rfl Tryd.func20 (by kernel_rfl) rfl #[.string a0, .int .i64 1] rfl tA ?_; (with_reducible refine (impl_combRead.calls k a0 1 t101 t102 t103 t106 true _ A3.out (HE.out.below HB.out)).mono ?_); rintro e w9 ⟨v104, rfl, ho0, hb⟩; refine ⟨_, rfl, ?_⟩; have HO105 := aK (Kd.N_lower (Kd.N_mono (ok' := fun k_ => True) ho0 (fun k_ hk_ => trivial)) (below_size HB.out)); replace HB := qs HB hb; (try clear hb); (try clear ho0)) | ((with_reducible refine gate_dst (N := 4) rfl ?_); refine bE (N := 4) (cs := #[.int .i64 0, .int .i64 0, .slice none 0 0]) (t := 45) ?_; intro gb108 hg w10 hbox hb; have GW108 := qw HB hg; have GE108 := qw HB hg; replace HO105 := qn HO105 hg hb; have BK108 := aK hbox; replace HB := qs HB hb; clear hb hbox hg; obtain ⟨hcz11_0, hcz11_1, hcz11_2, hfz11_0, hfz11_1, hfz11_2⟩ := cA3 BK108; obtain ⟨Ao12, co12, eo12⟩ := Kd.N_slice HO105.out; subst eo12) | (go_at_call 16; (with_reducible refine (impl_comb_text.calls k t101 t102 _ _ t103 t109 _ ?side1 ?side2 A6.out (HE.out.below (pH HB)).tab).mono ?_); (case side1 => refine (Kd.N_reads' (e := 45) (base := w.heap.size) (ok := fun k_ => (True ∧ k_ ≠ gb108)) (n := t103.length) (c := co12) ?_).2.2; exact (by (with_reducible repeat (first | apply Kd.N_alloc | apply Kd.N_drewN | apply Kd.N_drew)); exact (Kd.N_mono (nF3 gb108 (Kd.N_mono HO105.out (fun k_ hk => (⟨hk, hk.2⟩ : _ ∧ k_ ≠ gb108))) (fun _ hk => hk.2)) (fun _ h_ => h_.1)))); (case side2 => exact (Kd.N_reads' HO105.out).2.1); rintro e w13 ⟨rfl, hb⟩; have n_ := aJ (aK (Kd.N_below (by (with_reducible repeat (first | apply Kd.N_alloc | apply Kd.N_drewN | apply Kd.N_drew)); exact (Kd.N_mono (nF3 gb108 (Kd.N_mono HO105.out (fun k_ hk => (⟨hk, hk.2⟩ : _ ∧ k_ ≠ gb108))) (fun _ hk => hk.2)) (fun _ h_ => h_.1))) hb)) (aJ (aK (blk_below (g := gb108) (o := .cells #[.int .i64 t101, .int .i64 t102, .slice Ao12 t103.length co12] 45 (0, 0)) (p3 BK108) hb)) (aK (below_step (pH HB) hb))); clear HO105 BK108 HB; obtain ⟨HO105, BK108, HB⟩ := n_; (try clear hb); obtain ⟨hcz14_0, hcz14_1, hcz14_2, hfz14_0, hfz14_1, hfz14_2⟩ := cA3 BK108) | ((with_reducible refine gate_callee (f := 21) rfl ?_); refine goesL_ (some 29) rfl rfl Tryd.func21 (by kernel_rfl) rfl #[.agg #[.int .i64 t101, .int .i64 t102, .slice Ao12 t103.length co12]] rfl tA ?_; (with_reducible refine (impl_comb_goodNodes.calls k t101 t102 _ _ t103 t110 t113 _ ?side1 ?side2 A8.out).mono ?_); (case side1 => exact sC ((Kd.N_reads' HO105.out).2.2)); (case side2 => exact (Kd.N_reads' HO105.out).2.1); rintro e w15 ⟨v111, rfl, ho0, hb⟩; refine ⟨_, rfl, ?_⟩; have n0_ := aK (Kd.N_elder' HO105.out (Kd.R_base ho0) hb); have HO112 := aK (Kd.R_lower ho0 (below_size HB.out)); replace BK108 := qb BK108 hb; clear HO105; have HO105 := n0_; clear n0_; replace HB := qs HB hb; (try clear hb); (try clear ho0)))
     go_ret2
     exact ⟨_, eW, by (with_reducible repeat (first | apply Kd.R_alloc | apply Kd.R_drewN | apply Kd.R_drew)); exact HO112.out, pH HB⟩
    ·rw [if_neg c7] at H
     have c7b0 : (t109.toList == a0.toList) = false := beq_eq_false_iff_ne.mpr c7
     have c7b1 : (t109.toList != a0.toList) = true := bne_iff_ne.mpr c7
     simp only [Option.some.injEq, Prod.mk.injEq] at H
     obtain ⟨rfl, rfl⟩ := H
     go_enter Tryd.func7, Tryd.ntmps7
     go_wp2_with (first | ((with_reducible refine gate_callee (f := 20) rfl ?_); refine goesL_ (some 12) rfl rfl Tryd.func20 (by kernel_rfl) rfl #[.string a0, .int .i64 1] rfl tA ?_; (with_reducible refine (impl_combRead.calls k a0 1 t101 t102 t103 t106 true _ A3.out (HE.out.below HB.out)).mono ?_); rintro e w16 ⟨v104, rfl, ho0, hb⟩; refine ⟨_, rfl, ?_⟩; have HO105 := aK (Kd.N_lower (Kd.N_mono (ok' := fun k_ => True) ho0 (fun k_ hk_ => trivial)) (below_size HB.out)); replace HB := qs HB hb; (try clear hb); (try clear ho0)) | ((with_reducible refine gate_dst (N := 4) rfl ?_); refine bE (N := 4) (cs := #[.int .i64 0, .int .i64 0, .slice none 0 0]) (t := 45) ?_; intro gb108 hg w17 hbox hb; have GW108 := qw HB hg; have GE108 := qw HB hg; replace HO105 := qn HO105 hg hb; have BK108 := aK hbox; replace HB := qs HB hb; clear hb hbox hg; obtain ⟨hcz18_0, hcz18_1, hcz18_2, hfz18_0, hfz18_1, hfz18_2⟩ := cA3 BK108; obtain ⟨Ao19, co19, eo19⟩ := Kd.N_slice HO105.out; subst eo19) | (go_at_call 16; (with_reducible refine (impl_comb_text.calls k t101 t102 _ _ t103 t109 _ ?side1 ?side2 A6.out (HE.out.below (pH HB)).tab).mono ?_); (case side1 => refine (Kd.N_reads' (e := 45) (base := w.heap.size) (ok := fun k_ => (True ∧ k_ ≠ gb108)) (n := t103.length) (c := co19) ?_).2.2; exact (by (with_reducible repeat (first | apply Kd.N_alloc | apply Kd.N_drewN | apply Kd.N_drew)); exact (Kd.N_mono (nF3 gb108 (Kd.N_mono HO105.out (fun k_ hk => (⟨hk, hk.2⟩ : _ ∧ k_ ≠ gb108))) (fun _ hk => hk.2)) (fun _ h_ => h_.1)))); (case side2 => exact (Kd.N_reads' HO105.out).2.1); rintro e w20 ⟨rfl, hb⟩; have n_ := aJ (aK (Kd.N_below (by (with_reducible repeat (first | apply Kd.N_alloc | apply Kd.N_drewN | apply Kd.N_drew)); exact (Kd.N_mono (nF3 gb108 (Kd.N_mono HO105.out (fun k_ hk => (⟨hk, hk.2⟩ : _ ∧ k_ ≠ gb108))) (fun _ hk => hk.2)) (fun _ h_ => h_.1))) hb)) (aJ (aK (blk_below (g := gb108) (o := .cells #[.int .i64 t101, .int .i64 t102, .slice Ao19 t103.length co19] 45 (0, 0)) (p3 BK108) hb)) (aK (below_step (pH HB) hb))); clear HO105 BK108 HB; obtain ⟨HO105, BK108, HB⟩ := n_; (try clear hb)))
     go_ret2
     exact ⟨_, eW, by first | exact Kd.R_nil _ _ _ _ _ | exact Kd.N_nil _ _ _ _ _ | exact Kd.V_nil _ _ _ _ _ | exact Kd.Q_nil _ _ _ _ _ | exact Kd.S_nil _ _ _ _ _, pH HB⟩
   ·rw [if_neg c5] at H
    have c5b0 : (t106.toList == ([] : List UInt8)) = false := beq_eq_false_iff_ne.mpr c5
    have c5b1 : (t106.toList != ([] : List UInt8)) = true := bne_iff_ne.mpr c5
    simp only [Option.some.injEq, Prod.mk.injEq] at H
    obtain ⟨rfl, rfl⟩ := H
    go_enter Tryd.func7, Tryd.ntmps7
    go_wp2_with (first | ((with_reducible refine gate_callee (f := 20) rfl ?_); refine goesL_ (some 12) rfl rfl Tryd.func20 (by kernel_rfl) rfl #[.string a0, .int .i64 1] rfl tA ?_; (with_reducible refine (impl_combRead.calls k a0 1 t101 t102 t103 t106 true _ A3.out (HE.out.below HB.out)).mono ?_); rintro e w21 ⟨v104, rfl, ho0, hb⟩; refine ⟨_, rfl, ?_⟩; have HO105 := aK (Kd.N_lower (Kd.N_mono (ok' := fun k_ => True) ho0 (fun k_ hk_ => trivial)) (below_size HB.out)); replace HB := qs HB hb; (try clear hb); (try clear ho0)) | ((with_reducible refine gate_dst (N := 4) rfl ?_); refine bE (N := 4) (cs := #[.int .i64 0, .int .i64 0, .slice none 0 0]) (t := 45) ?_; intro gb108 hg w22 hbox hb; have GW108 := qw HB hg; have GE108 := qw HB hg; replace HO105 := qn HO105 hg hb; have BK108 := aK hbox; replace HB := qs HB hb; clear hb hbox hg; obtain ⟨hcz23_0, hcz23_1, hcz23_2, hfz23_0, hfz23_1, hfz23_2⟩ := cA3 BK108; obtain ⟨Ao24, co24, eo24⟩ := Kd.N_slice HO105.out; subst eo24))
    go_ret2
    exact ⟨_, eW, by first | exact Kd.R_nil _ _ _ _ _ | exact Kd.N_nil _ _ _ _ _ | exact Kd.V_nil _ _ _ _ _ | exact Kd.Q_nil _ _ _ _ _ | exact Kd.S_nil _ _ _ _ _, pH HB⟩
  ·replace c4 := Bool.eq_false_iff.mpr c4
   subst c4
   rw [if_neg (show ¬ (false = true) by decide)] at H
   simp only [Option.some.injEq, Prod.mk.injEq] at H
   obtain ⟨rfl, rfl⟩ := H
   go_enter Tryd.func7, Tryd.ntmps7
   go_wp2_with (first | ((with_reducible refine gate_callee (f := 20) rfl ?_); refine goesL_ (some 12) rfl rfl Tryd.func20 (by kernel_rfl) rfl #[.string a0, .int .i64 1] rfl tA ?_; (with_reducible refine (impl_combRead.calls k a0 1 t101 t102 t103 t106 false _ A3.out (HE.out.below HB.out)).mono ?_); rintro e w25 ⟨v104, rfl, ho0, hb⟩; refine ⟨_, rfl, ?_⟩; have HO105 := aK (Kd.N_lower (Kd.N_mono (ok' := fun k_ => True) ho0 (fun k_ hk_ => trivial)) (below_size HB.out)); replace HB := qs HB hb; (try clear hb); (try clear ho0)) | ((with_reducible refine gate_dst (N := 4) rfl ?_); refine bE (N := 4) (cs := #[.int .i64 0, .int .i64 0, .slice none 0 0]) (t := 45) ?_; intro gb108 hg w26 hbox hb; have GW108 := qw HB hg; have GE108 := qw HB hg; replace HO105 := qn HO105 hg hb; have BK108 := aK hbox; replace HB := qs HB hb; clear hb hbox hg; obtain ⟨hcz27_0, hcz27_1, hcz27_2, hfz27_0, hfz27_1, hfz27_2⟩ := cA3 BK108; obtain ⟨Ao28, co28, eo28⟩ := Kd.N_slice HO105.out; subst eo28))
   go_ret2
   exact ⟨_, eW, by first | exact Kd.R_nil _ _ _ _ _ | exact Kd.N_nil _ _ _ _ _ | exact Kd.V_nil _ _ _ _ _ | exact Kd.Q_nil _ _ _ _ _ | exact Kd.S_nil _ _ _ _ _, pH HB⟩


def impl_isTermFuel.f (a0 : Int) : Option (Bool) := if a0 ≥ 0 then (some (decide (a0 ≤ 1000))) else (some false)
set_option maxHeartbeats 8000000 in
set_option maxRecDepth 100000 in
theorem impl_isTermFuel.calls (a0 : Int) (r : Bool) (w : World) (h : impl_isTermFuel.f a0 = some r) :
  Calls Tryd.prog 22 #[.int .i64 a0] w fun e w' => e = .returned (.bool r) ∧ Drawn0 w w' := by
 have H : (if a0 ≥ 0 then (some (decide (a0 ≤ 1000))) else (some false)) = some r := h
 clear h
 by_cases c2 : a0 ≥ 0
 ·rw [if_pos c2] at H
  have c2b0 : decide (0 ≤ a0) = true := decide_eq_true c2
  clear c2
  obtain rfl := Option.some.inj H
  go_enter Tryd.func22, Tryd.ntmps22
  go_wp2
  go_ret
  exact ⟨by first | rfl | (simp; done) | (simp [*]; done), by repeat (first | exact Drawn0.refl _ | apply Drawn0.step)⟩
 ·rw [if_neg c2] at H
  have c2b0 : decide (0 ≤ a0) = false := decide_eq_false c2
  clear c2
  obtain rfl := Option.some.inj H
  go_enter Tryd.func22, Tryd.ntmps22
  go_wp2
  go_ret
  exact ⟨by first | rfl | (simp; done) | (simp [*]; done), by repeat (first | exact Drawn0.refl _ | apply Drawn0.step)⟩


mutual
def impl_NormalComb.j0 : Nat → Int → Bool → Int → Int → List (S45) → Option ((List (S65)) × Int × Bool)
 | 0, _, _, _, _, _ => none
 | k + 1, x1, x25, x108000, x108001, x108002 => if x25 = true then (some (([] : List (S65)), 0, false)) else (impl_NormalComb.l0 k x1 0 x108000 x108001 x108002)
def impl_NormalComb.l0 : Nat → Int → Int → Int → Int → List (S45) → Option ((List (S65)) × Int × Bool)
 | 0, _, _, _, _, _ => none
 | k + 1, x1, x9, x108000, x108001, x108002 => (impl_comb_step.f k x108000 x108001 x108002).bind fun bt109 => (if bt109.2.2.2 = true then (if x9 = x1 then (some (([] : List (S65)), 0, false)) else ((impl_comb_isGood.f k bt109.1 bt109.2.1 bt109.2.2.1).bind fun t116 => (if t116 = true then (impl_NormalComb.l0 k x1 (wrap64 (x9 + 1)) bt109.1 bt109.2.1 bt109.2.2.1) else (some (([] : List (S65)), 0, false))))) else ((impl_comb_goodNodes.f k x108000 x108001 x108002).bind fun bt117 => (some (bt117.1, x9, true))))
end
def impl_NormalComb.f (k : Nat) (l0 : List (S65)) (a1 : Int) : Option ((List (S65)) × Int × Bool) := (impl_combRoot.f k l0).bind fun bt101 => (if bt101.2.2.2 = true then ((impl_isTermFuel.f a1).bind fun t108 => (impl_NormalComb.j0 k a1 (!t108) bt101.1 bt101.2.1 bt101.2.2.1)) else (impl_NormalComb.j0 k a1 true bt101.1 bt101.2.1 bt101.2.2.1))
set_option maxHeartbeats 8000000 in
set_option maxRecDepth 100000 in
theorem impl_NormalComb.calls (k : Nat) (A0 : Option Addr) (c0 : Nat) (l0 : List (S65)) (a1 : Int) (r1 : List (S65)) (r2 : Int) (r3 : Bool) (w : World) (hr0 : Kd.C k65 w A0 l0.length l0) (hc0 : l0.length ≤ c0) (h : impl_NormalComb.f k l0 a1 = some (r1, r2, r3)) :
  Calls Tryd.prog 8 #[.slice A0 l0.length c0, .int .i64 a1] w fun e w' => ∃ v0_ : Value, e = .returned (.tuple #[v0_, .int .i64 r2, .bool r3]) ∧ Kd.R k65 65 w' w.heap.size (fun _ => True) v0_ r1 ∧ Below w.heap.size w w' := by
 have hu45 := Tryd.underlying45
 have HR0 := aK hr0
 have HC0 := aK hc0
 clear hr0 hc0
 have HB := aK (Below.refl w.heap.size w)
 have H : ((impl_combRoot.f k l0).bind fun bt101 => (if bt101.2.2.2 = true then ((impl_isTermFuel.f a1).bind fun t108 => (impl_NormalComb.j0 k a1 (!t108) bt101.1 bt101.2.1 bt101.2.2.1)) else (impl_NormalComb.j0 k a1 true bt101.1 bt101.2.1 bt101.2.2.1))) = some (r1, r2, r3) := h
 clear h
 obtain ⟨⟨t101, t102, t103, t106⟩, A3, H⟩ := oB H
 try dsimp only at H
 have HC4 := aK H
 clear H
 go_enter Tryd.func8, Tryd.ntmps8
 go_upto_region 2 with (first | ((with_reducible refine gate_callee (f := 15) rfl ?_); refine goesL_ (some 16) rfl rfl Tryd.func15 (by kernel_rfl) rfl #[.slice A0 l0.length c0] rfl tA ?_; (with_reducible refine (impl_combRoot.calls k _ _ l0 t101 t102 t103 t106 _ ?side1 ?side2 A3.out).mono ?_); (case side1 => exact sC HR0.out); (case side2 => exact HC0.out); rintro e w5 ⟨v104, rfl, ho0, hb⟩; refine ⟨_, rfl, ?_⟩; have HO105 := aK (Kd.R_lower ho0 (below_size HB.out)); replace HB := qs HB hb; (try clear hb); (try clear ho0)) | ((with_reducible refine gate_dst (N := 7) rfl ?_); refine bE (N := 7) (cs := #[.int .i64 0, .int .i64 0, .slice none 0 0]) (t := 45) ?_; intro gb107 hg w6 hbox hb; have n0_ := aK (Kd.R_below (Kd.R_elderB HO105.out gb107 (Nat.le_of_eq hg.symm)) hb); have GW107 := qw HB hg; have GE107 := qw HB hg; have BK107 := aK hbox; clear HO105; have HO105 := n0_; clear n0_; replace HB := qs HB hb; clear hb hbox hg; obtain ⟨hcz7_0, hcz7_1, hcz7_2, hfz7_0, hfz7_1, hfz7_2⟩ := cA3 BK107; obtain ⟨Ao8, co8, eo8⟩ := Kd.R_slice HO105.out; subst eo8))
 (try simp only [Act.put, List.setIfInBounds_toArray, List.set_cons_zero, List.set_cons_succ])
 go_cut [25] (fun v25 wc => ∃ (kq : Nat) (x25_3 : Bool), v25 = .bool x25_3 ∧ Aside0 (impl_NormalComb.j0 kq a1 x25_3 t101 t102 t103 = some (r1, r2, r3)) ∧ Aside0 (kq ≤ k) ∧ Aside0 (Kd.R k45 45 wc w.heap.size (fun k_ => k_ ≠ gb107) (.slice Ao8 t103.length co8) t103) ∧ Aside0 (wc.heap[gb107]? = some (.cells #[.int .i64 t101, .int .i64 t102, (.slice Ao8 t103.length co8)] 45 (0, 0))) ∧ Aside0 (Below w.heap.size w wc))
 case first =>
  have H := HC4.out
  clear HC4
  by_cases c9 : t106 = true
  ·subst c9
   rw [if_pos rfl] at H
   obtain ⟨t108, A10, H⟩ := oB H
   try dsimp only at H
   have H' := aK H
   clear H
   go_wp2_with (first | (go_at_call 22; (with_reducible refine (impl_isTermFuel.calls a1 t108 _ A10.out).mono ?_); rintro e w' ⟨rfl, ⟨nd, rfl⟩⟩))
   go_meet
   case rel => exact ⟨_, (!t108), rS, H', ⟨by first | omega | exact Nat.le_refl _⟩, ⟨by (with_reducible repeat (first | apply Kd.R_alloc | apply Kd.R_drewN | apply Kd.R_drew)); exact Kd.R_mono (Kd.R_far (p := ⟨gb107, 2, none⟩) (Kd.R_far (p := ⟨gb107, 1, none⟩) (Kd.R_far (p := ⟨gb107, 0, none⟩) (Kd.R_mono HO105.out (fun k_ hk => (⟨hk, hk.2⟩ : _ ∧ k_ ≠ gb107))) (fun _ hk => hk.2) (.int .i64 t101)) (fun _ hk => hk.2) (.int .i64 t102)) (fun _ hk => hk.2) (.slice Ao8 t103.length co8)) (fun _ hk => hk.1.2)⟩, ⟨p3 BK107⟩, ⟨pH HB⟩⟩
  ·replace c9 := Bool.eq_false_iff.mpr c9
   subst c9
   rw [if_neg (show ¬ (false = true) by decide)] at H
   have H' := aK H
   clear H
   go_wp2
   go_meet
   case rel => exact ⟨_, (true), rS, H', ⟨by first | omega | exact Nat.le_refl _⟩, ⟨by (with_reducible repeat (first | apply Kd.R_alloc | apply Kd.R_drewN | apply Kd.R_drew)); exact Kd.R_mono (Kd.R_far (p := ⟨gb107, 2, none⟩) (Kd.R_far (p := ⟨gb107, 1, none⟩) (Kd.R_far (p := ⟨gb107, 0, none⟩) (Kd.R_mono HO105.out (fun k_ hk => (⟨hk, hk.2⟩ : _ ∧ k_ ≠ gb107))) (fun _ hk => hk.2) (.int .i64 t101)) (fun _ hk => hk.2) (.int .i64 t102)) (fun _ hk => hk.2) (.slice Ao8 t103.length co8)) (fun _ hk => hk.1.2)⟩, ⟨p3 BK107⟩, ⟨pH HB⟩⟩
 case rest =>
  clear HC4
  try clear c1; try clear p2; try clear c8; try clear c9; try clear hcz7_0 hcz7_1 hcz7_2 hfz7_0 hfz7_1 hfz7_2
  obtain ⟨kq, x25_3, rfl, HA, HJ3, HO_108002, BK107, HB⟩ := hcut
  cases kq with
  | zero => exact absurd HA.out (by simp [impl_NormalComb.j0])
  | succ kj3 =>
   have H := HA.out
   clear HA
   simp only [impl_NormalComb.j0] at H
   by_cases c11 : x25_3 = true
   ·subst c11
    rw [if_pos rfl] at H
    simp only [Option.some.injEq, Prod.mk.injEq] at H
    obtain ⟨rfl, rfl, rfl⟩ := H
    go_wp2
    go_ret3
    exact ⟨_, eW, by first | exact Kd.R_nil _ _ _ _ _ | exact Kd.N_nil _ _ _ _ _ | exact Kd.V_nil _ _ _ _ _ | exact Kd.Q_nil _ _ _ _ _ | exact Kd.S_nil _ _ _ _ _, pH HB⟩
   ·replace c11 := Bool.eq_false_iff.mpr c11
    subst c11
    rw [if_neg (show ¬ (false = true) by decide)] at H
    have H' := aK H
    clear H
    go_wp2
    go_loopg [9] kj3 (fun kq v9 w' => ∃ (x9_2 : Int) (x108000_2 : Int) (x108001_2 : Int) (x108002_2 : List (S45)) (u108002 : Value), v9 = .int .i64 x9_2 ∧ Aside0 (impl_NormalComb.l0 kq a1 x9_2 x108000_2 x108001_2 x108002_2 = some (r1, r2, r3)) ∧ Aside0 (kq ≤ kj3) ∧ Aside0 (Kd.V k45 45 w' w.heap.size (fun k_ => k_ ≠ gb107) u108002 x108002_2) ∧ Aside0 (w'.heap[gb107]? = some (.cells #[.int .i64 x108000_2, .int .i64 x108001_2, u108002] 45 (0, 0))) ∧ Aside0 (Below w.heap.size w w'))
    case atStart => exact ⟨(0), (t101), (t102), (t103), (.slice Ao8 t103.length co8), rS, H', ⟨Nat.le_refl _⟩, ⟨Kd.R_V HO_108002.out⟩, ⟨pB BK107⟩, ⟨pH HB⟩⟩
    case round =>
     clear H'
     try clear c1; try clear p2; try clear c8; try clear c9; try clear c11; try clear p2; try clear hcz7_0 hcz7_1 hcz7_2 hfz7_0 hfz7_1 hfz7_2
     obtain ⟨x9_2, x108000_2, x108001_2, x108002_2, u108002, rfl, HA, HK2, HO_108002, BK107, HB⟩ := hrel
     cases gk with
     | zero => exact absurd HA.out (by simp [impl_NormalComb.l0])
     | succ k2 =>
      have H := HA.out
      clear HA
      simp only [impl_NormalComb.l0] at H
      obtain ⟨⟨t109, t110, t111, t114⟩, A12, H⟩ := oB H
      try dsimp only at H
      by_cases c13 : t114 = true
      ·subst c13
       rw [if_pos rfl] at H
       by_cases c14 : x9_2 = a1
       ·rw [if_pos c14] at H
        have c14b0 : (x9_2 == a1) = true := beq_iff_eq.mpr c14
        have c14b1 : (x9_2 != a1) = false := bne_eq_false_iff_eq.mpr c14
        clear c14
        simp only [Option.some.injEq, Prod.mk.injEq] at H
        obtain ⟨rfl, rfl, rfl⟩ := H
        obtain ⟨hcz15_0, hcz15_1, hcz15_2, hfz15_0, hfz15_1, hfz15_2⟩ := cA3 BK107
        obtain ⟨Ao16, co16, eo16⟩ := Kd.V_slice HO_108002.out
        subst eo16
        go_wp2_with (first | ((with_reducible refine gate_callee (f := 23) rfl ?_); refine goesL_ (some 30) rfl rfl Tryd.func23 (by kernel_rfl) rfl #[.agg #[.int .i64 x108000_2, .int .i64 x108001_2, .slice Ao16 x108002_2.length co16]] rfl tA ?_; (with_reducible refine (impl_comb_step.calls k2 x108000_2 x108001_2 (fun k_ => k_ ≠ gb107) _ _ x108002_2 t109 t110 t111 true _ ?side1 A12.out).mono ?_); (case side1 => exact HO_108002.out); rintro e w17 ⟨v112, rfl, ho0, hb⟩; refine ⟨_, rfl, ?_⟩; have n0_ := aK (Kd.V_below HO_108002.out hb); have HO113 := aK (Kd.V_lower (Kd.V_mono (ok' := fun k_ => k_ ≠ gb107) ho0 (fun k_ hk_ => Or.elim hk_ (fun hs_ => hs_) (fun hn_ => (Kd.freshB BK107.out k_ hn_)))) (below_size HB.out)); replace BK107 := qb BK107 hb; clear HO_108002; have HO_108002 := n0_; clear n0_; replace HB := qs HB hb; (try clear hb); (try clear ho0)) | ((with_reducible refine gate_dst (N := 10) rfl ?_); refine bE (N := 10) (cs := #[.int .i64 0, .int .i64 0, .slice none 0 0]) (t := 45) ?_; intro gb115 hg w18 hbox hb; have GW115 := qw HB hg; have GE115 := qw HB hg; have NB107_115 := ql BK107 hg; have NB115_107 := qg BK107 hg; replace HO_108002 := qv HO_108002 hg hb; replace HO113 := qv HO113 hg hb; replace BK107 := qb BK107 hb; have BK115 := aK hbox; replace HB := qs HB hb; clear hb hbox hg; have hnb19 := NB115_107.out; have hnc19 := NB107_115.out; obtain ⟨hcz20_0, hcz20_1, hcz20_2, hfz20_0, hfz20_1, hfz20_2⟩ := cA3 BK115; obtain ⟨Ao21, co21, eo21⟩ := Kd.V_slice HO113.out; subst eo21; obtain ⟨hcz22_0, hcz22_1, hcz22_2, hfz22_0, hfz22_1, hfz22_2⟩ := cA3 BK107))
        go_ret3
        exact ⟨_, eW, by first | exact Kd.R_nil _ _ _ _ _ | exact Kd.N_nil _ _ _ _ _ | exact Kd.V_nil _ _ _ _ _ | exact Kd.Q_nil _ _ _ _ _ | exact Kd.S_nil _ _ _ _ _, pH HB⟩
       ·rw [if_neg c14] at H
        have c14b0 : (x9_2 == a1) = false := beq_eq_false_iff_ne.mpr c14
        have c14b1 : (x9_2 != a1) = true := bne_iff_ne.mpr c14
        obtain ⟨t116, A23, H⟩ := oB H
        try dsimp only at H
        by_cases c24 : t116 = true
        ·subst c24
         rw [if_pos rfl] at H
         have H' := aK H
         clear H
         obtain ⟨hcz25_0, hcz25_1, hcz25_2, hfz25_0, hfz25_1, hfz25_2⟩ := cA3 BK107
         obtain ⟨Ao26, co26, eo26⟩ := Kd.V_slice HO_108002.out
         subst eo26
         go_wp2_with (first | ((with_reducible refine gate_callee (f := 23) rfl ?_); refine goesL_ (some 30) rfl rfl Tryd.func23 (by kernel_rfl) rfl #[.agg #[.int .i64 x108000_2, .int .i64 x108001_2, .slice Ao26 x108002_2.length co26]] rfl tA ?_; (with_reducible refine (impl_comb_step.calls k2 x108000_2 x108001_2 (fun k_ => k_ ≠ gb107) _ _ x108002_2 t109 t110 t111 true _ ?side1 A12.out).mono ?_); (case side1 => exact HO_108002.out); rintro e w27 ⟨v112, rfl, ho0, hb⟩; refine ⟨_, rfl, ?_⟩; have n0_ := aK (Kd.V_below HO_108002.out hb); have HO113 := aK (Kd.V_lower (Kd.V_mono (ok' := fun k_ => k_ ≠ gb107) ho0 (fun k_ hk_ => Or.elim hk_ (fun hs_ => hs_) (fun hn_ => (Kd.freshB BK107.out k_ hn_)))) (below_size HB.out)); replace BK107 := qb BK107 hb; clear HO_108002; have HO_108002 := n0_; clear n0_; replace HB := qs HB hb; (try clear hb); (try clear ho0)) | ((with_reducible refine gate_dst (N := 10) rfl ?_); refine bE (N := 10) (cs := #[.int .i64 0, .int .i64 0, .slice none 0 0]) (t := 45) ?_; intro gb115 hg w28 hbox hb; have GW115 := qw HB hg; have GE115 := qw HB hg; have NB107_115 := ql BK107 hg; have NB115_107 := qg BK107 hg; replace HO_108002 := qv HO_108002 hg hb; replace HO113 := qv HO113 hg hb; replace BK107 := qb BK107 hb; have BK115 := aK hbox; replace HB := qs HB hb; clear hb hbox hg; have hnb29 := NB115_107.out; have hnc29 := NB107_115.out; obtain ⟨hcz30_0, hcz30_1, hcz30_2, hfz30_0, hfz30_1, hfz30_2⟩ := cA3 BK115; obtain ⟨Ao31, co31, eo31⟩ := Kd.V_slice HO113.out; subst eo31; obtain ⟨hcz32_0, hcz32_1, hcz32_2, hfz32_0, hfz32_1, hfz32_2⟩ := cA3 BK107) | (go_at_call 24; (with_reducible refine (impl_comb_isGood.calls k2 t109 t110 _ _ t111 true _ ?side1 ?side2 A23.out).mono ?_); (case side1 => refine (Kd.V_reads' (e := 45) (base := w.heap.size) (ok := fun k_ => (k_ ≠ gb107 ∧ k_ ≠ gb115)) (n := t111.length) (c := co31) ?_).2.2; exact (by (with_reducible repeat (first | apply Kd.V_alloc | apply Kd.V_drewN | apply Kd.V_drew)); exact (Kd.V_mono (Kd.V_mono (vF3 gb107 (vF3 gb115 (Kd.V_mono (Kd.V_mono HO113.out (fun k_ hk => (⟨hk, hk.2⟩ : _ ∧ k_ ≠ gb115))) (fun k_ hk => (⟨hk, hk.1.1⟩ : _ ∧ k_ ≠ gb107))) (fun _ hk => hk.1.2)) (fun _ hk => hk.2)) (fun _ h_ => h_.1)) (fun _ h_ => h_.1)))); (case side2 => exact (Kd.V_reads' HO113.out).2.1); rintro e w33 ⟨rfl, hb⟩; have n_ := aJ (aK (Kd.V_below (by (with_reducible repeat (first | apply Kd.V_alloc | apply Kd.V_drewN | apply Kd.V_drew)); exact (Kd.V_mono (Kd.V_mono (vF3 gb107 (vF3 gb115 (Kd.V_mono (Kd.V_mono HO_108002.out (fun k_ hk => (⟨hk, hk.2⟩ : _ ∧ k_ ≠ gb115))) (fun k_ hk => (⟨hk, hk.1.1⟩ : _ ∧ k_ ≠ gb107))) (fun _ hk => hk.1.2)) (fun _ hk => hk.2)) (fun _ h_ => h_.1)) (fun _ h_ => h_.1))) hb)) (aJ (aK (Kd.V_below (by (with_reducible repeat (first | apply Kd.V_alloc | apply Kd.V_drewN | apply Kd.V_drew)); exact (Kd.V_mono (Kd.V_mono (vF3 gb107 (vF3 gb115 (Kd.V_mono (Kd.V_mono HO113.out (fun k_ hk => (⟨hk, hk.2⟩ : _ ∧ k_ ≠ gb115))) (fun k_ hk => (⟨hk, hk.1.1⟩ : _ ∧ k_ ≠ gb107))) (fun _ hk => hk.1.2)) (fun _ hk => hk.2)) (fun _ h_ => h_.1)) (fun _ h_ => h_.1))) hb)) (aJ (aK (blk_below (g := gb107) (o := .cells #[.int .i64 t109, .int .i64 t110, .slice Ao31 t111.length co31] 45 (0, 0)) (by (with_reducible repeat first | apply zN | apply zD | apply zA); refine blk_put (cs := #[.int .i64 t109, .int .i64 t110, .slice Ao26 x108002_2.length co26]) ?_ 2 _ rfl; (with_reducible repeat first | apply zN | apply zD | apply zA); refine blk_put (cs := #[.int .i64 t109, .int .i64 x108001_2, .slice Ao26 x108002_2.length co26]) ?_ 1 _ rfl; (with_reducible repeat first | apply zN | apply zD | apply zA); refine blk_put (cs := #[.int .i64 x108000_2, .int .i64 x108001_2, .slice Ao26 x108002_2.length co26]) ?_ 0 _ rfl; (repeat first | with_reducible apply zN | with_reducible apply zD | with_reducible apply zA | refine blk_far ?_ NB107_115.out _); exact BK107.out) hb)) (aJ (aK (blk_below (g := gb115) (o := .cells #[.int .i64 t109, .int .i64 t110, .slice Ao31 t111.length co31] 45 (0, 0)) (by (repeat first | with_reducible apply zN | with_reducible apply zD | with_reducible apply zA | refine blk_far ?_ NB115_107.out _); refine blk_put (cs := #[.int .i64 t109, .int .i64 t110, .slice none 0 0]) ?_ 2 _ rfl; (with_reducible repeat first | apply zN | apply zD | apply zA); refine blk_put (cs := #[.int .i64 t109, .int .i64 0, .slice none 0 0]) ?_ 1 _ rfl; (with_reducible repeat first | apply zN | apply zD | apply zA); refine blk_put (cs := #[.int .i64 0, .int .i64 0, .slice none 0 0]) ?_ 0 _ rfl; (with_reducible repeat first | apply zN | apply zD | apply zA); exact BK115.out) hb)) (aK (below_step (pH HB) hb))))); clear HO_108002 HO113 BK107 BK115 HB; obtain ⟨HO_108002, HO113, BK107, BK115, HB⟩ := n_; (try clear hb)))
         go_roundg k2
         case measure => have := HJ3.out; have := HK2.out; omega
         case rel => exact ⟨(wrap64 (x9_2 + 1)), (t109), (t110), (t111), (.slice Ao31 t111.length co31), rS, H', ⟨by have := HJ3.out; have := HK2.out; omega⟩, ⟨by (with_reducible repeat (first | apply Kd.V_alloc | apply Kd.V_drewN | apply Kd.V_drew)); exact Kd.V_mono HO113.out (fun _ hk => hk.1)⟩, ⟨pB BK107⟩, ⟨pH HB⟩⟩
        ·replace c24 := Bool.eq_false_iff.mpr c24
         subst c24
         rw [if_neg (show ¬ (false = true) by decide)] at H
         simp only [Option.some.injEq, Prod.mk.injEq] at H
         obtain ⟨rfl, rfl, rfl⟩ := H
         obtain ⟨hcz34_0, hcz34_1, hcz34_2, hfz34_0, hfz34_1, hfz34_2⟩ := cA3 BK107
         obtain ⟨Ao35, co35, eo35⟩ := Kd.V_slice HO_108002.out
         subst eo35
         go_wp2_with (first | ((with_reducible refine gate_callee (f := 23) rfl ?_); refine goesL_ (some 30) rfl rfl Tryd.func23 (by kernel_rfl) rfl #[.agg #[.int .i64 x108000_2, .int .i64 x108001_2, .slice Ao35 x108002_2.length co35]] rfl tA ?_; (with_reducible refine (impl_comb_step.calls k2 x108000_2 x108001_2 (fun k_ => k_ ≠ gb107) _ _ x108002_2 t109 t110 t111 true _ ?side1 A12.out).mono ?_); (case side1 => exact HO_108002.out); rintro e w36 ⟨v112, rfl, ho0, hb⟩; refine ⟨_, rfl, ?_⟩; have n0_ := aK (Kd.V_below HO_108002.out hb); have HO113 := aK (Kd.V_lower (Kd.V_mono (ok' := fun k_ => k_ ≠ gb107) ho0 (fun k_ hk_ => Or.elim hk_ (fun hs_ => hs_) (fun hn_ => (Kd.freshB BK107.out k_ hn_)))) (below_size HB.out)); replace BK107 := qb BK107 hb; clear HO_108002; have HO_108002 := n0_; clear n0_; replace HB := qs HB hb; (try clear hb); (try clear ho0)) | ((with_reducible refine gate_dst (N := 10) rfl ?_); refine bE (N := 10) (cs := #[.int .i64 0, .int .i64 0, .slice none 0 0]) (t := 45) ?_; intro gb115 hg w37 hbox hb; have GW115 := qw HB hg; have GE115 := qw HB hg; have NB107_115 := ql BK107 hg; have NB115_107 := qg BK107 hg; replace HO_108002 := qv HO_108002 hg hb; replace HO113 := qv HO113 hg hb; replace BK107 := qb BK107 hb; have BK115 := aK hbox; replace HB := qs HB hb; clear hb hbox hg; have hnb38 := NB115_107.out; have hnc38 := NB107_115.out; obtain ⟨hcz39_0, hcz39_1, hcz39_2, hfz39_0, hfz39_1, hfz39_2⟩ := cA3 BK115; obtain ⟨Ao40, co40, eo40⟩ := Kd.V_slice HO113.out; subst eo40; obtain ⟨hcz41_0, hcz41_1, hcz41_2, hfz41_0, hfz41_1, hfz41_2⟩ := cA3 BK107) | (go_at_call 24; (with_reducible refine (impl_comb_isGood.calls k2 t109 t110 _ _ t111 false _ ?side1 ?side2 A23.out).mono ?_); (case side1 => refine (Kd.V_reads' (e := 45) (base := w.heap.size) (ok := fun k_ => (k_ ≠ gb107 ∧ k_ ≠ gb115)) (n := t111.length) (c := co40) ?_).2.2; exact (by (with_reducible repeat (first | apply Kd.V_alloc | apply Kd.V_drewN | apply Kd.V_drew)); exact (Kd.V_mono (Kd.V_mono (vF3 gb107 (vF3 gb115 (Kd.V_mono (Kd.V_mono HO113.out (fun k_ hk => (⟨hk, hk.2⟩ : _ ∧ k_ ≠ gb115))) (fun k_ hk => (⟨hk, hk.1.1⟩ : _ ∧ k_ ≠ gb107))) (fun _ hk => hk.1.2)) (fun _ hk => hk.2)) (fun _ h_ => h_.1)) (fun _ h_ => h_.1)))); (case side2 => exact (Kd.V_reads' HO113.out).2.1); rintro e w42 ⟨rfl, hb⟩; have n_ := aJ (aK (Kd.V_below (by (with_reducible repeat (first | apply Kd.V_alloc | apply Kd.V_drewN | apply Kd.V_drew)); exact (Kd.V_mono (Kd.V_mono (vF3 gb107 (vF3 gb115 (Kd.V_mono (Kd.V_mono HO_108002.out (fun k_ hk => (⟨hk, hk.2⟩ : _ ∧ k_ ≠ gb115))) (fun k_ hk => (⟨hk, hk.1.1⟩ : _ ∧ k_ ≠ gb107))) (fun _ hk => hk.1.2)) (fun _ hk => hk.2)) (fun _ h_ => h_.1)) (fun _ h_ => h_.1))) hb)) (aJ (aK (Kd.V_below (by (with_reducible repeat (first | apply Kd.V_alloc | apply Kd.V_drewN | apply Kd.V_drew)); exact (Kd.V_mono (Kd.V_mono (vF3 gb107 (vF3 gb115 (Kd.V_mono (Kd.V_mono HO113.out (fun k_ hk => (⟨hk, hk.2⟩ : _ ∧ k_ ≠ gb115))) (fun k_ hk => (⟨hk, hk.1.1⟩ : _ ∧ k_ ≠ gb107))) (fun _ hk => hk.1.2)) (fun _ hk => hk.2)) (fun _ h_ => h_.1)) (fun _ h_ => h_.1))) hb)) (aJ (aK (blk_below (g := gb107) (o := .cells #[.int .i64 t109, .int .i64 t110, .slice Ao40 t111.length co40] 45 (0, 0)) (by (with_reducible repeat first | apply zN | apply zD | apply zA); refine blk_put (cs := #[.int .i64 t109, .int .i64 t110, .slice Ao35 x108002_2.length co35]) ?_ 2 _ rfl; (with_reducible repeat first | apply zN | apply zD | apply zA); refine blk_put (cs := #[.int .i64 t109, .int .i64 x108001_2, .slice Ao35 x108002_2.length co35]) ?_ 1 _ rfl; (with_reducible repeat first | apply zN | apply zD | apply zA); refine blk_put (cs := #[.int .i64 x108000_2, .int .i64 x108001_2, .slice Ao35 x108002_2.length co35]) ?_ 0 _ rfl; (repeat first | with_reducible apply zN | with_reducible apply zD | with_reducible apply zA | refine blk_far ?_ NB107_115.out _); exact BK107.out) hb)) (aJ (aK (blk_below (g := gb115) (o := .cells #[.int .i64 t109, .int .i64 t110, .slice Ao40 t111.length co40] 45 (0, 0)) (by (repeat first | with_reducible apply zN | with_reducible apply zD | with_reducible apply zA | refine blk_far ?_ NB115_107.out _); refine blk_put (cs := #[.int .i64 t109, .int .i64 t110, .slice none 0 0]) ?_ 2 _ rfl; (with_reducible repeat first | apply zN | apply zD | apply zA); refine blk_put (cs := #[.int .i64 t109, .int .i64 0, .slice none 0 0]) ?_ 1 _ rfl; (with_reducible repeat first | apply zN | apply zD | apply zA); refine blk_put (cs := #[.int .i64 0, .int .i64 0, .slice none 0 0]) ?_ 0 _ rfl; (with_reducible repeat first | apply zN | apply zD | apply zA); exact BK115.out) hb)) (aK (below_step (pH HB) hb))))); clear HO_108002 HO113 BK107 BK115 HB; obtain ⟨HO_108002, HO113, BK107, BK115, HB⟩ := n_; (try clear hb)))
         go_ret3
         exact ⟨_, eW, by first | exact Kd.R_nil _ _ _ _ _ | exact Kd.N_nil _ _ _ _ _ | exact Kd.V_nil _ _ _ _ _ | exact Kd.Q_nil _ _ _ _ _ | exact Kd.S_nil _ _ _ _ _, pH HB⟩
      ·replace c13 := Bool.eq_false_iff.mpr c13
       subst c13
       rw [if_neg (show ¬ (false = true) by decide)] at H
       obtain ⟨⟨t117, t120⟩, A43, H⟩ := oB H
       try dsimp only at H
       simp only [Option.some.injEq, Prod.mk.injEq] at H
       obtain ⟨rfl, rfl, rfl⟩ := H
       obtain ⟨hcz44_0, hcz44_1, hcz44_2, hfz44_0, hfz44_1, hfz44_2⟩ := cA3 BK107
       obtain ⟨Ao45, co45, eo45⟩ := Kd.V_slice HO_108002.out
       subst eo45
       go_wp2_with (first | ((with_reducible refine gate_callee (f := 23) rfl ?_); refine goesL_ (some 30) rfl rfl Tryd.func23 (by kernel_rfl) rfl #[.agg #[.int .i64 x108000_2, .int .i64 x108001_2, .slice Ao45 x108002_2.length co45]] rfl tA ?_; (with_reducible refine (impl_comb_step.calls k2 x108000_2 x108001_2 (fun k_ => k_ ≠ gb107) _ _ x108002_2 t109 t110 t111 false _ ?side1 A12.out).mono ?_); (case side1 => exact HO_108002.out); rintro e w46 ⟨v112, rfl, ho0, hb⟩; refine ⟨_, rfl, ?_⟩; have n0_ := aK (Kd.V_below HO_108002.out hb); have HO113 := aK (Kd.V_lower (Kd.V_mono (ok' := fun k_ => k_ ≠ gb107) ho0 (fun k_ hk_ => Or.elim hk_ (fun hs_ => hs_) (fun hn_ => (Kd.freshB BK107.out k_ hn_)))) (below_size HB.out)); replace BK107 := qb BK107 hb; clear HO_108002; have HO_108002 := n0_; clear n0_; replace HB := qs HB hb; (try clear hb); (try clear ho0)) | ((with_reducible refine gate_dst (N := 10) rfl ?_); refine bE (N := 10) (cs := #[.int .i64 0, .int .i64 0, .slice none 0 0]) (t := 45) ?_; intro gb115 hg w47 hbox hb; have GW115 := qw HB hg; have GE115 := qw HB hg; have NB107_115 := ql BK107 hg; have NB115_107 := qg BK107 hg; replace HO_108002 := qv HO_108002 hg hb; replace HO113 := qv HO113 hg hb; replace BK107 := qb BK107 hb; have BK115 := aK hbox; replace HB := qs HB hb; clear hb hbox hg; have hnb48 := NB115_107.out; have hnc48 := NB107_115.out; obtain ⟨hcz49_0, hcz49_1, hcz49_2, hfz49_0, hfz49_1, hfz49_2⟩ := cA3 BK115; obtain ⟨Ao50, co50, eo50⟩ := Kd.V_slice HO113.out; subst eo50; obtain ⟨hcz51_0, hcz51_1, hcz51_2, hfz51_0, hfz51_1, hfz51_2⟩ := cA3 BK107) | ((with_reducible refine gate_callee (f := 21) rfl ?_); refine goesL_ (some 37) rfl rfl Tryd.func21 (by kernel_rfl) rfl #[.agg #[.int .i64 x108000_2, .int .i64 x108001_2, .slice Ao45 x108002_2.length co45]] rfl tA ?_; (with_reducible refine (impl_comb_goodNodes.calls k2 x108000_2 x108001_2 _ _ x108002_2 t117 t120 _ ?side1 ?side2 A43.out).mono ?_); (case side1 => refine (Kd.V_reads' (e := 45) (base := w.heap.size) (ok := fun k_ => (k_ ≠ gb107 ∧ k_ ≠ gb115)) (n := x108002_2.length) (c := co45) ?_).2.2; exact (by (with_reducible repeat (first | apply Kd.V_alloc | apply Kd.V_drewN | apply Kd.V_drew)); exact (Kd.V_mono (vF3 gb115 (Kd.V_mono HO_108002.out (fun k_ hk => (⟨hk, hk.2⟩ : _ ∧ k_ ≠ gb115))) (fun _ hk => hk.2)) (fun _ h_ => h_.1)))); (case side2 => exact (Kd.V_reads' HO_108002.out).2.1); rintro e w52 ⟨v118, rfl, ho0, hb⟩; refine ⟨_, rfl, ?_⟩; have n_ := aJ (aK (Kd.V_elder' (by (with_reducible repeat (first | apply Kd.V_alloc | apply Kd.V_drewN | apply Kd.V_drew)); exact (Kd.V_mono (vF3 gb115 (Kd.V_mono HO_108002.out (fun k_ hk => (⟨hk, hk.2⟩ : _ ∧ k_ ≠ gb115))) (fun _ hk => hk.2)) (fun _ h_ => h_.1))) (Kd.R_base ho0) hb)) (aJ (aK (Kd.V_elder' (by (with_reducible repeat (first | apply Kd.V_alloc | apply Kd.V_drewN | apply Kd.V_drew)); exact (Kd.V_mono (vF3 gb115 (Kd.V_mono HO113.out (fun k_ hk => (⟨hk, hk.2⟩ : _ ∧ k_ ≠ gb115))) (fun _ hk => hk.2)) (fun _ h_ => h_.1))) (Kd.R_base ho0) hb)) (aJ (aK (Kd.R_lower ho0 (below_size (pH HB)))) (aJ (aK (blk_below (g := gb107) (o := .cells #[.int .i64 x108000_2, .int .i64 x108001_2, .slice Ao45 x108002_2.length co45] 45 (0, 0)) (by (repeat first | with_reducible apply zN | with_reducible apply zD | with_reducible apply zA | refine blk_far ?_ NB107_115.out _); exact BK107.out) hb)) (aJ (aK (blk_below (g := gb115) (o := .cells #[.int .i64 t109, .int .i64 t110, .slice Ao50 t111.length co50] 45 (0, 0)) (p3 BK115) hb)) (aK (below_step (pH HB) hb)))))); clear HO_108002 HO113 BK107 BK115 HB; obtain ⟨HO_108002, HO113, HO119, BK107, BK115, HB⟩ := n_; (try clear hb); (try clear ho0)))
       go_ret3
       exact ⟨_, eW, by (with_reducible repeat (first | apply Kd.R_alloc | apply Kd.R_drewN | apply Kd.R_drew)); exact HO119.out, pH HB⟩

end Go.Proofs.YthfkimbmepmelaaDoor.G
