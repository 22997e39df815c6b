/- Part 2 of 5 of the proof that the law FnReachedCardSaid holds: for every input that can be read the call returns true and leaves its arguments as they were; no condition but those each theorem names. -/
import Derived.RegionTactic
import Derived.Lib.ItoaNum
import Derived.Lib.AtoiAll
import Derived.Lib.IndexMore
import Derived.Lib.CutLaws
import Derived.Lib.Split
import Derived.Lib.ItoaLen
import Derived.Test.YtcbgjcnekdoloaaDoorQReachedW1
import Derived.Test.YtcbgjcnekdoloaaDoorQReached1
namespace Go.Proofs.YtcbgjcnekdoloaaDoor.G
open Go.RowKit Go.Proofs.YtcbgjcnekdoloaaDoorW.PrintWords Go.Proofs.YtcbgjcnekdoloaaDoorW.PrintLast Go.Proofs.YtcbgjcnekdoloaaDoorW.PrintMore Go.Proofs.YtcbgjcnekdoloaaDoor.Short
attribute [local go_sem] max2_int min2_int max_two min_two max_three min_three max_four min_four   -- for this text's walks alone
set_option linter.unusedVariables false
set_option linter.unusedSimpArgs false

mutual
def spec_l7Move.l0 : Nat → List Bool → List Int → List (S61) → Int → Int → Int → List (S61) → List Int → Int → List (S61) → Option (Int × (List (S61)) × List Int)
 | 0, _, _, _, _, _, _, _, _, _, _ => none
 | k + 1, x1, x5, x17, x18, x19, x102000, x102001, x102002, x107000, x107001 => if x19 < x18 then (if 0 ≤ x19 then (if x19 < (x17.length : Int) then (if x19 < (x1.length : Int) then (if rdOf false x1 x19 = true then (if (rd_T61 x17 x19).f0 = true then (if x19 < (x5.length : Int) then (if x107001.length < 4398046511104 then (spec_l7Move.l0 k x1 (x5.set (x19 : Int).toNat (x107001.length : Int)) x17 x18 (wrap64 (x19 + 1)) x102000 x102001 x102002 x107000 (x107001 ++ [(⟨(rd_T61 x17 x19).f0, (rd_T61 x17 x19).f1, (rd_T61 x17 x19).f2, (rd_T61 x17 x19).f3⟩ : S61)])) else (none)) else (none)) else (if 0 ≤ ((rd_T61 x17 x19).f2) then (if ((rd_T61 x17 x19).f2) < (x5.length : Int) then (if 0 ≤ ((rd_T61 x17 x19).f3) then (if ((rd_T61 x17 x19).f3) < (x5.length : Int) then (if x19 < (x5.length : Int) then (if x107001.length < 4398046511104 then (spec_l7Move.l0 k x1 (x5.set (x19 : Int).toNat (x107001.length : Int)) x17 x18 (wrap64 (x19 + 1)) x102000 x102001 x102002 x107000 (x107001 ++ [(⟨(rd_T61 x17 x19).f0, (rd_T61 x17 x19).f1, rd x5 ((rd_T61 x17 x19).f2), rd x5 ((rd_T61 x17 x19).f3)⟩ : S61)])) else (none)) else (none)) else (none)) else (none)) else (none)) else (none))) else (spec_l7Move.l0 k x1 x5 x17 x18 (wrap64 (x19 + 1)) x102000 x102001 x102002 x107000 x107001)) else (none)) else (none)) else (none)) else (spec_l7Move.l1 k x5 x102002 (x102002.length : Int) 0 x107000 x107001 ([] : List Int))
def spec_l7Move.l1 : Nat → List Int → List Int → Int → Int → Int → List (S61) → List Int → Option (Int × (List (S61)) × List Int)
 | 0, _, _, _, _, _, _, _ => none
 | k + 1, x5, x58, x59, x60, x107000, x107001, x107002 => if x60 < x59 then (if 0 ≤ x60 then (if x60 < (x58.length : Int) then (if 0 ≤ (rd x58 x60) then (if (rd x58 x60) < (x5.length : Int) then (if x107002.length < 17592186044416 then (spec_l7Move.l1 k x5 x58 x59 (wrap64 (x60 + 1)) x107000 x107001 (x107002 ++ [rd x5 (rd x58 x60)])) else (none)) else (none)) else (none)) else (none)) else (none)) else (some ((x107001.length : Int), x107001, x107002))
end
def spec_l7Move.f (k : Nat) (a0_0 : Int) (l0_1 : List (S61)) (l0_2 : List Int) (l1 : List Bool) : Option (Int × (List (S61)) × List Int) := if 0 ≤ (l0_1.length : Int) then (if ((l0_1.length : Int) : Int).toNat ≤ 35184372088832 then (spec_l7Move.l0 k l1 (List.replicate ((l0_1.length : Int) : Int).toNat 0) l0_1 (l0_1.length : Int) 0 a0_0 l0_1 l0_2 0 ([] : List (S61))) else (none)) else (none)
theorem spec_l7Move.mono_l : ∀ k, (∀ y0 y1 y2 y3 y4 y5 y6 y7 y8 y9, LeO (spec_l7Move.l0 k y0 y1 y2 y3 y4 y5 y6 y7 y8 y9) (spec_l7Move.l0 (k + 1) y0 y1 y2 y3 y4 y5 y6 y7 y8 y9)) ∧ (∀ y0 y1 y2 y3 y4 y5 y6, LeO (spec_l7Move.l1 k y0 y1 y2 y3 y4 y5 y6) (spec_l7Move.l1 (k + 1) y0 y1 y2 y3 y4 y5 y6))
 | 0 => ⟨fun _ _ _ _ _ _ _ _ _ _ r h => by simp [spec_l7Move.l0] at h, fun _ _ _ _ _ _ _ r h => by simp [spec_l7Move.l1] at h⟩
 | k + 1 => by
  obtain ⟨ih0, ih1⟩ := spec_l7Move.mono_l k
  refine ⟨?_, ?_⟩
  ·intro y0 y1 y2 y3 y4 y5 y6 y7 y8 y9
   unfold spec_l7Move.l0
   repeat' first
   | (with_reducible exact ih0 _ _ _ _ _ _ _ _ _ _)
   | (with_reducible exact ih1 _ _ _ _ _ _ _)
   | (with_reducible exact LeO.refl _)
   | (with_reducible exact LeO.none _)
   | (with_reducible refine LeO.ite ?_ ?_)
   | (with_reducible refine LeO.bind ?_ (fun _ => ?_))
   | exact ih0 _ _ _ _ _ _ _ _ _ _
   | exact ih1 _ _ _ _ _ _ _
   | exact LeO.none _
   | refine LeO.ite ?_ ?_
   | refine LeO.bind ?_ (fun _ => ?_)
  ·intro y0 y1 y2 y3 y4 y5 y6
   unfold spec_l7Move.l1
   repeat' first
   | (with_reducible exact ih0 _ _ _ _ _ _ _ _ _ _)
   | (with_reducible exact ih1 _ _ _ _ _ _ _)
   | (with_reducible exact LeO.refl _)
   | (with_reducible exact LeO.none _)
   | (with_reducible refine LeO.ite ?_ ?_)
   | (with_reducible refine LeO.bind ?_ (fun _ => ?_))
   | exact ih0 _ _ _ _ _ _ _ _ _ _
   | exact ih1 _ _ _ _ _ _ _
   | exact LeO.none _
   | refine LeO.ite ?_ ?_
   | refine LeO.bind ?_ (fun _ => ?_)
theorem spec_l7Move.mono : ∀ a0 a1 a2 a3 k, LeO (spec_l7Move.f k a0 a1 a2 a3) (spec_l7Move.f (k + 1) a0 a1 a2 a3) := by
 intro a0 a1 a2 a3 k
 obtain ⟨ih0, ih1⟩ := spec_l7Move.mono_l k
 unfold spec_l7Move.f
 repeat' first
   | (with_reducible exact ih0 _ _ _ _ _ _ _ _ _ _)
   | (with_reducible exact ih1 _ _ _ _ _ _ _)
   | (with_reducible exact LeO.refl _)
   | (with_reducible exact LeO.none _)
   | (with_reducible refine LeO.ite ?_ ?_)
   | (with_reducible refine LeO.bind ?_ (fun _ => ?_))
   | exact ih0 _ _ _ _ _ _ _ _ _ _
   | exact ih1 _ _ _ _ _ _ _
   | exact LeO.none _
   | refine LeO.ite ?_ ?_
   | refine LeO.bind ?_ (fun _ => ?_)
def spec_l7Move.T16 : Bool × List (List Nat × List Nat) := (true, [([], []), ([0], [0]), ([], []), ([], []), ([2, 3], [2, 3]), ([4], [4]), ([5], [5]), ([1, 6], [1, 6]), ([0, 1, 2, 3, 4, 5, 6, 7], []), ([8, 7, 7, 0, 1, 2, 3, 4, 5, 6, 7], [7, 8])])
def spec_l7Move.B16 : List Nat := [0, 1, 0, 0, 12, 28, 60, 127, 255, 511]
theorem spec_l7Move.tab16 : rtab .any (opsOf Tryd.f45 16) = spec_l7Move.T16 := by kernel_rfl
theorem spec_l7Move.bits16 : waitsOk spec_l7Move.T16.2 spec_l7Move.B16 = true := by kernel_rfl
set_option maxHeartbeats 8000000 in
set_option maxRecDepth 100000 in
theorem spec_l7Move.calls (k : Nat) (a0_0 : Int) (A0_1 : Option Addr) (c0_1 : Nat) (l0_1 : List (S61)) (A0_2 : Option Addr) (c0_2 : Nat) (l0_2 : List Int) (A1 : Option Addr) (c1 : Nat) (l1 : List Bool) (r1 : Int) (r2 : List (S61)) (r3 : List Int) (w : World) (hr0_1 : Kd.C k61 w A0_1 l0_1.length l0_1) (hc0_1 : l0_1.length ≤ c0_1) (hr0_2 : Kd.C (Kd.int .i64) w A0_2 l0_2.length l0_2) (hc0_2 : l0_2.length ≤ c0_2) (hr1 : Kd.C Kd.bool w A1 l1.length l1) (hc1 : l1.length ≤ c1) (h : spec_l7Move.f k a0_0 l0_1 l0_2 l1 = some (r1, r2, r3)) :
  Calls Tryd.prog 45 #[.agg #[.int .i64 a0_0, .slice A0_1 l0_1.length c0_1, .slice A0_2 l0_2.length c0_2], .slice A1 l1.length c1] w fun e w' => ∃ v1_ v2_ : Value, e = .returned (.agg #[.int .i64 r1, v1_, v2_]) ∧ Kd.R k61 61 w' w.heap.size (fun _ => True) v1_ r2 ∧ Kd.R (Kd.int .i64) 3 w' w.heap.size (fun _ => True) v2_ r3 ∧ Below w.heap.size w w' := by
 have hu31 := Tryd.underlying31
 have hu61 := Tryd.underlying61
 have HR0_1 := aK hr0_1
 have HC0_1 := aK hc0_1
 clear hr0_1 hc0_1
 have HR0_2 := aK hr0_2
 have HC0_2 := aK hc0_2
 clear hr0_2 hc0_2
 have HR1 := aK hr1
 have HC1 := aK hc1
 clear hr1 hc1
 have HB := aK (Below.refl w.heap.size w)
 have H : (if 0 ≤ (l0_1.length : Int) then (if ((l0_1.length : Int) : Int).toNat ≤ 35184372088832 then (spec_l7Move.l0 k l1 (List.replicate ((l0_1.length : Int) : Int).toNat 0) l0_1 (l0_1.length : Int) 0 a0_0 l0_1 l0_2 0 ([] : List (S61))) else (none)) else (none)) = some (r1, r2, r3) := h
 clear h
 by_cases c3 : 0 ≤ (l0_1.length : Int)
 ·rw [if_pos c3] at H
  have c3b0 := eq_true c3
  have c3b1 : decide (0 ≤ (l0_1.length : Int)) = true := decide_eq_true c3
  clear c3
  by_cases c4 : ((l0_1.length : Int) : Int).toNat ≤ 35184372088832
  ·rw [if_pos c4] at H
   have c4b0 := eq_true c4
   have c4b1 : decide (((l0_1.length : Int) : Int).toNat ≤ 35184372088832) = true := decide_eq_true c4
   clear c4
   obtain ⟨y103, hy103⟩ : ∃ y_ : List Int, y_ = (List.replicate ((l0_1.length : Int) : Int).toNat 0) := ⟨_, rfl⟩
   replace H : (spec_l7Move.l0 k l1 y103 l0_1 (l0_1.length : Int) 0 a0_0 l0_1 l0_2 0 ([] : List (S61))) = some (r1, r2, r3) := by first | (rw [hy103]; with_reducible exact H) | (have H2_ := (Option.bind_some _ _).symm.trans H; rw [hy103]; with_reducible exact H2_) | (have H2_ := (Option.bind_some _ _).symm.trans H; with_reducible exact H2_) | with_reducible exact H | (rw [hy103]; exact H) | exact H
   have Ny103 := aK hy103
   clear hy103
   have H' := aK H
   clear H
   go_enter Tryd.func45, Tryd.ntmps45
   go_wp2_with (first | ((with_reducible refine gate_dst (N := 2) rfl ?_); refine bE (N := 2) (cs := #[.int .i64 a0_0, .slice A0_1 l0_1.length c0_1, .slice A0_2 l0_2.length c0_2]) (t := 31) ?_; intro gb101 hg w5 hbox hb; have GW101 := qw HB hg; have GE101 := qw HB hg; have BK101 := aK hbox; replace HB := qs HB hb; clear hb hbox hg) | ((with_reducible refine gate_dst (N := 4) rfl ?_); refine bE (N := 4) (cs := #[.int .i64 0, .slice none 0 0, .slice none 0 0]) (t := 31) ?_; intro gb102 hg w6 hbox hb; have GW102 := qw HB hg; have GE102 := qw HB hg; have NB101_102 := ql BK101 hg; have NB102_101 := qg BK101 hg; replace BK101 := qb BK101 hb; have BK102 := aK hbox; replace HB := qs HB hb; clear hb hbox hg; have hnb7 := NB101_102.out; have hnc7 := NB102_101.out; obtain ⟨hcz8_0, hcz8_1, hcz8_2, hfz8_0, hfz8_1, hfz8_2⟩ := cA3 BK101) | ((with_reducible refine gate_dst (N := 14) rfl ?_); refine Kd.R_make (Kd.int .i64) _ 3 rfl (N := 14) rfl 23 _ _ rfl (l0_1.length : Int) rfl rfl Tryd.underlying23 (.int .i64 0) 8 info3 rfl (by decide) (by omega) 0 (ok := fun _ => True) (okp := fun _ => True) rfl (fun _ hk => hk) trivial (dA) (Nat.le_trans (Nat.mul_le_mul_right _ (dA : (l0_1.length : Int).toNat ≤ 35184372088832)) (by omega)) (Below.refl _ _) (Nat.le_refl _) ?_; intro v104 w9 ho10 hb hg_ hnew_; clear hg_ hnew_; (first | rw [← Ny103.out] at ho10 | (simp only [Int.reduceToNat] at ho10; rw [← Ny103.out] at ho10)); have HO105 := aK (Kd.R_lower ho10 (below_size HB.out)); replace BK101 := qb BK101 hb; replace BK102 := qb BK102 hb; replace HB := qs HB hb; clear hb ho10) | ((with_reducible refine gate_dst (N := 6) rfl ?_); refine bE (N := 6) (cs := #[.int .i64 0, .slice none 0 0, .slice none 0 0]) (t := 31) ?_; intro gb106 hg w11 hbox hb; have n0_ := aK (Kd.R_below HO105.out hb); have GW106 := qw HB hg; have GE106 := qw HB hg; have NB101_106 := ql BK101 hg; have NB106_101 := qg BK101 hg; have NB102_106 := ql BK102 hg; have NB106_102 := qg BK102 hg; replace BK101 := qb BK101 hb; replace BK102 := qb BK102 hb; have BK106 := aK hbox; clear HO105; have HO105 := n0_; clear n0_; replace HB := qs HB hb; clear hb hbox hg; have hnb12 := NB106_101.out; have hnc12 := NB101_106.out; have hnb13 := NB106_102.out; have hnc13 := NB102_106.out; obtain ⟨hcz14_0, hcz14_1, hcz14_2, hfz14_0, hfz14_1, hfz14_2⟩ := cA3 BK106; obtain ⟨hcz15_0, hcz15_1, hcz15_2, hfz15_0, hfz15_1, hfz15_2⟩ := cA3 BK101))
   go_loopg [19] k (fun kq v19 w' => ∃ (x5_1 : List Int) (x19_1 : Int) (x107001_1 : List (S61)) (u107001 : Value), v19 = .int .i64 x19_1 ∧ Aside0 (spec_l7Move.l0 kq l1 x5_1 l0_1 (l0_1.length : Int) x19_1 a0_0 l0_1 l0_2 0 x107001_1 = some (r1, r2, r3)) ∧ Aside0 (kq ≤ k) ∧ Aside0 (Kd.R (Kd.int .i64) 3 w' w.heap.size (fun _ => True) v104 x5_1) ∧ Aside0 (Kd.R k61 61 w' w.heap.size (fun _ => True) u107001 x107001_1) ∧ Aside0 (w'.heap[gb101]? = some (.cells #[.int .i64 a0_0, (.slice A0_1 l0_1.length c0_1), (.slice A0_2 l0_2.length c0_2)] 31 (0, 0))) ∧ Aside0 (w'.heap[gb102]? = some (.cells #[.int .i64 0, (.slice none 0 0), (.slice none 0 0)] 31 (0, 0))) ∧ Aside0 (w'.heap[gb106]? = some (.cells #[.int .i64 0, u107001, (.slice none 0 0)] 31 (0, 0))) ∧ Aside0 (Below w.heap.size w w'))
   case atStart => exact ⟨(y103), (0), (([] : List (S61))), (.slice none 0 0), rS, H', ⟨Nat.le_refl _⟩, ⟨by (with_reducible repeat (first | apply rA | apply rN | apply rD)); exact Kd.R_mono (Kd.R_far (p := ⟨gb106, 2, none⟩) (Kd.R_far (p := ⟨gb106, 1, none⟩) (Kd.R_far (p := ⟨gb106, 0, none⟩) (Kd.R_types HO105.out BK106.out (by decide)) (fun _ hk => hk.2) (.int .i64 0)) (fun _ hk => hk.2) (.slice none 0 0)) (fun _ hk => hk.2) (.slice none 0 0)) (fun _ hk => trivial)⟩, ⟨by first | exact Kd.R_nil _ _ _ _ _ | exact Kd.N_nil _ _ _ _ _ | exact Kd.V_nil _ _ _ _ _ | exact Kd.Q_nil _ _ _ _ _ | exact Kd.S_nil _ _ _ _ _⟩, ⟨by (repeat first | with_reducible apply zN | with_reducible apply zD | with_reducible apply zA | refine blk_far ?_ NB101_106.out _); exact BK101.out⟩, ⟨by (repeat first | with_reducible apply zN | with_reducible apply zD | with_reducible apply zA | refine blk_far ?_ NB102_106.out _); exact BK102.out⟩, ⟨p3 BK106⟩, ⟨pH HB⟩⟩
   case round =>
    clear H'
    try clear c1; try clear p2; try clear c3; try clear c3b0; try clear c3b1; try clear c4; try clear c4b0; try clear c4b1; try clear c7; try clear c12; try clear c13; try clear hcz14_0 hcz14_1 hcz14_2 hfz14_0 hfz14_1 hfz14_2; try clear hcz15_0 hcz15_1 hcz15_2 hfz15_0 hfz15_1 hfz15_2; try clear hcz8_0 hcz8_1 hcz8_2 hfz8_0 hfz8_1 hfz8_2
    obtain ⟨x5_1, x19_1, x107001_1, u107001, rfl, HA, HK1, HO_5, HO_107001, BK101, BK102, BK106, HB⟩ := hrel
    cases gk with
    | zero => exact absurd HA.out (by simp [spec_l7Move.l0])
    | succ k1 =>
     have H := HA.out
     clear HA
     simp only [spec_l7Move.l0] at H
     by_cases c16 : x19_1 < (l0_1.length : Int)
     ·rw [if_pos c16] at H
      have c16b0 : decide (x19_1 < (l0_1.length : Int)) = true := decide_eq_true c16
      clear c16
      by_cases c17 : 0 ≤ x19_1
      ·rw [if_pos c17] at H
       have c17b0 : decide (0 ≤ x19_1) = true := decide_eq_true c17
       clear c17
       by_cases c18 : x19_1 < (l0_1.length : Int)
       ·rw [if_pos c18] at H
        have c18b0 : decide (x19_1 < (l0_1.length : Int)) = true := decide_eq_true c18
        clear c18
        by_cases c19 : x19_1 < (l1.length : Int)
        ·rw [if_pos c19] at H
         have c19b0 : decide (x19_1 < (l1.length : Int)) = true := decide_eq_true c19
         clear c19
         obtain ⟨bq20, hbq20⟩ : ∃ b_ : Bool, b_ = (rdOf false l1 x19_1) := ⟨_, rfl⟩
         replace H : (if bq20 = true then (if (rd_T61 l0_1 x19_1).f0 = true then (if x19_1 < (x5_1.length : Int) then (if x107001_1.length < 4398046511104 then (spec_l7Move.l0 k1 l1 (x5_1.set (x19_1 : Int).toNat (x107001_1.length : Int)) l0_1 (l0_1.length : Int) (wrap64 (x19_1 + 1)) a0_0 l0_1 l0_2 0 (x107001_1 ++ [(⟨(rd_T61 l0_1 x19_1).f0, (rd_T61 l0_1 x19_1).f1, (rd_T61 l0_1 x19_1).f2, (rd_T61 l0_1 x19_1).f3⟩ : S61)])) else (none)) else (none)) else (if 0 ≤ ((rd_T61 l0_1 x19_1).f2) then (if ((rd_T61 l0_1 x19_1).f2) < (x5_1.length : Int) then (if 0 ≤ ((rd_T61 l0_1 x19_1).f3) then (if ((rd_T61 l0_1 x19_1).f3) < (x5_1.length : Int) then (if x19_1 < (x5_1.length : Int) then (if x107001_1.length < 4398046511104 then (spec_l7Move.l0 k1 l1 (x5_1.set (x19_1 : Int).toNat (x107001_1.length : Int)) l0_1 (l0_1.length : Int) (wrap64 (x19_1 + 1)) a0_0 l0_1 l0_2 0 (x107001_1 ++ [(⟨(rd_T61 l0_1 x19_1).f0, (rd_T61 l0_1 x19_1).f1, rd x5_1 ((rd_T61 l0_1 x19_1).f2), rd x5_1 ((rd_T61 l0_1 x19_1).f3)⟩ : S61)])) else (none)) else (none)) else (none)) else (none)) else (none)) else (none))) else (spec_l7Move.l0 k1 l1 x5_1 l0_1 (l0_1.length : Int) (wrap64 (x19_1 + 1)) a0_0 l0_1 l0_2 0 x107001_1)) = some (r1, r2, r3) := by rw [← hbq20] at H; exact H
         have Nbq20 := aK hbq20
         clear hbq20
         by_cases c21 : bq20 = true
         ·subst c21
          rw [if_pos rfl] at H
          obtain ⟨bq22, hbq22⟩ : ∃ b_ : Bool, b_ = ((rd_T61 l0_1 x19_1).f0) := ⟨_, rfl⟩
          replace H : (if bq22 = true then (if x19_1 < (x5_1.length : Int) then (if x107001_1.length < 4398046511104 then (spec_l7Move.l0 k1 l1 (x5_1.set (x19_1 : Int).toNat (x107001_1.length : Int)) l0_1 (l0_1.length : Int) (wrap64 (x19_1 + 1)) a0_0 l0_1 l0_2 0 (x107001_1 ++ [(⟨bq22, (rd_T61 l0_1 x19_1).f1, (rd_T61 l0_1 x19_1).f2, (rd_T61 l0_1 x19_1).f3⟩ : S61)])) else (none)) else (none)) else (if 0 ≤ ((rd_T61 l0_1 x19_1).f2) then (if ((rd_T61 l0_1 x19_1).f2) < (x5_1.length : Int) then (if 0 ≤ ((rd_T61 l0_1 x19_1).f3) then (if ((rd_T61 l0_1 x19_1).f3) < (x5_1.length : Int) then (if x19_1 < (x5_1.length : Int) then (if x107001_1.length < 4398046511104 then (spec_l7Move.l0 k1 l1 (x5_1.set (x19_1 : Int).toNat (x107001_1.length : Int)) l0_1 (l0_1.length : Int) (wrap64 (x19_1 + 1)) a0_0 l0_1 l0_2 0 (x107001_1 ++ [(⟨bq22, (rd_T61 l0_1 x19_1).f1, rd x5_1 ((rd_T61 l0_1 x19_1).f2), rd x5_1 ((rd_T61 l0_1 x19_1).f3)⟩ : S61)])) else (none)) else (none)) else (none)) else (none)) else (none)) else (none))) = some (r1, r2, r3) := by rw [← hbq22] at H; exact H
          have Nbq22 := aK hbq22
          clear hbq22
          by_cases c23 : bq22 = true
          ·subst c23
           rw [if_pos rfl] at H
           by_cases c24 : x19_1 < (x5_1.length : Int)
           ·rw [if_pos c24] at H
            have c24b0 : decide (x19_1 < (x5_1.length : Int)) = true := decide_eq_true c24
            clear c24
            obtain ⟨y110, hy110⟩ : ∃ y_ : List Int, y_ = (x5_1.set (x19_1 : Int).toNat (x107001_1.length : Int)) := ⟨_, rfl⟩
            replace H : (if x107001_1.length < 4398046511104 then (spec_l7Move.l0 k1 l1 y110 l0_1 (l0_1.length : Int) (wrap64 (x19_1 + 1)) a0_0 l0_1 l0_2 0 (x107001_1 ++ [(⟨true, (rd_T61 l0_1 x19_1).f1, (rd_T61 l0_1 x19_1).f2, (rd_T61 l0_1 x19_1).f3⟩ : S61)])) else (none)) = some (r1, r2, r3) := by first | (rw [hy110]; with_reducible exact H) | (have H2_ := (Option.bind_some _ _).symm.trans H; rw [hy110]; with_reducible exact H2_) | (have H2_ := (Option.bind_some _ _).symm.trans H; with_reducible exact H2_) | with_reducible exact H | (rw [hy110]; exact H) | exact H
            have Ny110 := aK hy110
            clear hy110
            by_cases c26 : x107001_1.length < 4398046511104
            ·rw [if_pos c26] at H
             have LMc26 := aK c26
             clear c26
             obtain ⟨y111, hy111⟩ : ∃ y_ : List (S61), y_ = (x107001_1 ++ [(⟨true, (rd_T61 l0_1 x19_1).f1, (rd_T61 l0_1 x19_1).f2, (rd_T61 l0_1 x19_1).f3⟩ : S61)]) := ⟨_, rfl⟩
             replace H : (spec_l7Move.l0 k1 l1 y110 l0_1 (l0_1.length : Int) (wrap64 (x19_1 + 1)) a0_0 l0_1 l0_2 0 y111) = some (r1, r2, r3) := by first | (rw [hy111]; with_reducible exact H) | (have H2_ := (Option.bind_some _ _).symm.trans H; rw [hy111]; with_reducible exact H2_) | (have H2_ := (Option.bind_some _ _).symm.trans H; with_reducible exact H2_) | with_reducible exact H | (rw [hy111]; exact H) | exact H
             have Ny111 := aK hy111
             clear hy111
             have H' := aK H
             clear H
             have p107 : 0 ≤ (x19_1 : Int) := dA
             have q107 : x19_1 < (l0_1.length : Int) := dA
             obtain ⟨ad107, e107, hx107_0, hx107_1, hx107_2, hx107_3⟩ := at_T61 HR0_1.out x19_1 p107 q107
             (try rw [← Nbq20.out] at hx107_0)
             (try rw [← Nbq22.out] at hx107_0)
             cases e107
             replace hx107_0 := uC HB hx107_0
             replace hx107_1 := uC HB hx107_1
             replace hx107_2 := uC HB hx107_2
             replace hx107_3 := uC HB hx107_3
             replace p107 := eq_true p107
             replace q107 := eq_true q107
             go_wp2_with (first | ((with_reducible refine gate_dst (N := 8) rfl ?_); refine bE (N := 8) (cs := #[.bool false, .int .i64 0, .int .i64 0, .int .i64 0]) (t := 61) ?_; intro gb108 hg w27 hbox hb; have n0_ := aK (Kd.R_below HO_5.out hb); have n1_ := aK (Kd.R_below (Kd.R_elderB HO_107001.out gb108 (Nat.le_of_eq hg.symm)) hb); have GW108 := qw HB hg; have GE108 := qw HB hg; have NB101_108 := ql BK101 hg; have NB108_101 := qg BK101 hg; have NB102_108 := ql BK102 hg; have NB108_102 := qg BK102 hg; have NB106_108 := ql BK106 hg; have NB108_106 := qg BK106 hg; replace BK101 := qb BK101 hb; replace BK102 := qb BK102 hb; replace BK106 := qb BK106 hb; have BK108 := aK hbox; clear HO_5; have HO_5 := n0_; clear n0_; clear HO_107001; have HO_107001 := n1_; clear n1_; replace HB := qs HB hb; clear hb hbox hg; have hnb28 := NB108_101.out; have hnc28 := NB101_108.out; have hnb29 := NB108_102.out; have hnc29 := NB102_108.out; have hnb30 := NB108_106.out; have hnc30 := NB106_108.out; have hcz31_0 := kq40 BK108; have hcz31_1 := kq41 BK108; have hcz31_2 := kq42 BK108; have hcz31_3 := kq43 BK108; have hfz31_0 := fz BK108 0; have hfz31_1 := fz BK108 1; have hfz31_2 := fz BK108 2; have hfz31_3 := fz BK108 3) | ((with_reducible refine gate_store (t := 61) (p := 8) rfl ?_); refine store_event (t := 61) (p := 8) (v := ?vo_w32) (w1 := ((((w27.setCell ⟨gb108, 0, none⟩ (.bool true)).setCell ⟨gb108, 1, none⟩ (.int .i64 ((rd_T61 l0_1 x19_1).f1))).setCell ⟨gb108, 2, none⟩ (.int .i64 ((rd_T61 l0_1 x19_1).f2))).setCell ⟨gb108, 3, none⟩ (.int .i64 ((rd_T61 l0_1 x19_1).f3)))) ?hg ?ho ?hn ?hr ?_; (case ho => rfl); (case hg => rfl); (case hn => rfl); (case hr => first | (go_simp; done) | (go_simp; rfl)); intro w32 hw; have n_ := aJ (show Aside0 (Kd.R (Kd.int .i64) 3 w32 w.heap.size (fun _ => True) v104 x5_1) from ⟨(by rw [hw]; exact (by (with_reducible repeat (first | apply rA | apply rN | apply rD)); exact Kd.R_mono (Kd.R_far (p := ⟨gb108, 3, none⟩) (Kd.R_far (p := ⟨gb108, 2, none⟩) (Kd.R_far (p := ⟨gb108, 1, none⟩) (Kd.R_far (p := ⟨gb108, 0, none⟩) (Kd.R_types HO_5.out BK108.out (by decide)) (fun _ hk => hk.2) (.bool true)) (fun _ hk => hk.2) (.int .i64 ((rd_T61 l0_1 x19_1).f1))) (fun _ hk => hk.2) (.int .i64 ((rd_T61 l0_1 x19_1).f2))) (fun _ hk => hk.2) (.int .i64 ((rd_T61 l0_1 x19_1).f3))) (fun _ hk => trivial)))⟩) (aJ (show Aside0 (Kd.R k61 61 w32 w.heap.size (fun k_ => k_ ≠ gb108) u107001 x107001_1) from ⟨(by rw [hw]; exact (by (with_reducible repeat (first | apply rA | apply rN | apply rD)); exact Kd.R_mono (Kd.R_far (p := ⟨gb108, 3, none⟩) (Kd.R_far (p := ⟨gb108, 2, none⟩) (Kd.R_far (p := ⟨gb108, 1, none⟩) (Kd.R_far (p := ⟨gb108, 0, none⟩) (Kd.R_mono HO_107001.out (fun k_ hk => (⟨hk, hk.2⟩ : _ ∧ k_ ≠ gb108))) (fun _ hk => hk.2) (.bool true)) (fun _ hk => hk.2) (.int .i64 ((rd_T61 l0_1 x19_1).f1))) (fun _ hk => hk.2) (.int .i64 ((rd_T61 l0_1 x19_1).f2))) (fun _ hk => hk.2) (.int .i64 ((rd_T61 l0_1 x19_1).f3))) (fun _ hk => hk.1.2)))⟩) (aJ (show Aside0 (w32.heap[gb101]? = some (.cells #[.int .i64 a0_0, .slice (some ad107) l0_1.length c0_1, .slice A0_2 l0_2.length c0_2] 31 (0, 0))) from ⟨(by rw [hw]; exact (by (repeat first | with_reducible apply zN | with_reducible apply zD | with_reducible apply zA | refine blk_far ?_ NB101_108.out _); exact BK101.out))⟩) (aJ (show Aside0 (w32.heap[gb102]? = some (.cells #[.int .i64 0, .slice none 0 0, .slice none 0 0] 31 (0, 0))) from ⟨(by rw [hw]; exact (by (repeat first | with_reducible apply zN | with_reducible apply zD | with_reducible apply zA | refine blk_far ?_ NB102_108.out _); exact BK102.out))⟩) (aJ (show Aside0 (w32.heap[gb106]? = some (.cells #[.int .i64 0, u107001, .slice none 0 0] 31 (0, 0))) from ⟨(by rw [hw]; exact (by (repeat first | with_reducible apply zN | with_reducible apply zD | with_reducible apply zA | refine blk_far ?_ NB106_108.out _); exact BK106.out))⟩) (aJ (show Aside0 (w32.heap[gb108]? = some (.cells #[.bool true, .int .i64 ((rd_T61 l0_1 x19_1).f1), .int .i64 ((rd_T61 l0_1 x19_1).f2), .int .i64 ((rd_T61 l0_1 x19_1).f3)] 61 (0, 0))) from ⟨(by rw [hw]; exact (by (with_reducible repeat first | apply zN | apply zD | apply zA); refine blk_put (cs := #[.bool true, .int .i64 ((rd_T61 l0_1 x19_1).f1), .int .i64 ((rd_T61 l0_1 x19_1).f2), .int .i64 0]) ?_ 3 _ rfl; (with_reducible repeat first | apply zN | apply zD | apply zA); refine blk_put (cs := #[.bool true, .int .i64 ((rd_T61 l0_1 x19_1).f1), .int .i64 0, .int .i64 0]) ?_ 2 _ rfl; (with_reducible repeat first | apply zN | apply zD | apply zA); refine blk_put (cs := #[.bool true, .int .i64 0, .int .i64 0, .int .i64 0]) ?_ 1 _ rfl; (with_reducible repeat first | apply zN | apply zD | apply zA); refine blk_put (cs := #[.bool false, .int .i64 0, .int .i64 0, .int .i64 0]) ?_ 0 _ rfl; (with_reducible repeat first | apply zN | apply zD | apply zA); exact BK108.out))⟩) (show Aside0 (Below w.heap.size w w32) from ⟨(by rw [hw]; exact (pH HB))⟩)))))); clear hw HO_5 HO_107001 BK101 BK102 BK106 BK108 HB; obtain ⟨HO_5, HO_107001, BK101, BK102, BK106, BK108, HB⟩ := n_; have p109 : 0 ≤ (x19_1 : Int) := dA; have q109 : x19_1 < (l1.length : Int) := dA; obtain ⟨ad109, e109, hx109_0⟩ := Kd.at_bool HR1.out x19_1 p109 q109; (try rw [← Nbq20.out] at hx109_0); (try rw [← Nbq22.out] at hx109_0); cases e109; replace hx109_0 := uC HB hx109_0; replace p109 := eq_true p109; replace q109 := eq_true q109; have hcz33_0 := kq40 BK108; have hcz33_1 := kq41 BK108; have hcz33_2 := kq42 BK108; have hcz33_3 := kq43 BK108; have hfz33_0 := fz BK108 0; have hfz33_1 := fz BK108 1; have hfz33_2 := fz BK108 2; have hfz33_3 := fz BK108 3; have hnb34 := NB106_101.out; have hnc34 := NB101_106.out; have hnb35 := NB106_102.out; have hnc35 := NB102_106.out; obtain ⟨hcz36_0, hcz36_1, hcz36_2, hfz36_0, hfz36_1, hfz36_2⟩ := cA3 BK106; obtain ⟨Ao37, co37, eo37⟩ := Kd.R_slice HO_107001.out; subst eo37; have p25 : 0 ≤ (x19_1 : Int) := dA; have q25 : (x19_1 : Int) < ((x5_1.length : Int) : Int) := dA; obtain ⟨go25, co25, eo25, gb25, gl25, cl25, HG25⟩ := Kd.R_form HO_5.out (by omega); (first | cases eo25 | (injection eo25 with ea_ en_ ec_; (first | subst ea_ | (injection ea_ with ea_; subst ea_)); subst ec_; clear en_)); have GB25 := aK gb25; have GG25 := aK HG25; clear gb25 gl25 HG25; obtain ⟨hx25_0, hf25_0⟩ := Kd.R_celln 0 HO_5.out (x19_1 : Int) p25 q25; replace p25 := eq_true p25; replace q25 := eq_true q25; obtain ⟨hy38_, hz38_⟩ := Kd.R_celln 0 HO_5.out (x19_1 : Int) (dA) (dA); have HP38 := Kd.R_putg HO_5.out (x19_1 : Int) (x107001_1.length : Int)) | ((with_reducible refine gate_store (t := 3) (p := 49) rfl ?_); refine store_event (t := 3) (p := 49) (v := ?vo_w39) (w1 := (w32.setCell ⟨go25, (x19_1 : Int).toNat, none⟩ (.int .i64 (x107001_1.length : Int)))) ?hg ?ho ?hn ?hr ?_; (case ho => rfl); (case hg => rfl); (case hn => rfl); (case hr => first | (go_simp; done) | (go_simp; rfl)); intro w39 hw; have hg : w32.grownBy w39 (some go25) := (by rw [hw]; exact HP38.2); have hp_ : Kd.R (Kd.int .i64) 3 w39 w.heap.size (fun _ => True) (.slice (some ⟨go25, 0, none⟩) x5_1.length co25) y110 := (by rw [hw, Ny110.out]; exact HP38.1); clear HP38; have n0_ := aK (hp_); have n1_ := aK (Kd.R_over' (v := (.slice (some ⟨go25, 0, none⟩) x5_1.length co25)) HO_107001.out (Kd.R_typed HO_5.out) (by decide) hg); have n2_ := aK (blk_grown BK101.out hg (Kd.R_ne HO_5.out BK101.out (by decide))); have n3_ := aK (blk_grown BK102.out hg (Kd.R_ne HO_5.out BK102.out (by decide))); have n4_ := aK (blk_grown BK106.out hg (Kd.R_ne HO_5.out BK106.out (by decide))); have n5_ := aK (blk_grown BK108.out hg (Kd.R_ne HO_5.out BK108.out (by decide))); have n6_ := aK ((by rw [hw]; exact below_set (HB.out) GB25.out : Below w.heap.size w w39)); clear HO_5; have HO_5 := n0_; clear n0_; clear HO_107001; have HO_107001 := n1_; clear n1_; clear BK101; have BK101 := n2_; clear n2_; clear BK102; have BK102 := n3_; clear n3_; clear BK106; have BK106 := n4_; clear n4_; clear BK108; have BK108 := n5_; clear n5_; clear HB; have HB := n6_; clear n6_; clear hg hw hp_; obtain ⟨hcz40_0, hcz40_1, hcz40_2, hfz40_0, hfz40_1, hfz40_2⟩ := cA3 BK106; have hcz41_0 := kq40 BK108; have hcz41_1 := kq41 BK108; have hcz41_2 := kq42 BK108; have hcz41_3 := kq43 BK108; have hfz41_0 := fz BK108 0; have hfz41_1 := fz BK108 1; have hfz41_2 := fz BK108 2; have hfz41_3 := fz BK108 3) | ((with_reducible refine gate_builtin (b := .append) (xs := #[.tmp 51, .tmp 53]) rfl ?_); at_builtin; refine Kd.R_append k61 (w0 := w) w.heap.size rfl (.tmp 51) (.tmp 53) 29 61 (.agg #[(.bool false), (.int .i64 0), (.int .i64 0), (.int .i64 0)]) 32 rfl Tryd.underlying29 info61 rfl (by decide) (by omega) (.slice Ao37 x107001_1.length co37) x107001_1 (⟨true, (rd_T61 l0_1 x19_1).f1, (rd_T61 l0_1 x19_1).f2, (rd_T61 l0_1 x19_1).f3⟩ : S61) [.bool true, .int .i64 ((rd_T61 l0_1 x19_1).f1), .int .i64 ((rd_T61 l0_1 x19_1).f2), .int .i64 ((rd_T61 l0_1 x19_1).f3)] (fun k_ => k_ ≠ gb108) (fun _ => False) rfl rfl ?aP (fun _ hk => hk.elim) ?aF ?aO ?aB ?aS ?aL ?_; (case aP => exact k61_mkM _ _ _ (⟨true, (rd_T61 l0_1 x19_1).f1, (rd_T61 l0_1 x19_1).f2, (rd_T61 l0_1 x19_1).f3⟩ : S61)); (case aB => exact (pH HB)); (case aF => exact (fun k_ hk => Kd.freshB BK108.out k_ hk)); (case aO => exact HO_107001.out); (case aS => exact (below_size (pH HB))); (case aL => have := LMc26.out; omega); intro v112 w42 ho hb hg hat; rw [← Ny111.out] at ho; have n0_ := aK (Kd.R_over' HO_5.out (Kd.R_typed HO_107001.out) (by decide) hg); have n1_ := aK (blk_grown BK101.out hg (Kd.R_ne HO_107001.out BK101.out (by decide))); have n2_ := aK (blk_grown BK102.out hg (Kd.R_ne HO_107001.out BK102.out (by decide))); have n3_ := aK (blk_grown BK106.out hg (Kd.R_ne HO_107001.out BK106.out (by decide))); have n4_ := aK (blk_grown BK108.out hg (Kd.R_away HO_107001.out (fun _ hk => hk))); have n5_ := aK (hb); have HO113 := aK (ho); clear HO_5; have HO_5 := n0_; clear n0_; clear BK101; have BK101 := n1_; clear n1_; clear BK102; have BK102 := n2_; clear n2_; clear BK106; have BK106 := n3_; clear n3_; clear BK108; have BK108 := n4_; clear n4_; clear HB; have HB := n5_; clear n5_; clear HO_107001; clear ho hb hg hat; obtain ⟨Ao43, co43, eo43⟩ := Kd.R_slice HO113.out; subst eo43; obtain ⟨hcz44_0, hcz44_1, hcz44_2, hfz44_0, hfz44_1, hfz44_2⟩ := cA3 BK106))
             go_roundg k1
             case measure => have := HK1.out; omega
             case rel => exact ⟨(y110), (wrap64 (x19_1 + 1)), (y111), (.slice Ao43 y111.length co43), rS, H', ⟨by have := HK1.out; omega⟩, ⟨by (with_reducible repeat (first | apply rA | apply rN | apply rD)); exact Kd.R_mono (Kd.R_far (p := ⟨gb106, 1, none⟩) (Kd.R_types HO_5.out BK106.out (by decide)) (fun _ hk => hk.2) (.slice Ao43 y111.length co43)) (fun _ hk => trivial)⟩, ⟨by (with_reducible repeat (first | apply rA | apply rN | apply rD)); exact Kd.R_mono (Kd.R_far (p := ⟨gb106, 1, none⟩) (Kd.R_types HO113.out BK106.out (by decide)) (fun _ hk => hk.2) (.slice Ao43 y111.length co43)) (fun _ hk => trivial)⟩, ⟨by (repeat first | with_reducible apply zN | with_reducible apply zD | with_reducible apply zA | refine blk_far ?_ NB101_106.out _); exact BK101.out⟩, ⟨by (repeat first | with_reducible apply zN | with_reducible apply zD | with_reducible apply zA | refine blk_far ?_ NB102_106.out _); exact BK102.out⟩, ⟨by (with_reducible repeat first | apply zN | apply zD | apply zA); refine blk_put (cs := #[.int .i64 0, .slice Ao37 x107001_1.length co37, .slice none 0 0]) ?_ 1 _ rfl; (with_reducible repeat first | apply zN | apply zD | apply zA); exact BK106.out⟩, ⟨pH HB⟩⟩
            ·rw [if_neg c26] at H
             exact absurd H (by simp)
           ·rw [if_neg c24] at H
            exact absurd H (by simp)
          ·replace c23 := Bool.eq_false_iff.mpr c23
           subst c23
           rw [if_neg (show ¬ (false = true) by decide)] at H
           by_cases c45 : 0 ≤ ((rd_T61 l0_1 x19_1).f2)
           ·rw [if_pos c45] at H
            have c45b0 : decide (0 ≤ ((rd_T61 l0_1 x19_1).f2)) = true := decide_eq_true c45
            clear c45
            by_cases c46 : ((rd_T61 l0_1 x19_1).f2) < (x5_1.length : Int)
            ·rw [if_pos c46] at H
             have c46b0 : decide (((rd_T61 l0_1 x19_1).f2) < (x5_1.length : Int)) = true := decide_eq_true c46
             clear c46
             by_cases c47 : 0 ≤ ((rd_T61 l0_1 x19_1).f3)
             ·rw [if_pos c47] at H
              have c47b0 : decide (0 ≤ ((rd_T61 l0_1 x19_1).f3)) = true := decide_eq_true c47
              clear c47
              by_cases c48 : ((rd_T61 l0_1 x19_1).f3) < (x5_1.length : Int)
              ·rw [if_pos c48] at H
               have c48b0 : decide (((rd_T61 l0_1 x19_1).f3) < (x5_1.length : Int)) = true := decide_eq_true c48
               clear c48
               by_cases c49 : x19_1 < (x5_1.length : Int)
               ·rw [if_pos c49] at H
                have c49b0 : decide (x19_1 < (x5_1.length : Int)) = true := decide_eq_true c49
                clear c49
                obtain ⟨y116, hy116⟩ : ∃ y_ : List Int, y_ = (x5_1.set (x19_1 : Int).toNat (x107001_1.length : Int)) := ⟨_, rfl⟩
                replace H : (if x107001_1.length < 4398046511104 then (spec_l7Move.l0 k1 l1 y116 l0_1 (l0_1.length : Int) (wrap64 (x19_1 + 1)) a0_0 l0_1 l0_2 0 (x107001_1 ++ [(⟨false, (rd_T61 l0_1 x19_1).f1, rd x5_1 ((rd_T61 l0_1 x19_1).f2), rd x5_1 ((rd_T61 l0_1 x19_1).f3)⟩ : S61)])) else (none)) = some (r1, r2, r3) := by first | (rw [hy116]; with_reducible exact H) | (have H2_ := (Option.bind_some _ _).symm.trans H; rw [hy116]; with_reducible exact H2_) | (have H2_ := (Option.bind_some _ _).symm.trans H; with_reducible exact H2_) | with_reducible exact H | (rw [hy116]; exact H) | exact H
                have Ny116 := aK hy116
                clear hy116
                by_cases c51 : x107001_1.length < 4398046511104
                ·rw [if_pos c51] at H
                 have LMc51 := aK c51
                 clear c51
                 obtain ⟨y117, hy117⟩ : ∃ y_ : List (S61), y_ = (x107001_1 ++ [(⟨false, (rd_T61 l0_1 x19_1).f1, rd x5_1 ((rd_T61 l0_1 x19_1).f2), rd x5_1 ((rd_T61 l0_1 x19_1).f3)⟩ : S61)]) := ⟨_, rfl⟩
                 replace H : (spec_l7Move.l0 k1 l1 y116 l0_1 (l0_1.length : Int) (wrap64 (x19_1 + 1)) a0_0 l0_1 l0_2 0 y117) = some (r1, r2, r3) := by first | (rw [hy117]; with_reducible exact H) | (have H2_ := (Option.bind_some _ _).symm.trans H; rw [hy117]; with_reducible exact H2_) | (have H2_ := (Option.bind_some _ _).symm.trans H; with_reducible exact H2_) | with_reducible exact H | (rw [hy117]; exact H) | exact H
                 have Ny117 := aK hy117
                 clear hy117
                 have H' := aK H
                 clear H
                 have p107 : 0 ≤ (x19_1 : Int) := dA
                 have q107 : x19_1 < (l0_1.length : Int) := dA
                 obtain ⟨ad107, e107, hx107_0, hx107_1, hx107_2, hx107_3⟩ := at_T61 HR0_1.out x19_1 p107 q107
                 (try rw [← Nbq20.out] at hx107_0)
                 (try rw [← Nbq22.out] at hx107_0)
                 cases e107
                 replace hx107_0 := uC HB hx107_0
                 replace hx107_1 := uC HB hx107_1
                 replace hx107_2 := uC HB hx107_2
                 replace hx107_3 := uC HB hx107_3
                 replace p107 := eq_true p107
                 replace q107 := eq_true q107
                 go_wp2_with (first | ((with_reducible refine gate_dst (N := 8) rfl ?_); refine bE (N := 8) (cs := #[.bool false, .int .i64 0, .int .i64 0, .int .i64 0]) (t := 61) ?_; intro gb108 hg w52 hbox hb; have n0_ := aK (Kd.R_below HO_5.out hb); have n1_ := aK (Kd.R_below (Kd.R_elderB HO_107001.out gb108 (Nat.le_of_eq hg.symm)) hb); have GW108 := qw HB hg; have GE108 := qw HB hg; have NB101_108 := ql BK101 hg; have NB108_101 := qg BK101 hg; have NB102_108 := ql BK102 hg; have NB108_102 := qg BK102 hg; have NB106_108 := ql BK106 hg; have NB108_106 := qg BK106 hg; replace BK101 := qb BK101 hb; replace BK102 := qb BK102 hb; replace BK106 := qb BK106 hb; have BK108 := aK hbox; clear HO_5; have HO_5 := n0_; clear n0_; clear HO_107001; have HO_107001 := n1_; clear n1_; replace HB := qs HB hb; clear hb hbox hg; have hnb53 := NB108_101.out; have hnc53 := NB101_108.out; have hnb54 := NB108_102.out; have hnc54 := NB102_108.out; have hnb55 := NB108_106.out; have hnc55 := NB106_108.out; have hcz56_0 := kq40 BK108; have hcz56_1 := kq41 BK108; have hcz56_2 := kq42 BK108; have hcz56_3 := kq43 BK108; have hfz56_0 := fz BK108 0; have hfz56_1 := fz BK108 1; have hfz56_2 := fz BK108 2; have hfz56_3 := fz BK108 3) | ((with_reducible refine gate_store (t := 61) (p := 8) rfl ?_); refine store_event (t := 61) (p := 8) (v := ?vo_w57) (w1 := ((((w52.setCell ⟨gb108, 0, none⟩ (.bool false)).setCell ⟨gb108, 1, none⟩ (.int .i64 ((rd_T61 l0_1 x19_1).f1))).setCell ⟨gb108, 2, none⟩ (.int .i64 ((rd_T61 l0_1 x19_1).f2))).setCell ⟨gb108, 3, none⟩ (.int .i64 ((rd_T61 l0_1 x19_1).f3)))) ?hg ?ho ?hn ?hr ?_; (case ho => rfl); (case hg => rfl); (case hn => rfl); (case hr => first | (go_simp; done) | (go_simp; rfl)); intro w57 hw; have n_ := aJ (show Aside0 (Kd.R (Kd.int .i64) 3 w57 w.heap.size (fun _ => True) v104 x5_1) from ⟨(by rw [hw]; exact (by (with_reducible repeat (first | apply rA | apply rN | apply rD)); exact Kd.R_mono (Kd.R_far (p := ⟨gb108, 3, none⟩) (Kd.R_far (p := ⟨gb108, 2, none⟩) (Kd.R_far (p := ⟨gb108, 1, none⟩) (Kd.R_far (p := ⟨gb108, 0, none⟩) (Kd.R_types HO_5.out BK108.out (by decide)) (fun _ hk => hk.2) (.bool false)) (fun _ hk => hk.2) (.int .i64 ((rd_T61 l0_1 x19_1).f1))) (fun _ hk => hk.2) (.int .i64 ((rd_T61 l0_1 x19_1).f2))) (fun _ hk => hk.2) (.int .i64 ((rd_T61 l0_1 x19_1).f3))) (fun _ hk => trivial)))⟩) (aJ (show Aside0 (Kd.R k61 61 w57 w.heap.size (fun k_ => k_ ≠ gb108) u107001 x107001_1) from ⟨(by rw [hw]; exact (by (with_reducible repeat (first | apply rA | apply rN | apply rD)); exact Kd.R_mono (Kd.R_far (p := ⟨gb108, 3, none⟩) (Kd.R_far (p := ⟨gb108, 2, none⟩) (Kd.R_far (p := ⟨gb108, 1, none⟩) (Kd.R_far (p := ⟨gb108, 0, none⟩) (Kd.R_mono HO_107001.out (fun k_ hk => (⟨hk, hk.2⟩ : _ ∧ k_ ≠ gb108))) (fun _ hk => hk.2) (.bool false)) (fun _ hk => hk.2) (.int .i64 ((rd_T61 l0_1 x19_1).f1))) (fun _ hk => hk.2) (.int .i64 ((rd_T61 l0_1 x19_1).f2))) (fun _ hk => hk.2) (.int .i64 ((rd_T61 l0_1 x19_1).f3))) (fun _ hk => hk.1.2)))⟩) (aJ (show Aside0 (w57.heap[gb101]? = some (.cells #[.int .i64 a0_0, .slice (some ad107) l0_1.length c0_1, .slice A0_2 l0_2.length c0_2] 31 (0, 0))) from ⟨(by rw [hw]; exact (by (repeat first | with_reducible apply zN | with_reducible apply zD | with_reducible apply zA | refine blk_far ?_ NB101_108.out _); exact BK101.out))⟩) (aJ (show Aside0 (w57.heap[gb102]? = some (.cells #[.int .i64 0, .slice none 0 0, .slice none 0 0] 31 (0, 0))) from ⟨(by rw [hw]; exact (by (repeat first | with_reducible apply zN | with_reducible apply zD | with_reducible apply zA | refine blk_far ?_ NB102_108.out _); exact BK102.out))⟩) (aJ (show Aside0 (w57.heap[gb106]? = some (.cells #[.int .i64 0, u107001, .slice none 0 0] 31 (0, 0))) from ⟨(by rw [hw]; exact (by (repeat first | with_reducible apply zN | with_reducible apply zD | with_reducible apply zA | refine blk_far ?_ NB106_108.out _); exact BK106.out))⟩) (aJ (show Aside0 (w57.heap[gb108]? = some (.cells #[.bool false, .int .i64 ((rd_T61 l0_1 x19_1).f1), .int .i64 ((rd_T61 l0_1 x19_1).f2), .int .i64 ((rd_T61 l0_1 x19_1).f3)] 61 (0, 0))) from ⟨(by rw [hw]; exact (by (with_reducible repeat first | apply zN | apply zD | apply zA); refine blk_put (cs := #[.bool false, .int .i64 ((rd_T61 l0_1 x19_1).f1), .int .i64 ((rd_T61 l0_1 x19_1).f2), .int .i64 0]) ?_ 3 _ rfl; (with_reducible repeat first | apply zN | apply zD | apply zA); refine blk_put (cs := #[.bool false, .int .i64 ((rd_T61 l0_1 x19_1).f1), .int .i64 0, .int .i64 0]) ?_ 2 _ rfl; (with_reducible repeat first | apply zN | apply zD | apply zA); refine blk_put (cs := #[.bool false, .int .i64 0, .int .i64 0, .int .i64 0]) ?_ 1 _ rfl; (with_reducible repeat first | apply zN | apply zD | apply zA); refine blk_put (cs := #[.bool false, .int .i64 0, .int .i64 0, .int .i64 0]) ?_ 0 _ rfl; (with_reducible repeat first | apply zN | apply zD | apply zA); exact BK108.out))⟩) (show Aside0 (Below w.heap.size w w57) from ⟨(by rw [hw]; exact (pH HB))⟩)))))); clear hw HO_5 HO_107001 BK101 BK102 BK106 BK108 HB; obtain ⟨HO_5, HO_107001, BK101, BK102, BK106, BK108, HB⟩ := n_; have p109 : 0 ≤ (x19_1 : Int) := dA; have q109 : x19_1 < (l1.length : Int) := dA; obtain ⟨ad109, e109, hx109_0⟩ := Kd.at_bool HR1.out x19_1 p109 q109; (try rw [← Nbq20.out] at hx109_0); (try rw [← Nbq22.out] at hx109_0); cases e109; replace hx109_0 := uC HB hx109_0; replace p109 := eq_true p109; replace q109 := eq_true q109; have hcz58_0 := kq40 BK108; have hcz58_1 := kq41 BK108; have hcz58_2 := kq42 BK108; have hcz58_3 := kq43 BK108; have hfz58_0 := fz BK108 0; have hfz58_1 := fz BK108 1; have hfz58_2 := fz BK108 2; have hfz58_3 := fz BK108 3; obtain ⟨Ao59, co59, eo59⟩ := Kd.R_slice HO_5.out; subst eo59; have p114 : 0 ≤ (((rd_T61 l0_1 x19_1).f2) : Int) := dA; have q114 : ((rd_T61 l0_1 x19_1).f2) < (x5_1.length : Int) := dA; obtain ⟨ad114, e114, hx114_0⟩ := Kd.at_int (Kd.R_reads' HO_5.out).2.2 ((rd_T61 l0_1 x19_1).f2) p114 q114; cases e114; replace p114 := eq_true p114; replace q114 := eq_true q114) | ((with_reducible refine gate_store (t := 3) (p := 37) rfl ?_); refine store_event (t := 3) (p := 37) (v := ?vo_w60) (w1 := (w57.setCell ⟨gb108, 2, none⟩ (.int .i64 (rd x5_1 ((rd_T61 l0_1 x19_1).f2))))) ?hg ?ho ?hn ?hr ?_; (case ho => rfl); (case hg => rfl); (case hn => rfl); (case hr => first | (go_simp; done) | (go_simp; rfl)); intro w60 hw; have n_ := aJ (show Aside0 (Kd.R (Kd.int .i64) 3 w60 w.heap.size (fun _ => True) (.slice (some ad114) x5_1.length co59) x5_1) from ⟨(by rw [hw]; exact (by (with_reducible repeat (first | apply rA | apply rN | apply rD)); exact Kd.R_mono (Kd.R_far (p := ⟨gb108, 2, none⟩) (Kd.R_types HO_5.out BK108.out (by decide)) (fun _ hk => hk.2) (.int .i64 (rd x5_1 ((rd_T61 l0_1 x19_1).f2)))) (fun _ hk => trivial)))⟩) (aJ (show Aside0 (Kd.R k61 61 w60 w.heap.size (fun k_ => k_ ≠ gb108) u107001 x107001_1) from ⟨(by rw [hw]; exact (by (with_reducible repeat (first | apply rA | apply rN | apply rD)); exact Kd.R_mono (Kd.R_far (p := ⟨gb108, 2, none⟩) (Kd.R_mono HO_107001.out (fun k_ hk => (⟨hk, hk⟩ : _ ∧ k_ ≠ gb108))) (fun _ hk => hk.2) (.int .i64 (rd x5_1 ((rd_T61 l0_1 x19_1).f2)))) (fun _ hk => hk.1)))⟩) (aJ (show Aside0 (w60.heap[gb101]? = some (.cells #[.int .i64 a0_0, .slice (some ad107) l0_1.length c0_1, .slice A0_2 l0_2.length c0_2] 31 (0, 0))) from ⟨(by rw [hw]; exact (by (repeat first | with_reducible apply zN | with_reducible apply zD | with_reducible apply zA | refine blk_far ?_ NB101_108.out _); exact BK101.out))⟩) (aJ (show Aside0 (w60.heap[gb102]? = some (.cells #[.int .i64 0, .slice none 0 0, .slice none 0 0] 31 (0, 0))) from ⟨(by rw [hw]; exact (by (repeat first | with_reducible apply zN | with_reducible apply zD | with_reducible apply zA | refine blk_far ?_ NB102_108.out _); exact BK102.out))⟩) (aJ (show Aside0 (w60.heap[gb106]? = some (.cells #[.int .i64 0, u107001, .slice none 0 0] 31 (0, 0))) from ⟨(by rw [hw]; exact (by (repeat first | with_reducible apply zN | with_reducible apply zD | with_reducible apply zA | refine blk_far ?_ NB106_108.out _); exact BK106.out))⟩) (aJ (show Aside0 (w60.heap[gb108]? = some (.cells #[.bool false, .int .i64 ((rd_T61 l0_1 x19_1).f1), .int .i64 (rd x5_1 ((rd_T61 l0_1 x19_1).f2)), .int .i64 ((rd_T61 l0_1 x19_1).f3)] 61 (0, 0))) from ⟨(by rw [hw]; exact (by (with_reducible repeat first | apply zN | apply zD | apply zA); refine blk_put (cs := #[.bool false, .int .i64 ((rd_T61 l0_1 x19_1).f1), .int .i64 ((rd_T61 l0_1 x19_1).f2), .int .i64 ((rd_T61 l0_1 x19_1).f3)]) ?_ 2 _ rfl; (with_reducible repeat first | apply zN | apply zD | apply zA); exact BK108.out))⟩) (show Aside0 (Below w.heap.size w w60) from ⟨(by rw [hw]; exact (pH HB))⟩)))))); clear hw HO_5 HO_107001 BK101 BK102 BK106 BK108 HB; obtain ⟨HO_5, HO_107001, BK101, BK102, BK106, BK108, HB⟩ := n_; have hcz61_0 := kq40 BK108; have hcz61_1 := kq41 BK108; have hcz61_2 := kq42 BK108; have hcz61_3 := kq43 BK108; have hfz61_0 := fz BK108 0; have hfz61_1 := fz BK108 1; have hfz61_2 := fz BK108 2; have hfz61_3 := fz BK108 3; have p115 : 0 ≤ (((rd_T61 l0_1 x19_1).f3) : Int) := dA; have q115 : ((rd_T61 l0_1 x19_1).f3) < (x5_1.length : Int) := dA; obtain ⟨ad115, e115, hx115_0⟩ := Kd.at_int (Kd.R_reads' HO_5.out).2.2 ((rd_T61 l0_1 x19_1).f3) p115 q115; obtain rfl : ad114 = ad115 := (by injection e115); replace p115 := eq_true p115; replace q115 := eq_true q115) | ((with_reducible refine gate_store (t := 3) (p := 43) rfl ?_); refine store_event (t := 3) (p := 43) (v := ?vo_w62) (w1 := (w60.setCell ⟨gb108, 3, none⟩ (.int .i64 (rd x5_1 ((rd_T61 l0_1 x19_1).f3))))) ?hg ?ho ?hn ?hr ?_; (case ho => rfl); (case hg => rfl); (case hn => rfl); (case hr => first | (go_simp; done) | (go_simp; rfl)); intro w62 hw; have n_ := aJ (show Aside0 (Kd.R (Kd.int .i64) 3 w62 w.heap.size (fun _ => True) (.slice (some ad114) x5_1.length co59) x5_1) from ⟨(by rw [hw]; exact (by (with_reducible repeat (first | apply rA | apply rN | apply rD)); exact Kd.R_mono (Kd.R_far (p := ⟨gb108, 3, none⟩) (Kd.R_types HO_5.out BK108.out (by decide)) (fun _ hk => hk.2) (.int .i64 (rd x5_1 ((rd_T61 l0_1 x19_1).f3)))) (fun _ hk => trivial)))⟩) (aJ (show Aside0 (Kd.R k61 61 w62 w.heap.size (fun k_ => k_ ≠ gb108) u107001 x107001_1) from ⟨(by rw [hw]; exact (by (with_reducible repeat (first | apply rA | apply rN | apply rD)); exact Kd.R_mono (Kd.R_far (p := ⟨gb108, 3, none⟩) (Kd.R_mono HO_107001.out (fun k_ hk => (⟨hk, hk⟩ : _ ∧ k_ ≠ gb108))) (fun _ hk => hk.2) (.int .i64 (rd x5_1 ((rd_T61 l0_1 x19_1).f3)))) (fun _ hk => hk.1)))⟩) (aJ (show Aside0 (w62.heap[gb101]? = some (.cells #[.int .i64 a0_0, .slice (some ad107) l0_1.length c0_1, .slice A0_2 l0_2.length c0_2] 31 (0, 0))) from ⟨(by rw [hw]; exact (by (repeat first | with_reducible apply zN | with_reducible apply zD | with_reducible apply zA | refine blk_far ?_ NB101_108.out _); exact BK101.out))⟩) (aJ (show Aside0 (w62.heap[gb102]? = some (.cells #[.int .i64 0, .slice none 0 0, .slice none 0 0] 31 (0, 0))) from ⟨(by rw [hw]; exact (by (repeat first | with_reducible apply zN | with_reducible apply zD | with_reducible apply zA | refine blk_far ?_ NB102_108.out _); exact BK102.out))⟩) (aJ (show Aside0 (w62.heap[gb106]? = some (.cells #[.int .i64 0, u107001, .slice none 0 0] 31 (0, 0))) from ⟨(by rw [hw]; exact (by (repeat first | with_reducible apply zN | with_reducible apply zD | with_reducible apply zA | refine blk_far ?_ NB106_108.out _); exact BK106.out))⟩) (aJ (show Aside0 (w62.heap[gb108]? = some (.cells #[.bool false, .int .i64 ((rd_T61 l0_1 x19_1).f1), .int .i64 (rd x5_1 ((rd_T61 l0_1 x19_1).f2)), .int .i64 (rd x5_1 ((rd_T61 l0_1 x19_1).f3))] 61 (0, 0))) from ⟨(by rw [hw]; exact (by (with_reducible repeat first | apply zN | apply zD | apply zA); refine blk_put (cs := #[.bool false, .int .i64 ((rd_T61 l0_1 x19_1).f1), .int .i64 (rd x5_1 ((rd_T61 l0_1 x19_1).f2)), .int .i64 ((rd_T61 l0_1 x19_1).f3)]) ?_ 3 _ rfl; (with_reducible repeat first | apply zN | apply zD | apply zA); exact BK108.out))⟩) (show Aside0 (Below w.heap.size w w62) from ⟨(by rw [hw]; exact (pH HB))⟩)))))); clear hw HO_5 HO_107001 BK101 BK102 BK106 BK108 HB; obtain ⟨HO_5, HO_107001, BK101, BK102, BK106, BK108, HB⟩ := n_; have hnb63 := NB106_101.out; have hnc63 := NB101_106.out; have hnb64 := NB106_102.out; have hnc64 := NB102_106.out; obtain ⟨hcz65_0, hcz65_1, hcz65_2, hfz65_0, hfz65_1, hfz65_2⟩ := cA3 BK106; obtain ⟨Ao66, co66, eo66⟩ := Kd.R_slice HO_107001.out; subst eo66; have p50 : 0 ≤ (x19_1 : Int) := dA; have q50 : (x19_1 : Int) < ((x5_1.length : Int) : Int) := dA; obtain ⟨go50, co50, eo50, gb50, gl50, cl50, HG50⟩ := Kd.R_form HO_5.out (by omega); (first | cases eo50 | (injection eo50 with ea_ en_ ec_; (first | subst ea_ | (injection ea_ with ea_; subst ea_)); subst ec_; clear en_)); have GB50 := aK gb50; have GG50 := aK HG50; clear gb50 gl50 HG50; (first | simp only [add_plain] at hx114_0 | skip); (first | simp only [add_plain] at hx115_0 | skip); obtain ⟨hx50_0, hf50_0⟩ := Kd.R_celln 0 HO_5.out (x19_1 : Int) p50 q50; replace p50 := eq_true p50; replace q50 := eq_true q50; obtain ⟨hy67_, hz67_⟩ := Kd.R_celln 0 HO_5.out (x19_1 : Int) (dA) (dA); have HP67 := Kd.R_putg HO_5.out (x19_1 : Int) (x107001_1.length : Int)) | ((with_reducible refine gate_store (t := 3) (p := 49) rfl ?_); refine store_event (t := 3) (p := 49) (v := ?vo_w68) (w1 := (w62.setCell ⟨go50, (x19_1 : Int).toNat, none⟩ (.int .i64 (x107001_1.length : Int)))) ?hg ?ho ?hn ?hr ?_; (case ho => rfl); (case hg => rfl); (case hn => rfl); (case hr => first | (go_simp; done) | (go_simp; rfl)); intro w68 hw; have hg : w62.grownBy w68 (some go50) := (by rw [hw]; exact HP67.2); have hp_ : Kd.R (Kd.int .i64) 3 w68 w.heap.size (fun _ => True) (.slice (some ⟨go50, 0, none⟩) x5_1.length co59) y116 := (by rw [hw, Ny116.out]; exact HP67.1); clear HP67; have n0_ := aK (hp_); have n1_ := aK (Kd.R_over' (v := (.slice (some ⟨go50, 0, none⟩) x5_1.length co59)) HO_107001.out (Kd.R_typed HO_5.out) (by decide) hg); have n2_ := aK (blk_grown BK101.out hg (Kd.R_ne HO_5.out BK101.out (by decide))); have n3_ := aK (blk_grown BK102.out hg (Kd.R_ne HO_5.out BK102.out (by decide))); have n4_ := aK (blk_grown BK106.out hg (Kd.R_ne HO_5.out BK106.out (by decide))); have n5_ := aK (blk_grown BK108.out hg (Kd.R_ne HO_5.out BK108.out (by decide))); have n6_ := aK ((by rw [hw]; exact below_set (HB.out) GB50.out : Below w.heap.size w w68)); clear HO_5; have HO_5 := n0_; clear n0_; clear HO_107001; have HO_107001 := n1_; clear n1_; clear BK101; have BK101 := n2_; clear n2_; clear BK102; have BK102 := n3_; clear n3_; clear BK106; have BK106 := n4_; clear n4_; clear BK108; have BK108 := n5_; clear n5_; clear HB; have HB := n6_; clear n6_; clear hg hw hp_; obtain ⟨hcz69_0, hcz69_1, hcz69_2, hfz69_0, hfz69_1, hfz69_2⟩ := cA3 BK106; have hcz70_0 := kq40 BK108; have hcz70_1 := kq41 BK108; have hcz70_2 := kq42 BK108; have hcz70_3 := kq43 BK108; have hfz70_0 := fz BK108 0; have hfz70_1 := fz BK108 1; have hfz70_2 := fz BK108 2; have hfz70_3 := fz BK108 3) | ((with_reducible refine gate_builtin (b := .append) (xs := #[.tmp 51, .tmp 53]) rfl ?_); at_builtin; refine Kd.R_append k61 (w0 := w) w.heap.size rfl (.tmp 51) (.tmp 53) 29 61 (.agg #[(.bool false), (.int .i64 0), (.int .i64 0), (.int .i64 0)]) 32 rfl Tryd.underlying29 info61 rfl (by decide) (by omega) (.slice Ao66 x107001_1.length co66) x107001_1 (⟨false, (rd_T61 l0_1 x19_1).f1, rd x5_1 ((rd_T61 l0_1 x19_1).f2), rd x5_1 ((rd_T61 l0_1 x19_1).f3)⟩ : S61) [.bool false, .int .i64 ((rd_T61 l0_1 x19_1).f1), .int .i64 (rd x5_1 ((rd_T61 l0_1 x19_1).f2)), .int .i64 (rd x5_1 ((rd_T61 l0_1 x19_1).f3))] (fun k_ => k_ ≠ gb108) (fun _ => False) rfl rfl ?aP (fun _ hk => hk.elim) ?aF ?aO ?aB ?aS ?aL ?_; (case aP => exact k61_mkM _ _ _ (⟨false, (rd_T61 l0_1 x19_1).f1, rd x5_1 ((rd_T61 l0_1 x19_1).f2), rd x5_1 ((rd_T61 l0_1 x19_1).f3)⟩ : S61)); (case aB => exact (pH HB)); (case aF => exact (fun k_ hk => Kd.freshB BK108.out k_ hk)); (case aO => exact HO_107001.out); (case aS => exact (below_size (pH HB))); (case aL => have := LMc51.out; omega); intro v118 w71 ho hb hg hat; rw [← Ny117.out] at ho; have n0_ := aK (Kd.R_over' HO_5.out (Kd.R_typed HO_107001.out) (by decide) hg); have n1_ := aK (blk_grown BK101.out hg (Kd.R_ne HO_107001.out BK101.out (by decide))); have n2_ := aK (blk_grown BK102.out hg (Kd.R_ne HO_107001.out BK102.out (by decide))); have n3_ := aK (blk_grown BK106.out hg (Kd.R_ne HO_107001.out BK106.out (by decide))); have n4_ := aK (blk_grown BK108.out hg (Kd.R_away HO_107001.out (fun _ hk => hk))); have n5_ := aK (hb); have HO119 := aK (ho); clear HO_5; have HO_5 := n0_; clear n0_; clear BK101; have BK101 := n1_; clear n1_; clear BK102; have BK102 := n2_; clear n2_; clear BK106; have BK106 := n3_; clear n3_; clear BK108; have BK108 := n4_; clear n4_; clear HB; have HB := n5_; clear n5_; clear HO_107001; clear ho hb hg hat; obtain ⟨Ao72, co72, eo72⟩ := Kd.R_slice HO119.out; subst eo72; obtain ⟨hcz73_0, hcz73_1, hcz73_2, hfz73_0, hfz73_1, hfz73_2⟩ := cA3 BK106))
                 go_roundg k1
                 case measure => have := HK1.out; omega
                 case rel => exact ⟨(y116), (wrap64 (x19_1 + 1)), (y117), (.slice Ao72 y117.length co72), rS, H', ⟨by have := HK1.out; omega⟩, ⟨by (with_reducible repeat (first | apply rA | apply rN | apply rD)); exact Kd.R_mono (Kd.R_far (p := ⟨gb106, 1, none⟩) (Kd.R_types HO_5.out BK106.out (by decide)) (fun _ hk => hk.2) (.slice Ao72 y117.length co72)) (fun _ hk => trivial)⟩, ⟨by (with_reducible repeat (first | apply rA | apply rN | apply rD)); exact Kd.R_mono (Kd.R_far (p := ⟨gb106, 1, none⟩) (Kd.R_types HO119.out BK106.out (by decide)) (fun _ hk => hk.2) (.slice Ao72 y117.length co72)) (fun _ hk => trivial)⟩, ⟨by (repeat first | with_reducible apply zN | with_reducible apply zD | with_reducible apply zA | refine blk_far ?_ NB101_106.out _); exact BK101.out⟩, ⟨by (repeat first | with_reducible apply zN | with_reducible apply zD | with_reducible apply zA | refine blk_far ?_ NB102_106.out _); exact BK102.out⟩, ⟨by (with_reducible repeat first | apply zN | apply zD | apply zA); refine blk_put (cs := #[.int .i64 0, .slice Ao66 x107001_1.length co66, .slice none 0 0]) ?_ 1 _ rfl; (with_reducible repeat first | apply zN | apply zD | apply zA); exact BK106.out⟩, ⟨pH HB⟩⟩
                ·rw [if_neg c51] at H
                 exact absurd H (by simp)
               ·rw [if_neg c49] at H
                exact absurd H (by simp)
              ·rw [if_neg c48] at H
               exact absurd H (by simp)
             ·rw [if_neg c47] at H
              exact absurd H (by simp)
            ·rw [if_neg c46] at H
             exact absurd H (by simp)
           ·rw [if_neg c45] at H
            exact absurd H (by simp)
         ·replace c21 := Bool.eq_false_iff.mpr c21
          subst c21
          rw [if_neg (show ¬ (false = true) by decide)] at H
          have H' := aK H
          clear H
          have p107 : 0 ≤ (x19_1 : Int) := dA
          have q107 : x19_1 < (l0_1.length : Int) := dA
          obtain ⟨ad107, e107, hx107_0, hx107_1, hx107_2, hx107_3⟩ := at_T61 HR0_1.out x19_1 p107 q107
          (try rw [← Nbq20.out] at hx107_0)
          cases e107
          replace hx107_0 := uC HB hx107_0
          replace hx107_1 := uC HB hx107_1
          replace hx107_2 := uC HB hx107_2
          replace hx107_3 := uC HB hx107_3
          replace p107 := eq_true p107
          replace q107 := eq_true q107
          go_wp2_with (first | ((with_reducible refine gate_dst (N := 8) rfl ?_); refine bE (N := 8) (cs := #[.bool false, .int .i64 0, .int .i64 0, .int .i64 0]) (t := 61) ?_; intro gb108 hg w74 hbox hb; have n0_ := aK (Kd.R_below HO_5.out hb); have n1_ := aK (Kd.R_below (Kd.R_elderB HO_107001.out gb108 (Nat.le_of_eq hg.symm)) hb); have GW108 := qw HB hg; have GE108 := qw HB hg; have NB101_108 := ql BK101 hg; have NB108_101 := qg BK101 hg; have NB102_108 := ql BK102 hg; have NB108_102 := qg BK102 hg; have NB106_108 := ql BK106 hg; have NB108_106 := qg BK106 hg; replace BK101 := qb BK101 hb; replace BK102 := qb BK102 hb; replace BK106 := qb BK106 hb; have BK108 := aK hbox; clear HO_5; have HO_5 := n0_; clear n0_; clear HO_107001; have HO_107001 := n1_; clear n1_; replace HB := qs HB hb; clear hb hbox hg; have hnb75 := NB108_101.out; have hnc75 := NB101_108.out; have hnb76 := NB108_102.out; have hnc76 := NB102_108.out; have hnb77 := NB108_106.out; have hnc77 := NB106_108.out; have hcz78_0 := kq40 BK108; have hcz78_1 := kq41 BK108; have hcz78_2 := kq42 BK108; have hcz78_3 := kq43 BK108; have hfz78_0 := fz BK108 0; have hfz78_1 := fz BK108 1; have hfz78_2 := fz BK108 2; have hfz78_3 := fz BK108 3; have p109 : 0 ≤ (x19_1 : Int) := dA; have q109 : x19_1 < (l1.length : Int) := dA; obtain ⟨ad109, e109, hx109_0⟩ := Kd.at_bool HR1.out x19_1 p109 q109; (try rw [← Nbq20.out] at hx109_0); cases e109; have hn109_0 : ad109.block ≠ gb108 := nF hx109_0 GW108; have hn109_1 : ad109.block ≠ gb108 := nF hx109_0 GW108; have hn109_2 : ad109.block ≠ gb108 := nF hx109_0 GW108; have hn109_3 : ad109.block ≠ gb108 := nF hx109_0 GW108; replace hx109_0 := uC HB hx109_0; replace hx109_0 := (cell_far (p := ⟨gb108, 0, none⟩) (cB hn109_0) (.bool ((rd_T61 l0_1 x19_1).f0))).trans hx109_0; replace hx109_0 := (cell_far (p := ⟨gb108, 1, none⟩) (cB hn109_1) (.int .i64 ((rd_T61 l0_1 x19_1).f1))).trans hx109_0; replace hx109_0 := (cell_far (p := ⟨gb108, 2, none⟩) (cB hn109_2) (.int .i64 ((rd_T61 l0_1 x19_1).f2))).trans hx109_0; replace hx109_0 := (cell_far (p := ⟨gb108, 3, none⟩) (cB hn109_3) (.int .i64 ((rd_T61 l0_1 x19_1).f3))).trans hx109_0; clear hn109_0; clear hn109_1; clear hn109_2; clear hn109_3; replace p109 := eq_true p109; replace q109 := eq_true q109))
          go_roundg k1
          case measure => have := HK1.out; omega
          case rel => exact ⟨(x5_1), (wrap64 (x19_1 + 1)), (x107001_1), (u107001), rS, H', ⟨by have := HK1.out; omega⟩, ⟨by (with_reducible repeat (first | apply rA | apply rN | apply rD)); exact Kd.R_mono (Kd.R_far (p := ⟨gb108, 3, none⟩) (Kd.R_far (p := ⟨gb108, 2, none⟩) (Kd.R_far (p := ⟨gb108, 1, none⟩) (Kd.R_far (p := ⟨gb108, 0, none⟩) (Kd.R_types HO_5.out BK108.out (by decide)) (fun _ hk => hk.2) (.bool ((rd_T61 l0_1 x19_1).f0))) (fun _ hk => hk.2) (.int .i64 ((rd_T61 l0_1 x19_1).f1))) (fun _ hk => hk.2) (.int .i64 ((rd_T61 l0_1 x19_1).f2))) (fun _ hk => hk.2) (.int .i64 ((rd_T61 l0_1 x19_1).f3))) (fun _ hk => trivial)⟩, ⟨by (with_reducible repeat (first | apply rA | apply rN | apply rD)); exact Kd.R_mono (Kd.R_far (p := ⟨gb108, 3, none⟩) (Kd.R_far (p := ⟨gb108, 2, none⟩) (Kd.R_far (p := ⟨gb108, 1, none⟩) (Kd.R_far (p := ⟨gb108, 0, none⟩) (Kd.R_mono HO_107001.out (fun k_ hk => (⟨hk, hk.2⟩ : _ ∧ k_ ≠ gb108))) (fun _ hk => hk.2) (.bool ((rd_T61 l0_1 x19_1).f0))) (fun _ hk => hk.2) (.int .i64 ((rd_T61 l0_1 x19_1).f1))) (fun _ hk => hk.2) (.int .i64 ((rd_T61 l0_1 x19_1).f2))) (fun _ hk => hk.2) (.int .i64 ((rd_T61 l0_1 x19_1).f3))) (fun _ hk => trivial)⟩, ⟨by (repeat first | with_reducible apply zN | with_reducible apply zD | with_reducible apply zA | refine blk_far ?_ NB101_108.out _); exact BK101.out⟩, ⟨by (repeat first | with_reducible apply zN | with_reducible apply zD | with_reducible apply zA | refine blk_far ?_ NB102_108.out _); exact BK102.out⟩, ⟨by (repeat first | with_reducible apply zN | with_reducible apply zD | with_reducible apply zA | refine blk_far ?_ NB106_108.out _); exact BK106.out⟩, ⟨pH HB⟩⟩
        ·rw [if_neg c19] at H
         exact absurd H (by simp)
       ·rw [if_neg c18] at H
        exact absurd H (by simp)
      ·rw [if_neg c17] at H
       exact absurd H (by simp)
     ·rw [if_neg c16] at H
      have c16b0 : decide (x19_1 < (l0_1.length : Int)) = false := decide_eq_false c16
      clear c16
      have H' := aK H
      clear H
      have hnb79 := NB101_102.out
      have hnc79 := NB102_101.out
      have hnb80 := NB101_106.out
      have hnc80 := NB106_101.out
      obtain ⟨hcz81_0, hcz81_1, hcz81_2, hfz81_0, hfz81_1, hfz81_2⟩ := cA3 BK101
      go_wp2
      go_loopg [60] k1 (fun kq v60 w' => ∃ (x60_2 : Int) (x107002_2 : List Int) (u107002 : Value), v60 = .int .i64 x60_2 ∧ Aside0 (spec_l7Move.l1 kq x5_1 l0_2 (l0_2.length : Int) x60_2 0 x107001_1 x107002_2 = some (r1, r2, r3)) ∧ Aside0 (kq ≤ k1) ∧ Aside0 (Kd.R (Kd.int .i64) 3 w' w.heap.size (fun k_ => some k_ ≠ (u107002 : Value).ownBlock) v104 x5_1) ∧ Aside0 (Kd.R k61 61 w' w.heap.size (fun _ => True) u107001 x107001_1) ∧ Aside0 (Kd.R (Kd.int .i64) 3 w' w.heap.size (fun k_ => some k_ ≠ (v104 : Value).ownBlock) u107002 x107002_2) ∧ Aside0 (w'.heap[gb101]? = some (.cells #[.int .i64 a0_0, (.slice A0_1 l0_1.length c0_1), (.slice A0_2 l0_2.length c0_2)] 31 (0, 0))) ∧ Aside0 (w'.heap[gb102]? = some (.cells #[.int .i64 0, (.slice none 0 0), (.slice none 0 0)] 31 (0, 0))) ∧ Aside0 (w'.heap[gb106]? = some (.cells #[.int .i64 0, u107001, u107002] 31 (0, 0))) ∧ Aside0 (Below w.heap.size w w'))
      case atStart => exact ⟨(0), (([] : List Int)), (.slice none 0 0), rS, H', ⟨Nat.le_refl _⟩, ⟨by (with_reducible repeat (first | apply rA | apply rN | apply rD)); exact Kd.R_mono HO_5.out (fun _ hk => (by simp [Value.ownBlock]))⟩, ⟨by (with_reducible repeat (first | apply rA | apply rN | apply rD)); exact HO_107001.out⟩, ⟨by first | exact Kd.R_nil _ _ _ _ _ | exact Kd.N_nil _ _ _ _ _ | exact Kd.V_nil _ _ _ _ _ | exact Kd.Q_nil _ _ _ _ _ | exact Kd.S_nil _ _ _ _ _⟩, ⟨pB BK101⟩, ⟨pB BK102⟩, ⟨pB BK106⟩, ⟨pH HB⟩⟩
      case round =>
       clear H'
       try clear c1; try clear p1; try clear q1; try clear hx1; try clear c2; try clear p2; try clear q2; try clear hx2; try clear hf2; try clear c3; try clear c3b0; try clear c3b1; try clear c4; try clear c4b0; try clear c4b1; try clear c5; try clear p5; try clear q5; try clear hx5; try clear hf5; try clear c6; try clear p6; try clear c7; try clear c8; try clear p10; try clear q10; try clear hx10; try clear p11; try clear q11; try clear hx11; try clear c12; try clear c13; try clear c16; try clear c16b0; try clear c17; try clear c17b0; try clear c18; try clear c18b0; try clear c19; try clear c19b0; try clear q20; try clear c21; try clear q22; try clear c23; try clear c24; try clear c24b0; try clear p25; try clear q25; try clear hx25; try clear hf25; try clear c26; try clear c28; try clear c29; try clear c30; try clear c34; try clear c35; try clear c45; try clear c45b0; try clear c46; try clear c46b0; try clear c47; try clear c47b0; try clear c48; try clear c48b0; try clear c49; try clear c49b0; try clear p50; try clear q50; try clear hx50; try clear hf50; try clear c51; try clear c53; try clear c54; try clear c55; try clear c63; try clear c64; try clear p64; try clear c75; try clear c76; try clear c77; try clear c79; try clear c80; try clear hx107_0; try clear hx107_1; try clear hx107_2; try clear hx107_3; try clear hx109_0; try clear hx114_0; try clear hx115_0; try clear hx25_0; try clear hx50_0; try clear p107; try clear p109; try clear p114; try clear p115; try clear p2; try clear p25; try clear p50; try clear q107; try clear q109; try clear q114; try clear q115; try clear q25; try clear q50; try clear hcz14_0 hcz14_1 hcz14_2 hfz14_0 hfz14_1 hfz14_2; try clear hcz15_0 hcz15_1 hcz15_2 hfz15_0 hfz15_1 hfz15_2; try clear hcz31_0; try clear hcz31_1; try clear hcz31_2; try clear hcz31_3; try clear hfz31_0; try clear hfz31_1; try clear hfz31_2; try clear hfz31_3; try clear hcz33_0; try clear hcz33_1; try clear hcz33_2; try clear hcz33_3; try clear hfz33_0; try clear hfz33_1; try clear hfz33_2; try clear hfz33_3; try clear hcz36_0 hcz36_1 hcz36_2 hfz36_0 hfz36_1 hfz36_2; try clear hcz40_0 hcz40_1 hcz40_2 hfz40_0 hfz40_1 hfz40_2; try clear hcz41_0; try clear hcz41_1; try clear hcz41_2; try clear hcz41_3; try clear hfz41_0; try clear hfz41_1; try clear hfz41_2; try clear hfz41_3; try clear hcz44_0 hcz44_1 hcz44_2 hfz44_0 hfz44_1 hfz44_2; try clear hcz56_0; try clear hcz56_1; try clear hcz56_2; try clear hcz56_3; try clear hfz56_0; try clear hfz56_1; try clear hfz56_2; try clear hfz56_3; try clear hcz58_0; try clear hcz58_1; try clear hcz58_2; try clear hcz58_3; try clear hfz58_0; try clear hfz58_1; try clear hfz58_2; try clear hfz58_3; try clear hcz61_0; try clear hcz61_1; try clear hcz61_2; try clear hcz61_3; try clear hfz61_0; try clear hfz61_1; try clear hfz61_2; try clear hfz61_3; try clear hcz65_0 hcz65_1 hcz65_2 hfz65_0 hfz65_1 hfz65_2; try clear hcz69_0 hcz69_1 hcz69_2 hfz69_0 hfz69_1 hfz69_2; try clear hcz70_0; try clear hcz70_1; try clear hcz70_2; try clear hcz70_3; try clear hfz70_0; try clear hfz70_1; try clear hfz70_2; try clear hfz70_3; try clear hcz73_0 hcz73_1 hcz73_2 hfz73_0 hfz73_1 hfz73_2; try clear hcz78_0; try clear hcz78_1; try clear hcz78_2; try clear hcz78_3; try clear hfz78_0; try clear hfz78_1; try clear hfz78_2; try clear hfz78_3; try clear hcz81_0 hcz81_1 hcz81_2 hfz81_0 hfz81_1 hfz81_2; try clear hcz8_0 hcz8_1 hcz8_2 hfz8_0 hfz8_1 hfz8_2
       obtain ⟨x60_2, x107002_2, u107002, rfl, HA, HK2, HO_5, HO_107001, HO_107002, BK101, BK102, BK106, HB⟩ := hrel
       cases gk with
       | zero => exact absurd HA.out (by simp [spec_l7Move.l1])
       | succ k2 =>
        have H := HA.out
        clear HA
        simp only [spec_l7Move.l1] at H
        by_cases c82 : x60_2 < (l0_2.length : Int)
        ·rw [if_pos c82] at H
         have c82b0 : decide (x60_2 < (l0_2.length : Int)) = true := decide_eq_true c82
         clear c82
         by_cases c83 : 0 ≤ x60_2
         ·rw [if_pos c83] at H
          have c83b0 : decide (0 ≤ x60_2) = true := decide_eq_true c83
          clear c83
          by_cases c84 : x60_2 < (l0_2.length : Int)
          ·rw [if_pos c84] at H
           have c84b0 : decide (x60_2 < (l0_2.length : Int)) = true := decide_eq_true c84
           clear c84
           by_cases c85 : 0 ≤ (rd l0_2 x60_2)
           ·rw [if_pos c85] at H
            have c85b0 : decide (0 ≤ (rd l0_2 x60_2)) = true := decide_eq_true c85
            clear c85
            by_cases c86 : (rd l0_2 x60_2) < (x5_1.length : Int)
            ·rw [if_pos c86] at H
             have c86b0 : decide ((rd l0_2 x60_2) < (x5_1.length : Int)) = true := decide_eq_true c86
             clear c86
             by_cases c87 : x107002_2.length < 17592186044416
             ·rw [if_pos c87] at H
              have LMc87 := aK c87
              clear c87
              obtain ⟨y122, hy122⟩ : ∃ y_ : List Int, y_ = (x107002_2 ++ [rd x5_1 (rd l0_2 x60_2)]) := ⟨_, rfl⟩
              replace H : (spec_l7Move.l1 k2 x5_1 l0_2 (l0_2.length : Int) (wrap64 (x60_2 + 1)) 0 x107001_1 y122) = some (r1, r2, r3) := by first | (rw [hy122]; with_reducible exact H) | (have H2_ := (Option.bind_some _ _).symm.trans H; rw [hy122]; with_reducible exact H2_) | (have H2_ := (Option.bind_some _ _).symm.trans H; with_reducible exact H2_) | with_reducible exact H | (rw [hy122]; exact H) | exact H
              have Ny122 := aK hy122
              clear hy122
              have H' := aK H
              clear H
              have p120 : 0 ≤ (x60_2 : Int) := dA
              have q120 : x60_2 < (l0_2.length : Int) := dA
              obtain ⟨ad120, e120, hx120_0⟩ := Kd.at_int HR0_2.out x60_2 p120 q120
              cases e120
              replace hx120_0 := uC HB hx120_0
              replace p120 := eq_true p120
              replace q120 := eq_true q120
              try go_wp2
              have n_ := aJ (aK (Kd.R_drew HO_5.out)) (aJ (aK (Kd.R_drew HO_107001.out)) (aJ (aK (Kd.R_drew HO_107002.out)) (aJ (aK (blk_drew BK101.out)) (aJ (aK (blk_drew BK102.out)) (aJ (aK (blk_drew BK106.out)) (aK (below_drew1 HB.out)))))))
              clear HO_5 HO_107001 HO_107002 BK101 BK102 BK106 HB
              obtain ⟨HO_5, HO_107001, HO_107002, BK101, BK102, BK106, HB⟩ := n_
              obtain ⟨Ao89, co89, eo89⟩ := Kd.R_slice HO_5.out
              (first | subst eo89 | (injection eo89 with f1_ f2_ f3_; have f4_ := f1_.symm; have f5_ := f3_.symm; clear f1_ f2_ f3_; subst f4_; subst f5_))
              have p121 : 0 ≤ ((rd l0_2 x60_2) : Int) := dA
              have q121 : (rd l0_2 x60_2) < (x5_1.length : Int) := dA
              obtain ⟨ad121, e121, hx121_0⟩ := Kd.at_int (Kd.R_reads' HO_5.out).2.2 (rd l0_2 x60_2) p121 q121
              cases e121
              replace p121 := eq_true p121
              replace q121 := eq_true q121
              refine start_ (n := 10) (S := fun w' => w'.cell? ⟨gb106, 0, none⟩ = some (.int .i64 0) ∧ w'.cell? ⟨gb106, 1, none⟩ = some (u107001) ∧ w'.cell? ⟨gb106, 2, none⟩ = some (u107002) ∧ w'.cell? (ad121.add ((rd l0_2 x60_2)).toNat) = some (.int .i64 (rd x5_1 (rd l0_2 x60_2)))) (ds := [7, 9]) (bs 0 10) (by kernel_rfl) rfl rfl ⟨(blk_cell BK106.out 0).trans rfl, (blk_cell BK106.out 1).trans rfl, (blk_cell BK106.out 2).trans rfl, hx121_0⟩ (fun hHeld => ?_); refine with_tabW spec_l7Move.tab16 spec_l7Move.bits16 (fun HT_ HW_ => ?_)
              generalize wr.drew = w88 at HO_5 HO_107001 HO_107002 BK101 BK102 BK106 HB hx121_0 hHeld ⊢
              refine pS (i := 0) (N := some 64) (bs 1 9) (aO HT_) ?_
              refine pS (i := 2) (N := some 66) #[true, false, true, false, false, false, false, false, false, false] (aO HT_) ?_
              refine pS (i := 3) (N := some 67) #[true, false, true, true, false, false, false, false, false, false] (aO HT_) ?_
              refine pS (i := 4) (N := some 68) #[true, false, true, true, true, false, false, false, false, false] (aO HT_) ?_
              refine take_ (i := 1) (N := some 65) (v := ?_) (a' := ?_) (bs 5 5) rfl rfl (take_ofW HT_.out HW_.out (by kernel_rfl)) (fun _ _ _ h => h) (Or.inl ⟨by rfl, ?_⟩) hHeld ?_ ?_
              rotate_left
              ·rintro w' ⟨s0, s1, s2, s3⟩
               go_simp
               with_reducible rfl
              rotate_left
              ·simp only [sP, i64_w, i32_w]
               rfl
              refine take_ (i := 5) (N := some 69) (v := ?_) (a' := ?_) (bs 6 4) rfl rfl (take_ofW HT_.out HW_.out (by kernel_rfl)) (fun _ _ _ h => h) (Or.inl ⟨by rfl, ?_⟩) hHeld ?_ ?_
              rotate_left
              ·rintro w' ⟨s0, s1, s2, s3⟩
               go_simp
               with_reducible rfl
              rotate_left
              ·simp only [sP, i64_w, i32_w]
               rfl
              refine one_ (i := 6) (N := some 70) (bs 7 3) rfl rfl (one_of HT_.out (by kernel_rfl)) (by decide) (fun K hK => ?_)
              refine value_ (w1 := ?_) (v := ?_) (by rfl) rfl ?_ ?_
              rotate_left 2
              ·go_simp
               constructor
               ·rfl
               ·rfl
              refine hK.out _ _ ⟨(blk_cell (blk_alloc BK106.out _) 0).trans rfl, (blk_cell (blk_alloc BK106.out _) 1).trans rfl, (blk_cell (blk_alloc BK106.out _) 2).trans rfl, (World.cell?_alloc_lt _ _ _ (World.block_lt_of_cell? _ _ (hHeld.2.2.2))).trans (hHeld.2.2.2)⟩ (fun hHeld => ?_)
              clear hK K
              refine norm_ (a' := ?_) ?_ ?_
              rotate_left
              ·show Act.put _ (some 70) _ = _
               simp only [sP, i64_w, i32_w]
               rfl
              refine last_ (i := 7) (N := some 71) (bs 8 2) rfl rfl (one_of HT_.out (by kernel_rfl)) (by decide) (fun K hK => ?_)
              refine Kd.R_append_step (Kd.int .i64) (w0 := w) w.heap.size (by rfl) (.tmp 65) (.tmp 70) 23 3 (.int .i64 0) 8 rfl Tryd.underlying23 info3 rfl (by decide) (by omega) u107002 x107002_2 (rd x5_1 (rd l0_2 x60_2)) [.int .i64 (rd x5_1 (rd l0_2 x60_2))] (fun k_ => some k_ ≠ (.slice (some ad121) x5_1.length co89 : Value).ownBlock) (fun _ => False) rfl rfl ?aP (fun _ hk => hk.elim) ?aF ?aO ?aB ?aS ?aL ?_
              (case aP => exact rfl)
              (case aB => exact (pH HB))
              (case aF => exact (fun k_ hk => Kd.fresh' (Kd.R_lt HO_5.out) k_ hk))
              (case aO => exact HO_107002.out)
              (case aS => exact (below_size (pH HB)))
              (case aL => have := LMc87.out; omega)
              intro v123 w90 ho hb hg hat
              rw [← Ny122.out] at ho
              have n_ := aJ (aK (Kd.R_after (ok := (fun _ => True)) (by (with_reducible repeat (first | apply rA | apply rN | apply rD)); exact Kd.R_mono HO_5.out (fun _ hk => ⟨trivial, hk⟩)) hg hat)) (aJ (aK (Kd.R_over' HO_107001.out (Kd.R_typed HO_107002.out) (by decide) hg)) (aJ (aK (blk_grown BK101.out hg (Kd.R_ne HO_107002.out BK101.out (by decide)))) (aJ (aK (blk_grown BK102.out hg (Kd.R_ne HO_107002.out BK102.out (by decide)))) (aJ (aK (blk_grown BK106.out hg (Kd.R_ne HO_107002.out BK106.out (by decide)))) (aJ (aK (hb)) (aK (ho)))))))
              clear HO_5 HO_107001 BK101 BK102 BK106 HB HO_107002
              obtain ⟨HO_5, HO_107001, BK101, BK102, BK106, HB, HO124⟩ := n_
              clear ho hb hg hat
              obtain ⟨Ao91, co91, eo91⟩ := Kd.R_slice HO124.out
              (first | subst eo91 | (injection eo91 with f1_ f2_ f3_; have f4_ := f1_.symm; have f5_ := f3_.symm; clear f1_ f2_ f3_; subst f4_; subst f5_))
              refine hK.out _ _ ?_
              clear hK K
              refine norm_ (a' := ?_) ?_ ?_
              rotate_left
              ·show Act.put _ (some 71) _ = _
               simp only [sP, i64_w, i32_w]
               rfl
              refine pS (i := 8) (N := some 72) (bs 9 1) (aO HT_) ?_
              refine last_ (i := 9) (N := none) (bs 10 0) rfl rfl (one_of HT_.out (by kernel_rfl)) (by decide) (fun K hK => ?_)
              have hs92 : w90.cell? ⟨gb106, 2, none⟩ = some (u107002) := (blk_cell BK106.out 2).trans rfl
              have hfs92 := blk_frozen BK106.out 2
              have hns92_0 := NB101_106.out
              have hns92_1 := NB102_106.out
              have hms92_0 := NB106_101.out
              have hms92_1 := NB106_102.out
              refine skip_ (w1 := ?_) (by rfl) rfl ?_ ?_
              rotate_left
              ·go_simp
               rfl
              refine hK.out _ _ ?_
              clear hK K
              refine done_ (done_of HT_.out (by kernel_rfl)) ?_
              try go_wp2
              go_roundg k2
              case measure => have := HK1.out; have := HK2.out; omega
              case rel => exact ⟨(wrap64 (x60_2 + 1)), (y122), (.slice Ao91 y122.length co91), rS, H', ⟨by have := HK1.out; have := HK2.out; omega⟩, ⟨by (with_reducible repeat (first | apply rA | apply rN | apply rD)); exact Kd.R_mono (Kd.R_far (p := ⟨gb106, 2, none⟩) (Kd.R_types HO_5.out BK106.out (by decide)) (fun _ hk => hk.2) (.slice Ao91 y122.length co91)) (fun _ hk => hk.1.2)⟩, ⟨by (with_reducible repeat (first | apply rA | apply rN | apply rD)); exact Kd.R_mono (Kd.R_far (p := ⟨gb106, 2, none⟩) (Kd.R_types HO_107001.out BK106.out (by decide)) (fun _ hk => hk.2) (.slice Ao91 y122.length co91)) (fun _ hk => trivial)⟩, ⟨by (with_reducible repeat (first | apply rA | apply rN | apply rD)); exact Kd.R_mono (Kd.R_far (p := ⟨gb106, 2, none⟩) (Kd.R_types HO124.out BK106.out (by decide)) (fun _ hk => hk.2) (.slice Ao91 y122.length co91)) (fun _ hk => hk.1)⟩, ⟨by (repeat first | with_reducible apply zN | with_reducible apply zD | with_reducible apply zA | refine blk_far ?_ NB101_106.out _); exact BK101.out⟩, ⟨by (repeat first | with_reducible apply zN | with_reducible apply zD | with_reducible apply zA | refine blk_far ?_ NB102_106.out _); exact BK102.out⟩, ⟨by (with_reducible repeat first | apply zN | apply zD | apply zA); refine blk_put (cs := #[.int .i64 0, u107001, u107002]) ?_ 2 _ rfl; (with_reducible repeat first | apply zN | apply zD | apply zA); exact BK106.out⟩, ⟨pH HB⟩⟩
             ·rw [if_neg c87] at H
              exact absurd H (by simp)
            ·rw [if_neg c86] at H
             exact absurd H (by simp)
           ·rw [if_neg c85] at H
            exact absurd H (by simp)
          ·rw [if_neg c84] at H
           exact absurd H (by simp)
         ·rw [if_neg c83] at H
          exact absurd H (by simp)
        ·rw [if_neg c82] at H
         have c82b0 : decide (x60_2 < (l0_2.length : Int)) = false := decide_eq_false c82
         clear c82
         simp only [Option.some.injEq, Prod.mk.injEq] at H
         obtain ⟨rfl, rfl, rfl⟩ := H
         have hnb93 := NB106_101.out
         have hnc93 := NB101_106.out
         have hnb94 := NB106_102.out
         have hnc94 := NB102_106.out
         obtain ⟨hcz95_0, hcz95_1, hcz95_2, hfz95_0, hfz95_1, hfz95_2⟩ := cA3 BK106
         obtain ⟨Ao96, co96, eo96⟩ := Kd.R_slice HO_107001.out
         subst eo96
         have hnb97 := NB102_101.out
         have hnc97 := NB101_102.out
         obtain ⟨hcz98_0, hcz98_1, hcz98_2, hfz98_0, hfz98_1, hfz98_2⟩ := cA3 BK102
         obtain ⟨Ao99, co99, eo99⟩ := Kd.R_slice HO_107002.out
         subst eo99
         go_wp2
         refine bodyPost_ret (results_cell_row rfl _ _ gb102 31 #[.int .i64 (x107001_1.length : Int), .slice Ao96 x107001_1.length co96, .slice Ao99 x107002_2.length co99] (0, 0) _ rfl (by (with_reducible repeat first | apply zN | apply zD | apply zA); refine blk_put (cs := #[.int .i64 (x107001_1.length : Int), .slice Ao96 x107001_1.length co96, .slice none 0 0]) ?_ 2 _ rfl; (with_reducible repeat first | apply zN | apply zD | apply zA); refine blk_put (cs := #[.int .i64 (x107001_1.length : Int), .slice none 0 0, .slice none 0 0]) ?_ 1 _ rfl; (with_reducible repeat first | apply zN | apply zD | apply zA); refine blk_put (cs := #[.int .i64 0, .slice none 0 0, .slice none 0 0]) ?_ 0 _ rfl; (repeat first | with_reducible apply zN | with_reducible apply zD | with_reducible apply zA | refine blk_far ?_ NB102_106.out _); exact BK102.out) Tryd.underlying31 rfl (by kernel_rfl)) rfl ?_
         exact ⟨_, _, eW, by (with_reducible repeat (first | apply rA | apply rN | apply rD)); exact Kd.R_mono (Kd.R_far (p := ⟨gb102, 2, none⟩) (Kd.R_far (p := ⟨gb102, 1, none⟩) (Kd.R_far (p := ⟨gb102, 0, none⟩) (Kd.R_far (p := ⟨gb106, 0, none⟩) (Kd.R_types (Kd.R_types HO_107001.out BK106.out (by decide)) BK102.out (by decide)) (fun _ hk => hk.1.2) (.int .i64 (x107001_1.length : Int))) (fun _ hk => hk.2) (.int .i64 (x107001_1.length : Int))) (fun _ hk => hk.2) (.slice Ao96 x107001_1.length co96)) (fun _ hk => hk.2) (.slice Ao99 x107002_2.length co99)) (fun _ hk => trivial), by (with_reducible repeat (first | apply rA | apply rN | apply rD)); exact Kd.R_mono (Kd.R_far (p := ⟨gb102, 2, none⟩) (Kd.R_far (p := ⟨gb102, 1, none⟩) (Kd.R_far (p := ⟨gb102, 0, none⟩) (Kd.R_far (p := ⟨gb106, 0, none⟩) (Kd.R_types (Kd.R_types HO_107002.out BK106.out (by decide)) BK102.out (by decide)) (fun _ hk => hk.1.2) (.int .i64 (x107001_1.length : Int))) (fun _ hk => hk.2) (.int .i64 (x107001_1.length : Int))) (fun _ hk => hk.2) (.slice Ao96 x107001_1.length co96)) (fun _ hk => hk.2) (.slice Ao99 x107002_2.length co99)) (fun _ hk => trivial), pH HB⟩
  ·rw [if_neg c4] at H
   exact absurd H (by simp)
 ·rw [if_neg c3] at H
  exact absurd H (by simp)


def spec_l7Collect.f (k : Nat) (a0_0 : Int) (l0_1 : List (S61)) (l0_2 : List Int) : Option (Int × (List (S61)) × List Int) := if 0 ≤ (l0_1.length : Int) then (if ((l0_1.length : Int) : Int).toNat ≤ 281474976710656 then ((spec_l7Keep.f k a0_0 l0_1 l0_2 (List.replicate ((l0_1.length : Int) : Int).toNat false)).bind fun t106 => ((spec_l7Move.f k a0_0 l0_1 l0_2 t106).bind fun bt109 => (some (bt109.1, bt109.2.1, bt109.2.2)))) else (none)) else (none)
theorem spec_l7Collect.mono : ∀ a0 a1 a2 k, LeO (spec_l7Collect.f k a0 a1 a2) (spec_l7Collect.f (k + 1) a0 a1 a2) := by
 intro a0 a1 a2 k
 unfold spec_l7Collect.f
 repeat' first
   | (with_reducible exact spec_l7Keep.mono _ _ _ _ _)
   | (with_reducible exact spec_l7Move.mono _ _ _ _ _)
   | (with_reducible exact LeO.refl _)
   | (with_reducible exact LeO.none _)
   | (with_reducible refine LeO.ite ?_ ?_)
   | (with_reducible refine LeO.bind ?_ (fun _ => ?_))
   | exact spec_l7Keep.mono _ _ _ _ _
   | exact spec_l7Move.mono _ _ _ _ _
   | exact LeO.none _
   | refine LeO.ite ?_ ?_
   | refine LeO.bind ?_ (fun _ => ?_)
def spec_l7Collect.T1 : Bool × List (List Nat × List Nat) := (true, [([], []), ([], []), ([], []), ([2], [2]), ([3], [3]), ([4, 4], [4]), ([1, 5], [1, 5]), ([0, 6, 6], [0, 6]), ([7, 7, 0, 1, 2, 3, 4, 5, 6, 7], [7])])
def spec_l7Collect.B1 : List Nat := [0, 0, 0, 4, 12, 28, 62, 127, 255]
theorem spec_l7Collect.tab1 : rtab .any (opsOf Tryd.f30 1) = spec_l7Collect.T1 := by kernel_rfl
theorem spec_l7Collect.bits1 : waitsOk spec_l7Collect.T1.2 spec_l7Collect.B1 = true := by kernel_rfl
set_option maxHeartbeats 8000000 in
set_option maxRecDepth 100000 in
theorem spec_l7Collect.calls (k : Nat) (a0_0 : Int) (A0_1 : Option Addr) (c0_1 : Nat) (l0_1 : List (S61)) (A0_2 : Option Addr) (c0_2 : Nat) (l0_2 : List Int) (r1 : Int) (r2 : List (S61)) (r3 : List Int) (w : World) (hr0_1 : Kd.C k61 w A0_1 l0_1.length l0_1) (hc0_1 : l0_1.length ≤ c0_1) (hr0_2 : Kd.C (Kd.int .i64) w A0_2 l0_2.length l0_2) (hc0_2 : l0_2.length ≤ c0_2) (h : spec_l7Collect.f k a0_0 l0_1 l0_2 = some (r1, r2, r3)) :
  Calls Tryd.prog 30 #[.agg #[.int .i64 a0_0, .slice A0_1 l0_1.length c0_1, .slice A0_2 l0_2.length c0_2]] w fun e w' => ∃ v1_ v2_ : Value, e = .returned (.agg #[.int .i64 r1, v1_, v2_]) ∧ Kd.R k61 61 w' w.heap.size (fun _ => True) v1_ r2 ∧ Kd.R (Kd.int .i64) 3 w' w.heap.size (fun _ => True) v2_ r3 ∧ Below w.heap.size w w' := by
 have hu31 := Tryd.underlying31
 have HR0_1 := aK hr0_1
 have HC0_1 := aK hc0_1
 clear hr0_1 hc0_1
 have HR0_2 := aK hr0_2
 have HC0_2 := aK hc0_2
 clear hr0_2 hc0_2
 have HB := aK (Below.refl w.heap.size w)
 have H : (if 0 ≤ (l0_1.length : Int) then (if ((l0_1.length : Int) : Int).toNat ≤ 281474976710656 then ((spec_l7Keep.f k a0_0 l0_1 l0_2 (List.replicate ((l0_1.length : Int) : Int).toNat false)).bind fun t106 => ((spec_l7Move.f k a0_0 l0_1 l0_2 t106).bind fun bt109 => (some (bt109.1, bt109.2.1, bt109.2.2)))) else (none)) else (none)) = some (r1, r2, r3) := h
 clear h
 by_cases c2 : 0 ≤ (l0_1.length : Int)
 ·rw [if_pos c2] at H
  have c2b0 := eq_true c2
  have c2b1 : decide (0 ≤ (l0_1.length : Int)) = true := decide_eq_true c2
  clear c2
  by_cases c3 : ((l0_1.length : Int) : Int).toNat ≤ 281474976710656
  ·rw [if_pos c3] at H
   have c3b0 := eq_true c3
   have c3b1 : decide (((l0_1.length : Int) : Int).toNat ≤ 281474976710656) = true := decide_eq_true c3
   clear c3
   obtain ⟨y103, hy103⟩ : ∃ y_ : List Bool, y_ = (List.replicate ((l0_1.length : Int) : Int).toNat false) := ⟨_, rfl⟩
   replace H : ((spec_l7Keep.f k a0_0 l0_1 l0_2 y103).bind fun t106 => ((spec_l7Move.f k a0_0 l0_1 l0_2 t106).bind fun bt109 => (some (bt109.1, bt109.2.1, bt109.2.2)))) = some (r1, r2, r3) := by first | (rw [hy103]; with_reducible exact H) | (have H2_ := (Option.bind_some _ _).symm.trans H; rw [hy103]; with_reducible exact H2_) | (have H2_ := (Option.bind_some _ _).symm.trans H; with_reducible exact H2_) | with_reducible exact H | (rw [hy103]; exact H) | exact H
   have Ny103 := aK hy103
   clear hy103
   obtain ⟨t106, A4, H⟩ := oB H
   try dsimp only at H
   obtain ⟨⟨t109, t110, t113⟩, A5, H⟩ := oB H
   try dsimp only at H
   simp only [Option.some.injEq, Prod.mk.injEq] at H
   obtain ⟨rfl, rfl, rfl⟩ := H
   go_enter Tryd.func30, Tryd.ntmps30
   try go_wp2_with (first | ((with_reducible refine gate_dst (N := 1) rfl ?_); refine bE (N := 1) (cs := #[.int .i64 a0_0, .slice A0_1 l0_1.length c0_1, .slice A0_2 l0_2.length c0_2]) (t := 31) ?_; intro gb101 hg w6 hbox hb; have GW101 := qw HB hg; have GE101 := qw HB hg; have BK101 := aK hbox; replace HB := qs HB hb; clear hb hbox hg) | ((with_reducible refine gate_dst (N := 2) rfl ?_); refine bE (N := 2) (cs := #[.int .i64 0, .slice none 0 0, .slice none 0 0]) (t := 31) ?_; intro gb102 hg w7 hbox hb; have GW102 := qw HB hg; have GE102 := qw HB hg; have NB101_102 := ql BK101 hg; have NB102_101 := qg BK101 hg; replace BK101 := qb BK101 hb; have BK102 := aK hbox; replace HB := qs HB hb; clear hb hbox hg))
   have n_ := aJ (aK (blk_drew BK101.out)) (aJ (aK (blk_drew BK102.out)) (aK (below_drew1 HB.out)))
   clear BK101 BK102 HB
   obtain ⟨BK101, BK102, HB⟩ := n_
   refine start_ (n := 9) (S := fun w' => w'.cell? ⟨gb101, 0, none⟩ = some (.int .i64 a0_0) ∧ w'.cell? ⟨gb101, 1, none⟩ = some (.slice A0_1 l0_1.length c0_1) ∧ w'.cell? ⟨gb101, 2, none⟩ = some (.slice A0_2 l0_2.length c0_2)) (ds := []) (bs 0 9) (by kernel_rfl) rfl rfl ⟨(blk_cell BK101.out 0).trans rfl, (blk_cell BK101.out 1).trans rfl, (blk_cell BK101.out 2).trans rfl⟩ (fun hHeld => ?_); refine with_tabW spec_l7Collect.tab1 spec_l7Collect.bits1 (fun HT_ HW_ => ?_)
   generalize w7.drew = w8 at BK101 BK102 HB hHeld ⊢
   refine pS (i := 2) (N := some 5) #[false, false, true, false, false, false, false, false, false] (aO HT_) ?_
   refine take_ (i := 0) (N := some 3) (v := ?_) (a' := ?_) #[true, false, true, false, false, false, false, false, false] rfl rfl (take_ofW HT_.out HW_.out (by kernel_rfl)) (fun _ _ _ h => h) (Or.inl ⟨by rfl, ?_⟩) hHeld ?_ ?_
   rotate_left
   ·rintro w' ⟨s0, s1, s2⟩
    go_simp
    with_reducible rfl
   rotate_left
   ·simp only [sP, i64_w, i32_w]
    rfl
   refine take_ (i := 1) (N := some 4) (v := ?_) (a' := ?_) (bs 3 6) rfl rfl (take_ofW HT_.out HW_.out (by kernel_rfl)) (fun _ _ _ h => h) (Or.inl ⟨by rfl, ?_⟩) hHeld ?_ ?_
   rotate_left
   ·rintro w' ⟨s0, s1, s2⟩
    go_simp
    with_reducible rfl
   rotate_left
   ·simp only [sP, i64_w, i32_w]
    rfl
   refine take_ (i := 3) (N := some 6) (v := ?_) (a' := ?_) (bs 4 5) rfl rfl (take_ofW HT_.out HW_.out (by kernel_rfl)) (fun _ _ _ h => h) (Or.inl ⟨by rfl, ?_⟩) hHeld ?_ ?_
   rotate_left
   ·rintro w' ⟨s0, s1, s2⟩
    go_simp
    with_reducible rfl
   rotate_left
   ·simp only [sP, i64_w, i32_w]
    rfl
   refine pS (i := 4) (N := some 7) (bs 5 4) (aO HT_) ?_
   refine one_ (i := 5) (N := some 8) (bs 6 3) rfl rfl (one_of HT_.out (by kernel_rfl)) (by decide) (fun K hK => ?_)
   refine Kd.R_make_step Kd.bool _ 4 (by rfl) (N := 8) rfl 56 _ _ rfl (l0_1.length : Int) rfl rfl Tryd.underlying56 (.bool false) 1 info4 rfl (by decide) (by omega) false (ok := fun _ => True) (okp := fun _ => True) rfl (fun _ hk => hk) trivial (dA) (Nat.le_trans (Nat.mul_le_mul_right _ (dA : (l0_1.length : Int).toNat ≤ 281474976710656)) (by omega)) (Below.refl _ _) (Nat.le_refl _) ?_
   intro v104 w9 ho10 hb hg_ hnew_
   clear hg_ hnew_
   (first | rw [← Ny103.out] at ho10 | (simp only [Int.reduceToNat] at ho10; rw [← Ny103.out] at ho10))
   have n_ := aJ (aK (Kd.R_lower ho10 (below_size (pH HB)))) (aJ (aK (blk_below BK101.out hb)) (aJ (aK (blk_below BK102.out hb)) (aK (below_step (pH HB) hb))))
   clear BK101 BK102 HB
   obtain ⟨HO105, BK101, BK102, HB⟩ := n_
   clear hb ho10
   obtain ⟨Ao11, co11, eo11⟩ := Kd.R_slice HO105.out
   (first | subst eo11 | (injection eo11 with f1_ f2_ f3_; have f4_ := f1_.symm; have f5_ := f3_.symm; clear f1_ f2_ f3_; subst f4_; subst f5_))
   refine hK.out _ _ ⟨(blk_cell BK101.out 0).trans rfl, (blk_cell BK101.out 1).trans rfl, (blk_cell BK101.out 2).trans rfl⟩ (fun hHeld => ?_)
   clear hK K
   refine norm_ (a' := ?_) ?_ ?_
   rotate_left
   ·show Act.put _ (some 8) _ = _
    simp only [sP, i64_w, i32_w]
    rfl
   refine one_ (i := 6) (N := some 9) (bs 7 2) rfl rfl (one_of HT_.out (by kernel_rfl)) (by decide) (fun K hK => ?_)
   refine goes_ Tryd.func46 (by kernel_rfl) rfl #[.agg #[.int .i64 a0_0, .slice A0_1 l0_1.length c0_1, .slice A0_2 l0_2.length c0_2], .slice Ao11 y103.length co11] (by rfl) rfl rfl tA ?_
   with_reducible refine (spec_l7Keep.calls k a0_0 _ _ l0_1 _ _ l0_2 (fun k_ => some k_ = (.slice Ao11 y103.length co11 : Value).ownBlock) (.slice Ao11 y103.length co11) y103 t106 w _ ?side1 ?side2 ?side3 ?side4 ?side5 ?side6 A4.out).mono ?_
   (case side1 => exact yH HB)
   (case side2 => exact Kd.C_kept_came k61_heap HR0_1.out (pH HB) (fun k_ hs_ => (fun e_ => Kd.R_base HO105.out k_ e_.symm) hs_))
   (case side3 => exact HC0_1.out)
   (case side4 => exact Kd.C_kept_came (Kd.heap_int .i64) HR0_2.out (pH HB) (fun k_ hs_ => (fun e_ => Kd.R_base HO105.out k_ e_.symm) hs_))
   (case side5 => exact HC0_2.out)
   (case side6 => exact Kd.R_tight rfl HO105.out)
   rintro e w12 ⟨v107, rfl, ho0, hb, hkp⟩
   refine ⟨_, rfl, ?_⟩
   have n_ := aJ (aK (blk_kept BK101.out hkp (fun hs_ => (fun e_ => (Kd.R_ne HO105.out BK101.out (by decide)) e_) hs_))) (aJ (aK (blk_kept BK102.out hkp (fun hs_ => (fun e_ => (Kd.R_ne HO105.out BK102.out (by decide)) e_) hs_))) (aJ (aK (Kd.R_mono (ok' := fun k_ => True) ho0 (fun k_ hk_ => trivial))) (aK (hb))))
   clear BK101 BK102 HB HO105
   obtain ⟨BK101, BK102, HO108, HB⟩ := n_
   (try clear hb)
   (try clear hkp)
   (try clear ho0)
   obtain ⟨Ao13, co13, eo13⟩ := Kd.R_slice HO108.out
   (first | subst eo13 | (injection eo13 with f1_ f2_ f3_; have f4_ := f1_.symm; have f5_ := f3_.symm; clear f1_ f2_ f3_; subst f4_; subst f5_))
   refine hK.out _ _ ⟨(blk_cell BK101.out 0).trans rfl, (blk_cell BK101.out 1).trans rfl, (blk_cell BK101.out 2).trans rfl⟩ (fun hHeld => ?_)
   clear hK K
   refine norm_ (a' := ?_) ?_ ?_
   rotate_left
   ·show Act.put _ (some 9) _ = _
    simp only [sP, i64_w, i32_w]
    rfl
   refine one_ (i := 7) (N := some 10) (bs 8 1) rfl rfl (one_of HT_.out (by kernel_rfl)) (by decide) (fun K hK => ?_)
   refine goes_ Tryd.func45 (by kernel_rfl) rfl #[.agg #[.int .i64 a0_0, .slice A0_1 l0_1.length c0_1, .slice A0_2 l0_2.length c0_2], .slice Ao13 t106.length co13] (by rfl) rfl rfl tA ?_
   with_reducible refine (spec_l7Move.calls k a0_0 _ _ l0_1 _ _ l0_2 _ _ t106 t109 t110 t113 _ ?side1 ?side2 ?side3 ?side4 ?side5 ?side6 A5.out).mono ?_
   (case side1 => exact sC (Kd.C_below HR0_1.out HB.out))
   (case side2 => exact HC0_1.out)
   (case side3 => exact sC (Kd.C_below HR0_2.out HB.out))
   (case side4 => exact HC0_2.out)
   (case side5 => exact sC ((Kd.R_reads' HO108.out).2.2))
   (case side6 => exact (Kd.R_reads' HO108.out).2.1)
   rintro e w14 ⟨v111, v114, rfl, ho0, ho1, hb⟩
   refine ⟨_, rfl, ?_⟩
   have n_ := aJ (aK (Kd.R_below HO108.out hb)) (aJ (aK (Kd.R_lower ho0 (below_size (pH HB)))) (aJ (aK (Kd.R_lower ho1 (below_size (pH HB)))) (aJ (aK (blk_below BK101.out hb)) (aJ (aK (blk_below BK102.out hb)) (aK (below_step (pH HB) hb))))))
   clear HO108 BK101 BK102 HB
   obtain ⟨HO108, HO112, HO115, BK101, BK102, HB⟩ := n_
   (try clear hb)
   (try clear hb2)
   (try clear hk)
   (try clear hi)
   (try clear ho0)
   (try clear ho1)
   obtain ⟨Ao16, co16, eo16⟩ := Kd.R_slice HO112.out
   (first | subst eo16 | (injection eo16 with f1_ f2_ f3_; have f4_ := f1_.symm; have f5_ := f3_.symm; clear f1_ f2_ f3_; subst f4_; subst f5_))
   obtain ⟨Ao18, co18, eo18⟩ := Kd.R_slice HO115.out
   (first | subst eo18 | (injection eo18 with f1_ f2_ f3_; have f4_ := f1_.symm; have f5_ := f3_.symm; clear f1_ f2_ f3_; subst f4_; subst f5_))
   refine hK.out _ _ ⟨(blk_cell BK101.out 0).trans rfl, (blk_cell BK101.out 1).trans rfl, (blk_cell BK101.out 2).trans rfl⟩ (fun hHeld => ?_)
   clear hK K
   refine norm_ (a' := ?_) ?_ ?_
   rotate_left
   ·show Act.put _ (some 10) _ = _
    simp only [sP, i64_w, i32_w]
    rfl
   refine one_ (i := 8) (N := none) (bs 9 0) rfl rfl (one_of HT_.out (by kernel_rfl)) (by decide) (fun K hK => ?_)
   have hs15 : w14.cell? ⟨gb102, 0, none⟩ = some (.int .i64 0) := (blk_cell BK102.out 0).trans rfl
   have hfs15 := blk_frozen BK102.out 0
   have hns15_0 := NB101_102.out
   have hms15_0 := NB102_101.out
   have hs17 : w14.cell? ⟨gb102, 1, none⟩ = some (.slice none 0 0) := (blk_cell BK102.out 1).trans rfl
   have hfs17 := blk_frozen BK102.out 1
   have hns17_0 := NB101_102.out
   have hms17_0 := NB102_101.out
   have hs19 : w14.cell? ⟨gb102, 2, none⟩ = some (.slice none 0 0) := (blk_cell BK102.out 2).trans rfl
   have hfs19 := blk_frozen BK102.out 2
   have hns19_0 := NB101_102.out
   have hms19_0 := NB102_101.out
   refine skip_ (w1 := ?_) (by rfl) rfl ?_ ?_
   rotate_left
   ·go_simp
    rfl
   refine hK.out _ _ ⟨(cF3 NB101_102.out (hHeld.1)), (cF3 NB101_102.out (hHeld.2.1)), (cF3 NB101_102.out (hHeld.2.2))⟩ (fun hHeld => ?_)
   clear hK K
   refine done_ (done_of HT_.out (by kernel_rfl)) ?_
   try go_wp2
   refine bodyPost_ret (results_cell_row rfl _ _ gb102 31 #[.int .i64 t109, .slice Ao16 t110.length co16, .slice Ao18 t113.length co18] (0, 0) _ rfl (p3 BK102) Tryd.underlying31 rfl (by kernel_rfl)) rfl ?_
   exact ⟨_, _, eW, by (with_reducible repeat (first | apply rA | apply rN | apply rD)); exact Kd.R_mono (Kd.R_far (p := ⟨gb102, 2, none⟩) (Kd.R_far (p := ⟨gb102, 1, none⟩) (Kd.R_far (p := ⟨gb102, 0, none⟩) (Kd.R_types HO112.out BK102.out (by decide)) (fun _ hk => hk.2) (.int .i64 t109)) (fun _ hk => hk.2) (.slice Ao16 t110.length co16)) (fun _ hk => hk.2) (.slice Ao18 t113.length co18)) (fun _ hk => trivial), by (with_reducible repeat (first | apply rA | apply rN | apply rD)); exact Kd.R_mono (Kd.R_far (p := ⟨gb102, 2, none⟩) (Kd.R_far (p := ⟨gb102, 1, none⟩) (Kd.R_far (p := ⟨gb102, 0, none⟩) (Kd.R_types HO115.out BK102.out (by decide)) (fun _ hk => hk.2) (.int .i64 t109)) (fun _ hk => hk.2) (.slice Ao16 t110.length co16)) (fun _ hk => hk.2) (.slice Ao18 t113.length co18)) (fun _ hk => trivial), pH HB⟩
  ·rw [if_neg c3] at H
   exact absurd H (by simp)
 ·rw [if_neg c2] at H
  exact absurd H (by simp)


mutual
def impl_kept.l0 : Nat → List (S61) → List Int → List Bool → List Int → List (S61) → List Int → Int → List Bool → Int → Int → Option ((List (S61)) × List Int)
 | 0, _, _, _, _, _, _, _, _, _, _ => none
 | k + 1, x0, x1, x2, x8, x9, x10, x11, x23, x24, x25 => if x25 < x24 then (if 0 ≤ x25 then (if x25 < (x23.length : Int) then (if x25 < (x8.length : Int) then ((some (x8.set (x25 : Int).toNat x11 : List Int)).bind fun y111 => (if rdOf false x23 x25 = true then (impl_kept.l0 k x0 x1 x2 y111 x9 x10 (wrap64 (x11 + 1)) x23 x24 (wrap64 (x25 + 1))) else (impl_kept.l0 k x0 x1 x2 y111 x9 x10 x11 x23 x24 (wrap64 (x25 + 1))))) else (none)) else (none)) else (none)) else (impl_kept.l1 k x1 x2 x8 x9 x10 x0 (x0.length : Int) 0)
def impl_kept.l1 : Nat → List Int → List Bool → List Int → List (S61) → List Int → List (S61) → Int → Int → Option ((List (S61)) × List Int)
 | 0, _, _, _, _, _, _, _, _ => none
 | k + 1, x1, x2, x8, x9, x10, x38, x39, x40 => if x40 < x39 then (if 0 ≤ x40 then (if x40 < (x38.length : Int) then (if x40 < (x2.length : Int) then (if rdOf false x2 x40 = true then (if (rd_T61 x38 x40).f0 = true then (if x9.length < 4398046511104 then (impl_kept.l1 k x1 x2 x8 (x9 ++ [(⟨(rd_T61 x38 x40).f0, (rd_T61 x38 x40).f1, (rd_T61 x38 x40).f2, (rd_T61 x38 x40).f3⟩ : S61)]) x10 x38 x39 (wrap64 (x40 + 1))) else (none)) else (if 0 ≤ ((rd_T61 x38 x40).f2) then (if ((rd_T61 x38 x40).f2) < (x8.length : Int) then (if 0 ≤ ((rd_T61 x38 x40).f3) then (if ((rd_T61 x38 x40).f3) < (x8.length : Int) then (if x9.length < 4398046511104 then (impl_kept.l1 k x1 x2 x8 (x9 ++ [(⟨(rd_T61 x38 x40).f0, (rd_T61 x38 x40).f1, rd x8 ((rd_T61 x38 x40).f2), rd x8 ((rd_T61 x38 x40).f3)⟩ : S61)]) x10 x38 x39 (wrap64 (x40 + 1))) else (none)) else (none)) else (none)) else (none)) else (none))) else (impl_kept.l1 k x1 x2 x8 x9 x10 x38 x39 (wrap64 (x40 + 1)))) else (none)) else (none)) else (none)) else (impl_kept.l2 k x8 x9 x10 x1 (x1.length : Int) 0)
def impl_kept.l2 : Nat → List Int → List (S61) → List Int → List Int → Int → Int → Option ((List (S61)) × List Int)
 | 0, _, _, _, _, _, _ => none
 | k + 1, x8, x9, x10, x70, x71, x72 => if x72 < x71 then (if 0 ≤ x72 then (if x72 < (x70.length : Int) then (if 0 ≤ (rd x70 x72) then (if (rd x70 x72) < (x8.length : Int) then (if x10.length < 17592186044416 then (impl_kept.l2 k x8 x9 (x10 ++ [rd x8 (rd x70 x72)]) x70 x71 (wrap64 (x72 + 1))) else (none)) else (none)) else (none)) else (none)) else (none)) else (some (x9, x10))
end
def impl_kept.f (k : Nat) (l0 : List (S61)) (l1 : List Int) (l2 : List Bool) : Option ((List (S61)) × List Int) := if 0 ≤ (l0.length : Int) then (if ((l0.length : Int) : Int).toNat ≤ 35184372088832 then (impl_kept.l0 k l0 l1 l2 (List.replicate ((l0.length : Int) : Int).toNat 0) (([] : List (S61))) (([] : List Int)) 0 l2 (l2.length : Int) 0) else (none)) else (none)
set_option maxHeartbeats 8000000 in
set_option maxRecDepth 100000 in
theorem impl_kept.calls (k : Nat) (A0 : Option Addr) (c0 : Nat) (l0 : List (S61)) (A1 : Option Addr) (c1 : Nat) (l1 : List Int) (A2 : Option Addr) (c2 : Nat) (l2 : List Bool) (r1 : List (S61)) (r2 : List Int) (w : World) (hr0 : Kd.C k61 w A0 l0.length l0) (hc0 : l0.length ≤ c0) (hr1 : Kd.C (Kd.int .i64) w A1 l1.length l1) (hc1 : l1.length ≤ c1) (hr2 : Kd.C Kd.bool w A2 l2.length l2) (hc2 : l2.length ≤ c2) (h : impl_kept.f k l0 l1 l2 = some (r1, r2)) :
  Calls Tryd.prog 44 #[.slice A0 l0.length c0, .slice A1 l1.length c1, .slice A2 l2.length c2] w fun e w' => ∃ v0_ v1_ : Value, e = .returned (.tuple #[v0_, v1_]) ∧ Kd.R k61 61 w' w.heap.size (fun _ => True) v0_ r1 ∧ Kd.R (Kd.int .i64) 3 w' w.heap.size (fun _ => True) v1_ r2 ∧ Below w.heap.size w w' := by
 have hu44 := Tryd.underlying61
 have HR0 := aK hr0
 have HC0 := aK hc0
 clear hr0 hc0
 have HR1 := aK hr1
 have HC1 := aK hc1
 clear hr1 hc1
 have HR2 := aK hr2
 have HC2 := aK hc2
 clear hr2 hc2
 have HB := aK (Below.refl w.heap.size w)
 have H : (if 0 ≤ (l0.length : Int) then (if ((l0.length : Int) : Int).toNat ≤ 35184372088832 then (impl_kept.l0 k l0 l1 l2 (List.replicate ((l0.length : Int) : Int).toNat 0) (([] : List (S61))) (([] : List Int)) 0 l2 (l2.length : Int) 0) else (none)) else (none)) = some (r1, r2) := h
 clear h
 by_cases c4 : 0 ≤ (l0.length : Int)
 ·rw [if_pos c4] at H
  have c4b0 := eq_true c4
  have c4b1 : decide (0 ≤ (l0.length : Int)) = true := decide_eq_true c4
  clear c4
  by_cases c5 : ((l0.length : Int) : Int).toNat ≤ 35184372088832
  ·rw [if_pos c5] at H
   have c5b0 := eq_true c5
   have c5b1 : decide (((l0.length : Int) : Int).toNat ≤ 35184372088832) = true := decide_eq_true c5
   clear c5
   obtain ⟨y101, hy101⟩ : ∃ y_ : List Int, y_ = (List.replicate ((l0.length : Int) : Int).toNat 0) := ⟨_, rfl⟩
   replace H : (impl_kept.l0 k l0 l1 l2 y101 (([] : List (S61))) (([] : List Int)) 0 l2 (l2.length : Int) 0) = some (r1, r2) := by first | (rw [hy101]; with_reducible exact H) | (have H2_ := (Option.bind_some _ _).symm.trans H; rw [hy101]; with_reducible exact H2_) | (have H2_ := (Option.bind_some _ _).symm.trans H; with_reducible exact H2_) | with_reducible exact H | (rw [hy101]; exact H) | exact H
   have Ny101 := aK hy101
   clear hy101
   obtain ⟨y104, hy104⟩ : ∃ y_ : List (S61), y_ = (([] : List (S61))) := ⟨_, rfl⟩
   replace H : (impl_kept.l0 k l0 l1 l2 y101 y104 (([] : List Int)) 0 l2 (l2.length : Int) 0) = some (r1, r2) := by first | (rw [hy104]; with_reducible exact H) | (have H2_ := (Option.bind_some _ _).symm.trans H; rw [hy104]; with_reducible exact H2_) | (have H2_ := (Option.bind_some _ _).symm.trans H; with_reducible exact H2_) | with_reducible exact H | (rw [hy104]; exact H) | exact H
   have Ny104 := aK hy104
   clear hy104
   obtain ⟨y107, hy107⟩ : ∃ y_ : List Int, y_ = (([] : List Int)) := ⟨_, rfl⟩
   replace H : (impl_kept.l0 k l0 l1 l2 y101 y104 y107 0 l2 (l2.length : Int) 0) = some (r1, r2) := by first | (rw [hy107]; with_reducible exact H) | (have H2_ := (Option.bind_some _ _).symm.trans H; rw [hy107]; with_reducible exact H2_) | (have H2_ := (Option.bind_some _ _).symm.trans H; with_reducible exact H2_) | with_reducible exact H | (rw [hy107]; exact H) | exact H
   have Ny107 := aK hy107
   clear hy107
   have H' := aK H
   clear H
   go_enter Tryd.func44, Tryd.ntmps44
   go_wp2_with (first | ((with_reducible refine gate_dst (N := 20) rfl ?_); refine Kd.R_make (Kd.int .i64) _ 3 rfl (N := 20) rfl 23 _ _ rfl (l0.length : Int) rfl rfl Tryd.underlying23 (.int .i64 0) 8 info3 rfl (by decide) (by omega) 0 (ok := fun _ => True) (okp := fun _ => True) rfl (fun _ hk => hk) trivial (dA) (Nat.le_trans (Nat.mul_le_mul_right _ (dA : (l0.length : Int).toNat ≤ 35184372088832)) (by omega)) (Below.refl _ _) (Nat.le_refl _) ?_; intro v102 w6 ho7 hb hg_ hnew_; clear hg_ hnew_; (first | rw [← Ny101.out] at ho7 | (simp only [Int.reduceToNat] at ho7; rw [← Ny101.out] at ho7)); have HO103 := aK (Kd.R_lower ho7 (below_size HB.out)); replace HB := qs HB hb; clear hb ho7) | ((with_reducible refine gate_dst (N := 21) rfl ?_); refine Kd.R_lit k61 _ 61 ?hg (N := 21) ?hd (xs := ([] : List (S61))) (inner := []) (ok := fun _ => True) (okp := fun _ => True) ?hr ?hp (fun _ hk => hk) trivial (Below.refl _ _) (Nat.le_refl _) (by simp) ?_; (case hd => rfl); (case hg => rfl); (case hr => go_simp); (case hp => exact (Reps.none _ _)); intro v105 w8 ho9 hb hg_ hnew_; clear hg_ hnew_; (first | rw [← Ny104.out] at ho9 | (simp only [Int.reduceToNat] at ho9; rw [← Ny104.out] at ho9)); have n0_ := aK (Kd.R_below HO103.out hb); have HO106 := aK (Kd.R_lower ho9 (below_size HB.out)); clear HO103; have HO103 := n0_; clear n0_; replace HB := qs HB hb; clear hb ho9) | ((with_reducible refine gate_dst (N := 22) rfl ?_); refine Kd.R_lit (Kd.int .i64) _ 3 ?hg (N := 22) ?hd (xs := ([] : List Int)) (inner := []) (ok := fun _ => True) (okp := fun _ => True) ?hr ?hp (fun _ hk => hk) trivial (Below.refl _ _) (Nat.le_refl _) (by simp) ?_; (case hd => rfl); (case hg => rfl); (case hr => go_simp); (case hp => exact (Reps.none _ _)); intro v108 w10 ho11 hb hg_ hnew_; clear hg_ hnew_; (first | rw [← Ny107.out] at ho11 | (simp only [Int.reduceToNat] at ho11; rw [← Ny107.out] at ho11)); have n0_ := aK (Kd.R_elder' HO103.out (Kd.R_base ho11) hb); have n1_ := aK (Kd.R_below HO106.out hb); have HO109 := aK (Kd.R_lower (Kd.R_new' ho11 (Kd.R_lt HO103.out)) (below_size HB.out)); clear HO103; have HO103 := n0_; clear n0_; clear HO106; have HO106 := n1_; clear n1_; replace HB := qs HB hb; clear hb ho11))
   go_loopg [11, 25] k (fun kq v11 v25 w' => ∃ (x8_1 : List Int) (x11_1 : Int) (x25_1 : Int), v11 = .int .i64 x11_1 ∧ v25 = .int .i64 x25_1 ∧ Aside0 (impl_kept.l0 kq l0 l1 l2 x8_1 y104 y107 x11_1 l2 (l2.length : Int) x25_1 = some (r1, r2)) ∧ Aside0 (kq ≤ k) ∧ Aside0 (Kd.R (Kd.int .i64) 3 w' w.heap.size (fun k_ => some k_ ≠ (v108 : Value).ownBlock) v102 x8_1) ∧ Aside0 (Kd.R k61 61 w' w.heap.size (fun _ => True) v105 y104) ∧ Aside0 (Kd.R (Kd.int .i64) 3 w' w.heap.size (fun k_ => some k_ ≠ (v102 : Value).ownBlock) v108 y107) ∧ Aside0 (Below w.heap.size w w'))
   case atStart => exact ⟨(y101), (0), (0), rS, rS, H', ⟨Nat.le_refl _⟩, ⟨by (with_reducible repeat (first | apply rA | apply rN | apply rD)); exact Kd.R_mono HO103.out (fun _ hk => hk.2)⟩, ⟨by (with_reducible repeat (first | apply rA | apply rN | apply rD)); exact HO106.out⟩, ⟨by (with_reducible repeat (first | apply rA | apply rN | apply rD)); exact Kd.R_mono HO109.out (fun _ hk => hk.2)⟩, ⟨pH HB⟩⟩
   case round =>
    clear H'
    try clear c1; try clear c2; try clear p2; try clear c4; try clear c4b0; try clear c4b1; try clear c5; try clear c5b0; try clear c5b1
    obtain ⟨x8_1, x11_1, x25_1, rfl, rfl, HA, HK1, HO_8, HO_9, HO_10, HB⟩ := hrel
    cases gk with
    | zero => exact absurd HA.out (by simp [impl_kept.l0])
    | succ k1 =>
     have H := HA.out
     clear HA
     simp only [impl_kept.l0] at H
     by_cases c12 : x25_1 < (l2.length : Int)
     ·rw [if_pos c12] at H
      have c12b0 : decide (x25_1 < (l2.length : Int)) = true := decide_eq_true c12
      clear c12
      by_cases c13 : 0 ≤ x25_1
      ·rw [if_pos c13] at H
       have c13b0 : decide (0 ≤ x25_1) = true := decide_eq_true c13
       clear c13
       by_cases c14 : x25_1 < (l2.length : Int)
       ·rw [if_pos c14] at H
        have c14b0 : decide (x25_1 < (l2.length : Int)) = true := decide_eq_true c14
        clear c14
        by_cases c15 : x25_1 < (x8_1.length : Int)
        ·rw [if_pos c15] at H
         have c15b0 : decide (x25_1 < (x8_1.length : Int)) = true := decide_eq_true c15
         clear c15
         obtain ⟨y111, hy111⟩ : ∃ y_ : List Int, y_ = (x8_1.set (x25_1 : Int).toNat x11_1) := ⟨_, rfl⟩
         replace H : (if rdOf false l2 x25_1 = true then (impl_kept.l0 k1 l0 l1 l2 y111 y104 y107 (wrap64 (x11_1 + 1)) l2 (l2.length : Int) (wrap64 (x25_1 + 1))) else (impl_kept.l0 k1 l0 l1 l2 y111 y104 y107 x11_1 l2 (l2.length : Int) (wrap64 (x25_1 + 1)))) = some (r1, r2) := by first | (rw [hy111]; with_reducible exact H) | (have H2_ := (Option.bind_some _ _).symm.trans H; rw [hy111]; with_reducible exact H2_) | (have H2_ := (Option.bind_some _ _).symm.trans H; with_reducible exact H2_) | with_reducible exact H | (rw [hy111]; exact H) | exact H
         have Ny111 := aK hy111
         clear hy111
         obtain ⟨bq17, hbq17⟩ : ∃ b_ : Bool, b_ = (rdOf false l2 x25_1) := ⟨_, rfl⟩
         replace H : (if bq17 = true then (impl_kept.l0 k1 l0 l1 l2 y111 y104 y107 (wrap64 (x11_1 + 1)) l2 (l2.length : Int) (wrap64 (x25_1 + 1))) else (impl_kept.l0 k1 l0 l1 l2 y111 y104 y107 x11_1 l2 (l2.length : Int) (wrap64 (x25_1 + 1)))) = some (r1, r2) := by rw [← hbq17] at H; exact H
         have Nbq17 := aK hbq17
         clear hbq17
         by_cases c18 : bq17 = true
         ·subst c18
          rw [if_pos rfl] at H
          have H' := aK H
          clear H
          have p110 : 0 ≤ (x25_1 : Int) := dA
          have q110 : x25_1 < (l2.length : Int) := dA
          obtain ⟨ad110, e110, hx110_0⟩ := Kd.at_bool HR2.out x25_1 p110 q110
          (try rw [← Nbq17.out] at hx110_0)
          cases e110
          replace hx110_0 := uC HB hx110_0
          replace p110 := eq_true p110
          replace q110 := eq_true q110
          have p16 : 0 ≤ (x25_1 : Int) := dA
          have q16 : (x25_1 : Int) < ((x8_1.length : Int) : Int) := dA
          obtain ⟨go16, co16, eo16, gb16, gl16, cl16, HG16⟩ := Kd.R_form HO_8.out (by omega)
          (first | cases eo16 | (injection eo16 with ea_ en_ ec_; (first | subst ea_ | (injection ea_ with ea_; subst ea_)); subst ec_; clear en_))
          have GB16 := aK gb16
          have GG16 := aK HG16
          clear gb16 gl16 HG16
          obtain ⟨hx16_0, hf16_0⟩ := Kd.R_celln 0 HO_8.out (x25_1 : Int) p16 q16
          replace p16 := eq_true p16
          replace q16 := eq_true q16
          have HP19 := Kd.R_putg HO_8.out (x25_1 : Int) x11_1
          go_wp2_with (first | ((with_reducible refine gate_store (t := 3) (p := 33) rfl ?_); refine store_event (t := 3) (p := 33) (v := ?vo_w20) (w1 := (wr.setCell ⟨go16, (x25_1 : Int).toNat, none⟩ (.int .i64 x11_1))) ?hg ?ho ?hn ?hr ?_; (case ho => rfl); (case hg => rfl); (case hn => rfl); (case hr => first | (go_simp; done) | (go_simp; rfl)); intro w20 hw; have hg : wr.grownBy w20 (some go16) := (by rw [hw]; exact HP19.2); have hp_ : Kd.R (Kd.int .i64) 3 w20 w.heap.size (fun k_ => some k_ ≠ (v108 : Value).ownBlock) (.slice (some ⟨go16, 0, none⟩) x8_1.length co16) y111 := (by rw [hw, Ny111.out]; exact HP19.1); clear HP19; have n0_ := aK (hp_); have n1_ := aK (Kd.R_over' (v := (.slice (some ⟨go16, 0, none⟩) x8_1.length co16)) HO_9.out (Kd.R_typed HO_8.out) (by decide) hg); have n2_ := aK (Kd.R_after (v := (.slice (some ⟨go16, 0, none⟩) x8_1.length co16)) (v1 := (.slice (some ⟨go16, 0, none⟩) x8_1.length co16)) (ok := (fun _ => True)) (by (with_reducible repeat (first | apply rA | apply rN | apply rD)); exact Kd.R_mono HO_10.out (fun _ hk => ⟨trivial, hk⟩)) hg (.inl rfl)); have n3_ := aK ((by rw [hw]; exact below_set (HB.out) GB16.out : Below w.heap.size w w20)); clear HO_8; have HO_8 := n0_; clear n0_; clear HO_9; have HO_9 := n1_; clear n1_; clear HO_10; have HO_10 := n2_; clear n2_; clear HB; have HB := n3_; clear n3_; clear hg hw hp_))
          go_roundg k1
          case measure => have := HK1.out; omega
          case rel => exact ⟨(y111), (wrap64 (x11_1 + 1)), (wrap64 (x25_1 + 1)), rS, rS, H', ⟨by have := HK1.out; omega⟩, ⟨by (with_reducible repeat (first | apply rA | apply rN | apply rD)); exact HO_8.out⟩, ⟨by (with_reducible repeat (first | apply rA | apply rN | apply rD)); exact HO_9.out⟩, ⟨by (with_reducible repeat (first | apply rA | apply rN | apply rD)); exact Kd.R_mono HO_10.out (fun _ hk => hk.2)⟩, ⟨pH HB⟩⟩
         ·replace c18 := Bool.eq_false_iff.mpr c18
          subst c18
          rw [if_neg (show ¬ (false = true) by decide)] at H
          have H' := aK H
          clear H
          have p110 : 0 ≤ (x25_1 : Int) := dA
          have q110 : x25_1 < (l2.length : Int) := dA
          obtain ⟨ad110, e110, hx110_0⟩ := Kd.at_bool HR2.out x25_1 p110 q110
          (try rw [← Nbq17.out] at hx110_0)
          cases e110
          replace hx110_0 := uC HB hx110_0
          replace p110 := eq_true p110
          replace q110 := eq_true q110
          have p16 : 0 ≤ (x25_1 : Int) := dA
          have q16 : (x25_1 : Int) < ((x8_1.length : Int) : Int) := dA
          obtain ⟨go16, co16, eo16, gb16, gl16, cl16, HG16⟩ := Kd.R_form HO_8.out (by omega)
          (first | cases eo16 | (injection eo16 with ea_ en_ ec_; (first | subst ea_ | (injection ea_ with ea_; subst ea_)); subst ec_; clear en_))
          have GB16 := aK gb16
          have GG16 := aK HG16
          clear gb16 gl16 HG16
          obtain ⟨hx16_0, hf16_0⟩ := Kd.R_celln 0 HO_8.out (x25_1 : Int) p16 q16
          replace p16 := eq_true p16
          replace q16 := eq_true q16
          have HP21 := Kd.R_putg HO_8.out (x25_1 : Int) x11_1
          go_wp2_with (first | ((with_reducible refine gate_store (t := 3) (p := 33) rfl ?_); refine store_event (t := 3) (p := 33) (v := ?vo_w22) (w1 := (wr.setCell ⟨go16, (x25_1 : Int).toNat, none⟩ (.int .i64 x11_1))) ?hg ?ho ?hn ?hr ?_; (case ho => rfl); (case hg => rfl); (case hn => rfl); (case hr => first | (go_simp; done) | (go_simp; rfl)); intro w22 hw; have hg : wr.grownBy w22 (some go16) := (by rw [hw]; exact HP21.2); have hp_ : Kd.R (Kd.int .i64) 3 w22 w.heap.size (fun k_ => some k_ ≠ (v108 : Value).ownBlock) (.slice (some ⟨go16, 0, none⟩) x8_1.length co16) y111 := (by rw [hw, Ny111.out]; exact HP21.1); clear HP21; have n0_ := aK (hp_); have n1_ := aK (Kd.R_over' (v := (.slice (some ⟨go16, 0, none⟩) x8_1.length co16)) HO_9.out (Kd.R_typed HO_8.out) (by decide) hg); have n2_ := aK (Kd.R_after (v := (.slice (some ⟨go16, 0, none⟩) x8_1.length co16)) (v1 := (.slice (some ⟨go16, 0, none⟩) x8_1.length co16)) (ok := (fun _ => True)) (by (with_reducible repeat (first | apply rA | apply rN | apply rD)); exact Kd.R_mono HO_10.out (fun _ hk => ⟨trivial, hk⟩)) hg (.inl rfl)); have n3_ := aK ((by rw [hw]; exact below_set (HB.out) GB16.out : Below w.heap.size w w22)); clear HO_8; have HO_8 := n0_; clear n0_; clear HO_9; have HO_9 := n1_; clear n1_; clear HO_10; have HO_10 := n2_; clear n2_; clear HB; have HB := n3_; clear n3_; clear hg hw hp_))
          go_roundg k1
          case measure => have := HK1.out; omega
          case rel => exact ⟨(y111), (x11_1), (wrap64 (x25_1 + 1)), rS, rS, H', ⟨by have := HK1.out; omega⟩, ⟨by (with_reducible repeat (first | apply rA | apply rN | apply rD)); exact HO_8.out⟩, ⟨by (with_reducible repeat (first | apply rA | apply rN | apply rD)); exact HO_9.out⟩, ⟨by (with_reducible repeat (first | apply rA | apply rN | apply rD)); exact Kd.R_mono HO_10.out (fun _ hk => hk.2)⟩, ⟨pH HB⟩⟩
        ·rw [if_neg c15] at H
         exact absurd H (by simp)
       ·rw [if_neg c14] at H
        exact absurd H (by simp)
      ·rw [if_neg c13] at H
       exact absurd H (by simp)
     ·rw [if_neg c12] at H
      have c12b0 : decide (x25_1 < (l2.length : Int)) = false := decide_eq_false c12
      clear c12
      have H' := aK H
      clear H
      go_wp2
      go_loopg [9, 40] k1 (fun kq v9 v40 w' => ∃ (x9_2 : List (S61)) (x40_2 : Int), v40 = .int .i64 x40_2 ∧ Aside0 (impl_kept.l1 kq l1 l2 x8_1 x9_2 y107 l0 (l0.length : Int) x40_2 = some (r1, r2)) ∧ Aside0 (kq ≤ k1) ∧ Aside0 (Kd.R (Kd.int .i64) 3 w' w.heap.size (fun k_ => some k_ ≠ (v108 : Value).ownBlock) v102 x8_1) ∧ Aside0 (Kd.R k61 61 w' w.heap.size (fun _ => True) v9 x9_2) ∧ Aside0 (Kd.R (Kd.int .i64) 3 w' w.heap.size (fun k_ => some k_ ≠ (v102 : Value).ownBlock) v108 y107) ∧ Aside0 (Below w.heap.size w w'))
      case atStart => exact ⟨(y104), (0), rS, H', ⟨Nat.le_refl _⟩, ⟨by (with_reducible repeat (first | apply rA | apply rN | apply rD)); exact HO_8.out⟩, ⟨by (with_reducible repeat (first | apply rA | apply rN | apply rD)); exact HO_9.out⟩, ⟨by (with_reducible repeat (first | apply rA | apply rN | apply rD)); exact HO_10.out⟩, ⟨pH HB⟩⟩
      case round =>
       clear H'
       try clear c1; try clear p1; try clear q1; try clear hx1; try clear c2; try clear p2; try clear c4; try clear c4b0; try clear c4b1; try clear c5; try clear c5b0; try clear c5b1; try clear p6; try clear p11; try clear q11; try clear hx11; try clear c12; try clear c12b0; try clear c13; try clear c13b0; try clear c14; try clear c14b0; try clear c15; try clear c15b0; try clear p16; try clear q16; try clear hx16; try clear hf16; try clear q17; try clear c18; try clear hx110_0; try clear hx16_0; try clear p110; try clear p16; try clear p2; try clear q110; try clear q16
       obtain ⟨x9_2, x40_2, rfl, HA, HK2, HO_8, HO_9, HO_10, HB⟩ := hrel
       cases gk with
       | zero => exact absurd HA.out (by simp [impl_kept.l1])
       | succ k2 =>
        have H := HA.out
        clear HA
        simp only [impl_kept.l1] at H
        by_cases c23 : x40_2 < (l0.length : Int)
        ·rw [if_pos c23] at H
         have c23b0 : decide (x40_2 < (l0.length : Int)) = true := decide_eq_true c23
         clear c23
         by_cases c24 : 0 ≤ x40_2
         ·rw [if_pos c24] at H
          have c24b0 : decide (0 ≤ x40_2) = true := decide_eq_true c24
          clear c24
          by_cases c25 : x40_2 < (l0.length : Int)
          ·rw [if_pos c25] at H
           have c25b0 : decide (x40_2 < (l0.length : Int)) = true := decide_eq_true c25
           clear c25
           by_cases c26 : x40_2 < (l2.length : Int)
           ·rw [if_pos c26] at H
            have c26b0 : decide (x40_2 < (l2.length : Int)) = true := decide_eq_true c26
            clear c26
            obtain ⟨bq27, hbq27⟩ : ∃ b_ : Bool, b_ = (rdOf false l2 x40_2) := ⟨_, rfl⟩
            replace H : (if bq27 = true then (if (rd_T61 l0 x40_2).f0 = true then (if x9_2.length < 4398046511104 then (impl_kept.l1 k2 l1 l2 x8_1 (x9_2 ++ [(⟨(rd_T61 l0 x40_2).f0, (rd_T61 l0 x40_2).f1, (rd_T61 l0 x40_2).f2, (rd_T61 l0 x40_2).f3⟩ : S61)]) y107 l0 (l0.length : Int) (wrap64 (x40_2 + 1))) else (none)) else (if 0 ≤ ((rd_T61 l0 x40_2).f2) then (if ((rd_T61 l0 x40_2).f2) < (x8_1.length : Int) then (if 0 ≤ ((rd_T61 l0 x40_2).f3) then (if ((rd_T61 l0 x40_2).f3) < (x8_1.length : Int) then (if x9_2.length < 4398046511104 then (impl_kept.l1 k2 l1 l2 x8_1 (x9_2 ++ [(⟨(rd_T61 l0 x40_2).f0, (rd_T61 l0 x40_2).f1, rd x8_1 ((rd_T61 l0 x40_2).f2), rd x8_1 ((rd_T61 l0 x40_2).f3)⟩ : S61)]) y107 l0 (l0.length : Int) (wrap64 (x40_2 + 1))) else (none)) else (none)) else (none)) else (none)) else (none))) else (impl_kept.l1 k2 l1 l2 x8_1 x9_2 y107 l0 (l0.length : Int) (wrap64 (x40_2 + 1)))) = some (r1, r2) := by rw [← hbq27] at H; exact H
            have Nbq27 := aK hbq27
            clear hbq27
            by_cases c28 : bq27 = true
            ·subst c28
             rw [if_pos rfl] at H
             obtain ⟨bq29, hbq29⟩ : ∃ b_ : Bool, b_ = ((rd_T61 l0 x40_2).f0) := ⟨_, rfl⟩
             replace H : (if bq29 = true then (if x9_2.length < 4398046511104 then (impl_kept.l1 k2 l1 l2 x8_1 (x9_2 ++ [(⟨bq29, (rd_T61 l0 x40_2).f1, (rd_T61 l0 x40_2).f2, (rd_T61 l0 x40_2).f3⟩ : S61)]) y107 l0 (l0.length : Int) (wrap64 (x40_2 + 1))) else (none)) else (if 0 ≤ ((rd_T61 l0 x40_2).f2) then (if ((rd_T61 l0 x40_2).f2) < (x8_1.length : Int) then (if 0 ≤ ((rd_T61 l0 x40_2).f3) then (if ((rd_T61 l0 x40_2).f3) < (x8_1.length : Int) then (if x9_2.length < 4398046511104 then (impl_kept.l1 k2 l1 l2 x8_1 (x9_2 ++ [(⟨bq29, (rd_T61 l0 x40_2).f1, rd x8_1 ((rd_T61 l0 x40_2).f2), rd x8_1 ((rd_T61 l0 x40_2).f3)⟩ : S61)]) y107 l0 (l0.length : Int) (wrap64 (x40_2 + 1))) else (none)) else (none)) else (none)) else (none)) else (none))) = some (r1, r2) := by rw [← hbq29] at H; exact H
             have Nbq29 := aK hbq29
             clear hbq29
             by_cases c30 : bq29 = true
             ·subst c30
              rw [if_pos rfl] at H
              by_cases c31 : x9_2.length < 4398046511104
              ·rw [if_pos c31] at H
               have LMc31 := aK c31
               clear c31
               obtain ⟨y115, hy115⟩ : ∃ y_ : List (S61), y_ = (x9_2 ++ [(⟨true, (rd_T61 l0 x40_2).f1, (rd_T61 l0 x40_2).f2, (rd_T61 l0 x40_2).f3⟩ : S61)]) := ⟨_, rfl⟩
               replace H : (impl_kept.l1 k2 l1 l2 x8_1 y115 y107 l0 (l0.length : Int) (wrap64 (x40_2 + 1))) = some (r1, r2) := by first | (rw [hy115]; with_reducible exact H) | (have H2_ := (Option.bind_some _ _).symm.trans H; rw [hy115]; with_reducible exact H2_) | (have H2_ := (Option.bind_some _ _).symm.trans H; with_reducible exact H2_) | with_reducible exact H | (rw [hy115]; exact H) | exact H
               have Ny115 := aK hy115
               clear hy115
               have H' := aK H
               clear H
               have p112 : 0 ≤ (x40_2 : Int) := dA
               have q112 : x40_2 < (l0.length : Int) := dA
               obtain ⟨ad112, e112, hx112_0, hx112_1, hx112_2, hx112_3⟩ := at_T61 HR0.out x40_2 p112 q112
               (try rw [← Nbq27.out] at hx112_0)
               (try rw [← Nbq29.out] at hx112_0)
               cases e112
               replace hx112_0 := uC HB hx112_0
               replace hx112_1 := uC HB hx112_1
               replace hx112_2 := uC HB hx112_2
               replace hx112_3 := uC HB hx112_3
               replace p112 := eq_true p112
               replace q112 := eq_true q112
               go_wp2_with (first | ((with_reducible refine gate_dst (N := 15) rfl ?_); refine bE (N := 15) (cs := #[.bool false, .int .i64 0, .int .i64 0, .int .i64 0]) (t := 61) ?_; intro gb113 hg w32 hbox hb; have n0_ := aK (Kd.R_below HO_8.out hb); have n1_ := aK (Kd.R_below (Kd.R_elderB HO_9.out gb113 (Nat.le_of_eq hg.symm)) hb); have n2_ := aK (Kd.R_below HO_10.out hb); have GW113 := qw HB hg; have GE113 := qw HB hg; have BK113 := aK hbox; clear HO_8; have HO_8 := n0_; clear n0_; clear HO_9; have HO_9 := n1_; clear n1_; clear HO_10; have HO_10 := n2_; clear n2_; replace HB := qs HB hb; clear hb hbox hg; have hcz33_0 := kq40 BK113; have hcz33_1 := kq41 BK113; have hcz33_2 := kq42 BK113; have hcz33_3 := kq43 BK113; have hfz33_0 := fz BK113 0; have hfz33_1 := fz BK113 1; have hfz33_2 := fz BK113 2; have hfz33_3 := fz BK113 3; have p114 : 0 ≤ (x40_2 : Int) := dA; have q114 : x40_2 < (l2.length : Int) := dA; obtain ⟨ad114, e114, hx114_0⟩ := Kd.at_bool HR2.out x40_2 p114 q114; (try rw [← Nbq27.out] at hx114_0); (try rw [← Nbq29.out] at hx114_0); cases e114; have hn114_0 : ad114.block ≠ gb113 := nF hx114_0 GW113; have hn114_1 : ad114.block ≠ gb113 := nF hx114_0 GW113; have hn114_2 : ad114.block ≠ gb113 := nF hx114_0 GW113; have hn114_3 : ad114.block ≠ gb113 := nF hx114_0 GW113; replace hx114_0 := uC HB hx114_0; replace hx114_0 := (cell_far (p := ⟨gb113, 0, none⟩) (cB hn114_0) (.bool true)).trans hx114_0; replace hx114_0 := (cell_far (p := ⟨gb113, 1, none⟩) (cB hn114_1) (.int .i64 ((rd_T61 l0 x40_2).f1))).trans hx114_0; replace hx114_0 := (cell_far (p := ⟨gb113, 2, none⟩) (cB hn114_2) (.int .i64 ((rd_T61 l0 x40_2).f2))).trans hx114_0; replace hx114_0 := (cell_far (p := ⟨gb113, 3, none⟩) (cB hn114_3) (.int .i64 ((rd_T61 l0 x40_2).f3))).trans hx114_0; clear hn114_0; clear hn114_1; clear hn114_2; clear hn114_3; replace p114 := eq_true p114; replace q114 := eq_true q114) | ((with_reducible refine gate_builtin (b := .append) (xs := #[.tmp 65, .tmp 67]) rfl ?_); at_builtin; refine Kd.R_append k61 (w0 := w) w.heap.size rfl (.tmp 65) (.tmp 67) 29 61 (.agg #[(.bool false), (.int .i64 0), (.int .i64 0), (.int .i64 0)]) 32 rfl Tryd.underlying29 info61 rfl (by decide) (by omega) u9 x9_2 (⟨true, (rd_T61 l0 x40_2).f1, (rd_T61 l0 x40_2).f2, (rd_T61 l0 x40_2).f3⟩ : S61) [.bool true, .int .i64 ((rd_T61 l0 x40_2).f1), .int .i64 ((rd_T61 l0 x40_2).f2), .int .i64 ((rd_T61 l0 x40_2).f3)] (fun k_ => k_ ≠ gb113) (fun _ => False) rfl (by first | (go_simp; done) | (go_simp; rfl)) ?aP (fun _ hk => hk.elim) ?aF ?aO ?aB ?aS ?aL ?_; (case aP => exact k61_mkM _ _ _ (⟨true, (rd_T61 l0 x40_2).f1, (rd_T61 l0 x40_2).f2, (rd_T61 l0 x40_2).f3⟩ : S61)); (case aB => exact (pH HB)); (case aF => exact (fun k_ hk => Kd.freshB (g := gb113) (o := .cells #[.bool true, .int .i64 ((rd_T61 l0 x40_2).f1), .int .i64 ((rd_T61 l0 x40_2).f2), .int .i64 ((rd_T61 l0 x40_2).f3)] 61 (0, 0)) (by (with_reducible repeat first | apply zN | apply zD | apply zA); refine blk_put (cs := #[.bool true, .int .i64 ((rd_T61 l0 x40_2).f1), .int .i64 ((rd_T61 l0 x40_2).f2), .int .i64 0]) ?_ 3 _ rfl; (with_reducible repeat first | apply zN | apply zD | apply zA); refine blk_put (cs := #[.bool true, .int .i64 ((rd_T61 l0 x40_2).f1), .int .i64 0, .int .i64 0]) ?_ 2 _ rfl; (with_reducible repeat first | apply zN | apply zD | apply zA); refine blk_put (cs := #[.bool true, .int .i64 0, .int .i64 0, .int .i64 0]) ?_ 1 _ rfl; (with_reducible repeat first | apply zN | apply zD | apply zA); refine blk_put (cs := #[.bool false, .int .i64 0, .int .i64 0, .int .i64 0]) ?_ 0 _ rfl; (with_reducible repeat first | apply zN | apply zD | apply zA); exact BK113.out) k_ hk)); (case aO => exact (by (with_reducible repeat (first | apply rA | apply rN | apply rD)); exact Kd.R_mono (Kd.R_far (p := ⟨gb113, 3, none⟩) (Kd.R_far (p := ⟨gb113, 2, none⟩) (Kd.R_far (p := ⟨gb113, 1, none⟩) (Kd.R_far (p := ⟨gb113, 0, none⟩) (Kd.R_mono HO_9.out (fun k_ hk => (⟨hk, hk.2⟩ : _ ∧ k_ ≠ gb113))) (fun _ hk => hk.2) (.bool true)) (fun _ hk => hk.2) (.int .i64 ((rd_T61 l0 x40_2).f1))) (fun _ hk => hk.2) (.int .i64 ((rd_T61 l0 x40_2).f2))) (fun _ hk => hk.2) (.int .i64 ((rd_T61 l0 x40_2).f3))) (fun _ hk => hk.1.2))); (case aS => exact (below_size (pH HB))); (case aL => have := LMc31.out; omega); intro v116 w34 ho hb hg hat; rw [← Ny115.out] at ho; have n_ := aJ (aK (Kd.R_over' (by (with_reducible repeat (first | apply rA | apply rN | apply rD)); exact (Kd.R_mono (Kd.R_far (p := ⟨gb113, 3, none⟩) (Kd.R_far (p := ⟨gb113, 2, none⟩) (Kd.R_far (p := ⟨gb113, 1, none⟩) (Kd.R_far (p := ⟨gb113, 0, none⟩) (Kd.R_types HO_8.out BK113.out (by decide)) (fun _ hk => hk.2) (.bool true)) (fun _ hk => hk.2) (.int .i64 ((rd_T61 l0 x40_2).f1))) (fun _ hk => hk.2) (.int .i64 ((rd_T61 l0 x40_2).f2))) (fun _ hk => hk.2) (.int .i64 ((rd_T61 l0 x40_2).f3))) (fun _ h_ => h_.1))) (Kd.R_typed (by (with_reducible repeat (first | apply rA | apply rN | apply rD)); exact (Kd.R_mono (Kd.R_far (p := ⟨gb113, 3, none⟩) (Kd.R_far (p := ⟨gb113, 2, none⟩) (Kd.R_far (p := ⟨gb113, 1, none⟩) (Kd.R_far (p := ⟨gb113, 0, none⟩) (Kd.R_mono HO_9.out (fun k_ hk => (⟨hk, hk.2⟩ : _ ∧ k_ ≠ gb113))) (fun _ hk => hk.2) (.bool true)) (fun _ hk => hk.2) (.int .i64 ((rd_T61 l0 x40_2).f1))) (fun _ hk => hk.2) (.int .i64 ((rd_T61 l0 x40_2).f2))) (fun _ hk => hk.2) (.int .i64 ((rd_T61 l0 x40_2).f3))) (fun _ h_ => h_.1)))) (by decide) hg)) (aJ (aK (Kd.R_over' (by (with_reducible repeat (first | apply rA | apply rN | apply rD)); exact (Kd.R_mono (Kd.R_far (p := ⟨gb113, 3, none⟩) (Kd.R_far (p := ⟨gb113, 2, none⟩) (Kd.R_far (p := ⟨gb113, 1, none⟩) (Kd.R_far (p := ⟨gb113, 0, none⟩) (Kd.R_types HO_10.out BK113.out (by decide)) (fun _ hk => hk.2) (.bool true)) (fun _ hk => hk.2) (.int .i64 ((rd_T61 l0 x40_2).f1))) (fun _ hk => hk.2) (.int .i64 ((rd_T61 l0 x40_2).f2))) (fun _ hk => hk.2) (.int .i64 ((rd_T61 l0 x40_2).f3))) (fun _ h_ => h_.1))) (Kd.R_typed (by (with_reducible repeat (first | apply rA | apply rN | apply rD)); exact (Kd.R_mono (Kd.R_far (p := ⟨gb113, 3, none⟩) (Kd.R_far (p := ⟨gb113, 2, none⟩) (Kd.R_far (p := ⟨gb113, 1, none⟩) (Kd.R_far (p := ⟨gb113, 0, none⟩) (Kd.R_mono HO_9.out (fun k_ hk => (⟨hk, hk.2⟩ : _ ∧ k_ ≠ gb113))) (fun _ hk => hk.2) (.bool true)) (fun _ hk => hk.2) (.int .i64 ((rd_T61 l0 x40_2).f1))) (fun _ hk => hk.2) (.int .i64 ((rd_T61 l0 x40_2).f2))) (fun _ hk => hk.2) (.int .i64 ((rd_T61 l0 x40_2).f3))) (fun _ h_ => h_.1)))) (by decide) hg)) (aJ (aK (blk_grown (g := gb113) (o := .cells #[.bool true, .int .i64 ((rd_T61 l0 x40_2).f1), .int .i64 ((rd_T61 l0 x40_2).f2), .int .i64 ((rd_T61 l0 x40_2).f3)] 61 (0, 0)) (by (with_reducible repeat first | apply zN | apply zD | apply zA); refine blk_put (cs := #[.bool true, .int .i64 ((rd_T61 l0 x40_2).f1), .int .i64 ((rd_T61 l0 x40_2).f2), .int .i64 0]) ?_ 3 _ rfl; (with_reducible repeat first | apply zN | apply zD | apply zA); refine blk_put (cs := #[.bool true, .int .i64 ((rd_T61 l0 x40_2).f1), .int .i64 0, .int .i64 0]) ?_ 2 _ rfl; (with_reducible repeat first | apply zN | apply zD | apply zA); refine blk_put (cs := #[.bool true, .int .i64 0, .int .i64 0, .int .i64 0]) ?_ 1 _ rfl; (with_reducible repeat first | apply zN | apply zD | apply zA); refine blk_put (cs := #[.bool false, .int .i64 0, .int .i64 0, .int .i64 0]) ?_ 0 _ rfl; (with_reducible repeat first | apply zN | apply zD | apply zA); exact BK113.out) hg (Kd.R_away HO_9.out (fun _ hk => hk.2)))) (aJ (aK (hb)) (aK (ho))))); clear HO_8 HO_10 BK113 HB HO_9; obtain ⟨HO_8, HO_10, BK113, HB, HO117⟩ := n_; clear ho hb hg hat))
               go_roundg k2
               case measure => have := HK1.out; have := HK2.out; omega
               case rel => exact ⟨(y115), (wrap64 (x40_2 + 1)), rS, H', ⟨by have := HK1.out; have := HK2.out; omega⟩, ⟨by (with_reducible repeat (first | apply rA | apply rN | apply rD)); exact HO_8.out⟩, ⟨by (with_reducible repeat (first | apply rA | apply rN | apply rD)); exact Kd.R_mono HO117.out (fun _ hk => trivial)⟩, ⟨by (with_reducible repeat (first | apply rA | apply rN | apply rD)); exact HO_10.out⟩, ⟨pH HB⟩⟩
              ·rw [if_neg c31] at H
               exact absurd H (by simp)
             ·replace c30 := Bool.eq_false_iff.mpr c30
              subst c30
              rw [if_neg (show ¬ (false = true) by decide)] at H
              by_cases c35 : 0 ≤ ((rd_T61 l0 x40_2).f2)
              ·rw [if_pos c35] at H
               have c35b0 : decide (0 ≤ ((rd_T61 l0 x40_2).f2)) = true := decide_eq_true c35
               clear c35
               by_cases c36 : ((rd_T61 l0 x40_2).f2) < (x8_1.length : Int)
               ·rw [if_pos c36] at H
                have c36b0 : decide (((rd_T61 l0 x40_2).f2) < (x8_1.length : Int)) = true := decide_eq_true c36
                clear c36
                by_cases c37 : 0 ≤ ((rd_T61 l0 x40_2).f3)
                ·rw [if_pos c37] at H
                 have c37b0 : decide (0 ≤ ((rd_T61 l0 x40_2).f3)) = true := decide_eq_true c37
                 clear c37
                 by_cases c38 : ((rd_T61 l0 x40_2).f3) < (x8_1.length : Int)
                 ·rw [if_pos c38] at H
                  have c38b0 : decide (((rd_T61 l0 x40_2).f3) < (x8_1.length : Int)) = true := decide_eq_true c38
                  clear c38
                  by_cases c39 : x9_2.length < 4398046511104
                  ·rw [if_pos c39] at H
                   have LMc39 := aK c39
                   clear c39
                   obtain ⟨y120, hy120⟩ : ∃ y_ : List (S61), y_ = (x9_2 ++ [(⟨false, (rd_T61 l0 x40_2).f1, rd x8_1 ((rd_T61 l0 x40_2).f2), rd x8_1 ((rd_T61 l0 x40_2).f3)⟩ : S61)]) := ⟨_, rfl⟩
                   replace H : (impl_kept.l1 k2 l1 l2 x8_1 y120 y107 l0 (l0.length : Int) (wrap64 (x40_2 + 1))) = some (r1, r2) := by first | (rw [hy120]; with_reducible exact H) | (have H2_ := (Option.bind_some _ _).symm.trans H; rw [hy120]; with_reducible exact H2_) | (have H2_ := (Option.bind_some _ _).symm.trans H; with_reducible exact H2_) | with_reducible exact H | (rw [hy120]; exact H) | exact H
                   have Ny120 := aK hy120
                   clear hy120
                   have H' := aK H
                   clear H
                   have p112 : 0 ≤ (x40_2 : Int) := dA
                   have q112 : x40_2 < (l0.length : Int) := dA
                   obtain ⟨ad112, e112, hx112_0, hx112_1, hx112_2, hx112_3⟩ := at_T61 HR0.out x40_2 p112 q112
                   (try rw [← Nbq27.out] at hx112_0)
                   (try rw [← Nbq29.out] at hx112_0)
                   cases e112
                   replace hx112_0 := uC HB hx112_0
                   replace hx112_1 := uC HB hx112_1
                   replace hx112_2 := uC HB hx112_2
                   replace hx112_3 := uC HB hx112_3
                   replace p112 := eq_true p112
                   replace q112 := eq_true q112
                   go_wp2_with (first | ((with_reducible refine gate_dst (N := 15) rfl ?_); refine bE (N := 15) (cs := #[.bool false, .int .i64 0, .int .i64 0, .int .i64 0]) (t := 61) ?_; intro gb113 hg w40 hbox hb; have n0_ := aK (Kd.R_below HO_8.out hb); have n1_ := aK (Kd.R_below (Kd.R_elderB HO_9.out gb113 (Nat.le_of_eq hg.symm)) hb); have n2_ := aK (Kd.R_below HO_10.out hb); have GW113 := qw HB hg; have GE113 := qw HB hg; have BK113 := aK hbox; clear HO_8; have HO_8 := n0_; clear n0_; clear HO_9; have HO_9 := n1_; clear n1_; clear HO_10; have HO_10 := n2_; clear n2_; replace HB := qs HB hb; clear hb hbox hg; have hcz41_0 := kq40 BK113; have hcz41_1 := kq41 BK113; have hcz41_2 := kq42 BK113; have hcz41_3 := kq43 BK113; have hfz41_0 := fz BK113 0; have hfz41_1 := fz BK113 1; have hfz41_2 := fz BK113 2; have hfz41_3 := fz BK113 3; have p114 : 0 ≤ (x40_2 : Int) := dA; have q114 : x40_2 < (l2.length : Int) := dA; obtain ⟨ad114, e114, hx114_0⟩ := Kd.at_bool HR2.out x40_2 p114 q114; (try rw [← Nbq27.out] at hx114_0); (try rw [← Nbq29.out] at hx114_0); cases e114; have hn114_0 : ad114.block ≠ gb113 := nF hx114_0 GW113; have hn114_1 : ad114.block ≠ gb113 := nF hx114_0 GW113; have hn114_2 : ad114.block ≠ gb113 := nF hx114_0 GW113; have hn114_3 : ad114.block ≠ gb113 := nF hx114_0 GW113; replace hx114_0 := uC HB hx114_0; replace hx114_0 := (cell_far (p := ⟨gb113, 0, none⟩) (cB hn114_0) (.bool false)).trans hx114_0; replace hx114_0 := (cell_far (p := ⟨gb113, 1, none⟩) (cB hn114_1) (.int .i64 ((rd_T61 l0 x40_2).f1))).trans hx114_0; replace hx114_0 := (cell_far (p := ⟨gb113, 2, none⟩) (cB hn114_2) (.int .i64 ((rd_T61 l0 x40_2).f2))).trans hx114_0; replace hx114_0 := (cell_far (p := ⟨gb113, 3, none⟩) (cB hn114_3) (.int .i64 ((rd_T61 l0 x40_2).f3))).trans hx114_0; clear hn114_0; clear hn114_1; clear hn114_2; clear hn114_3; replace p114 := eq_true p114; replace q114 := eq_true q114; obtain ⟨Ao42, co42, eo42⟩ := Kd.R_slice HO_8.out; subst eo42; have p118 : 0 ≤ (((rd_T61 l0 x40_2).f2) : Int) := dA; have q118 : ((rd_T61 l0 x40_2).f2) < (x8_1.length : Int) := dA; obtain ⟨ad118, e118, hx118_0⟩ := Kd.at_int (Kd.R_reads' HO_8.out).2.2 ((rd_T61 l0 x40_2).f2) p118 q118; cases e118; have hn118_0 : ad118.block ≠ gb113 := Kd.own_blk (Kd.R_ne HO_8.out BK113.out (by decide)); have hn118_1 : ad118.block ≠ gb113 := Kd.own_blk (Kd.R_ne HO_8.out BK113.out (by decide)); have hn118_2 : ad118.block ≠ gb113 := Kd.own_blk (Kd.R_ne HO_8.out BK113.out (by decide)); have hn118_3 : ad118.block ≠ gb113 := Kd.own_blk (Kd.R_ne HO_8.out BK113.out (by decide)); replace hx118_0 := (cell_far (p := ⟨gb113, 0, none⟩) (cB hn118_0) (.bool false)).trans hx118_0; replace hx118_0 := (cell_far (p := ⟨gb113, 1, none⟩) (cB hn118_1) (.int .i64 ((rd_T61 l0 x40_2).f1))).trans hx118_0; replace hx118_0 := (cell_far (p := ⟨gb113, 2, none⟩) (cB hn118_2) (.int .i64 ((rd_T61 l0 x40_2).f2))).trans hx118_0; replace hx118_0 := (cell_far (p := ⟨gb113, 3, none⟩) (cB hn118_3) (.int .i64 ((rd_T61 l0 x40_2).f3))).trans hx118_0; clear hn118_0; clear hn118_1; clear hn118_2; clear hn118_3; replace p118 := eq_true p118; replace q118 := eq_true q118; have p119 : 0 ≤ (((rd_T61 l0 x40_2).f3) : Int) := dA; have q119 : ((rd_T61 l0 x40_2).f3) < (x8_1.length : Int) := dA; obtain ⟨ad119, e119, hx119_0⟩ := Kd.at_int (Kd.R_reads' HO_8.out).2.2 ((rd_T61 l0 x40_2).f3) p119 q119; obtain rfl : ad118 = ad119 := (by injection e119); have hn119_0 : ad118.block ≠ gb113 := Kd.own_blk (Kd.R_ne HO_8.out BK113.out (by decide)); have hn119_1 : ad118.block ≠ gb113 := Kd.own_blk (Kd.R_ne HO_8.out BK113.out (by decide)); have hn119_2 : ad118.block ≠ gb113 := Kd.own_blk (Kd.R_ne HO_8.out BK113.out (by decide)); have hn119_3 : ad118.block ≠ gb113 := Kd.own_blk (Kd.R_ne HO_8.out BK113.out (by decide)); replace hx119_0 := (cell_far (p := ⟨gb113, 0, none⟩) (cB hn119_0) (.bool false)).trans hx119_0; replace hx119_0 := (cell_far (p := ⟨gb113, 1, none⟩) (cB hn119_1) (.int .i64 ((rd_T61 l0 x40_2).f1))).trans hx119_0; replace hx119_0 := (cell_far (p := ⟨gb113, 2, none⟩) (cB hn119_2) (.int .i64 ((rd_T61 l0 x40_2).f2))).trans hx119_0; replace hx119_0 := (cell_far (p := ⟨gb113, 3, none⟩) (cB hn119_3) (.int .i64 ((rd_T61 l0 x40_2).f3))).trans hx119_0; clear hn119_0; clear hn119_1; clear hn119_2; clear hn119_3; replace p119 := eq_true p119; replace q119 := eq_true q119))
                   have hne_ : ad118.block ≠ gb113 := Kd.own_blk (Kd.R_ne HO_8.out BK113.out (by decide))
                   have hx119_9 := (cell_far (p := ⟨gb113, 2, none⟩) (cB hne_) (.int .i64 (rd x8_1 ((rd_T61 l0 x40_2).f2)))).trans hx119_0
                   go_region
                   clear hne_ hx119_9 hx114_0 hx118_0 hx119_0
                   have n0_ := aK (Kd.R_drew HO_8.out)
                   have n1_ := aK (Kd.R_drew HO_9.out)
                   have n2_ := aK (Kd.R_drew HO_10.out)
                   have n3_ := aK (below_drew1 HB.out)
                   have n4_ := aK (blk_drew BK113.out)
                   clear HO_8 HO_9 HO_10 HB BK113 hcz41_0 hcz41_1 hcz41_2 hcz41_3 hfz41_0 hfz41_1 hfz41_2 hfz41_3
                   have ew_ : ∀ (W : World) (p1 p2 p3 p4 p5 p6 : Addr) (v1 v2 v3 v4 v5 v6 : Value), ((((((W.setCell p1 v1).setCell p2 v2).setCell p3 v3).setCell p4 v4).setCell p5 v5).setCell p6 v6).drew = ((((((W.drew.setCell p1 v1).setCell p2 v2).setCell p3 v3).setCell p4 v4).setCell p5 v5).setCell p6 v6) := fun _ _ _ _ _ _ _ _ _ _ _ _ _ => by simp only [World.setCell_drew]
                   rw [ew_]
                   clear ew_
                   generalize w40.drew = w41 at n0_ n1_ n2_ n3_ n4_ ⊢
                   have HO_8 := n0_
                   have HO_9 := n1_
                   have HO_10 := n2_
                   have HB := n3_
                   have BK113 := n4_
                   clear n0_ n1_ n2_ n3_ n4_
                   have n0_ : Aside0 (Kd.R (Kd.int .i64) 3 ((((((w41.setCell ⟨gb113, 0, none⟩ (.bool false)).setCell ⟨gb113, 1, none⟩ (.int .i64 ((rd_T61 l0 x40_2).f1))).setCell ⟨gb113, 2, none⟩ (.int .i64 ((rd_T61 l0 x40_2).f2))).setCell ⟨gb113, 3, none⟩ (.int .i64 ((rd_T61 l0 x40_2).f3))).setCell ⟨gb113, 2, none⟩ (.int .i64 (rd x8_1 ((rd_T61 l0 x40_2).f2)))).setCell ⟨gb113, 3, none⟩ (.int .i64 (rd x8_1 ((rd_T61 l0 x40_2).f3)))) w.heap.size (fun k_ => some k_ ≠ v108.ownBlock) (.slice (some ad118) x8_1.length co42) x8_1) := ⟨(Kd.R_mono (Kd.R_far (p := ⟨gb113, 3, none⟩) (Kd.R_far (p := ⟨gb113, 2, none⟩) (Kd.R_far (p := ⟨gb113, 3, none⟩) (Kd.R_far (p := ⟨gb113, 2, none⟩) (Kd.R_far (p := ⟨gb113, 1, none⟩) (Kd.R_far (p := ⟨gb113, 0, none⟩) (Kd.R_types HO_8.out BK113.out (by decide)) (fun _ hk => hk.2) (.bool false)) (fun _ hk => hk.2) (.int .i64 ((rd_T61 l0 x40_2).f1))) (fun _ hk => hk.2) (.int .i64 ((rd_T61 l0 x40_2).f2))) (fun _ hk => hk.2) (.int .i64 ((rd_T61 l0 x40_2).f3))) (fun _ hk => hk.2) (.int .i64 (rd x8_1 ((rd_T61 l0 x40_2).f2)))) (fun _ hk => hk.2) (.int .i64 (rd x8_1 ((rd_T61 l0 x40_2).f3)))) (fun _ h_ => h_.1))⟩
                   have n1_ : Aside0 (Kd.R k61 61 ((((((w41.setCell ⟨gb113, 0, none⟩ (.bool false)).setCell ⟨gb113, 1, none⟩ (.int .i64 ((rd_T61 l0 x40_2).f1))).setCell ⟨gb113, 2, none⟩ (.int .i64 ((rd_T61 l0 x40_2).f2))).setCell ⟨gb113, 3, none⟩ (.int .i64 ((rd_T61 l0 x40_2).f3))).setCell ⟨gb113, 2, none⟩ (.int .i64 (rd x8_1 ((rd_T61 l0 x40_2).f2)))).setCell ⟨gb113, 3, none⟩ (.int .i64 (rd x8_1 ((rd_T61 l0 x40_2).f3)))) w.heap.size (fun k_ => True ∧ k_ ≠ gb113) u9 x9_2) := ⟨(Kd.R_mono (Kd.R_far (p := ⟨gb113, 3, none⟩) (Kd.R_far (p := ⟨gb113, 2, none⟩) (Kd.R_far (p := ⟨gb113, 3, none⟩) (Kd.R_far (p := ⟨gb113, 2, none⟩) (Kd.R_far (p := ⟨gb113, 1, none⟩) (Kd.R_far (p := ⟨gb113, 0, none⟩) (Kd.R_mono HO_9.out (fun k_ hk => (⟨hk, hk.2⟩ : _ ∧ k_ ≠ gb113))) (fun _ hk => hk.2) (.bool false)) (fun _ hk => hk.2) (.int .i64 ((rd_T61 l0 x40_2).f1))) (fun _ hk => hk.2) (.int .i64 ((rd_T61 l0 x40_2).f2))) (fun _ hk => hk.2) (.int .i64 ((rd_T61 l0 x40_2).f3))) (fun _ hk => hk.2) (.int .i64 (rd x8_1 ((rd_T61 l0 x40_2).f2)))) (fun _ hk => hk.2) (.int .i64 (rd x8_1 ((rd_T61 l0 x40_2).f3)))) (fun _ h_ => h_.1))⟩
                   have n2_ : Aside0 (Kd.R (Kd.int .i64) 3 ((((((w41.setCell ⟨gb113, 0, none⟩ (.bool false)).setCell ⟨gb113, 1, none⟩ (.int .i64 ((rd_T61 l0 x40_2).f1))).setCell ⟨gb113, 2, none⟩ (.int .i64 ((rd_T61 l0 x40_2).f2))).setCell ⟨gb113, 3, none⟩ (.int .i64 ((rd_T61 l0 x40_2).f3))).setCell ⟨gb113, 2, none⟩ (.int .i64 (rd x8_1 ((rd_T61 l0 x40_2).f2)))).setCell ⟨gb113, 3, none⟩ (.int .i64 (rd x8_1 ((rd_T61 l0 x40_2).f3)))) w.heap.size (fun k_ => some k_ ≠ (.slice (some ad118) x8_1.length co42 : Value).ownBlock) v108 y107) := ⟨(Kd.R_mono (Kd.R_far (p := ⟨gb113, 3, none⟩) (Kd.R_far (p := ⟨gb113, 2, none⟩) (Kd.R_far (p := ⟨gb113, 3, none⟩) (Kd.R_far (p := ⟨gb113, 2, none⟩) (Kd.R_far (p := ⟨gb113, 1, none⟩) (Kd.R_far (p := ⟨gb113, 0, none⟩) (Kd.R_types HO_10.out BK113.out (by decide)) (fun _ hk => hk.2) (.bool false)) (fun _ hk => hk.2) (.int .i64 ((rd_T61 l0 x40_2).f1))) (fun _ hk => hk.2) (.int .i64 ((rd_T61 l0 x40_2).f2))) (fun _ hk => hk.2) (.int .i64 ((rd_T61 l0 x40_2).f3))) (fun _ hk => hk.2) (.int .i64 (rd x8_1 ((rd_T61 l0 x40_2).f2)))) (fun _ hk => hk.2) (.int .i64 (rd x8_1 ((rd_T61 l0 x40_2).f3)))) (fun _ h_ => h_.1))⟩
                   have n3_ : Aside0 (Below w.heap.size w ((((((w41.setCell ⟨gb113, 0, none⟩ (.bool false)).setCell ⟨gb113, 1, none⟩ (.int .i64 ((rd_T61 l0 x40_2).f1))).setCell ⟨gb113, 2, none⟩ (.int .i64 ((rd_T61 l0 x40_2).f2))).setCell ⟨gb113, 3, none⟩ (.int .i64 ((rd_T61 l0 x40_2).f3))).setCell ⟨gb113, 2, none⟩ (.int .i64 (rd x8_1 ((rd_T61 l0 x40_2).f2)))).setCell ⟨gb113, 3, none⟩ (.int .i64 (rd x8_1 ((rd_T61 l0 x40_2).f3))))) := ⟨(below_set (below_set (below_set (below_set (below_set (below_set HB.out GE113.out) GE113.out) GE113.out) GE113.out) GE113.out) GE113.out)⟩
                   have n4_ : Aside0 (((((((w41.setCell ⟨gb113, 0, none⟩ (.bool false)).setCell ⟨gb113, 1, none⟩ (.int .i64 ((rd_T61 l0 x40_2).f1))).setCell ⟨gb113, 2, none⟩ (.int .i64 ((rd_T61 l0 x40_2).f2))).setCell ⟨gb113, 3, none⟩ (.int .i64 ((rd_T61 l0 x40_2).f3))).setCell ⟨gb113, 2, none⟩ (.int .i64 (rd x8_1 ((rd_T61 l0 x40_2).f2)))).setCell ⟨gb113, 3, none⟩ (.int .i64 (rd x8_1 ((rd_T61 l0 x40_2).f3)))).heap[gb113]? = some (.cells #[.bool false, .int .i64 ((rd_T61 l0 x40_2).f1), .int .i64 (rd x8_1 ((rd_T61 l0 x40_2).f2)), .int .i64 (rd x8_1 ((rd_T61 l0 x40_2).f3))] 61 (0, 0))) := ⟨by refine blk_put (cs := #[.bool false, .int .i64 ((rd_T61 l0 x40_2).f1), .int .i64 (rd x8_1 ((rd_T61 l0 x40_2).f2)), .int .i64 ((rd_T61 l0 x40_2).f3)]) ?_ 3 _ rfl; refine blk_put (cs := #[.bool false, .int .i64 ((rd_T61 l0 x40_2).f1), .int .i64 ((rd_T61 l0 x40_2).f2), .int .i64 ((rd_T61 l0 x40_2).f3)]) ?_ 2 _ rfl; refine blk_put (cs := #[.bool false, .int .i64 ((rd_T61 l0 x40_2).f1), .int .i64 ((rd_T61 l0 x40_2).f2), .int .i64 0]) ?_ 3 _ rfl; refine blk_put (cs := #[.bool false, .int .i64 ((rd_T61 l0 x40_2).f1), .int .i64 0, .int .i64 0]) ?_ 2 _ rfl; refine blk_put (cs := #[.bool false, .int .i64 0, .int .i64 0, .int .i64 0]) ?_ 1 _ rfl; refine blk_put (cs := #[.bool false, .int .i64 0, .int .i64 0, .int .i64 0]) ?_ 0 _ rfl; exact BK113.out⟩
                   clear HO_8 HO_9 HO_10 HB BK113
                   generalize ((((((w41.setCell ⟨gb113, 0, none⟩ (.bool false)).setCell ⟨gb113, 1, none⟩ (.int .i64 ((rd_T61 l0 x40_2).f1))).setCell ⟨gb113, 2, none⟩ (.int .i64 ((rd_T61 l0 x40_2).f2))).setCell ⟨gb113, 3, none⟩ (.int .i64 ((rd_T61 l0 x40_2).f3))).setCell ⟨gb113, 2, none⟩ (.int .i64 (rd x8_1 ((rd_T61 l0 x40_2).f2)))).setCell ⟨gb113, 3, none⟩ (.int .i64 (rd x8_1 ((rd_T61 l0 x40_2).f3)))) = w42 at n0_ n1_ n2_ n3_ n4_ ⊢
                   have HO_8 := n0_
                   have HO_9 := n1_
                   have HO_10 := n2_
                   have HB := n3_
                   have BK113 := n4_
                   clear n0_ n1_ n2_ n3_ n4_
                   have hcz0_ : w42.cell? ⟨gb113, 0, none⟩ = some (.bool false) := (blk_cell BK113.out 0).trans rfl
                   have hcz1_ : w42.cell? ⟨gb113, 1, none⟩ = some (.int .i64 ((rd_T61 l0 x40_2).f1)) := (blk_cell BK113.out 1).trans rfl
                   have hcz2_ : w42.cell? ⟨gb113, 2, none⟩ = some (.int .i64 (rd x8_1 ((rd_T61 l0 x40_2).f2))) := (blk_cell BK113.out 2).trans rfl
                   have hcz3_ : w42.cell? ⟨gb113, 3, none⟩ = some (.int .i64 (rd x8_1 ((rd_T61 l0 x40_2).f3))) := (blk_cell BK113.out 3).trans rfl
                   go_wp2_with (first | ((with_reducible refine gate_builtin (b := .append) (xs := #[.tmp 65, .tmp 67]) rfl ?_); at_builtin; refine Kd.R_append k61 (w0 := w) w.heap.size rfl (.tmp 65) (.tmp 67) 29 61 (.agg #[(.bool false), (.int .i64 0), (.int .i64 0), (.int .i64 0)]) 32 rfl Tryd.underlying29 info61 rfl (by decide) (by omega) u9 x9_2 (⟨false, (rd_T61 l0 x40_2).f1, rd x8_1 ((rd_T61 l0 x40_2).f2), rd x8_1 ((rd_T61 l0 x40_2).f3)⟩ : S61) [.bool false, .int .i64 ((rd_T61 l0 x40_2).f1), .int .i64 (rd x8_1 ((rd_T61 l0 x40_2).f2)), .int .i64 (rd x8_1 ((rd_T61 l0 x40_2).f3))] (fun k_ => k_ ≠ gb113) (fun _ => False) rfl (by first | (go_simp; done) | (go_simp; rfl)) ?aP (fun _ hk => hk.elim) ?aF ?aO ?aB ?aS ?aL ?_; (case aP => exact k61_mkM _ _ _ (⟨false, (rd_T61 l0 x40_2).f1, rd x8_1 ((rd_T61 l0 x40_2).f2), rd x8_1 ((rd_T61 l0 x40_2).f3)⟩ : S61)); (case aB => exact HB.out); (case aF => exact (fun k_ hk => Kd.freshB BK113.out k_ hk)); (case aO => exact (by (with_reducible repeat (first | apply rA | apply rN | apply rD)); exact Kd.R_mono HO_9.out (fun _ hk => hk.2))); (case aS => exact (below_size HB.out)); (case aL => have := LMc39.out; omega); intro v121 w43 ho hb hg hat; rw [← Ny120.out] at ho; have n0_ := aK (Kd.R_over' HO_8.out (Kd.R_typed HO_9.out) (by decide) hg); have n1_ := aK (Kd.R_over' HO_10.out (Kd.R_typed HO_9.out) (by decide) hg); have n2_ := aK (blk_grown BK113.out hg (Kd.R_away HO_9.out (fun _ hk => hk.2))); have n3_ := aK (hb); have HO122 := aK (ho); clear HO_8; have HO_8 := n0_; clear n0_; clear HO_10; have HO_10 := n1_; clear n1_; clear BK113; have BK113 := n2_; clear n2_; clear HB; have HB := n3_; clear n3_; clear HO_9; clear ho hb hg hat))
                   go_roundg k2
                   case measure => have := HK1.out; have := HK2.out; omega
                   case rel => exact ⟨(y120), (wrap64 (x40_2 + 1)), rS, H', ⟨by have := HK1.out; have := HK2.out; omega⟩, ⟨by (with_reducible repeat (first | apply rA | apply rN | apply rD)); exact HO_8.out⟩, ⟨by (with_reducible repeat (first | apply rA | apply rN | apply rD)); exact Kd.R_mono HO122.out (fun _ hk => trivial)⟩, ⟨by (with_reducible repeat (first | apply rA | apply rN | apply rD)); exact HO_10.out⟩, ⟨pH HB⟩⟩
                  ·rw [if_neg c39] at H
                   exact absurd H (by simp)
                 ·rw [if_neg c38] at H
                  exact absurd H (by simp)
                ·rw [if_neg c37] at H
                 exact absurd H (by simp)
               ·rw [if_neg c36] at H
                exact absurd H (by simp)
              ·rw [if_neg c35] at H
               exact absurd H (by simp)
            ·replace c28 := Bool.eq_false_iff.mpr c28
             subst c28
             rw [if_neg (show ¬ (false = true) by decide)] at H
             have H' := aK H
             clear H
             have p112 : 0 ≤ (x40_2 : Int) := dA
             have q112 : x40_2 < (l0.length : Int) := dA
             obtain ⟨ad112, e112, hx112_0, hx112_1, hx112_2, hx112_3⟩ := at_T61 HR0.out x40_2 p112 q112
             (try rw [← Nbq27.out] at hx112_0)
             cases e112
             replace hx112_0 := uC HB hx112_0
             replace hx112_1 := uC HB hx112_1
             replace hx112_2 := uC HB hx112_2
             replace hx112_3 := uC HB hx112_3
             replace p112 := eq_true p112
             replace q112 := eq_true q112
             go_wp2_with (first | ((with_reducible refine gate_dst (N := 15) rfl ?_); refine bE (N := 15) (cs := #[.bool false, .int .i64 0, .int .i64 0, .int .i64 0]) (t := 61) ?_; intro gb113 hg w44 hbox hb; have n0_ := aK (Kd.R_below HO_8.out hb); have n1_ := aK (Kd.R_below (Kd.R_elderB HO_9.out gb113 (Nat.le_of_eq hg.symm)) hb); have n2_ := aK (Kd.R_below HO_10.out hb); have GW113 := qw HB hg; have GE113 := qw HB hg; have BK113 := aK hbox; clear HO_8; have HO_8 := n0_; clear n0_; clear HO_9; have HO_9 := n1_; clear n1_; clear HO_10; have HO_10 := n2_; clear n2_; replace HB := qs HB hb; clear hb hbox hg; have hcz45_0 := kq40 BK113; have hcz45_1 := kq41 BK113; have hcz45_2 := kq42 BK113; have hcz45_3 := kq43 BK113; have hfz45_0 := fz BK113 0; have hfz45_1 := fz BK113 1; have hfz45_2 := fz BK113 2; have hfz45_3 := fz BK113 3; have p114 : 0 ≤ (x40_2 : Int) := dA; have q114 : x40_2 < (l2.length : Int) := dA; obtain ⟨ad114, e114, hx114_0⟩ := Kd.at_bool HR2.out x40_2 p114 q114; (try rw [← Nbq27.out] at hx114_0); cases e114; have hn114_0 : ad114.block ≠ gb113 := nF hx114_0 GW113; have hn114_1 : ad114.block ≠ gb113 := nF hx114_0 GW113; have hn114_2 : ad114.block ≠ gb113 := nF hx114_0 GW113; have hn114_3 : ad114.block ≠ gb113 := nF hx114_0 GW113; replace hx114_0 := uC HB hx114_0; replace hx114_0 := (cell_far (p := ⟨gb113, 0, none⟩) (cB hn114_0) (.bool ((rd_T61 l0 x40_2).f0))).trans hx114_0; replace hx114_0 := (cell_far (p := ⟨gb113, 1, none⟩) (cB hn114_1) (.int .i64 ((rd_T61 l0 x40_2).f1))).trans hx114_0; replace hx114_0 := (cell_far (p := ⟨gb113, 2, none⟩) (cB hn114_2) (.int .i64 ((rd_T61 l0 x40_2).f2))).trans hx114_0; replace hx114_0 := (cell_far (p := ⟨gb113, 3, none⟩) (cB hn114_3) (.int .i64 ((rd_T61 l0 x40_2).f3))).trans hx114_0; clear hn114_0; clear hn114_1; clear hn114_2; clear hn114_3; replace p114 := eq_true p114; replace q114 := eq_true q114))
             go_roundg k2
             case measure => have := HK1.out; have := HK2.out; omega
             case rel => exact ⟨(x9_2), (wrap64 (x40_2 + 1)), rS, H', ⟨by have := HK1.out; have := HK2.out; omega⟩, ⟨by (with_reducible repeat (first | apply rA | apply rN | apply rD)); exact Kd.R_mono (Kd.R_far (p := ⟨gb113, 3, none⟩) (Kd.R_far (p := ⟨gb113, 2, none⟩) (Kd.R_far (p := ⟨gb113, 1, none⟩) (Kd.R_far (p := ⟨gb113, 0, none⟩) (Kd.R_types HO_8.out BK113.out (by decide)) (fun _ hk => hk.2) (.bool ((rd_T61 l0 x40_2).f0))) (fun _ hk => hk.2) (.int .i64 ((rd_T61 l0 x40_2).f1))) (fun _ hk => hk.2) (.int .i64 ((rd_T61 l0 x40_2).f2))) (fun _ hk => hk.2) (.int .i64 ((rd_T61 l0 x40_2).f3))) (fun _ hk => hk.1)⟩, ⟨by (with_reducible repeat (first | apply rA | apply rN | apply rD)); exact Kd.R_mono (Kd.R_far (p := ⟨gb113, 3, none⟩) (Kd.R_far (p := ⟨gb113, 2, none⟩) (Kd.R_far (p := ⟨gb113, 1, none⟩) (Kd.R_far (p := ⟨gb113, 0, none⟩) (Kd.R_mono HO_9.out (fun k_ hk => (⟨hk, hk.2⟩ : _ ∧ k_ ≠ gb113))) (fun _ hk => hk.2) (.bool ((rd_T61 l0 x40_2).f0))) (fun _ hk => hk.2) (.int .i64 ((rd_T61 l0 x40_2).f1))) (fun _ hk => hk.2) (.int .i64 ((rd_T61 l0 x40_2).f2))) (fun _ hk => hk.2) (.int .i64 ((rd_T61 l0 x40_2).f3))) (fun _ hk => trivial)⟩, ⟨by (with_reducible repeat (first | apply rA | apply rN | apply rD)); exact Kd.R_mono (Kd.R_far (p := ⟨gb113, 3, none⟩) (Kd.R_far (p := ⟨gb113, 2, none⟩) (Kd.R_far (p := ⟨gb113, 1, none⟩) (Kd.R_far (p := ⟨gb113, 0, none⟩) (Kd.R_types HO_10.out BK113.out (by decide)) (fun _ hk => hk.2) (.bool ((rd_T61 l0 x40_2).f0))) (fun _ hk => hk.2) (.int .i64 ((rd_T61 l0 x40_2).f1))) (fun _ hk => hk.2) (.int .i64 ((rd_T61 l0 x40_2).f2))) (fun _ hk => hk.2) (.int .i64 ((rd_T61 l0 x40_2).f3))) (fun _ hk => hk.1)⟩, ⟨pH HB⟩⟩
           ·rw [if_neg c26] at H
            exact absurd H (by simp)
          ·rw [if_neg c25] at H
           exact absurd H (by simp)
         ·rw [if_neg c24] at H
          exact absurd H (by simp)
        ·rw [if_neg c23] at H
         have c23b0 : decide (x40_2 < (l0.length : Int)) = false := decide_eq_false c23
         clear c23
         have H' := aK H
         clear H
         go_wp2
         go_loopg [10, 72] k2 (fun kq v10 v72 w' => ∃ (x10_3 : List Int) (x72_3 : Int), v72 = .int .i64 x72_3 ∧ Aside0 (impl_kept.l2 kq x8_1 x9_2 x10_3 l1 (l1.length : Int) x72_3 = some (r1, r2)) ∧ Aside0 (kq ≤ k2) ∧ Aside0 (Kd.R (Kd.int .i64) 3 w' w.heap.size (fun k_ => some k_ ≠ (v10 : Value).ownBlock) v102 x8_1) ∧ Aside0 (Kd.R k61 61 w' w.heap.size (fun _ => True) u9 x9_2) ∧ Aside0 (Kd.R (Kd.int .i64) 3 w' w.heap.size (fun k_ => some k_ ≠ (v102 : Value).ownBlock) v10 x10_3) ∧ Aside0 (Below w.heap.size w w'))
         case atStart => exact ⟨(y107), (0), rS, H', ⟨Nat.le_refl _⟩, ⟨by (with_reducible repeat (first | apply rA | apply rN | apply rD)); exact HO_8.out⟩, ⟨by (with_reducible repeat (first | apply rA | apply rN | apply rD)); exact HO_9.out⟩, ⟨by (with_reducible repeat (first | apply rA | apply rN | apply rD)); exact HO_10.out⟩, ⟨pH HB⟩⟩
         case round =>
          clear H'
          try clear c1; try clear p1; try clear q1; try clear hx1; try clear c2; try clear p2; try clear q2; try clear c3; try clear c4; try clear c4b0; try clear c4b1; try clear c5; try clear c5b0; try clear c5b1; try clear p6; try clear p11; try clear q11; try clear hx11; try clear c12; try clear c12b0; try clear c13; try clear c13b0; try clear c14; try clear c14b0; try clear c15; try clear c15b0; try clear p16; try clear q16; try clear hx16; try clear hf16; try clear q17; try clear c18; try clear c23; try clear c23b0; try clear c24; try clear c24b0; try clear c25; try clear c25b0; try clear c26; try clear c26b0; try clear q27; try clear c28; try clear q29; try clear c30; try clear c31; try clear c35; try clear c35b0; try clear c36; try clear c36b0; try clear c37; try clear c37b0; try clear c38; try clear c38b0; try clear c39; try clear hx110_0; try clear hx112_0; try clear hx112_1; try clear hx112_2; try clear hx112_3; try clear hx114_0; try clear hx118_0; try clear hx119_0; try clear hx16_0; try clear p1; try clear p11; try clear p110; try clear p112; try clear p114; try clear p118; try clear p119; try clear p16; try clear p2; try clear p6; try clear q1; try clear q11; try clear q110; try clear q112; try clear q114; try clear q118; try clear q119; try clear q16; try clear q17; try clear hcz33_0; try clear hcz33_1; try clear hcz33_2; try clear hcz33_3; try clear hfz33_0; try clear hfz33_1; try clear hfz33_2; try clear hfz33_3; try clear hcz41_0; try clear hcz41_1; try clear hcz41_2; try clear hcz41_3; try clear hfz41_0; try clear hfz41_1; try clear hfz41_2; try clear hfz41_3; try clear hcz45_0; try clear hcz45_1; try clear hcz45_2; try clear hcz45_3; try clear hfz45_0; try clear hfz45_1; try clear hfz45_2; try clear hfz45_3
          obtain ⟨x10_3, x72_3, rfl, HA, HK3, HO_8, HO_9, HO_10, HB⟩ := hrel
          cases gk with
          | zero => exact absurd HA.out (by simp [impl_kept.l2])
          | succ k3 =>
           have H := HA.out
           clear HA
           simp only [impl_kept.l2] at H
           by_cases c46 : x72_3 < (l1.length : Int)
           ·rw [if_pos c46] at H
            have c46b0 : decide (x72_3 < (l1.length : Int)) = true := decide_eq_true c46
            clear c46
            by_cases c47 : 0 ≤ x72_3
            ·rw [if_pos c47] at H
             have c47b0 : decide (0 ≤ x72_3) = true := decide_eq_true c47
             clear c47
             by_cases c48 : x72_3 < (l1.length : Int)
             ·rw [if_pos c48] at H
              have c48b0 : decide (x72_3 < (l1.length : Int)) = true := decide_eq_true c48
              clear c48
              by_cases c49 : 0 ≤ (rd l1 x72_3)
              ·rw [if_pos c49] at H
               have c49b0 : decide (0 ≤ (rd l1 x72_3)) = true := decide_eq_true c49
               clear c49
               by_cases c50 : (rd l1 x72_3) < (x8_1.length : Int)
               ·rw [if_pos c50] at H
                have c50b0 : decide ((rd l1 x72_3) < (x8_1.length : Int)) = true := decide_eq_true c50
                clear c50
                by_cases c51 : x10_3.length < 17592186044416
                ·rw [if_pos c51] at H
                 have LMc51 := aK c51
                 clear c51
                 obtain ⟨y125, hy125⟩ : ∃ y_ : List Int, y_ = (x10_3 ++ [rd x8_1 (rd l1 x72_3)]) := ⟨_, rfl⟩
                 replace H : (impl_kept.l2 k3 x8_1 x9_2 y125 l1 (l1.length : Int) (wrap64 (x72_3 + 1))) = some (r1, r2) := by first | (rw [hy125]; with_reducible exact H) | (have H2_ := (Option.bind_some _ _).symm.trans H; rw [hy125]; with_reducible exact H2_) | (have H2_ := (Option.bind_some _ _).symm.trans H; with_reducible exact H2_) | with_reducible exact H | (rw [hy125]; exact H) | exact H
                 have Ny125 := aK hy125
                 clear hy125
                 have H' := aK H
                 clear H
                 have p123 : 0 ≤ (x72_3 : Int) := dA
                 have q123 : x72_3 < (l1.length : Int) := dA
                 obtain ⟨ad123, e123, hx123_0⟩ := Kd.at_int HR1.out x72_3 p123 q123
                 cases e123
                 replace hx123_0 := uC HB hx123_0
                 replace p123 := eq_true p123
                 replace q123 := eq_true q123
                 obtain ⟨Ao52, co52, eo52⟩ := Kd.R_slice HO_8.out
                 subst eo52
                 have p124 : 0 ≤ ((rd l1 x72_3) : Int) := dA
                 have q124 : (rd l1 x72_3) < (x8_1.length : Int) := dA
                 obtain ⟨ad124, e124, hx124_0⟩ := Kd.at_int (Kd.R_reads' HO_8.out).2.2 (rd l1 x72_3) p124 q124
                 cases e124
                 replace p124 := eq_true p124
                 replace q124 := eq_true q124
                 go_wp2_with (first | ((with_reducible refine gate_builtin (b := .append) (xs := #[.tmp 76, .tmp 81]) rfl ?_); at_builtin; refine Kd.R_append (Kd.int .i64) (w0 := w) w.heap.size rfl (.tmp 76) (.tmp 81) 23 3 (.int .i64 0) 8 rfl Tryd.underlying23 info3 rfl (by decide) (by omega) u10 x10_3 (rd x8_1 (rd l1 x72_3)) [.int .i64 (rd x8_1 (rd l1 x72_3))] (fun k_ => some k_ ≠ (.slice (some ad124) x8_1.length co52 : Value).ownBlock) (fun _ => False) rfl rfl ?aP (fun _ hk => hk.elim) ?aF ?aO ?aB ?aS ?aL ?_; (case aP => exact rfl); (case aB => exact HB.out); (case aF => exact (fun k_ hk => Kd.fresh' (Kd.R_lt HO_8.out) k_ hk)); (case aO => exact HO_10.out); (case aS => exact (below_size HB.out)); (case aL => have := LMc51.out; omega); intro v126 w53 ho hb hg hat; rw [← Ny125.out] at ho; have n0_ := aK (Kd.R_after (ok := (fun _ => True)) (by (with_reducible repeat (first | apply rA | apply rN | apply rD)); exact Kd.R_mono HO_8.out (fun _ hk => ⟨trivial, hk⟩)) hg hat); have n1_ := aK (Kd.R_over' HO_9.out (Kd.R_typed HO_10.out) (by decide) hg); have n2_ := aK (hb); have HO127 := aK (ho); clear HO_8; have HO_8 := n0_; clear n0_; clear HO_9; have HO_9 := n1_; clear n1_; clear HB; have HB := n2_; clear n2_; clear HO_10; clear ho hb hg hat))
                 go_roundg k3
                 case measure => have := HK1.out; have := HK2.out; have := HK3.out; omega
                 case rel => exact ⟨(y125), (wrap64 (x72_3 + 1)), rS, H', ⟨by have := HK1.out; have := HK2.out; have := HK3.out; omega⟩, ⟨by (with_reducible repeat (first | apply rA | apply rN | apply rD)); exact Kd.R_mono HO_8.out (fun _ hk => hk.2)⟩, ⟨by (with_reducible repeat (first | apply rA | apply rN | apply rD)); exact HO_9.out⟩, ⟨by (with_reducible repeat (first | apply rA | apply rN | apply rD)); exact HO127.out⟩, ⟨pH HB⟩⟩
                ·rw [if_neg c51] at H
                 exact absurd H (by simp)
               ·rw [if_neg c50] at H
                exact absurd H (by simp)
              ·rw [if_neg c49] at H
               exact absurd H (by simp)
             ·rw [if_neg c48] at H
              exact absurd H (by simp)
            ·rw [if_neg c47] at H
             exact absurd H (by simp)
           ·rw [if_neg c46] at H
            have c46b0 : decide (x72_3 < (l1.length : Int)) = false := decide_eq_false c46
            clear c46
            simp only [Option.some.injEq, Prod.mk.injEq] at H
            obtain ⟨rfl, rfl⟩ := H
            go_wp2
            go_ret2
            exact ⟨_, _, eW, by (with_reducible repeat (first | apply rA | apply rN | apply rD)); exact HO_9.out, by (with_reducible repeat (first | apply rA | apply rN | apply rD)); exact Kd.R_mono HO_10.out (fun _ hk => trivial), pH HB⟩
  ·rw [if_neg c5] at H
   exact absurd H (by simp)
 ·rw [if_neg c4] at H
  exact absurd H (by simp)


def impl_Heap_collect.f (k : Nat) (a0_0 : Int) (l0_1 : List (S61)) (l0_2 : List Int) : Option (Int × (List (S61)) × List Int) := (impl_reached.f k l0_1 l0_2).bind fun t103 => ((impl_kept.f k l0_1 l0_2 t103).bind fun bt106 => (some ((bt106.1.length : Int), bt106.1, bt106.2)))
def impl_Heap_collect.T1 : Bool × List (List Nat × List Nat) := (true, [([], []), ([0], [0]), ([], []), ([2], [2]), ([], []), ([4], [4]), ([], []), ([6], [6]), ([5, 7], [5, 7]), ([1, 3, 8, 8], [1, 3, 8]), ([9], [9]), ([10], [10]), ([10], [10]), ([11, 9, 0, 1, 2, 3, 4, 5, 6, 7, 8, 9, 10, 11], [11]), ([12, 13, 0, 1, 2, 3, 4, 5, 6, 7, 8, 9, 10, 11, 12, 13], [12])])
def impl_Heap_collect.B1 : List Nat := [0, 1, 0, 4, 0, 16, 0, 64, 240, 511, 1023, 2047, 2047, 4095, 16383]
theorem impl_Heap_collect.tab1 : rtab .any (opsOf Tryd.f29 1) = impl_Heap_collect.T1 := by kernel_rfl
theorem impl_Heap_collect.bits1 : waitsOk impl_Heap_collect.T1.2 impl_Heap_collect.B1 = true := by kernel_rfl
set_option maxHeartbeats 8000000 in
set_option maxRecDepth 100000 in
theorem impl_Heap_collect.calls (k : Nat) (a0_0 : Int) (A0_1 : Option Addr) (c0_1 : Nat) (l0_1 : List (S61)) (A0_2 : Option Addr) (c0_2 : Nat) (l0_2 : List Int) (r1 : Int) (r2 : List (S61)) (r3 : List Int) (w : World) (hr0_1 : Kd.C k61 w A0_1 l0_1.length l0_1) (hc0_1 : l0_1.length ≤ c0_1) (hr0_2 : Kd.C (Kd.int .i64) w A0_2 l0_2.length l0_2) (hc0_2 : l0_2.length ≤ c0_2) (h : impl_Heap_collect.f k a0_0 l0_1 l0_2 = some (r1, r2, r3)) :
  Calls Tryd.prog 29 #[.agg #[.int .i64 a0_0, .slice A0_1 l0_1.length c0_1, .slice A0_2 l0_2.length c0_2]] w fun e w' => ∃ v1_ v2_ : Value, e = .returned (.agg #[.int .i64 r1, v1_, v2_]) ∧ Kd.R k61 61 w' w.heap.size (fun _ => True) v1_ r2 ∧ Kd.R (Kd.int .i64) 3 w' w.heap.size (fun _ => True) v2_ r3 ∧ Below w.heap.size w w' := by
 have hu31 := Tryd.underlying31
 have HR0_1 := aK hr0_1
 have HC0_1 := aK hc0_1
 clear hr0_1 hc0_1
 have HR0_2 := aK hr0_2
 have HC0_2 := aK hc0_2
 clear hr0_2 hc0_2
 have HB := aK (Below.refl w.heap.size w)
 have H : ((impl_reached.f k l0_1 l0_2).bind fun t103 => ((impl_kept.f k l0_1 l0_2 t103).bind fun bt106 => (some ((bt106.1.length : Int), bt106.1, bt106.2)))) = some (r1, r2, r3) := h
 clear h
 obtain ⟨t103, A2, H⟩ := oB H
 try dsimp only at H
 obtain ⟨⟨t106, t107⟩, A3, H⟩ := oB H
 try dsimp only at H
 simp only [Option.some.injEq, Prod.mk.injEq] at H
 obtain ⟨rfl, rfl, rfl⟩ := H
 go_enter Tryd.func29, Tryd.ntmps29
 try go_wp2_with (first | ((with_reducible refine gate_dst (N := 1) rfl ?_); refine bE (N := 1) (cs := #[.int .i64 a0_0, .slice A0_1 l0_1.length c0_1, .slice A0_2 l0_2.length c0_2]) (t := 31) ?_; intro gb101 hg w4 hbox hb; have GW101 := qw HB hg; have GE101 := qw HB hg; have BK101 := aK hbox; replace HB := qs HB hb; clear hb hbox hg) | ((with_reducible refine gate_dst (N := 2) rfl ?_); refine bE (N := 2) (cs := #[.int .i64 0, .slice none 0 0, .slice none 0 0]) (t := 31) ?_; intro gb102 hg w5 hbox hb; have GW102 := qw HB hg; have GE102 := qw HB hg; have NB101_102 := ql BK101 hg; have NB102_101 := qg BK101 hg; replace BK101 := qb BK101 hb; have BK102 := aK hbox; replace HB := qs HB hb; clear hb hbox hg))
 have n_ := aJ (aK (blk_drew BK101.out)) (aJ (aK (blk_drew BK102.out)) (aK (below_drew1 HB.out)))
 clear BK101 BK102 HB
 obtain ⟨BK101, BK102, HB⟩ := n_
 refine start_ (n := 15) (S := fun w' => w'.cell? ⟨gb101, 0, none⟩ = some (.int .i64 a0_0) ∧ w'.cell? ⟨gb101, 1, none⟩ = some (.slice A0_1 l0_1.length c0_1) ∧ w'.cell? ⟨gb101, 2, none⟩ = some (.slice A0_2 l0_2.length c0_2)) (ds := []) (bs 0 15) (by kernel_rfl) rfl rfl ⟨(blk_cell BK101.out 0).trans rfl, (blk_cell BK101.out 1).trans rfl, (blk_cell BK101.out 2).trans rfl⟩ (fun hHeld => ?_); refine with_tabW impl_Heap_collect.tab1 impl_Heap_collect.bits1 (fun HT_ HW_ => ?_)
 generalize w5.drew = w6 at BK101 BK102 HB hHeld ⊢
 refine pS (i := 0) (N := some 6) (bs 1 14) (aO HT_) ?_
 refine pS (i := 2) (N := some 8) #[true, false, true, false, false, false, false, false, false, false, false, false, false, false, false] (aO HT_) ?_
 refine pS (i := 4) (N := some 10) #[true, false, true, false, true, false, false, false, false, false, false, false, false, false, false] (aO HT_) ?_
 refine pS (i := 6) (N := some 12) #[true, false, true, false, true, false, true, false, false, false, false, false, false, false, false] (aO HT_) ?_
 refine take_ (i := 1) (N := some 7) (v := ?_) (a' := ?_) #[true, true, true, false, true, false, true, false, false, false, false, false, false, false, false] rfl rfl (take_ofW HT_.out HW_.out (by kernel_rfl)) (fun _ _ _ h => h) (Or.inl ⟨by rfl, ?_⟩) hHeld ?_ ?_
 rotate_left
 ·rintro w' ⟨s0, s1, s2⟩
  go_simp
  with_reducible rfl
 rotate_left
 ·simp only [sP, i64_w, i32_w]
  rfl
 refine take_ (i := 3) (N := some 9) (v := ?_) (a' := ?_) #[true, true, true, true, true, false, true, false, false, false, false, false, false, false, false] rfl rfl (take_ofW HT_.out HW_.out (by kernel_rfl)) (fun _ _ _ h => h) (Or.inl ⟨by rfl, ?_⟩) hHeld ?_ ?_
 rotate_left
 ·rintro w' ⟨s0, s1, s2⟩
  go_simp
  with_reducible rfl
 rotate_left
 ·simp only [sP, i64_w, i32_w]
  rfl
 refine take_ (i := 5) (N := some 11) (v := ?_) (a' := ?_) (bs 7 8) rfl rfl (take_ofW HT_.out HW_.out (by kernel_rfl)) (fun _ _ _ h => h) (Or.inl ⟨by rfl, ?_⟩) hHeld ?_ ?_
 rotate_left
 ·rintro w' ⟨s0, s1, s2⟩
  go_simp
  with_reducible rfl
 rotate_left
 ·simp only [sP, i64_w, i32_w]
  rfl
 refine take_ (i := 7) (N := some 13) (v := ?_) (a' := ?_) (bs 8 7) rfl rfl (take_ofW HT_.out HW_.out (by kernel_rfl)) (fun _ _ _ h => h) (Or.inl ⟨by rfl, ?_⟩) hHeld ?_ ?_
 rotate_left
 ·rintro w' ⟨s0, s1, s2⟩
  go_simp
  with_reducible rfl
 rotate_left
 ·simp only [sP, i64_w, i32_w]
  rfl
 refine one_ (i := 8) (N := some 14) (bs 9 6) rfl rfl (one_of HT_.out (by kernel_rfl)) (by decide) (fun K hK => ?_)
 refine goes_ Tryd.func32 (by kernel_rfl) rfl #[.slice A0_1 l0_1.length c0_1, .slice A0_2 l0_2.length c0_2, .func (.func 33) #[] #[]] (by rfl) rfl rfl tA ?_
 with_reducible refine (impl_reached.calls k _ _ l0_1 _ _ l0_2  t103 _ ?side1 ?side2 ?side3 ?side4 A2.out).mono ?_
 (case side1 => exact sC (Kd.C_below HR0_1.out HB.out))
 (case side2 => exact HC0_1.out)
 (case side3 => exact sC (Kd.C_below HR0_2.out HB.out))
 (case side4 => exact HC0_2.out)
 rintro e w7 ⟨v104, rfl, ho0, hb⟩
 refine ⟨_, rfl, ?_⟩
 have n_ := aJ (aK (Kd.R_lower ho0 (below_size (pH HB)))) (aJ (aK (blk_below BK101.out hb)) (aJ (aK (blk_below BK102.out hb)) (aK (below_step (pH HB) hb))))
 clear BK101 BK102 HB
 obtain ⟨HO105, BK101, BK102, HB⟩ := n_
 (try clear hb)
 (try clear hb2)
 (try clear hk)
 (try clear hi)
 (try clear ho0)
 obtain ⟨Ao8, co8, eo8⟩ := Kd.R_slice HO105.out
 (first | subst eo8 | (injection eo8 with f1_ f2_ f3_; have f4_ := f1_.symm; have f5_ := f3_.symm; clear f1_ f2_ f3_; subst f4_; subst f5_))
 refine hK.out _ _ ⟨(blk_cell BK101.out 0).trans rfl, (blk_cell BK101.out 1).trans rfl, (blk_cell BK101.out 2).trans rfl⟩ (fun hHeld => ?_)
 clear hK K
 refine norm_ (a' := ?_) ?_ ?_
 rotate_left
 ·show Act.put _ (some 14) _ = _
  simp only [sP, i64_w, i32_w]
  rfl
 refine one_ (i := 9) (N := some 15) (bs 10 5) rfl rfl (one_of HT_.out (by kernel_rfl)) (by decide) (fun K hK => ?_)
 refine goes_ Tryd.func44 (by kernel_rfl) rfl #[.slice A0_1 l0_1.length c0_1, .slice A0_2 l0_2.length c0_2, .slice Ao8 t103.length co8] (by rfl) rfl rfl tA ?_
 with_reducible refine (impl_kept.calls k _ _ l0_1 _ _ l0_2 _ _ t103 t106 t107 _ ?side1 ?side2 ?side3 ?side4 ?side5 ?side6 A3.out).mono ?_
 (case side1 => exact sC (Kd.C_below HR0_1.out HB.out))
 (case side2 => exact HC0_1.out)
 (case side3 => exact sC (Kd.C_below HR0_2.out HB.out))
 (case side4 => exact HC0_2.out)
 (case side5 => exact sC ((Kd.R_reads' HO105.out).2.2))
 (case side6 => exact (Kd.R_reads' HO105.out).2.1)
 rintro e w9 ⟨v108, v110, rfl, ho0, ho1, hb⟩
 refine ⟨_, rfl, ?_⟩
 have n_ := aJ (aK (Kd.R_below HO105.out hb)) (aJ (aK (Kd.R_lower ho0 (below_size (pH HB)))) (aJ (aK (Kd.R_lower ho1 (below_size (pH HB)))) (aJ (aK (blk_below BK101.out hb)) (aJ (aK (blk_below BK102.out hb)) (aK (below_step (pH HB) hb))))))
 clear HO105 BK101 BK102 HB
 obtain ⟨HO105, HO109, HO111, BK101, BK102, HB⟩ := n_
 (try clear hb)
 (try clear hb2)
 (try clear hk)
 (try clear hi)
 (try clear ho0)
 (try clear ho1)
 refine hK.out _ _ ⟨(blk_cell BK101.out 0).trans rfl, (blk_cell BK101.out 1).trans rfl, (blk_cell BK101.out 2).trans rfl⟩ (fun hHeld => ?_)
 clear hK K
 refine norm_ (a' := ?_) ?_ ?_
 rotate_left
 ·show Act.put _ (some 15) _ = _
  simp only [sP, i64_w, i32_w]
  rfl
 refine pS (i := 10) (N := some 5) (bs 11 4) (aO HT_) ?_
 refine pS (i := 11) (N := some 16) (bs 12 3) (aO HT_) ?_
 refine pS (i := 12) (N := some 17) (bs 13 2) (aO HT_) ?_
 refine pS (i := 13) (N := some 3) (bs 14 1) (aO HT_) ?_
 refine pS (i := 14) (N := some 4) (bs 15 0) (aO HT_) ?_
 refine done_ (done_of HT_.out (by kernel_rfl)) ?_
 obtain ⟨Ao10, co10, eo10⟩ := Kd.R_slice HO109.out
 subst eo10
 obtain ⟨Ao11, co11, eo11⟩ := Kd.R_slice HO111.out
 subst eo11
 have hnb12 := NB102_101.out
 have hnc12 := NB101_102.out
 obtain ⟨hcz13_0, hcz13_1, hcz13_2, hfz13_0, hfz13_1, hfz13_2⟩ := cA3 BK102
 try go_wp2
 refine bodyPost_ret (results_cell_row rfl _ _ gb102 31 #[.int .i64 (t106.length : Int), .slice Ao10 t106.length co10, .slice Ao11 t107.length co11] (0, 0) _ rfl (p3 BK102) Tryd.underlying31 rfl (by kernel_rfl)) rfl ?_
 exact ⟨_, _, eW, by (with_reducible repeat (first | apply rA | apply rN | apply rD)); exact Kd.R_mono (Kd.R_far (p := ⟨gb102, 2, none⟩) (Kd.R_far (p := ⟨gb102, 1, none⟩) (Kd.R_far (p := ⟨gb102, 0, none⟩) (Kd.R_types HO109.out BK102.out (by decide)) (fun _ hk => hk.2) (.int .i64 (t106.length : Int))) (fun _ hk => hk.2) (.slice Ao10 t106.length co10)) (fun _ hk => hk.2) (.slice Ao11 t107.length co11)) (fun _ hk => trivial), by (with_reducible repeat (first | apply rA | apply rN | apply rD)); exact Kd.R_mono (Kd.R_far (p := ⟨gb102, 2, none⟩) (Kd.R_far (p := ⟨gb102, 1, none⟩) (Kd.R_far (p := ⟨gb102, 0, none⟩) (Kd.R_types HO111.out BK102.out (by decide)) (fun _ hk => hk.2) (.int .i64 (t106.length : Int))) (fun _ hk => hk.2) (.slice Ao10 t106.length co10)) (fun _ hk => hk.2) (.slice Ao11 t107.length co11)) (fun _ hk => trivial), pH HB⟩

end Go.Proofs.YtcbgjcnekdoloaaDoor.G

namespace Go.Proofs.YtcbgjcnekdoloaaDoor.HeapL
open Go.RowKit Go.Proofs.YtcbgjcnekdoloaaDoor.G Go.Proofs.YtcbgjcnekdoloaaDoor.EvL Go.Proofs.YtcbgjcnekdoloaaDoorW.PrintWords Go.Proofs.YtcbgjcnekdoloaaDoorW.PrintLast
set_option linter.unusedVariables false

def rank (m : List Bool) (j : Nat) : Nat := (m.take j).count true
theorem rank_succ (m : List Bool) (j : Nat) (h : j < m.length) : rank m (j + 1) = rank m j + if getB m j = true then 1 else 0 := by
  unfold rank
  rw [List.take_succ_eq_append_getElem h, List.count_append]
  have e : getB m j = m[j] := by unfold getB; rw [List.getD_eq_getElem?_getD, List.getElem?_eq_getElem h]; rfl
  rw [e]
  cases m[j] <;> simp
theorem rank_le (m : List Bool) (j : Nat) : rank m j ≤ j := by
  unfold rank
  exact Nat.le_trans (List.count_le_length ..) (by rw [List.length_take]; omega)

def pickFrom {β : Type} (f : Nat → β) (m : List Bool) (i d : Nat) : List β := ((List.range d).filter fun j => getB m (i + j)).map fun j => f (i + j)
theorem pickFrom_succ {β : Type} (f : Nat → β) (m : List Bool) (i d : Nat) : pickFrom f m i (d + 1) = (if getB m i = true then [f i] else []) ++ pickFrom f m (i + 1) d := by
  unfold pickFrom
  rw [List.range_succ_eq_map, List.filter_cons, List.filter_map]
  have e : List.map (fun j => f (i + j)) (List.map Nat.succ (List.filter ((fun j => getB m (i + j)) ∘ Nat.succ) (List.range d))) = List.map (fun j => f (i + 1 + j)) (List.filter (fun j => getB m (i + 1 + j)) (List.range d)) := by
    rw [List.map_map]
    have e1 : ((fun j => getB m (i + j)) ∘ Nat.succ) = fun j => getB m (i + 1 + j) := by funext j; show getB m (i + (j + 1)) = _; congr 1; omega
    rw [e1]
    apply List.map_congr_left
    intro j _
    show f (i + (j + 1)) = _
    congr 1; omega
  by_cases h : getB m i = true
  · rw [Nat.add_zero, if_pos h, if_pos h, List.map_cons, e, Nat.add_zero]; rfl
  · rw [Nat.add_zero, if_neg h, if_neg h, e, List.nil_append]
theorem pickFrom_len {β : Type} (f : Nat → β) (m : List Bool) (i d : Nat) : (pickFrom f m i d).length ≤ d := by
  unfold pickFrom
  rw [List.length_map]
  exact Nat.le_trans (List.length_filter_le ..) (by simp)

def newCell (c : List S61) (m : List Bool) (i : Nat) : S61 :=
  if (c.getD i z61).f0 = true then c.getD i z61 else ⟨(c.getD i z61).f0, (c.getD i z61).f1, (rank m (pA c i) : Int), (rank m (pB c i) : Int)⟩
def newRoots (m : List Bool) (r : List Int) : List Int := r.map fun x => (rank m x.toNat : Int)
def nums (m : List Bool) (n : Nat) : List Int := (List.range n).map fun j => (rank m j : Int)
theorem rd_nums (m : List Bool) (n : Nat) (x : Int) (h0 : 0 ≤ x) (h1 : x < (n : Int)) : rd (nums m n) x = (rank m x.toNat : Int) := by
  unfold rd nums
  rw [List.getD_eq_getElem?_getD, List.getElem?_map, List.getElem?_range (by omega)]; rfl
theorem nums_len (m : List Bool) (n : Nat) : (nums m n).length = n := by unfold nums; simp

theorem kept_l0 (c : List S61) (r : List Int) (m : List Bool) (n : Nat) (hn : n ≤ 200) (hm : m.length = n) (R : List S61 × List Int) : ∀ (d i : Nat) (x8 : List Int), i + d = n → x8.length = n →
    Ev (fun k => impl_kept.l1 k r m (x8.take i ++ (List.range d).map fun j => (rank m (i + j) : Int)) [] [] c c.length 0) R → Ev (fun k => impl_kept.l0 k c r m x8 [] [] (rank m i) m n i) R := by
  intro d
  induction d with
  | zero =>
    intro i x8 hi hx h
    refine Ev.step (f := fun k => impl_kept.l1 k r m x8 [] [] c c.length 0) (fun k => ?_) ?_
    · simp only [impl_kept.l0]
      rw [if_neg (by omega)]
    · rw [List.range_zero, List.map_nil, List.append_nil, List.take_of_length_le (by omega)] at h
      exact h
  | succ d ih =>
    intro i x8 hi hx h
    have hle := rank_le m i
    refine Ev.step (f := fun k => impl_kept.l0 k c r m (x8.set i (rank m i : Int)) [] [] (rank m (i + 1)) m n ((i + 1 : Nat) : Int)) (fun k => ?_) (ih (i + 1) (x8.set i (rank m i : Int)) (by omega) (by simpa using hx) ?_)
    · simp only [impl_kept.l0, Option.bind_some, Int.toNat_natCast]
      rw [if_pos (by omega), if_pos (by omega), if_pos (by omega), if_pos (by omega), rdB, next i (n := n) (by omega) (by omega), rank_succ m i (by omega)]
      by_cases hb : getB m i = true
      · rw [if_pos hb, if_pos hb, w64 (by omega) (by omega)]; rfl
      · rw [if_neg hb, if_neg hb]; rfl
    · have e : (x8.set i (rank m i : Int)).take (i + 1) = x8.take i ++ [(rank m i : Int)] := by
        rw [List.take_succ_eq_append_getElem (by simp; omega)]
        simp [List.take_set_of_le]
      rw [e, List.append_assoc, List.singleton_append]
      rw [List.range_succ_eq_map, List.map_cons, List.map_map, Nat.add_zero] at h
      have e2 : List.map (fun j => (rank m (i + 1 + j) : Int)) (List.range d) = List.map ((fun j => (rank m (i + j) : Int)) ∘ Nat.succ) (List.range d) := by
        apply List.map_congr_left
        intro j _
        show (rank m (i + 1 + j) : Int) = (rank m (i + (j + 1)) : Int)
        congr 2; omega
      rw [e2]
      exact h

theorem kept_l2 (out : List S61) (r : List Int) (m : List Bool) (n : Nat) (hr : r.length ≤ 60) (hro : ∀ x ∈ r, 0 ≤ x ∧ x < (n : Int)) : ∀ (d i : Nat) (acc : List Int), i + d = r.length → acc.length = i →
    Ev (fun k => impl_kept.l2 k (nums m n) out acc r r.length i) (out, acc ++ newRoots m (r.drop i)) := by
  intro d
  induction d with
  | zero =>
    intro i acc hi ha
    refine Ev.succ (Ev.congr (fun k => ?_) (Ev.now _))
    simp only [impl_kept.l2]
    rw [if_neg (by omega), List.drop_of_length_le (by omega)]
    simp [newRoots]
  | succ d ih =>
    intro i acc hi ha
    have hlt : i < r.length := by omega
    have hx := hro r[i] (List.getElem_mem hlt)
    have e : rd r (i : Int) = r[i] := by rw [rdI, List.getD_eq_getElem?_getD, List.getElem?_eq_getElem hlt]; rfl
    refine Ev.step (f := fun k => impl_kept.l2 k (nums m n) out (acc ++ [(rank m r[i].toNat : Int)]) r r.length ((i + 1 : Nat) : Int)) (fun k => ?_) ?_
    · simp only [impl_kept.l2, e, nums_len]
      rw [if_pos (by omega), if_pos (by omega), if_pos (by omega), if_pos (by omega), if_pos (by omega), if_pos (by omega), rd_nums m n _ hx.1 hx.2, next i hlt (by omega)]
    · refine Ev.of_eq (ih (i + 1) (acc ++ [(rank m r[i].toNat : Int)]) (by omega) (by simp; omega)) ?_
      rw [List.drop_eq_getElem_cons hlt, List.append_assoc]
      rfl

theorem eta (x : S61) : (⟨x.f0, x.f1, x.f2, x.f3⟩ : S61) = x := rfl

theorem kept_l1 (c : List S61) (hc : cellsOk c = true) (hn : c.length ≤ 200) (r : List Int) (m : List Bool) (hm : m.length = c.length) (hr : r.length ≤ 60) (hro : ∀ x ∈ r, 0 ≤ x ∧ x < (c.length : Int)) : ∀ (d i : Nat) (acc : List S61), i + d = c.length → acc.length ≤ i →
    Ev (fun k => impl_kept.l1 k r m (nums m c.length) acc [] c c.length i) (acc ++ pickFrom (newCell c m) m i d, newRoots m r) := by
  intro d
  induction d with
  | zero =>
    intro i acc hi ha
    refine Ev.step (f := fun k => impl_kept.l2 k (nums m c.length) acc [] r r.length 0) (fun k => ?_) ?_
    · simp only [impl_kept.l1]
      rw [if_neg (by omega)]
    · refine Ev.of_eq (kept_l2 acc r m c.length hr hro r.length 0 [] (by omega) rfl) ?_
      simp [pickFrom]
  | succ d ih =>
    intro i acc hi ha
    rw [pickFrom_succ]
    by_cases hb : getB m i = true
    · refine Ev.step (f := fun k => impl_kept.l1 k r m (nums m c.length) (acc ++ [newCell c m i]) [] c c.length ((i + 1 : Nat) : Int)) (fun k => ?_) ?_
      · simp only [impl_kept.l1, rdC, rdB, nums_len]
        rw [if_pos (by omega), if_pos (by omega), if_pos (by omega), if_pos (by omega), if_pos hb, next i (n := c.length) (by omega) (by omega)]
        by_cases hf : (c.getD i z61).f0 = true
        · rw [if_pos hf, if_pos (by omega), eta]
          unfold newCell
          rw [if_pos hf]
        · have hp : pairAt c i = true := by unfold pairAt; rw [Bool.eq_false_iff.mpr hf]; rfl
          have hl := parts_lt hc (show i < c.length by omega) hp
          rw [if_neg hf, if_pos (by omega), if_pos (by omega), if_pos (by omega), if_pos (by omega), if_pos (by omega), rd_nums m _ _ (by omega) (by omega), rd_nums m _ _ (by omega) (by omega)]
          unfold newCell
          rw [if_neg hf]
          rfl
      · refine Ev.of_eq (ih (i + 1) (acc ++ [newCell c m i]) (by omega) (by simp; omega)) ?_
        rw [if_pos hb, List.append_assoc]
    · refine Ev.step (f := fun k => impl_kept.l1 k r m (nums m c.length) acc [] c c.length ((i + 1 : Nat) : Int)) (fun k => ?_) ?_
      · simp only [impl_kept.l1, rdC, rdB]
        rw [if_pos (by omega), if_pos (by omega), if_pos (by omega), if_pos (by omega), if_neg hb, next i (n := c.length) (by omega) (by omega)]
      · rw [if_neg hb, List.nil_append]
        exact ih (i + 1) acc (by omega) (by omega)

theorem implKept (c : List S61) (hc : cellsOk c = true) (hn : c.length ≤ 200) (r : List Int) (m : List Bool) (hm : m.length = c.length) (hr : r.length ≤ 60) (hro : ∀ x ∈ r, 0 ≤ x ∧ x < (c.length : Int)) :
    Ev (fun k => impl_kept.f k c r m) (pickFrom (newCell c m) m 0 c.length, newRoots m r) := by
  unfold impl_kept.f
  refine Ev.ite_pos (by omega) (Ev.ite_pos (by omega) ?_)
  rw [Int.toNat_natCast, hm]
  refine kept_l0 c r m c.length hn hm _ c.length 0 (List.replicate c.length 0) (by omega) (by simp) ?_
  rw [List.take_zero, List.nil_append]
  simp only [Nat.zero_add]
  exact kept_l1 c hc hn r m hm hr hro c.length 0 [] (by omega) (by simp)

theorem move_l1 (out : List S61) (r : List Int) (m : List Bool) (tq : List Int) (hr : r.length ≤ 60) (hro : ∀ x ∈ r, 0 ≤ x ∧ x < (tq.length : Int)) (hto : ∀ x ∈ r, rd tq x = (rank m x.toNat : Int)) : ∀ (d i : Nat) (acc : List Int), i + d = r.length → acc.length = i →
    Ev (fun k => spec_l7Move.l1 k tq r r.length i 0 out acc) ((out.length : Int), out, acc ++ newRoots m (r.drop i)) := by
  intro d
  induction d with
  | zero =>
    intro i acc hi ha
    refine Ev.succ (Ev.congr (fun k => ?_) (Ev.now _))
    simp only [spec_l7Move.l1]
    rw [if_neg (by omega), List.drop_of_length_le (by omega)]
    simp [newRoots]
  | succ d ih =>
    intro i acc hi ha
    have hlt : i < r.length := by omega
    have hx := hro r[i] (List.getElem_mem hlt)
    have e : rd r (i : Int) = r[i] := by rw [rdI, List.getD_eq_getElem?_getD, List.getElem?_eq_getElem hlt]; rfl
    refine Ev.step (f := fun k => spec_l7Move.l1 k tq r r.length ((i + 1 : Nat) : Int) 0 out (acc ++ [(rank m r[i].toNat : Int)])) (fun k => ?_) ?_
    · simp only [spec_l7Move.l1, e]
      rw [if_pos (by omega), if_pos (by omega), if_pos (by omega), if_pos (by omega), if_pos (by omega), if_pos (by omega), hto _ (List.getElem_mem hlt), next i hlt (by omega)]
    · refine Ev.of_eq (ih (i + 1) (acc ++ [(rank m r[i].toNat : Int)]) (by omega) (by simp; omega)) ?_
      rw [List.drop_eq_getElem_cons hlt, List.append_assoc]
      rfl

theorem move_l0 (old : Int) (c : List S61) (hc : cellsOk c = true) (hn : c.length ≤ 200) (r : List Int) (m : List Bool) (S : Nat → Prop) (hm : Least c S m) (hr : r.length ≤ 60) (hro : ∀ x ∈ r, 0 ≤ x ∧ x < (c.length : Int)) (hrm : ∀ x ∈ r, getB m x.toNat = true) :
    ∀ (d i : Nat) (tq : List Int) (acc : List S61), i + d = c.length → tq.length = c.length → acc.length = rank m i → (∀ j, j < i → getB m j = true → tq.getD j 0 = (rank m j : Int)) →
    Ev (fun k => spec_l7Move.l0 k m tq c c.length i old c r 0 acc) (((acc ++ pickFrom (newCell c m) m i d).length : Int), acc ++ pickFrom (newCell c m) m i d, newRoots m r) := by
  intro d
  induction d with
  | zero =>
    intro i tq acc hi ht ha hto
    refine Ev.step (f := fun k => spec_l7Move.l1 k tq r r.length 0 0 acc []) (fun k => ?_) ?_
    · simp only [spec_l7Move.l0]
      rw [if_neg (by omega)]
    · have e : acc ++ pickFrom (newCell c m) m i 0 = acc := by simp [pickFrom]
      rw [e]
      refine Ev.of_eq (move_l1 acc r m tq hr (fun x hx => by rw [ht]; exact hro x hx) (fun x hx => ?_) r.length 0 [] (by omega) rfl) (by simp)
      have := hro x hx
      exact hto x.toNat (by omega) (hrm x hx)
  | succ d ih =>
    intro i tq acc hi ht ha hto
    have hml := hm.len
    have hle := rank_le m i
    rw [pickFrom_succ]
    by_cases hb : getB m i = true
    · refine Ev.step (f := fun k => spec_l7Move.l0 k m (tq.set i (rank m i : Int)) c c.length ((i + 1 : Nat) : Int) old c r 0 (acc ++ [newCell c m i])) (fun k => ?_) ?_
      · simp only [spec_l7Move.l0, rdC, rdB, Int.toNat_natCast, ha]
        rw [if_pos (by omega), if_pos (by omega), if_pos (by omega), if_pos (by omega), if_pos hb, next i (n := c.length) (by omega) (by omega)]
        by_cases hf : (c.getD i z61).f0 = true
        · rw [if_pos hf, if_pos (by omega), if_pos (by omega), eta]
          unfold newCell
          rw [if_pos hf]
        · have hp : pairAt c i = true := by unfold pairAt; rw [Bool.eq_false_iff.mpr hf]; rfl
          have hl := parts_lt hc (show i < c.length by omega) hp
          have hk := hm.closed i (by omega) hb hp
          have eA : rd tq (c.getD i z61).f2 = (rank m (pA c i) : Int) := hto (pA c i) (by unfold pA; omega) hk.1
          have eB : rd tq (c.getD i z61).f3 = (rank m (pB c i) : Int) := hto (pB c i) (by unfold pB; omega) hk.2
          rw [if_neg hf, if_pos (by omega), if_pos (by omega), if_pos (by omega), if_pos (by omega), if_pos (by omega), if_pos (by omega), eA, eB]
          unfold newCell
          rw [if_neg hf]
      · refine Ev.of_eq (ih (i + 1) (tq.set i (rank m i : Int)) (acc ++ [newCell c m i]) (by omega) (by simpa using ht) (by rw [rank_succ m i (by omega), if_pos hb]; simp; omega) (fun j hj hbj => ?_)) ?_
        · rw [List.getD_eq_getElem?_getD, List.getElem?_set]
          by_cases e : i = j
          · subst e; rw [if_pos rfl, if_pos (by omega)]; rfl
          · rw [if_neg e, ← List.getD_eq_getElem?_getD]; exact hto j (by omega) hbj
        · rw [if_pos hb, List.append_assoc]
    · refine Ev.step (f := fun k => spec_l7Move.l0 k m tq c c.length ((i + 1 : Nat) : Int) old c r 0 acc) (fun k => ?_) ?_
      · simp only [spec_l7Move.l0, rdC, rdB]
        rw [if_pos (by omega), if_pos (by omega), if_pos (by omega), if_pos (by omega), if_neg hb, next i (n := c.length) (by omega) (by omega)]
      · rw [if_neg hb, List.nil_append]
        refine ih (i + 1) tq acc (by omega) ht (by rw [rank_succ m i (by omega), if_neg hb]; omega) (fun j hj hbj => ?_)
        by_cases e : j = i
        · subst e; exact absurd hbj hb
        · exact hto j (by omega) hbj

theorem specMove (old : Int) (c : List S61) (hc : cellsOk c = true) (hn : c.length ≤ 200) (r : List Int) (m : List Bool) (S : Nat → Prop) (hm : Least c S m) (hr : r.length ≤ 60) (hro : ∀ x ∈ r, 0 ≤ x ∧ x < (c.length : Int)) (hrm : ∀ x ∈ r, getB m x.toNat = true) :
    Ev (fun k => spec_l7Move.f k old c r m) (((pickFrom (newCell c m) m 0 c.length).length : Int), pickFrom (newCell c m) m 0 c.length, newRoots m r) := by
  unfold spec_l7Move.f
  refine Ev.ite_pos (by omega) (Ev.ite_pos (by omega) ?_)
  rw [Int.toNat_natCast]
  exact move_l0 old c hc hn r m S hm hr hro hrm c.length 0 (List.replicate c.length 0) [] (by omega) (by simp) rfl (fun j hj => by omega)

def told (c : List S61) (m : List Bool) (r : List Int) : Int × List S61 × List Int := (((pickFrom (newCell c m) m 0 c.length).length : Int), pickFrom (newCell c m) m 0 c.length, newRoots m r)

theorem collectBoth (old : Int) (c : List S61) (r : List Int) (hg : goodH old c r = true) : ∃ m, Least c (fun j => (j : Int) ∈ r) m ∧ Ev (fun k => spec_l7Collect.f k old c r) (told c m r) ∧ Ev (fun k => impl_Heap_collect.f k old c r) (told c m r) := by
  obtain ⟨hn, hr, ho, hc, hro⟩ := good_parts hg
  have hro' : ∀ x ∈ r, 0 ≤ x ∧ x < (c.length : Int) := fun x hx => of_decide_eq_true (List.all_eq_true.mp hro x hx)
  obtain ⟨m, hm, hev⟩ := implReached c r hc hn (by omega) hro
  obtain ⟨m', hm', hev'⟩ := specKeep old c r (List.replicate c.length false) hc hn hr hro (by simp)
  have e : m' = m := Least.eq (hm'.congr (fun j _ => by rw [getB_rep]; simp)) hm
  subst e
  have hrm : ∀ x ∈ r, getB m' x.toNat = true := fun x hx => hm.base x.toNat (by have := hro' x hx; omega) (by have := hro' x hx; rw [show ((x.toNat : Nat) : Int) = x by omega]; exact hx)
  refine ⟨m', hm, ?_, ?_⟩
  · unfold spec_l7Collect.f
    refine Ev.ite_pos (by omega) (Ev.ite_pos (by omega) (Ev.bind (a := m') ?_ ?_))
    · rw [Int.toNat_natCast]; exact hev'
    · exact Ev.bind (specMove old c hc hn r m' _ hm hr hro' hrm) (Ev.now _)
  · unfold impl_Heap_collect.f
    exact Ev.bind hev (Ev.bind (implKept c hc hn r m' hm.len hr hro') (Ev.now _))
end Go.Proofs.YtcbgjcnekdoloaaDoor.HeapL

namespace Go.Proofs.YtcbgjcnekdoloaaDoor.G
open Go.RowKit Go.Proofs.YtcbgjcnekdoloaaDoorW.PrintWords Go.Proofs.YtcbgjcnekdoloaaDoorW.PrintLast Go.Proofs.YtcbgjcnekdoloaaDoorW.PrintMore Go.Proofs.YtcbgjcnekdoloaaDoor.Short
attribute [local go_sem] max2_int min2_int max_two min_two max_three min_three max_four min_four   -- for this text's walks alone
set_option linter.unusedVariables false
set_option linter.unusedSimpArgs false

def spec_l7Minor.l0 : Nat → List Bool → Int → Int → List (S61) → List Int → Option (Int × (List (S61)) × List Int)
 | 0, _, _, _, _, _ => none
 | k + 1, x3, x4, x102000, x102001, x102002 => if x4 < x102000 then (if 0 ≤ x4 then (if x4 < (x3.length : Int) then (spec_l7Minor.l0 k (x3.set (x4 : Int).toNat true) (wrap64 (x4 + 1)) x102000 x102001 x102002) else (none)) else (none)) else ((spec_l7Keep.f k x102000 x102001 x102002 x3).bind fun t107 => ((spec_l7Move.f k x102000 x102001 x102002 t107).bind fun bt110 => (some (bt110.1, bt110.2.1, bt110.2.2))))
def spec_l7Minor.f (k : Nat) (a0_0 : Int) (l0_1 : List (S61)) (l0_2 : List Int) : Option (Int × (List (S61)) × List Int) := if 0 ≤ (l0_1.length : Int) then (if ((l0_1.length : Int) : Int).toNat ≤ 281474976710656 then (spec_l7Minor.l0 k (List.replicate ((l0_1.length : Int) : Int).toNat false) 0 a0_0 l0_1 l0_2) else (none)) else (none)
theorem spec_l7Minor.mono_l : ∀ k, (∀ y0 y1 y2 y3 y4, LeO (spec_l7Minor.l0 k y0 y1 y2 y3 y4) (spec_l7Minor.l0 (k + 1) y0 y1 y2 y3 y4))
 | 0 => fun _ _ _ _ _ r h => by simp [spec_l7Minor.l0] at h
 | k + 1 => by
  have ih0 := spec_l7Minor.mono_l k
  ·intro y0 y1 y2 y3 y4
   unfold spec_l7Minor.l0
   repeat' first
   | (with_reducible exact ih0 _ _ _ _ _)
   | (with_reducible exact spec_l7Keep.mono _ _ _ _ _)
   | (with_reducible exact spec_l7Move.mono _ _ _ _ _)
   | (with_reducible exact LeO.refl _)
   | (with_reducible exact LeO.none _)
   | (with_reducible refine LeO.ite ?_ ?_)
   | (with_reducible refine LeO.bind ?_ (fun _ => ?_))
   | exact ih0 _ _ _ _ _
   | exact spec_l7Keep.mono _ _ _ _ _
   | exact spec_l7Move.mono _ _ _ _ _
   | exact LeO.none _
   | refine LeO.ite ?_ ?_
   | refine LeO.bind ?_ (fun _ => ?_)
theorem spec_l7Minor.mono : ∀ a0 a1 a2 k, LeO (spec_l7Minor.f k a0 a1 a2) (spec_l7Minor.f (k + 1) a0 a1 a2) := by
 intro a0 a1 a2 k
 have ih0 := spec_l7Minor.mono_l k
 unfold spec_l7Minor.f
 repeat' first
   | (with_reducible exact ih0 _ _ _ _ _)
   | (with_reducible exact spec_l7Keep.mono _ _ _ _ _)
   | (with_reducible exact spec_l7Move.mono _ _ _ _ _)
   | (with_reducible exact LeO.refl _)
   | (with_reducible exact LeO.none _)
   | (with_reducible refine LeO.ite ?_ ?_)
   | (with_reducible refine LeO.bind ?_ (fun _ => ?_))
   | exact ih0 _ _ _ _ _
   | exact spec_l7Keep.mono _ _ _ _ _
   | exact spec_l7Move.mono _ _ _ _ _
   | exact LeO.none _
   | refine LeO.ite ?_ ?_
   | refine LeO.bind ?_ (fun _ => ?_)
set_option maxHeartbeats 8000000 in
set_option maxRecDepth 100000 in
theorem spec_l7Minor.calls (k : Nat) (a0_0 : Int) (A0_1 : Option Addr) (c0_1 : Nat) (l0_1 : List (S61)) (A0_2 : Option Addr) (c0_2 : Nat) (l0_2 : List Int) (r1 : Int) (r2 : List (S61)) (r3 : List Int) (w : World) (hr0_1 : Kd.C k61 w A0_1 l0_1.length l0_1) (hc0_1 : l0_1.length ≤ c0_1) (hr0_2 : Kd.C (Kd.int .i64) w A0_2 l0_2.length l0_2) (hc0_2 : l0_2.length ≤ c0_2) (h : spec_l7Minor.f k a0_0 l0_1 l0_2 = some (r1, r2, r3)) :
  Calls Tryd.prog 77 #[.agg #[.int .i64 a0_0, .slice A0_1 l0_1.length c0_1, .slice A0_2 l0_2.length c0_2]] w fun e w' => ∃ v1_ v2_ : Value, e = .returned (.agg #[.int .i64 r1, v1_, v2_]) ∧ Kd.R k61 61 w' w.heap.size (fun _ => True) v1_ r2 ∧ Kd.R (Kd.int .i64) 3 w' w.heap.size (fun _ => True) v2_ r3 ∧ Below w.heap.size w w' := by
 have hu31 := Tryd.underlying31
 have HR0_1 := aK hr0_1
 have HC0_1 := aK hc0_1
 clear hr0_1 hc0_1
 have HR0_2 := aK hr0_2
 have HC0_2 := aK hc0_2
 clear hr0_2 hc0_2
 have HB := aK (Below.refl w.heap.size w)
 have H : (if 0 ≤ (l0_1.length : Int) then (if ((l0_1.length : Int) : Int).toNat ≤ 281474976710656 then (spec_l7Minor.l0 k (List.replicate ((l0_1.length : Int) : Int).toNat false) 0 a0_0 l0_1 l0_2) else (none)) else (none)) = some (r1, r2, r3) := h
 clear h
 by_cases c2 : 0 ≤ (l0_1.length : Int)
 ·rw [if_pos c2] at H
  have c2b0 := eq_true c2
  have c2b1 : decide (0 ≤ (l0_1.length : Int)) = true := decide_eq_true c2
  clear c2
  by_cases c3 : ((l0_1.length : Int) : Int).toNat ≤ 281474976710656
  ·rw [if_pos c3] at H
   have c3b0 := eq_true c3
   have c3b1 : decide (((l0_1.length : Int) : Int).toNat ≤ 281474976710656) = true := decide_eq_true c3
   clear c3
   obtain ⟨y103, hy103⟩ : ∃ y_ : List Bool, y_ = (List.replicate ((l0_1.length : Int) : Int).toNat false) := ⟨_, rfl⟩
   replace H : (spec_l7Minor.l0 k y103 0 a0_0 l0_1 l0_2) = some (r1, r2, r3) := by first | (rw [hy103]; with_reducible exact H) | (have H2_ := (Option.bind_some _ _).symm.trans H; rw [hy103]; with_reducible exact H2_) | (have H2_ := (Option.bind_some _ _).symm.trans H; with_reducible exact H2_) | with_reducible exact H | (rw [hy103]; exact H) | exact H
   have Ny103 := aK hy103
   clear hy103
   have H' := aK H
   clear H
   go_enter Tryd.func77, Tryd.ntmps77
   go_wp2_with (first | ((with_reducible refine gate_dst (N := 1) rfl ?_); refine bE (N := 1) (cs := #[.int .i64 a0_0, .slice A0_1 l0_1.length c0_1, .slice A0_2 l0_2.length c0_2]) (t := 31) ?_; intro gb101 hg w4 hbox hb; have GW101 := qw HB hg; have GE101 := qw HB hg; have BK101 := aK hbox; replace HB := qs HB hb; clear hb hbox hg) | ((with_reducible refine gate_dst (N := 2) rfl ?_); refine bE (N := 2) (cs := #[.int .i64 0, .slice none 0 0, .slice none 0 0]) (t := 31) ?_; intro gb102 hg w5 hbox hb; have GW102 := qw HB hg; have GE102 := qw HB hg; have NB101_102 := ql BK101 hg; have NB102_101 := qg BK101 hg; replace BK101 := qb BK101 hb; have BK102 := aK hbox; replace HB := qs HB hb; clear hb hbox hg; have hnb6 := NB101_102.out; have hnc6 := NB102_101.out; obtain ⟨hcz7_0, hcz7_1, hcz7_2, hfz7_0, hfz7_1, hfz7_2⟩ := cA3 BK101) | ((with_reducible refine gate_dst (N := 8) rfl ?_); refine Kd.R_make Kd.bool _ 4 rfl (N := 8) rfl 56 _ _ rfl (l0_1.length : Int) rfl rfl Tryd.underlying56 (.bool false) 1 info4 rfl (by decide) (by omega) false (ok := fun _ => True) (okp := fun _ => True) rfl (fun _ hk => hk) trivial (dA) (Nat.le_trans (Nat.mul_le_mul_right _ (dA : (l0_1.length : Int).toNat ≤ 281474976710656)) (by omega)) (Below.refl _ _) (Nat.le_refl _) ?_; intro v104 w8 ho9 hb hg_ hnew_; clear hg_ hnew_; (first | rw [← Ny103.out] at ho9 | (simp only [Int.reduceToNat] at ho9; rw [← Ny103.out] at ho9)); have HO105 := aK (Kd.R_lower ho9 (below_size HB.out)); replace BK101 := qb BK101 hb; replace BK102 := qb BK102 hb; replace HB := qs HB hb; clear hb ho9))
   go_loopg [4] k (fun kq v4 w' => ∃ (x3_1 : List Bool) (x4_1 : Int), v4 = .int .i64 x4_1 ∧ Aside0 (spec_l7Minor.l0 kq x3_1 x4_1 a0_0 l0_1 l0_2 = some (r1, r2, r3)) ∧ Aside0 (kq ≤ k) ∧ Aside0 (Kd.R Kd.bool 4 w' w.heap.size (fun _ => True) v104 x3_1) ∧ Aside0 (w'.heap[gb101]? = some (.cells #[.int .i64 a0_0, (.slice A0_1 l0_1.length c0_1), (.slice A0_2 l0_2.length c0_2)] 31 (0, 0))) ∧ Aside0 (w'.heap[gb102]? = some (.cells #[.int .i64 0, (.slice none 0 0), (.slice none 0 0)] 31 (0, 0))) ∧ Aside0 (Below w.heap.size w w'))
   case atStart => exact ⟨(y103), (0), rS, H', ⟨Nat.le_refl _⟩, ⟨by (with_reducible repeat (first | apply rA | apply rN | apply rD)); exact HO105.out⟩, ⟨pB BK101⟩, ⟨pB BK102⟩, ⟨pH HB⟩⟩
   case round =>
    clear H'
    try clear c2; try clear c2b0; try clear c2b1; try clear p2; try clear c3; try clear c3b0; try clear c3b1; try clear c6; try clear c7; try clear hcz7_0 hcz7_1 hcz7_2 hfz7_0 hfz7_1 hfz7_2
    obtain ⟨x3_1, x4_1, rfl, HA, HK1, HO_3, BK101, BK102, HB⟩ := hrel
    cases gk with
    | zero => exact absurd HA.out (by simp [spec_l7Minor.l0])
    | succ k1 =>
     have H := HA.out
     clear HA
     simp only [spec_l7Minor.l0] at H
     by_cases c10 : x4_1 < a0_0
     ·rw [if_pos c10] at H
      have c10b0 : decide (x4_1 < a0_0) = true := decide_eq_true c10
      clear c10
      by_cases c11 : 0 ≤ x4_1
      ·rw [if_pos c11] at H
       have c11b0 : decide (0 ≤ x4_1) = true := decide_eq_true c11
       clear c11
       by_cases c12 : x4_1 < (x3_1.length : Int)
       ·rw [if_pos c12] at H
        have c12b0 : decide (x4_1 < (x3_1.length : Int)) = true := decide_eq_true c12
        clear c12
        obtain ⟨y106, hy106⟩ : ∃ y_ : List Bool, y_ = (x3_1.set (x4_1 : Int).toNat true) := ⟨_, rfl⟩
        replace H : (spec_l7Minor.l0 k1 y106 (wrap64 (x4_1 + 1)) a0_0 l0_1 l0_2) = some (r1, r2, r3) := by first | (rw [hy106]; with_reducible exact H) | (have H2_ := (Option.bind_some _ _).symm.trans H; rw [hy106]; with_reducible exact H2_) | (have H2_ := (Option.bind_some _ _).symm.trans H; with_reducible exact H2_) | with_reducible exact H | (rw [hy106]; exact H) | exact H
        have Ny106 := aK hy106
        clear hy106
        have H' := aK H
        clear H
        have hnb14 := NB101_102.out
        have hnc14 := NB102_101.out
        obtain ⟨hcz15_0, hcz15_1, hcz15_2, hfz15_0, hfz15_1, hfz15_2⟩ := cA3 BK101
        have p13 : 0 ≤ (x4_1 : Int) := dA
        have q13 : (x4_1 : Int) < ((x3_1.length : Int) : Int) := dA
        obtain ⟨go13, co13, eo13, gb13, gl13, cl13, HG13⟩ := Kd.R_form HO_3.out (by omega)
        (first | cases eo13 | (injection eo13 with ea_ en_ ec_; (first | subst ea_ | (injection ea_ with ea_; subst ea_)); subst ec_; clear en_))
        have GB13 := aK gb13
        have GG13 := aK HG13
        clear gb13 gl13 HG13
        obtain ⟨hx13_0, hf13_0⟩ := Kd.R_celln false HO_3.out (x4_1 : Int) p13 q13
        replace p13 := eq_true p13
        replace q13 := eq_true q13
        have HP16 := Kd.R_putg HO_3.out (x4_1 : Int) true
        go_wp2_with (first | ((with_reducible refine gate_store (t := 4) (p := 17) rfl ?_); refine store_event (t := 4) (p := 17) (v := ?vo_w17) (w1 := (wr.setCell ⟨go13, (x4_1 : Int).toNat, none⟩ (.bool true))) ?hg ?ho ?hn ?hr ?_; (case ho => rfl); (case hg => rfl); (case hn => rfl); (case hr => first | (go_simp; done) | (go_simp; rfl)); intro w17 hw; have hg : wr.grownBy w17 (some go13) := (by rw [hw]; exact HP16.2); have hp_ : Kd.R Kd.bool 4 w17 w.heap.size (fun _ => True) (.slice (some ⟨go13, 0, none⟩) x3_1.length co13) y106 := (by rw [hw, Ny106.out]; exact HP16.1); clear HP16; have n0_ := aK (hp_); have n1_ := aK (blk_grown BK101.out hg (Kd.R_ne HO_3.out BK101.out (by decide))); have n2_ := aK (blk_grown BK102.out hg (Kd.R_ne HO_3.out BK102.out (by decide))); have n3_ := aK ((by rw [hw]; exact below_set (HB.out) GB13.out : Below w.heap.size w w17)); clear HO_3; have HO_3 := n0_; clear n0_; clear BK101; have BK101 := n1_; clear n1_; clear BK102; have BK102 := n2_; clear n2_; clear HB; have HB := n3_; clear n3_; clear hg hw hp_))
        go_roundg k1
        case measure => have := HK1.out; omega
        case rel => exact ⟨(y106), (wrap64 (x4_1 + 1)), rS, H', ⟨by have := HK1.out; omega⟩, ⟨by (with_reducible repeat (first | apply rA | apply rN | apply rD)); exact HO_3.out⟩, ⟨pB BK101⟩, ⟨pB BK102⟩, ⟨pH HB⟩⟩
       ·rw [if_neg c12] at H
        exact absurd H (by simp)
      ·rw [if_neg c11] at H
       exact absurd H (by simp)
     ·rw [if_neg c10] at H
      have c10b0 : decide (x4_1 < a0_0) = false := decide_eq_false c10
      clear c10
      obtain ⟨t107, A18, H⟩ := oB H
      try dsimp only at H
      obtain ⟨⟨t110, t111, t114⟩, A19, H⟩ := oB H
      try dsimp only at H
      simp only [Option.some.injEq, Prod.mk.injEq] at H
      obtain ⟨rfl, rfl, rfl⟩ := H
      have hnb20 := NB101_102.out
      have hnc20 := NB102_101.out
      obtain ⟨hcz21_0, hcz21_1, hcz21_2, hfz21_0, hfz21_1, hfz21_2⟩ := cA3 BK101
      try go_wp2
      have n_ := aJ (aK (Kd.R_drew HO_3.out)) (aJ (aK (blk_drew BK101.out)) (aJ (aK (blk_drew BK102.out)) (aK (below_drew1 HB.out))))
      clear HO_3 BK101 BK102 HB
      obtain ⟨HO_3, BK101, BK102, HB⟩ := n_
      obtain ⟨Ao23, co23, eo23⟩ := Kd.R_slice HO_3.out
      (first | subst eo23 | (injection eo23 with f1_ f2_ f3_; have f4_ := f1_.symm; have f5_ := f3_.symm; clear f1_ f2_ f3_; subst f4_; subst f5_))
      refine start_ (n := 6) (S := fun w' => w'.cell? ⟨gb101, 0, none⟩ = some (.int .i64 a0_0) ∧ w'.cell? ⟨gb101, 1, none⟩ = some (.slice A0_1 l0_1.length c0_1) ∧ w'.cell? ⟨gb101, 2, none⟩ = some (.slice A0_2 l0_2.length c0_2)) (ds := []) (bs 0 6) (by kernel_rfl) rfl rfl ⟨(blk_cell BK101.out 0).trans rfl, (blk_cell BK101.out 1).trans rfl, (blk_cell BK101.out 2).trans rfl⟩ (fun hHeld => ?_)
      generalize wr.drew = w22 at HO_3 BK101 BK102 HB hHeld ⊢
      refine pS (i := 2) (N := some 20) #[false, false, true, false, false, false] (by kernel_rfl) ?_
      refine take_ (i := 0) (N := some 18) (v := ?_) (a' := ?_) #[true, false, true, false, false, false] rfl rfl (by kernel_rfl) (fun _ _ _ h => h) (Or.inl ⟨by rfl, ?_⟩) hHeld ?_ ?_
      rotate_left
      ·rintro w' ⟨s0, s1, s2⟩
       go_simp
       with_reducible rfl
      rotate_left
      ·simp only [sP, i64_w, i32_w]
       rfl
      refine take_ (i := 1) (N := some 19) (v := ?_) (a' := ?_) (bs 3 3) rfl rfl (by kernel_rfl) (fun _ _ _ h => h) (Or.inl ⟨by rfl, ?_⟩) hHeld ?_ ?_
      rotate_left
      ·rintro w' ⟨s0, s1, s2⟩
       go_simp
       with_reducible rfl
      rotate_left
      ·simp only [sP, i64_w, i32_w]
       rfl
      refine one_ (i := 3) (N := some 21) (bs 4 2) rfl rfl (by kernel_rfl) (by decide) (fun K hK => ?_)
      refine goes_ Tryd.func46 (by kernel_rfl) rfl #[.agg #[.int .i64 a0_0, .slice A0_1 l0_1.length c0_1, .slice A0_2 l0_2.length c0_2], .slice Ao23 x3_1.length co23] (by rfl) rfl rfl tA ?_
      with_reducible refine (spec_l7Keep.calls k1 a0_0 _ _ l0_1 _ _ l0_2 (fun k_ => some k_ = (.slice Ao23 x3_1.length co23 : Value).ownBlock) (.slice Ao23 x3_1.length co23) x3_1 t107 w _ ?side1 ?side2 ?side3 ?side4 ?side5 ?side6 A18.out).mono ?_
      (case side1 => exact yH HB)
      (case side2 => exact Kd.C_kept_came k61_heap HR0_1.out (pH HB) (fun k_ hs_ => (fun e_ => Kd.R_base HO_3.out k_ e_.symm) hs_))
      (case side3 => exact HC0_1.out)
      (case side4 => exact Kd.C_kept_came (Kd.heap_int .i64) HR0_2.out (pH HB) (fun k_ hs_ => (fun e_ => Kd.R_base HO_3.out k_ e_.symm) hs_))
      (case side5 => exact HC0_2.out)
      (case side6 => exact Kd.R_tight rfl HO_3.out)
      rintro e w24 ⟨v108, rfl, ho0, hb, hkp⟩
      refine ⟨_, rfl, ?_⟩
      have n_ := aJ (aK (blk_kept BK101.out hkp (fun hs_ => (fun e_ => (Kd.R_ne HO_3.out BK101.out (by decide)) e_) hs_))) (aJ (aK (blk_kept BK102.out hkp (fun hs_ => (fun e_ => (Kd.R_ne HO_3.out BK102.out (by decide)) e_) hs_))) (aJ (aK (Kd.R_mono (ok' := fun k_ => True) ho0 (fun k_ hk_ => trivial))) (aK (hb))))
      clear BK101 BK102 HB HO_3
      obtain ⟨BK101, BK102, HO109, HB⟩ := n_
      (try clear hb)
      (try clear hkp)
      (try clear ho0)
      obtain ⟨Ao25, co25, eo25⟩ := Kd.R_slice HO109.out
      (first | subst eo25 | (injection eo25 with f1_ f2_ f3_; have f4_ := f1_.symm; have f5_ := f3_.symm; clear f1_ f2_ f3_; subst f4_; subst f5_))
      refine hK.out _ _ ⟨(blk_cell BK101.out 0).trans rfl, (blk_cell BK101.out 1).trans rfl, (blk_cell BK101.out 2).trans rfl⟩ (fun hHeld => ?_)
      clear hK K
      refine norm_ (a' := ?_) ?_ ?_
      rotate_left
      ·show Act.put _ (some 21) _ = _
       simp only [sP, i64_w, i32_w]
       rfl
      refine one_ (i := 4) (N := some 22) (bs 5 1) rfl rfl (by kernel_rfl) (by decide) (fun K hK => ?_)
      refine goes_ Tryd.func45 (by kernel_rfl) rfl #[.agg #[.int .i64 a0_0, .slice A0_1 l0_1.length c0_1, .slice A0_2 l0_2.length c0_2], .slice Ao25 t107.length co25] (by rfl) rfl rfl tA ?_
      with_reducible refine (spec_l7Move.calls k1 a0_0 _ _ l0_1 _ _ l0_2 _ _ t107 t110 t111 t114 _ ?side1 ?side2 ?side3 ?side4 ?side5 ?side6 A19.out).mono ?_
      (case side1 => exact sC (Kd.C_below HR0_1.out HB.out))
      (case side2 => exact HC0_1.out)
      (case side3 => exact sC (Kd.C_below HR0_2.out HB.out))
      (case side4 => exact HC0_2.out)
      (case side5 => exact sC ((Kd.R_reads' HO109.out).2.2))
      (case side6 => exact (Kd.R_reads' HO109.out).2.1)
      rintro e w26 ⟨v112, v115, rfl, ho0, ho1, hb⟩
      refine ⟨_, rfl, ?_⟩
      have n_ := aJ (aK (Kd.R_below HO109.out hb)) (aJ (aK (Kd.R_lower ho0 (below_size (pH HB)))) (aJ (aK (Kd.R_lower ho1 (below_size (pH HB)))) (aJ (aK (blk_below BK101.out hb)) (aJ (aK (blk_below BK102.out hb)) (aK (below_step (pH HB) hb))))))
      clear HO109 BK101 BK102 HB
      obtain ⟨HO109, HO113, HO116, BK101, BK102, HB⟩ := n_
      (try clear hb)
      (try clear hb2)
      (try clear hk)
      (try clear hi)
      (try clear ho0)
      (try clear ho1)
      obtain ⟨Ao28, co28, eo28⟩ := Kd.R_slice HO113.out
      (first | subst eo28 | (injection eo28 with f1_ f2_ f3_; have f4_ := f1_.symm; have f5_ := f3_.symm; clear f1_ f2_ f3_; subst f4_; subst f5_))
      obtain ⟨Ao30, co30, eo30⟩ := Kd.R_slice HO116.out
      (first | subst eo30 | (injection eo30 with f1_ f2_ f3_; have f4_ := f1_.symm; have f5_ := f3_.symm; clear f1_ f2_ f3_; subst f4_; subst f5_))
      refine hK.out _ _ ⟨(blk_cell BK101.out 0).trans rfl, (blk_cell BK101.out 1).trans rfl, (blk_cell BK101.out 2).trans rfl⟩ (fun hHeld => ?_)
      clear hK K
      refine norm_ (a' := ?_) ?_ ?_
      rotate_left
      ·show Act.put _ (some 22) _ = _
       simp only [sP, i64_w, i32_w]
       rfl
      refine one_ (i := 5) (N := none) (bs 6 0) rfl rfl (by kernel_rfl) (by decide) (fun K hK => ?_)
      have hs27 : w26.cell? ⟨gb102, 0, none⟩ = some (.int .i64 0) := (blk_cell BK102.out 0).trans rfl
      have hfs27 := blk_frozen BK102.out 0
      have hns27_0 := NB101_102.out
      have hms27_0 := NB102_101.out
      have hs29 : w26.cell? ⟨gb102, 1, none⟩ = some (.slice none 0 0) := (blk_cell BK102.out 1).trans rfl
      have hfs29 := blk_frozen BK102.out 1
      have hns29_0 := NB101_102.out
      have hms29_0 := NB102_101.out
      have hs31 : w26.cell? ⟨gb102, 2, none⟩ = some (.slice none 0 0) := (blk_cell BK102.out 2).trans rfl
      have hfs31 := blk_frozen BK102.out 2
      have hns31_0 := NB101_102.out
      have hms31_0 := NB102_101.out
      refine skip_ (w1 := ?_) (by rfl) rfl ?_ ?_
      rotate_left
      ·go_simp
       rfl
      refine hK.out _ _ ⟨(cF3 NB101_102.out (hHeld.1)), (cF3 NB101_102.out (hHeld.2.1)), (cF3 NB101_102.out (hHeld.2.2))⟩ (fun hHeld => ?_)
      clear hK K
      refine done_ (by kernel_rfl) ?_
      try go_wp2
      refine bodyPost_ret (results_cell_row rfl _ _ gb102 31 #[.int .i64 t110, .slice Ao28 t111.length co28, .slice Ao30 t114.length co30] (0, 0) _ rfl (p3 BK102) Tryd.underlying31 rfl (by kernel_rfl)) rfl ?_
      exact ⟨_, _, eW, by (with_reducible repeat (first | apply rA | apply rN | apply rD)); exact Kd.R_mono (Kd.R_far (p := ⟨gb102, 2, none⟩) (Kd.R_far (p := ⟨gb102, 1, none⟩) (Kd.R_far (p := ⟨gb102, 0, none⟩) (Kd.R_types HO113.out BK102.out (by decide)) (fun _ hk => hk.2) (.int .i64 t110)) (fun _ hk => hk.2) (.slice Ao28 t111.length co28)) (fun _ hk => hk.2) (.slice Ao30 t114.length co30)) (fun _ hk => trivial), by (with_reducible repeat (first | apply rA | apply rN | apply rD)); exact Kd.R_mono (Kd.R_far (p := ⟨gb102, 2, none⟩) (Kd.R_far (p := ⟨gb102, 1, none⟩) (Kd.R_far (p := ⟨gb102, 0, none⟩) (Kd.R_types HO116.out BK102.out (by decide)) (fun _ hk => hk.2) (.int .i64 t110)) (fun _ hk => hk.2) (.slice Ao28 t111.length co28)) (fun _ hk => hk.2) (.slice Ao30 t114.length co30)) (fun _ hk => trivial), pH HB⟩
  ·rw [if_neg c3] at H
   exact absurd H (by simp)
 ·rw [if_neg c2] at H
  exact absurd H (by simp)


def impl_Heap_minor.l0 : Nat → List Int → Int → Int → Int → List (S61) → List Int → Option (Int × (List (S61)) × List Int)
 | 0, _, _, _, _, _, _ => none
 | k + 1, x3, x11, x12, x102000, x102001, x102002 => if x12 < x11 then (if x3.length < 17592186044416 then (impl_Heap_minor.l0 k (x3 ++ [x12]) x11 (wrap64 (x12 + 1)) x102000 x102001 x102002) else (none)) else ((impl_reached.f k x102001 x3).bind fun t109 => ((impl_kept.f k x102001 x102002 t109).bind fun bt112 => (some ((bt112.1.length : Int), bt112.1, bt112.2))))
def impl_Heap_minor.f (k : Nat) (a0_0 : Int) (l0_1 : List (S61)) (l0_2 : List Int) : Option (Int × (List (S61)) × List Int) := (slices_Clone_int_int.f l0_2).bind fun t103 => (impl_Heap_minor.l0 k t103 a0_0 0 a0_0 l0_1 l0_2)
def impl_Heap_minor.T7 : Bool × List (List Nat × List Nat) := (true, [([], []), ([0], [0]), ([], []), ([2], [2]), ([], []), ([4], [4]), ([], []), ([5, 6], [5, 6]), ([1, 3, 7, 7], [1, 3, 7]), ([8], [8]), ([9], [9]), ([9], [9]), ([10, 8, 0, 1, 2, 3, 4, 5, 6, 7, 8, 9, 10], [10]), ([11, 12, 0, 1, 2, 3, 4, 5, 6, 7, 8, 9, 10, 11, 12], [11])])
def impl_Heap_minor.B7 : List Nat := [0, 1, 0, 4, 0, 16, 0, 112, 255, 511, 1023, 1023, 2047, 8191]
theorem impl_Heap_minor.tab7 : rtab .any (opsOf Tryd.f34 7) = impl_Heap_minor.T7 := by kernel_rfl
theorem impl_Heap_minor.bits7 : waitsOk impl_Heap_minor.T7.2 impl_Heap_minor.B7 = true := by kernel_rfl
set_option maxHeartbeats 8000000 in
set_option maxRecDepth 100000 in
theorem impl_Heap_minor.calls (k : Nat) (a0_0 : Int) (A0_1 : Option Addr) (c0_1 : Nat) (l0_1 : List (S61)) (A0_2 : Option Addr) (c0_2 : Nat) (l0_2 : List Int) (r1 : Int) (r2 : List (S61)) (r3 : List Int) (w : World) (hr0_1 : Kd.C k61 w A0_1 l0_1.length l0_1) (hc0_1 : l0_1.length ≤ c0_1) (hr0_2 : Kd.C (Kd.int .i64) w A0_2 l0_2.length l0_2) (hc0_2 : l0_2.length ≤ c0_2) (h : impl_Heap_minor.f k a0_0 l0_1 l0_2 = some (r1, r2, r3)) :
  Calls Tryd.prog 34 #[.agg #[.int .i64 a0_0, .slice A0_1 l0_1.length c0_1, .slice A0_2 l0_2.length c0_2]] w fun e w' => ∃ v1_ v2_ : Value, e = .returned (.agg #[.int .i64 r1, v1_, v2_]) ∧ Kd.R k61 61 w' w.heap.size (fun _ => True) v1_ r2 ∧ Kd.R (Kd.int .i64) 3 w' w.heap.size (fun _ => True) v2_ r3 ∧ Below w.heap.size w w' := by
 have hu31 := Tryd.underlying31
 have HR0_1 := aK hr0_1
 have HC0_1 := aK hc0_1
 clear hr0_1 hc0_1
 have HR0_2 := aK hr0_2
 have HC0_2 := aK hc0_2
 clear hr0_2 hc0_2
 have HB := aK (Below.refl w.heap.size w)
 have H : ((slices_Clone_int_int.f l0_2).bind fun t103 => (impl_Heap_minor.l0 k t103 a0_0 0 a0_0 l0_1 l0_2)) = some (r1, r2, r3) := h
 clear h
 obtain ⟨t103, A2, H⟩ := oB H
 try dsimp only at H
 have H' := aK H
 clear H
 go_enter Tryd.func34, Tryd.ntmps34
 go_wp2_with (first | ((with_reducible refine gate_dst (N := 1) rfl ?_); refine bE (N := 1) (cs := #[.int .i64 a0_0, .slice A0_1 l0_1.length c0_1, .slice A0_2 l0_2.length c0_2]) (t := 31) ?_; intro gb101 hg w3 hbox hb; have GW101 := qw HB hg; have GE101 := qw HB hg; have BK101 := aK hbox; replace HB := qs HB hb; clear hb hbox hg) | ((with_reducible refine gate_dst (N := 2) rfl ?_); refine bE (N := 2) (cs := #[.int .i64 0, .slice none 0 0, .slice none 0 0]) (t := 31) ?_; intro gb102 hg w4 hbox hb; have GW102 := qw HB hg; have GE102 := qw HB hg; have NB101_102 := ql BK101 hg; have NB102_101 := qg BK101 hg; replace BK101 := qb BK101 hb; have BK102 := aK hbox; replace HB := qs HB hb; clear hb hbox hg; have hnb5 := NB101_102.out; have hnc5 := NB102_101.out; obtain ⟨hcz6_0, hcz6_1, hcz6_2, hfz6_0, hfz6_1, hfz6_2⟩ := cA3 BK101) | ((with_reducible refine gate_callee (f := 47) rfl ?_); refine goesL_ (some 9) rfl rfl Tryd.func47 (by kernel_rfl) rfl #[.slice A0_2 l0_2.length c0_2] rfl tA ?_; (with_reducible refine (slices_Clone_int_int.calls _ _ l0_2 t103 _ ?side1 ?side2 A2.out).mono ?_); (case side1 => exact sC (Kd.C_below HR0_2.out HB.out)); (case side2 => exact HC0_2.out); rintro e w7 ⟨v104, rfl, ho0, hb⟩; refine ⟨_, rfl, ?_⟩; have HO105 := aK (Kd.R_lower ho0 (below_size HB.out)); replace BK101 := qb BK101 hb; replace BK102 := qb BK102 hb; replace HB := qs HB hb; (try clear hb); (try clear ho0); obtain ⟨hcz8_0, hcz8_1, hcz8_2, hfz8_0, hfz8_1, hfz8_2⟩ := cA3 BK101))
 go_loopg [3, 12] k (fun kq v3 v12 w' => ∃ (x3_1 : List Int) (x12_1 : Int), v12 = .int .i64 x12_1 ∧ Aside0 (impl_Heap_minor.l0 kq x3_1 a0_0 x12_1 a0_0 l0_1 l0_2 = some (r1, r2, r3)) ∧ Aside0 (kq ≤ k) ∧ Aside0 (Kd.R (Kd.int .i64) 3 w' w.heap.size (fun _ => True) v3 x3_1) ∧ Aside0 (w'.heap[gb101]? = some (.cells #[.int .i64 a0_0, (.slice A0_1 l0_1.length c0_1), (.slice A0_2 l0_2.length c0_2)] 31 (0, 0))) ∧ Aside0 (w'.heap[gb102]? = some (.cells #[.int .i64 0, (.slice none 0 0), (.slice none 0 0)] 31 (0, 0))) ∧ Aside0 (Below w.heap.size w w'))
 case atStart => exact ⟨(t103), (0), rS, H', ⟨Nat.le_refl _⟩, ⟨by (with_reducible repeat (first | apply rA | apply rN | apply rD)); exact HO105.out⟩, ⟨pB BK101⟩, ⟨pB BK102⟩, ⟨pH HB⟩⟩
 case round =>
  clear H'
  try clear p2; try clear c3; try clear c4; try clear c5; try clear hcz6_0 hcz6_1 hcz6_2 hfz6_0 hfz6_1 hfz6_2; try clear hcz8_0 hcz8_1 hcz8_2 hfz8_0 hfz8_1 hfz8_2
  obtain ⟨x3_1, x12_1, rfl, HA, HK1, HO_3, BK101, BK102, HB⟩ := hrel
  cases gk with
  | zero => exact absurd HA.out (by simp [impl_Heap_minor.l0])
  | succ k1 =>
   have H := HA.out
   clear HA
   simp only [impl_Heap_minor.l0] at H
   by_cases c9 : x12_1 < a0_0
   ·rw [if_pos c9] at H
    have c9b0 : decide (x12_1 < a0_0) = true := decide_eq_true c9
    clear c9
    by_cases c10 : x3_1.length < 17592186044416
    ·rw [if_pos c10] at H
     have LMc10 := aK c10
     clear c10
     obtain ⟨y106, hy106⟩ : ∃ y_ : List Int, y_ = (x3_1 ++ [x12_1]) := ⟨_, rfl⟩
     replace H : (impl_Heap_minor.l0 k1 y106 a0_0 (wrap64 (x12_1 + 1)) a0_0 l0_1 l0_2) = some (r1, r2, r3) := by first | (rw [hy106]; with_reducible exact H) | (have H2_ := (Option.bind_some _ _).symm.trans H; rw [hy106]; with_reducible exact H2_) | (have H2_ := (Option.bind_some _ _).symm.trans H; with_reducible exact H2_) | with_reducible exact H | (rw [hy106]; exact H) | exact H
     have Ny106 := aK hy106
     clear hy106
     have H' := aK H
     clear H
     go_wp2_with (first | ((with_reducible refine gate_builtin (b := .append) (xs := #[.tmp 15, .tmp 17]) rfl ?_); at_builtin; refine Kd.R_append (Kd.int .i64) (w0 := w) w.heap.size rfl (.tmp 15) (.tmp 17) 23 3 (.int .i64 0) 8 rfl Tryd.underlying23 info3 rfl (by decide) (by omega) u3 x3_1 x12_1 [.int .i64 x12_1] (fun _ => True) (fun _ => False) rfl rfl ?aP (fun _ hk => hk.elim) ?aF ?aO ?aB ?aS ?aL ?_; (case aP => exact rfl); (case aB => exact (pH HB)); (case aF => exact (fun _ _ => trivial)); (case aO => exact HO_3.out); (case aS => exact (below_size (pH HB))); (case aL => have := LMc10.out; omega); intro v107 w11 ho hb hg hat; rw [← Ny106.out] at ho; have n0_ := aK (blk_grown BK101.out hg (Kd.R_ne HO_3.out BK101.out (by decide))); have n1_ := aK (blk_grown BK102.out hg (Kd.R_ne HO_3.out BK102.out (by decide))); have n2_ := aK (hb); have HO108 := aK (ho); clear BK101; have BK101 := n0_; clear n0_; clear BK102; have BK102 := n1_; clear n1_; clear HB; have HB := n2_; clear n2_; clear HO_3; clear ho hb hg hat))
     go_roundg k1
     case measure => have := HK1.out; omega
     case rel => exact ⟨(y106), (wrap64 (x12_1 + 1)), rS, H', ⟨by have := HK1.out; omega⟩, ⟨by (with_reducible repeat (first | apply rA | apply rN | apply rD)); exact HO108.out⟩, ⟨pB BK101⟩, ⟨pB BK102⟩, ⟨pH HB⟩⟩
    ·rw [if_neg c10] at H
     exact absurd H (by simp)
   ·rw [if_neg c9] at H
    have c9b0 : decide (x12_1 < a0_0) = false := decide_eq_false c9
    clear c9
    obtain ⟨t109, A12, H⟩ := oB H
    try dsimp only at H
    obtain ⟨⟨t112, t113⟩, A13, H⟩ := oB H
    try dsimp only at H
    simp only [Option.some.injEq, Prod.mk.injEq] at H
    obtain ⟨rfl, rfl, rfl⟩ := H
    try go_wp2
    have n_ := aJ (aK (Kd.R_drew HO_3.out)) (aJ (aK (blk_drew BK101.out)) (aJ (aK (blk_drew BK102.out)) (aK (below_drew1 HB.out))))
    clear HO_3 BK101 BK102 HB
    obtain ⟨HO_3, BK101, BK102, HB⟩ := n_
    obtain ⟨Ao15, co15, eo15⟩ := Kd.R_slice HO_3.out
    (first | subst eo15 | (injection eo15 with f1_ f2_ f3_; have f4_ := f1_.symm; have f5_ := f3_.symm; clear f1_ f2_ f3_; subst f4_; subst f5_))
    refine start_ (n := 14) (S := fun w' => w'.cell? ⟨gb101, 0, none⟩ = some (.int .i64 a0_0) ∧ w'.cell? ⟨gb101, 1, none⟩ = some (.slice A0_1 l0_1.length c0_1) ∧ w'.cell? ⟨gb101, 2, none⟩ = some (.slice A0_2 l0_2.length c0_2)) (ds := []) (bs 0 14) (by kernel_rfl) rfl rfl ⟨(blk_cell BK101.out 0).trans rfl, (blk_cell BK101.out 1).trans rfl, (blk_cell BK101.out 2).trans rfl⟩ (fun hHeld => ?_); refine with_tabW impl_Heap_minor.tab7 impl_Heap_minor.bits7 (fun HT_ HW_ => ?_)
    generalize wr.drew = w14 at HO_3 BK101 BK102 HB hHeld ⊢
    refine pS (i := 0) (N := some 21) (bs 1 13) (aO HT_) ?_
    refine pS (i := 2) (N := some 23) #[true, false, true, false, false, false, false, false, false, false, false, false, false, false] (aO HT_) ?_
    refine pS (i := 4) (N := some 25) #[true, false, true, false, true, false, false, false, false, false, false, false, false, false] (aO HT_) ?_
    refine pS (i := 6) (N := some 27) #[true, false, true, false, true, false, true, false, false, false, false, false, false, false] (aO HT_) ?_
    refine take_ (i := 1) (N := some 22) (v := ?_) (a' := ?_) #[true, true, true, false, true, false, true, false, false, false, false, false, false, false] rfl rfl (take_ofW HT_.out HW_.out (by kernel_rfl)) (fun _ _ _ h => h) (Or.inl ⟨by rfl, ?_⟩) hHeld ?_ ?_
    rotate_left
    ·rintro w' ⟨s0, s1, s2⟩
     go_simp
     with_reducible rfl
    rotate_left
    ·simp only [sP, i64_w, i32_w]
     rfl
    refine take_ (i := 3) (N := some 24) (v := ?_) (a' := ?_) #[true, true, true, true, true, false, true, false, false, false, false, false, false, false] rfl rfl (take_ofW HT_.out HW_.out (by kernel_rfl)) (fun _ _ _ h => h) (Or.inl ⟨by rfl, ?_⟩) hHeld ?_ ?_
    rotate_left
    ·rintro w' ⟨s0, s1, s2⟩
     go_simp
     with_reducible rfl
    rotate_left
    ·simp only [sP, i64_w, i32_w]
     rfl
    refine take_ (i := 5) (N := some 26) (v := ?_) (a' := ?_) (bs 7 7) rfl rfl (take_ofW HT_.out HW_.out (by kernel_rfl)) (fun _ _ _ h => h) (Or.inl ⟨by rfl, ?_⟩) hHeld ?_ ?_
    rotate_left
    ·rintro w' ⟨s0, s1, s2⟩
     go_simp
     with_reducible rfl
    rotate_left
    ·simp only [sP, i64_w, i32_w]
     rfl
    refine one_ (i := 7) (N := some 28) (bs 8 6) rfl rfl (one_of HT_.out (by kernel_rfl)) (by decide) (fun K hK => ?_)
    refine goes_ Tryd.func32 (by kernel_rfl) rfl #[.slice A0_1 l0_1.length c0_1, .slice Ao15 x3_1.length co15, .func (.func 33) #[] #[]] (by rfl) rfl rfl tA ?_
    with_reducible refine (impl_reached.calls k1 _ _ l0_1 _ _ x3_1  t109 _ ?side1 ?side2 ?side3 ?side4 A12.out).mono ?_
    (case side1 => exact sC (Kd.C_below HR0_1.out HB.out))
    (case side2 => exact HC0_1.out)
    (case side3 => exact sC ((Kd.R_reads' HO_3.out).2.2))
    (case side4 => exact (Kd.R_reads' HO_3.out).2.1)
    rintro e w16 ⟨v110, rfl, ho0, hb⟩
    refine ⟨_, rfl, ?_⟩
    have n_ := aJ (aK (Kd.R_below HO_3.out hb)) (aJ (aK (Kd.R_lower ho0 (below_size (pH HB)))) (aJ (aK (blk_below BK101.out hb)) (aJ (aK (blk_below BK102.out hb)) (aK (below_step (pH HB) hb)))))
    clear HO_3 BK101 BK102 HB
    obtain ⟨HO_3, HO111, BK101, BK102, HB⟩ := n_
    (try clear hb)
    (try clear hb2)
    (try clear hk)
    (try clear hi)
    (try clear ho0)
    obtain ⟨Ao17, co17, eo17⟩ := Kd.R_slice HO111.out
    (first | subst eo17 | (injection eo17 with f1_ f2_ f3_; have f4_ := f1_.symm; have f5_ := f3_.symm; clear f1_ f2_ f3_; subst f4_; subst f5_))
    refine hK.out _ _ ⟨(blk_cell BK101.out 0).trans rfl, (blk_cell BK101.out 1).trans rfl, (blk_cell BK101.out 2).trans rfl⟩ (fun hHeld => ?_)
    clear hK K
    refine norm_ (a' := ?_) ?_ ?_
    rotate_left
    ·show Act.put _ (some 28) _ = _
     simp only [sP, i64_w, i32_w]
     rfl
    refine one_ (i := 8) (N := some 29) (bs 9 5) rfl rfl (one_of HT_.out (by kernel_rfl)) (by decide) (fun K hK => ?_)
    refine goes_ Tryd.func44 (by kernel_rfl) rfl #[.slice A0_1 l0_1.length c0_1, .slice A0_2 l0_2.length c0_2, .slice Ao17 t109.length co17] (by rfl) rfl rfl tA ?_
    with_reducible refine (impl_kept.calls k1 _ _ l0_1 _ _ l0_2 _ _ t109 t112 t113 _ ?side1 ?side2 ?side3 ?side4 ?side5 ?side6 A13.out).mono ?_
    (case side1 => exact sC (Kd.C_below HR0_1.out HB.out))
    (case side2 => exact HC0_1.out)
    (case side3 => exact sC (Kd.C_below HR0_2.out HB.out))
    (case side4 => exact HC0_2.out)
    (case side5 => exact sC ((Kd.R_reads' HO111.out).2.2))
    (case side6 => exact (Kd.R_reads' HO111.out).2.1)
    rintro e w18 ⟨v114, v116, rfl, ho0, ho1, hb⟩
    refine ⟨_, rfl, ?_⟩
    have n_ := aJ (aK (Kd.R_elder' HO_3.out (Kd.R_base ho1) hb)) (aJ (aK (Kd.R_below HO111.out hb)) (aJ (aK (Kd.R_lower ho0 (below_size (pH HB)))) (aJ (aK (Kd.R_lower (Kd.R_new' ho1 (Kd.R_lt HO_3.out)) (below_size (pH HB)))) (aJ (aK (blk_below BK101.out hb)) (aJ (aK (blk_below BK102.out hb)) (aK (below_step (pH HB) hb)))))))
    clear HO_3 HO111 BK101 BK102 HB
    obtain ⟨HO_3, HO111, HO115, HO117, BK101, BK102, HB⟩ := n_
    (try clear hb)
    (try clear hb2)
    (try clear hk)
    (try clear hi)
    (try clear ho0)
    (try clear ho1)
    refine hK.out _ _ ⟨(blk_cell BK101.out 0).trans rfl, (blk_cell BK101.out 1).trans rfl, (blk_cell BK101.out 2).trans rfl⟩ (fun hHeld => ?_)
    clear hK K
    refine norm_ (a' := ?_) ?_ ?_
    rotate_left
    ·show Act.put _ (some 29) _ = _
     simp only [sP, i64_w, i32_w]
     rfl
    refine pS (i := 9) (N := some 20) (bs 10 4) (aO HT_) ?_
    refine pS (i := 10) (N := some 30) (bs 11 3) (aO HT_) ?_
    refine pS (i := 11) (N := some 31) (bs 12 2) (aO HT_) ?_
    refine pS (i := 12) (N := some 5) (bs 13 1) (aO HT_) ?_
    refine pS (i := 13) (N := some 6) (bs 14 0) (aO HT_) ?_
    refine done_ (done_of HT_.out (by kernel_rfl)) ?_
    obtain ⟨Ao19, co19, eo19⟩ := Kd.R_slice HO115.out
    subst eo19
    obtain ⟨Ao20, co20, eo20⟩ := Kd.R_slice HO117.out
    subst eo20
    have hnb21 := NB102_101.out
    have hnc21 := NB101_102.out
    obtain ⟨hcz22_0, hcz22_1, hcz22_2, hfz22_0, hfz22_1, hfz22_2⟩ := cA3 BK102
    try go_wp2
    refine bodyPost_ret (results_cell_row rfl _ _ gb102 31 #[.int .i64 (t112.length : Int), .slice Ao19 t112.length co19, .slice Ao20 t113.length co20] (0, 0) _ rfl (p3 BK102) Tryd.underlying31 rfl (by kernel_rfl)) rfl ?_
    exact ⟨_, _, eW, by (with_reducible repeat (first | apply rA | apply rN | apply rD)); exact Kd.R_mono (Kd.R_far (p := ⟨gb102, 2, none⟩) (Kd.R_far (p := ⟨gb102, 1, none⟩) (Kd.R_far (p := ⟨gb102, 0, none⟩) (Kd.R_types HO115.out BK102.out (by decide)) (fun _ hk => hk.2) (.int .i64 (t112.length : Int))) (fun _ hk => hk.2) (.slice Ao19 t112.length co19)) (fun _ hk => hk.2) (.slice Ao20 t113.length co20)) (fun _ hk => trivial), by (with_reducible repeat (first | apply rA | apply rN | apply rD)); exact Kd.R_mono (Kd.R_far (p := ⟨gb102, 2, none⟩) (Kd.R_far (p := ⟨gb102, 1, none⟩) (Kd.R_far (p := ⟨gb102, 0, none⟩) (Kd.R_types HO117.out BK102.out (by decide)) (fun _ hk => hk.2) (.int .i64 (t112.length : Int))) (fun _ hk => hk.2) (.slice Ao19 t112.length co19)) (fun _ hk => hk.2) (.slice Ao20 t113.length co20)) (fun _ hk => trivial), pH HB⟩

end Go.Proofs.YtcbgjcnekdoloaaDoor.G

namespace Go.Proofs.YtcbgjcnekdoloaaDoor.HeapL
open Go.RowKit Go.Proofs.YtcbgjcnekdoloaaDoor.G Go.Proofs.YtcbgjcnekdoloaaDoor.EvL Go.Proofs.YtcbgjcnekdoloaaDoorW.PrintWords Go.Proofs.YtcbgjcnekdoloaaDoorW.PrintLast
set_option linter.unusedVariables false

def firsts (n : Nat) : List Int := (List.range n).map fun (j : Nat) => (j : Int)
theorem mem_firsts (n : Nat) (x : Int) : x ∈ firsts n ↔ 0 ≤ x ∧ x < (n : Int) := by
  unfold firsts
  rw [List.mem_map]
  constructor
  · rintro ⟨j, hj, rfl⟩
    have : j < n := by simpa using hj
    omega
  · intro h
    exact ⟨x.toNat, by simp; omega, by omega⟩

theorem minor_from (o : Nat) (c : List S61) (r : List Int) (ho : o ≤ 200) (R : Int × List S61 × List Int) : ∀ (d i : Nat) (acc : List Int), i + d = o → acc.length ≤ 60 + i →
    Ev (fun k => (impl_reached.f k c (acc ++ (List.range d).map fun (j : Nat) => ((i + j : Nat) : Int))).bind fun t109 => ((impl_kept.f k c r t109).bind fun bt112 => (some ((bt112.1.length : Int), bt112.1, bt112.2)))) R →
    Ev (fun k => impl_Heap_minor.l0 k acc o i o c r) R := by
  intro d
  induction d with
  | zero =>
    intro i acc hi ha h
    refine Ev.succ ?_
    simp only [impl_Heap_minor.l0]
    refine Ev.ite_neg (by omega) ?_
    rw [List.range_zero, List.map_nil, List.append_nil] at h
    exact h
  | succ d ih =>
    intro i acc hi ha h
    refine Ev.step (f := fun k => impl_Heap_minor.l0 k (acc ++ [(i : Int)]) o ((i + 1 : Nat) : Int) o c r) (fun k => ?_) (ih (i + 1) (acc ++ [(i : Int)]) (by omega) (by simp; omega) ?_)
    · simp only [impl_Heap_minor.l0]
      rw [if_pos (by omega), if_pos (by omega), next i (n := o) (by omega) (by omega)]
    · rw [List.range_succ_eq_map, List.map_cons, List.map_map, Nat.add_zero] at h
      have e2 : List.map (fun (j : Nat) => ((i + 1 + j : Nat) : Int)) (List.range d) = List.map ((fun (j : Nat) => ((i + j : Nat) : Int)) ∘ Nat.succ) (List.range d) := by
        apply List.map_congr_left
        intro j _
        show ((i + 1 + j : Nat) : Int) = ((i + (j + 1) : Nat) : Int)
        congr 1; omega
      rw [List.append_assoc, List.singleton_append, e2]
      exact h

theorem minor_spec (o : Nat) (c : List S61) (r : List Int) (ho : o ≤ c.length) (hn : c.length ≤ 200) (R : Int × List S61 × List Int) : ∀ (d i : Nat) (m : List Bool), i + d = o → m.length = c.length → (∀ j, getB m j = true ↔ j < i) →
    (∀ m', m'.length = c.length → (∀ j, getB m' j = true ↔ j < o) → Ev (fun k => (spec_l7Keep.f k o c r m').bind fun t107 => ((spec_l7Move.f k o c r t107).bind fun bt110 => (some (bt110.1, bt110.2.1, bt110.2.2)))) R) →
    Ev (fun k => spec_l7Minor.l0 k m i o c r) R := by
  intro d
  induction d with
  | zero =>
    intro i m hi hm hb h
    refine Ev.succ ?_
    simp only [spec_l7Minor.l0]
    refine Ev.ite_neg (by omega) (h m hm (fun j => by rw [hb j]; omega))
  | succ d ih =>
    intro i m hi hm hb h
    refine Ev.step (f := fun k => spec_l7Minor.l0 k (m.set i true) ((i + 1 : Nat) : Int) o c r) (fun k => ?_) (ih (i + 1) (m.set i true) (by omega) (by simpa using hm) (fun j => ?_) h)
    · simp only [spec_l7Minor.l0, Int.toNat_natCast]
      rw [if_pos (by omega), if_pos (by omega), if_pos (by omega), next i (n := o) (by omega) (by omega)]
    · rw [getB_set m _ _ (by omega), Bool.or_eq_true, hb j, decide_eq_true_iff]; omega

theorem minorBoth (old : Int) (c : List S61) (r : List Int) (hg : goodH old c r = true) : ∃ m, Least c (fun j => (j : Int) < old ∨ (j : Int) ∈ r) m ∧ Ev (fun k => spec_l7Minor.f k old c r) (told c m r) ∧ Ev (fun k => impl_Heap_minor.f k old c r) (told c m r) := by
  obtain ⟨hn, hr, ho, hc, hro⟩ := good_parts hg
  have hro' : ∀ x ∈ r, 0 ≤ x ∧ x < (c.length : Int) := fun x hx => of_decide_eq_true (List.all_eq_true.mp hro x hx)
  obtain ⟨o, rfl⟩ : ∃ o : Nat, old = (o : Int) := ⟨old.toNat, by omega⟩
  have hst : rootsOk c.length (r ++ firsts o) = true := by
    unfold rootsOk
    rw [List.all_eq_true]
    intro x hx
    rcases List.mem_append.mp hx with h | h
    · exact decide_eq_true (hro' x h)
    · have := (mem_firsts o x).mp h; exact decide_eq_true (by omega)
  have hlen : (firsts o).length = o := by unfold firsts; simp
  obtain ⟨m0, hm0, hev⟩ := implReached c (r ++ firsts o) hc hn (by rw [List.length_append, hlen]; omega) hst
  have hm : Least c (fun j => (j : Int) < (o : Int) ∨ (j : Int) ∈ r) m0 := hm0.congr (fun j _ => by rw [List.mem_append, mem_firsts]; constructor; (rintro (h | h); exact .inr h; exact .inl h.2); (rintro (h | h); exact .inr ⟨by omega, h⟩; exact .inl h))
  have hrm : ∀ x ∈ r, getB m0 x.toNat = true := fun x hx => hm.base x.toNat (by have := hro' x hx; omega) (.inr (by have := hro' x hx; rw [show ((x.toNat : Nat) : Int) = x by omega]; exact hx))
  refine ⟨m0, hm, ?_, ?_⟩
  · unfold spec_l7Minor.f
    refine Ev.ite_pos (by omega) (Ev.ite_pos (by omega) ?_)
    rw [Int.toNat_natCast]
    refine minor_spec o c r (by omega) hn _ o 0 (List.replicate c.length false) (by omega) (by simp) (fun j => by rw [getB_rep]; simp) (fun m' hl hb => ?_)
    obtain ⟨m1, hm1, hev1⟩ := specKeep (o : Int) c r m' hc hn hr hro hl
    have e : m1 = m0 := Least.eq (hm1.congr (fun j _ => by rw [hb j]; constructor; (rintro (h | h); exact .inl (by omega); exact .inr h); (rintro (h | h); exact .inl (by omega); exact .inr h))) hm
    subst e
    exact Ev.bind hev1 (Ev.bind (specMove (o : Int) c hc hn r m1 _ hm hr hro' hrm) (Ev.now _))
  · unfold impl_Heap_minor.f
    rw [clone_eq r (by omega)]
    simp only [Option.bind_some]
    refine minor_from o c r (by omega) _ o 0 r (by omega) (by omega) ?_
    simp only [Nat.zero_add]
    exact Ev.bind hev (Ev.bind (implKept c hc hn r m0 hm.len hr hro') (Ev.now _))
end Go.Proofs.YtcbgjcnekdoloaaDoor.HeapL

namespace Go.Proofs.YtcbgjcnekdoloaaDoor.G
open Go.RowKit Go.Proofs.YtcbgjcnekdoloaaDoorW.PrintWords Go.Proofs.YtcbgjcnekdoloaaDoorW.PrintLast Go.Proofs.YtcbgjcnekdoloaaDoorW.PrintMore Go.Proofs.YtcbgjcnekdoloaaDoor.Short
attribute [local go_sem] max2_int min2_int max_two min_two max_three min_three max_four min_four   -- for this text's walks alone
set_option linter.unusedVariables false
set_option linter.unusedSimpArgs false

def impl_marked.l0 : Nat → List Int → List Bool → Int → Int → Option (List Int)
 | 0, _, _, _, _ => none
 | k + 1, x3, x7, x8, x9 => if x9 < x8 then (if 0 ≤ x9 then (if x9 < (x7.length : Int) then (if rdOf false x7 x9 = true then (if x3.length < 17592186044416 then (impl_marked.l0 k (x3 ++ [x9]) x7 x8 (wrap64 (x9 + 1))) else (none)) else (impl_marked.l0 k x3 x7 x8 (wrap64 (x9 + 1)))) else (none)) else (none)) else (some x3)
def impl_marked.f (k : Nat) (l0 : List Bool) : Option (List Int) := impl_marked.l0 k (([] : List Int)) l0 (l0.length : Int) 0
set_option maxHeartbeats 8000000 in
set_option maxRecDepth 100000 in
theorem impl_marked.calls (k : Nat) (A0 : Option Addr) (c0 : Nat) (l0 : List Bool) (r : List Int) (w : World) (hr0 : Kd.C Kd.bool w A0 l0.length l0) (hc0 : l0.length ≤ c0) (h : impl_marked.f k l0 = some r) :
  Calls Tryd.prog 31 #[.slice A0 l0.length c0] w fun e w' => ∃ v0_ : Value, e = .returned (v0_) ∧ Kd.R (Kd.int .i64) 3 w' w.heap.size (fun _ => True) v0_ r ∧ Below w.heap.size w w' := by
 have HR0 := aK hr0
 have HC0 := aK hc0
 clear hr0 hc0
 have HB := aK (Below.refl w.heap.size w)
 have H : (impl_marked.l0 k (([] : List Int)) l0 (l0.length : Int) 0) = some r := h
 clear h
 obtain ⟨y101, hy101⟩ : ∃ y_ : List Int, y_ = (([] : List Int)) := ⟨_, rfl⟩
 replace H : (impl_marked.l0 k y101 l0 (l0.length : Int) 0) = some r := by first | (rw [hy101]; with_reducible exact H) | (have H2_ := (Option.bind_some _ _).symm.trans H; rw [hy101]; with_reducible exact H2_) | (have H2_ := (Option.bind_some _ _).symm.trans H; with_reducible exact H2_) | with_reducible exact H | (rw [hy101]; exact H) | exact H
 have Ny101 := aK hy101
 clear hy101
 have H' := aK H
 clear H
 go_enter Tryd.func31, Tryd.ntmps31
 go_wp2_with (first | ((with_reducible refine gate_dst (N := 6) rfl ?_); refine Kd.R_lit (Kd.int .i64) _ 3 ?hg (N := 6) ?hd (xs := ([] : List Int)) (inner := []) (ok := fun _ => True) (okp := fun _ => True) ?hr ?hp (fun _ hk => hk) trivial (Below.refl _ _) (Nat.le_refl _) (by simp) ?_; (case hd => rfl); (case hg => rfl); (case hr => go_simp); (case hp => exact (Reps.none _ _)); intro v102 w2 ho3 hb hg_ hnew_; clear hg_ hnew_; (first | rw [← Ny101.out] at ho3 | (simp only [Int.reduceToNat] at ho3; rw [← Ny101.out] at ho3)); have HO103 := aK (Kd.R_lower ho3 (below_size HB.out)); replace HB := qs HB hb; clear hb ho3))
 go_loopg [3, 9] k (fun kq v3 v9 w' => ∃ (x3_1 : List Int) (x9_1 : Int), v9 = .int .i64 x9_1 ∧ Aside0 (impl_marked.l0 kq x3_1 l0 (l0.length : Int) x9_1 = some r) ∧ Aside0 (kq ≤ k) ∧ Aside0 (Kd.R (Kd.int .i64) 3 w' w.heap.size (fun _ => True) v3 x3_1) ∧ Aside0 (Below w.heap.size w w'))
 case atStart => exact ⟨(y101), (0), rS, H', ⟨Nat.le_refl _⟩, ⟨by (with_reducible repeat (first | apply rA | apply rN | apply rD)); exact HO103.out⟩, ⟨pH HB⟩⟩
 case round =>
  clear H'
  try clear p2; try clear c3
  obtain ⟨x3_1, x9_1, rfl, HA, HK1, HO_3, HB⟩ := hrel
  cases gk with
  | zero => exact absurd HA.out (by simp [impl_marked.l0])
  | succ k1 =>
   have H := HA.out
   clear HA
   simp only [impl_marked.l0] at H
   by_cases c4 : x9_1 < (l0.length : Int)
   ·rw [if_pos c4] at H
    have c4b0 : decide (x9_1 < (l0.length : Int)) = true := decide_eq_true c4
    clear c4
    by_cases c5 : 0 ≤ x9_1
    ·rw [if_pos c5] at H
     have c5b0 : decide (0 ≤ x9_1) = true := decide_eq_true c5
     clear c5
     by_cases c6 : x9_1 < (l0.length : Int)
     ·rw [if_pos c6] at H
      have c6b0 : decide (x9_1 < (l0.length : Int)) = true := decide_eq_true c6
      clear c6
      obtain ⟨bq7, hbq7⟩ : ∃ b_ : Bool, b_ = (rdOf false l0 x9_1) := ⟨_, rfl⟩
      replace H : (if bq7 = true then (if x3_1.length < 17592186044416 then (impl_marked.l0 k1 (x3_1 ++ [x9_1]) l0 (l0.length : Int) (wrap64 (x9_1 + 1))) else (none)) else (impl_marked.l0 k1 x3_1 l0 (l0.length : Int) (wrap64 (x9_1 + 1)))) = some r := by rw [← hbq7] at H; exact H
      have Nbq7 := aK hbq7
      clear hbq7
      by_cases c8 : bq7 = true
      ·subst c8
       rw [if_pos rfl] at H
       by_cases c9 : x3_1.length < 17592186044416
       ·rw [if_pos c9] at H
        have LMc9 := aK c9
        clear c9
        obtain ⟨y105, hy105⟩ : ∃ y_ : List Int, y_ = (x3_1 ++ [x9_1]) := ⟨_, rfl⟩
        replace H : (impl_marked.l0 k1 y105 l0 (l0.length : Int) (wrap64 (x9_1 + 1))) = some r := by first | (rw [hy105]; with_reducible exact H) | (have H2_ := (Option.bind_some _ _).symm.trans H; rw [hy105]; with_reducible exact H2_) | (have H2_ := (Option.bind_some _ _).symm.trans H; with_reducible exact H2_) | with_reducible exact H | (rw [hy105]; exact H) | exact H
        have Ny105 := aK hy105
        clear hy105
        have H' := aK H
        clear H
        have p104 : 0 ≤ (x9_1 : Int) := dA
        have q104 : x9_1 < (l0.length : Int) := dA
        obtain ⟨ad104, e104, hx104_0⟩ := Kd.at_bool HR0.out x9_1 p104 q104
        (try rw [← Nbq7.out] at hx104_0)
        cases e104
        replace hx104_0 := uC HB hx104_0
        replace p104 := eq_true p104
        replace q104 := eq_true q104
        go_wp2_with (first | ((with_reducible refine gate_builtin (b := .append) (xs := #[.tmp 15, .tmp 17]) rfl ?_); at_builtin; refine Kd.R_append (Kd.int .i64) (w0 := w) w.heap.size rfl (.tmp 15) (.tmp 17) 23 3 (.int .i64 0) 8 rfl Tryd.underlying23 info3 rfl (by decide) (by omega) u3 x3_1 x9_1 [.int .i64 x9_1] (fun _ => True) (fun _ => False) rfl rfl ?aP (fun _ hk => hk.elim) ?aF ?aO ?aB ?aS ?aL ?_; (case aP => exact rfl); (case aB => exact HB.out); (case aF => exact (fun _ _ => trivial)); (case aO => exact HO_3.out); (case aS => exact (below_size HB.out)); (case aL => have := LMc9.out; omega); intro v106 w10 ho hb hg hat; rw [← Ny105.out] at ho; have n0_ := aK (hb); have HO107 := aK (ho); clear HB; have HB := n0_; clear n0_; clear HO_3; clear ho hb hg hat))
        go_roundg k1
        case measure => have := HK1.out; omega
        case rel => exact ⟨(y105), (wrap64 (x9_1 + 1)), rS, H', ⟨by have := HK1.out; omega⟩, ⟨by (with_reducible repeat (first | apply rA | apply rN | apply rD)); exact HO107.out⟩, ⟨pH HB⟩⟩
       ·rw [if_neg c9] at H
        exact absurd H (by simp)
      ·replace c8 := Bool.eq_false_iff.mpr c8
       subst c8
       rw [if_neg (show ¬ (false = true) by decide)] at H
       have H' := aK H
       clear H
       have p104 : 0 ≤ (x9_1 : Int) := dA
       have q104 : x9_1 < (l0.length : Int) := dA
       obtain ⟨ad104, e104, hx104_0⟩ := Kd.at_bool HR0.out x9_1 p104 q104
       (try rw [← Nbq7.out] at hx104_0)
       cases e104
       replace hx104_0 := uC HB hx104_0
       replace p104 := eq_true p104
       replace q104 := eq_true q104
       go_wp2
       go_roundg k1
       case measure => have := HK1.out; omega
       case rel => exact ⟨(x3_1), (wrap64 (x9_1 + 1)), rS, H', ⟨by have := HK1.out; omega⟩, ⟨by (with_reducible repeat (first | apply rA | apply rN | apply rD)); exact HO_3.out⟩, ⟨pH HB⟩⟩
     ·rw [if_neg c6] at H
      exact absurd H (by simp)
    ·rw [if_neg c5] at H
     exact absurd H (by simp)
   ·rw [if_neg c4] at H
    have c4b0 : decide (x9_1 < (l0.length : Int)) = false := decide_eq_false c4
    clear c4
    obtain rfl := Option.some.inj H
    go_wp2
    go_ret
    exact ⟨_, eW, by (with_reducible repeat (first | apply rA | apply rN | apply rD)); exact HO_3.out, pH HB⟩


def impl_ReachIn.f (k : Nat) (a0_0 : Int) (l0_1 : List (S61)) (l0_2 : List Int) : Option (List Int × Bool) := (impl_GoodHeap.f k a0_0 l0_1 l0_2).bind fun t102 => (if t102 = true then ((impl_reached.f k l0_1 l0_2).bind fun t103 => ((impl_marked.f k t103).bind fun t106 => (some (t106, true)))) else (some (([] : List Int), false)))
set_option maxHeartbeats 8000000 in
set_option maxRecDepth 100000 in
theorem impl_ReachIn.calls (k : Nat) (a0_0 : Int) (A0_1 : Option Addr) (c0_1 : Nat) (l0_1 : List (S61)) (A0_2 : Option Addr) (c0_2 : Nat) (l0_2 : List Int) (r1 : List Int) (r2 : Bool) (w : World) (hr0_1 : Kd.C k61 w A0_1 l0_1.length l0_1) (hc0_1 : l0_1.length ≤ c0_1) (hr0_2 : Kd.C (Kd.int .i64) w A0_2 l0_2.length l0_2) (hc0_2 : l0_2.length ≤ c0_2) (h : impl_ReachIn.f k a0_0 l0_1 l0_2 = some (r1, r2)) :
  Calls Tryd.prog 14 #[.agg #[.int .i64 a0_0, .slice A0_1 l0_1.length c0_1, .slice A0_2 l0_2.length c0_2]] w fun e w' => ∃ v0_ : Value, e = .returned (.tuple #[v0_, .bool r2]) ∧ Kd.R (Kd.int .i64) 3 w' w.heap.size (fun _ => True) v0_ r1 ∧ Below w.heap.size w w' := by
 have hu31 := Tryd.underlying31
 have HR0_1 := aK hr0_1
 have HC0_1 := aK hc0_1
 clear hr0_1 hc0_1
 have HR0_2 := aK hr0_2
 have HC0_2 := aK hc0_2
 clear hr0_2 hc0_2
 have HB := aK (Below.refl w.heap.size w)
 have H : ((impl_GoodHeap.f k a0_0 l0_1 l0_2).bind fun t102 => (if t102 = true then ((impl_reached.f k l0_1 l0_2).bind fun t103 => ((impl_marked.f k t103).bind fun t106 => (some (t106, true)))) else (some (([] : List Int), false)))) = some (r1, r2) := h
 clear h
 obtain ⟨t102, A2, H⟩ := oB H
 try dsimp only at H
 by_cases c3 : t102 = true
 ·subst c3
  rw [if_pos rfl] at H
  obtain ⟨t103, A4, H⟩ := oB H
  try dsimp only at H
  obtain ⟨t106, A5, H⟩ := oB H
  try dsimp only at H
  simp only [Option.some.injEq, Prod.mk.injEq] at H
  obtain ⟨rfl, rfl⟩ := H
  go_enter Tryd.func14, Tryd.ntmps14
  go_wp2_with (first | ((with_reducible refine gate_dst (N := 1) rfl ?_); refine bE (N := 1) (cs := #[.int .i64 a0_0, .slice A0_1 l0_1.length c0_1, .slice A0_2 l0_2.length c0_2]) (t := 31) ?_; intro gb101 hg w6 hbox hb; have GW101 := qw HB hg; have GE101 := qw HB hg; have BK101 := aK hbox; replace HB := qs HB hb; clear hb hbox hg; obtain ⟨hcz7_0, hcz7_1, hcz7_2, hfz7_0, hfz7_1, hfz7_2⟩ := cA3 BK101) | ((with_reducible refine gate_callee (f := 16) rfl ?_); refine goesL_ (some 5) rfl rfl Tryd.func16 (by kernel_rfl) rfl #[.agg #[.int .i64 a0_0, .slice A0_1 l0_1.length c0_1, .slice A0_2 l0_2.length c0_2]] rfl tA ?_; (with_reducible refine (impl_GoodHeap.calls k a0_0 _ _ l0_1 _ _ l0_2 true _ ?side1 ?side2 ?side3 ?side4 A2.out).mono ?_); (case side1 => exact sC (Kd.C_below HR0_1.out HB.out)); (case side2 => exact HC0_1.out); (case side3 => exact sC (Kd.C_below HR0_2.out HB.out)); (case side4 => exact HC0_2.out); rintro e w8 ⟨rfl, hb⟩; refine ⟨_, rfl, ?_⟩; replace BK101 := qb BK101 hb; replace HB := qs HB hb; (try clear hb); obtain ⟨hcz9_0, hcz9_1, hcz9_2, hfz9_0, hfz9_1, hfz9_2⟩ := cA3 BK101) | ((with_reducible refine gate_callee (f := 32) rfl ?_); refine goesL_ (some 11) rfl rfl Tryd.func32 (by kernel_rfl) rfl #[.slice A0_1 l0_1.length c0_1, .slice A0_2 l0_2.length c0_2, .func (.func 33) #[] #[]] rfl tA ?_; (with_reducible refine (impl_reached.calls k _ _ l0_1 _ _ l0_2  t103 _ ?side1 ?side2 ?side3 ?side4 A4.out).mono ?_); (case side1 => exact sC (Kd.C_below HR0_1.out HB.out)); (case side2 => exact HC0_1.out); (case side3 => exact sC (Kd.C_below HR0_2.out HB.out)); (case side4 => exact HC0_2.out); rintro e w10 ⟨v104, rfl, ho0, hb⟩; refine ⟨_, rfl, ?_⟩; have HO105 := aK (Kd.R_lower ho0 (below_size HB.out)); replace BK101 := qb BK101 hb; replace HB := qs HB hb; (try clear hb); (try clear ho0); obtain ⟨Ao11, co11, eo11⟩ := Kd.R_slice HO105.out; subst eo11) | ((with_reducible refine gate_callee (f := 31) rfl ?_); refine goesL_ (some 12) rfl rfl Tryd.func31 (by kernel_rfl) rfl #[.slice Ao11 t103.length co11] rfl tA ?_; (with_reducible refine (impl_marked.calls k _ _ t103 t106 _ ?side1 ?side2 A5.out).mono ?_); (case side1 => exact sC ((Kd.R_reads' HO105.out).2.2)); (case side2 => exact (Kd.R_reads' HO105.out).2.1); rintro e w12 ⟨v107, rfl, ho0, hb⟩; refine ⟨_, rfl, ?_⟩; have n0_ := aK (Kd.R_below HO105.out hb); have HO108 := aK (Kd.R_lower ho0 (below_size HB.out)); replace BK101 := qb BK101 hb; clear HO105; have HO105 := n0_; clear n0_; replace HB := qs HB hb; (try clear hb); (try clear ho0)))
  go_ret2
  exact ⟨_, eW, by (with_reducible repeat (first | apply rA | apply rN | apply rD)); exact HO108.out, pH HB⟩
 ·replace c3 := Bool.eq_false_iff.mpr c3
  subst c3
  rw [if_neg (show ¬ (false = true) by decide)] at H
  simp only [Option.some.injEq, Prod.mk.injEq] at H
  obtain ⟨rfl, rfl⟩ := H
  go_enter Tryd.func14, Tryd.ntmps14
  go_wp2_with (first | ((with_reducible refine gate_dst (N := 1) rfl ?_); refine bE (N := 1) (cs := #[.int .i64 a0_0, .slice A0_1 l0_1.length c0_1, .slice A0_2 l0_2.length c0_2]) (t := 31) ?_; intro gb101 hg w13 hbox hb; have GW101 := qw HB hg; have GE101 := qw HB hg; have BK101 := aK hbox; replace HB := qs HB hb; clear hb hbox hg; obtain ⟨hcz14_0, hcz14_1, hcz14_2, hfz14_0, hfz14_1, hfz14_2⟩ := cA3 BK101) | ((with_reducible refine gate_callee (f := 16) rfl ?_); refine goesL_ (some 5) rfl rfl Tryd.func16 (by kernel_rfl) rfl #[.agg #[.int .i64 a0_0, .slice A0_1 l0_1.length c0_1, .slice A0_2 l0_2.length c0_2]] rfl tA ?_; (with_reducible refine (impl_GoodHeap.calls k a0_0 _ _ l0_1 _ _ l0_2 false _ ?side1 ?side2 ?side3 ?side4 A2.out).mono ?_); (case side1 => exact sC (Kd.C_below HR0_1.out HB.out)); (case side2 => exact HC0_1.out); (case side3 => exact sC (Kd.C_below HR0_2.out HB.out)); (case side4 => exact HC0_2.out); rintro e w15 ⟨rfl, hb⟩; refine ⟨_, rfl, ?_⟩; replace BK101 := qb BK101 hb; replace HB := qs HB hb; (try clear hb)))
  go_ret2
  exact ⟨_, eW, by first | exact Kd.R_nil _ _ _ _ _ | exact Kd.N_nil _ _ _ _ _ | exact Kd.V_nil _ _ _ _ _ | exact Kd.Q_nil _ _ _ _ _ | exact Kd.S_nil _ _ _ _ _, pH HB⟩

end Go.Proofs.YtcbgjcnekdoloaaDoor.G

namespace Go.Proofs.YtcbgjcnekdoloaaDoor.HeapL
open Go.RowKit Go.Proofs.YtcbgjcnekdoloaaDoor.G Go.Proofs.YtcbgjcnekdoloaaDoor.EvL Go.Proofs.YtcbgjcnekdoloaaDoorW.PrintWords Go.Proofs.YtcbgjcnekdoloaaDoorW.PrintLast
set_option linter.unusedVariables false

def idxFrom (m : List Bool) (i d : Nat) : List Int := ((List.range d).filter fun j => getB m (i + j)).map fun j => ((i + j : Nat) : Int)
theorem idxFrom_succ (m : List Bool) (i d : Nat) : idxFrom m i (d + 1) = (if getB m i = true then [(i : Int)] else []) ++ idxFrom m (i + 1) d := by
  unfold idxFrom
  rw [List.range_succ_eq_map, List.filter_cons, List.filter_map]
  have e : List.map (fun j => ((i + j : Nat) : Int)) (List.map Nat.succ (List.filter ((fun j => getB m (i + j)) ∘ Nat.succ) (List.range d))) = List.map (fun j => ((i + 1 + j : Nat) : Int)) (List.filter (fun j => getB m (i + 1 + j)) (List.range d)) := by
    rw [List.map_map]
    have e1 : ((fun j => getB m (i + j)) ∘ Nat.succ) = fun j => getB m (i + 1 + j) := by funext j; show getB m (i + (j + 1)) = _; congr 1; omega
    rw [e1]
    apply List.map_congr_left
    intro j _
    show ((i + (j + 1) : Nat) : Int) = _
    congr 1; omega
  by_cases h : getB m i = true
  · rw [Nat.add_zero, if_pos h, if_pos h, List.map_cons, e, Nat.add_zero]; rfl
  · rw [Nat.add_zero, if_neg h, if_neg h, e, List.nil_append]
theorem implMarked (m : List Bool) (hm : m.length ≤ 200) : Ev (fun k => impl_marked.f k m) (idxFrom m 0 m.length) := by
  unfold impl_marked.f
  have key : ∀ (d i : Nat) (acc : List Int), i + d = m.length → acc.length ≤ i → Ev (fun k => impl_marked.l0 k acc m m.length i) (acc ++ idxFrom m i d) := by
    intro d
    induction d with
    | zero =>
      intro i acc hi hacc
      refine Ev.succ (Ev.congr (fun k => ?_) (Ev.now _))
      simp only [impl_marked.l0]
      rw [if_neg (by omega)]
      simp [idxFrom]
    | succ d ih =>
      intro i acc hi hacc
      rw [idxFrom_succ]
      by_cases h : getB m i = true
      · refine Ev.step (f := fun k => impl_marked.l0 k (acc ++ [(i : Int)]) m m.length ((i + 1 : Nat) : Int)) (fun k => ?_) ?_
        · simp only [impl_marked.l0]
          rw [if_pos (by omega), if_pos (by omega), if_pos (by omega), rdB, if_pos h, if_pos (by omega), next i (n := m.length) (by omega) (by omega)]
        · refine Ev.of_eq (ih (i + 1) (acc ++ [(i : Int)]) (by omega) (by simp; omega)) ?_
          rw [if_pos h, List.append_assoc]
      · refine Ev.step (f := fun k => impl_marked.l0 k acc m m.length ((i + 1 : Nat) : Int)) (fun k => ?_) ?_
        · simp only [impl_marked.l0]
          rw [if_pos (by omega), if_pos (by omega), if_pos (by omega), rdB, if_neg h, next i (n := m.length) (by omega) (by omega)]
        · rw [if_neg h, List.nil_append]
          exact ih (i + 1) acc (by omega) (by omega)
  exact key m.length 0 [] (by omega) (by simp)

end Go.Proofs.YtcbgjcnekdoloaaDoor.HeapL

namespace Go.Proofs.YtcbgjcnekdoloaaDoor.TxtL
open Go.RowKit Go.Proofs.YtcbgjcnekdoloaaDoor.EvL Go.Proofs.YtcbgjcnekdoloaaDoorW.PrintWords
set_option linter.unusedVariables false
set_option linter.unusedSimpArgs false

def B (l : List UInt8) : ByteArray := ⟨l.toArray⟩
theorem B_size (l : List UInt8) : (B l).size = l.length := by show l.toArray.size = _; simp
theorem len (s : ByteArray) : s.data.toList.length = s.size := by rw [Array.length_toList]; rfl
theorem B_append (a b : List UInt8) : B a ++ B b = B (a ++ b) := by
  apply ByteArray.ext
  simp [B]
def cut1 (b : UInt8) : List UInt8 → List UInt8 × List UInt8 × Bool
  | [] => ([], [], false)
  | c :: l => if c = b then ([], l, true) else (c :: (cut1 b l).1, (cut1 b l).2.1, (cut1 b l).2.2)
def isD (c : UInt8) : Prop := 48 ≤ c.toNat ∧ c.toNat ≤ 57
instance (c : UInt8) : Decidable (isD c) := by unfold isD; exact inferInstance
def stepD (a : Nat) (c : UInt8) : Nat := a * 10 + (c.toNat - 48)
def valF (a : Nat) (l : List UInt8) : Nat := l.foldl stepD a
theorem valF_cons (a : Nat) (c : UInt8) (l : List UInt8) : valF a (c :: l) = valF (a * 10 + (c.toNat - 48)) l := by unfold valF; rw [List.foldl_cons, stepD]
theorem valF_one (a : Nat) (c : UInt8) : valF a [c] = a * 10 + (c.toNat - 48) := by unfold valF; rw [List.foldl_cons, List.foldl_nil, stepD]
theorem valF_app (l m : List UInt8) (a : Nat) : valF a (l ++ m) = valF (valF a l) m := List.foldl_append
theorem head_app {α : Type} {l : List α} (m : List α) (h : l ≠ []) : (l ++ m).head? = l.head? := by
  cases l with
  | nil => exact absurd rfl h
  | cons a l => rfl
theorem valF_ge : ∀ (l : List UInt8) (a : Nat), a ≤ valF a l
  | [], a => Nat.le_refl _
  | c :: l, a => by rw [valF_cons]; exact Nat.le_trans (by omega) (valF_ge l _)
theorem digit_ofNat (i : Nat) (h : i < 10) : (UInt8.ofNat (48 + i)).toNat = 48 + i := by
  rw [UInt8.toNat_ofNat']; omega
def Numeral (l : List UInt8) : Prop := (∀ c ∈ l, isD c) ∧ l ≠ [] ∧ (l.head? ≠ some 48 ∨ l.length = 1)
theorem dec_numeral : ∀ (n : Nat), Numeral (Lib.decDigits n) ∧ valF 0 (Lib.decDigits n) = n ∧ (1 ≤ n → (Lib.decDigits n).head? ≠ some 48) := by
  intro n
  induction n using Nat.strongRecOn with
  | _ n ih =>
    by_cases h : n < 10
    · have hd := digit_ofNat n h
      rw [Lib.decDigits_one h]
      refine ⟨⟨?_, by simp, .inr rfl⟩, ?_, ?_⟩
      · intro c hc
        rw [List.mem_singleton] at hc
        rw [hc]; unfold isD; rw [hd]; omega
      · rw [valF_one, hd]; omega
      · intro h1 e
        have e2 : UInt8.ofNat (48 + n) = 48 := by simpa using e
        have e3 := congrArg UInt8.toNat e2
        rw [hd] at e3
        have : (48 : UInt8).toNat = 48 := rfl
        omega
    · have e : Lib.decDigits n = Lib.decDigits (n / 10) ++ [UInt8.ofNat (48 + n % 10)] := by rw [Lib.decDigits, dif_neg h]
      obtain ⟨⟨h1, h2, _⟩, h4, h5⟩ := ih (n / 10) (by omega)
      have hd := digit_ofNat (n % 10) (by omega)
      have hh : (Lib.decDigits n).head? ≠ some 48 := by
        rw [e, head_app _ h2]
        exact h5 (by omega)
      refine ⟨⟨?_, by rw [e]; simp, .inl hh⟩, ?_, fun _ => hh⟩
      · intro c hc
        rw [e, List.mem_append, List.mem_singleton] at hc
        rcases hc with hc | hc
        · exact h1 c hc
        · rw [hc]; unfold isD; rw [hd]; omega
      · rw [e, valF_app, h4, valF_one, hd]; omega
theorem parse_ok : ∀ (l : List UInt8) (a : Nat), (∀ c ∈ l, isD c) → valF a l ≤ 1000000000000000000 → Lib.parseUint10 a l = .ok (valF a l)
  | [], a, _, _ => rfl
  | c :: l, a, h, hv => by
    have hc : isD c := h c (by simp)
    rw [valF_cons] at hv
    have hg := valF_ge l (a * 10 + (c.toNat - 48))
    unfold Lib.parseUint10
    rw [if_pos (show 48 ≤ c.toNat ∧ c.toNat ≤ 57 from hc), if_neg (by omega), if_neg (by omega), parse_ok l _ (fun x hx => h x (by simp [hx])) hv, valF_cons]
theorem atoi_digits (l : List UInt8) (h1 : ∀ c ∈ l, isD c) (h2 : l ≠ []) (hn : valF 0 l ≤ 1000000000000000000) : Lib.atoiAll l = .ok ((valF 0 l : Nat) : Int) := by
  have hp := parse_ok l 0 h1 hn
  generalize valF 0 l = n at hp hn
  cases l with
  | nil => exact absurd rfl h2
  | cons c r =>
    have hc : isD c := h1 c (by simp)
    unfold isD at hc
    unfold Lib.atoiAll
    have hs : ¬ (c.toNat = 43 ∨ c.toNat = 45) := by omega
    have hs2 : ¬ c.toNat = 45 := by omega
    simp only [if_neg hs]
    unfold Lib.parseMag
    rw [if_neg (by simp), hp]
    simp only [hs2, not_false_eq_true, true_and, false_and, if_false]
    rw [if_neg (by omega)]
theorem atoi_dec (n : Nat) (hn : n ≤ 1000000000000000000) : Lib.atoiAll (Lib.decDigits n) = .ok (n : Int) := by
  obtain ⟨⟨h1, h2, _⟩, h4, _⟩ := dec_numeral n
  have := atoi_digits (Lib.decDigits n) h1 h2 (by rw [h4]; exact hn)
  rwa [h4] at this
end Go.Proofs.YtcbgjcnekdoloaaDoor.TxtL

namespace Go.Proofs.YtcbgjcnekdoloaaDoor.G
open Go.RowKit Go.Proofs.YtcbgjcnekdoloaaDoorW.PrintWords Go.Proofs.YtcbgjcnekdoloaaDoorW.PrintLast Go.Proofs.YtcbgjcnekdoloaaDoorW.PrintMore Go.Proofs.YtcbgjcnekdoloaaDoor.Short
attribute [local go_sem] max2_int min2_int max_two min_two max_three min_three max_four min_four   -- for this text's walks alone
set_option linter.unusedVariables false
set_option linter.unusedSimpArgs false

def spec_l1Num.f : Nat → Int → Option (ByteArray)
  | 0, _ => none
  | k + 1, a0 => if a0 < 0 then (if a0 = (-9223372036854775808) then (some (⟨#[45, 57, 50, 50, 51, 51, 55, 50, 48, 51, 54, 56, 53, 52, 55, 55, 53, 56, 48, 56]⟩ : ByteArray)) else ((spec_l1Num.f k (wrap64 (-a0))).bind fun t101 => (if 1 + t101.size ≤ 9223372036854775807 then (some ((⟨#[45]⟩ : ByteArray) ++ t101)) else (none)))) else (if a0 < 10 then (some (strOfNums (([(wrap64 (48 + a0)) % 256] : List Int)))) else ((spec_l1Num.f k (wrap64 (Int.tdiv a0 10))).bind fun t105 => ((some (([(wrap64 (48 + (Int.tmod a0 10))) % 256] : List Int) : List Int)).bind fun y106 => (if t105.size + (strOfNums y106).size ≤ 9223372036854775807 then (some (t105 ++ (strOfNums y106))) else (none)))))
theorem spec_l1Num.mono_l : ∀ k, (∀ y0, LeO (spec_l1Num.f k y0) (spec_l1Num.f (k + 1) y0))
  | 0 => fun _ r h => by simp [spec_l1Num.f] at h
  | k + 1 => by
    have ih0 := spec_l1Num.mono_l k
    · intro y0
      unfold spec_l1Num.f
      repeat' first
      | (with_reducible exact ih0 _)
      | (with_reducible exact LeO.refl _)
      | (with_reducible exact LeO.none _)
      | (with_reducible refine LeO.ite ?_ ?_)
      | (with_reducible refine LeO.bind ?_ (fun _ => ?_))
      | exact ih0 _
      | exact LeO.none _
      | refine LeO.ite ?_ ?_
      | refine LeO.bind ?_ (fun _ => ?_)
theorem spec_l1Num.mono : ∀ a0 k, LeO (spec_l1Num.f k a0) (spec_l1Num.f (k + 1) a0) := by
  intro a0 k
  have ih0 := spec_l1Num.mono_l k
  exact ih0 a0
def spec_l1Num.T7 : Bool × List (List Nat × List Nat) := (true, [([], []), ([0], [0]), ([1], [1]), ([], []), ([3], [3]), ([4], [4]), ([5], [5]), ([6], [6]), ([7], [7]), ([2, 8], [2, 8]), ([9, 2, 0, 1, 2, 3, 4, 5, 6, 7, 8, 9], [9])])
def spec_l1Num.B7 : List Nat := [0, 1, 3, 0, 8, 24, 56, 120, 248, 511, 1023]
theorem spec_l1Num.tab7 : rtab .any (opsOf Tryd.f37 7) = spec_l1Num.T7 := by kernel_rfl
theorem spec_l1Num.bits7 : waitsOk spec_l1Num.T7.2 spec_l1Num.B7 = true := by kernel_rfl
set_option maxHeartbeats 8000000 in
set_option maxRecDepth 100000 in
theorem spec_l1Num.calls (k : Nat) : ∀ (a0 : Int) (r : ByteArray) (w : World) (h : spec_l1Num.f k a0 = some r),
    Calls Tryd.prog 37 #[.int .i64 a0] w fun e w' => e = .returned (.string r) ∧ Below w.heap.size w w' := by
  induction k using Nat.strongRecOn with
  | _ k ih =>
  intro a0 r w h
  cases k with
  | zero => exact absurd h (by simp [spec_l1Num.f])
  | succ k =>
  simp only [spec_l1Num.f] at h
  have HB := aM (Below.refl w.heap.size w)
  have H : (if a0 < 0 then (if a0 = (-9223372036854775808) then (some (⟨#[45, 57, 50, 50, 51, 51, 55, 50, 48, 51, 54, 56, 53, 52, 55, 55, 53, 56, 48, 56]⟩ : ByteArray)) else ((spec_l1Num.f k (wrap64 (-a0))).bind fun t101 => (if 1 + t101.size ≤ 9223372036854775807 then (some ((⟨#[45]⟩ : ByteArray) ++ t101)) else (none)))) else (if a0 < 10 then (some (strOfNums (([(wrap64 (48 + a0)) % 256] : List Int)))) else ((spec_l1Num.f k (wrap64 (Int.tdiv a0 10))).bind fun t105 => ((some (([(wrap64 (48 + (Int.tmod a0 10))) % 256] : List Int) : List Int)).bind fun y106 => (if t105.size + (strOfNums y106).size ≤ 9223372036854775807 then (some (t105 ++ (strOfNums y106))) else (none)))))) = some r := h
  clear h
  by_cases c2 : a0 < 0
  · rw [if_pos c2] at H
    have c2b0 : decide (a0 < 0) = true := decide_eq_true c2
    clear c2
    by_cases c3 : a0 = (-9223372036854775808)
    · rw [if_pos c3] at H
      have c3b0 : (a0 == (-9223372036854775808)) = true := beq_iff_eq.mpr c3
      have c3b1 : (a0 != (-9223372036854775808)) = false := bne_eq_false_iff_eq.mpr c3
      clear c3
      obtain rfl := Option.some.inj H
      go_enter Tryd.func37, Tryd.ntmps37
      go_wp2
      go_ret
      exact ⟨by first | rfl | (simp [errW_none, errW_some] <;> rfl) | (simp [*, errW_none, errW_some] <;> rfl), by repeat (first | (with_reducible first | exact HB.out | apply below_alloc | apply pw_below_drewN | apply below_drew1) | exact HB.out)⟩
    · rw [if_neg c3] at H
      have c3b0 : (a0 == (-9223372036854775808)) = false := beq_eq_false_iff_ne.mpr c3
      have c3b1 : (a0 != (-9223372036854775808)) = true := bne_iff_ne.mpr c3
      replace H := Option.bind_eq_some_iff.mp H
      obtain ⟨t101, A40, H⟩ := H
      replace H : (if 1 + t101.size ≤ 9223372036854775807 then (some ((⟨#[45]⟩ : ByteArray) ++ t101)) else (none)) = some r := H
      have A4 := aM A40
      clear A40
      by_cases c5 : 1 + t101.size ≤ 9223372036854775807
      · rw [if_pos c5] at H
        have c5b0 := eq_true c5
        have c5b1 : decide (1 + t101.size ≤ 9223372036854775807) = true := decide_eq_true c5
        try have c5b2 : (9223372036854775807 < 1 + t101.size) = False := eq_false (Nat.not_lt.2 c5)
        obtain rfl := Option.some.inj H
        go_enter Tryd.func37, Tryd.ntmps37
        go_wp2_with (first | ((with_reducible refine gate_callee (f := 37) rfl ?_); refine goesL_ (some 9) rfl rfl Tryd.func37 (by kernel_rfl) rfl #[.int .i64 (wrap64 (-a0))] rfl (by (try simp only [List.map_toArray, List.map_cons, List.map_nil]); first | done | rfl | (simp only [List.length_drop, List.length_take]; rfl)) ?_; (with_reducible refine (ih k (by omega) (wrap64 (-a0)) t101 _ A4.out).mono ?_); rintro e w6 ⟨rfl, hb⟩; refine ⟨_, rfl, ?_⟩; have n0_ := aM (below_step (by repeat (first | (with_reducible first | exact HB.out | apply below_alloc | apply pw_below_drewN | apply below_drew1) | exact HB.out)) hb); clear HB; have HB := n0_; clear n0_; (try clear hb); (try clear hb2); (try clear hk); (try clear hi)))
        go_ret
        exact ⟨by first | rfl | (simp [errW_none, errW_some] <;> rfl) | (simp [*, errW_none, errW_some] <;> rfl), by repeat (first | (with_reducible first | exact HB.out | apply below_alloc | apply pw_below_drewN | apply below_drew1) | exact HB.out)⟩
      · rw [if_neg c5] at H
        exact absurd H (by simp)
  · rw [if_neg c2] at H
    have c2b0 : decide (a0 < 0) = false := decide_eq_false c2
    clear c2
    by_cases c7 : a0 < 10
    · rw [if_pos c7] at H
      have c7b0 : decide (a0 < 10) = true := decide_eq_true c7
      clear c7
      obtain ⟨y102, hy102⟩ : ∃ y_ : List Int, y_ = (([(wrap64 (48 + a0)) % 256] : List Int)) := ⟨_, rfl⟩
      replace H : (some (strOfNums y102)) = some r := by first | (rw [hy102]; with_reducible exact H) | (have H2_ := (Option.bind_some _ _).symm.trans H; rw [hy102]; with_reducible exact H2_) | (have H2_ := (Option.bind_some _ _).symm.trans H; with_reducible exact H2_) | with_reducible exact H | (rw [hy102]; exact H) | exact H
      have Ny102 := aM hy102
      clear hy102
      obtain rfl := Option.some.inj H
      go_enter Tryd.func37, Tryd.ntmps37
      go_wp2_with (first | ((with_reducible refine gate_dst (N := 16) rfl ?_); refine Kd.R_lit (Kd.int .u8) _ 5 ?hg (N := 16) ?hd (xs := ([(wrap64 (48 + a0)) % 256] : List Int)) (inner := [.int .u8 ((wrap64 (48 + a0)) % 256)]) (ok := fun _ => True) (okp := fun _ => True) ?hr ?hp (fun _ hk => hk) trivial (Below.refl _ _) (Nat.le_refl _) (by simp) ?_; (case hd => rfl); (case hg => rfl); (case hr => first | (go_simp; done) | (go_simp; rfl)); (case hp => exact (Reps.one (show Kd.M (Kd.int .u8) _ _ _ ((wrap64 (48 + a0)) % 256) [.int .u8 ((wrap64 (48 + a0)) % 256)] from rfl) (Reps.none _ _))); intro v103 w8 ho9 hb hg_ hnew_; clear hg_ hnew_; (first | rw [← Ny102.out] at ho9 | (simp only [Int.reduceToNat] at ho9; rw [← Ny102.out] at ho9)); have n0_ := aM (Kd.R_lower ho9 (below_size (by repeat (first | (with_reducible first | exact HB.out | apply below_alloc | apply pw_below_drewN | apply below_drew1) | exact HB.out)))); have n1_ := aM (below_step (by repeat (first | (with_reducible first | exact HB.out | apply below_alloc | apply pw_below_drewN | apply below_drew1) | exact HB.out)) hb); clear HB; have HO104 := n0_; have HB := n1_; clear n0_ n1_; clear hb ho9; have hcv10 := own_string (P := Tryd.prog) Tryd.underlying35 Tryd.underlying5 Tryd.underlying9 (Kd.own_of_R HO104.out)))
      go_ret
      exact ⟨by first | rfl | (simp [errW_none, errW_some] <;> rfl) | (simp [*, errW_none, errW_some] <;> rfl), by repeat (first | (with_reducible first | exact HB.out | apply below_alloc | apply pw_below_drewN | apply below_drew1) | exact HB.out)⟩
    · rw [if_neg c7] at H
      have c7b0 : decide (a0 < 10) = false := decide_eq_false c7
      clear c7
      replace H := Option.bind_eq_some_iff.mp H
      obtain ⟨t105, A110, H⟩ := H
      replace H : ((some (([(wrap64 (48 + (Int.tmod a0 10))) % 256] : List Int) : List Int)).bind fun y106 => (if t105.size + (strOfNums y106).size ≤ 9223372036854775807 then (some (t105 ++ (strOfNums y106))) else (none))) = some r := H
      have A11 := aM A110
      clear A110
      obtain ⟨y106, hy106⟩ : ∃ y_ : List Int, y_ = (([(wrap64 (48 + (Int.tmod a0 10))) % 256] : List Int)) := ⟨_, rfl⟩
      replace H : (if t105.size + (strOfNums y106).size ≤ 9223372036854775807 then (some (t105 ++ (strOfNums y106))) else (none)) = some r := by first | (rw [hy106]; with_reducible exact H) | (have H2_ := (Option.bind_some _ _).symm.trans H; rw [hy106]; with_reducible exact H2_) | (have H2_ := (Option.bind_some _ _).symm.trans H; with_reducible exact H2_) | with_reducible exact H | (rw [hy106]; exact H) | exact H
      have Ny106 := aM hy106
      clear hy106
      by_cases c12 : t105.size + (strOfNums y106).size ≤ 9223372036854775807
      · rw [if_pos c12] at H
        have c12b0 := eq_true c12
        have c12b1 : decide (t105.size + (strOfNums y106).size ≤ 9223372036854775807) = true := decide_eq_true c12
        try have c12b2 : (9223372036854775807 < t105.size + (strOfNums y106).size) = False := eq_false (Nat.not_lt.2 c12)
        obtain rfl := Option.some.inj H
        go_enter Tryd.func37, Tryd.ntmps37
        try go_wp2
        have n0_ := aM (below_drew1 HB.out)
        clear HB
        have HB := n0_
        clear n0_
        refine start_ (n := 11) (S := fun w' => True) (ds := []) #[false, false, false, false, false, false, false, false, false, false, false] (by kernel_rfl) rfl rfl trivial (fun hHeld => ?_); refine with_tabW spec_l1Num.tab7 spec_l1Num.bits7 (fun HT_ HW_ => ?_)
        generalize w.drew = w13 at HB hHeld ⊢
        refine pure_ (i := 0) (N := some 18) (v := ?_) (a' := ?_) #[true, false, false, false, false, false, false, false, false, false, false] rfl rfl (any_of HT_.out (by kernel_rfl)) (fun _ _ _ h => h) (Or.inl ⟨by rfl, ?_⟩) ?_ ?_
        rotate_left
        · intro w'
          go_simp
          with_reducible rfl
        rotate_left
        · simp only [Act.put, List.setIfInBounds_toArray, List.set_cons_zero, List.set_cons_succ, i64_w, i32_w]
          rfl
        refine pure_ (i := 1) (N := some 19) (v := ?_) (a' := ?_) #[true, true, false, false, false, false, false, false, false, false, false] rfl rfl (any_of HT_.out (by kernel_rfl)) (fun _ _ _ h => h) (Or.inl ⟨by rfl, ?_⟩) ?_ ?_
        rotate_left
        · intro w'
          go_simp
          with_reducible rfl
        rotate_left
        · simp only [Act.put, List.setIfInBounds_toArray, List.set_cons_zero, List.set_cons_succ, i64_w, i32_w]
          rfl
        refine pure_ (i := 3) (N := some 21) (v := ?_) (a' := ?_) #[true, true, false, true, false, false, false, false, false, false, false] rfl rfl (any_of HT_.out (by kernel_rfl)) (fun _ _ _ h => h) (Or.inl ⟨by rfl, ?_⟩) ?_ ?_
        rotate_left
        · intro w'
          go_simp
          with_reducible rfl
        rotate_left
        · simp only [Act.put, List.setIfInBounds_toArray, List.set_cons_zero, List.set_cons_succ, i64_w, i32_w]
          rfl
        refine pure_ (i := 4) (N := some 22) (v := ?_) (a' := ?_) #[true, true, false, true, true, false, false, false, false, false, false] rfl rfl (any_of HT_.out (by kernel_rfl)) (fun _ _ _ h => h) (Or.inl ⟨by rfl, ?_⟩) ?_ ?_
        rotate_left
        · intro w'
          go_simp
          with_reducible rfl
        rotate_left
        · simp only [Act.put, List.setIfInBounds_toArray, List.set_cons_zero, List.set_cons_succ, i64_w, i32_w]
          rfl
        refine pure_ (i := 5) (N := some 23) (v := ?_) (a' := ?_) #[true, true, false, true, true, true, false, false, false, false, false] rfl rfl (any_of HT_.out (by kernel_rfl)) (fun _ _ _ h => h) (Or.inl ⟨by rfl, ?_⟩) ?_ ?_
        rotate_left
        · intro w'
          go_simp
          with_reducible rfl
        rotate_left
        · simp only [Act.put, List.setIfInBounds_toArray, List.set_cons_zero, List.set_cons_succ, i64_w, i32_w]
          rfl
        refine pure_ (i := 6) (N := some 24) (v := ?_) (a' := ?_) #[true, true, false, true, true, true, true, false, false, false, false] rfl rfl (any_of HT_.out (by kernel_rfl)) (fun _ _ _ h => h) (Or.inl ⟨by rfl, ?_⟩) ?_ ?_
        rotate_left
        · intro w'
          go_simp
          with_reducible rfl
        rotate_left
        · simp only [Act.put, List.setIfInBounds_toArray, List.set_cons_zero, List.set_cons_succ, i64_w, i32_w]
          rfl
        refine join_ (σ := Value) 2 #[true, true, true, true, true, true, true, true, true, false, false] (fun s_ => [(20, .string t105), (25, s_), (26, .string (strOfNums y106))]) (fun s_ w' => (Kd.R (Kd.int .u8) 5 w' w.heap.size (fun _ => True) s_ y106) ∧ (Below w.heap.size w w')) ?_ ?_
        rotate_left
        · intro hCont
          refine two_ (i := 2) (j := 7) (Ni := some 20) (Nj := some 25) #[true, true, true, true, true, true, true, false, false, false, false] #[true, true, false, true, true, true, true, true, false, false, false] rfl rfl rfl rfl (two_of HT_.out (by kernel_rfl)) (by decide) (by decide) (fun K hK => ?_) (fun K hK => ?_)
          · skip
            refine goes_ Tryd.func37 (by kernel_rfl) rfl #[.int .i64 (wrap64 (Int.tdiv a0 10))] (by rfl) rfl rfl (by (try simp only [List.map_toArray, List.map_cons, List.map_nil]); first | done | rfl | (simp only [List.length_drop, List.length_take]; rfl)) ?_
            with_reducible refine (ih k (by omega) (wrap64 (Int.tdiv a0 10)) t105 _ A11.out).mono ?_
            rintro e w14 ⟨rfl, hb⟩
            refine ⟨_, rfl, ?_⟩
            have n0_ := aM (below_step (by repeat (first | (with_reducible first | exact HB.out | apply below_alloc | apply pw_below_drewN | apply below_drew1) | exact HB.out)) hb)
            clear HB
            have HB := n0_
            clear n0_
            (try clear hb)
            (try clear hb2)
            (try clear hk)
            (try clear hi)
            refine hK.out _ _ trivial (fun hHeld => ?_)
            clear hK K
            refine norm_ (a' := ?_) ?_ ?_
            rotate_left
            · show Act.put _ (some 20) _ = _
              simp only [Act.put, List.setIfInBounds_toArray, List.set_cons_zero, List.set_cons_succ, i64_w, i32_w]
              rfl
            refine one_ (i := 7) (N := some 25) #[true, true, true, true, true, true, true, true, false, false, false] rfl rfl (one_of HT_.out (by kernel_rfl)) (by decide) (fun K hK => ?_)
            refine Kd.R_lit_step (Kd.int .u8) _ 5 ?hg (N := 25) ?hd (xs := ([(wrap64 (48 + (Int.tmod a0 10))) % 256] : List Int)) (inner := [.int .u8 ((wrap64 (48 + (Int.tmod a0 10))) % 256)]) (ok := fun _ => True) (okp := fun _ => True) ?hr ?hp (fun _ hk => hk) trivial (Below.refl _ _) (Nat.le_refl _) (by simp) ?_; (case hd => rfl); (case hg => rfl); (case hr => first | (go_simp; done) | (go_simp; rfl)); (case hp => exact (Reps.one (show Kd.M (Kd.int .u8) _ _ _ ((wrap64 (48 + (Int.tmod a0 10))) % 256) [.int .u8 ((wrap64 (48 + (Int.tmod a0 10))) % 256)] from rfl) (Reps.none _ _)))
            intro v107 w15 ho16 hb hg_ hnew_
            clear hg_ hnew_
            (first | rw [← Ny106.out] at ho16 | (simp only [Int.reduceToNat] at ho16; rw [← Ny106.out] at ho16))
            have n0_ := aM (Kd.R_lower ho16 (below_size (by repeat (first | (with_reducible first | exact HB.out | apply below_alloc | apply pw_below_drewN | apply below_drew1) | exact HB.out))))
            have n1_ := aM (below_step (by repeat (first | (with_reducible first | exact HB.out | apply below_alloc | apply pw_below_drewN | apply below_drew1) | exact HB.out)) hb)
            clear HB
            have HO108 := n0_
            have HB := n1_
            clear n0_ n1_
            clear hb ho16
            refine hK.out _ _ trivial (fun hHeld => ?_)
            clear hK K
            refine norm_ (a' := ?_) ?_ ?_
            rotate_left
            · show Act.put _ (some 25) _ = _
              simp only [Act.put, List.setIfInBounds_toArray, List.set_cons_zero, List.set_cons_succ, i64_w, i32_w]
              rfl
            refine one_ (i := 8) (N := some 26) #[true, true, true, true, true, true, true, true, true, false, false] rfl rfl (one_of HT_.out (by kernel_rfl)) (by decide) (fun K hK => ?_)
            have hcv17 := own_string (P := Tryd.prog) Tryd.underlying35 Tryd.underlying5 Tryd.underlying9 (Kd.own_of_R HO108.out)
            refine value_ (w1 := ?_) (v := ?_) (by rfl) rfl ?_ ?_
            rotate_left 2
            · go_simp
              constructor
              · rfl
              · rfl
            clear hcv17
            refine hK.out _ _ trivial (fun hHeld => ?_)
            clear hK K
            refine norm_ (a' := ?_) ?_ ?_
            rotate_left
            · show Act.put _ (some 26) _ = _
              simp only [Act.put, List.setIfInBounds_toArray, List.set_cons_zero, List.set_cons_succ, i64_w, i32_w]
              rfl
            exact norm_ (by simp only [putAll, Act.put, List.setIfInBounds_toArray, List.set_cons_zero, List.set_cons_succ]) (hCont (v107) _ ⟨(by (with_reducible repeat (first | apply rA | apply rN | apply rD)); exact HO108.out), (by repeat (first | (with_reducible first | exact HB.out | apply below_alloc | apply pw_below_drewN | apply below_drew1) | exact HB.out))⟩)
          · skip
            refine Kd.R_lit_step (Kd.int .u8) _ 5 ?hg (N := 25) ?hd (xs := ([(wrap64 (48 + (Int.tmod a0 10))) % 256] : List Int)) (inner := [.int .u8 ((wrap64 (48 + (Int.tmod a0 10))) % 256)]) (ok := fun _ => True) (okp := fun _ => True) ?hr ?hp (fun _ hk => hk) trivial (Below.refl _ _) (Nat.le_refl _) (by simp) ?_; (case hd => rfl); (case hg => rfl); (case hr => first | (go_simp; done) | (go_simp; rfl)); (case hp => exact (Reps.one (show Kd.M (Kd.int .u8) _ _ _ ((wrap64 (48 + (Int.tmod a0 10))) % 256) [.int .u8 ((wrap64 (48 + (Int.tmod a0 10))) % 256)] from rfl) (Reps.none _ _)))
            intro v107 w14 ho15 hb hg_ hnew_
            clear hg_ hnew_
            (first | rw [← Ny106.out] at ho15 | (simp only [Int.reduceToNat] at ho15; rw [← Ny106.out] at ho15))
            have n0_ := aM (Kd.R_lower ho15 (below_size (by repeat (first | (with_reducible first | exact HB.out | apply below_alloc | apply pw_below_drewN | apply below_drew1) | exact HB.out))))
            have n1_ := aM (below_step (by repeat (first | (with_reducible first | exact HB.out | apply below_alloc | apply pw_below_drewN | apply below_drew1) | exact HB.out)) hb)
            clear HB
            have HO108 := n0_
            have HB := n1_
            clear n0_ n1_
            clear hb ho15
            refine hK.out _ _ trivial (fun hHeld => ?_)
            clear hK K
            refine norm_ (a' := ?_) ?_ ?_
            rotate_left
            · show Act.put _ (some 25) _ = _
              simp only [Act.put, List.setIfInBounds_toArray, List.set_cons_zero, List.set_cons_succ, i64_w, i32_w]
              rfl
            refine two_ (i := 2) (j := 8) (Ni := some 20) (Nj := some 26) #[true, true, true, true, true, true, true, true, false, false, false] #[true, true, false, true, true, true, true, true, true, false, false] rfl rfl rfl rfl (two_of HT_.out (by kernel_rfl)) (by decide) (by decide) (fun K hK => ?_) (fun K hK => ?_)
            · skip
              refine goes_ Tryd.func37 (by kernel_rfl) rfl #[.int .i64 (wrap64 (Int.tdiv a0 10))] (by rfl) rfl rfl (by (try simp only [List.map_toArray, List.map_cons, List.map_nil]); first | done | rfl | (simp only [List.length_drop, List.length_take]; rfl)) ?_
              with_reducible refine (ih k (by omega) (wrap64 (Int.tdiv a0 10)) t105 _ A11.out).mono ?_
              rintro e w16 ⟨rfl, hb⟩
              refine ⟨_, rfl, ?_⟩
              have n0_ := aM (Kd.R_below (by (with_reducible repeat (first | apply rA | apply rN | apply rD)); exact HO108.out) hb)
              have n1_ := aM (below_step (by repeat (first | (with_reducible first | exact HB.out | apply below_alloc | apply pw_below_drewN | apply below_drew1) | exact HB.out)) hb)
              clear HO108
              clear HB
              have HO108 := n0_
              have HB := n1_
              clear n0_ n1_
              (try clear hb)
              (try clear hb2)
              (try clear hk)
              (try clear hi)
              refine hK.out _ _ trivial (fun hHeld => ?_)
              clear hK K
              refine norm_ (a' := ?_) ?_ ?_
              rotate_left
              · show Act.put _ (some 20) _ = _
                simp only [Act.put, List.setIfInBounds_toArray, List.set_cons_zero, List.set_cons_succ, i64_w, i32_w]
                rfl
              refine one_ (i := 8) (N := some 26) #[true, true, true, true, true, true, true, true, true, false, false] rfl rfl (one_of HT_.out (by kernel_rfl)) (by decide) (fun K hK => ?_)
              have hcv17 := own_string (P := Tryd.prog) Tryd.underlying35 Tryd.underlying5 Tryd.underlying9 (Kd.own_of_R HO108.out)
              refine value_ (w1 := ?_) (v := ?_) (by rfl) rfl ?_ ?_
              rotate_left 2
              · go_simp
                constructor
                · rfl
                · rfl
              clear hcv17
              refine hK.out _ _ trivial (fun hHeld => ?_)
              clear hK K
              refine norm_ (a' := ?_) ?_ ?_
              rotate_left
              · show Act.put _ (some 26) _ = _
                simp only [Act.put, List.setIfInBounds_toArray, List.set_cons_zero, List.set_cons_succ, i64_w, i32_w]
                rfl
              exact norm_ (by simp only [putAll, Act.put, List.setIfInBounds_toArray, List.set_cons_zero, List.set_cons_succ]) (hCont (v107) _ ⟨(by (with_reducible repeat (first | apply rA | apply rN | apply rD)); exact HO108.out), (by repeat (first | (with_reducible first | exact HB.out | apply below_alloc | apply pw_below_drewN | apply below_drew1) | exact HB.out))⟩)
            · skip
              have hcv16 := own_string (P := Tryd.prog) Tryd.underlying35 Tryd.underlying5 Tryd.underlying9 (Kd.own_of_R HO108.out)
              refine value_ (w1 := ?_) (v := ?_) (by rfl) rfl ?_ ?_
              rotate_left 2
              · go_simp
                constructor
                · rfl
                · rfl
              clear hcv16
              refine hK.out _ _ trivial (fun hHeld => ?_)
              clear hK K
              refine norm_ (a' := ?_) ?_ ?_
              rotate_left
              · show Act.put _ (some 26) _ = _
                simp only [Act.put, List.setIfInBounds_toArray, List.set_cons_zero, List.set_cons_succ, i64_w, i32_w]
                rfl
              refine one_ (i := 2) (N := some 20) #[true, true, true, true, true, true, true, true, true, false, false] rfl rfl (one_of HT_.out (by kernel_rfl)) (by decide) (fun K hK => ?_)
              refine goes_ Tryd.func37 (by kernel_rfl) rfl #[.int .i64 (wrap64 (Int.tdiv a0 10))] (by rfl) rfl rfl (by (try simp only [List.map_toArray, List.map_cons, List.map_nil]); first | done | rfl | (simp only [List.length_drop, List.length_take]; rfl)) ?_
              with_reducible refine (ih k (by omega) (wrap64 (Int.tdiv a0 10)) t105 _ A11.out).mono ?_
              rintro e w17 ⟨rfl, hb⟩
              refine ⟨_, rfl, ?_⟩
              have n0_ := aM (Kd.R_below (by (with_reducible repeat (first | apply rA | apply rN | apply rD)); exact HO108.out) hb)
              have n1_ := aM (below_step (by repeat (first | (with_reducible first | exact HB.out | apply below_alloc | apply pw_below_drewN | apply below_drew1) | exact HB.out)) hb)
              clear HO108
              clear HB
              have HO108 := n0_
              have HB := n1_
              clear n0_ n1_
              (try clear hb)
              (try clear hb2)
              (try clear hk)
              (try clear hi)
              refine hK.out _ _ trivial (fun hHeld => ?_)
              clear hK K
              refine norm_ (a' := ?_) ?_ ?_
              rotate_left
              · show Act.put _ (some 20) _ = _
                simp only [Act.put, List.setIfInBounds_toArray, List.set_cons_zero, List.set_cons_succ, i64_w, i32_w]
                rfl
              exact norm_ (by simp only [putAll, Act.put, List.setIfInBounds_toArray, List.set_cons_zero, List.set_cons_succ]) (hCont (v107) _ ⟨(by (with_reducible repeat (first | apply rA | apply rN | apply rD)); exact HO108.out), (by repeat (first | (with_reducible first | exact HB.out | apply below_alloc | apply pw_below_drewN | apply below_drew1) | exact HB.out))⟩)
        rintro v107 w18 ⟨h0_, h1_⟩
        have n0_ : Aside0 (Kd.R (Kd.int .u8) 5 w18 w.heap.size (fun _ => True) v107 y106) := ⟨h0_⟩
        have n1_ : Aside0 (Below w.heap.size w w18) := ⟨h1_⟩
        clear HB
        clear h0_ h1_
        have HO108 := n0_
        have HB := n1_
        clear n0_ n1_
        have hHeld := trivial
        refine norm_ (a' := ?_) ?_ ?_
        rotate_left
        · simp only [putAll, Act.put, List.setIfInBounds_toArray, List.set_cons_zero, List.set_cons_succ]
          rfl
        refine pure_ (i := 9) (N := some 27) (v := ?_) (a' := ?_) #[true, true, true, true, true, true, true, true, true, true, false] rfl rfl (any_of HT_.out (by kernel_rfl)) (fun _ _ _ h => h) (Or.inl ⟨by rfl, ?_⟩) ?_ ?_
        rotate_left
        · intro w'
          go_simp
          with_reducible rfl
        rotate_left
        · simp only [Act.put, List.setIfInBounds_toArray, List.set_cons_zero, List.set_cons_succ, i64_w, i32_w]
          rfl
        refine pure_ (i := 10) (N := some 2) (v := ?_) (a' := ?_) #[true, true, true, true, true, true, true, true, true, true, true] rfl rfl (any_of HT_.out (by kernel_rfl)) (fun _ _ _ h => h) (Or.inl ⟨by rfl, ?_⟩) ?_ ?_
        rotate_left
        · intro w'
          go_simp
          with_reducible rfl
        rotate_left
        · simp only [Act.put, List.setIfInBounds_toArray, List.set_cons_zero, List.set_cons_succ, i64_w, i32_w]
          rfl
        refine done_ (done_of HT_.out (by kernel_rfl)) ?_
        try go_wp2
        go_ret
        exact ⟨by first | rfl | (simp [errW_none, errW_some] <;> rfl) | (simp [*, errW_none, errW_some] <;> rfl), by repeat (first | (with_reducible first | exact HB.out | apply below_alloc | apply pw_below_drewN | apply below_drew1) | exact HB.out)⟩
      · rw [if_neg c12] at H
        exact absurd H (by simp)

end Go.Proofs.YtcbgjcnekdoloaaDoor.G

namespace Go.Proofs.YtcbgjcnekdoloaaDoor.NumL
open Go.RowKit Go.Proofs.YtcbgjcnekdoloaaDoor.G Go.Proofs.YtcbgjcnekdoloaaDoor.EvL Go.Proofs.YtcbgjcnekdoloaaDoor.TxtL Go.Proofs.YtcbgjcnekdoloaaDoorW.PrintWords Go.Proofs.YtcbgjcnekdoloaaDoorW.PrintLast
set_option linter.unusedVariables false
set_option linter.unusedSimpArgs false

theorem digit_all : ∀ i : Fin 10, strOfNums (([(wrap64 (48 + (i.val : Int))) % 256] : List Int)) = ⟨([UInt8.ofNat (48 + i.val)] : List UInt8).toArray⟩ := by decide +kernel
theorem digit (n : Int) (h0 : 0 ≤ n) (h1 : n < 10) : strOfNums (([(wrap64 (48 + n)) % 256] : List Int)) = ⟨([UInt8.ofNat (48 + n.toNat)] : List UInt8).toArray⟩ := by
  have h := digit_all ⟨n.toNat, by omega⟩
  have e : (((⟨n.toNat, by omega⟩ : Fin 10).val : Nat) : Int) = n := by show ((n.toNat : Nat) : Int) = n; omega
  rw [e] at h
  exact h
theorem low_ev (n : Int) (h0 : 0 ≤ n) (h1 : n < 10) : Ev (fun k => spec_l1Num.f k n) ⟨(Lib.decDigits n.toNat).toArray⟩ := by
  refine Ev.step (f := fun _ => some ⟨(Lib.decDigits n.toNat).toArray⟩) (fun k => ?_) (Ev.now _)
  simp only [spec_l1Num.f]
  rw [if_neg (by omega), if_pos h1, digit n h0 h1, Lib.decDigits_one (by omega)]
theorem up_ev (n : Int) (h0 : 10 ≤ n) (h1 : n ≤ 9223372036854775807) (hl : (Lib.decDigits (n / 10).toNat).length ≤ 100) (h : Ev (fun k => spec_l1Num.f k (n / 10)) ⟨(Lib.decDigits (n / 10).toNat).toArray⟩) : Ev (fun k => spec_l1Num.f k n) ⟨(Lib.decDigits n.toNat).toArray⟩ := by
  have e : Int.tdiv n 10 = n / 10 := Int.tdiv_eq_ediv_of_nonneg (by omega)
  have e2 : wrap64 (Int.tdiv n 10) = n / 10 := by rw [e]; exact w64 (by omega) (by omega)
  have e3 : Int.tmod n 10 = n % 10 := Int.tmod_eq_emod_of_nonneg (by omega)
  have e4 := digit (n % 10) (by omega) (by omega)
  have e5 : Lib.decDigits n.toNat = Lib.decDigits (n / 10).toNat ++ [UInt8.ofNat (48 + (n % 10).toNat)] := by
    rw [Lib.decDigits, dif_neg (by omega), show n.toNat / 10 = (n / 10).toNat by omega, show n.toNat % 10 = (n % 10).toNat by omega]
  refine Ev.step (f := fun k => (spec_l1Num.f k (n / 10)).bind fun t105 => (if t105.size + (⟨([UInt8.ofNat (48 + (n % 10).toNat)] : List UInt8).toArray⟩ : ByteArray).size ≤ 9223372036854775807 then (some (t105 ++ (⟨([UInt8.ofNat (48 + (n % 10).toNat)] : List UInt8).toArray⟩ : ByteArray))) else (none))) (fun k => ?_) (Ev.bind h (Ev.ite_pos ?_ (Ev.of_eq (Ev.now _) ?_)))
  · simp only [spec_l1Num.f]
    rw [if_neg (by omega), if_neg (by omega), e2, e3]
    simp only [Option.bind_some, e4]
  · show (Lib.decDigits (n / 10).toNat).toArray.size + 1 ≤ _
    simp; omega
  · rw [e5]
    apply ByteArray.ext
    simp
theorem num_ev : ∀ (m : Nat) (n : Int), 0 ≤ n → n < 10 ^ (m + 1) → n ≤ 9223372036854775807 → m ≤ 20 → Ev (fun k => spec_l1Num.f k n) ⟨(Lib.decDigits n.toNat).toArray⟩ ∧ (Lib.decDigits n.toNat).length ≤ m + 1 := by
  intro m
  induction m with
  | zero =>
    intro n h0 h1 h2 hm
    have h1' : n < 10 := by simpa using h1
    exact ⟨low_ev n h0 h1', by rw [Lib.decDigits_one (by omega)]; simp⟩
  | succ m ih =>
    intro n h0 h1 h2 hm
    by_cases c : n < 10
    · exact ⟨low_ev n h0 c, by rw [Lib.decDigits_one (by omega)]; simp⟩
    · have hp : (10 : Int) ^ (m + 1 + 1) = 10 ^ (m + 1) * 10 := Int.pow_succ ..
      obtain ⟨hE, hl⟩ := ih (n / 10) (by omega) (by rw [hp] at h1; omega) (by omega) (by omega)
      refine ⟨up_ev n (by omega) h2 (by omega) hE, ?_⟩
      rw [Lib.decDigits, dif_neg (by omega), show n.toNat / 10 = (n / 10).toNat by omega]
      simp; omega
theorem num_nn (n : Int) (h0 : 0 ≤ n) (h1 : n ≤ 9223372036854775807) : Ev (fun k => spec_l1Num.f k n) ⟨(Lib.decDigits n.toNat).toArray⟩ ∧ (Lib.decDigits n.toNat).length ≤ 19 :=
  num_ev 18 n h0 (by have : (10 : Int) ^ (18 + 1) = 10000000000000000000 := by decide
                     omega) h1 (by decide)
theorem low_all : (⟨#[45, 57, 50, 50, 51, 51, 55, 50, 48, 51, 54, 56, 53, 52, 55, 55, 53, 56, 48, 56]⟩ : ByteArray) = B (Lib.itoa (-9223372036854775808)) := by
  have h : Lib.decDigits 9223372036854775808 = [57, 50, 50, 51, 51, 55, 50, 48, 51, 54, 56, 53, 52, 55, 55, 53, 56, 48, 56] := by
    rw [Lib.decDigits_eq]
    decide +kernel
  unfold Lib.itoa
  rw [if_pos (by decide), show (-9223372036854775808 : Int).natAbs = 9223372036854775808 from rfl, h]
  rfl
theorem num_B (n : Int) (h0 : -9223372036854775808 ≤ n) (h1 : n ≤ 9223372036854775807) : Ev (fun k => spec_l1Num.f k n) (B (Lib.itoa n)) ∧ (Lib.itoa n).length ≤ 20 := by
  by_cases hn : n < 0
  · have e : Lib.itoa n = 45 :: Lib.decDigits n.natAbs := by unfold Lib.itoa; rw [if_pos hn]
    by_cases hm : n = -9223372036854775808
    · subst hm
      refine ⟨Ev.step (f := fun _ => some (B (Lib.itoa (-9223372036854775808)))) (fun k => ?_) (Ev.now _), ?_⟩
      · rw [spec_l1Num.f, if_pos (by decide), if_pos rfl, low_all]
      · have := congrArg ByteArray.size low_all
        rw [B_size] at this
        rw [← this]; decide
    · obtain ⟨hE, hl⟩ := num_nn (-n) (by omega) (by omega)
      have e2 : (-n).toNat = n.natAbs := by omega
      rw [e2] at hE hl
      have e3 : wrap64 (-n) = -n := w64 (by omega) (by omega)
      refine ⟨Ev.step (f := fun k => (spec_l1Num.f k (-n)).bind fun t101 => (if 1 + t101.size ≤ 9223372036854775807 then (some ((⟨#[45]⟩ : ByteArray) ++ t101)) else (none))) (fun k => ?_) (Ev.bind hE (Ev.ite_pos ?_ (Ev.of_eq (Ev.now _) ?_))), by rw [e]; simp; omega⟩
      · rw [spec_l1Num.f, if_pos hn, if_neg hm, e3]
      · have : (⟨(Lib.decDigits n.natAbs).toArray⟩ : ByteArray).size = (Lib.decDigits n.natAbs).length := B_size _
        omega
      · rw [e]; exact B_append [45] _
  · have e : Lib.itoa n = Lib.decDigits n.toNat := by unfold Lib.itoa; rw [if_neg hn]
    obtain ⟨hE, hl⟩ := num_nn n (by omega) h1
    rw [e]
    exact ⟨hE, by omega⟩
end Go.Proofs.YtcbgjcnekdoloaaDoor.NumL
