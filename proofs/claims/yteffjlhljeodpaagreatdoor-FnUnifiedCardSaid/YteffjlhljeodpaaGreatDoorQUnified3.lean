/- Part 3 of 6 of the proof that the law FnUnifiedCardSaid holds: for every input that can be read the call returns true and leaves its arguments as they were; no condition but those each theorem names. -/
import Derived.Shelf.SlSortCmp.WholeK
import Derived.Shelf.SlicesG.Cmp
import Derived.Shelf.Lay
import Derived.Ground.SlsfProg
import Derived.Ground.SlgcProg
import Derived.Maps.RangeWalk
import Derived.Maps.AppendAt
import Derived.Test.YteffjlhljeodpaaGreatDoorQUnifiedW1
import Derived.Test.YteffjlhljeodpaaGreatDoorQUnified1
import Derived.Test.YteffjlhljeodpaaGreatDoorQUnified2
namespace Go.Proofs.YteffjlhljeodpaaGreatDoor.G
open Go.RowKit Go.Proofs.YteffjlhljeodpaaGreatDoorW.PrintWords Go.Proofs.YteffjlhljeodpaaGreatDoorW.PrintLast Go.Proofs.YteffjlhljeodpaaGreatDoorW.PrintMore Go.Proofs.YteffjlhljeodpaaGreatDoor.Short
attribute [local go_sem] max2_int min2_int max_two min_two max_three min_three max_four min_four   -- for this text's walks alone
set_option linter.unusedVariables false
set_option linter.unusedSimpArgs false

theorem Kd.V_away {α : Type} {d : Kd α} {e : Nat} {W : World} {base : Nat} {ok : Nat → Prop} {v : Value} {xs : List α} {g : Nat} (h : Kd.V d e W base ok v xs) (hok : ∀ k, ok k → k ≠ g) (h0 : decide (0 < xs.length) = true := by assumption) (hs : 0 < d.sz := by decide) : some g ≠ v.ownBlock := by
 obtain ⟨A, c, rfl, hl, hf⟩ := h
 have hp : 0 < xs.length := of_decide_eq_true h0
 intro hg
 have hC := Kd.F_now hf
 obtain ⟨a, rfl, hcell⟩ := hC.2.2 hp
 have hga : g = a.block := by simpa [Value.ownBlock] using hg
 -- a world in which that block holds nothing
 have key : ∀ (W' : World), d.C W' (some a) xs.length xs → ∃ (n : Nat) (u : Value), W'.cell? (a.add n) = some u := by
  intro W' hC'
  obtain ⟨a', ha', hcell'⟩ := hC'.2.2 hp
  injection ha' with ha'
  subst ha'
  obtain ⟨c0, hc0, _, hcc⟩ := hcell' 0 (xs[0]) (by simp [hp])
  exact ⟨0 * d.sz + 0, c0[0]'(by omega), hcc 0 _ (by simp)⟩
 obtain ⟨n0, u0, hu0⟩ := key W hC
 have hlt : a.block < W.heap.size := by
  have := World.block_lt_of_cell? W _ hu0
  rwa [add_block] at this
 let W' : World := { W with heap := W.heap.setIfInBounds a.block (.pending #[] 0) }
 have hC' : d.C W' (some a) xs.length xs := hf W' (fun k hk _ => by
  have : k ≠ a.block := hga ▸ hok k hk
  show (W.heap.setIfInBounds a.block (.pending #[] 0))[k]? = _
  rw [Array.getElem?_setIfInBounds_ne (Ne.symm this)])
 obtain ⟨n1, u1, hu1⟩ := key W' hC'
 unfold World.cell? at hu1
 rw [add_block] at hu1
 have e : W'.heap[a.block]? = some (.pending #[] 0) := by
  show (W.heap.setIfInBounds a.block (.pending #[] 0))[a.block]? = _
  simp [hlt]
 rw [e] at hu1
 simp at hu1
mutual
def spec_leApply.l0 : Nat → List Int → Int → Int → List Int → List (S55) → Int → List (S55) → Option (Int × (List (S55)))
 | 0, _, _, _, _, _, _, _ => none
 | k + 1, x12, x13, x14, x102000, x102001, x103000, x103001 => if x14 < x13 then (if 0 ≤ x14 then (if x14 < (x12.length : Int) then (if (rd x12 x14) = x103000 then (if x14 < (x102001.length : Int) then (some ((rd_T55 x102001 x14).f0, (rd_T55 x102001 x14).f1)) else (none)) else (spec_leApply.l0 k x12 x13 (wrap64 (x14 + 1)) x102000 x102001 x103000 x103001)) else (none)) else (none)) else (some (x103000, x103001))
def spec_leApply.f : Nat → List Int → List (S55) → Int → List (S55) → Option (Int × (List (S55)))
 | 0, _, _, _, _ => none
 | k + 1, l0_0, l0_1, a1_0, l1_1 => if (l1_1.length : Int) = 0 then (spec_leApply.l0 k l0_0 (l0_0.length : Int) 0 l0_0 l0_1 a1_0 l1_1) else (if 0 < (l1_1.length : Int) then ((spec_leApply.f k l0_0 l0_1 ((rd_T55 l1_1 0).f0) ((rd_T55 l1_1 0).f1)).bind fun bt107 => (if 1 < (l1_1.length : Int) then ((spec_leApply.f k l0_0 l0_1 ((rd_T55 l1_1 1).f0) ((rd_T55 l1_1 1).f1)).bind fun bt112 => (some (0, (([(⟨bt107.1, bt107.2⟩ : S55), (⟨bt112.1, bt112.2⟩ : S55)] : List (S55)))))) else (none))) else (none))
end
def spec_leApply.T9 : Bool × List (List Nat × List Nat) := (true, [([], []), ([], []), ([1], [1]), ([2], [2]), ([3], [3]), ([0, 4], [0, 4]), ([], []), ([], []), ([7], [7]), ([8], [8]), ([9], [9]), ([6, 10, 5], [6, 10]), ([5, 11], [5, 11]), ([12], [12]), ([13, 11, 0, 1, 2, 3, 4, 5, 6, 7, 8, 9, 10, 11, 12, 13], [13])])
def spec_leApply.B9 : List Nat := [0, 0, 2, 6, 14, 31, 0, 0, 128, 384, 896, 2047, 4095, 8191, 16383]
theorem spec_leApply.tab9 : rtab .any (opsOf Tryz.f26 9) = spec_leApply.T9 := by kernel_rfl
theorem spec_leApply.bits9 : waitsOk spec_leApply.T9.2 spec_leApply.B9 = true := by kernel_rfl
set_option maxHeartbeats 8000000 in
set_option maxRecDepth 100000 in
theorem spec_leApply.calls (k : Nat) : ∀ (A0_0 : Option Addr) (c0_0 : Nat) (l0_0 : List Int) (P0_1_ : Nat → Prop) (A0_1 : Option Addr) (c0_1 : Nat) (l0_1 : List (S55)) (a1_0 : Int) (P1_1_ : Nat → Prop) (A1_1 : Option Addr) (c1_1 : Nat) (l1_1 : List (S55)) (r1 : Int) (r2 : List (S55)) (w : World) (hr0_0 : Kd.C (Kd.int .i64) w A0_0 l0_0.length l0_0) (hc0_0 : l0_0.length ≤ c0_0) (hs0_1 : Kd.V k55 55 w w.heap.size (fun k_ => P0_1_ k_) (.slice A0_1 l0_1.length c0_1) l0_1) (hs1_1 : Kd.V k55 55 w w.heap.size (fun k_ => P1_1_ k_) (.slice A1_1 l1_1.length c1_1) l1_1) (h : spec_leApply.f k l0_0 l0_1 a1_0 l1_1 = some (r1, r2)),
  Calls Tryz.prog 26 #[.agg #[.slice A0_0 l0_0.length c0_0, .slice A0_1 l0_1.length c0_1], .agg #[.int .i64 a1_0, .slice A1_1 l1_1.length c1_1]] w fun e w' => ∃ v1_ : Value, e = .returned (.agg #[.int .i64 r1, v1_]) ∧ Kd.V k55 55 w' w.heap.size (fun k_ => ((P0_1_ k_ ∨ P1_1_ k_) ∨ w.heap.size ≤ k_)) v1_ r2 ∧ Below w.heap.size w w' := by
 induction k using Nat.strongRecOn with
 | _ k ih =>
 intro A0_0 c0_0 l0_0 P0_1_ A0_1 c0_1 l0_1 a1_0 P1_1_ A1_1 c1_1 l1_1 r1 r2 w hr0_0 hc0_0 hs0_1 hs1_1 h
 cases k with
 | zero => exact absurd h (by simp [spec_leApply.f])
 | succ k =>
 simp only [spec_leApply.f] at h
 have hu60 := Tryz.underlying60
 have hu55 := Tryz.underlying55
 have HR0_0 := aK hr0_0
 have HC0_0 := aK hc0_0
 clear hr0_0 hc0_0
 have HO0_1 := aK (show Kd.V k55 55 w w.heap.size (fun k_ => ((P0_1_ k_ ∨ P1_1_ k_) ∨ w.heap.size ≤ k_)) (.slice A0_1 l0_1.length c0_1) l0_1 from Kd.V_mono hs0_1 (fun k_ hk => .inl (.inl hk)))
 have HO1_1 := aK (show Kd.V k55 55 w w.heap.size (fun k_ => ((P0_1_ k_ ∨ P1_1_ k_) ∨ w.heap.size ≤ k_)) (.slice A1_1 l1_1.length c1_1) l1_1 from Kd.V_mono hs1_1 (fun k_ hk => .inl (.inr hk)))
 have HB := aK (Below.refl w.heap.size w)
 have H : (if (l1_1.length : Int) = 0 then (spec_leApply.l0 k l0_0 (l0_0.length : Int) 0 l0_0 l0_1 a1_0 l1_1) else (if 0 < (l1_1.length : Int) then ((spec_leApply.f k l0_0 l0_1 ((rd_T55 l1_1 0).f0) ((rd_T55 l1_1 0).f1)).bind fun bt107 => (if 1 < (l1_1.length : Int) then ((spec_leApply.f k l0_0 l0_1 ((rd_T55 l1_1 1).f0) ((rd_T55 l1_1 1).f1)).bind fun bt112 => (some (0, (([(⟨bt107.1, bt107.2⟩ : S55), (⟨bt112.1, bt112.2⟩ : S55)] : List (S55)))))) else (none))) else (none))) = some (r1, r2) := h
 clear h
 by_cases c3 : (l1_1.length : Int) = 0
 ·rw [if_pos c3] at H
  have c3b0 : ((l1_1.length : Int) == 0) = true := beq_iff_eq.mpr c3
  have c3b1 : ((l1_1.length : Int) != 0) = false := bne_eq_false_iff_eq.mpr c3
  clear c3
  have H' := aK H
  clear H
  go_enter Tryz.func26, Tryz.ntmps26
  go_wp2_with (first | ((with_reducible refine gate_dst (N := 2) rfl ?_); refine bE (N := 2) (cs := #[.slice A0_0 l0_0.length c0_0, .slice A0_1 l0_1.length c0_1]) (t := 60) ?_; intro gb101 hg w4 hbox hb; have GW101 := qw HB hg; have GE101 := qw HB hg; replace HO0_1 := qv HO0_1 hg hb; replace HO1_1 := qv HO1_1 hg hb; have BK101 := aK hbox; replace HB := qs HB hb; clear hb hbox hg) | ((with_reducible refine gate_dst (N := 3) rfl ?_); refine bE (N := 3) (cs := #[.int .i64 a1_0, .slice A1_1 l1_1.length c1_1]) (t := 55) ?_; intro gb102 hg w5 hbox hb; have GW102 := qw HB hg; have GE102 := qw HB hg; have NB101_102 := ql BK101 hg; have NB102_101 := qg BK101 hg; replace HO0_1 := qv HO0_1 hg hb; replace HO1_1 := qv HO1_1 hg hb; replace BK101 := qb BK101 hb; have BK102 := aK hbox; replace HB := qs HB hb; clear hb hbox hg) | ((with_reducible refine gate_dst (N := 4) rfl ?_); refine bE (N := 4) (cs := #[.int .i64 0, .slice none 0 0]) (t := 55) ?_; intro gb103 hg w6 hbox hb; have GW103 := qw HB hg; have GE103 := qw HB hg; have NB101_103 := ql BK101 hg; have NB103_101 := qg BK101 hg; have NB102_103 := ql BK102 hg; have NB103_102 := qg BK102 hg; replace HO0_1 := qv HO0_1 hg hb; replace HO1_1 := qv HO1_1 hg hb; replace BK101 := qb BK101 hb; replace BK102 := qb BK102 hb; have BK103 := aK hbox; replace HB := qs HB hb; clear hb hbox hg; have hnb7 := NB102_101.out; have hnc7 := NB101_102.out; have hnb8 := NB102_103.out; have hnc8 := NB103_102.out; obtain ⟨hcz9_0, hcz9_1, hfz9_0, hfz9_1⟩ := cA2 BK102; have hnb10 := NB101_103.out; have hnc10 := NB103_101.out; obtain ⟨hcz11_0, hcz11_1, hfz11_0, hfz11_1⟩ := cA2 BK101))
  go_loopg [14] k (fun kq v14 w' => ∃ (x14_1 : Int) (x104000_1 : Int), v14 = .int .i64 x14_1 ∧ Aside0 (spec_leApply.l0 kq l0_0 (l0_0.length : Int) x14_1 l0_0 l0_1 a1_0 l1_1 = some (r1, r2)) ∧ Aside0 (kq ≤ k) ∧ Aside0 (Kd.V k55 55 w' w.heap.size (fun k_ => ((P0_1_ k_ ∨ P1_1_ k_) ∨ w.heap.size ≤ k_) ∧ k_ ≠ gb101 ∧ k_ ≠ gb102 ∧ k_ ≠ gb103) (.slice A0_1 l0_1.length c0_1) l0_1) ∧ Aside0 (Kd.V k55 55 w' w.heap.size (fun k_ => ((P0_1_ k_ ∨ P1_1_ k_) ∨ w.heap.size ≤ k_) ∧ k_ ≠ gb101 ∧ k_ ≠ gb102 ∧ k_ ≠ gb103) (.slice A1_1 l1_1.length c1_1) l1_1) ∧ Aside0 (w'.heap[gb101]? = some (.cells #[(.slice A0_0 l0_0.length c0_0), (.slice A0_1 l0_1.length c0_1)] 60 (0, 0))) ∧ Aside0 (w'.heap[gb102]? = some (.cells #[.int .i64 a1_0, (.slice A1_1 l1_1.length c1_1)] 55 (0, 0))) ∧ Aside0 (w'.heap[gb103]? = some (.cells #[.int .i64 x104000_1, (.slice none 0 0)] 55 (0, 0))) ∧ Aside0 (Below w.heap.size w w'))
  case atStart => exact ⟨(0), (0), rS, H', ⟨Nat.le_refl _⟩, ⟨vZ HO0_1⟩, ⟨vZ HO1_1⟩, ⟨pB BK101⟩, ⟨pB BK102⟩, ⟨pB BK103⟩, ⟨pH HB⟩⟩
  case round =>
   clear H'
   obtain ⟨x14_1, x104000_1, rfl, HA, HK1, HO_102001, HO_103001, BK101, BK102, BK103, HB⟩ := hrel
   cases gk with
   | zero => exact absurd HA.out (by simp [spec_leApply.l0])
   | succ k1 =>
    have H := HA.out
    clear HA
    simp only [spec_leApply.l0] at H
    by_cases c12 : x14_1 < (l0_0.length : Int)
    ·rw [if_pos c12] at H
     have c12b0 : decide (x14_1 < (l0_0.length : Int)) = true := decide_eq_true c12
     clear c12
     by_cases c13 : 0 ≤ x14_1
     ·rw [if_pos c13] at H
      have c13b0 : decide (0 ≤ x14_1) = true := decide_eq_true c13
      clear c13
      by_cases c14 : x14_1 < (l0_0.length : Int)
      ·rw [if_pos c14] at H
       have c14b0 : decide (x14_1 < (l0_0.length : Int)) = true := decide_eq_true c14
       clear c14
       by_cases c15 : (rd l0_0 x14_1) = a1_0
       ·rw [if_pos c15] at H
        have c15b0 : ((rd l0_0 x14_1) == a1_0) = true := beq_iff_eq.mpr c15
        have c15b1 : ((rd l0_0 x14_1) != a1_0) = false := bne_eq_false_iff_eq.mpr c15
        clear c15
        by_cases c16 : x14_1 < (l0_1.length : Int)
        ·rw [if_pos c16] at H
         have c16b0 : decide (x14_1 < (l0_1.length : Int)) = true := decide_eq_true c16
         clear c16
         simp only [Option.some.injEq, Prod.mk.injEq] at H
         obtain ⟨rfl, rfl⟩ := H
         have p104 : 0 ≤ (x14_1 : Int) := dA
         have q104 : x14_1 < (l0_0.length : Int) := dA
         obtain ⟨ad104, e104, hx104_0⟩ := Kd.at_int HR0_0.out x14_1 p104 q104
         cases e104
         replace hx104_0 := uC HB hx104_0
         replace p104 := eq_true p104
         replace q104 := eq_true q104
         have hnb17 := NB102_101.out
         have hnc17 := NB101_102.out
         have hnb18 := NB102_103.out
         have hnc18 := NB103_102.out
         obtain ⟨hcz19_0, hcz19_1, hfz19_0, hfz19_1⟩ := cA2 BK102
         have hnb20 := NB101_103.out
         have hnc20 := NB103_101.out
         obtain ⟨hcz21_0, hcz21_1, hfz21_0, hfz21_1⟩ := cA2 BK101
         have p105 : 0 ≤ (x14_1 : Int) := dA
         have q105 : x14_1 < (l0_1.length : Int) := dA
         obtain ⟨ad105, A105_1, c105_1, e105, hx105_0, hx105_1, hl105_1, hi105_1⟩ := at_T55 (Kd.V_reads' HO_102001.out).2.2 x14_1 p105 q105
         cases e105
         obtain ⟨ce105, hce105, hMe105, hcc105⟩ := Kd.V_get HO_102001.out z55 x14_1 p105 (by first | exact q105 | exact dA | (have e_ := (Kd.V_reads' HO_102001.out).1; omega))
         obtain ⟨ua105_1, uc105_1, rfl, ul105_1, ge105_1⟩ := k55_openF hMe105
         have hv105_1 := hcc105 1 _ rfl
         rw [add_field _ _ 1 (by omega)] at hv105_1
         replace hv105_1 := Option.some.inj (hv105_1.symm.trans hx105_1)
         injection hv105_1 with hva_ hvn_ hvc_
         rw [hva_] at ge105_1
         rw [hvc_] at ul105_1
         have HL105_1 := aK (show Kd.V k55 55 _ w.heap.size _ _ ((rd_T55 l0_1 x14_1).f1) from Kd.V_mk ul105_1 ge105_1)
         clear hva_ hvn_ hvc_ ge105_1 ul105_1
         clear hcc105 hce105
         have HR105_1 := aK hi105_1
         have HC105_1 := aK hl105_1
         clear hi105_1 hl105_1
         replace p105 := eq_true p105
         replace q105 := eq_true q105
         obtain ⟨hcz22_0, hcz22_1, hfz22_0, hfz22_1⟩ := cA2 BK103
         go_wp2
         refine bodyPost_ret (results_cell_row rfl _ _ gb103 55 #[.int .i64 ((rd_T55 l0_1 x14_1).f0), .slice A105_1 ((rd_T55 l0_1 x14_1).f1).length c105_1] (0, 0) _ rfl (bP BK103) Tryz.underlying55 rfl (by kernel_rfl)) rfl ?_
         exact ⟨_, eW, by (with_reducible repeat (first | apply Kd.V_alloc | apply Kd.V_drewN | apply Kd.V_drew)); exact Kd.V_mono (Kd.V_far (p := ⟨gb103, 1, none⟩) (Kd.V_far (p := ⟨gb103, 0, none⟩) (Kd.V_mono HL105_1.out (fun k_ hk => (⟨hk, hk.2.2.2⟩ : _ ∧ k_ ≠ gb103))) (fun _ hk => hk.2) (.int .i64 ((rd_T55 l0_1 x14_1).f0))) (fun _ hk => hk.2) (.slice A105_1 ((rd_T55 l0_1 x14_1).f1).length c105_1)) (fun _ hk => hk.1.1), pH HB⟩
        ·rw [if_neg c16] at H
         exact absurd H (by simp)
       ·rw [if_neg c15] at H
        have c15b0 : ((rd l0_0 x14_1) == a1_0) = false := beq_eq_false_iff_ne.mpr c15
        have c15b1 : ((rd l0_0 x14_1) != a1_0) = true := bne_iff_ne.mpr c15
        have H' := aK H
        clear H
        have p104 : 0 ≤ (x14_1 : Int) := dA
        have q104 : x14_1 < (l0_0.length : Int) := dA
        obtain ⟨ad104, e104, hx104_0⟩ := Kd.at_int HR0_0.out x14_1 p104 q104
        cases e104
        replace hx104_0 := uC HB hx104_0
        replace p104 := eq_true p104
        replace q104 := eq_true q104
        have hnb23 := NB102_101.out
        have hnc23 := NB101_102.out
        have hnb24 := NB102_103.out
        have hnc24 := NB103_102.out
        obtain ⟨hcz25_0, hcz25_1, hfz25_0, hfz25_1⟩ := cA2 BK102
        go_wp2
        go_roundg k1
        case measure => have := HK1.out; omega
        case rel => exact ⟨(wrap64 (x14_1 + 1)), (x104000_1), rS, H', ⟨by have := HK1.out; omega⟩, ⟨vY HO_102001⟩, ⟨vY HO_103001⟩, ⟨pB BK101⟩, ⟨pB BK102⟩, ⟨pB BK103⟩, ⟨pH HB⟩⟩
      ·rw [if_neg c14] at H
       exact absurd H (by simp)
     ·rw [if_neg c13] at H
      exact absurd H (by simp)
    ·rw [if_neg c12] at H
     have c12b0 : decide (x14_1 < (l0_0.length : Int)) = false := decide_eq_false c12
     clear c12
     simp only [Option.some.injEq, Prod.mk.injEq] at H
     obtain ⟨rfl, rfl⟩ := H
     have hnb26 := NB102_101.out
     have hnc26 := NB101_102.out
     have hnb27 := NB102_103.out
     have hnc27 := NB103_102.out
     obtain ⟨hcz28_0, hcz28_1, hfz28_0, hfz28_1⟩ := cA2 BK102
     have hnb29 := NB103_101.out
     have hnc29 := NB101_103.out
     obtain ⟨hcz30_0, hcz30_1, hfz30_0, hfz30_1⟩ := cA2 BK103
     go_wp2
     refine bodyPost_ret (results_cell_row rfl _ _ gb103 55 #[.int .i64 a1_0, .slice A1_1 l1_1.length c1_1] (0, 0) _ rfl (bP BK103) Tryz.underlying55 rfl (by kernel_rfl)) rfl ?_
     exact ⟨_, eW, by (with_reducible repeat (first | apply Kd.V_alloc | apply Kd.V_drewN | apply Kd.V_drew)); exact Kd.V_mono (Kd.V_far (p := ⟨gb103, 1, none⟩) (Kd.V_far (p := ⟨gb103, 0, none⟩) (Kd.V_mono HO_103001.out (fun k_ hk => (⟨hk, hk.2.2.2⟩ : _ ∧ k_ ≠ gb103))) (fun _ hk => hk.2) (.int .i64 a1_0)) (fun _ hk => hk.2) (.slice A1_1 l1_1.length c1_1)) (fun _ hk => hk.1.1), pH HB⟩
 ·rw [if_neg c3] at H
  have c3b0 : ((l1_1.length : Int) == 0) = false := beq_eq_false_iff_ne.mpr c3
  have c3b1 : ((l1_1.length : Int) != 0) = true := bne_iff_ne.mpr c3
  have c3b2 : ¬ (l1_1 = []) := fun h_ => c3 (by rw [h_]; rfl)
  by_cases c31 : 0 < (l1_1.length : Int)
  ·rw [if_pos c31] at H
   have c31b0 : decide (0 < (l1_1.length : Int)) = true := decide_eq_true c31
   have c31b1 : decide (0 < l1_1.length) = true := decide_eq_true (by omega)
   clear c31
   obtain ⟨⟨t107, t108⟩, A32, H⟩ := oB H
   try dsimp only at H
   by_cases c33 : 1 < (l1_1.length : Int)
   ·rw [if_pos c33] at H
    have c33b0 : decide (1 < (l1_1.length : Int)) = true := decide_eq_true c33
    have c33b1 : decide (1 < l1_1.length) = true := decide_eq_true (by omega)
    clear c33
    obtain ⟨⟨t112, t113⟩, A34, H⟩ := oB H
    try dsimp only at H
    obtain ⟨y116, hy116⟩ : ∃ y_ : List (S55), y_ = (([(⟨t107, t108⟩ : S55), (⟨t112, t113⟩ : S55)] : List (S55))) := ⟨_, rfl⟩
    replace H : (some (0, y116)) = some (r1, r2) := by first | (rw [hy116]; with_reducible exact H) | (have H2_ := (Option.bind_some _ _).symm.trans H; rw [hy116]; with_reducible exact H2_) | (have H2_ := (Option.bind_some _ _).symm.trans H; with_reducible exact H2_) | with_reducible exact H | (rw [hy116]; exact H) | exact H
    have Ny116 := aK hy116
    clear hy116
    simp only [Option.some.injEq, Prod.mk.injEq] at H
    obtain ⟨rfl, rfl⟩ := H
    go_enter Tryz.func26, Tryz.ntmps26
    try go_wp2_with (first | ((with_reducible refine gate_dst (N := 2) rfl ?_); refine bE (N := 2) (cs := #[.slice A0_0 l0_0.length c0_0, .slice A0_1 l0_1.length c0_1]) (t := 60) ?_; intro gb101 hg w35 hbox hb; have GW101 := qw HB hg; have GE101 := qw HB hg; replace HO0_1 := qv HO0_1 hg hb; replace HO1_1 := qv HO1_1 hg hb; have BK101 := aK hbox; replace HB := qs HB hb; clear hb hbox hg) | ((with_reducible refine gate_dst (N := 3) rfl ?_); refine bE (N := 3) (cs := #[.int .i64 a1_0, .slice A1_1 l1_1.length c1_1]) (t := 55) ?_; intro gb102 hg w36 hbox hb; have GW102 := qw HB hg; have GE102 := qw HB hg; have NB101_102 := ql BK101 hg; have NB102_101 := qg BK101 hg; replace HO0_1 := qv HO0_1 hg hb; replace HO1_1 := qv HO1_1 hg hb; replace BK101 := qb BK101 hb; have BK102 := aK hbox; replace HB := qs HB hb; clear hb hbox hg) | ((with_reducible refine gate_dst (N := 4) rfl ?_); refine bE (N := 4) (cs := #[.int .i64 0, .slice none 0 0]) (t := 55) ?_; intro gb103 hg w37 hbox hb; have GW103 := qw HB hg; have GE103 := qw HB hg; have NB101_103 := ql BK101 hg; have NB103_101 := qg BK101 hg; have NB102_103 := ql BK102 hg; have NB103_102 := qg BK102 hg; replace HO0_1 := qv HO0_1 hg hb; replace HO1_1 := qv HO1_1 hg hb; replace BK101 := qb BK101 hb; replace BK102 := qb BK102 hb; have BK103 := aK hbox; replace HB := qs HB hb; clear hb hbox hg; have hnb38 := NB102_101.out; have hnc38 := NB101_102.out; have hnb39 := NB102_103.out; have hnc39 := NB103_102.out; obtain ⟨hcz40_0, hcz40_1, hfz40_0, hfz40_1⟩ := cA2 BK102))
    have n_ := aJ (vD HO0_1) (aJ (vD HO1_1) (aJ (aK (blk_drew BK101.out)) (aJ (aK (blk_drew BK102.out)) (aJ (aK (blk_drew BK103.out)) (aK (below_drew1 HB.out))))))
    clear HO0_1 HO1_1 BK101 BK102 BK103 HB
    obtain ⟨HO0_1, HO1_1, BK101, BK102, BK103, HB⟩ := n_
    have p106 : 0 ≤ (0 : Int) := (by omega)
    have q106 : 0 < (l1_1.length : Int) := dA
    obtain ⟨ad106, A106_1, c106_1, e106, hx106_0, hx106_1, hl106_1, hi106_1⟩ := at_T55 (Kd.V_reads' HO1_1.out).2.2 0 p106 q106
    cases e106
    obtain ⟨ce106, hce106, hMe106, hcc106⟩ := Kd.V_get HO1_1.out z55 0 p106 (by first | exact q106 | exact dA | (have e_ := (Kd.V_reads' HO1_1.out).1; omega))
    obtain ⟨ua106_1, uc106_1, rfl, ul106_1, ge106_1⟩ := k55_openF hMe106
    have hv106_1 := hcc106 1 _ rfl
    rw [add_field _ _ 1 (by omega)] at hv106_1
    replace hv106_1 := Option.some.inj (hv106_1.symm.trans hx106_1)
    injection hv106_1 with hva_ hvn_ hvc_
    rw [hva_] at ge106_1
    rw [hvc_] at ul106_1
    have HL106_1 := aK (show Kd.V k55 55 _ w.heap.size _ _ ((rd_T55 l1_1 0).f1) from Kd.V_mk ul106_1 ge106_1)
    clear hva_ hvn_ hvc_ ge106_1 ul106_1
    clear hcc106 hce106
    have qi106 : (0 < l1_1.length) = True := eq_true (by omega)
    (try rw [show ((0 : Int)).toNat = 0 from rfl] at hx106_0)
    (try rw [show 0 * 2 = 0 from rfl] at hx106_0)
    (try rw [Addr.add_zero'] at hx106_0)
    (try rw [show ((0 : Int)).toNat = 0 from rfl] at hx106_1)
    (try rw [show 0 * 2 = 0 from rfl] at hx106_1)
    (try rw [Addr.add_zero'] at hx106_1)
    have HR106_1 := aK hi106_1
    have HC106_1 := aK hl106_1
    clear hi106_1 hl106_1
    replace p106 := eq_true p106
    replace q106 := eq_true q106
    have p111 : 0 ≤ (1 : Int) := (by omega)
    have q111 : 1 < (l1_1.length : Int) := dA
    obtain ⟨ad111, A111_1, c111_1, e111, hx111_0, hx111_1, hl111_1, hi111_1⟩ := at_T55 (Kd.V_reads' HO1_1.out).2.2 1 p111 q111
    obtain rfl : ad106 = ad111 := (by injection e111)
    obtain ⟨ce111, hce111, hMe111, hcc111⟩ := Kd.V_get HO1_1.out z55 1 p111 (by first | exact q111 | exact dA | (have e_ := (Kd.V_reads' HO1_1.out).1; omega))
    obtain ⟨ua111_1, uc111_1, rfl, ul111_1, ge111_1⟩ := k55_openF hMe111
    have hv111_1 := hcc111 1 _ rfl
    rw [add_field _ _ 1 (by omega)] at hv111_1
    replace hv111_1 := Option.some.inj (hv111_1.symm.trans hx111_1)
    injection hv111_1 with hva_ hvn_ hvc_
    rw [hva_] at ge111_1
    rw [hvc_] at ul111_1
    have HL111_1 := aK (show Kd.V k55 55 _ w.heap.size _ _ ((rd_T55 l1_1 1).f1) from Kd.V_mk ul111_1 ge111_1)
    clear hva_ hvn_ hvc_ ge111_1 ul111_1
    clear hcc111 hce111
    (try simp only [show (1 : Int).toNat = 1 from rfl, Nat.reduceMul, Nat.reduceEqDiff, Go.Addr.add, ↓reduceIte] at hx111_0)
    (try simp only [show (1 : Int).toNat = 1 from rfl, Nat.reduceMul, Nat.reduceEqDiff, Go.Addr.add, ↓reduceIte] at hx111_1)
    have qi111 : (1 < l1_1.length) = True := eq_true (by omega)
    (try rw [show ((1 : Int)).toNat = 1 from rfl] at hx111_0)
    (try rw [show 1 * 2 = 2 from rfl] at hx111_0)
    (try rw [show ((1 : Int)).toNat = 1 from rfl] at hx111_1)
    (try rw [show 1 * 2 = 2 from rfl] at hx111_1)
    have HR111_1 := aK hi111_1
    have HC111_1 := aK hl111_1
    clear hi111_1 hl111_1
    replace p111 := eq_true p111
    replace q111 := eq_true q111
    refine start_ (n := 15) (S := fun w' => w'.cell? ⟨gb101, 0, none⟩ = some (.slice A0_0 l0_0.length c0_0) ∧ w'.cell? ⟨gb101, 1, none⟩ = some (.slice A0_1 l0_1.length c0_1) ∧ w'.cell? ⟨gb102, 0, none⟩ = some (.int .i64 a1_0) ∧ w'.cell? ⟨gb102, 1, none⟩ = some (.slice (some ad106) l1_1.length c1_1) ∧ w'.cell? ad106 = some (.int .i64 ((rd_T55 l1_1 0).f0)) ∧ w'.cell? ⟨ad106.block, ad106.off + 1, none⟩ = some (.slice A106_1 ((rd_T55 l1_1 0).f1).length c106_1) ∧ w'.cell? ⟨ad106.block, ad106.off + 2, none⟩ = some (.int .i64 ((rd_T55 l1_1 1).f0)) ∧ w'.cell? ⟨ad106.block, ad106.off + 2 + 1, none⟩ = some (.slice A111_1 ((rd_T55 l1_1 1).f1).length c111_1)) (ds := []) (bs 0 15) (by kernel_rfl) rfl rfl ⟨(blk_cell BK101.out 0).trans rfl, (blk_cell BK101.out 1).trans rfl, (blk_cell BK102.out 0).trans rfl, (blk_cell BK102.out 1).trans rfl, hx106_0, hx106_1, hx111_0, hx111_1⟩ (fun hHeld => ?_); refine with_tabW spec_leApply.tab9 spec_leApply.bits9 (fun HT_ HW_ => ?_)
    generalize w37.drew = w41 at HO0_1 HO1_1 BK101 BK102 BK103 HB HL106_1 HL111_1 HR106_1 HR111_1 hx106_0 hx106_1 hx111_0 hx111_1 hHeld ⊢
    refine pQ 1 31 HT_ ?_
    refine pQ 7 37 HT_ ?_
    refine tQ 0 30 HT_ HW_ hHeld ?_
    refine tQ 2 32 HT_ HW_ hHeld ?_
    refine pQ 3 33 HT_ ?_
    refine tQ 4 34 HT_ HW_ hHeld ?_
    refine tQ 6 36 HT_ HW_ hHeld ?_
    refine tQ 8 38 HT_ HW_ hHeld ?_
    refine pQ 9 39 HT_ ?_
    refine tQ 10 40 HT_ HW_ hHeld ?_
    refine oQ 5 35 HT_ (fun K hK => ?_)
    refine goes_ Tryz.func26 (by kernel_rfl) rfl #[.agg #[.slice A0_0 l0_0.length c0_0, .slice A0_1 l0_1.length c0_1], .agg #[.int .i64 ((rd_T55 l1_1 0).f0), .slice A106_1 ((rd_T55 l1_1 0).f1).length c106_1]] (by rfl) rfl rfl tA ?_
    with_reducible refine (ih k (by omega) _ _ l0_0 (fun k_ => (((((P0_1_ k_ ∨ P1_1_ k_) ∨ w.heap.size ≤ k_) ∧ k_ ≠ gb101) ∧ k_ ≠ gb102) ∧ k_ ≠ gb103)) _ _ l0_1 ((rd_T55 l1_1 0).f0) (fun k_ => (((((P0_1_ k_ ∨ P1_1_ k_) ∨ w.heap.size ≤ k_) ∧ k_ ≠ gb101) ∧ k_ ≠ gb102) ∧ k_ ≠ gb103)) _ _ ((rd_T55 l1_1 0).f1) t107 t108 _ ?side1 ?side2 ?side3 ?side4 A32.out).mono ?_
    (case side1 => exact sC (Kd.C_below HR0_0.out HB.out))
    (case side2 => exact HC0_0.out)
    (case side3 => exact HO0_1.out)
    (case side4 => exact HL106_1.out)
    rintro e w42 ⟨v109, rfl, ho0, hb⟩
    have HS4_ := (hb.cell (World.block_lt_of_cell? _ _ (hHeld.2.2.2.2.1))).trans (hHeld.2.2.2.2.1)
    have HS5_ := (hb.cell (World.block_lt_of_cell? _ _ (hHeld.2.2.2.2.2.1))).trans (hHeld.2.2.2.2.2.1)
    have HS6_ := (hb.cell (World.block_lt_of_cell? _ _ (hHeld.2.2.2.2.2.2.1))).trans (hHeld.2.2.2.2.2.2.1)
    have HS7_ := (hb.cell (World.block_lt_of_cell? _ _ (hHeld.2.2.2.2.2.2.2))).trans (hHeld.2.2.2.2.2.2.2)
    refine ⟨_, rfl, ?_⟩
    have n_ := aJ (vB HO0_1 hb) (aJ (vB HO1_1 hb) (aJ (vB HL106_1 hb) (aJ (vB HL111_1 hb) (aJ (aK (Kd.V_lower (Kd.V_mono (ok' := fun k_ => ((P0_1_ k_ ∨ P1_1_ k_) ∨ w.heap.size ≤ k_) ∧ k_ ≠ gb101 ∧ k_ ≠ gb102 ∧ k_ ≠ gb103) ho0 (fun k_ hk_ => ⟨Or.elim hk_ (fun hs_ => Or.elim hs_ (fun hs_ => hs_.1.1.1) (fun hs_ => hs_.1.1.1)) (fun hn_ => (.inr (Nat.le_trans (below_size (pH HB)) hn_))), Or.elim hk_ (fun hs_ => Or.elim hs_ (fun hs_ => hs_.1.1.2) (fun hs_ => hs_.1.1.2)) (fun hn_ => (Kd.freshB BK101.out k_ hn_)), Or.elim hk_ (fun hs_ => Or.elim hs_ (fun hs_ => hs_.1.2) (fun hs_ => hs_.1.2)) (fun hn_ => (Kd.freshB BK102.out k_ hn_)), Or.elim hk_ (fun hs_ => Or.elim hs_ (fun hs_ => hs_.2) (fun hs_ => hs_.2)) (fun hn_ => (Kd.freshB BK103.out k_ hn_))⟩)) (below_size (pH HB)))) (aJ (qb BK101 hb) (aJ (qb BK102 hb) (aJ (qb BK103 hb) (aJ (aK (Kd.C_below (by repeat (first | (with_reducible exact HR106_1.out) | (with_reducible refine Kd.C_alloc ?_ _) | (with_reducible refine Kd.C_drewN ?_ _) | (with_reducible refine Kd.C_drew ?_) | exact HR106_1.out)) hb)) (aJ (aK (Kd.C_below (by repeat (first | (with_reducible exact HR111_1.out) | (with_reducible refine Kd.C_alloc ?_ _) | (with_reducible refine Kd.C_drewN ?_ _) | (with_reducible refine Kd.C_drew ?_) | exact HR111_1.out)) hb)) (aK (below_step (pH HB) hb)))))))))))
    clear HO0_1 HO1_1 HL106_1 HL111_1 BK101 BK102 BK103 HR106_1 HR111_1 HB
    obtain ⟨HO0_1, HO1_1, HL106_1, HL111_1, HO110, BK101, BK102, BK103, HR106_1, HR111_1, HB⟩ := n_
    (try clear hb)
    (try clear hb2)
    (try clear hk)
    (try clear hi)
    (try clear ho0)
    refine hK.out _ _ ⟨(blk_cell BK101.out 0).trans rfl, (blk_cell BK101.out 1).trans rfl, (blk_cell BK102.out 0).trans rfl, (blk_cell BK102.out 1).trans rfl, HS4_, HS5_, HS6_, HS7_⟩ (fun hHeld => ?_)
    clear hK K
    refine nQ 35 ?_
    refine oQ 11 41 HT_ (fun K hK => ?_)
    refine goes_ Tryz.func26 (by kernel_rfl) rfl #[.agg #[.slice A0_0 l0_0.length c0_0, .slice A0_1 l0_1.length c0_1], .agg #[.int .i64 ((rd_T55 l1_1 1).f0), .slice A111_1 ((rd_T55 l1_1 1).f1).length c111_1]] (by rfl) rfl rfl tA ?_
    with_reducible refine (ih k (by omega) _ _ l0_0 (fun k_ => (((((P0_1_ k_ ∨ P1_1_ k_) ∨ w.heap.size ≤ k_) ∧ k_ ≠ gb101) ∧ k_ ≠ gb102) ∧ k_ ≠ gb103)) _ _ l0_1 ((rd_T55 l1_1 1).f0) (fun k_ => (((((P0_1_ k_ ∨ P1_1_ k_) ∨ w.heap.size ≤ k_) ∧ k_ ≠ gb101) ∧ k_ ≠ gb102) ∧ k_ ≠ gb103)) _ _ ((rd_T55 l1_1 1).f1) t112 t113 _ ?side1 ?side2 ?side3 ?side4 A34.out).mono ?_
    (case side1 => exact sC (Kd.C_below HR0_0.out HB.out))
    (case side2 => exact HC0_0.out)
    (case side3 => exact HO0_1.out)
    (case side4 => exact HL111_1.out)
    rintro e w43 ⟨v114, rfl, ho0, hb⟩
    have HS4_ := (hb.cell (World.block_lt_of_cell? _ _ (hHeld.2.2.2.2.1))).trans (hHeld.2.2.2.2.1)
    have HS5_ := (hb.cell (World.block_lt_of_cell? _ _ (hHeld.2.2.2.2.2.1))).trans (hHeld.2.2.2.2.2.1)
    have HS6_ := (hb.cell (World.block_lt_of_cell? _ _ (hHeld.2.2.2.2.2.2.1))).trans (hHeld.2.2.2.2.2.2.1)
    have HS7_ := (hb.cell (World.block_lt_of_cell? _ _ (hHeld.2.2.2.2.2.2.2))).trans (hHeld.2.2.2.2.2.2.2)
    refine ⟨_, rfl, ?_⟩
    have n_ := aJ (vB HO0_1 hb) (aJ (vB HO1_1 hb) (aJ (vB HL106_1 hb) (aJ (vB HL111_1 hb) (aJ (vB HO110 hb) (aJ (aK (Kd.V_lower (Kd.V_mono (ok' := fun k_ => ((P0_1_ k_ ∨ P1_1_ k_) ∨ w.heap.size ≤ k_) ∧ k_ ≠ gb101 ∧ k_ ≠ gb102 ∧ k_ ≠ gb103) ho0 (fun k_ hk_ => ⟨Or.elim hk_ (fun hs_ => Or.elim hs_ (fun hs_ => hs_.1.1.1) (fun hs_ => hs_.1.1.1)) (fun hn_ => (.inr (Nat.le_trans (below_size (pH HB)) hn_))), Or.elim hk_ (fun hs_ => Or.elim hs_ (fun hs_ => hs_.1.1.2) (fun hs_ => hs_.1.1.2)) (fun hn_ => (Kd.freshB BK101.out k_ hn_)), Or.elim hk_ (fun hs_ => Or.elim hs_ (fun hs_ => hs_.1.2) (fun hs_ => hs_.1.2)) (fun hn_ => (Kd.freshB BK102.out k_ hn_)), Or.elim hk_ (fun hs_ => Or.elim hs_ (fun hs_ => hs_.2) (fun hs_ => hs_.2)) (fun hn_ => (Kd.freshB BK103.out k_ hn_))⟩)) (below_size (pH HB)))) (aJ (qb BK101 hb) (aJ (qb BK102 hb) (aJ (qb BK103 hb) (aJ (aK (Kd.C_below (by repeat (first | (with_reducible exact HR106_1.out) | (with_reducible refine Kd.C_alloc ?_ _) | (with_reducible refine Kd.C_drewN ?_ _) | (with_reducible refine Kd.C_drew ?_) | exact HR106_1.out)) hb)) (aJ (aK (Kd.C_below (by repeat (first | (with_reducible exact HR111_1.out) | (with_reducible refine Kd.C_alloc ?_ _) | (with_reducible refine Kd.C_drewN ?_ _) | (with_reducible refine Kd.C_drew ?_) | exact HR111_1.out)) hb)) (aK (below_step (pH HB) hb))))))))))))
    clear HO0_1 HO1_1 HL106_1 HL111_1 HO110 BK101 BK102 BK103 HR106_1 HR111_1 HB
    obtain ⟨HO0_1, HO1_1, HL106_1, HL111_1, HO110, HO115, BK101, BK102, BK103, HR106_1, HR111_1, HB⟩ := n_
    (try clear hb)
    (try clear hb2)
    (try clear hk)
    (try clear hi)
    (try clear ho0)
    obtain ⟨Ao44, co44, eo44⟩ := Kd.V_slice HO110.out
    (first | subst eo44 | (injection eo44 with f1_ f2_ f3_; have f4_ := f1_.symm; have f5_ := f3_.symm; clear f1_ f2_ f3_; subst f4_; subst f5_))
    obtain ⟨Ao45, co45, eo45⟩ := Kd.V_slice HO115.out
    (first | subst eo45 | (injection eo45 with f1_ f2_ f3_; have f4_ := f1_.symm; have f5_ := f3_.symm; clear f1_ f2_ f3_; subst f4_; subst f5_))
    refine hK.out _ _ ⟨(blk_cell BK101.out 0).trans rfl, (blk_cell BK101.out 1).trans rfl, (blk_cell BK102.out 0).trans rfl, (blk_cell BK102.out 1).trans rfl, HS4_, HS5_, HS6_, HS7_⟩ (fun hHeld => ?_)
    clear hK K
    refine nQ 41 ?_
    refine oQ 12 42 HT_ (fun K hK => ?_)
    refine Kd.N_lit_step k55 _ 55 ?hg (N' := 42) ?hd (xs := ([(⟨t107, t108⟩ : S55), (⟨t112, t113⟩ : S55)] : List (S55))) (inner := [.int .i64 t107, .slice Ao44 t108.length co44, .int .i64 t112, .slice Ao45 t113.length co45]) (ok := (fun k_ => ((P0_1_ k_ ∨ P1_1_ k_) ∨ w.heap.size ≤ k_) ∧ k_ ≠ gb101 ∧ k_ ≠ gb102 ∧ k_ ≠ gb103)) (okp := (fun k_ => ((P0_1_ k_ ∨ P1_1_ k_) ∨ w.heap.size ≤ k_) ∧ k_ ≠ gb101 ∧ k_ ≠ gb102 ∧ k_ ≠ gb103)) ?hr ?hp (fun _ hk => hk) ((show ∀ k_, w43.heap.size ≤ k_ → (fun k_ => ((P0_1_ k_ ∨ P1_1_ k_) ∨ w.heap.size ≤ k_) ∧ k_ ≠ gb101 ∧ k_ ≠ gb102 ∧ k_ ≠ gb103) k_ from fun k_ hk => ⟨(.inr (Nat.le_trans (below_size (pH HB)) hk)), Kd.freshB BK101.out k_ hk, Kd.freshB BK102.out k_ hk, Kd.freshB BK103.out k_ hk⟩) _ (Nat.le_refl _)) (Below.refl _ _) (Nat.le_refl _) (by simp) ?_; (case hd => rfl); (case hg => rfl); (case hr => go_simp); (case hp => exact (Reps.c2 (show Kd.FK k55 _ _ (⟨t107, t108⟩ : S55) [.int .i64 t107, .slice Ao44 t108.length co44] from (k55_mkF _ _ (⟨t107, t108⟩ : S55) (Kd.V_reads' (Kd.V_mono (ok' := (fun k_ => ((P0_1_ k_ ∨ P1_1_ k_) ∨ w.heap.size ≤ k_) ∧ k_ ≠ gb101 ∧ k_ ≠ gb102 ∧ k_ ≠ gb103)) (HO110.out) (fun k_ hk => ⟨hk.1, ⟨hk.2.1, ⟨hk.2.2.1, hk.2.2.2⟩⟩⟩))).2.1 (Kd.V_F (Kd.V_mono (ok' := (fun k_ => ((P0_1_ k_ ∨ P1_1_ k_) ∨ w.heap.size ≤ k_) ∧ k_ ≠ gb101 ∧ k_ ≠ gb102 ∧ k_ ≠ gb103)) (HO110.out) (fun k_ hk => ⟨hk.1, ⟨hk.2.1, ⟨hk.2.2.1, hk.2.2.2⟩⟩⟩))))) (Reps.c2 (show Kd.FK k55 _ _ (⟨t112, t113⟩ : S55) [.int .i64 t112, .slice Ao45 t113.length co45] from (k55_mkF _ _ (⟨t112, t113⟩ : S55) (Kd.V_reads' (Kd.V_mono (ok' := (fun k_ => ((P0_1_ k_ ∨ P1_1_ k_) ∨ w.heap.size ≤ k_) ∧ k_ ≠ gb101 ∧ k_ ≠ gb102 ∧ k_ ≠ gb103)) (HO115.out) (fun k_ hk => ⟨hk.1, ⟨hk.2.1, ⟨hk.2.2.1, hk.2.2.2⟩⟩⟩))).2.1 (Kd.V_F (Kd.V_mono (ok' := (fun k_ => ((P0_1_ k_ ∨ P1_1_ k_) ∨ w.heap.size ≤ k_) ∧ k_ ≠ gb101 ∧ k_ ≠ gb102 ∧ k_ ≠ gb103)) (HO115.out) (fun k_ hk => ⟨hk.1, ⟨hk.2.1, ⟨hk.2.2.1, hk.2.2.2⟩⟩⟩))))) (Reps.none _ _))))
    intro v117 w46 ho47 hb hg_ hnew_
    have HS4_ := (hb.cell (World.block_lt_of_cell? _ _ (hHeld.2.2.2.2.1))).trans (hHeld.2.2.2.2.1)
    have HS5_ := (hb.cell (World.block_lt_of_cell? _ _ (hHeld.2.2.2.2.2.1))).trans (hHeld.2.2.2.2.2.1)
    have HS6_ := (hb.cell (World.block_lt_of_cell? _ _ (hHeld.2.2.2.2.2.2.1))).trans (hHeld.2.2.2.2.2.2.1)
    have HS7_ := (hb.cell (World.block_lt_of_cell? _ _ (hHeld.2.2.2.2.2.2.2))).trans (hHeld.2.2.2.2.2.2.2)
    clear hg_ hnew_
    (first | rw [← Ny116.out] at ho47 | (simp only [Int.reduceToNat] at ho47; rw [← Ny116.out] at ho47))
    have n_ := aJ (aK (Kd.V_elder' HO0_1.out (Kd.N_base ho47) hb)) (aJ (aK (Kd.V_elder' HO1_1.out (Kd.N_base ho47) hb)) (aJ (aK (Kd.V_elder' HL106_1.out (Kd.N_base ho47) hb)) (aJ (aK (Kd.V_elder' HL111_1.out (Kd.N_base ho47) hb)) (aJ (aK (Kd.V_elder' HO110.out (Kd.N_base ho47) hb)) (aJ (aK (Kd.V_elder' HO115.out (Kd.N_base ho47) hb)) (aJ (aK (Kd.N_lower ho47 (below_size (pH HB)))) (aJ (qb BK101 hb) (aJ (qb BK102 hb) (aJ (qb BK103 hb) (aJ (aK (Kd.C_below (by repeat (first | (with_reducible exact HR106_1.out) | (with_reducible refine Kd.C_alloc ?_ _) | (with_reducible refine Kd.C_drewN ?_ _) | (with_reducible refine Kd.C_drew ?_) | exact HR106_1.out)) hb)) (aJ (aK (Kd.C_below (by repeat (first | (with_reducible exact HR111_1.out) | (with_reducible refine Kd.C_alloc ?_ _) | (with_reducible refine Kd.C_drewN ?_ _) | (with_reducible refine Kd.C_drew ?_) | exact HR111_1.out)) hb)) (aK (below_step (pH HB) hb)))))))))))))
    clear HO0_1 HO1_1 HL106_1 HL111_1 HO110 HO115 BK101 BK102 BK103 HR106_1 HR111_1 HB
    obtain ⟨HO0_1, HO1_1, HL106_1, HL111_1, HO110, HO115, HO118, BK101, BK102, BK103, HR106_1, HR111_1, HB⟩ := n_
    clear hb ho47
    obtain ⟨Ao48, co48, eo48⟩ := Kd.N_slice HO118.out
    (first | subst eo48 | (injection eo48 with f1_ f2_ f3_; have f4_ := f1_.symm; have f5_ := f3_.symm; clear f1_ f2_ f3_; subst f4_; subst f5_))
    refine hK.out _ _ ⟨(blk_cell BK101.out 0).trans rfl, (blk_cell BK101.out 1).trans rfl, (blk_cell BK102.out 0).trans rfl, (blk_cell BK102.out 1).trans rfl, HS4_, HS5_, HS6_, HS7_⟩ (fun hHeld => ?_)
    clear hK K
    refine nQ 42 ?_
    refine pQ 13 43 HT_ ?_
    refine one_ (i := 14) (N := none) (bs 15 0) rfl rfl (one_of HT_.out (by kernel_rfl)) (by decide) (fun K hK => ?_)
    have hs49 : w46.cell? ⟨gb103, 0, none⟩ = some (.int .i64 0) := (blk_cell BK103.out 0).trans rfl
    have hfs49 := blk_frozen BK103.out 0
    have hns49_0 := NB101_103.out
    have hns49_1 := NB102_103.out
    have hms49_0 := NB103_101.out
    have hms49_1 := NB103_102.out
    have hs50 : w46.cell? ⟨gb103, 1, none⟩ = some (.slice none 0 0) := (blk_cell BK103.out 1).trans rfl
    have hfs50 := blk_frozen BK103.out 1
    have hns50_0 := NB101_103.out
    have hns50_1 := NB102_103.out
    have hms50_0 := NB103_101.out
    have hms50_1 := NB103_102.out
    refine skip_ (w1 := ?_) (by rfl) rfl ?_ ?_
    rotate_left
    ·go_simp
     rfl
    refine hK.out _ _ ⟨((cell_far (p := ⟨gb103, _, none⟩) NB101_103.out _).trans (((cell_far (p := ⟨gb103, _, none⟩) NB101_103.out _).trans (hHeld.1)))), ((cell_far (p := ⟨gb103, _, none⟩) NB101_103.out _).trans (((cell_far (p := ⟨gb103, _, none⟩) NB101_103.out _).trans (hHeld.2.1)))), ((cell_far (p := ⟨gb103, _, none⟩) NB102_103.out _).trans (((cell_far (p := ⟨gb103, _, none⟩) NB102_103.out _).trans (hHeld.2.2.1)))), ((cell_far (p := ⟨gb103, _, none⟩) NB102_103.out _).trans (((cell_far (p := ⟨gb103, _, none⟩) NB102_103.out _).trans (hHeld.2.2.2.1)))), ((cell_far (p := ⟨gb103, _, none⟩) (by first | exact Kd.own_blk (Kd.V_away HO1_1.out (fun _ hk => hk.1.2)) | (rw [add_block]; exact Kd.own_blk (Kd.V_away HO1_1.out (fun _ hk => hk.1.2))) | (show (Addr.add _ _).block ≠ _; rw [add_block]; exact Kd.own_blk (Kd.V_away HO1_1.out (fun _ hk => hk.1.2))) | (dsimp only; exact Kd.own_blk (Kd.V_away HO1_1.out (fun _ hk => hk.1.2)))) _).trans (((cell_far (p := ⟨gb103, _, none⟩) (by first | exact Kd.own_blk (Kd.V_away HO1_1.out (fun _ hk => hk.1.2)) | (rw [add_block]; exact Kd.own_blk (Kd.V_away HO1_1.out (fun _ hk => hk.1.2))) | (show (Addr.add _ _).block ≠ _; rw [add_block]; exact Kd.own_blk (Kd.V_away HO1_1.out (fun _ hk => hk.1.2))) | (dsimp only; exact Kd.own_blk (Kd.V_away HO1_1.out (fun _ hk => hk.1.2)))) _).trans (hHeld.2.2.2.2.1)))), ((cell_far (p := ⟨gb103, _, none⟩) (by first | exact Kd.own_blk (Kd.V_away HO1_1.out (fun _ hk => hk.1.2)) | (rw [add_block]; exact Kd.own_blk (Kd.V_away HO1_1.out (fun _ hk => hk.1.2))) | (show (Addr.add _ _).block ≠ _; rw [add_block]; exact Kd.own_blk (Kd.V_away HO1_1.out (fun _ hk => hk.1.2))) | (dsimp only; exact Kd.own_blk (Kd.V_away HO1_1.out (fun _ hk => hk.1.2)))) _).trans (((cell_far (p := ⟨gb103, _, none⟩) (by first | exact Kd.own_blk (Kd.V_away HO1_1.out (fun _ hk => hk.1.2)) | (rw [add_block]; exact Kd.own_blk (Kd.V_away HO1_1.out (fun _ hk => hk.1.2))) | (show (Addr.add _ _).block ≠ _; rw [add_block]; exact Kd.own_blk (Kd.V_away HO1_1.out (fun _ hk => hk.1.2))) | (dsimp only; exact Kd.own_blk (Kd.V_away HO1_1.out (fun _ hk => hk.1.2)))) _).trans (hHeld.2.2.2.2.2.1)))), ((cell_far (p := ⟨gb103, _, none⟩) (by first | exact Kd.own_blk (Kd.V_away HO1_1.out (fun _ hk => hk.1.2)) | (rw [add_block]; exact Kd.own_blk (Kd.V_away HO1_1.out (fun _ hk => hk.1.2))) | (show (Addr.add _ _).block ≠ _; rw [add_block]; exact Kd.own_blk (Kd.V_away HO1_1.out (fun _ hk => hk.1.2))) | (dsimp only; exact Kd.own_blk (Kd.V_away HO1_1.out (fun _ hk => hk.1.2)))) _).trans (((cell_far (p := ⟨gb103, _, none⟩) (by first | exact Kd.own_blk (Kd.V_away HO1_1.out (fun _ hk => hk.1.2)) | (rw [add_block]; exact Kd.own_blk (Kd.V_away HO1_1.out (fun _ hk => hk.1.2))) | (show (Addr.add _ _).block ≠ _; rw [add_block]; exact Kd.own_blk (Kd.V_away HO1_1.out (fun _ hk => hk.1.2))) | (dsimp only; exact Kd.own_blk (Kd.V_away HO1_1.out (fun _ hk => hk.1.2)))) _).trans (hHeld.2.2.2.2.2.2.1)))), ((cell_far (p := ⟨gb103, _, none⟩) (by first | exact Kd.own_blk (Kd.V_away HO1_1.out (fun _ hk => hk.1.2)) | (rw [add_block]; exact Kd.own_blk (Kd.V_away HO1_1.out (fun _ hk => hk.1.2))) | (show (Addr.add _ _).block ≠ _; rw [add_block]; exact Kd.own_blk (Kd.V_away HO1_1.out (fun _ hk => hk.1.2))) | (dsimp only; exact Kd.own_blk (Kd.V_away HO1_1.out (fun _ hk => hk.1.2)))) _).trans (((cell_far (p := ⟨gb103, _, none⟩) (by first | exact Kd.own_blk (Kd.V_away HO1_1.out (fun _ hk => hk.1.2)) | (rw [add_block]; exact Kd.own_blk (Kd.V_away HO1_1.out (fun _ hk => hk.1.2))) | (show (Addr.add _ _).block ≠ _; rw [add_block]; exact Kd.own_blk (Kd.V_away HO1_1.out (fun _ hk => hk.1.2))) | (dsimp only; exact Kd.own_blk (Kd.V_away HO1_1.out (fun _ hk => hk.1.2)))) _).trans (hHeld.2.2.2.2.2.2.2))))⟩ (fun hHeld => ?_)
    clear hK K
    refine done_ (done_of HT_.out (by kernel_rfl)) ?_
    try go_wp2
    refine bodyPost_ret (results_cell_row rfl _ _ gb103 55 #[.int .i64 0, .slice Ao48 y116.length co48] (0, 0) _ rfl (bP BK103) Tryz.underlying55 rfl (by kernel_rfl)) rfl ?_
    exact ⟨_, eW, Kd.N_V (nZ HO118), pH HB⟩
   ·rw [if_neg c33] at H
    exact absurd H (by simp)
  ·rw [if_neg c31] at H
   exact absurd H (by simp)


def spec_ApplyType.j0 : Nat → Bool → List Int → List (S55) → Int → List (S55) → Option (ByteArray × Bool)
 | 0, _, _, _, _, _ => none
 | k + 1, x25, x109000, x109001, x115000, x115001 => if x25 = true then (some ((⟨#[]⟩ : ByteArray), false)) else ((spec_leApply.f k x109000 x109001 x115000 x115001).bind fun bt115 => ((spec_leFine.f k bt115.1 bt115.2).bind fun t119 => (if t119 = true then ((spec_leText.f k bt115.1 bt115.2).bind fun t120 => (some (t120, true))) else (some ((⟨#[]⟩ : ByteArray), false)))))
def spec_ApplyType.f (k : Nat) (l0 : List (S29)) (a1 : ByteArray) : Option (ByteArray × Bool) := (spec_leBinds.f k l0).bind fun bt101 => ((spec_leOf.f k a1).bind fun bt109 => (if bt101.2.2 = true then (spec_ApplyType.j0 k (!bt109.2.2) bt101.1 bt101.2.1 bt109.1 bt109.2.1) else (spec_ApplyType.j0 k true bt101.1 bt101.2.1 bt109.1 bt109.2.1)))
set_option maxHeartbeats 8000000 in
set_option maxRecDepth 100000 in
theorem spec_ApplyType.calls (k : Nat) (A0 : Option Addr) (c0 : Nat) (l0 : List (S29)) (a1 : ByteArray) (r1 : ByteArray) (r2 : Bool) (w : World) (hr0 : Kd.C k29 w A0 l0.length l0) (hc0 : l0.length ≤ c0) (h : spec_ApplyType.f k l0 a1 = some (r1, r2)) :
  Calls Tryz.prog 9 #[.slice A0 l0.length c0, .string a1] w fun e w' => e = .returned (.tuple #[.string r1, .bool r2]) ∧ Below w.heap.size w w' := by
 have hu60 := Tryz.underlying60
 have hu55 := Tryz.underlying55
 have HR0 := aK hr0
 have HC0 := aK hc0
 clear hr0 hc0
 have HB := aK (Below.refl w.heap.size w)
 have H : ((spec_leBinds.f k l0).bind fun bt101 => ((spec_leOf.f k a1).bind fun bt109 => (if bt101.2.2 = true then (spec_ApplyType.j0 k (!bt109.2.2) bt101.1 bt101.2.1 bt109.1 bt109.2.1) else (spec_ApplyType.j0 k true bt101.1 bt101.2.1 bt109.1 bt109.2.1)))) = some (r1, r2) := h
 clear h
 obtain ⟨⟨t101, t104, t107⟩, A3, H⟩ := oB H
 try dsimp only at H
 obtain ⟨⟨t109, t110, t113⟩, A4, H⟩ := oB H
 try dsimp only at H
 have HC5 := aK H
 clear H
 go_enter Tryz.func9, Tryz.ntmps9
 go_upto_region 3 with (first | ((with_reducible refine gate_callee (f := 25) rfl ?_); refine goesL_ (some 12) rfl rfl Tryz.func25 (by kernel_rfl) rfl #[.slice A0 l0.length c0] rfl tA ?_; (with_reducible refine (spec_leBinds.calls k _ _ l0 t101 t104 t107 _ ?side1 ?side2 A3.out).mono ?_); (case side1 => exact sC HR0.out); (case side2 => exact HC0.out); rintro e w6 ⟨v102, v105, rfl, ho0, ho1, hb⟩; refine ⟨_, rfl, ?_⟩; have HO103 := aK (Kd.R_lower ho0 (below_size HB.out)); have HO106 := aK (Kd.R_lower ho1 (below_size HB.out)); replace HB := qs HB hb; (try clear hb); (try clear ho0); (try clear ho1)) | ((with_reducible refine gate_dst (N := 6) rfl ?_); refine bE (N := 6) (cs := #[.slice none 0 0, .slice none 0 0]) (t := 60) ?_; intro gb108 hg w7 hbox hb; have n0_ := aK (Kd.R_below HO103.out hb); have n1_ := aK (Kd.R_below HO106.out hb); have GW108 := qw HB hg; have GE108 := qw HB hg; have BK108 := aK hbox; clear HO103; have HO103 := n0_; clear n0_; clear HO106; have HO106 := n1_; clear n1_; replace HB := qs HB hb; clear hb hbox hg; obtain ⟨Ao8, co8, eo8⟩ := Kd.R_slice HO103.out; subst eo8; obtain ⟨hcz9_0, hcz9_1, hfz9_0, hfz9_1⟩ := cA2 BK108; obtain ⟨Ao10, co10, eo10⟩ := Kd.R_slice HO106.out; subst eo10) | ((with_reducible refine gate_callee (f := 20) rfl ?_); refine goesL_ (some 17) rfl rfl Tryz.func20 (by kernel_rfl) rfl #[.string a1] rfl tA ?_; (with_reducible refine (spec_leOf.calls k a1 t109 t110 t113 _ A4.out).mono ?_); rintro e w11 ⟨v111, rfl, ho0, hb⟩; refine ⟨_, rfl, ?_⟩; have n_ := aJ (aK (Kd.R_below (rY HO103 BK108) hb)) (aJ (aK (Kd.R_elder' (rY HO106 BK108) (Kd.R_base ho0) hb)) (aJ (aK (Kd.R_lower (Kd.R_new' ho0 (Kd.R_lt (rY HO106 BK108))) (below_size (pH HB)))) (aJ (aK (blk_below (g := gb108) (o := .cells #[.slice Ao8 t101.length co8, .slice Ao10 t104.length co10] 60 (0, 0)) (bP BK108) hb)) (aK (below_step (pH HB) hb))))); clear HO103 HO106 BK108 HB; obtain ⟨HO103, HO106, HO112, BK108, HB⟩ := n_; (try clear hb); (try clear ho0)) | ((with_reducible refine gate_dst (N := 8) rfl ?_); refine bE (N := 8) (cs := #[.int .i64 0, .slice none 0 0]) (t := 55) ?_; intro gb114 hg w12 hbox hb; have n0_ := aK (Kd.R_below HO103.out hb); have n1_ := aK (Kd.R_below (Kd.R_elderB HO106.out gb114 (Nat.le_of_eq hg.symm)) hb); have n2_ := aK (Kd.R_below (Kd.R_elderB HO112.out gb114 (Nat.le_of_eq hg.symm)) hb); have GW114 := qw HB hg; have GE114 := qw HB hg; have NB108_114 := ql BK108 hg; have NB114_108 := qg BK108 hg; replace BK108 := qb BK108 hb; have BK114 := aK hbox; clear HO103; have HO103 := n0_; clear n0_; clear HO106; have HO106 := n1_; clear n1_; clear HO112; have HO112 := n2_; clear n2_; replace HB := qs HB hb; clear hb hbox hg; have hnb13 := NB114_108.out; have hnc13 := NB108_114.out; obtain ⟨hcz14_0, hcz14_1, hfz14_0, hfz14_1⟩ := cA2 BK114; obtain ⟨Ao15, co15, eo15⟩ := Kd.R_slice HO112.out; subst eo15))
 (try simp only [Act.put, List.setIfInBounds_toArray, List.set_cons_zero, List.set_cons_succ])
 go_cut [25] (fun v25 wc => ∃ (kq : Nat) (x25_4 : Bool), v25 = .bool x25_4 ∧ Aside0 (spec_ApplyType.j0 kq x25_4 t101 t104 t109 t110 = some (r1, r2)) ∧ Aside0 (kq ≤ k) ∧ Aside0 (Kd.R (Kd.int .i64) 3 wc w.heap.size (fun _ => True) (.slice Ao8 t101.length co8) t101) ∧ Aside0 (Kd.R k55 55 wc w.heap.size (fun k_ => nS k_ Ao15 t110 co15 ∧ k_ ≠ gb114) (.slice Ao10 t104.length co10) t104) ∧ Aside0 (Kd.R k55 55 wc w.heap.size (fun k_ => nS k_ Ao10 t104 co10 ∧ k_ ≠ gb114) (.slice Ao15 t110.length co15) t110) ∧ Aside0 (wc.heap[gb108]? = some (.cells #[(.slice Ao8 t101.length co8), (.slice Ao10 t104.length co10)] 60 (0, 0))) ∧ Aside0 (wc.heap[gb114]? = some (.cells #[.int .i64 t109, (.slice Ao15 t110.length co15)] 55 (0, 0))) ∧ Aside0 (Below w.heap.size w wc))
 case first =>
  have H := HC5.out
  clear HC5
  by_cases c16 : t107 = true
  ·subst c16
   rw [if_pos rfl] at H
   have H' := aK H
   clear H
   go_wp2
   go_meet
   case rel => exact ⟨_, (!t113), rS, H', ⟨by first | omega | exact Nat.le_refl _⟩, ⟨rW HO103 BK114⟩, ⟨rZ HO106⟩, ⟨rZ HO112⟩, ⟨bY BK108⟩, ⟨bP BK114⟩, ⟨pH HB⟩⟩
  ·replace c16 := Bool.eq_false_iff.mpr c16
   subst c16
   rw [if_neg (show ¬ (false = true) by decide)] at H
   have H' := aK H
   clear H
   go_wp2
   go_meet
   case rel => exact ⟨_, (true), rS, H', ⟨by first | omega | exact Nat.le_refl _⟩, ⟨rW HO103 BK114⟩, ⟨rZ HO106⟩, ⟨rZ HO112⟩, ⟨bY BK108⟩, ⟨bP BK114⟩, ⟨pH HB⟩⟩
 case rest =>
  clear HC5
  obtain ⟨kq, x25_4, rfl, HA, HJ4, HO_109000, HO_109001, HO_115001, BK108, BK114, HB⟩ := hcut
  cases kq with
  | zero => exact absurd HA.out (by simp [spec_ApplyType.j0])
  | succ kj4 =>
   have H := HA.out
   clear HA
   simp only [spec_ApplyType.j0] at H
   by_cases c17 : x25_4 = true
   ·subst c17
    rw [if_pos rfl] at H
    simp only [Option.some.injEq, Prod.mk.injEq] at H
    obtain ⟨rfl, rfl⟩ := H
    go_wp2
    go_ret2
    exact ⟨eW, pH HB⟩
   ·replace c17 := Bool.eq_false_iff.mpr c17
    subst c17
    rw [if_neg (show ¬ (false = true) by decide)] at H
    obtain ⟨⟨t115, t116⟩, A18, H⟩ := oB H
    try dsimp only at H
    obtain ⟨t119, A19, H⟩ := oB H
    try dsimp only at H
    by_cases c20 : t119 = true
    ·subst c20
     rw [if_pos rfl] at H
     obtain ⟨t120, A21, H⟩ := oB H
     try dsimp only at H
     simp only [Option.some.injEq, Prod.mk.injEq] at H
     obtain ⟨rfl, rfl⟩ := H
     have hnb22 := NB108_114.out
     have hnc22 := NB114_108.out
     obtain ⟨hcz23_0, hcz23_1, hfz23_0, hfz23_1⟩ := cA2 BK108
     obtain ⟨hcz24_0, hcz24_1, hfz24_0, hfz24_1⟩ := cA2 BK114
     go_wp2_with (first | ((with_reducible refine gate_callee (f := 26) rfl ?_); refine goesL_ (some 28) rfl rfl Tryz.func26 (by kernel_rfl) rfl #[.agg #[.slice Ao8 t101.length co8, .slice Ao10 t104.length co10], .agg #[.int .i64 t109, .slice Ao15 t110.length co15]] rfl tA ?_; (with_reducible refine (spec_leApply.calls kj4 _ _ t101 (fun k_ => (((nS k_ Ao15 t110 co15 ∧ k_ ≠ gb114) ∧ nS k_ Ao8 t101 co8) ∧ k_ ≠ gb108)) _ _ t104 t109 (fun k_ => (((nS k_ Ao10 t104 co10 ∧ k_ ≠ gb114) ∧ nS k_ Ao8 t101 co8) ∧ k_ ≠ gb108)) _ _ t110 t115 t116 _ ?side1 ?side2 ?side3 ?side4 A18.out).mono ?_); (case side1 => exact sC ((Kd.R_reads' HO_109000.out).2.2)); (case side2 => exact (Kd.R_reads' HO_109000.out).2.1); (case side3 => exact Kd.R_V (Kd.R_types (Kd.R_apart' (HO_109001.out) (Kd.R_typed HO_109000.out) (by decide)) BK108.out (by decide))); (case side4 => exact Kd.R_V (Kd.R_types (Kd.R_apart' (HO_115001.out) (Kd.R_typed HO_109000.out) (by decide)) BK108.out (by decide))); rintro e w25 ⟨v117, rfl, ho0, hb⟩; refine ⟨_, rfl, ?_⟩; have n0_ := aK (Kd.R_below HO_109000.out hb); have n1_ := aK (Kd.R_below HO_109001.out hb); have n2_ := aK (Kd.R_below HO_115001.out hb); have HO118 := aK (Kd.V_lower (Kd.V_mono (ok' := fun k_ => nS k_ Ao8 t101 co8 ∧ k_ ≠ gb108 ∧ k_ ≠ gb114) ho0 (fun k_ hk_ => ⟨Or.elim hk_ (fun hs_ => Or.elim hs_ (fun hs_ => hs_.1.2) (fun hs_ => hs_.1.2)) (fun hn_ => (Kd.fresh' (Kd.R_lt HO_109000.out) k_ hn_)), Or.elim hk_ (fun hs_ => Or.elim hs_ (fun hs_ => hs_.2) (fun hs_ => hs_.2)) (fun hn_ => (Kd.freshB BK108.out k_ hn_)), Or.elim hk_ (fun hs_ => Or.elim hs_ (fun hs_ => hs_.1.1.2) (fun hs_ => hs_.1.1.2)) (fun hn_ => (Kd.freshB BK114.out k_ hn_))⟩)) (below_size HB.out)); replace BK108 := qb BK108 hb; replace BK114 := qb BK114 hb; clear HO_109000; have HO_109000 := n0_; clear n0_; clear HO_109001; have HO_109001 := n1_; clear n1_; clear HO_115001; have HO_115001 := n2_; clear n2_; replace HB := qs HB hb; (try clear hb); (try clear ho0); obtain ⟨hcz26_0, hcz26_1, hfz26_0, hfz26_1⟩ := cA2 BK114; obtain ⟨Ao27, co27, eo27⟩ := Kd.V_slice HO118.out; subst eo27) | ((with_reducible refine gate_callee (f := 27) rfl ?_); refine goesL_ (some 30) rfl rfl Tryz.func27 (by kernel_rfl) rfl #[.agg #[.int .i64 t115, .slice Ao27 t116.length co27]] rfl tA ?_; (with_reducible refine (spec_leFine.calls kj4 t115 _ _ t116 true _ ?side1 ?side2 A19.out).mono ?_); (case side1 => refine (Kd.V_reads' (e := 55) (base := w.heap.size) (ok := fun k_ => (nS k_ Ao8 t101 co8 ∧ (k_ ≠ gb108 ∧ k_ ≠ gb114))) (n := t116.length) (c := co27) ?_).2.2; exact (vY HO118)); (case side2 => exact (Kd.V_reads' HO118.out).2.1); rintro e w28 ⟨rfl, hb⟩; refine ⟨_, rfl, ?_⟩; have n_ := aJ (aK (Kd.R_below (rY HO_109000 BK114) hb)) (aJ (aK (Kd.R_below (rX HO_109001) hb)) (aJ (aK (Kd.R_below (rX HO_115001) hb)) (aJ (aK (Kd.V_below (vY HO118) hb)) (aJ (bB BK108 hb) (aJ (aK (blk_below (g := gb114) (o := .cells #[.int .i64 t115, .slice Ao27 t116.length co27] 55 (0, 0)) (bP BK114) hb)) (aK (below_step (pH HB) hb))))))); clear HO_109000 HO_109001 HO_115001 HO118 BK108 BK114 HB; obtain ⟨HO_109000, HO_109001, HO_115001, HO118, BK108, BK114, HB⟩ := n_; (try clear hb); obtain ⟨hcz29_0, hcz29_1, hfz29_0, hfz29_1⟩ := cA2 BK114) | ((with_reducible refine gate_callee (f := 28) rfl ?_); refine goesL_ (some 33) rfl rfl Tryz.func28 (by kernel_rfl) rfl #[.agg #[.int .i64 t115, .slice Ao27 t116.length co27]] rfl tA ?_; (with_reducible refine (spec_leText.calls kj4 t115 _ _ t116 t120 _ ?side1 ?side2 A21.out).mono ?_); (case side1 => exact sC ((Kd.V_reads' HO118.out).2.2)); (case side2 => exact (Kd.V_reads' HO118.out).2.1); rintro e w30 ⟨rfl, hb⟩; refine ⟨_, rfl, ?_⟩; have n0_ := aK (Kd.R_below HO_109000.out hb); have n1_ := aK (Kd.R_below HO_109001.out hb); have n2_ := aK (Kd.R_below HO_115001.out hb); replace BK108 := qb BK108 hb; replace BK114 := qb BK114 hb; clear HO_109000; have HO_109000 := n0_; clear n0_; clear HO_109001; have HO_109001 := n1_; clear n1_; clear HO_115001; have HO_115001 := n2_; clear n2_; replace HO118 := vB HO118 hb; replace HB := qs HB hb; (try clear hb)))
     go_ret2
     exact ⟨eW, pH HB⟩
    ·replace c20 := Bool.eq_false_iff.mpr c20
     subst c20
     rw [if_neg (show ¬ (false = true) by decide)] at H
     simp only [Option.some.injEq, Prod.mk.injEq] at H
     obtain ⟨rfl, rfl⟩ := H
     have hnb31 := NB108_114.out
     have hnc31 := NB114_108.out
     obtain ⟨hcz32_0, hcz32_1, hfz32_0, hfz32_1⟩ := cA2 BK108
     obtain ⟨hcz33_0, hcz33_1, hfz33_0, hfz33_1⟩ := cA2 BK114
     go_wp2_with (first | ((with_reducible refine gate_callee (f := 26) rfl ?_); refine goesL_ (some 28) rfl rfl Tryz.func26 (by kernel_rfl) rfl #[.agg #[.slice Ao8 t101.length co8, .slice Ao10 t104.length co10], .agg #[.int .i64 t109, .slice Ao15 t110.length co15]] rfl tA ?_; (with_reducible refine (spec_leApply.calls kj4 _ _ t101 (fun k_ => (((nS k_ Ao15 t110 co15 ∧ k_ ≠ gb114) ∧ nS k_ Ao8 t101 co8) ∧ k_ ≠ gb108)) _ _ t104 t109 (fun k_ => (((nS k_ Ao10 t104 co10 ∧ k_ ≠ gb114) ∧ nS k_ Ao8 t101 co8) ∧ k_ ≠ gb108)) _ _ t110 t115 t116 _ ?side1 ?side2 ?side3 ?side4 A18.out).mono ?_); (case side1 => exact sC ((Kd.R_reads' HO_109000.out).2.2)); (case side2 => exact (Kd.R_reads' HO_109000.out).2.1); (case side3 => exact Kd.R_V (Kd.R_types (Kd.R_apart' (HO_109001.out) (Kd.R_typed HO_109000.out) (by decide)) BK108.out (by decide))); (case side4 => exact Kd.R_V (Kd.R_types (Kd.R_apart' (HO_115001.out) (Kd.R_typed HO_109000.out) (by decide)) BK108.out (by decide))); rintro e w34 ⟨v117, rfl, ho0, hb⟩; refine ⟨_, rfl, ?_⟩; have HO118 := aK (Kd.V_lower (Kd.V_mono (ok' := fun k_ => nS k_ Ao8 t101 co8 ∧ k_ ≠ gb108 ∧ k_ ≠ gb114) ho0 (fun k_ hk_ => ⟨Or.elim hk_ (fun hs_ => Or.elim hs_ (fun hs_ => hs_.1.2) (fun hs_ => hs_.1.2)) (fun hn_ => (Kd.fresh' (Kd.R_lt HO_109000.out) k_ hn_)), Or.elim hk_ (fun hs_ => Or.elim hs_ (fun hs_ => hs_.2) (fun hs_ => hs_.2)) (fun hn_ => (Kd.freshB BK108.out k_ hn_)), Or.elim hk_ (fun hs_ => Or.elim hs_ (fun hs_ => hs_.1.1.2) (fun hs_ => hs_.1.1.2)) (fun hn_ => (Kd.freshB BK114.out k_ hn_))⟩)) (below_size HB.out)); replace BK108 := qb BK108 hb; replace BK114 := qb BK114 hb; replace HO_109000 := rB HO_109000 hb; replace HO_109001 := rB HO_109001 hb; replace HO_115001 := rB HO_115001 hb; replace HB := qs HB hb; (try clear hb); (try clear ho0); obtain ⟨hcz35_0, hcz35_1, hfz35_0, hfz35_1⟩ := cA2 BK114; obtain ⟨Ao36, co36, eo36⟩ := Kd.V_slice HO118.out; subst eo36) | ((with_reducible refine gate_callee (f := 27) rfl ?_); refine goesL_ (some 30) rfl rfl Tryz.func27 (by kernel_rfl) rfl #[.agg #[.int .i64 t115, .slice Ao36 t116.length co36]] rfl tA ?_; (with_reducible refine (spec_leFine.calls kj4 t115 _ _ t116 false _ ?side1 ?side2 A19.out).mono ?_); (case side1 => refine (Kd.V_reads' (e := 55) (base := w.heap.size) (ok := fun k_ => (nS k_ Ao8 t101 co8 ∧ (k_ ≠ gb108 ∧ k_ ≠ gb114))) (n := t116.length) (c := co36) ?_).2.2; exact (vY HO118)); (case side2 => exact (Kd.V_reads' HO118.out).2.1); rintro e w37 ⟨rfl, hb⟩; refine ⟨_, rfl, ?_⟩; have n_ := aJ (aK (Kd.R_below (rY HO_109000 BK114) hb)) (aJ (aK (Kd.R_below (rX HO_109001) hb)) (aJ (aK (Kd.R_below (rX HO_115001) hb)) (aJ (aK (Kd.V_below (vY HO118) hb)) (aJ (bB BK108 hb) (aJ (aK (blk_below (g := gb114) (o := .cells #[.int .i64 t115, .slice Ao36 t116.length co36] 55 (0, 0)) (bP BK114) hb)) (aK (below_step (pH HB) hb))))))); clear HO_109000 HO_109001 HO_115001 HO118 BK108 BK114 HB; obtain ⟨HO_109000, HO_109001, HO_115001, HO118, BK108, BK114, HB⟩ := n_; (try clear hb)))
     go_ret2
     exact ⟨eW, pH HB⟩

end Go.Proofs.YteffjlhljeodpaaGreatDoor.G

namespace Go.Proofs.YteffjlhljeodpaaGreatDoor.G
open Go.RowKit Go.Proofs.YteffjlhljeodpaaGreatDoorW.PrintWords Go.Proofs.YteffjlhljeodpaaGreatDoorW.PrintLast Go.Proofs.YteffjlhljeodpaaGreatDoorW.PrintMore Go.Proofs.YteffjlhljeodpaaGreatDoor.Short
set_option linter.unusedVariables false
set_option linter.unusedSimpArgs false

def spec_DrawUnifyTypes.f (k : Nat) (l0 : List Int) : Option (ByteArray × ByteArray) := (spec_l1Cur_typeText.f k l0 0 0).bind fun a => (spec_l1Cur_binds.f k l0 a.2.1 a.2.2).bind fun b => (spec_ApplyType.f k b.1 a.1).bind fun t => if t.2 = true then (spec_l1Cur_one.f l0 b.2.1 b.2.2 2).bind fun c => if c.1 = true then some (a.1, t.1) else (spec_l1Cur_typeText.f k l0 c.2.1 c.2.2).bind fun d => some (a.1, d.1) else (spec_l1Cur_typeText.f k l0 b.2.1 b.2.2).bind fun d => some (a.1, d.1)
set_option maxHeartbeats 4000000 in
set_option maxRecDepth 100000 in
theorem spec_DrawUnifyTypes.calls (k : Nat) (A0 : Option Addr) (c0 : Nat) (l0 : List Int) (r1 : ByteArray) (r2 : ByteArray) (w : World) (hr0 : Kd.C (Kd.int .u8) w A0 l0.length l0) (hc0 : l0.length ≤ c0) (h : spec_DrawUnifyTypes.f k l0 = some (r1, r2)) :
    Calls Tryz.prog 4 #[.slice A0 l0.length c0] w fun e w' => e = .returned (.tuple #[.string r1, .string r2]) ∧ Below w.heap.size w w' := by
  obtain ⟨⟨a, t1, t2⟩, h1, h⟩ := Option.bind_eq_some_iff.mp h
  obtain ⟨⟨b, t3, t4⟩, h2, h⟩ := Option.bind_eq_some_iff.mp h
  obtain ⟨⟨x, ok⟩, h3, h⟩ := Option.bind_eq_some_iff.mp h
  have HR0 := aM hr0
  have HB := aM (Below.refl w.heap.size w)
  have H1 := aM h1
  have H2 := aM h2
  have H3 := aM h3
  clear hr0 h1 h2 h3
  cases ok with
  | false =>
    obtain ⟨⟨d, t7, t8⟩, h5, h⟩ := Option.bind_eq_some_iff.mp ((if_neg (by simp)).symm.trans h)
    simp only [Option.some.injEq, Prod.mk.injEq] at h
    obtain ⟨rfl, rfl⟩ := h
    have H5 := aM h5
    clear h5
    go_enter Tryz.func4, Tryz.ntmps4
    go_wp2_with (first
      | (go_at_call 11; refine (spec_l1Cur_typeText.calls k _ l0 0 0 a t1 t2 w _ (IsS40.new w w A0 c0 l0 0 0 HB.out HR0.out) (below_alloc HB.out _) H1.out).mono ?_; rintro e w6 ⟨rfl, hi, hb, hk⟩; have HI := aM hi; have HB2 := aM hb; clear HB hi hb hk)
      | (go_at_call 12; refine (spec_l1Cur_binds.calls k _ l0 t1 t2 b t3 t4 w _ HI.out HB2.out H2.out).mono ?_; rintro e w7 ⟨v0, rfl, hR, hi, hb, hk⟩; have HO := aM hR; have HI3 := aM hi; have HB3 := aM hb; clear HI HB2 hi hb hk hR; obtain ⟨Ao, co, eo⟩ := Kd.R_slice HO.out; subst eo)
      | (go_at_call 9; (with_reducible refine (spec_ApplyType.calls k Ao co b a x false _ ?s1 ?s2 H3.out).mono ?_); (case s1 => exact (Kd.R_reads' HO.out).2.2); (case s2 => exact (Kd.R_reads' HO.out).2.1); rintro _ w8 ⟨rfl, hb⟩; have HI4 := aM (HI3.out.below hb); have HB4 := aM (below_step HB3.out hb); clear HI3 HB3 HO hb)
      | (go_at_call 11; refine (spec_l1Cur_typeText.calls k _ l0 t3 t4 d t7 t8 w _ HI4.out HB4.out H5.out).mono ?_; rintro e w9 ⟨rfl, hi, hb, hk⟩; have HB5 := aM hb; clear hi hb hk))
    go_ret2
    exact ⟨rfl, HB5.out⟩
  | true =>
    obtain ⟨⟨c, t5, t6⟩, h4, h⟩ := Option.bind_eq_some_iff.mp ((if_pos rfl).symm.trans h)
    have H4 := aM h4
    clear h4
    cases c with
    | true =>
      have h' := (if_pos rfl).symm.trans h
      simp only [Option.some.injEq, Prod.mk.injEq] at h'
      obtain ⟨rfl, rfl⟩ := h'
      clear h
      go_enter Tryz.func4, Tryz.ntmps4
      go_wp2_with (first
        | (go_at_call 11; refine (spec_l1Cur_typeText.calls k _ l0 0 0 a t1 t2 w _ (IsS40.new w w A0 c0 l0 0 0 HB.out HR0.out) (below_alloc HB.out _) H1.out).mono ?_; rintro e w6 ⟨rfl, hi, hb, hk⟩; have HI := aM hi; have HB2 := aM hb; clear HB hi hb hk)
        | (go_at_call 12; refine (spec_l1Cur_binds.calls k _ l0 t1 t2 b t3 t4 w _ HI.out HB2.out H2.out).mono ?_; rintro e w7 ⟨v0, rfl, hR, hi, hb, hk⟩; have HO := aM hR; have HI3 := aM hi; have HB3 := aM hb; clear HI HB2 hi hb hk hR; obtain ⟨Ao, co, eo⟩ := Kd.R_slice HO.out; subst eo)
        | (go_at_call 9; (with_reducible refine (spec_ApplyType.calls k Ao co b a x true _ ?s1 ?s2 H3.out).mono ?_); (case s1 => exact (Kd.R_reads' HO.out).2.2); (case s2 => exact (Kd.R_reads' HO.out).2.1); rintro _ w8 ⟨rfl, hb⟩; have HI4 := aM (HI3.out.below hb); have HB4 := aM (below_step HB3.out hb); clear HI3 HB3 HO hb)
        | (go_at_call 13; refine (spec_l1Cur_one.calls _ l0 t3 t4 2 true t5 t6 w _ HI4.out HB4.out H4.out).mono ?_; rintro e w9 ⟨rfl, hi, hb, hk⟩; have HB5 := aM hb; clear hi hb hk))
      go_ret2
      exact ⟨rfl, HB5.out⟩
    | false =>
      obtain ⟨⟨d, t7, t8⟩, h5, h⟩ := Option.bind_eq_some_iff.mp ((if_neg (by simp)).symm.trans h)
      simp only [Option.some.injEq, Prod.mk.injEq] at h
      obtain ⟨rfl, rfl⟩ := h
      have H5 := aM h5
      clear h5
      go_enter Tryz.func4, Tryz.ntmps4
      go_wp2_with (first
        | (go_at_call 11; refine (spec_l1Cur_typeText.calls k _ l0 0 0 a t1 t2 w _ (IsS40.new w w A0 c0 l0 0 0 HB.out HR0.out) (below_alloc HB.out _) H1.out).mono ?_; rintro e w6 ⟨rfl, hi, hb, hk⟩; have HI := aM hi; have HB2 := aM hb; clear HB hi hb hk)
        | (go_at_call 12; refine (spec_l1Cur_binds.calls k _ l0 t1 t2 b t3 t4 w _ HI.out HB2.out H2.out).mono ?_; rintro e w7 ⟨v0, rfl, hR, hi, hb, hk⟩; have HO := aM hR; have HI3 := aM hi; have HB3 := aM hb; clear HI HB2 hi hb hk hR; obtain ⟨Ao, co, eo⟩ := Kd.R_slice HO.out; subst eo)
        | (go_at_call 9; (with_reducible refine (spec_ApplyType.calls k Ao co b a x true _ ?s1 ?s2 H3.out).mono ?_); (case s1 => exact (Kd.R_reads' HO.out).2.2); (case s2 => exact (Kd.R_reads' HO.out).2.1); rintro _ w8 ⟨rfl, hb⟩; have HI4 := aM (HI3.out.below hb); have HB4 := aM (below_step HB3.out hb); clear HI3 HB3 HO hb)
        | (go_at_call 13; refine (spec_l1Cur_one.calls _ l0 t3 t4 2 false t5 t6 w _ HI4.out HB4.out H4.out).mono ?_; rintro e w9 ⟨rfl, hi, hb, hk⟩; have HI5 := aM hi; have HB5 := aM hb; clear HI4 HB4 hi hb hk)
        | (go_at_call 11; refine (spec_l1Cur_typeText.calls k _ l0 t5 t6 d t7 t8 w _ HI5.out HB5.out H5.out).mono ?_; rintro e wa ⟨rfl, hi, hb, hk⟩; have HB6 := aM hb; clear hi hb hk))
      go_ret2
      exact ⟨rfl, HB6.out⟩
end Go.Proofs.YteffjlhljeodpaaGreatDoor.G

namespace Go.Proofs
open Go.Shelf Go.RowKit Go.Lib Go.Sort
def Tryz.sortB_ren : Go.Shelf.Ren := ⟨fun | 6 => 17 | 15 => 41 | 14 => 40 | 28 => 72 | 29 => 73 | 20 => 64 | 21 => 65 | 22 => 66 | 23 => 67 | 24 => 68 | 25 => 69 | 26 => 70 | 27 => 71 | 46 => 80 | 47 => 81 | 48 => 82 | 49 => 83 | 50 => 84 | 57 => 95 | n => n, fun | 22 => 25 | 24 => 29 | 25 => 52 | 3 => 3 | 39 => 90 | 0 => 0 | 53 => 121 | 55 => 38 | 4 => 4 | 46 => 114 | 45 => 113 | 50 => 118 | 5 => 5 | 9 => 9 | 66 => 127 | 70 => 131 | 76 => 144 | 77 => 99 | n => n, fun | n => n⟩
theorem Tryz.sortB : Go.Proofs.SlLaysF0.n6 Tryz.prog Tryz.sortB_ren := {
 mixed := by kernel_rfl
 f6 := ⟨Tryz.f17.name, by decide, Tryz.func17.trans (congrArg some (by kernel_rfl))⟩
 f14 := ⟨Tryz.f40.name, by decide, Tryz.func40.trans (congrArg some (by kernel_rfl))⟩
 f15 := Tryz.func41.trans (congrArg some (by kernel_rfl))
 f20 := ⟨Tryz.f64.name, by decide, Tryz.func64.trans (congrArg some (by kernel_rfl))⟩
 f21 := ⟨Tryz.f65.name, by decide, Tryz.func65.trans (congrArg some (by kernel_rfl))⟩
 f22 := ⟨Tryz.f66.name, by decide, Tryz.func66.trans (congrArg some (by kernel_rfl))⟩
 f23 := ⟨Tryz.f67.name, by decide, Tryz.func67.trans (congrArg some (by kernel_rfl))⟩
 f24 := ⟨Tryz.f68.name, by decide, Tryz.func68.trans (congrArg some (by kernel_rfl))⟩
 f25 := ⟨Tryz.f69.name, by decide, Tryz.func69.trans (congrArg some (by kernel_rfl))⟩
 f26 := ⟨Tryz.f70.name, by decide, Tryz.func70.trans (congrArg some (by kernel_rfl))⟩
 f27 := ⟨Tryz.f71.name, by decide, Tryz.func71.trans (congrArg some (by kernel_rfl))⟩
 f28 := Tryz.func72.trans (congrArg some (by kernel_rfl))
 f29 := Tryz.func73.trans (congrArg some (by kernel_rfl))
 f46 := ⟨Tryz.f80.name, by decide, Tryz.func80.trans (congrArg some (by kernel_rfl))⟩
 f47 := Tryz.func81.trans (congrArg some (by kernel_rfl))
 f48 := Tryz.func82.trans (congrArg some (by kernel_rfl))
 f49 := ⟨Tryz.f83.name, by decide, Tryz.func83.trans (congrArg some (by kernel_rfl))⟩
 f50 := ⟨Tryz.f84.name, by decide, Tryz.func84.trans (congrArg some (by kernel_rfl))⟩
 f57 := ⟨Tryz.f95.name, by decide, Tryz.func95.trans (congrArg some (by kernel_rfl))⟩
 t0 := Tryz.underlying0
 a0 := Tryz.isAgg0
 z0 := Tryz.sizeOf0
 v0 := Tryz.zeroValue0
 t3 := Tryz.underlying3
 a3 := Tryz.isAgg3
 z3 := Tryz.sizeOf3
 v3 := Tryz.zeroValue3
 t4 := Tryz.underlying4
 a4 := Tryz.isAgg4
 z4 := Tryz.sizeOf4
 v4 := Tryz.zeroValue4
 t5 := Tryz.underlying5
 a5 := Tryz.isAgg5
 z5 := Tryz.sizeOf5
 v5 := Tryz.zeroValue5
 t9 := Tryz.underlying9
 a9 := Tryz.isAgg9
 z9 := Tryz.sizeOf9
 v9 := Tryz.zeroValue9
 t22 := Tryz.underlying25
 a22 := Tryz.isAgg25
 z22 := Tryz.sizeOf25
 v22 := Tryz.zeroValue25
 t25 := Tryz.underlying52
 a25 := Tryz.isAgg52
 z25 := Tryz.sizeOf52
 v25 := Tryz.zeroValue52
 t39 := Tryz.underlying90
 a39 := Tryz.isAgg90
 z39 := Tryz.sizeOf90
 v39 := Tryz.zeroValue90
 t45 := Tryz.underlying113
 a45 := Tryz.isAgg113
 z45 := Tryz.sizeOf113
 v45 := Tryz.zeroValue113
 t46 := Tryz.underlying114
 a46 := Tryz.isAgg114
 z46 := Tryz.sizeOf114
 v46 := Tryz.zeroValue114
 t50 := Tryz.underlying118
 a50 := Tryz.isAgg118
 z50 := Tryz.sizeOf118
 v50 := Tryz.zeroValue118
 t53 := Tryz.underlying121
 a53 := Tryz.isAgg121
 z53 := Tryz.sizeOf121
 v53 := Tryz.zeroValue121
 t55 := Tryz.underlying38
 a55 := Tryz.isAgg38
 z55 := Tryz.sizeOf38
 v55 := Tryz.zeroValue38
 t66 := Tryz.underlying127
 a66 := Tryz.isAgg127
 z66 := Tryz.sizeOf127
 v66 := Tryz.zeroValue127
 t70 := Tryz.underlying131
 a70 := Tryz.isAgg131
 z70 := Tryz.sizeOf131
 v70 := Tryz.zeroValue131
 t76 := Tryz.underlying144
 a76 := Tryz.isAgg144
 z76 := Tryz.sizeOf144
 v76 := Tryz.zeroValue144
 t77 := Tryz.underlying99
 a77 := Tryz.isAgg99
 z77 := Tryz.sizeOf99
 v77 := Tryz.zeroValue99 }
def Tryz.cmpInt_ren : Go.Shelf.Ren := ⟨fun | 5 => 19 | 7 => 42 | n => n, fun | 22 => 3 | 3 => 3 | 4 => 4 | n => n, fun | n => n⟩
theorem Tryz.cmpInt : Go.Proofs.SlLaysC2.n5 Tryz.prog Tryz.cmpInt_ren := {
 mixed := by kernel_rfl
 f5 := ⟨Tryz.f19.name, by decide, Tryz.func19.trans (congrArg some (by kernel_rfl))⟩
 f7 := ⟨Tryz.f42.name, by decide, Tryz.func42.trans (congrArg some (by kernel_rfl))⟩
 t3 := Tryz.underlying3
 a3 := Tryz.isAgg3
 z3 := Tryz.sizeOf3
 v3 := Tryz.zeroValue3
 t4 := Tryz.underlying4
 a4 := Tryz.isAgg4
 z4 := Tryz.sizeOf4
 v4 := Tryz.zeroValue4
 t22 := Tryz.underlying3
 a22 := Tryz.isAgg3
 z22 := Tryz.sizeOf3
 v22 := Tryz.zeroValue3 }
end Go.Proofs
namespace Go.Proofs.YteffjlhljeodpaaGreatDoor.G
open Go.Shelf Go.RowKit Go.Lib Go.Sort
set_option linter.unusedVariables false

instance : Inhabited S29 := ⟨z29⟩
def encB (x : S29) : List Value := [.int .i64 x.f0, .string x.f1]
def cmpB (x y : S29) : Int := Lib.compareInt x.f0 y.f0
set_option maxHeartbeats 1000000 in
theorem closure18 (x y : S29) (W : World) : Calls Tryz.prog 18 #[.agg #[.int .i64 x.f0, .string x.f1], .agg #[.int .i64 y.f0, .string y.f1]] W fun e w' => e = .returned (.int .i64 (cmpB x y)) ∧ ∃ q os', w' = grow (W.drewN q) os' := by
  have hcon := fun W' => AnyG.cmp_Compare_int Tryz.cmpInt x.f0 y.f0 W'
  change ∀ W', Calls Tryz.prog 19 _ _ _ at hcon
  unfold cmpB
  generalize Lib.compareInt x.f0 y.f0 = r at hcon ⊢
  go_enter Tryz.func18, Tryz.ntmps18
  go_wp2_with (go_at_call 19; refine (hcon _).mono ?_; rintro e w' ⟨rfl, rfl⟩)
  go_ret
  exact ⟨rfl, 0, _, by rw [alloc_eq_grow, alloc_eq_grow, grow_grow]; rfl⟩
theorem cmpLays18 (blk off size : Nat) (w : World) : CmpLays Tryz.prog 18 #[] encB 2 cmpB blk off size w := fun _ _ _ _ x y => closure18 x y _
theorem ltB (x y : S29) : ltOf cmpB x y = decide (x.f0 < y.f0) := by
  unfold ltOf cmpB Lib.compareInt
  by_cases h1 : x.f0 < y.f0
  · simp [h1]
  · by_cases h2 : y.f0 < x.f0 <;> simp [h1, h2]
theorem swoB : SWO (ltOf cmpB) where
  irrefl x := by rw [ltB]; simp
  trans x y z h1 h2 := by rw [ltB] at *; simp at *; omega
  ntrans x y z h1 h2 := by rw [ltB] at *; simp at *; omega
theorem sortB (blk off cap : Nat) (d : Array S29) (w : World) (hH : HoldsK encB 2 w blk off d) (hblk : blk < w.heap.size) (hsz : d.size < 4611686018427387904) :
    Calls Tryz.prog 17 #[.slice (some ⟨blk, off, none⟩) d.size cap, .func (.func 18) #[] #[]] w fun e w' => e = .returned (.tuple #[]) ∧ ∃ d' n os, PermIn 0 d.size d d' ∧ SortedIn (ltOf cmpB) 0 d.size d' ∧ w' = sortWorldK encB 2 w blk off n d' os := by
  have eg : ∀ args w, (callFunc 18 args).run Tryz.prog w = .ok (.enter 18 args) w := enters_of Tryz.func18 (by kernel_rfl) rfl
  exact AnyQ.slices_SortFunc Tryz.sortB 2 Tryz.isAgg29 Tryz.sizeOf29 encB (fun _ => rfl) (fun x v hv => by simp [encB] at hv; rcases hv with rfl | rfl <;> rfl) cmpB swoB 18 #[] blk off cap d w eg (cmpLays18 blk off d.size w) hH hblk hsz
end Go.Proofs.YteffjlhljeodpaaGreatDoor.G

namespace Go.Proofs.YteffjlhljeodpaaGreatDoor.Uni
open Go.RowKit Go.Proofs.YteffjlhljeodpaaGreatDoor.G Go.Proofs.YteffjlhljeodpaaGreatDoorW.PrintWords
set_option linter.unusedVariables false

abbrev Lk := List (Int × Ty)
def bnd : Lk → Int → Option Ty
  | [], _ => none
  | (v, t) :: L, n => if v = n then some t else bnd L n
def one (n : Int) (y : Ty) : Int → Option Ty := updM (fun _ => none) n y
def sub (n : Int) (y : Ty) (t : Ty) : Ty := t.apply (one n y)
def subL (n : Int) (y : Ty) (L : Lk) : Lk := L.map fun p => (p.1, sub n y p.2)
def putL (n : Int) (y : Ty) : Lk → Lk
  | [] => [(n, y)]
  | (v, t) :: L => if n < v then (n, y) :: (v, sub n y t) :: subL n y L else (v, sub n y t) :: putL n y L
def occ (x y : Ty) : Bool := match x with
  | .v n => decide (n ∈ y.vars)
  | .a _ _ => true
def swp (x y : Ty) : Ty × Ty := if occ x y = true then (if occ y x = true then (x, y) else (y, x)) else (x, y)
inductive Turn where
  | fail
  | skip
  | bind (n : Int) (y : Ty)
  | split (l l' r r' : Ty)
def turn2 (x y : Ty) : Turn := if x.same y = true then .skip else match x, y with
  | .v n, y => if n ∈ y.vars then .fail else .bind n y
  | .a l r, .a l' r' => .split l l' r r'
  | .a _ _, .v _ => .fail
def turn (x y : Ty) : Turn := if x.good = true then (if y.good = true then turn2 (swp x y).1 (swp x y).2 else .fail) else .fail
def keeps (n : Int) (y : Ty) (L : Lk) : Prop := ∀ k t, bnd L k = some t → (sub n y t).good = true
def Fit (a b : Ty) (q : List (Ty × Ty)) (L : Lk) : Prop :=
  q.length ≤ 1000000 ∧ L.length ≤ 1000000 ∧ (a.ok ∧ (a.apply (bnd L)).nodes ≤ 1099511627776) ∧ (b.ok ∧ (b.apply (bnd L)).nodes ≤ 1099511627776) ∧ (∀ k t, bnd L k = some t → t.ok ∧ t.nodes ≤ 200) ∧ ∀ k t, bnd L k = some t → i64ok k
open Classical in
noncomputable def uni : Nat → List (Ty × Ty) → Lk → Option (Option Lk)
  | 0, _, _ => none
  | _ + 1, [], L => some (some L)
  | k + 1, (a, b) :: q, L => if Fit a b q L then (match turn (a.apply (bnd L)) (b.apply (bnd L)) with
    | .fail => some none
    | .skip => uni k q L
    | .bind n y => if bnd L n = none then (if keeps n y L then uni k q (putL n y L) else some none) else none
    | .split l l' r r' => uni k ((l, l') :: (r, r') :: q) L) else none
theorem uni_nil {k : Nat} {L : Lk} : uni (k + 1) [] L = some (some L) := by unfold uni; rfl
theorem uni_fit {k : Nat} {a b : Ty} {q : List (Ty × Ty)} {L : Lk} {r : Option Lk} (h : uni (k + 1) ((a, b) :: q) L = some r) : Fit a b q L := by
  unfold uni at h
  by_cases c : Fit a b q L
  · exact c
  · rw [if_neg c] at h; cases h
theorem uni_fail {k : Nat} {a b : Ty} {q : List (Ty × Ty)} {L : Lk} (hf : Fit a b q L) (ht : turn (a.apply (bnd L)) (b.apply (bnd L)) = .fail) : uni (k + 1) ((a, b) :: q) L = some none := by
  unfold uni; rw [if_pos hf, ht]
theorem uni_skip {k : Nat} {a b : Ty} {q : List (Ty × Ty)} {L : Lk} (hf : Fit a b q L) (ht : turn (a.apply (bnd L)) (b.apply (bnd L)) = .skip) : uni (k + 1) ((a, b) :: q) L = uni k q L := by
  rw [uni, if_pos hf, ht]
theorem uni_split {k : Nat} {a b l l' r r' : Ty} {q : List (Ty × Ty)} {L : Lk} (hf : Fit a b q L) (ht : turn (a.apply (bnd L)) (b.apply (bnd L)) = .split l l' r r') : uni (k + 1) ((a, b) :: q) L = uni k ((l, l') :: (r, r') :: q) L := by
  rw [uni, if_pos hf, ht]
open Classical in
theorem uni_bind {k : Nat} {a b y : Ty} {n : Int} {q : List (Ty × Ty)} {L : Lk} (hf : Fit a b q L) (ht : turn (a.apply (bnd L)) (b.apply (bnd L)) = .bind n y) (hn : bnd L n = none) (hk : keeps n y L) : uni (k + 1) ((a, b) :: q) L = uni k q (putL n y L) := by
  rw [uni, if_pos hf, ht]
  show (if bnd L n = none then _ else _) = _
  rw [if_pos hn, if_pos hk]
open Classical in
theorem uni_loses {k : Nat} {a b y : Ty} {n : Int} {q : List (Ty × Ty)} {L : Lk} (hf : Fit a b q L) (ht : turn (a.apply (bnd L)) (b.apply (bnd L)) = .bind n y) (hn : bnd L n = none) (hk : ¬ keeps n y L) : uni (k + 1) ((a, b) :: q) L = some none := by
  rw [uni, if_pos hf, ht]
  show (if bnd L n = none then _ else _) = _
  rw [if_pos hn, if_neg hk]
open Classical in
theorem uni_new {k : Nat} {a b y : Ty} {n : Int} {q : List (Ty × Ty)} {L : Lk} {r : Option Lk} (h : uni (k + 1) ((a, b) :: q) L = some r) (ht : turn (a.apply (bnd L)) (b.apply (bnd L)) = .bind n y) : bnd L n = none := by
  have hf := uni_fit h
  rw [uni, if_pos hf, ht] at h
  by_cases c : bnd L n = none
  · exact c
  · have h' : (if bnd L n = none then (if keeps n y L then uni k q (putL n y L) else some none) else none) = some r := h
    rw [if_neg c] at h'; cases h'

theorem occ_v (n : Int) (y : Ty) : occ (.v n) y = decide (n ∈ y.vars) := rfl
theorem occ_a (l r y : Ty) : occ (.a l r) y = true := rfl
theorem swp_out {n : Int} {y : Ty} (h : n ∉ y.vars) : swp (.v n) y = (.v n, y) := by unfold swp; rw [occ_v, decide_eq_false h]; rfl
theorem swp_in {n : Int} {y : Ty} (h : n ∈ y.vars) : swp (.v n) y = (.v n, y) := by
  unfold swp
  rw [occ_v, decide_eq_true h, if_pos rfl, if_pos]
  cases y with
  | a l r => rfl
  | v m =>
    rw [occ_v]
    have : n = m := by simpa [Ty.vars] using h
    subst this
    exact decide_eq_true (by simp [Ty.vars])
theorem swp_arr_in {m : Int} {l r : Ty} (h : m ∈ (Ty.a l r).vars) : swp (.a l r) (.v m) = (.a l r, .v m) := by unfold swp; rw [occ_a, if_pos rfl, occ_v, decide_eq_true h, if_pos rfl]
theorem swp_arr_out {m : Int} {l r : Ty} (h : m ∉ (Ty.a l r).vars) : swp (.a l r) (.v m) = (.v m, .a l r) := by unfold swp; rw [occ_a, if_pos rfl, occ_v, decide_eq_false h]; rfl
theorem swp_arr (l r l' r' : Ty) : swp (.a l r) (.a l' r') = (.a l r, .a l' r') := rfl

theorem swp_cases (x y : Ty) : swp x y = (x, y) ∨ swp x y = (y, x) := by
  unfold swp
  split
  · split
    · exact .inl rfl
    · exact .inr rfl
  · exact .inl rfl
theorem good_v {n : Int} (h : (Ty.v n).good = true) : 0 ≤ n ∧ n ≤ 999 := by
  have h' : ((decide (((Ty.v n).meas 200).1 ≤ 200) && decide (((Ty.v n).meas 200).2 ≤ 60)) && !([n].any noVar)) = true := h
  simp only [Bool.and_eq_true, List.any_cons, List.any_nil, Bool.or_false, Bool.not_eq_true'] at h'
  have := h'.2
  unfold noVar at this
  simp only [Bool.or_eq_false_iff, decide_eq_false_iff_not] at this
  omega
theorem turn2_same {x y : Ty} (h : x.same y = true) : turn2 x y = .skip := by unfold turn2; rw [if_pos h]
theorem turn2_in {n : Int} {y : Ty} (h : (Ty.v n).same y = false) (m : n ∈ y.vars) : turn2 (.v n) y = .fail := by
  unfold turn2; rw [if_neg (by rw [h]; simp)]
  show (if n ∈ y.vars then Turn.fail else _) = _
  rw [if_pos m]
theorem turn2_bind {n : Int} {y : Ty} (h : (Ty.v n).same y = false) (m : n ∉ y.vars) : turn2 (.v n) y = .bind n y := by
  unfold turn2; rw [if_neg (by rw [h]; simp)]
  show (if n ∈ y.vars then Turn.fail else _) = _
  rw [if_neg m]
theorem turn2_arr {l r : Ty} {m : Int} (h : (Ty.a l r).same (.v m) = false) : turn2 (.a l r) (.v m) = .fail := by unfold turn2; rw [if_neg (by rw [h]; simp)]
theorem turn2_split {l r l' r' : Ty} (h : (Ty.a l r).same (.a l' r') = false) : turn2 (.a l r) (.a l' r') = .split l l' r r' := by unfold turn2; rw [if_neg (by rw [h]; simp)]

theorem bnd_sub (n : Int) (y : Ty) (m : Int) : ∀ L : Lk, bnd (subL n y L) m = (bnd L m).map (sub n y)
  | [] => rfl
  | (u, s) :: L => by
    show (if u = m then some (sub n y s) else bnd (subL n y L) m) = (if u = m then some s else bnd L m).map (sub n y)
    by_cases e : u = m
    · rw [if_pos e, if_pos e]; rfl
    · rw [if_neg e, if_neg e, bnd_sub n y m L]
theorem bnd_put (n : Int) (y : Ty) (m : Int) : ∀ L : Lk, bnd L n = none → bnd (putL n y L) m = if m = n then some y else (bnd L m).map (sub n y)
  | [], h => by
    show (if n = m then some y else none) = _
    by_cases e : n = m
    · rw [if_pos e, if_pos e.symm]
    · rw [if_neg e, if_neg (Ne.symm e)]; rfl
  | (v, t) :: L, h => by
    have hv : v ≠ n := fun e => by
      have h' : (if v = n then some t else bnd L n) = none := h
      rw [if_pos e] at h'; cases h'
    have hL : bnd L n = none := by
      have h' : (if v = n then some t else bnd L n) = none := h
      rwa [if_neg hv] at h'
    have e0 : (bnd ((v, t) :: L) m).map (sub n y) = if v = m then some (sub n y t) else (bnd L m).map (sub n y) := by
      show (if v = m then some t else bnd L m).map (sub n y) = _
      by_cases e : v = m
      · rw [if_pos e, if_pos e]; rfl
      · rw [if_neg e, if_neg e]
    rw [e0]
    unfold putL
    by_cases c : n < v
    · rw [if_pos c]
      show (if n = m then some y else if v = m then some (sub n y t) else bnd (subL n y L) m) = _
      rw [bnd_sub]
      by_cases e : n = m
      · rw [if_pos e, if_pos e.symm]
      · rw [if_neg e, if_neg (Ne.symm e)]
    · rw [if_neg c]
      show (if v = m then some (sub n y t) else bnd (putL n y L) m) = _
      rw [bnd_put n y m L hL]
      by_cases e : v = m
      · rw [if_pos e, if_neg (by rw [← e]; exact hv), if_pos e]
      · rw [if_neg e, if_neg e]
theorem putL_len (n : Int) (y : Ty) : ∀ L : Lk, (putL n y L).length = L.length + 1
  | [] => rfl
  | (v, t) :: L => by
    unfold putL
    split
    · simp [subL]
    · rw [List.length_cons, putL_len n y L]; rfl
def mid (n : Int) (y : Ty) (L : Lk) (left : Int → Bool) : Int → Option Ty := fun k => if left k = true then bnd L k else (bnd L k).map (sub n y)
theorem mid_start (n : Int) (y : Ty) (L : Lk) : mid n y L (fun k => (bnd L k).isSome) = bnd L := by
  funext k
  show (if (bnd L k).isSome = true then bnd L k else (bnd L k).map (sub n y)) = bnd L k
  cases e : bnd L k with
  | none => rfl
  | some t => rfl
theorem mid_step {n x : Int} {y t : Ty} {L : Lk} {left : Int → Bool} (hx : bnd L x = some t) : updM (mid n y L left) x (sub n y t) = mid n y L (fun k => left k && !(k == x)) := by
  funext k
  unfold updM mid
  by_cases e : k = x
  · subst e
    show (if k = k then some (sub n y t) else _) = if (left k && !(k == k)) = true then bnd L k else (bnd L k).map (sub n y)
    rw [if_pos rfl, if_neg (by simp), hx]; rfl
  · rw [if_neg e]
    have : (left k && !(k == x)) = left k := by simp [e]
    show (if left k = true then bnd L k else (bnd L k).map (sub n y)) = if (left k && !(k == x)) = true then bnd L k else (bnd L k).map (sub n y)
    rw [this]
theorem mid_end {n : Int} {y : Ty} {L : Lk} {left : Int → Bool} (hl : ∀ k, -9223372036854775808 ≤ k ∧ k ≤ 9223372036854775807 → left k = false) (k : Int) (hk : -9223372036854775808 ≤ k ∧ k ≤ 9223372036854775807) (hn : bnd L n = none) : updM (mid n y L left) n y k = bnd (putL n y L) k := by
  rw [bnd_put n y k L hn]
  unfold updM mid
  by_cases e : k = n
  · rw [if_pos e, if_pos e]
  · rw [if_neg e, if_neg e, if_neg (by rw [hl k hk]; simp)]
theorem mid_at {n x : Int} {y t : Ty} {L : Lk} {left : Int → Bool} (hl : left x = true) (h : mid n y L left x = some t) : bnd L x = some t := by
  unfold mid at h
  rwa [if_pos hl] at h
end Go.Proofs.YteffjlhljeodpaaGreatDoor.Uni

namespace Go.Proofs.YteffjlhljeodpaaGreatDoor.G
open Go.RowKit Go.Proofs.YteffjlhljeodpaaGreatDoorW.PrintWords Go.Proofs.YteffjlhljeodpaaGreatDoorW.PrintLast Go.Proofs.YteffjlhljeodpaaGreatDoorW.PrintMore Go.Proofs.YteffjlhljeodpaaGreatDoor.EvL Go.Proofs.YteffjlhljeodpaaGreatDoor.TxtL Go.Proofs.YteffjlhljeodpaaGreatDoor.ReadM Go.Proofs.YteffjlhljeodpaaGreatDoor.Short
set_option linter.unusedVariables false
set_option linter.unusedSimpArgs false

def plM (l : List Int) : Nat → Int → Option Ty
  | 0 => fun _ => none
  | i + 1 => updM (plM l i) (rd l i) (.v i)
def Ty.plain (t : Ty) : Ty := t.apply (plM t.vars t.vars.length)
theorem vfold_mem {x : Int} : ∀ (ys out : List Int), x ∈ ys.foldl vstep out ↔ x ∈ out ∨ x ∈ ys
  | [], out => by simp
  | y :: ys, out => by
    rw [List.foldl_cons, vfold_mem ys]
    unfold vstep
    by_cases h : y ∈ out
    · rw [if_pos h, List.mem_cons]
      constructor
      · rintro (h1 | h1)
        · exact .inl h1
        · exact .inr (.inr h1)
      · rintro (h1 | rfl | h1)
        · exact .inl h1
        · exact .inl h
        · exact .inr h1
    · rw [if_neg h, List.mem_append, List.mem_singleton, List.mem_cons, or_assoc]
theorem IsM.cell {W W1 : World} {b k : Nat} {M : Int → Option Ty} {a : Addr} {v : Value} (hM : IsM W b k M) (hg : W.grownBy W1 (some b)) (hc : W.cell? a = some v) : W1.cell? a = some v := by
  refine (hg.cell_far a (World.block_lt_of_cell? _ _ hc) (fun e => ?_)).trans hc
  obtain ⟨D, ⟨es, clock, hb, _⟩, _⟩ := hM
  injection e with e
  unfold World.cell? at hc
  rw [← e] at hb
  rw [hb] at hc
  cases hc
theorem apply_ok {M : Int → Option Ty} (hM : ∀ n u, M n = some u → u.ok) : ∀ t : Ty, t.ok → (t.apply M).ok
  | .v n, h => by
    show ((M n).getD (.v n)).ok
    cases e : M n with
    | none => exact h
    | some u => exact hM n u e
  | .a l r, h => ⟨apply_ok hM l h.1, apply_ok hM r h.2⟩
theorem text_size (t : Ty) (h : t.ok) : t.text.size ≤ 20 * t.nodes := by
  rw [text_B, B_size]; exact tyl_len t h

theorem meas_nodes : ∀ (t : Ty) (m : Int), (t.meas m).1 ≤ m → (t.meas m).1 = (t.nodes : Int)
 | .v n, m, h => rfl
 | .a l r, m, h => by
  have hn : ((Ty.a l r).nodes : Int) = 1 + l.nodes + r.nodes := by show ((1 + l.nodes + r.nodes : Nat) : Int) = _; omega
  rw [hn]
  unfold Ty.meas at h ⊢
  split at h
  ·dsimp only at h; omega
  rename_i c0
  split at h
  ·dsimp only at h; omega
  rename_i c1
  rw [if_neg c0, if_neg c1]
  unfold mstep at h c1 ⊢
  dsimp only at h c1 ⊢
  have e1 := meas_nodes l (m - 1) (by omega)
  have e2 := meas_nodes r (m - (1 + (l.meas (m - 1)).1)) (by omega)
  omega
theorem good_nodes {t : Ty} (h : t.good = true) : t.nodes ≤ 200 := by
 unfold Ty.good at h
 simp only [Bool.and_eq_true, decide_eq_true_eq] at h
 have := meas_nodes t 200 h.1.1
 have := h.1.1
 omega
theorem apply_nodes_le {M : Int → Option Ty} (hM : ∀ n u, M n = some u → u.nodes ≤ 200) : ∀ t : Ty, (t.apply M).nodes ≤ 200 * t.nodes
 | .v n => by
  show ((M n).getD (.v n)).nodes ≤ 200 * 1
  cases e : M n with
  | none => show 1 ≤ 200; omega
  | some u => exact hM n u e
 | .a l r => by
  have h1 := apply_nodes_le hM l
  have h2 := apply_nodes_le hM r
  show 1 + (l.apply M).nodes + (r.apply M).nodes ≤ 200 * (1 + l.nodes + r.nodes)
  omega
def bndOk (L : List S29) (i : Nat) : Option Ty := (tyOf (rd_T29 L (i : Int)).f1.data.toList).bind fun t =>
 if (rd_T29 L (i : Int)).f0 < 0 ∨ 999 < (rd_T29 L (i : Int)).f0 ∨ (0 < i ∧ (rd_T29 L (i : Int)).f0 ≤ (rd_T29 L ((i : Int) - 1)).f0) then none else some t
def bindM (L : List S29) : Nat → Option (Int → Option Ty)
 | 0 => some noB
 | i + 1 => (bindM L i).bind fun M => (bndOk L i).map fun t => updM M (rd_T29 L (i : Int)).f0 t
theorem bindM_none {L : List S29} {i : Nat} (h : bindM L i = none) : ∀ d, bindM L (i + d) = none
 | 0 => h
 | d + 1 => by
  show (bindM L (i + d)).bind _ = none
  rw [bindM_none h d]; rfl
theorem bindM_step {L : List S29} {i : Nat} {M : Int → Option Ty} (h : bindM L i = some M) : bindM L (i + 1) = (bndOk L i).map fun t => updM M (rd_T29 L (i : Int)).f0 t := by
 show (bindM L i).bind _ = _
 rw [h]; rfl
theorem bndOk_some {L : List S29} {i : Nat} {t : Ty} (h : bndOk L i = some t) : t.ok ∧ t.nodes ≤ 200 := by
 unfold bndOk at h
 obtain ⟨u, h1, h2⟩ := Option.bind_eq_some_iff.mp h
 split at h2
 ·cases h2
 ·injection h2 with h2
  subst h2
  have := tyOf_some h1
  exact ⟨this.1, good_nodes this.2.2.1⟩
theorem bindM_all {L : List S29} : ∀ (i : Nat) (M : Int → Option Ty), bindM L i = some M → ∀ n u, M n = some u → u.ok ∧ u.nodes ≤ 200
 | 0, M, h, n, u, hu => by
  injection h with h
  subst h
  cases hu
 | i + 1, M, h, n, u, hu => by
  obtain ⟨M0, h0, h1⟩ := Option.bind_eq_some_iff.mp h
  obtain ⟨t, ht, h2⟩ := Option.map_eq_some_iff.mp h1
  subst h2
  have hu' : (if n = (rd_T29 L (i : Int)).f0 then some t else M0 n) = some u := hu
  split at hu'
  ·injection hu' with hu'
   subst hu'
   exact bndOk_some ht
  ·exact bindM_all i M0 h0 n u hu'
def applyF (L : List S29) (s : List UInt8) : ByteArray × Bool := match tyOf s with
 | none => (⟨#[]⟩, false)
 | some t => if 200 < L.length then (⟨#[]⟩, false) else match bindM L L.length with
  | none => (⟨#[]⟩, false)
  | some M => if (t.apply M).good = true then ((t.apply M).text, true) else (⟨#[]⟩, false)
theorem applyF_none {L : List S29} {s : List UInt8} (h : tyOf s = none) : applyF L s = (⟨#[]⟩, false) := by unfold applyF; rw [h]
theorem applyF_long {L : List S29} {s : List UInt8} (h : 200 < L.length) : applyF L s = (⟨#[]⟩, false) := by
 unfold applyF
 cases tyOf s with
 | none => rfl
 | some t => exact if_pos h
theorem applyF_bind {L : List S29} {s : List UInt8} (h : bindM L L.length = none) : applyF L s = (⟨#[]⟩, false) := by
 unfold applyF
 cases tyOf s with
 | none => rfl
 | some t =>
  dsimp only
  rw [h]
  split <;> rfl
theorem applyF_some {L : List S29} {s : List UInt8} {t : Ty} {M : Int → Option Ty} (h : tyOf s = some t) (hl : ¬ 200 < L.length) (hb : bindM L L.length = some M) : applyF L s = if (t.apply M).good = true then ((t.apply M).text, true) else (⟨#[]⟩, false) := by
 unfold applyF
 rw [h]
 dsimp only
 rw [if_neg hl, hb]
def impl_ApplyType.f (_ : Nat) (l0 : List S29) (a1 : ByteArray) : Option (ByteArray × Bool) := if a1.size ≤ 1099511627776 ∧ ∀ x ∈ l0, x.f1.size ≤ 1099511627776 then some (applyF l0 a1.data.toList) else none
theorem bind_bad {L : List S29} {s : List UInt8} {j : Nat} {M : Int → Option Ty} (hj : j < L.length) (hM : bindM L j = some M) (h : bndOk L j = none) : applyF L s = (⟨#[]⟩, false) := by
 refine applyF_bind ?_
 have h1 : bindM L (j + 1) = none := by rw [bindM_step hM, h]; rfl
 have h2 := bindM_none h1 (L.length - (j + 1))
 rwa [show j + 1 + (L.length - (j + 1)) = L.length by omega] at h2
theorem rd47_mem {l : List S29} {i : Int} (h0 : 0 ≤ i) (h : i < (l.length : Int)) : rd_T29 l i ∈ l := by
 have e : rd_T29 l i = l[i.toNat]'(by omega) := by unfold rd_T29; rw [List.getD_eq_getElem?_getD, List.getElem?_eq_getElem (by omega)]; rfl
 rw [e]; exact List.getElem_mem _
set_option maxHeartbeats 8000000 in
set_option maxRecDepth 100000 in
theorem impl_ApplyType.calls (k : Nat) (A0 : Option Addr) (c0 : Nat) (l0 : List (S29)) (a1 : ByteArray) (r1 : ByteArray) (r2 : Bool) (w : World) (hr0 : Kd.C k29 w A0 l0.length l0) (hc0 : l0.length ≤ c0) (h : impl_ApplyType.f k l0 a1 = some (r1, r2)) (hE : Met w) :
  Calls Tryz.prog 7 #[.slice A0 l0.length c0, .string a1] w fun e w' => e = .returned (.tuple #[.string r1, .bool r2]) ∧ Below w.heap.size w w' := by
 have hmm := @run_makeMap Tryz.prog
 have hu29 := Tryz.underlying29
 unfold impl_ApplyType.f at h
 by_cases hs : a1.size ≤ 1099511627776 ∧ ∀ x ∈ l0, x.f1.size ≤ 1099511627776
 case neg => rw [if_neg hs] at h; cases h
 rw [if_pos hs] at h
 injection h with h
 have HR := aK h
 have HS := aK hs
 have HE := aK hE
 have HR0 := aK hr0
 clear h hs hE hr0 hc0
 go_enter Tryz.func7, Tryz.ntmps7
 go_upto_region 2 with (first
  | ((with_reducible refine gate_callee (f := 14) rfl ?_); refine goesL_ (some 16) rfl rfl Tryz.func14 (by kernel_rfl) rfl #[.string a1] rfl tA ?_; refine (typeOfS a1 w HS.out.1 HE.out).mono ?_; rintro _ w1 ⟨x1, ok1, rfl, hb, ho⟩; refine ⟨_, rfl, ?_⟩; have O1 := aK ho; have HB := aK hb; clear ho hb))
 cases ok1 with
 | false =>
  have e1 : tyOf a1.data.toList = none := by
   rcases O1.out with ⟨h, _⟩ | ⟨_, _, h, _⟩
   ·exact h
   ·cases h
  have E := aK ((applyF_none (L := l0) e1).symm.trans HR.out)
  clear e1 HR
  go_wp2
  go_ret2
  cases E.out
  exact ⟨rfl, HB.out⟩
 | true =>
  obtain ⟨t1, e1, i1⟩ : ∃ t, tyOf a1.data.toList = some t ∧ IsT w1 t (.pointer x1) := by
   rcases O1.out with ⟨_, h⟩ | ⟨t, h, _, hi⟩
   ·cases h
   ·exact ⟨t, h, hi⟩
  have E1 := aK e1
  have OK := aK (tyOf_some e1)
  have I1 := aK i1
  obtain ⟨g1, hg1⟩ := i1.ptr
  injection hg1 with hg1
  subst hg1
  clear e1 i1 O1
  by_cases cl : (200 : Int) < (l0.length : Int)
  ·have cb : decide ((200 : Int) < (l0.length : Int)) = true := decide_eq_true cl
   have E := aK ((applyF_long (L := l0) (s := a1.data.toList) (by omega)).symm.trans HR.out)
   clear cl HR
   go_wp2
   go_ret2
   cases E.out
   exact ⟨rfl, HB.out⟩
  have cb : decide ((200 : Int) < (l0.length : Int)) = false := decide_eq_false cl
  have CL : Aside0 (¬ 200 < l0.length) := ⟨by omega⟩
  clear cl
  have M0 := aK (IsM.made w1)
  have HB2 := aK (below_alloc HB.out (.map #[] 0))
  have I2 := aK (I1.out.below (below_alloc (Below.refl w1.heap.size w1) (.map #[] 0)))
  have HB1 := HB
  clear HB
  go_wp2
  go_loopg [29] (l0.length + 1) (fun gk v29 wr => ∃ (i : Int) (j : Nat) (M : Int → Option Ty), v29 = .int .i64 i ∧ Aside0 (i = (j : Int) ∧ gk + j = l0.length + 1 ∧ j ≤ l0.length) ∧ Aside0 (bindM l0 j = some M) ∧ Aside0 (IsM wr w1.heap.size j M) ∧ Aside0 (IsT wr t1 (.pointer (some ⟨g1, 0, none⟩))) ∧ Aside0 (Below w.heap.size w wr))
  case atStart => exact ⟨0, 0, noB, rfl, ⟨rfl, rfl, Nat.zero_le _⟩, ⟨rfl⟩, M0, I2, HB2⟩
  case round =>
   clear M0 HB2 I2 cb
   obtain ⟨i, j, M, rfl, HI, HM, IM, IT, HB⟩ := hrel
   have RB := aK (Below.refl wr.heap.size wr)
   by_cases c : i < (l0.length : Int)
   ·have cb : decide (i < (l0.length : Int)) = true := decide_eq_true c
    have i0 : 0 ≤ i := by have := HI.out.1; omega
    have cz : decide (0 ≤ i) = true := decide_eq_true i0
    obtain ⟨ad, e1, hx0, hx1⟩ := at_T29 (Kd.C_below HR0.out HB.out) i i0 c
    cases e1
    have p1 := eq_true i0
    have q1 := eq_true c
    have Cc := aK c
    have C0 := aK i0
    have SX : Aside0 ((rd_T29 l0 i).f1.size ≤ 1099511627776) := ⟨HS.out.2 _ (rd47_mem i0 c)⟩
    obtain ⟨X0, hX0⟩ : ∃ x, x = (rd_T29 l0 i).f0 := ⟨_, rfl⟩
    obtain ⟨X1, hX1⟩ : ∃ x, x = (rd_T29 l0 i).f1 := ⟨_, rfl⟩
    rw [← hX0] at hx0
    rw [← hX1] at hx1 SX
    have HX0 := aK hX0
    have HX1 := aK hX1
    obtain ⟨k1, rfl⟩ : ∃ m, gk = m + 1 := ⟨gk - 1, by have := HI.out; omega⟩
    clear c i0 hX0 hX1
    go_upto_region 9 with (first
     | ((with_reducible refine gate_dst (N := 10) rfl ?_); refine box_event ?hg (N := 10) ?hd (cs := #[.int .i64 0, .string (⟨#[]⟩ : ByteArray)]) (t := 29) ?hr ?_; (case hd => rfl); (case hg => rfl); (case hr => go_simp); intro gb hg w3 hbox hb; have n1_ := aK (below_step (pH RB) hb); have GE := aK ((by rw [hg]; exact (below_size (pH RB)) : wr.heap.size ≤ gb)); clear RB; have RB := n1_; clear n1_; have BK := aK hbox; clear hbox hg hb; have hcz_0 : w3.cell? ⟨gb, 0, none⟩ = some (.int .i64 0) := (blk_cell BK.out 0).trans rfl; have hcz_1 : w3.cell? ⟨gb, 1, none⟩ = some (.string (⟨#[]⟩ : ByteArray)) := (blk_cell BK.out 1).trans rfl; have hfz_0 := blk_frozen BK.out 0; have hfz_1 := blk_frozen BK.out 1)
     | (go_at_call 14; refine (typeOfS X1 _ SX.out (HE.out.below (below_step HB.out (pH RB)))).mono ?_; rintro _ w4 ⟨x2, ok2, rfl, hb, ho⟩; have O2 := aK ho; have RB2 := aK (below_step (pH RB) hb); have k0 := blk_below (g := gb) (o := .cells #[.int .i64 X0, .string X1] 29 (0, 0)) (by refine blk_put (cs := #[.int .i64 X0, .string ⟨#[]⟩]) ?_ 1 _ rfl; refine blk_put (cs := #[.int .i64 0, .string ⟨#[]⟩]) ?_ 0 _ rfl; exact BK.out) hb; have hk0 : w4.cell? ⟨gb, 0, none⟩ = some (.int .i64 X0) := (blk_cell k0 0).trans rfl; clear ho hb k0 hcz_0 hcz_1 hfz_0 hfz_1))
    have HB4 := aK (below_step HB.out RB2.out)
    have W1 : Aside0 (wrap64 (i + 1) = i + 1) := ⟨w64 (by have := C0.out; omega) (by have := Cc.out; have := CL.out; omega)⟩
    cases ok2 with
    | false =>
     have HBO : Aside0 (bndOk l0 j = none) := ⟨by
      rcases O2.out with ⟨h, _⟩ | ⟨_, _, h, _⟩
      ·unfold bndOk; rw [← HI.out.1, ← HX1.out, h]; rfl
      ·cases h⟩
     clear O2
     have E := aK ((bind_bad (s := a1.data.toList) (by have := HI.out; have := Cc.out; omega) HM.out HBO.out).symm.trans HR.out)
     clear HR
     go_quiet (fail)
     go_wp2
     go_ret2
     cases E.out
     exact ⟨rfl, by first | exact HB4.out | exact pw_below_drewN HB4.out _⟩
    | true =>
     obtain ⟨t2, e2, i2⟩ : ∃ t, tyOf X1.data.toList = some t ∧ IsT w4 t (.pointer x2) := by
      rcases O2.out with ⟨_, h⟩ | ⟨t, h, _, hi⟩
      ·cases h
      ·exact ⟨t, h, hi⟩
     have hbo : bndOk l0 j = if X0 < 0 ∨ 999 < X0 ∨ (0 < j ∧ X0 ≤ (rd_T29 l0 (i - 1)).f0) then none else some t2 := by
      unfold bndOk; rw [← HI.out.1, ← HX1.out, e2, ← HX0.out]; rfl
     obtain ⟨g2, hg2⟩ := i2.ptr
     injection hg2 with hg2
     subst hg2
     have HBO0 := aK hbo
     have J2 := aK i2
     clear O2 e2 i2 hbo
     by_cases c1 : X0 < 0
     ·have z1 : decide (X0 < 0) = true := decide_eq_true c1
      have HBO : Aside0 (bndOk l0 j = none) := ⟨by rw [HBO0.out, if_pos (.inl c1)]⟩
      clear c1
      have E := aK ((bind_bad (s := a1.data.toList) (by have := HI.out; have := Cc.out; omega) HM.out HBO.out).symm.trans HR.out)
      clear HR
      go_quiet (fail)
      go_wp2
      go_ret2
      cases E.out
      exact ⟨rfl, by first | exact HB4.out | exact pw_below_drewN HB4.out _⟩
     have z1 : decide (X0 < 0) = false := decide_eq_false c1
     have N0 : Aside0 (0 ≤ X0) := ⟨by omega⟩
     clear c1
     by_cases c2 : 999 < X0
     ·have z2 : decide (999 < X0) = true := decide_eq_true c2
      have HBO : Aside0 (bndOk l0 j = none) := ⟨by rw [HBO0.out, if_pos (.inr (.inl c2))]⟩
      clear c2
      have E := aK ((bind_bad (s := a1.data.toList) (by have := HI.out; have := Cc.out; omega) HM.out HBO.out).symm.trans HR.out)
      clear HR
      go_quiet (fail)
      go_wp2
      go_ret2
      cases E.out
      exact ⟨rfl, by first | exact HB4.out | exact pw_below_drewN HB4.out _⟩
     have z2 : decide (999 < X0) = false := decide_eq_false c2
     have N1 : Aside0 (X0 ≤ 999) := ⟨by omega⟩
     clear c2
     by_cases c3 : 0 < i
     ·have z3 : decide (0 < i) = true := decide_eq_true c3
      have hwi : wrap64 (i - 1) = i - 1 := w64 (by omega) (by have := Cc.out; have := CL.out; omega)
      obtain ⟨ad', e1', hy0, hy1⟩ := at_T29 (Kd.C_below HR0.out HB4.out) (i - 1) (by omega) (by have := Cc.out; omega)
      cases e1'
      have z4 : decide (0 ≤ i - 1) = true := decide_eq_true (by omega)
      have z5 : decide (i - 1 < (l0.length : Int)) = true := decide_eq_true (by have := Cc.out; omega)
      have y4 : (0 ≤ i - 1) = True := eq_true (by omega)
      have y5 : (i - 1 < (l0.length : Int)) = True := eq_true (by have := Cc.out; omega)
      have C3 := aK c3
      obtain ⟨XP, hXP⟩ : ∃ x, x = (rd_T29 l0 (i - 1)).f0 := ⟨_, rfl⟩
      rw [← hXP] at hy0
      have HXP := aK hXP
      rw [← hwi] at hy0 z4 z5 y4 y5
      clear c3 hXP hwi hy1
      by_cases c4 : X0 ≤ XP
      ·have z6 : decide (X0 ≤ XP) = true := decide_eq_true c4
       have HBO : Aside0 (bndOk l0 j = none) := ⟨by rw [HBO0.out, if_pos (.inr (.inr ⟨by have := C3.out; have := HI.out; omega, by rw [← HXP.out]; exact c4⟩))]⟩
       clear c4
       have E := aK ((bind_bad (s := a1.data.toList) (by have := HI.out; have := Cc.out; omega) HM.out HBO.out).symm.trans HR.out)
       clear HR
       go_quiet (fail)
       go_wp2
       go_ret2
       cases E.out
       exact ⟨rfl, by first | exact HB4.out | exact pw_below_drewN HB4.out _⟩
      ·have z6 : decide (X0 ≤ XP) = false := decide_eq_false c4
       have HBO : Aside0 (bndOk l0 j = some t2) := ⟨by rw [HBO0.out, if_neg (by rw [← HXP.out]; have := N0.out; have := N1.out; omega)]⟩
       clear c4
       go_quiet (fail)
       go_wp2_with (first
        | (at_mapUpdate; refine put_M _ rfl _ _ _ rfl w1.heap.size j M rfl ((IM.out.below RB2.out).drewN _) (by have := CL.out; have := HI.out; omega) X0 ⟨by have := N0.out; omega, by have := N1.out; omega⟩ rfl t2 g2 rfl (J2.out.drewN _) ?_; intro w5 hM5 hs5 hg5; have M5 := aK hM5; have IT5 := aK (((IT.out.below RB2.out).drewN _).stay hs5); have HB5 := aK ((pw_below_drewN HB4.out _).grown hg5 HB4.out.size (fun k hk => by cases hk; exact HB1.out.size)); clear hM5 hs5 hg5))
       go_roundg k1
       case measure => omega
       case rel =>
        refine ⟨i + 1, j + 1, _, ?_, ⟨by have := HI.out; omega, by have := HI.out; omega, by have := HI.out; have := Cc.out; omega⟩, ⟨(bindM_step HM.out).trans ?_⟩, M5, IT5, HB5⟩
        ·rw [W1.out]
        ·rw [HBO.out, HX0.out, ← HI.out.1]; rfl
     ·have z3 : decide (0 < i) = false := decide_eq_false c3
      have HBO : Aside0 (bndOk l0 j = some t2) := ⟨by rw [HBO0.out, if_neg (by have := HI.out; have := N0.out; have := N1.out; omega)]⟩
      clear c3
      go_quiet (fail)
      go_wp2_with (first
       | (at_mapUpdate; refine put_M _ rfl _ _ _ rfl w1.heap.size j M rfl ((IM.out.below RB2.out).drewN _) (by have := CL.out; have := HI.out; omega) X0 ⟨by have := N0.out; omega, by have := N1.out; omega⟩ rfl t2 g2 rfl (J2.out.drewN _) ?_; intro w5 hM5 hs5 hg5; have M5 := aK hM5; have IT5 := aK (((IT.out.below RB2.out).drewN _).stay hs5); have HB5 := aK ((pw_below_drewN HB4.out _).grown hg5 HB4.out.size (fun k hk => by cases hk; exact HB1.out.size)); clear hM5 hs5 hg5))
      go_roundg k1
      case measure => omega
      case rel =>
       refine ⟨i + 1, j + 1, _, ?_, ⟨by have := HI.out; omega, by have := HI.out; omega, by have := HI.out; have := Cc.out; omega⟩, ⟨(bindM_step HM.out).trans ?_⟩, M5, IT5, HB5⟩
       ·rw [W1.out]
       ·rw [HBO.out, HX0.out, ← HI.out.1]; rfl
   ·have cb : decide (i < (l0.length : Int)) = false := decide_eq_false c
    have ej : j = l0.length := by have := HI.out; omega
    subst ej
    have E := aK ((applyF_some E1.out CL.out HM.out).symm.trans HR.out)
    have AO := aK (apply_ok (fun n u h => (bindM_all _ _ HM.out n u h).1) t1 OK.out.1)
    have AN : Aside0 ((t1.apply M).nodes ≤ 40000) := ⟨by have := apply_nodes_le (fun n u h => (bindM_all _ _ HM.out n u h).2) t1; have := good_nodes OK.out.2.2.1; omega⟩
    clear c HR
    cases hg : (t1.apply M).good with
    | false =>
     have HG := aK hg
     clear hg
     go_wp2_with (first
      | (go_at_call 23; (with_reducible refine (impl_typ_apply.calls t1 _ w1.heap.size l0.length M _ ?s1 ?s2 ?s3).mono ?_); (case s1 => exact IT.out); (case s2 => exact OK.out.1); (case s3 => exact IM.out); rintro _ w3 ⟨y, rfl, hI, hb⟩; obtain ⟨gy, rfl⟩ := hI.ptr; have IV := aK hI; have HB4 := aK (below_step HB.out hb); clear hI hb)
      | (go_at_call 24; (with_reducible refine (impl_typ_isGood.calls (t1.apply M) _ _ ?s1 ?s2).mono ?_); (case s1 => exact IV.out); (case s2 => have := AN.out; omega); rintro _ w4 ⟨rfl, hb⟩; rw [HG.out]; have HB5 := aK (below_step HB4.out hb); have IW := aK (IV.out.below hb); clear hb))
     go_ret2
     have e := E.out
     rw [if_neg (by rw [HG.out]; decide)] at e
     cases e
     exact ⟨rfl, HB5.out⟩
    | true =>
     have HG := aK hg
     clear hg
     go_wp2_with (first
      | (go_at_call 23; (with_reducible refine (impl_typ_apply.calls t1 _ w1.heap.size l0.length M _ ?s1 ?s2 ?s3).mono ?_); (case s1 => exact IT.out); (case s2 => exact OK.out.1); (case s3 => exact IM.out); rintro _ w3 ⟨y, rfl, hI, hb⟩; obtain ⟨gy, rfl⟩ := hI.ptr; have IV := aK hI; have HB4 := aK (below_step HB.out hb); clear hI hb)
      | (go_at_call 24; (with_reducible refine (impl_typ_isGood.calls (t1.apply M) _ _ ?s1 ?s2).mono ?_); (case s1 => exact IV.out); (case s2 => have := AN.out; omega); rintro _ w4 ⟨rfl, hb⟩; rw [HG.out]; have HB5 := aK (below_step HB4.out hb); have IW := aK (IV.out.below hb); clear hb)
      | (go_at_call 16; (with_reducible refine (impl_typ_text.calls (t1.apply M) _ _ ?s1 ?s2 ?s3 ?s4).mono ?_); (case s1 => exact IW.out); (case s2 => exact AO.out); (case s3 => have := text_size _ AO.out; have := AN.out; omega); (case s4 => exact (HE.out.below HB5.out).tab); rintro _ w5 ⟨rfl, hb⟩; have HB6 := aK (below_step HB5.out hb); clear hb))
     go_ret2
     have e := E.out
     rw [if_pos HG.out] at e
     exact ⟨congrArg (fun z : ByteArray × Bool => Ending.returned (.tuple #[.string z.1, .bool z.2])) e, HB6.out⟩
end Go.Proofs.YteffjlhljeodpaaGreatDoor.G

namespace Go.Proofs.YteffjlhljeodpaaGreatDoor.G
open Go.RowKit Go.Proofs.YteffjlhljeodpaaGreatDoor.EvL Go.Proofs.YteffjlhljeodpaaGreatDoor.TxtL Go.Proofs.YteffjlhljeodpaaGreatDoor.ReadM Go.Proofs.YteffjlhljeodpaaGreatDoorW.PrintWords
set_option linter.unusedVariables false
set_option linter.unusedSimpArgs false

def Ty.dep : Ty → Nat
  | .v _ => 1
  | .a l r => 1 + max l.dep r.dep
def Ty.lim : Ty → Prop
  | .v n => 0 ≤ n ∧ n ≤ 999
  | .a l r => l.lim ∧ r.lim
theorem dep_nodes : ∀ t : Ty, t.dep ≤ t.nodes
  | .v _ => Nat.le_refl _
  | .a l r => by
    have h1 := dep_nodes l
    have h2 := dep_nodes r
    show 1 + max l.dep r.dep ≤ 1 + l.nodes + r.nodes
    omega
theorem dep_pos : ∀ t : Ty, 1 ≤ t.dep
  | .v _ => Nat.le_refl _
  | .a l r => by show 1 ≤ 1 + _; omega
theorem nodes_dep : ∀ t : Ty, t.nodes + 1 ≤ 2 ^ t.dep
  | .v _ => Nat.le_refl _
  | .a l r => by
    have h1 := nodes_dep l
    have h2 := nodes_dep r
    have a1 : 2 ^ l.dep ≤ 2 ^ (max l.dep r.dep) := Nat.pow_le_pow_right (by omega) (by omega)
    have a2 : 2 ^ r.dep ≤ 2 ^ (max l.dep r.dep) := Nat.pow_le_pow_right (by omega) (by omega)
    show 1 + l.nodes + r.nodes + 1 ≤ 2 ^ (1 + max l.dep r.dep)
    rw [Nat.add_comm 1 (max l.dep r.dep), Nat.pow_succ]
    omega
theorem lim_ok : ∀ t : Ty, t.lim → t.ok
  | .v n, h => by
    have h' : 0 ≤ n ∧ n ≤ 999 := h
    show 0 ≤ n ∧ n ≤ 9223372036854775807
    omega
  | .a l r, h => ⟨lim_ok l h.1, lim_ok r h.2⟩
theorem meas_all : ∀ (t : Ty) (m : Int), (t.nodes : Int) ≤ m → t.meas m = ((t.nodes : Int), (t.dep : Int))
  | .v n, m, h => rfl
  | .a l r, m, h => by
    have hn : ((Ty.a l r).nodes : Int) = 1 + l.nodes + r.nodes := by show ((1 + l.nodes + r.nodes : Nat) : Int) = _; omega
    have hd : ((Ty.a l r).dep : Int) = 1 + max (l.dep : Int) (r.dep : Int) := by show ((1 + max l.dep r.dep : Nat) : Int) = _; omega
    rw [hn] at h
    have e1 := meas_all l (m - 1) (by omega)
    have e2 := meas_all r (m - (1 + l.nodes)) (by omega)
    have s1 : mstep l.meas m (1, 0) = (1 + (l.nodes : Int), (l.dep : Int)) := by
      unfold mstep
      dsimp only
      rw [e1]
      have := dep_pos l
      exact Prod.ext rfl (show max (0 : Int) (l.dep : Int) = (l.dep : Int) by omega)
    have s2 : mstep r.meas m (1 + (l.nodes : Int), (l.dep : Int)) = (1 + (l.nodes : Int) + r.nodes, max (l.dep : Int) r.dep) := by
      unfold mstep
      dsimp only
      rw [e2]
    unfold Ty.meas
    rw [s1]
    dsimp only
    rw [if_neg (by omega), if_neg (by omega), s2, hn, hd]
    exact Prod.ext rfl (show max (l.dep : Int) (r.dep : Int) + 1 = 1 + max (l.dep : Int) (r.dep : Int) by omega)
theorem lim_vars : ∀ t : Ty, t.lim ↔ ∀ n ∈ t.vars, 0 ≤ n ∧ n ≤ 999
  | .v n => by
    show (0 ≤ n ∧ n ≤ 999) ↔ ∀ x ∈ [n], 0 ≤ x ∧ x ≤ 999
    simp
  | .a l r => by
    show (l.lim ∧ r.lim) ↔ ∀ n ∈ r.vars.foldl vstep l.vars, 0 ≤ n ∧ n ≤ 999
    rw [lim_vars l, lim_vars r]
    constructor
    · rintro ⟨h1, h2⟩ n hn
      rcases (vfold_mem r.vars l.vars).mp hn with h | h
      · exact h1 n h
      · exact h2 n h
    · exact fun h => ⟨fun n hn => h n ((vfold_mem r.vars l.vars).mpr (.inl hn)), fun n hn => h n ((vfold_mem r.vars l.vars).mpr (.inr hn))⟩
theorem good_iff (t : Ty) : t.good = true ↔ t.nodes ≤ 200 ∧ t.dep ≤ 60 ∧ t.lim := by
  rw [lim_vars]
  have hv : (!(t.vars.any noVar)) = true ↔ ∀ n ∈ t.vars, 0 ≤ n ∧ n ≤ 999 := by
    rw [Bool.not_eq_true', List.any_eq_false]
    constructor
    · intro h n hn
      have := h n hn
      unfold noVar at this
      simp only [Bool.or_eq_true, decide_eq_true_eq, not_or, Int.not_lt] at this
      exact this
    · intro h n hn
      have := h n hn
      unfold noVar
      simp only [Bool.or_eq_true, decide_eq_true_eq, not_or, Int.not_lt]
      exact this
  unfold Ty.good
  rw [Bool.and_eq_true, Bool.and_eq_true, hv, decide_eq_true_eq, decide_eq_true_eq]
  constructor
  · rintro ⟨⟨h1, h2⟩, h3⟩
    have hn := meas_nodes t 200 h1
    have e := meas_all t 200 (by omega)
    rw [e] at h2
    dsimp only at h2
    exact ⟨by omega, by omega, h3⟩
  · rintro ⟨h1, h2, h3⟩
    have e := meas_all t 200 (by omega)
    rw [e]
    exact ⟨⟨by show (t.nodes : Int) ≤ 200; omega, by show (t.dep : Int) ≤ 60; omega⟩, h3⟩

theorem not_isD_62 : ¬ isD (62 : UInt8) := by decide
theorem not_isD_41 : ¬ isD (41 : UInt8) := by decide
theorem dec3 {n : Int} (h : 0 ≤ n ∧ n ≤ 999) : (Lib.decDigits n.toNat).length ≤ 3 := dec_len 3 n.toNat (by omega) (by have : (10 : Nat) ^ 3 = 1000 := by { decide }; omega)
theorem yrd_tyl (m : Nat) (hm : 3 ≤ m) : ∀ (t : Ty) (d : Nat) (r : List UInt8), t.lim → t.dep ≤ d → NoD r → yrd m d (tyl t ++ r) = some (t, r)
  | .v n, d, r, h, hd, hr => by
    obtain ⟨d, rfl⟩ : ∃ e, d = e + 1 := ⟨d - 1, by have : 1 ≤ d := hd; omega⟩
    have h' : 0 ≤ n ∧ n ≤ 999 := h
    obtain ⟨⟨q1, q2, q3⟩, q4, q5⟩ := dec_numeral n.toNat
    have e1 : digs m (Lib.decDigits n.toNat ++ r) = Lib.decDigits n.toNat := digs_app m _ r q1 (Nat.le_trans (dec3 h') hm) hr
    show yrd m (d + 1) (116 :: (Lib.decDigits n.toNat ++ r)) = _
    unfold yrd
    rw [if_neg (by decide), e1, if_pos ⟨rfl, q2⟩, List.drop_left, q4]
    rw [show ((n.toNat : Nat) : Int) = n by omega]
  | .a l r', d, r, h, hd, hr => by
    have hd' : 1 + max l.dep r'.dep ≤ d := hd
    obtain ⟨d, rfl⟩ : ∃ e, d = e + 1 := ⟨d - 1, by omega⟩
    have e1 := yrd_tyl m hm l d (62 :: (tyl r' ++ (41 :: r))) h.1 (by omega) (noD_cons _ not_isD_62)
    have e2 := yrd_tyl m hm r' d (41 :: r) h.2 (by omega) (noD_cons _ not_isD_41)
    have es : tyl (.a l r') ++ r = 40 :: (tyl l ++ (62 :: (tyl r' ++ (41 :: r)))) := by
      show (40 :: (tyl l ++ 62 :: (tyl r' ++ [41]))) ++ r = _
      simp
    rw [es]
    unfold yrd
    rw [if_pos rfl, e1, Option.bind_some]
    dsimp only
    rw [eat_cons, Option.bind_some, e2, Option.bind_some]
    dsimp only
    rw [eat_cons]
    rfl
theorem yrd_own (m : Nat) (hm : 3 ≤ m) (t : Ty) (d : Nat) (h : t.lim) (hd : t.dep ≤ d) : yrd m d (tyl t) = some (t, []) := by
  have := yrd_tyl m hm t d [] h hd noD_nil
  rwa [List.append_nil] at this
theorem tyOf_own {t : Ty} (h : t.good = true) : tyOf (tyl t) = some t := by
  obtain ⟨h1, h2, h3⟩ := (good_iff t).mp h
  unfold tyOf
  rw [yrd_own 4 (by omega) t 60 h3 h2, Option.bind_some, if_pos rfl, if_pos h, if_pos rfl]
def tyS (l : List UInt8) : Option Ty := (yrd 3 61 l).bind fun p => if p.2 = [] ∧ tyl p.1 = l ∧ p.1.dep ≤ 61 ∧ p.1.nodes ≤ 200 then some p.1 else none
theorem tyS_own {t : Ty} (h : t.good = true) : tyS (tyl t) = some t := by
  obtain ⟨h1, h2, h3⟩ := (good_iff t).mp h
  unfold tyS
  rw [yrd_own 3 (by omega) t 61 h3 (by omega), Option.bind_some, if_pos ⟨rfl, rfl, by show t.dep ≤ 61; omega, h1⟩]
theorem yrd_lim : ∀ (d : Nat) (s : List UInt8) (t : Ty) (r : List UInt8), yrd 3 d s = some (t, r) → t.lim
  | 0, _, _, _, h => by cases h
  | _ + 1, [], _, _, h => by cases h
  | d + 1, c :: s, t, r, h => by
    unfold yrd at h
    by_cases h1 : c = 40
    · rw [if_pos h1] at h
      obtain ⟨⟨a, r0⟩, ha, h⟩ := Option.bind_eq_some_iff.mp h
      obtain ⟨r1, e1, h⟩ := Option.bind_eq_some_iff.mp h
      obtain ⟨⟨b, r2⟩, hb, h⟩ := Option.bind_eq_some_iff.mp h
      obtain ⟨r3, e2, h⟩ := Option.bind_eq_some_iff.mp h
      simp only [Option.some.injEq, Prod.mk.injEq] at h
      obtain ⟨rfl, rfl⟩ := h
      exact ⟨yrd_lim d s a r0 ha, yrd_lim d r1 b r2 hb⟩
    rw [if_neg h1] at h
    by_cases h2 : c = 116 ∧ digs 3 s ≠ []
    · rw [if_pos h2] at h
      simp only [Option.some.injEq, Prod.mk.injEq] at h
      obtain ⟨rfl, rfl⟩ := h
      have hv := val_le 3 (digs 3 s) (digs_all 3 s) (digs_len 3 s).1
      have : (10 : Nat) ^ 3 = 1000 := by decide
      show (0 : Int) ≤ ((valF 0 (digs 3 s) : Nat) : Int) ∧ ((valF 0 (digs 3 s) : Nat) : Int) ≤ 999
      omega
    · rw [if_neg h2] at h; cases h

def bads : List ByteArray := [(⟨#[]⟩ : ByteArray), (⟨#[116]⟩ : ByteArray), (⟨#[116, 49, 48, 48, 48]⟩ : ByteArray), (⟨#[40, 116, 48, 62, 116, 49]⟩ : ByteArray), (⟨#[116, 48, 49]⟩ : ByteArray), (⟨#[40, 116, 48, 32, 62, 32, 116, 49, 41]⟩ : ByteArray)]
theorem bads_none : ∀ i : Fin 6, (tyOf ((bads.getD i.val ByteArray.empty).data.toList)).isNone = true ∧ (tyS ((bads.getD i.val ByteArray.empty).data.toList)).isNone = true ∧ (bads.getD i.val ByteArray.empty).size ≤ 10 := by decide +kernel
def V : List Int := [0, 1, 2, 3, 999]
def Few (t : Ty) : Prop := t.lim ∧ ∀ n ∈ t.vars, n ∈ V
def DrN (N : Nat) (x : ByteArray) : Prop := (∃ t : Ty, Few t ∧ t.dep ≤ N ∧ t.good = true ∧ x = B (tyl t)) ∨ (∃ i, i < 6 ∧ x = bads.getD i ByteArray.empty)
abbrev Dr : ByteArray → Prop := DrN 9
theorem DrN.le {N : Nat} (hN : N ≤ 9) {x : ByteArray} (h : DrN N x) : Dr x := by
  rcases h with ⟨t, h1, h2, h3, h4⟩ | h
  · exact .inl ⟨t, h1, by omega, h3, h4⟩
  · exact .inr h
theorem small_good {t : Ty} (h : t.lim) (hd : t.dep ≤ 6) : t.good = true := by
  have := nodes_dep t
  have : 2 ^ t.dep ≤ 2 ^ 6 := Nat.pow_le_pow_right (by omega) hd
  exact (good_iff t).mpr ⟨by omega, by omega, h⟩
theorem DrN.same {x : ByteArray} (h : Dr x) : (∃ t : Ty, t.lim ∧ t.dep ≤ 9 ∧ t.good = true ∧ x = B (tyl t) ∧ tyOf x.data.toList = some t ∧ tyS x.data.toList = some t ∧ x.size ≤ 10000) ∨ (tyOf x.data.toList = none ∧ tyS x.data.toList = none ∧ x.size ≤ 10000) := by
  rcases h with ⟨t, h0, h2, hg, rfl⟩ | ⟨i, hi, rfl⟩
  · have h1 := h0.1
    refine .inl ⟨t, h1, h2, hg, rfl, ?_, ?_, ?_⟩
    · rw [B_list]; exact tyOf_own hg
    · rw [B_list]; exact tyS_own hg
    · rw [B_size]
      have := tyl_len t (lim_ok t h1)
      have := ((good_iff t).mp hg).1
      omega
  · obtain ⟨a, b, c⟩ := bads_none ⟨i, hi⟩
    exact .inr ⟨Option.isNone_iff_eq_none.mp a, Option.isNone_iff_eq_none.mp b, Nat.le_trans c (by omega)⟩

theorem DrN.few {N : Nat} {x : ByteArray} (h : DrN N x) {t : Ty} (ht : tyOf x.data.toList = some t) : Few t ∧ t.dep ≤ N := by
  rcases h with ⟨u, h0, h2, hg, rfl⟩ | ⟨i, hi, rfl⟩
  · rw [B_list, tyOf_own hg] at ht
    obtain rfl := Option.some.inj ht
    exact ⟨h0, h2⟩
  · have := (bads_none ⟨i, hi⟩).1
    rw [ht] at this; cases this
theorem same_refl : ∀ t : Ty, t.same t = true
  | .v n => by show (n == n) = true; simp
  | .a l r => by show (l.same l && r.same r) = true; rw [same_refl l, same_refl r]; rfl
theorem fits_apply (M : Int → Option Ty) : ∀ (t : Ty) (N : Int → Option Ty), (∀ n u, N n = some u → u = (M n).getD (.v n)) → (t.fits (t.apply M) N).1 = true ∧ ∀ n u, (t.fits (t.apply M) N).2 n = some u → u = (M n).getD (.v n)
  | .v n, N, h => by
    show (fitV N n ((M n).getD (.v n))).1 = true ∧ ∀ k u, (fitV N n ((M n).getD (.v n))).2 k = some u → u = (M k).getD (.v k)
    cases e : N n with
    | none =>
      rw [fitV_none e]
      refine ⟨rfl, fun k u hk => ?_⟩
      have hk' : (if k = n then some ((M n).getD (.v n)) else N k) = some u := hk
      split at hk'
      · injection hk' with hk'
        subst k
        exact hk'.symm
      · exact h k u hk'
    | some o =>
      rw [fitV_some e, ← h n o e]
      exact ⟨same_refl o, h⟩
  | .a l r, N, h => by
    obtain ⟨l1, l2⟩ := fits_apply M l N h
    obtain ⟨r1, r2⟩ := fits_apply M r _ l2
    show (if (l.fits (l.apply M) N).1 = true then r.fits (r.apply M) (l.fits (l.apply M) N).2 else (false, (l.fits (l.apply M) N).2)).1 = true ∧ ∀ n u, (if (l.fits (l.apply M) N).1 = true then r.fits (r.apply M) (l.fits (l.apply M) N).2 else (false, (l.fits (l.apply M) N).2)).2 n = some u → u = (M n).getD (.v n)
    rw [if_pos l1]
    exact ⟨r1, r2⟩
theorem fits_noB (M : Int → Option Ty) (t : Ty) : (t.fits (t.apply M) noB).1 = true := (fits_apply M t noB (fun n u h => by cases h)).1
theorem dep_apply {M : Int → Option Ty} {D : Nat} (hD : 1 ≤ D) (hM : ∀ n u, M n = some u → u.dep ≤ D) : ∀ t : Ty, (t.apply M).dep + 1 ≤ t.dep + D
  | .v n => by
    show ((M n).getD (.v n)).dep + 1 ≤ 1 + D
    cases e : M n with
    | none => show 1 + 1 ≤ 1 + D; omega
    | some u => have := hM n u e; show u.dep + 1 ≤ _; omega
  | .a l r => by
    have h1 := dep_apply hD hM l
    have h2 := dep_apply hD hM r
    show 1 + max (l.apply M).dep (r.apply M).dep + 1 ≤ 1 + max l.dep r.dep + D
    omega
theorem lim_apply {M : Int → Option Ty} (hM : ∀ n u, M n = some u → u.lim) : ∀ t : Ty, t.lim → (t.apply M).lim
  | .v n, h => by
    show ((M n).getD (.v n)).lim
    cases e : M n with
    | none => exact h
    | some u => exact hM n u e
  | .a l r, h => ⟨lim_apply hM l h.1, lim_apply hM r h.2⟩

theorem rd_get {l : List Int} {i : Nat} (h : i < l.length) : rd l (i : Int) = l[i] := by
  unfold rd; rw [Int.toNat_natCast, List.getD_eq_getElem?_getD, List.getElem?_eq_getElem h]; rfl
end Go.Proofs.YteffjlhljeodpaaGreatDoor.G

namespace Go.Proofs.YteffjlhljeodpaaGreatDoor.Uni
open Go.RowKit Go.Proofs.YteffjlhljeodpaaGreatDoor.G Go.Proofs.YteffjlhljeodpaaGreatDoor.EvL Go.Proofs.YteffjlhljeodpaaGreatDoorW.PrintWords
set_option linter.unusedVariables false
set_option linter.unusedSimpArgs false

theorem apply_congr {M N : Int → Option Ty} : ∀ t : Ty, (∀ n ∈ t.vars, (M n).getD (.v n) = (N n).getD (.v n)) → t.apply M = t.apply N
  | .v n, h => h n (List.mem_singleton.mpr rfl)
  | .a l r, h => by
    show Ty.a _ _ = Ty.a _ _
    rw [apply_congr l (fun n hn => h n ((vfold_mem r.vars l.vars).mpr (.inl hn))), apply_congr r (fun n hn => h n ((vfold_mem r.vars l.vars).mpr (.inr hn)))]
theorem apply_none : ∀ t : Ty, t.apply (fun _ => none) = t
  | .v n => rfl
  | .a l r => by
    show Ty.a _ _ = _
    rw [apply_none l, apply_none r]
theorem apply_self {M : Int → Option Ty} (t : Ty) (h : ∀ n ∈ t.vars, M n = none) : t.apply M = t := by
  rw [apply_congr (N := fun _ => none) t (fun n hn => by rw [h n hn]), apply_none]
theorem apply_apply {M N K : Int → Option Ty} (h : ∀ n, (K n).getD (.v n) = ((M n).getD (.v n)).apply N) : ∀ t : Ty, (t.apply M).apply N = t.apply K
  | .v n => (h n).symm
  | .a l r => by
    show Ty.a _ _ = Ty.a _ _
    rw [apply_apply h l, apply_apply h r]
theorem mem_apply {M : Int → Option Ty} {m : Int} : ∀ t : Ty, m ∈ (t.apply M).vars ↔ ∃ n ∈ t.vars, m ∈ ((M n).getD (.v n)).vars
  | .v n => by
    show m ∈ ((M n).getD (.v n)).vars ↔ ∃ k ∈ [n], m ∈ ((M k).getD (.v k)).vars
    simp
  | .a l r => by
    show m ∈ (r.apply M).vars.foldl vstep (l.apply M).vars ↔ ∃ n ∈ r.vars.foldl vstep l.vars, _
    rw [vfold_mem, mem_apply l, mem_apply r]
    constructor
    · rintro (⟨n, h1, h2⟩ | ⟨n, h1, h2⟩)
      · exact ⟨n, (vfold_mem _ _).mpr (.inl h1), h2⟩
      · exact ⟨n, (vfold_mem _ _).mpr (.inr h1), h2⟩
    · rintro ⟨n, h1, h2⟩
      rcases (vfold_mem _ _).mp h1 with h | h
      · exact .inl ⟨n, h, h2⟩
      · exact .inr ⟨n, h, h2⟩
theorem one_at (n : Int) (y : Ty) : one n y n = some y := by unfold one updM; rw [if_pos rfl]
theorem one_ne {n m : Int} (y : Ty) (h : m ≠ n) : one n y m = none := by unfold one updM; rw [if_neg h]
theorem sub_no {n : Int} {y t : Ty} (h : n ∉ t.vars) : sub n y t = t := apply_self t (fun m hm => one_ne y (fun e => h (e ▸ hm)))
theorem sub_var (n : Int) (y : Ty) : sub n y (.v n) = y := by
  show ((one n y n).getD (.v n)) = y
  rw [one_at]; rfl
theorem mem_nodes : ∀ (t : Ty), 1 ≤ t.nodes
  | .v _ => Nat.le_refl _
  | .a l r => by show 1 ≤ 1 + l.nodes + r.nodes; omega
theorem nodes_in {M : Int → Option Ty} {n : Int} : ∀ t : Ty, n ∈ t.vars → ((M n).getD (.v n)).nodes ≤ (t.apply M).nodes ∧ (t.isVar = false → ((M n).getD (.v n)).nodes < (t.apply M).nodes)
  | .v m, h => by
    obtain rfl := List.mem_singleton.mp h
    exact ⟨Nat.le_refl _, fun h => by cases h⟩
  | .a l r, h => by
    have : ((M n).getD (.v n)).nodes < 1 + (l.apply M).nodes + (r.apply M).nodes := by
      rcases (vfold_mem r.vars l.vars).mp h with h | h
      · have := (nodes_in (M := M) l h).1; omega
      · have := (nodes_in (M := M) r h).1; omega
    exact ⟨Nat.le_of_lt this, fun _ => this⟩
theorem nodes_grow (M : Int → Option Ty) : ∀ t : Ty, t.nodes ≤ (t.apply M).nodes
  | .v n => mem_nodes _
  | .a l r => by
    have h1 := nodes_grow M l
    have h2 := nodes_grow M r
    show 1 + l.nodes + r.nodes ≤ 1 + (l.apply M).nodes + (r.apply M).nodes
    omega
theorem dep_le {M : Int → Option Ty} {D : Nat} (hD : 1 ≤ D) : ∀ t : Ty, (∀ n ∈ t.vars, ((M n).getD (.v n)).dep ≤ D) → (t.apply M).dep + 1 ≤ t.dep + D
  | .v n, h => by
    have := h n (List.mem_singleton.mpr rfl)
    show ((M n).getD (.v n)).dep + 1 ≤ 1 + D
    omega
  | .a l r, h => by
    have h1 := dep_le hD l (fun n hn => h n ((vfold_mem r.vars l.vars).mpr (.inl hn)))
    have h2 := dep_le hD r (fun n hn => h n ((vfold_mem r.vars l.vars).mpr (.inr hn)))
    show 1 + max (l.apply M).dep (r.apply M).dep + 1 ≤ 1 + max l.dep r.dep + D
    omega
theorem apply_put {n : Int} {y : Ty} {L : Lk} (hn : bnd L n = none) (t : Ty) : t.apply (bnd (putL n y L)) = sub n y (t.apply (bnd L)) := by
  refine (apply_apply (fun m => ?_) t).symm
  rw [bnd_put n y m L hn]
  by_cases e : m = n
  · subst e
    rw [if_pos rfl, hn]
    exact (sub_var m y).symm
  · rw [if_neg e]
    cases h : bnd L m with
    | none =>
      show Ty.v m = ((one n y m).getD (.v m))
      rw [one_ne y e]; rfl
    | some t => rfl

def Orig (s : Ty) : Prop := (∀ n ∈ s.vars, n ∈ V) ∧ s.dep ≤ 9
theorem Orig.left {l r : Ty} (h : Orig (.a l r)) : Orig l := ⟨fun n hn => h.1 n ((vfold_mem r.vars l.vars).mpr (.inl hn)), by have : 1 + max l.dep r.dep ≤ 9 := h.2; omega⟩
theorem Orig.right {l r : Ty} (h : Orig (.a l r)) : Orig r := ⟨fun n hn => h.1 n ((vfold_mem r.vars l.vars).mpr (.inr hn)), by have : 1 + max l.dep r.dep ≤ 9 := h.2; omega⟩
def Img (L : Lk) (t : Ty) : Prop := ∃ s, Orig s ∧ t = s.apply (bnd L) ∧ (t.isVar = false → s.isVar = false)
structure Inv0 (L : Lk) : Prop where
  keys : ∀ n t, bnd L n = some t → n ∈ V
  idem : ∀ n t m, bnd L n = some t → m ∈ t.vars → bnd L m = none
  rep : ∀ n t, bnd L n = some t → Img L t
  vin : ∀ n t m, bnd L n = some t → m ∈ t.vars → m ∈ V
structure Inv (L : Lk) : Prop extends Inv0 L where
  good : ∀ n t, bnd L n = some t → t.good = true
theorem Inv.nil : Inv [] := ⟨⟨fun n t h => (by cases h), fun n t m h => (by cases h), fun n t h => (by cases h), fun n t m h => (by cases h)⟩, fun n t h => (by cases h)⟩
theorem Inv0.free {L : Lk} (h : Inv0 L) {t : Ty} {m : Int} (hm : m ∈ (t.apply (bnd L)).vars) : bnd L m = none := by
  obtain ⟨n, _, h2⟩ := (mem_apply t).mp hm
  cases e : bnd L n with
  | none =>
    rw [e] at h2
    obtain rfl := List.mem_singleton.mp (h2 : m ∈ [n])
    exact e
  | some u =>
    rw [e] at h2
    exact h.idem n u m e h2
theorem Inv0.twice {L : Lk} (h : Inv0 L) (t : Ty) : (t.apply (bnd L)).apply (bnd L) = t.apply (bnd L) := apply_self _ (fun m hm => h.free hm)
theorem Inv0.img {L : Lk} (h : Inv0 L) {s : Ty} (hs : Orig s) : Img L (s.apply (bnd L)) := by
  cases s with
  | a l r => exact ⟨_, hs, rfl, fun _ => rfl⟩
  | v n =>
    cases e : bnd L n with
    | none =>
      refine ⟨.v n, hs, rfl, fun hv => ?_⟩
      have e2 : (Ty.v n).apply (bnd L) = .v n := by show (bnd L n).getD (.v n) = _; rw [e]; rfl
      rw [e2] at hv; cases hv
    | some t =>
      have e2 : (Ty.v n).apply (bnd L) = t := by show (bnd L n).getD (.v n) = _; rw [e]; rfl
      rw [e2]
      exact h.rep n t e
theorem filter_lt {p q : Int → Bool} (h : ∀ x, p x = true → q x = true) : ∀ (l : List Int) (u : Int), u ∈ l → q u = true → p u = false → (l.filter p).length < (l.filter q).length
  | x :: l, u, hu, hq, hp => by
    have le : ∀ l : List Int, (l.filter p).length ≤ (l.filter q).length := by
      intro l
      induction l with
      | nil => exact Nat.le_refl _
      | cons y l ih =>
        by_cases hy : p y = true
        · rw [List.filter_cons_of_pos hy, List.filter_cons_of_pos (h y hy)]; simp only [List.length_cons]; omega
        · rw [List.filter_cons_of_neg hy]
          by_cases hy2 : q y = true
          · rw [List.filter_cons_of_pos hy2]; simp only [List.length_cons]; omega
          · rw [List.filter_cons_of_neg hy2]; exact ih
    rcases List.mem_cons.mp hu with rfl | hu
    · rw [List.filter_cons_of_neg (by rw [hp]; simp), List.filter_cons_of_pos hq]
      have := le l
      simp only [List.length_cons]; omega
    · have ih := filter_lt h l u hu hq hp
      by_cases hy : p x = true
      · rw [List.filter_cons_of_pos hy, List.filter_cons_of_pos (h x hy)]; simp only [List.length_cons]; omega
      · rw [List.filter_cons_of_neg hy]
        by_cases hy2 : q x = true
        · rw [List.filter_cons_of_pos hy2]; simp only [List.length_cons]; omega
        · rw [List.filter_cons_of_neg hy2]; exact ih
def rank (L : Lk) (k : Nat) : Nat := (V.filter fun w => decide (((bnd L w).getD (.v w)).nodes < k)).length
theorem Inv0.dep_var {L : Lk} (h : Inv0 L) : ∀ (N : Nat) (u : Int), u ∈ V → ((bnd L u).getD (.v u)).nodes ≤ N → ((bnd L u).getD (.v u)).dep ≤ 9 + 8 * rank L ((bnd L u).getD (.v u)).nodes
  | 0, u, hu, hN => by have := mem_nodes ((bnd L u).getD (.v u)); omega
  | N + 1, u, hu, hN => by
    have hO : Orig (.v u) := ⟨fun n hn => by rw [List.mem_singleton.mp hn]; exact hu, by show 1 ≤ 9; omega⟩
    obtain ⟨s, hs, e, hv⟩ := h.img hO
    have e' : (bnd L u).getD (.v u) = s.apply (bnd L) := e
    by_cases hx : ((bnd L u).getD (.v u)).isVar = true
    · cases ex : (bnd L u).getD (.v u) with
      | v m => show 1 ≤ _; omega
      | a l r => rw [ex] at hx; cases hx
    have hx' := Bool.eq_false_iff.mpr hx
    have hsv : s.isVar = false := hv hx'
    obtain ⟨D, hD⟩ : ∃ D, D = 9 + 8 * rank L ((bnd L u).getD (.v u)).nodes := ⟨_, rfl⟩
    have key : ∀ n ∈ s.vars, ((bnd L n).getD (.v n)).dep + 8 ≤ D ∨ ((bnd L n).getD (.v n)).dep ≤ 1 := by
      intro n hn
      have hlt := (nodes_in (M := bnd L) s hn).2 hsv
      rw [← e'] at hlt
      have ih := Inv0.dep_var h N n (hs.1 n hn) (by omega)
      have hr : rank L ((bnd L n).getD (.v n)).nodes < rank L ((bnd L u).getD (.v u)).nodes := by
        unfold rank
        refine filter_lt (fun x hx => ?_) V n (hs.1 n hn) (decide_eq_true hlt) (decide_eq_false (by omega))
        rw [decide_eq_true_eq] at hx ⊢; omega
      left; omega
    have hD9 : 9 ≤ D := by omega
    rw [e']
    have h9 := hs.2
    by_cases h17 : 17 ≤ D
    · have := dep_le (M := bnd L) (D := D - 8) (by omega) s (fun n hn => by rcases key n hn with k | k <;> omega)
      rw [← e', ← hD]; rw [← e'] at this; omega
    · have := dep_le (M := bnd L) (D := 1) (Nat.le_refl _) s (fun n hn => by
        rcases key n hn with k | k
        · have := dep_pos ((bnd L n).getD (.v n)); omega
        · exact k)
      rw [← e', ← hD]; rw [← e'] at this; omega
theorem rank_le (L : Lk) {u : Int} (hu : u ∈ V) : rank L ((bnd L u).getD (.v u)).nodes ≤ 4 := by
  have := filter_lt (p := fun w => decide (((bnd L w).getD (.v w)).nodes < ((bnd L u).getD (.v u)).nodes)) (q := fun _ => true) (fun _ _ => rfl) V u hu rfl (decide_eq_false (by omega))
  have e : (V.filter fun _ => true).length = 5 := rfl
  unfold rank
  omega
theorem Inv0.dep {L : Lk} (h : Inv0 L) {s : Ty} (hs : Orig s) : (s.apply (bnd L)).dep ≤ 49 := by
  have := dep_le (M := bnd L) (D := 41) (by omega) s (fun n hn => by
    have h1 := h.dep_var _ n (hs.1 n hn) (Nat.le_refl _)
    have h2 := rank_le L (hs.1 n hn)
    omega)
  have := hs.2
  omega
def Im (L : Lk) (t : Ty) : Prop := (∀ n ∈ t.vars, n ∈ V) ∧ ∃ s, Orig s ∧ t.apply (bnd L) = s.apply (bnd L)
theorem Im.img {L : Lk} (hI : Inv L) {t : Ty} (h : Im L t) : Img L (t.apply (bnd L)) := by
  obtain ⟨_, s, hs, e⟩ := h
  rw [e]; exact hI.img hs
theorem Img.put {L : Lk} {n : Int} {y : Ty} (hn : bnd L n = none) (hy : n ∉ y.vars) (h : Img L y) : Img (putL n y L) y := by
  obtain ⟨s, hs, e, hv⟩ := h
  exact ⟨s, hs, by rw [apply_put hn, ← e, sub_no hy], hv⟩
theorem Im.put {L : Lk} {n : Int} {y t : Ty} (hn : bnd L n = none) (h : Im L t) : Im (putL n y L) t := by
  obtain ⟨h1, s, hs, e⟩ := h
  exact ⟨h1, s, hs, by rw [apply_put hn, apply_put hn, e]⟩
theorem put_split {L : Lk} {n : Int} (hn : bnd L n = none) (y : Ty) : ∀ k t, bnd (putL n y L) k = some t → (k = n ∧ t = y) ∨ (k ≠ n ∧ ∃ t0, bnd L k = some t0 ∧ t = sub n y t0) := by
  intro k t e
  rw [bnd_put n y k L hn] at e
  by_cases hkn : k = n
  · rw [if_pos hkn] at e; injection e with e; exact .inl ⟨hkn, e.symm⟩
  · rw [if_neg hkn] at e
    obtain ⟨t0, e1, e2⟩ := Option.map_eq_some_iff.mp e
    exact .inr ⟨hkn, t0, e1, e2.symm⟩
theorem Inv0.put {L : Lk} (h : Inv0 L) {n : Int} {y : Ty} (hV : n ∈ V) (hn : bnd L n = none) (hy : n ∉ y.vars) (hi : Img L y) (hyv : ∀ m ∈ y.vars, m ∈ V) : Inv0 (putL n y L) := by
  have free : ∀ m ∈ y.vars, bnd (putL n y L) m = none := by
    intro m hm
    obtain ⟨s, hs, e, _⟩ := hi
    have hm' := hm
    rw [e] at hm'
    have h0 := h.free hm'
    rw [bnd_put n y m L hn, if_neg (fun e1 : m = n => hy (e1 ▸ hm)), h0]; rfl
  have split := put_split hn y
  refine ⟨fun k t e => ?_, fun k t m e hm => ?_, fun k t e => ?_, fun k t m e hm => ?_⟩
  · rcases split k t e with ⟨rfl, _⟩ | ⟨_, t0, e1, _⟩
    · exact hV
    · exact h.keys k t0 e1
  · rcases split k t e with ⟨_, rfl⟩ | ⟨_, t0, e1, rfl⟩
    · exact free m hm
    · obtain ⟨j, hj, hmj⟩ := (mem_apply t0).mp hm
      by_cases ej : j = n
      · subst ej
        rw [one_at] at hmj
        exact free m hmj
      · rw [one_ne y ej] at hmj
        obtain rfl := List.mem_singleton.mp (hmj : m ∈ [j])
        rw [bnd_put n y m L hn, if_neg ej, h.idem k t0 m e1 hj]; rfl
  · rcases split k t e with ⟨_, rfl⟩ | ⟨_, t0, e1, rfl⟩
    · exact hi.put hn hy
    · obtain ⟨s, hs, es, hv⟩ := h.rep k t0 e1
      cases t0 with
      | a l r => exact ⟨s, hs, by rw [apply_put hn, ← es], fun _ => hv rfl⟩
      | v m =>
        by_cases em : m = n
        · subst em
          rw [sub_var]
          exact hi.put hn hy
        · refine ⟨s, hs, by rw [apply_put hn, ← es], fun hf => ?_⟩
          rw [sub_no (by simp [Ty.vars]; exact fun h => em h.symm)] at hf
          cases hf
  · rcases split k t e with ⟨_, rfl⟩ | ⟨_, t0, e1, rfl⟩
    · exact hyv m hm
    · obtain ⟨j, hj, hmj⟩ := (mem_apply t0).mp hm
      by_cases ej : j = n
      · subst ej
        rw [one_at] at hmj
        exact hyv m hmj
      · rw [one_ne y ej] at hmj
        obtain rfl := List.mem_singleton.mp (hmj : m ∈ [j])
        exact h.vin k t0 m e1 hj
theorem Inv.put {L : Lk} (h : Inv L) {n : Int} {y : Ty} (hV : n ∈ V) (hn : bnd L n = none) (hy : n ∉ y.vars) (hi : Img L y) (hg : y.good = true) (hk : keeps n y L) (hyv : ∀ m ∈ y.vars, m ∈ V) : Inv (putL n y L) := ⟨h.toInv0.put hV hn hy hi hyv, fun k t e => by
  rcases put_split hn y k t e with ⟨_, rfl⟩ | ⟨_, t0, e1, rfl⟩
  · exact hg
  · exact hk k t0 e1⟩
theorem same_iff : ∀ t u : Ty, t.same u = true ↔ t = u
  | .v n, .v m => by
    show (n == m) = true ↔ _
    rw [beq_iff_eq]
    exact ⟨fun h => by rw [h], fun h => by injection h⟩
  | .a l r, .a l' r' => by
    show (l.same l' && r.same r') = true ↔ _
    rw [Bool.and_eq_true, same_iff l l', same_iff r r']
    exact ⟨fun h => by rw [h.1, h.2], fun h => by injection h with a b; exact ⟨a, b⟩⟩
  | .v n, .a l r => ⟨fun h => (by cases h), fun h => (by cases h)⟩
  | .a l r, .v n => ⟨fun h => (by cases h), fun h => (by cases h)⟩
theorem turn_cases (x y : Ty) : (turn x y = .fail) ∨ (turn x y = .skip ∧ x = y ∧ x.good = true) ∨ (∃ n z, turn x y = .bind n z ∧ n ∉ z.vars ∧ x.good = true ∧ y.good = true ∧ ((x = .v n ∧ y = z) ∨ (y = .v n ∧ x = z))) ∨ (∃ l r l' r', turn x y = .split l l' r r' ∧ x.good = true ∧ y.good = true ∧ x = .a l r ∧ y = .a l' r') ∨
    (∃ l r l' r', turn x y = .split l l' r r' ∧ x.good = true ∧ y.good = true ∧ y = .a l r ∧ x = .a l' r') := by
  unfold turn
  by_cases gx : x.good = true
  case neg => rw [if_neg gx]; exact .inl rfl
  by_cases gy : y.good = true
  case neg => rw [if_pos gx, if_neg gy]; exact .inl rfl
  rw [if_pos gx, if_pos gy]
  have main : ∀ a b : Ty, ((a = x ∧ b = y) ∨ (a = y ∧ b = x)) → (turn2 a b = .fail) ∨ (turn2 a b = .skip ∧ x = y ∧ x.good = true) ∨ (∃ n z, turn2 a b = .bind n z ∧ n ∉ z.vars ∧ x.good = true ∧ y.good = true ∧ ((x = .v n ∧ y = z) ∨ (y = .v n ∧ x = z))) ∨ (∃ l r l' r', turn2 a b = .split l l' r r' ∧ x.good = true ∧ y.good = true ∧ x = .a l r ∧ y = .a l' r') ∨ (∃ l r l' r', turn2 a b = .split l l' r r' ∧ x.good = true ∧ y.good = true ∧ y = .a l r ∧ x = .a l' r') := by
    intro a b hab
    by_cases hs : a.same b = true
    · have e := (same_iff a b).mp hs
      refine .inr (.inl ⟨turn2_same hs, ?_, gx⟩)
      rcases hab with ⟨rfl, rfl⟩ | ⟨rfl, rfl⟩
      · exact e
      · exact e.symm
    have hs' := Bool.eq_false_iff.mpr hs
    cases a with
    | v n =>
      by_cases m : n ∈ b.vars
      · exact .inl (turn2_in hs' m)
      · refine .inr (.inr (.inl ⟨n, b, turn2_bind hs' m, m, gx, gy, ?_⟩))
        rcases hab with ⟨h1, h2⟩ | ⟨h1, h2⟩
        · exact .inl ⟨h1.symm, h2.symm⟩
        · exact .inr ⟨h1.symm, h2.symm⟩
    | a l r =>
      cases b with
      | v m => exact .inl (turn2_arr hs')
      | a l' r' =>
        rcases hab with ⟨h1, h2⟩ | ⟨h1, h2⟩
        · exact .inr (.inr (.inr (.inl ⟨l, r, l', r', turn2_split hs', gx, gy, h1.symm, h2.symm⟩)))
        · exact .inr (.inr (.inr (.inr ⟨l, r, l', r', turn2_split hs', gx, gy, h1.symm, h2.symm⟩)))
  rcases swp_cases x y with e | e
  · rw [e]; exact main x y (.inl ⟨rfl, rfl⟩)
  · rw [e]; exact main y x (.inr ⟨rfl, rfl⟩)
theorem Inv0.vars {L : Lk} (h : Inv0 L) {t : Ty} (ht : ∀ n ∈ t.vars, n ∈ V) : ∀ m ∈ (t.apply (bnd L)).vars, m ∈ V := by
  intro m hm
  obtain ⟨j, hj, hmj⟩ := (mem_apply t).mp hm
  cases e : bnd L j with
  | none =>
    rw [e] at hmj
    obtain rfl := List.mem_singleton.mp (hmj : m ∈ [j])
    exact ht m hj
  | some u =>
    rw [e] at hmj
    exact h.vin j u m e hmj
theorem V_lim {n : Int} (h : n ∈ V) : 0 ≤ n ∧ n ≤ 999 := by
  unfold V at h
  simp only [List.mem_cons, List.mem_nil_iff, or_false] at h
  omega
theorem V_ok {t : Ty} (h : ∀ n ∈ t.vars, n ∈ V) : t.lim := (lim_vars t).mpr fun n hn => V_lim (h n hn)
theorem Inv.nodes {L : Lk} (h : Inv L) {t : Ty} (ht : Im L t) : (t.apply (bnd L)).nodes ≤ 200 * 512 := by
  obtain ⟨_, s, hs, e⟩ := ht
  rw [e]
  have h1 := apply_nodes_le (M := bnd L) (fun n u hu => good_nodes (h.good n u hu)) s
  have h2 := nodes_dep s
  have h3 : 2 ^ s.dep ≤ 2 ^ 9 := Nat.pow_le_pow_right (by omega) hs.2
  omega
theorem Inv.deep {L : Lk} (h : Inv L) {t : Ty} (ht : Im L t) : (t.apply (bnd L)).dep ≤ 49 := by
  obtain ⟨_, s, hs, e⟩ := ht
  rw [e]; exact h.dep hs
theorem Im.parts {L : Lk} (hI : Inv L) {t l r : Ty} (h : Im L t) (e : t.apply (bnd L) = .a l r) : (Im L l ∧ l.apply (bnd L) = l) ∧ (Im L r ∧ r.apply (bnd L) = r) := by
  have hv := hI.vars h.1
  rw [e] at hv
  obtain ⟨s, hs, es, ha⟩ := h.img hI
  rw [e] at es ha
  have hsv := ha rfl
  cases s with
  | v n => cases hsv
  | a s1 s2 =>
    have e1 : Ty.a l r = .a (s1.apply (bnd L)) (s2.apply (bnd L)) := es
    injection e1 with e1 e2
    have t1 : l.apply (bnd L) = l := by rw [e1]; exact hI.twice s1
    have t2 : r.apply (bnd L) = r := by rw [e2]; exact hI.twice s2
    exact ⟨⟨⟨fun n hn => hv n ((vfold_mem r.vars l.vars).mpr (.inl hn)), s1, hs.left, t1.trans e1⟩, t1⟩, ⟨⟨fun n hn => hv n ((vfold_mem r.vars l.vars).mpr (.inr hn)), s2, hs.right, t2.trans e2⟩, t2⟩⟩
def ub (L : Lk) : Nat := (V.filter fun w => (bnd L w).isNone).length
theorem ub_put {L : Lk} {n : Int} {y : Ty} (hV : n ∈ V) (hn : bnd L n = none) : ub (putL n y L) < ub L := by
  unfold ub
  refine filter_lt (fun x hx => ?_) V n hV (by rw [hn]; rfl) (by rw [bnd_put n y n L hn, if_pos rfl]; rfl)
  rw [bnd_put n y x L hn] at hx
  by_cases e : x = n
  · rw [e, hn]; rfl
  · rw [if_neg e] at hx
    cases h : bnd L x with
    | none => rfl
    | some t => rw [h] at hx; cases hx
def QI (L : Lk) (q : List (Ty × Ty)) : Prop := ∀ p ∈ q, Im L p.1 ∧ Im L p.2
theorem QI.put {L : Lk} {n : Int} {y : Ty} {q : List (Ty × Ty)} (hn : bnd L n = none) (h : QI L q) : QI (putL n y L) q := fun p hp => ⟨(h p hp).1.put hn, (h p hp).2.put hn⟩
theorem fit_of {L : Lk} (hI : Inv L) {a b : Ty} {q : List (Ty × Ty)} (ha : Im L a) (hb : Im L b) (hq : q.length ≤ 1000000) (hL : L.length ≤ 1000000) : Fit a b q L :=
  ⟨hq, hL, ⟨lim_ok a (V_ok ha.1), Nat.le_trans (hI.nodes ha) (by omega)⟩, ⟨lim_ok b (V_ok hb.1), Nat.le_trans (hI.nodes hb) (by omega)⟩, fun k t e => ⟨lim_ok t ((good_iff t).mp (hI.good k t e)).2.2, good_nodes (hI.good k t e)⟩, fun k t e => by
    have := V_lim (hI.keys k t e)
    exact ⟨by omega, by omega⟩⟩
theorem bind_of {L : Lk} (hI : Inv L) {a b z : Ty} {n : Int} (ha : Im L a) (hb : Im L b) (hz : n ∉ z.vars) (hg : (a.apply (bnd L)).good = true) (hg2 : (b.apply (bnd L)).good = true) (h : (a.apply (bnd L) = .v n ∧ b.apply (bnd L) = z) ∨ (b.apply (bnd L) = .v n ∧ a.apply (bnd L) = z)) :
    n ∈ V ∧ bnd L n = none ∧ Img L z ∧ z.good = true ∧ ∀ m ∈ z.vars, m ∈ V := by
  rcases h with ⟨h1, h2⟩ | ⟨h1, h2⟩
  · have hm : n ∈ (a.apply (bnd L)).vars := by rw [h1]; exact List.mem_singleton.mpr rfl
    exact ⟨hI.vars ha.1 n hm, hI.free hm, h2 ▸ hb.img hI, h2 ▸ hg2, h2 ▸ hI.vars hb.1⟩
  · have hm : n ∈ (b.apply (bnd L)).vars := by rw [h1]; exact List.mem_singleton.mpr rfl
    exact ⟨hI.vars hb.1 n hm, hI.free hm, h2 ▸ ha.img hI, h2 ▸ hg, h2 ▸ hI.vars ha.1⟩
theorem ends_pair {L : Lk} (hI : Inv L) (B : Nat) (hB : B ≤ 900000) (hL : L.length ≤ 1000000)
    (hbind : ∀ n z q, n ∈ V → bnd L n = none → Inv (putL n z L) → QI (putL n z L) q → q.length ≤ B → ∃ k r, uni k q (putL n z L) = some r) :
    ∀ (N : Nat) (a b : Ty) (q : List (Ty × Ty)), Im L a → Im L b → QI L q → (a.apply (bnd L)).nodes + (b.apply (bnd L)).nodes ≤ N → q.length ≤ B → ((a.apply (bnd L)).good = true → (b.apply (bnd L)).good = true → q.length + (a.apply (bnd L)).nodes + (b.apply (bnd L)).nodes ≤ B) → (∃ k r, uni k q L = some r) → ∃ k r, uni k ((a, b) :: q) L = some r := by
  intro N
  induction N with
  | zero =>
    intro a b q ha hb hQ hN
    have := mem_nodes (a.apply (bnd L)); omega
  | succ N ih =>
    intro a b q ha hb hQ hN hlen hC ⟨k, r, hk⟩
    have hf := fit_of hI ha hb (q := q) (by omega) hL
    have two : ∀ l s l' s' : Ty, turn (a.apply (bnd L)) (b.apply (bnd L)) = .split l l' s s' → (a.apply (bnd L)).good = true → (b.apply (bnd L)).good = true →
        (Im L l ∧ l.apply (bnd L) = l) → (Im L s ∧ s.apply (bnd L) = s) → (Im L l' ∧ l'.apply (bnd L) = l') → (Im L s' ∧ s'.apply (bnd L) = s') → (a.apply (bnd L)).nodes + (b.apply (bnd L)).nodes = 2 + l.nodes + s.nodes + l'.nodes + s'.nodes → ∃ k r, uni k ((a, b) :: q) L = some r := by
      intro l s l' s' h g1 g2 il is il' is' hS
      have hc := hC g1 g2
      have m1 := mem_nodes l
      have m2 := mem_nodes l'
      have m3 := mem_nodes s
      have m4 := mem_nodes s'
      obtain ⟨k1, r1, h1⟩ := ih s s' q is.1 is'.1 hQ (by rw [is.2, is'.2]; omega) hlen (fun _ _ => by rw [is.2, is'.2]; omega) ⟨k, r, hk⟩
      obtain ⟨k2, r2, h2⟩ := ih l l' ((s, s') :: q) il.1 il'.1 (fun p hp => by
        rcases List.mem_cons.mp hp with rfl | hp
        · exact ⟨is.1, is'.1⟩
        · exact hQ p hp) (by rw [il.2, il'.2]; omega) (by rw [List.length_cons]; omega) (fun _ _ => by rw [il.2, il'.2, List.length_cons]; omega) ⟨k1, r1, h1⟩
      exact ⟨k2 + 1, r2, by rw [uni_split hf h]; exact h2⟩
    rcases turn_cases (a.apply (bnd L)) (b.apply (bnd L)) with h | ⟨h, _, _⟩ | ⟨n, z, h, h1, h2, h3, h4⟩ | ⟨l, s, l', s', h, g1, g2, h1, h2⟩ | ⟨l, s, l', s', h, g1, g2, h2, h1⟩
    · exact ⟨1, none, uni_fail hf h⟩
    · exact ⟨k + 1, r, by rw [uni_skip hf h]; exact hk⟩
    · obtain ⟨b1, b2, b3, b4, b5⟩ := bind_of hI ha hb h1 h2 h3 h4
      by_cases hkp : keeps n z L
      · obtain ⟨k', r', hk'⟩ := hbind n z q b1 b2 (hI.put b1 b2 h1 b3 b4 hkp b5) (hQ.put b2) hlen
        exact ⟨k' + 1, r', by rw [uni_bind hf h b2 hkp]; exact hk'⟩
      · exact ⟨1, none, uni_loses hf h b2 hkp⟩
    · obtain ⟨p1, p2⟩ := ha.parts hI h1
      obtain ⟨p3, p4⟩ := hb.parts hI h2
      exact two l s l' s' h g1 g2 p1 p2 p3 p4 (by rw [h1, h2]; show 1 + l.nodes + s.nodes + (1 + l'.nodes + s'.nodes) = _; omega)
    · obtain ⟨p1, p2⟩ := hb.parts hI h2
      obtain ⟨p3, p4⟩ := ha.parts hI h1
      exact two l s l' s' h g1 g2 p1 p2 p3 p4 (by rw [h1, h2]; show 1 + l'.nodes + s'.nodes + (1 + l.nodes + s.nodes) = _; omega)
theorem ends_row {L : Lk} (hI : Inv L) (B : Nat) (hB : B ≤ 900000) (hL : L.length ≤ 1000000)
    (hbind : ∀ n z q, n ∈ V → bnd L n = none → Inv (putL n z L) → QI (putL n z L) q → q.length ≤ B → ∃ k r, uni k q (putL n z L) = some r) :
    ∀ q : List (Ty × Ty), QI L q → q.length + 400 ≤ B → ∃ k r, uni k q L = some r
  | [], _, _ => ⟨1, some L, uni_nil⟩
  | (a, b) :: q, hQ, hlen => by
    have hlen' : q.length + 1 + 400 ≤ B := hlen
    have hp := hQ (a, b) (List.mem_cons_self ..)
    have hQ' : QI L q := fun p h => hQ p (List.mem_cons_of_mem _ h)
    exact ends_pair hI B hB hL hbind _ a b q hp.1 hp.2 hQ' (Nat.le_refl _) (by omega) (fun g1 g2 => by
      have := good_nodes g1
      have := good_nodes g2
      omega) (ends_row hI B hB hL hbind q hQ' (by omega))
set_option maxRecDepth 10000 in
theorem ends : ∀ (c : Nat) (L : Lk) (q : List (Ty × Ty)), Inv L → QI L q → ub L ≤ c → L.length + ub L ≤ 5 → q.length + 400 * (c + 1) ≤ 4000 → ∃ k r, uni k q L = some r := by
  intro c
  induction c with
  | zero =>
    intro L q hI hQ hc hL hq
    refine ends_row hI 4000 (by omega) (by omega) (fun n z q' hV hn _ _ _ => ?_) q hQ (by omega)
    have := ub_put (y := z) hV hn
    omega
  | succ c ih =>
    intro L q hI hQ hc hL hq
    obtain ⟨B, hB⟩ : ∃ B, B + 400 * (c + 1) = 4000 := ⟨4000 - 400 * (c + 1), by omega⟩
    refine ends_row hI B (by omega) (by omega) (fun n z q' hV hn hI' hQ' hq' => ?_) q hQ (by omega)
    have := ub_put (y := z) hV hn
    exact ih (putL n z L) q' hI' hQ' (by omega) (by rw [putL_len]; omega) (by omega)
theorem ends_one {x y : Ty} (hx : Orig x) (hy : Orig y) : ∃ k r, uni k [(x, y)] [] = some r := by
  have hu : ub [] = 5 := rfl
  refine ends 5 [] [(x, y)] Inv.nil (fun p hp => ?_) (by omega) (by rw [hu]; exact Nat.le_refl 5) (by rw [List.length_singleton]; omega)
  obtain rfl : p = (x, y) := List.mem_singleton.mp hp
  exact ⟨⟨hx.1, x, hx, Eq.refl _⟩, ⟨hy.1, y, hy, Eq.refl _⟩⟩
theorem split_inv {L : Lk} (hI : Inv L) {a b l s l' s' : Ty} {q : List (Ty × Ty)} (ha : Im L a) (hb : Im L b) (hQ : QI L q) (h : (a.apply (bnd L) = .a l s ∧ b.apply (bnd L) = .a l' s') ∨ (b.apply (bnd L) = .a l s ∧ a.apply (bnd L) = .a l' s')) :
    QI L ((l, l') :: (s, s') :: q) ∧ (l.apply (bnd L) = l ∧ s.apply (bnd L) = s) ∧ (l'.apply (bnd L) = l' ∧ s'.apply (bnd L) = s') := by
  have key : ∀ a b : Ty, Im L a → Im L b → a.apply (bnd L) = .a l s → b.apply (bnd L) = .a l' s' → QI L ((l, l') :: (s, s') :: q) ∧ (l.apply (bnd L) = l ∧ s.apply (bnd L) = s) ∧ (l'.apply (bnd L) = l' ∧ s'.apply (bnd L) = s') := by
    intro a b ha hb h1 h2
    obtain ⟨p1, p2⟩ := ha.parts hI h1
    obtain ⟨p3, p4⟩ := hb.parts hI h2
    refine ⟨fun p hp => ?_, ⟨p1.2, p2.2⟩, ⟨p3.2, p4.2⟩⟩
    rcases List.mem_cons.mp hp with rfl | hp
    · exact ⟨p1.1, p3.1⟩
    rcases List.mem_cons.mp hp with rfl | hp
    · exact ⟨p2.1, p4.1⟩
    · exact hQ p hp
  rcases h with ⟨h1, h2⟩ | ⟨h1, h2⟩
  · exact key a b ha hb h1 h2
  · exact key b a hb ha h1 h2
def Ext (L L' : Lk) : Prop := ∀ t u : Ty, t.apply (bnd L) = u.apply (bnd L) → t.apply (bnd L') = u.apply (bnd L')
theorem ext_put {L : Lk} {n : Int} {y : Ty} (hn : bnd L n = none) : Ext L (putL n y L) := fun t u h => by rw [apply_put hn, apply_put hn, h]
theorem uni_same : ∀ (k : Nat) (q : List (Ty × Ty)) (L L' : Lk), Inv L → QI L q → uni k q L = some (some L') → Inv L' ∧ Ext L L' ∧ ∀ p ∈ q, p.1.apply (bnd L') = p.2.apply (bnd L')
  | 0, q, L, L', hI, hQ, h => by simp [uni] at h
  | k + 1, [], L, L', hI, hQ, h => by
    rw [uni_nil] at h
    obtain rfl := Option.some.inj (Option.some.inj h)
    exact ⟨hI, fun t u h => h, fun p hp => by simp at hp⟩
  | k + 1, (a, b) :: q, L, L', hI, hQ, h => by
    have hf := uni_fit h
    have hp := hQ (a, b) (List.mem_cons_self ..)
    have ha : Im L a := hp.1
    have hb : Im L b := hp.2
    have hQ' : QI L q := fun p h => hQ p (List.mem_cons_of_mem _ h)
    rcases turn_cases (a.apply (bnd L)) (b.apply (bnd L)) with ht | ⟨ht, e, _⟩ | ⟨n, z, ht, h1, h2, h3, h4⟩ | ⟨l, s, l', s', ht, g1, g2, h1, h2⟩ | ⟨l, s, l', s', ht, g1, g2, h1, h2⟩
    · rw [uni_fail hf ht] at h; cases h
    · rw [uni_skip hf ht] at h
      obtain ⟨r1, r2, r3⟩ := uni_same k q L L' hI hQ' h
      refine ⟨r1, r2, fun p hp => ?_⟩
      rcases List.mem_cons.mp hp with rfl | hp
      · exact r2 a b e
      · exact r3 p hp
    · obtain ⟨b1, b2, b3, b4, b5⟩ := bind_of hI ha hb h1 h2 h3 h4
      by_cases hkp : keeps n z L
      · rw [uni_bind hf ht b2 hkp] at h
        obtain ⟨r1, r2, r3⟩ := uni_same k q (putL n z L) L' (hI.put b1 b2 h1 b3 b4 hkp b5) (hQ'.put b2) h
        refine ⟨r1, fun t u e => r2 t u (ext_put b2 t u e), fun p hp => ?_⟩
        rcases List.mem_cons.mp hp with rfl | hp
        · refine r2 a b ?_
          rw [apply_put b2, apply_put b2]
          rcases h4 with ⟨e1, e2⟩ | ⟨e1, e2⟩
          · rw [e1, e2, sub_var, sub_no h1]
          · rw [e1, e2, sub_var, sub_no h1]
        · exact r3 p hp
      · rw [uni_loses hf ht b2 hkp] at h; cases h
    · rw [uni_split hf ht] at h
      obtain ⟨p1, p2, p3⟩ := split_inv hI ha hb hQ' (.inl ⟨h1, h2⟩)
      obtain ⟨r1, r2, r3⟩ := uni_same k _ L L' hI p1 h
      refine ⟨r1, r2, fun p hp => ?_⟩
      rcases List.mem_cons.mp hp with rfl | hp
      · have e1 := r3 (l, l') (List.mem_cons_self ..)
        have e2 := r3 (s, s') (List.mem_cons_of_mem _ (List.mem_cons_self ..))
        have f1 : a.apply (bnd L') = (Ty.a l s).apply (bnd L') := r2 a _ (by rw [h1]; show _ = Ty.a _ _; rw [p2.1, p2.2])
        have f2 : b.apply (bnd L') = (Ty.a l' s').apply (bnd L') := r2 b _ (by rw [h2]; show _ = Ty.a _ _; rw [p3.1, p3.2])
        show a.apply (bnd L') = b.apply (bnd L')
        rw [f1, f2]
        show Ty.a _ _ = Ty.a _ _
        rw [show l.apply (bnd L') = l'.apply (bnd L') from e1, show s.apply (bnd L') = s'.apply (bnd L') from e2]
      · exact r3 p (List.mem_cons_of_mem _ (List.mem_cons_of_mem _ hp))
    · rw [uni_split hf ht] at h
      obtain ⟨p1, p2, p3⟩ := split_inv hI ha hb hQ' (.inr ⟨h1, h2⟩)
      obtain ⟨r1, r2, r3⟩ := uni_same k _ L L' hI p1 h
      refine ⟨r1, r2, fun p hp => ?_⟩
      rcases List.mem_cons.mp hp with rfl | hp
      · have e1 := r3 (l, l') (List.mem_cons_self ..)
        have e2 := r3 (s, s') (List.mem_cons_of_mem _ (List.mem_cons_self ..))
        have f1 : b.apply (bnd L') = (Ty.a l s).apply (bnd L') := r2 b _ (by rw [h1]; show _ = Ty.a _ _; rw [p2.1, p2.2])
        have f2 : a.apply (bnd L') = (Ty.a l' s').apply (bnd L') := r2 a _ (by rw [h2]; show _ = Ty.a _ _; rw [p3.1, p3.2])
        show a.apply (bnd L') = b.apply (bnd L')
        rw [f1, f2]
        show Ty.a _ _ = Ty.a _ _
        rw [show l.apply (bnd L') = l'.apply (bnd L') from e1, show s.apply (bnd L') = s'.apply (bnd L') from e2]
      · exact r3 p (List.mem_cons_of_mem _ (List.mem_cons_of_mem _ hp))
theorem turn_fail {x y : Ty} (h : turn x y = .fail) (gx : x.good = true) (gy : y.good = true) : ∃ n z, ((x = .v n ∧ y = z) ∨ (y = .v n ∧ x = z)) ∧ n ∈ z.vars ∧ z.isVar = false := by
  unfold turn at h
  rw [if_pos gx, if_pos gy] at h
  cases x with
  | v n =>
    by_cases m : n ∈ y.vars
    · cases y with
      | a l r => exact ⟨n, _, .inl ⟨rfl, rfl⟩, m, rfl⟩
      | v k =>
        have : n = k := by simpa [Ty.vars] using m
        subst this
        rw [swp_in m, turn2_same (same_refl _)] at h
        cases h
    · rw [swp_out m, turn2_bind (Bool.eq_false_iff.mpr (fun e => m (by rw [← (same_iff _ _).mp e]; exact List.mem_singleton.mpr rfl))) m] at h
      cases h
  | a l r =>
    cases y with
    | v k =>
      by_cases m : k ∈ (Ty.a l r).vars
      · exact ⟨k, _, .inr ⟨rfl, rfl⟩, m, rfl⟩
      · rw [swp_arr_out m, turn2_bind rfl m] at h
        cases h
    | a l' r' =>
      rw [swp_arr] at h
      by_cases e : (Ty.a l r).same (.a l' r') = true
      · rw [turn2_same e] at h; cases h
      · rw [turn2_split (Bool.eq_false_iff.mpr e)] at h; cases h
theorem dep_grow (M : Int → Option Ty) : ∀ t : Ty, t.dep ≤ (t.apply M).dep
  | .v n => dep_pos _
  | .a l r => by
    have h1 := dep_grow M l
    have h2 := dep_grow M r
    show 1 + max l.dep r.dep ≤ 1 + max (l.apply M).dep (r.apply M).dep
    omega
theorem two_pairs {M : Int → Option Ty} {l s l' s' : Ty} {q : List (Ty × Ty)} (ex : (Ty.a l s).apply M = (Ty.a l' s').apply M) (en : ((Ty.a l s).apply M).nodes ≤ 200 ∧ ((Ty.a l s).apply M).dep ≤ 60) (hq : ∀ p ∈ q, p.1.apply M = p.2.apply M ∧ (p.1.apply M).nodes ≤ 200 ∧ (p.1.apply M).dep ≤ 60) :
    ∀ p ∈ (l, l') :: (s, s') :: q, p.1.apply M = p.2.apply M ∧ (p.1.apply M).nodes ≤ 200 ∧ (p.1.apply M).dep ≤ 60 := by
  have ex' : Ty.a (l.apply M) (s.apply M) = Ty.a (l'.apply M) (s'.apply M) := ex
  injection ex' with x1 x2
  have n1 : 1 + (l.apply M).nodes + (s.apply M).nodes ≤ 200 := en.1
  have n2 : 1 + max (l.apply M).dep (s.apply M).dep ≤ 60 := en.2
  intro p hp
  rcases List.mem_cons.mp hp with rfl | hp
  · exact ⟨x1, by show (l.apply M).nodes ≤ 200; omega, by show (l.apply M).dep ≤ 60; omega⟩
  rcases List.mem_cons.mp hp with rfl | hp
  · exact ⟨x2, by show (s.apply M).nodes ≤ 200; omega, by show (s.apply M).dep ≤ 60; omega⟩
  · exact hq p hp
theorem uni_most {M : Int → Option Ty} (hM : ∀ n, ((M n).getD (.v n)).nodes ≤ 200 ∧ ((M n).getD (.v n)).dep ≤ 60) : ∀ (k : Nat) (q : List (Ty × Ty)) (L : Lk) (r : Option Lk), Inv L → QI L q → (∀ t : Ty, (t.apply (bnd L)).apply M = t.apply M) → (∀ p ∈ q, p.1.apply M = p.2.apply M ∧ (p.1.apply M).nodes ≤ 200 ∧ (p.1.apply M).dep ≤ 60) → uni k q L = some r → ∃ L', r = some L' ∧ ∀ t : Ty, (t.apply (bnd L')).apply M = t.apply M
  | 0, q, L, r, hI, hQ, hR, hq, h => by simp [uni] at h
  | k + 1, [], L, r, hI, hQ, hR, hq, h => by
    rw [uni_nil] at h
    exact ⟨L, (Option.some.inj h).symm, hR⟩
  | k + 1, (a, b) :: q, L, r, hI, hQ, hR, hq, h => by
    have hf := uni_fit h
    have hp := hQ (a, b) (List.mem_cons_self ..)
    have ha : Im L a := hp.1
    have hb : Im L b := hp.2
    have hQ' : QI L q := fun p h => hQ p (List.mem_cons_of_mem _ h)
    have hq' : ∀ p ∈ q, p.1.apply M = p.2.apply M ∧ (p.1.apply M).nodes ≤ 200 ∧ (p.1.apply M).dep ≤ 60 := fun p h => hq p (List.mem_cons_of_mem _ h)
    obtain ⟨e0, e1, e2⟩ : a.apply M = b.apply M ∧ (a.apply M).nodes ≤ 200 ∧ (a.apply M).dep ≤ 60 := hq (a, b) (List.mem_cons_self ..)
    have good : ∀ t : Ty, (∀ n ∈ t.vars, n ∈ V) → (t.apply M).nodes ≤ 200 → (t.apply M).dep ≤ 60 → t.good = true := fun t hv h1 h2 =>
      (good_iff t).mpr ⟨Nat.le_trans (nodes_grow M t) h1, Nat.le_trans (dep_grow M t) h2, V_ok hv⟩
    have ga := good _ (hI.vars ha.1) (by rw [hR]; exact e1) (by rw [hR]; exact e2)
    have gb := good _ (hI.vars hb.1) (by rw [hR, ← e0]; exact e1) (by rw [hR, ← e0]; exact e2)
    have exy : (a.apply (bnd L)).apply M = (b.apply (bnd L)).apply M := by rw [hR, hR, e0]
    rcases turn_cases (a.apply (bnd L)) (b.apply (bnd L)) with ht | ⟨ht, e, _⟩ | ⟨n, z, ht, h1, h2, h3, h4⟩ | ⟨l, s, l', s', ht, g1, g2, h1, h2⟩ | ⟨l, s, l', s', ht, g1, g2, h1, h2⟩
    · exfalso
      obtain ⟨n, z, hz, hm, hv⟩ := turn_fail ht ga gb
      have e3 : (M n).getD (.v n) = z.apply M := by
        rcases hz with ⟨p1, p2⟩ | ⟨p1, p2⟩
        · rw [p1, p2] at exy; exact exy
        · rw [p1, p2] at exy; exact exy.symm
      have := (nodes_in (M := M) z hm).2 hv
      rw [e3] at this; omega
    · rw [uni_skip hf ht] at h
      exact uni_most hM k q L r hI hQ' hR hq' h
    · obtain ⟨b1, b2, b3, b4, b5⟩ := bind_of hI ha hb h1 h2 h3 h4
      have e3 : (M n).getD (.v n) = z.apply M := by
        rcases h4 with ⟨p1, p2⟩ | ⟨p1, p2⟩
        · rw [p1, p2] at exy; exact exy
        · rw [p1, p2] at exy; exact exy.symm
      have hs : ∀ u : Ty, (sub n z u).apply M = u.apply M := fun u => apply_apply (fun m => by
        by_cases em : m = n
        · subst em; rw [one_at]; exact e3
        · rw [one_ne z em]; rfl) u
      have hkp : keeps n z L := fun j t ej => by
        have hjt : (M j).getD (.v j) = t.apply M := by
          have := hR (.v j)
          have e5 : (Ty.v j).apply (bnd L) = t := by show (bnd L j).getD (.v j) = t; rw [ej]; rfl
          rw [e5] at this; exact this.symm
        refine good _ (fun m hm => ?_) (by rw [hs, ← hjt]; exact (hM j).1) (by rw [hs, ← hjt]; exact (hM j).2)
        obtain ⟨i, hi, hmi⟩ := (mem_apply t).mp hm
        by_cases ei : i = n
        · subst ei; rw [one_at] at hmi; exact b5 m hmi
        · rw [one_ne z ei] at hmi
          obtain rfl := List.mem_singleton.mp (hmi : m ∈ [i])
          exact hI.vin j t m ej hi
      rw [uni_bind hf ht b2 hkp] at h
      exact uni_most hM k q (putL n z L) r (hI.put b1 b2 h1 b3 b4 hkp b5) (hQ'.put b2) (fun t => by rw [apply_put b2, hs, hR]) hq' h
    · rw [uni_split hf ht] at h
      have ex : (Ty.a l s).apply M = (Ty.a l' s').apply M := by rw [← h1, ← h2]; exact exy
      have en : ((Ty.a l s).apply M).nodes ≤ 200 ∧ ((Ty.a l s).apply M).dep ≤ 60 := by rw [← h1, hR]; exact ⟨e1, e2⟩
      exact uni_most hM k _ L r hI (split_inv hI ha hb hQ' (.inl ⟨h1, h2⟩)).1 hR (two_pairs ex en hq') h
    · rw [uni_split hf ht] at h
      have ex : (Ty.a l s).apply M = (Ty.a l' s').apply M := by rw [← h1, ← h2]; exact exy.symm
      have en : ((Ty.a l s).apply M).nodes ≤ 200 ∧ ((Ty.a l s).apply M).dep ≤ 60 := by rw [← h1, hR, ← e0]; exact ⟨e1, e2⟩
      exact uni_most hM k _ L r hI (split_inv hI ha hb hQ' (.inr ⟨h1, h2⟩)).1 hR (two_pairs ex en hq') h
def Rise : Lk → Prop
  | [] => True
  | p :: L => (∀ q ∈ L, p.1 < q.1) ∧ Rise L
theorem putL_all {P : Int → Prop} (n : Int) (y : Ty) : ∀ L : Lk, P n → (∀ p ∈ L, P p.1) → ∀ p ∈ putL n y L, P p.1
  | [], h1, h2, p, hp => by rw [List.mem_singleton.mp (hp : p ∈ [(n, y)])]; exact h1
  | (v, t) :: L, h1, h2, p, hp => by
    unfold putL at hp
    by_cases c : n < v
    · rw [if_pos c] at hp
      rcases List.mem_cons.mp hp with rfl | hp
      · exact h1
      rcases List.mem_cons.mp hp with rfl | hp
      · exact h2 (v, t) (List.mem_cons_self ..)
      · obtain ⟨s, hs, rfl⟩ := List.mem_map.mp hp
        exact h2 s (List.mem_cons_of_mem _ hs)
    · rw [if_neg c] at hp
      rcases List.mem_cons.mp hp with rfl | hp
      · exact h2 (v, t) (List.mem_cons_self ..)
      · exact putL_all n y L h1 (fun p hp => h2 p (List.mem_cons_of_mem _ hp)) p hp
theorem rise_sub (n : Int) (y : Ty) : ∀ L : Lk, Rise L → Rise (subL n y L)
  | [], h => h
  | p :: L, h => ⟨fun q hq => by
      obtain ⟨s, hs, rfl⟩ := List.mem_map.mp hq
      exact h.1 s hs, rise_sub n y L h.2⟩
theorem rise_put (n : Int) (y : Ty) : ∀ L : Lk, Rise L → bnd L n = none → Rise (putL n y L)
  | [], h, _ => ⟨fun q hq => by simp at hq, trivial⟩
  | (v, t) :: L, h, hn => by
    have h' : (if v = n then some t else bnd L n) = none := hn
    have hv : v ≠ n := fun e => by rw [if_pos e] at h'; cases h'
    rw [if_neg hv] at h'
    unfold putL
    by_cases c : n < v
    · rw [if_pos c]
      refine ⟨fun q hq => ?_, rise_sub n y ((v, t) :: L) h⟩
      rcases List.mem_cons.mp hq with rfl | hq
      · exact c
      · obtain ⟨s, hs, rfl⟩ := List.mem_map.mp hq
        have := h.1 s hs
        show n < s.1
        have e : v < s.1 := this
        omega
    · rw [if_neg c]
      exact ⟨putL_all (P := fun m => v < m) n y L (by omega) (fun p hp => h.1 p hp), rise_put n y L h.2 h'⟩
theorem uni_rise : ∀ (k : Nat) (q : List (Ty × Ty)) (L L' : Lk), Rise L → uni k q L = some (some L') → Rise L'
  | 0, q, L, L', hI, h => by simp [uni] at h
  | k + 1, [], L, L', hI, h => by
    rw [uni_nil] at h
    obtain rfl := Option.some.inj (Option.some.inj h)
    exact hI
  | k + 1, (a, b) :: q, L, L', hI, h => by
    have hf := uni_fit h
    cases ht : turn (a.apply (bnd L)) (b.apply (bnd L)) with
    | fail => rw [uni_fail hf ht] at h; cases h
    | skip => rw [uni_skip hf ht] at h; exact uni_rise k q L L' hI h
    | bind n z =>
      have hn := uni_new h ht
      by_cases hkp : keeps n z L
      · rw [uni_bind hf ht hn hkp] at h
        exact uni_rise k q _ L' (rise_put n z L hI hn) h
      · rw [uni_loses hf ht hn hkp] at h; cases h
    | split l l' r r' => rw [uni_split hf ht] at h; exact uni_rise k _ L L' hI h
end Go.Proofs.YteffjlhljeodpaaGreatDoor.Uni

namespace Go.Proofs.YteffjlhljeodpaaGreatDoor.Uni
open Go.RowKit Go.Proofs.YteffjlhljeodpaaGreatDoor.G Go.Proofs.YteffjlhljeodpaaGreatDoorW.PrintWords
set_option linter.unusedVariables false

def told (L : Lk) : List S29 := L.map fun p => ⟨p.1, p.2.text⟩
theorem bnd_mem {n : Int} {t : Ty} : ∀ {L : Lk}, bnd L n = some t → (n, t) ∈ L
  | [], h => by cases h
  | (v, s) :: L, h => by
    have h' : (if v = n then some s else bnd L n) = some t := h
    by_cases e : v = n
    · rw [if_pos e] at h'; injection h' with h'; subst e; subst h'; exact List.mem_cons_self ..
    · rw [if_neg e] at h'; exact List.mem_cons_of_mem _ (bnd_mem h')
theorem mem_bnd {n : Int} {t : Ty} : ∀ {L : Lk}, Rise L → (n, t) ∈ L → bnd L n = some t
  | (v, s) :: L, hr, h => by
    show (if v = n then some s else bnd L n) = some t
    rcases List.mem_cons.mp h with e | h
    · injection e with e1 e2
      rw [if_pos e1.symm, e2]
    · have := hr.1 _ h
      have e : v ≠ n := fun e => by subst e; exact absurd this (Int.lt_irrefl _)
      rw [if_neg e, mem_bnd hr.2 h]
def Got (L : Lk) (left : Int → Bool) (D : List S29) : Prop :=
  (∀ x ∈ D, left x.f0 = false ∧ ∃ t, bnd L x.f0 = some t ∧ x.f1 = t.text) ∧ D.Pairwise (fun x y => x.f0 ≠ y.f0) ∧ ∀ k, i64ok k → left k = false → (bnd L k).isSome = true → ∃ x ∈ D, x.f0 = k
theorem Got.start (L : Lk) : Got L (fun k => (bnd L k).isSome) [] := ⟨fun x hx => by simp at hx, List.Pairwise.nil, fun k _ h1 h2 => by
  have h1' : (bnd L k).isSome = false := h1
  rw [h1'] at h2; cases h2⟩
theorem Got.step {L : Lk} {left : Int → Bool} {D : List S29} (h : Got L left D) {k : Int} {t : Ty} (hl : left k = true) (ht : bnd L k = some t) : Got L (fun j => left j && !(j == k)) (D ++ [⟨k, t.text⟩]) := by
  obtain ⟨h1, h2, h3⟩ := h
  refine ⟨fun x hx => ?_, ?_, fun j hj hlj hs => ?_⟩
  · rcases List.mem_append.mp hx with hx | hx
    · obtain ⟨a, b⟩ := h1 x hx
      exact ⟨by show (left x.f0 && _) = false; rw [a]; rfl, b⟩
    · rw [List.mem_singleton.mp hx]
      exact ⟨by show (left k && !(k == k)) = false; simp, t, ht, rfl⟩
  · refine List.pairwise_append.mpr ⟨h2, List.pairwise_singleton _ _, fun x hx y hy e => ?_⟩
    rw [List.mem_singleton.mp hy] at e
    have e' : x.f0 = k := e
    have := (h1 x hx).1
    rw [e', hl] at this; cases this
  · by_cases e : j = k
    · exact ⟨_, List.mem_append_right _ (List.mem_singleton.mpr rfl), e.symm⟩
    · have h' : (left j && !(j == k)) = false := hlj
      have : left j = false := by simpa [e] using h'
      obtain ⟨x, hx, ex⟩ := h3 j hj this hs
      exact ⟨x, List.mem_append_left _ hx, ex⟩
theorem nodup_len : ∀ (A B : List Int), A.Pairwise (· ≠ ·) → (∀ x ∈ A, x ∈ B) → A.length ≤ B.length
  | [], B, _, _ => Nat.zero_le _
  | x :: A, B, h, hs => by
    have hx := hs x (List.mem_cons_self ..)
    have h' := List.pairwise_cons.mp h
    have ih := nodup_len A (B.erase x) h'.2 (fun y hy => (List.mem_erase_of_ne (fun e => h'.1 y hy e.symm)).mpr (hs y (List.mem_cons_of_mem _ hy)))
    rw [List.length_erase_of_mem hx] at ih
    have : 0 < B.length := List.length_pos_of_mem hx
    rw [List.length_cons]; omega
theorem Got.len {L : Lk} {left : Int → Bool} {D : List S29} (h : Got L left D) : D.length ≤ L.length := by
  have := nodup_len (D.map (·.f0)) (L.map (·.1)) (List.pairwise_map.mpr h.2.1) (fun x hx => by
    obtain ⟨s, hs, rfl⟩ := List.mem_map.mp hx
    obtain ⟨_, t, ht, _⟩ := h.1 s hs
    exact List.mem_map.mpr ⟨_, bnd_mem ht, rfl⟩)
  simpa using this
theorem rise_eq : ∀ (a b : List S29), a.Pairwise (fun x y => x.f0 < y.f0) → b.Pairwise (fun x y => x.f0 < y.f0) → (∀ x, x ∈ a ↔ x ∈ b) → a = b
  | [], [], _, _, _ => rfl
  | [], y :: b, _, _, h => by have := (h y).mpr (List.mem_cons_self ..); simp at this
  | x :: a, [], _, _, h => by have := (h x).mp (List.mem_cons_self ..); simp at this
  | x :: a, y :: b, ha, hb, h => by
    have ha' := List.pairwise_cons.mp ha
    have hb' := List.pairwise_cons.mp hb
    have e : x = y := by
      rcases List.mem_cons.mp ((h x).mp (List.mem_cons_self ..)) with e | hx
      · exact e
      rcases List.mem_cons.mp ((h y).mpr (List.mem_cons_self ..)) with e | hy
      · exact e.symm
      · have h1 := hb'.1 x hx
        have h2 := ha'.1 y hy
        omega
    subst e
    rw [rise_eq a b ha'.2 hb'.2 (fun z => ⟨fun hz => ?_, fun hz => ?_⟩)]
    · rcases List.mem_cons.mp ((h z).mp (List.mem_cons_of_mem _ hz)) with e | hz'
      · subst e; exact absurd (ha'.1 z hz) (Int.lt_irrefl _)
      · exact hz'
    · rcases List.mem_cons.mp ((h z).mpr (List.mem_cons_of_mem _ hz)) with e | hz'
      · subst e; exact absurd (hb'.1 z hz) (Int.lt_irrefl _)
      · exact hz'
theorem told_rise : ∀ {L : Lk}, Rise L → (told L).Pairwise (fun x y => x.f0 < y.f0)
  | [], _ => List.Pairwise.nil
  | p :: L, h => List.pairwise_cons.mpr ⟨fun x hx => by
      obtain ⟨q, hq, rfl⟩ := List.mem_map.mp hx
      exact h.1 q hq, told_rise h.2⟩
theorem Got.done {L : Lk} {left : Int → Bool} {D ys : List S29} (h : Got L left D) (hl : ∀ k, i64ok k → left k = false) (hr : Rise L) (hk : ∀ p ∈ L, i64ok p.1) (hp : ys.Perm D) (hs : ys.Pairwise (fun x y => ¬ y.f0 < x.f0)) : ys = told L := by
  have hn : ys.Pairwise (fun x y => x.f0 ≠ y.f0) := (hp.pairwise_iff (fun h e => h e.symm)).mpr h.2.1
  refine rise_eq ys (told L) ((hs.and hn).imp (fun h => by have := h.1; have := h.2; omega)) (told_rise hr) (fun x => ?_)
  rw [hp.mem_iff]
  constructor
  · intro hx
    obtain ⟨_, t, ht, e⟩ := h.1 x hx
    refine List.mem_map.mpr ⟨(x.f0, t), bnd_mem ht, ?_⟩
    show (⟨x.f0, t.text⟩ : S29) = x
    rw [← e]
  · intro hx
    obtain ⟨p, hpL, rfl⟩ := List.mem_map.mp hx
    have hb := mem_bnd hr hpL
    obtain ⟨y, hy, ey⟩ := h.2.2 p.1 (hk p hpL) (hl _ (hk p hpL)) (by rw [hb]; rfl)
    obtain ⟨_, t, ht, e⟩ := h.1 y hy
    rw [ey, hb] at ht
    obtain rfl := Option.some.inj ht
    have : y = (⟨p.1, p.2.text⟩ : S29) := by rw [← ey, ← e]
    rw [← this]; exact hy
theorem uni_mono : ∀ (k : Nat) (q : List (Ty × Ty)) (L : Lk), LeO (uni k q L) (uni (k + 1) q L)
  | 0, q, L => fun r h => by simp [uni] at h
  | k + 1, [], L => fun r h => by rw [uni_nil] at h ⊢; exact h
  | k + 1, (a, b) :: q, L => fun r h => by
    have hf := uni_fit h
    cases ht : turn (a.apply (bnd L)) (b.apply (bnd L)) with
    | fail => rw [uni_fail hf ht] at h ⊢; exact h
    | skip => rw [uni_skip hf ht] at h ⊢; exact uni_mono k q L r h
    | bind n z =>
      have hn := uni_new h ht
      by_cases hkp : keeps n z L
      · rw [uni_bind hf ht hn hkp] at h ⊢; exact uni_mono k q _ r h
      · rw [uni_loses hf ht hn hkp] at h ⊢; exact h
    | split l l' r r' => rw [uni_split hf ht] at h ⊢; exact uni_mono k _ L _ h
end Go.Proofs.YteffjlhljeodpaaGreatDoor.Uni

namespace Go.Proofs.YteffjlhljeodpaaGreatDoor.G
open Go.Shelf Go.RowKit Go.Lib Go.Sort Go.Proofs.YteffjlhljeodpaaGreatDoorW.PrintWords Go.Proofs.YteffjlhljeodpaaGreatDoorW.PrintLast Go.Proofs.YteffjlhljeodpaaGreatDoorW.PrintMore
set_option linter.unusedVariables false

namespace SortR
theorem flat_get (d : List S29) (j t : Nat) (hj : j < d.length) (ht : t < 2) : (flatK encB 2 d.toArray).toList[j * 2 + t]? = (encB d[j])[t]? := by
  have hlt : j * 2 + t < d.length * 2 := by omega
  have hs : (flatK encB 2 d.toArray).size = d.length * 2 := by simp
  have h1 := get_flatK encB 2 d.toArray (j * 2 + t) (by simpa using hlt)
  rw [getElem!_pos _ _ (by rw [hs]; exact hlt)] at h1
  rw [Array.getElem?_toList, Array.getElem?_eq_getElem (by rw [hs]; exact hlt), h1]
  have e1 : (j * 2 + t) / 2 = j := by omega
  have e2 : (j * 2 + t) % 2 = t := by omega
  rw [e1, e2]
  have hl : (encB d[j]).length = 2 := rfl
  have e3 : d.toArray[j]! = d[j] := by rw [getElem!_pos _ _ (by simpa using hj)]; simp
  rw [e3, getElem!_pos _ t (by omega), List.getElem?_eq_getElem (by omega)]
theorem chunk (d : List S29) (j : Nat) (hj : j < d.length) : ((flatK encB 2 d.toArray).toList.drop (j * 2)).take 2 = encB d[j] := by
  apply List.ext_getElem?
  intro t
  by_cases ht : t < 2
  · rw [List.getElem?_take, if_pos ht, List.getElem?_drop, flat_get d j t hj ht]
  · rw [List.getElem?_take, if_neg ht, List.getElem?_eq_none (by show 2 ≤ t; omega)]
theorem reps_flat (W : World) (base : Nat) (ok : Nat → Prop) (d : List S29) : Reps (k29.M W base ok) 2 d (flatK encB 2 d.toArray).toList := by
  refine ⟨by simp, fun j p hj => ?_⟩
  obtain ⟨hlt, rfl⟩ := List.getElem?_eq_some_iff.1 hj
  rw [chunk d j hlt]
  exact k29_mkM W base ok d[j]
theorem inner_eq {W : World} {base : Nat} {ok : Nat → Prop} (d : List S29) (inner : List Value) (h : Reps (k29.M W base ok) 2 d inner) : inner = (flatK encB 2 d.toArray).toList := by
  apply List.ext_getElem?
  intro t
  have hl : inner.length = d.length * 2 := h.1
  by_cases ht : t < d.length * 2
  · have hj : t / 2 < d.length := by omega
    have hm : t % 2 < 2 := by omega
    have e : t / 2 * 2 + t % 2 = t := by omega
    have hc := k29_openM (h.2 (t / 2) d[t / 2] (by rw [List.getElem?_eq_getElem hj]))
    have h1 := flat_get d (t / 2) (t % 2) hj hm
    rw [e] at h1
    rw [h1, show encB d[t / 2] = [.int .i64 d[t / 2].f0, .string d[t / 2].f1] from rfl, ← hc, List.getElem?_take, if_pos hm, List.getElem?_drop, e]
  · rw [List.getElem?_eq_none (by omega), List.getElem?_eq_none (by simp; omega)]
theorem grown (W : World) (g n : Nat) (d : Array S29) (os : Array Obj) : W.grownBy (sortWorldK encB 2 W g 0 n d os) (some g) where
  os := rfl
  tape := rfl
  output := rfl
  size := by
    show W.heap.size ≤ ((W.heap.modify g _) ++ os).size
    rw [Array.size_append, Array.size_modify]; omega
  block := fun k hk hne => by
    show ((W.heap.modify g _) ++ os)[k]? = _
    rw [Array.getElem?_append_left (by rw [Array.size_modify]; exact hk), Array.getElem?_modify, if_neg (fun h => hne (by rw [h]))]
theorem own_after (W : World) (base g n cap : Nat) (cur : Array Value) (os : Array Obj) (d : List S29) (hh : W.heap[g]? = some (.cells cur 29 (0, 0))) (hb : base ≤ g) (hn : d.length ≤ cap) (hcap : cap ≤ maxLen) (hcur : cur.size = cap * 2) :
    (sortWorldK encB 2 W g 0 n d.toArray os).ownsRow base 29 2 (.slice (some ⟨g, 0, none⟩) d.length cap) d.length (flatK encB 2 d.toArray).toList := by
  have hlt : g < W.heap.size := (Array.getElem?_eq_some_iff.1 hh).1
  refine ⟨by simp, .inr ⟨g, cap, putCells id 0 (flatK encB 2 d.toArray) cur, rfl, hb, ?_, hn, hcap, ?_, ?_⟩⟩
  · show ((W.heap.modify g _) ++ os)[g]? = _
    rw [Array.getElem?_append_left (by rw [Array.size_modify]; exact hlt), Array.getElem?_modify, if_pos rfl, hh]; rfl
  · unfold putCells
    rw [Array.size_mapIdx, hcur]
  · apply List.ext_getElem?
    intro t
    have hfs : (flatK encB 2 d.toArray).size = d.length * 2 := by simp
    by_cases ht : t < d.length * 2
    · rw [List.getElem?_take, if_pos ht, Array.getElem?_toList, Array.getElem?_toList]
      unfold putCells
      rw [Array.getElem?_mapIdx, Array.getElem?_eq_getElem (by rw [hcur]; omega), Option.map_some, if_pos (by omega), Array.getElem?_eq_getElem (by omega), getElem!_pos _ _ (by omega)]
      simp
    · rw [List.getElem?_take, if_neg ht, List.getElem?_eq_none (by rw [Array.length_toList]; omega)]
theorem perm_of {d d' : Array S29} (h : PermIn 0 d.size d d') : d'.toList.Perm d.toList := by
  obtain ⟨h1, _, h3⟩ := h
  have e1 : d'.extract 0 d.size = d' := by rw [← h1]; exact Array.extract_size
  have e2 : d.extract 0 d.size = d := Array.extract_size
  rw [e1, e2] at h3
  exact h3
theorem sorted_of {d : Array S29} (h : SortedIn (ltOf cmpB) 0 d.size d) : d.toList.Pairwise (fun x y => ¬ y.f0 < x.f0) := by
  rw [List.pairwise_iff_getElem]
  intro i j hi hj hij
  have hi' : i < d.size := by simpa using hi
  have hj' : j < d.size := by simpa using hj
  have := h i j (Nat.zero_le _) hij hj'
  rw [ltB, getElem!_pos d i hi', getElem!_pos d j hj'] at this
  simpa using this
end SortR

theorem sortR (base : Nat) (A : Addr) (c : Nat) (xs : List S29) (W : World) (h : Kd.R k29 29 W base (fun _ => True) (.slice (some A) xs.length c) xs) (hl : xs.length < 4611686018427387904) :
    Calls Tryz.prog 17 #[.slice (some A) xs.length c, .func (.func 18) #[] #[]] W fun e W' => e = .returned (.tuple #[]) ∧ (∃ ys, ys.Perm xs ∧ ys.Pairwise (fun x y => ¬ y.f0 < x.f0) ∧ Kd.R k29 29 W' base (fun _ => True) (.slice (some A) xs.length c) ys) ∧ W.grownBy W' (some A.block) ∧ base ≤ A.block := by
  obtain ⟨h0, inner, hown, hreps⟩ := h
  replace hreps : Reps _ 2 xs inner := hreps
  rcases hown.2 with ⟨he, hn⟩ | ⟨g, cap, cur, he, hb, hh, hnc, hcap, hcur, htake⟩
  · injection he with hA hlen hc
    cases hA
  · injection he with hA hlen hc
    injection hA with hA
    subst hA hc
    have hin := SortR.inner_eq xs inner hreps
    replace htake : cur.toList.take (xs.length * 2) = inner := htake
    replace hcur : cur.size = c * 2 := hcur
    have hH : HoldsK encB 2 W g 0 xs.toArray := by
      intro j hj
      have hj' : j < xs.length * 2 := by simpa using hj
      refine ⟨?_, blk_frozen hh _⟩
      have h3 : W.cell? ⟨g, 0 + j, none⟩ = cur[j]? := by rw [Nat.zero_add]; exact blk_cell hh j
      rw [h3]
      show cur[j]? = some (flatK encB 2 xs.toArray)[j]!
      rw [getElem!_pos (flatK encB 2 xs.toArray) j hj]
      have h2 : (cur.toList.take (xs.length * 2))[j]? = (flatK encB 2 xs.toArray).toList[j]? := by rw [htake, hin]
      rw [List.getElem?_take, if_pos hj', Array.getElem?_toList, Array.getElem?_toList, Array.getElem?_eq_getElem hj] at h2
      exact h2
    have hcon := sortB g 0 c xs.toArray W hH (Array.getElem?_eq_some_iff.1 hh).1 (by simpa using hl)
    have hsz : xs.toArray.size = xs.length := by simp
    rw [hsz] at hcon
    refine hcon.mono ?_
    rintro e w' ⟨rfl, d', n, os, hp, hs, rfl⟩
    have hds : d'.size = xs.length := hp.1.trans hsz
    have hp' := SortR.perm_of (d := xs.toArray) (d' := d') (by rw [hsz]; exact hp)
    have hs' := SortR.sorted_of (d := d') (by rw [hds]; exact hs)
    have hdl : d'.toList.length = xs.length := by simpa using hds
    have hg := SortR.grown W g n d' os
    have hoa := SortR.own_after W base g n c cur os d'.toList hh hb (by rw [hdl]; exact hnc) hcap hcur
    rw [hdl, Array.toArray_toList] at hoa
    refine ⟨rfl, ⟨d'.toList, hp', hs', fun k hk => trivial, (flatK encB 2 d').toList, ?_, ?_⟩, hg, hb⟩
    · rw [hdl]; exact hoa
    · have := SortR.reps_flat (sortWorldK encB 2 W g 0 n d' os) base (fun k => True ∧ some k ≠ (Value.slice (some ⟨g, 0, none⟩) xs.length c).ownBlock) d'.toList
      rw [Array.toArray_toList] at this
      exact this
end Go.Proofs.YteffjlhljeodpaaGreatDoor.G

namespace Go.Proofs.YteffjlhljeodpaaGreatDoor.MapR
open Go Go.ChangeMaps Go.MapKept Go.WideShapes
open Go.WideElems (Fit rd rg pl rd_key rd_val rg_of)
open Go.Maps (Keyed)
set_option linter.unusedVariables false

section
variable {P : Program} {k : TypeId} {R : Value → Option (DataW Unit × List MemPlace)} {w : World} {b r n : Nat} {D : DataW Unit} {left : Lit → Bool} {cnt : Nat}

theorem left_len (es es' : Array MapEntry) (seen : Array Nat) (h : es'.toList.map (·.born) = es.toList.map (·.born)) : (leftOf es' seen).size = (leftOf es seen).size := by
  have e1 : ∀ a : Array MapEntry, (leftOf a seen).size = ((a.toList.map (·.born)).filter fun x => !seen.contains x).length := fun a => by
    unfold leftOf
    rw [← Array.length_toList, Array.toList_filter, List.filter_map, List.length_map]
    rfl
  rw [e1, e1, h]
theorem ranges_put {t e : TypeId} (h : w.ranges P k R b r n D left cnt) (K : Keyed P k) (ht : P.underlying t = some (.map k e)) (hn : n < maxLen) {key val : Value} {kl : Lit} {d : DataW Unit} {ps : List MemPlace}
    (hkey : keyOf P k key = some kl) (hin : Go.Maps.has D kl = true) (hv : R val = some (d, ps)) :
    ∃ w', (Instr.mapUpdate t (.map (some b)) key val).run P w = .ok () w' ∧ w'.ranges P k R b r n (D.put kl d) left cnt ∧ w.grownBy w' (some b) ∧ w'.heap.size = w.heap.size := by
  have hne := h.ne
  obtain ⟨es, clock, since, seen, c0, hb, F, hs, rfl, hr, hold, rfl, hl1, hl2, hsc, hsk⟩ := h
  obtain ⟨es', clock', hrun, F', hput, _⟩ := Maps.fit_store (R' := R) K ht hb F (Nat.lt_of_le_of_lt hs hn) (fun _ _ _ _ hz => hz) hkey hv
  have there : ∃ x ∈ es.toList, (rg P k R x).1 = kl := by
    obtain ⟨p, hp, hpk⟩ := List.any_eq_true.1 hin
    obtain ⟨x, hx, rfl⟩ := List.mem_map.1 (mem_sorted.1 hp)
    exact ⟨x, hx, WideAt.sameKey_eq hpk⟩
  have keyed : ∀ x ∈ es.toList, (rg P k R x).1 = kl → x.key = key := fun x hx hk => by
    obtain ⟨y, hy⟩ := F.reads x hx
    rw [rg_of hy] at hk
    exact K.inj (hk ▸ rd_key hy) hkey
  rcases K.find w hkey es.toList F.keys with ⟨h1, h2⟩ | ⟨j, e0, h1, h2, h3⟩
  · obtain ⟨x, hx, hk⟩ := there
    exact absurd (keyed x hx hk) (h2 x hx)
  have hj : es[j]? = some e0 := by simpa using h2
  have hrun' : (Instr.mapUpdate t (.map (some b)) key val).run P w = .ok () (setBlock w b (.map (es.modify j (fun e' => { e' with key := key, val := val })) clock)) := by
    simp [Instr.mapUpdate, run_underlying ht, MapKept.run_getObj_map hb, K.check w false hkey, h1, hj, h3, K.stays w hkey, MapKept.run_setObj_map _ hb, Result.andThen, setBlock]
  have hw : setBlock w b (.map es' clock') = setBlock w b (.map (es.modify j (fun e' => { e' with key := key, val := val })) clock) := by
    have := hrun.symm.trans hrun'
    injection this
  have hc : (Obj.map es' clock') = .map (es.modify j (fun e' => { e' with key := key, val := val })) clock := by
    have h1 := heap_setBlock_same hb (.map es' clock')
    rw [hw, heap_setBlock_same hb] at h1
    exact (Option.some.inj h1).symm
  obtain ⟨hes, hcl⟩ : es' = es.modify j (fun e' => { e' with key := key, val := val }) ∧ clock' = clock := by
    injection hc with a b; exact ⟨a, b⟩
  have hlist : es'.toList = es.toList.set j { e0 with key := key, val := val } := by rw [hes, Array.toList_modify, modify_eq_set _ _ _ _ h2]
  have hborn : es'.toList.map (·.born) = es.toList.map (·.born) := by
    rw [hlist, List.map_set]
    apply List.ext_getElem?
    intro i
    rw [List.getElem?_set]
    split
    · rename_i hij
      subst hij
      have hjl : j < es.toList.length := (List.getElem?_eq_some_iff.1 h2).1
      rw [if_pos (by simpa using hjl), List.getElem?_map, h2]; rfl
    · rfl
  have hrge : (rg P k R e0).1 = kl := by
    have hm : e0 ∈ es.toList := List.mem_of_getElem? h2
    obtain ⟨y, hy⟩ := F.reads e0 hm
    have := rd_key hy
    rw [h3, hkey] at this
    rw [rg_of hy]
    exact (Option.some.inj this).symm
  have hnew : (rg P k R { e0 with key := key, val := val }).1 = kl := by
    rw [rg_of (Go.WideElems.rd_mk (born := e0.born) hkey hv)]
  -- each new entry stands for an old one of its stamp and key
  have old : ∀ x' ∈ es'.toList, ∃ x ∈ es.toList, x'.born = x.born ∧ (rg P k R x').1 = (rg P k R x).1 := by
    intro x' hx'
    rw [hlist] at hx'
    obtain ⟨i, hi, ex⟩ := List.getElem_of_mem hx'
    rw [List.getElem_set] at ex
    split at ex
    · exact ⟨e0, List.mem_of_getElem? h2, by rw [← ex], by rw [← ex, hnew, hrge]⟩
    · exact ⟨x', by rw [← ex]; exact List.getElem_mem _, rfl, rfl⟩
  have new : ∀ x ∈ es.toList, ∃ x' ∈ es'.toList, (rg P k R x').1 = (rg P k R x).1 := by
    intro x hx
    obtain ⟨i, hi, ex⟩ := List.getElem_of_mem hx
    by_cases e : j = i
    · subst e
      have : e0 = x := by rw [← ex]; exact (Option.some.inj ((List.getElem?_eq_getElem hi).symm.trans h2)).symm
      subst this
      exact ⟨{ e0 with key := key, val := val }, by rw [hlist]; exact List.mem_of_getElem? (i := j) (by rw [List.getElem?_set, if_pos rfl, if_pos hi]), by rw [hnew, hrge]⟩
    · exact ⟨x, by rw [hlist]; exact List.mem_of_getElem? (i := i) (by rw [List.getElem?_set, if_neg e, List.getElem?_eq_getElem hi, ex]), rfl⟩
  refine ⟨_, hrun, ⟨es', clock', since, seen, c0, heap_setBlock_same hb _, F', ?_, ?_, (heap_setBlock_other hb _ hne).trans hr, ?_, left_len es es' seen hborn, ?_, ?_, hsc, by rw [hcl]; exact hsk⟩,
    ⟨rfl, rfl, rfl, by simp [setBlock], fun i _ hi => heap_setBlock_other hb _ (fun e => hi (by rw [e]))⟩, by simp [setBlock]⟩
  · rw [hes]; simpa using hs
  · rw [hput]; rfl
  · intro x' hx'
    obtain ⟨x, hx, e1, _⟩ := old x' hx'
    rw [e1]; exact hold x hx
  · intro x' hx'
    obtain ⟨x, hx, e1, e2⟩ := old x' hx'
    rw [e1, e2]; exact hl1 x hx
  · intro kl' hk
    obtain ⟨x, hx, rfl⟩ := hl2 kl' hk
    obtain ⟨x', hx', e⟩ := new x hx
    exact ⟨x', hx', e⟩
end
end Go.Proofs.YteffjlhljeodpaaGreatDoor.MapR

namespace Go.Proofs.YteffjlhljeodpaaGreatDoor.G
open Go.RowKit Go.Proofs.YteffjlhljeodpaaGreatDoorW.PrintWords Go.Proofs.YteffjlhljeodpaaGreatDoorW.PrintLast Go.Proofs.YteffjlhljeodpaaGreatDoorW.PrintMore Go.Proofs.YteffjlhljeodpaaGreatDoor.Short
set_option linter.unusedVariables false

def ReadsM (W : World) (D : DataW Unit) (M : Int → Option Ty) : Prop := Go.Maps.IsMap D ∧ ∀ k, i64ok k → (M k = none ∧ Go.Maps.has D (.int .i64 k) = false) ∨
    (∃ t g, M k = some t ∧ Go.Maps.has D (.int .i64 k) = true ∧ D.atKey (.int .i64 k) nilD = .lit (.int .i64 ((g : Nat) : Int)) ∧ IsT W t (.pointer (some ⟨g, 0, none⟩)))
theorem ReadsM.stay {W W1 : World} {D : DataW Unit} {M : Int → Option Ty} (h : ReadsM W D M) (s : Stay W W1) : ReadsM W1 D M := ⟨h.1, fun k hk => by
  rcases h.2 k hk with h | ⟨t, g, a1, a2, a3, a4⟩
  · exact .inl h
  · exact .inr ⟨t, g, a1, a2, a3, a4.stay s⟩⟩
theorem ReadsM.put {W W1 : World} {D : DataW Unit} {M : Int → Option Ty} (h : ReadsM W D M) (s : Stay W W1) (k : Int) (t : Ty) (g : Nat) (ht : IsT W t (.pointer (some ⟨g, 0, none⟩))) : ReadsM W1 (D.put (.int .i64 k) (.lit (.int .i64 (g : Int)))) (updM M k t) := by
  obtain ⟨hI, hD⟩ := h
  refine ⟨hI.put _ _, fun j hj => ?_⟩
  by_cases e : j = k
  · subst e
    exact .inr ⟨t, g, if_pos rfl, Go.Maps.has_put_same hI (by trivial) _, Go.Maps.atKey_put_same hI (by trivial) _ _, ht.stay s⟩
  · have hne : (Lit.int .i64 j) ≠ Lit.int .i64 k := fun h => e (by injection h)
    rcases hD j hj with ⟨e1, e2⟩ | ⟨t', g', e1, e2, e3, e4⟩
    · exact .inl ⟨(if_neg e).trans e1, (Go.Maps.has_put_other hne _).trans e2⟩
    · exact .inr ⟨t', g', (if_neg e).trans e1, (Go.Maps.has_put_other hne _).trans e2, (Go.Maps.atKey_put_other hne _ _).trans e3, e4.stay s⟩
theorem ReadsM.congr {W : World} {D : DataW Unit} {M N : Int → Option Ty} (h : ReadsM W D M) (e : ∀ k, i64ok k → M k = N k) : ReadsM W D N := ⟨h.1, fun k hk => by rw [← e k hk]; exact h.2 k hk⟩
theorem IsM.congr {W : World} {b n : Nat} {M N : Int → Option Ty} (h : IsM W b n M) (e : ∀ k, i64ok k → M k = N k) : IsM W b n N := by
  obtain ⟨D, h1, h2, h3⟩ := h
  exact ⟨D, h1, h2, fun k hk => by rw [← e k hk]; exact h3 k hk⟩
theorem stay_but {W W1 : World} {b : Nat} (hg : W.grownBy W1 (some b)) (hb : ∀ cs t, W.heap[b]? ≠ some (.cells cs t (0, 0))) : Stay W W1 := by
  intro i cs t hi
  refine (hg.block i (blk_lt hi) (fun e => ?_)).trans hi
  injection e with e
  exact hb cs t (e ▸ hi)
def IsR (W : World) (b r n : Nat) (M : Int → Option Ty) (left : Int → Bool) (cnt : Nat) : Prop :=
  ∃ D lf, W.ranges Tryz.prog 3 ptrR b r n D lf cnt ∧ ReadsM W D M ∧ ∀ k, i64ok k → lf (.int .i64 k) = left k
theorem IsR.isM {W : World} {b r n cnt : Nat} {M : Int → Option Ty} {left : Int → Bool} (h : IsR W b r n M left cnt) : IsM W b n M := by
  obtain ⟨D, lf, h1, h2, _⟩ := h
  exact ⟨D, h1.owns, h2.1, h2.2⟩
theorem IsR.left_eq {W : World} {b r n cnt : Nat} {M : Int → Option Ty} {left : Int → Bool} (h : IsR W b r n M left cnt) : W.rangeLeft b r = cnt := by
  obtain ⟨D, lf, h1, _⟩ := h
  exact h1.left_eq
theorem IsR.ne {W : World} {b r n cnt : Nat} {M : Int → Option Ty} {left : Int → Bool} (h : IsR W b r n M left cnt) : r ≠ b := by
  obtain ⟨D, lf, h1, _⟩ := h
  exact h1.ne
theorem IsR.lt {W : World} {b r n cnt : Nat} {M : Int → Option Ty} {left : Int → Bool} (h : IsR W b r n M left cnt) : r < W.heap.size := by
  obtain ⟨D, lf, h1, _⟩ := h
  exact h1.lt
theorem IsR.below {W W1 : World} {b r n cnt : Nat} {M : Int → Option Ty} {left : Int → Bool} (h : IsR W b r n M left cnt) (hb : Below W.heap.size W W1) : IsR W1 b r n M left cnt := by
  obtain ⟨D, lf, h1, h2, h3⟩ := h
  exact ⟨D, lf, h1.kept (grown_of_below hb none) (by simp) (by simp), h2.stay (Stay.below hb), h3⟩
theorem IsR.grown {W W1 : World} {b r n cnt b' : Nat} {M : Int → Option Ty} {left : Int → Bool} (h : IsR W b r n M left cnt) (hg : W.grownBy W1 (some b')) (s : Stay W W1) (h1 : b ≠ b') (h2 : r ≠ b') : IsR W1 b r n M left cnt := by
  obtain ⟨D, lf, k1, k2, k3⟩ := h
  exact ⟨D, lf, k1.kept hg (fun e => h1 (by injection e)) (fun e => h2 (by injection e)), k2.stay s, k3⟩
theorem IsM.grown {W W1 : World} {b n b' : Nat} {M : Int → Option Ty} (h : IsM W b n M) (hg : W.grownBy W1 (some b')) (s : Stay W W1) (h1 : b ≠ b') : IsM W1 b n M := by
  obtain ⟨D, k1, k2, k3⟩ := h
  have := ReadsM.stay (W := W) ⟨k2, k3⟩ s
  exact ⟨D, k1.kept hg (fun e => h1 (by injection e)), this.1, this.2⟩
theorem key_i64 {k : Int} (hk : i64ok k) : keyOf Tryz.prog 3 (.int .i64 k) = some (.int .i64 k) := Go.Maps.keyOf_int_mk Tryz.underlying3 (wf_of hk)
theorem ptrR_some {v : Value} {y : DataW Unit × List MemPlace} (h : ptrR v = some y) : ∃ c : Option Addr, v = .pointer c := by
  unfold ptrR at h
  split at h
  · exact ⟨_, rfl⟩
  · exact ⟨_, rfl⟩
  · cases h
section
variable {ops : Array Oper} {rest : List Oper} {o : Oper} {a : Act} {Q : Exit → Act → World → Prop}
theorem range_M (w : World) (hg : o.guard = none) (m : Operand) (hop : o.op = Op.range 47 m) (b n : Nat) (M : Int → Option Ty) (hm : a.eval m = .map (some b)) (hM : IsM w b n M)
    (hK : ∀ w' cnt, IsR w' b w.heap.size n M (fun k => (M k).isSome) cnt → Below w.heap.size w w' → wpList Tryz.prog ops Q rest (a.put o.dst (.pointer (some ⟨w.heap.size, 0, none⟩))) w') : wpList Tryz.prog ops Q (o :: rest) a w := by
  obtain ⟨D, h1, h2, h3⟩ := hM
  refine Go.wpList_range_own w hg m 47 hop 3 44 law3 Tryz.underlying47 ptrR b n D hm h1 ?_
  intro w' hr hgr hsz
  have hb : Below w.heap.size w w' := (Below.refl w.heap.size w).grown hgr (Nat.le_refl _) (fun k e => by cases e)
  refine hK w' _ ⟨D, _, hr, (ReadsM.stay (W := w) ⟨h2, h3⟩ (Stay.below hb)), fun k hk => ?_⟩ hb
  show Go.Maps.has D (.int .i64 k) = (M k).isSome
  rcases h3 k hk with ⟨e1, e2⟩ | ⟨t, g, e1, e2, _⟩
  · rw [e1, e2]; rfl
  · rw [e1, e2]; rfl
theorem next_M (w : World) (hg : o.guard = none) (it : Operand) (hop : o.op = Op.next it false) (b r n cnt : Nat) (M : Int → Option Ty) (left : Int → Bool) (hit : a.eval it = .pointer (some ⟨r, 0, none⟩)) (h : IsR w b r n M left cnt)
    (hDone : (∀ k, i64ok k → left k = false) → wpList Tryz.prog ops Q rest (a.put o.dst (.tuple #[.bool false])) w)
    (hMore : ∀ (x : Int) (g : Nat) (t : Ty) (w' : World) (cnt' : Nat), i64ok x → left x = true → M x = some t → IsT w' t (.pointer (some ⟨g, 0, none⟩)) → IsR w' b r n M (fun k => left k && !(k == x)) cnt' → cnt' < cnt → w.grownBy w' (some r) → Stay w w' → w'.heap.size = w.heap.size →
      (Instr.entry (.pointer (some ⟨r, 0, none⟩))).run Tryz.prog w' = .ok (.tuple #[.int .i64 x, .pointer (some ⟨g, 0, none⟩)]) w' → wpList Tryz.prog ops Q rest (a.put o.dst (.tuple #[.bool true, .int .i64 x, .pointer (some ⟨g, 0, none⟩)])) w') : wpList Tryz.prog ops Q (o :: rest) a w := by
  obtain ⟨D, lf, k1, k2, k3⟩ := h
  have hnc : ∀ cs t, w.heap[r]? ≠ some (.cells cs t (0, 0)) := by
    obtain ⟨es, clock, since, seen, c0, _, _, _, _, hr, _⟩ := k1
    intro cs t e
    rw [hr] at e; cases e
  refine Go.wpList_next_ranges w hg it hop 3 law3 ptrR (Value.int .i64) Value.pointer (fun key kl hk => by obtain ⟨x, rfl, _⟩ := Go.Maps.keyOf_int_inv Tryz.underlying3 hk; exact ⟨x, rfl⟩) (fun v y hv => ptrR_some hv) b r n D lf cnt hit k1 ?_ ?_
  · intro _ hl
    exact hDone (fun k hk => by rw [← k3 k hk]; exact hl _)
  · intro x c kl y w' cnt' hkey hlk hv hat hrg hlt hgr hsz hen
    obtain ⟨x', ex, rfl, hwx⟩ := Go.Maps.keyOf_int_inv Tryz.underlying3 hkey
    cases ex
    have hx : i64ok x := by
      have h' : (decide (IntKind.i64.min ≤ x) && decide (x ≤ IntKind.i64.max)) = true := hwx
      simp only [Bool.and_eq_true, decide_eq_true_iff] at h'
      exact ⟨h'.1, h'.2⟩
    have hs := stay_but hgr hnc
    rcases k2.2 x hx with ⟨e1, e2⟩ | ⟨t, g, e1, e2, e3, e4⟩
    · exfalso
      obtain ⟨es, clock, since, seen, c0, hb, F, _, rfl, hr, _, _, _, hl2, _⟩ := k1
      obtain ⟨z, hz, hzk⟩ := hl2 _ hlk
      have : Go.Maps.has (DataW.map ((es.toList.map (Go.WideElems.rg Tryz.prog 3 ptrR)).foldr DataW.insert [])) (.int .i64 x) = true :=
        List.any_eq_true.2 ⟨Go.WideElems.rg Tryz.prog 3 ptrR z, Go.mem_sorted.2 (List.mem_map.2 ⟨z, hz, rfl⟩), by rw [hzk]; exact Go.WideAt.sameKey_self (by trivial)⟩
      rw [this] at e2; cases e2
    · have hy := hat nilD
      rw [e3] at hy
      have hc : Value.pointer c = .pointer (some ⟨g, 0, none⟩) := ptrR_inv (ps := y.2) (by rw [hv, hy])
      injection hc with hc
      subst hc
      refine hMore x g t w' cnt' hx (by rw [← k3 x hx]; exact hlk) e1 (e4.stay hs) ⟨D, _, hrg, k2.stay hs, fun k hk => ?_⟩ hlt hgr hs hsz hen
      have e : (Lit.int .i64 k).sameKey (.int .i64 x) = (k == x) := by
        by_cases e : k = x
        · subst e
          rw [Go.WideAt.sameKey_self (by trivial)]; simp
        · rw [Go.Maps.sameKey_ne (fun h => e (by injection h))]
          simp [e]
      show (lf (.int .i64 k) && !(Lit.int .i64 k).sameKey (.int .i64 x)) = (left k && !(k == x))
      rw [k3 k hk, e]
theorem put_R (w : World) (hg : o.guard = none) (m x v : Operand) (hop : o.op = Op.mapUpdate 47 m x v) (b r n cnt : Nat) (M : Int → Option Ty) (left : Int → Bool) (hm : a.eval m = .map (some b)) (h : IsR w b r n M left cnt) (hn : n < 1099511627776) (k : Int) (hk : i64ok k) (hx : a.eval x = .int .i64 k)
    (hin : (M k).isSome = true) (t : Ty) (g : Nat) (hv : a.eval v = .pointer (some ⟨g, 0, none⟩)) (ht : IsT w t (.pointer (some ⟨g, 0, none⟩)))
    (hK : ∀ w', IsR w' b r n (updM M k t) left cnt → Stay w w' → w.grownBy w' (some b) → wpList Tryz.prog ops Q rest (a.put o.dst undef) w') : wpList Tryz.prog ops Q (o :: rest) a w := by
  have hM := h.isM
  obtain ⟨D, lf, k1, k2, k3⟩ := h
  have hhas : Go.Maps.has D (.int .i64 k) = true := by
    rcases k2.2 k hk with ⟨e1, _⟩ | ⟨_, _, _, e2, _⟩
    · rw [e1] at hin; cases hin
    · exact e2
  obtain ⟨w', hrun, hr, hgr, hsz⟩ := MapR.ranges_put (R := ptrR) (val := .pointer (some ⟨g, 0, none⟩)) (d := .lit (.int .i64 (g : Int))) (ps := []) k1 law3 Tryz.underlying47 (by unfold maxLen; omega) (key_i64 hk) hhas rfl
  have hs := hM.stay hgr
  refine wpList_plain hg fun K' hK' => ?_
  unfold Oper.wp
  simp [execOp, hop, hm, hx, hv, hrun, Result.andThen]
  exact hK' _ _ (hK w' ⟨_, lf, hr, k2.put hs k t g ht, k3⟩ hs hgr)
theorem ins_M (w : World) (hg : o.guard = none) (m x v : Operand) (hop : o.op = Op.insert 47 m x v) (b n : Nat) (M : Int → Option Ty) (hm : a.eval m = .map (some b)) (hM : IsM w b n M) (hn : n < 1099511627776) (k : Int) (hk : i64ok k) (hx : a.eval x = .int .i64 k) (t : Ty) (g : Nat) (hv : a.eval v = .pointer (some ⟨g, 0, none⟩)) (ht : IsT w t (.pointer (some ⟨g, 0, none⟩)))
    (h : ∀ w', IsM w' b (n + 1) (updM M k t) → Stay w w' → w.grownBy w' (some b) → wpList Tryz.prog ops Q rest (a.put o.dst undef) w') : wpList Tryz.prog ops Q (o :: rest) a w := by
  have hM' := hM
  obtain ⟨D, hO, hI, hD⟩ := hM
  obtain ⟨w', hrun, r1, r2⟩ := hO.update law3 Tryz.underlying47 (by unfold maxLen; omega) (key_i64 hk) (val := .pointer (some ⟨g, 0, none⟩)) (d := .lit (.int .i64 (g : Int))) (ps := []) rfl
  have hs := hM'.stay r2
  have hp := ReadsM.put (W := w) ⟨hI, hD⟩ hs k t g ht
  refine wpList_plain hg fun K' hK' => ?_
  unfold Oper.wp
  simp [execOp, hop, hm, hx, hv, hrun, Result.andThen]
  exact hK' _ _ (h w' ⟨_, r1, hp.1, hp.2⟩ hs r2)
theorem at_M (w : World) (hg : o.guard = none) (m x : Operand) (hop : o.op = Op.lookup 47 m x false) (b n : Nat) (M : Int → Option Ty) (hm : a.eval m = .map (some b)) (hM : IsM w b n M) (k : Int) (hk : i64ok k) (hx : a.eval x = .int .i64 k) (t : Ty) (ht : M k = some t)
    (h : ∀ g, IsT w t (.pointer (some ⟨g, 0, none⟩)) → wpList Tryz.prog ops Q rest (a.put o.dst (.pointer (some ⟨g, 0, none⟩))) w) : wpList Tryz.prog ops Q (o :: rest) a w := by
  obtain ⟨D, hO, hI, hD⟩ := hM
  obtain ⟨v, ps, hrun, hv⟩ := hO.lookup law3 Tryz.underlying47 (zero44 w) (zd := nilD) (zp := []) rfl (key_i64 hk)
  rcases hD k hk with ⟨e1, _⟩ | ⟨t', g, e1, e2, e3, e4⟩
  · rw [ht] at e1; cases e1
  rw [ht] at e1
  obtain rfl := Option.some.inj e1
  rw [e3] at hv
  obtain rfl := ptrR_inv hv
  refine wpList_plain hg fun K' hK' => ?_
  unfold Oper.wp
  simp [execOp, hop, hm, hx, hrun, Result.andThen]
  exact hK' _ _ (h g e4)
end

def CsAt (W : World) (cs : Array Value) : Nat → List (Ty × Ty) → Prop
  | _, [] => True
  | o, p :: q => (∃ g1 g2, cs[o]? = some (.pointer (some ⟨g1, 0, none⟩)) ∧ cs[o + 1]? = some (.pointer (some ⟨g2, 0, none⟩)) ∧ IsT W p.1 (.pointer (some ⟨g1, 0, none⟩)) ∧ IsT W p.2 (.pointer (some ⟨g2, 0, none⟩))) ∧ CsAt W cs (o + 2) q
theorem CsAt.stay {W W1 : World} (s : Stay W W1) {cs : Array Value} : ∀ {q : List (Ty × Ty)} {o : Nat}, CsAt W cs o q → CsAt W1 cs o q
  | [], _, _ => trivial
  | p :: q, o, ⟨⟨g1, g2, a1, a2, a3, a4⟩, h⟩ => ⟨⟨g1, g2, a1, a2, a3.stay s, a4.stay s⟩, CsAt.stay s h⟩
def IsQ (W : World) (q : List (Ty × Ty)) (v : Value) : Prop :=
  ∃ g o cs c, v = .slice (some ⟨g, o, none⟩) q.length c ∧ q.length ≤ c ∧ W.heap[g]? = some (.cells cs 79 (0, 0)) ∧ CsAt W cs o q
theorem IsQ.stay {W W1 : World} {q : List (Ty × Ty)} {v : Value} (h : IsQ W q v) (s : Stay W W1) : IsQ W1 q v := by
  obtain ⟨g, o, cs, c, e, hc, hb, hq⟩ := h
  exact ⟨g, o, cs, c, e, hc, s _ _ _ hb, hq.stay s⟩
theorem IsQ.one {W : World} {a b : Ty} {g p1 p2 : Nat} (h : W.heap[g]? = some (.cells #[.pointer (some ⟨p1, 0, none⟩), .pointer (some ⟨p2, 0, none⟩)] 79 (0, 0))) (ha : IsT W a (.pointer (some ⟨p1, 0, none⟩))) (hb : IsT W b (.pointer (some ⟨p2, 0, none⟩))) : IsQ W [(a, b)] (.slice (some ⟨g, 0, none⟩) 1 1) :=
  ⟨g, 0, _, 1, rfl, Nat.le_refl _, h, ⟨⟨p1, p2, rfl, rfl, ha, hb⟩, trivial⟩⟩
theorem IsQ.head {W : World} {a b : Ty} {q : List (Ty × Ty)} {v : Value} (h : IsQ W ((a, b) :: q) v) : ∃ g o c p1 p2, v = .slice (some ⟨g, o, none⟩) (q.length + 1) c ∧ q.length + 1 ≤ c ∧ W.cell? ⟨g, o, none⟩ = some (.pointer (some ⟨p1, 0, none⟩)) ∧ W.cell? ⟨g, o + 1, none⟩ = some (.pointer (some ⟨p2, 0, none⟩)) ∧
    IsT W a (.pointer (some ⟨p1, 0, none⟩)) ∧ IsT W b (.pointer (some ⟨p2, 0, none⟩)) ∧ IsQ W q (.slice (if c = 1 then some ⟨g, o, none⟩ else some ⟨g, o + 2, none⟩) q.length (c - 1)) := by
  obtain ⟨g, o, cs, c, e, hc, hb, ⟨p1, p2, a1, a2, a3, a4⟩, hq⟩ := h
  refine ⟨g, o, c, p1, p2, e, hc, (blk_cell hb o).trans a1, (blk_cell hb (o + 1)).trans a2, a3, a4, ?_⟩
  have hc' : q.length + 1 ≤ c := hc
  by_cases h1 : c = 1
  · rw [if_pos h1]
    have : q = [] := List.eq_nil_of_length_eq_zero (by omega)
    subst this
    exact ⟨g, o, cs, _, rfl, Nat.zero_le _, hb, trivial⟩
  · rw [if_neg h1]
    exact ⟨g, o + 2, cs, _, rfl, by omega, hb, hq⟩
theorem IsT.at {W : World} {n : Int} {g : Nat} (h : IsT W (.v n) (.pointer (some ⟨g, 0, none⟩))) : W.cell? ⟨g, 0, none⟩ = some (.int .i64 n) := by
  obtain ⟨g', e, h0, _⟩ := h.varc
  cases e
  exact h0
def Rep (W : World) : List (Ty × Ty) → List Value → Prop
  | [], l => l = []
  | p :: q, l => ∃ g1 g2 l', l = .pointer (some ⟨g1, 0, none⟩) :: .pointer (some ⟨g2, 0, none⟩) :: l' ∧ IsT W p.1 (.pointer (some ⟨g1, 0, none⟩)) ∧ IsT W p.2 (.pointer (some ⟨g2, 0, none⟩)) ∧ Rep W q l'
theorem csAt_rep {W : World} {cs : Array Value} : ∀ {q : List (Ty × Ty)} {o : Nat}, CsAt W cs o q → ∃ l, Rep W q l ∧ ∀ (j : Nat) (u : Value), l[j]? = some u → cs[o + j]? = some u
  | [], o, _ => ⟨[], rfl, fun j u h => by simp at h⟩
  | p :: q, o, ⟨⟨g1, g2, a1, a2, a3, a4⟩, h⟩ => by
    obtain ⟨l, h1, h2⟩ := csAt_rep h
    refine ⟨_, ⟨g1, g2, l, rfl, a3, a4, h1⟩, fun j u hj => ?_⟩
    match j with
    | 0 => exact a1.trans hj
    | 1 => exact a2.trans hj
    | j + 2 =>
      have := h2 j u (by simpa using hj)
      rwa [show o + 2 + j = o + (j + 2) by omega] at this
theorem rep_csAt {W : World} {cs : Array Value} : ∀ {q : List (Ty × Ty)} {l : List Value} {o : Nat}, Rep W q l → (∀ (j : Nat) (u : Value), l[j]? = some u → cs[o + j]? = some u) → CsAt W cs o q
  | [], _, _, _, _ => trivial
  | p :: q, _, o, ⟨g1, g2, l, rfl, a3, a4, h1⟩, h => by
    refine ⟨⟨g1, g2, h 0 _ rfl, h 1 _ rfl, a3, a4⟩, rep_csAt h1 (fun j u hj => ?_)⟩
    have := h (j + 2) u (by simpa using hj)
    rwa [show o + (j + 2) = o + 2 + j by omega] at this
theorem rep_len {W : World} : ∀ {q : List (Ty × Ty)} {l : List Value}, Rep W q l → l.length = q.length * 2
  | [], _, rfl => rfl
  | p :: q, _, ⟨g1, g2, l, rfl, a3, a4, h1⟩ => by
    have := rep_len h1
    simp only [List.length_cons]; omega
theorem rep_one {W : World} : ∀ {q : List (Ty × Ty)} {l : List Value}, Rep W q l → ∀ u ∈ l, u.oneCell' = true
  | [], _, rfl, u, hu => by simp at hu
  | p :: q, _, ⟨g1, g2, l, rfl, a3, a4, h1⟩, u, hu => by
    rcases List.mem_cons.mp hu with rfl | hu
    · rfl
    rcases List.mem_cons.mp hu with rfl | hu
    · rfl
    · exact rep_one h1 u hu
theorem rep_stay {W W1 : World} (s : Stay W W1) : ∀ {q : List (Ty × Ty)} {l : List Value}, Rep W q l → Rep W1 q l
  | [], _, h => h
  | p :: q, _, ⟨g1, g2, l, e, a3, a4, h1⟩ => ⟨g1, g2, l, e, a3.stay s, a4.stay s, rep_stay s h1⟩
theorem add_none (g o j : Nat) : Addr.add ⟨g, o, none⟩ j = ⟨g, o + j, none⟩ := by
  unfold Addr.add
  split
  · rename_i h; subst h; rfl
  · rfl
theorem info79 : (Tryz.prog.info? 79).map (fun i => (i.zero, i.size, i.bytes)) = some (some (.agg #[.pointer none, .pointer none]), 2, 16) := by kernel_rfl
section
variable {ops : Array Oper} {o : Oper} {a : Act} {Q : Exit → Act → World → Prop} {K : Act → World → Prop}
theorem app_Q (hw : Region.wanted o (yielded ops a.tmps) = true) (s x : Operand) (ho : o.op = .call { callee := .builtin .append, args := #[s, x], argTypes := #[80, 80] }) (W : World) (q : List (Ty × Ty)) (l l' r r' : Ty) (g1 g2 g3 g4 : Nat) (vq : Value)
    (hs : a.eval s = .slice (some ⟨W.heap.size, 0, none⟩) 2 2) (hx : a.eval x = vq) (hq : IsQ W q vq) (hn : q.length ≤ 1000000)
    (h1 : IsT W l (.pointer (some ⟨g1, 0, none⟩))) (h2 : IsT W l' (.pointer (some ⟨g2, 0, none⟩))) (h3 : IsT W r (.pointer (some ⟨g3, 0, none⟩))) (h4 : IsT W r' (.pointer (some ⟨g4, 0, none⟩)))
    (h : ∀ v1 w1, IsQ w1 ((l, l') :: (r, r') :: q) v1 → Below W.heap.size W w1 → K (a.put o.dst v1) w1) :
    if Region.wanted o (yielded ops a.tmps) = true then Oper.wp Tryz.prog o a (W.alloc (.cells #[.pointer (some ⟨g1, 0, none⟩), .pointer (some ⟨g2, 0, none⟩), .pointer (some ⟨g3, 0, none⟩), .pointer (some ⟨g4, 0, none⟩)] 79 (0, 0))) K Q else K (a.put o.dst undef) (W.alloc (.cells #[.pointer (some ⟨g1, 0, none⟩), .pointer (some ⟨g2, 0, none⟩), .pointer (some ⟨g3, 0, none⟩), .pointer (some ⟨g4, 0, none⟩)] 79 (0, 0))) := by
  obtain ⟨i0, hi, hzz⟩ := Option.map_eq_some_iff.1 info79
  simp only [Prod.mk.injEq] at hzz
  obtain ⟨hz0, hz1, hz2⟩ := hzz
  obtain ⟨gq, oq, cs, c, rfl, hc, hb, hcs⟩ := hq
  obtain ⟨news, hr, hnews⟩ := csAt_rep hcs
  have hl := rep_len hr
  have hblk := heap_alloc_new W (.cells #[.pointer (some ⟨g1, 0, none⟩), .pointer (some ⟨g2, 0, none⟩), .pointer (some ⟨g3, 0, none⟩), .pointer (some ⟨g4, 0, none⟩)] 79 (0, 0))
  generalize hcells : (#[.pointer (some ⟨g1, 0, none⟩), .pointer (some ⟨g2, 0, none⟩), .pointer (some ⟨g3, 0, none⟩), .pointer (some ⟨g4, 0, none⟩)] : Array Value) = C4 at hblk ⊢
  have hC : C4.toList = [.pointer (some ⟨g1, 0, none⟩), .pointer (some ⟨g2, 0, none⟩), .pointer (some ⟨g3, 0, none⟩), .pointer (some ⟨g4, 0, none⟩)] := by rw [← hcells]
  have hown : (W.alloc (.cells C4 79 (0, 0))).ownsRow W.heap.size 79 2 (.slice (some ⟨W.heap.size, 0, none⟩) 2 2) 2 C4.toList :=
    ⟨by rw [hC]; rfl, .inr ⟨W.heap.size, 2, C4, rfl, Nat.le_refl _, hblk, Nat.le_refl _, by unfold maxLen; omega, by rw [← Array.length_toList, hC]; rfl, by rw [hC]; rfl⟩⟩
  rw [if_pos hw]
  obtain ⟨v1, w1, hrun, hown1, hg, hnil, _⟩ := run_append_own_at (P := Tryz.prog) (W.alloc (.cells C4 79 (0, 0))) W.heap.size 80 o.type 79 i0 _ 2 16 Tryz.underlying80 hi hz0 hz1 hz2 rfl (by omega) _ 2 _ hown ⟨gq, oq, none⟩ q.length c news hl
    (fun j u hj => by rw [add_none]; exact (blk_cell (blk_alloc hb _) (oq + j)).trans (hnews j u hj)) (rep_one hr) (by unfold maxLen; omega) (by omega) (by simp)
  have hbel : Below W.heap.size W w1 := (below_alloc (Below.refl W.heap.size W) (.cells C4 79 (0, 0))).grown hg (by simp) (fun k e => by
    have e' : some W.heap.size = some k := e
    injection e' with e'
    omega)
  unfold Oper.wp execOp
  simp only [ho, resolve, invoke, builtin, Sem.run_bind, Sem.run_pure, Result.andThen_ok, List.map_toArray, List.map_cons, List.map_nil, hs, hx, hrun]
  refine h v1 w1 ?_ hbel
  obtain ⟨hlen, hrow⟩ := hown1
  rcases hrow with ⟨e, hz⟩ | ⟨g, cap, cur, rfl, hge, hcur, hcap, _, hsz, htake⟩
  · omega
  have hs := Stay.below hbel
  refine ⟨g, 0, cur, cap, by rw [show ((l, l') :: (r, r') :: q).length = 2 + q.length by simp only [List.length_cons]; omega], by simp only [List.length_cons]; omega, hcur, ?_⟩
  refine rep_csAt (l := C4.toList ++ news) ?_ (fun j u hj => ?_)
  · rw [hC]
    exact ⟨g1, g2, _, rfl, h1.stay hs, h2.stay hs, g3, g4, _, rfl, h3.stay hs, h4.stay hs, rep_stay hs hr⟩
  · rw [← htake, List.getElem?_take] at hj
    split at hj
    · rw [Nat.zero_add, ← Array.getElem?_toList]; exact hj
    · cases hj
end
theorem IsT.arrAt {W : World} {l r : Ty} {g : Nat} (h : IsT W (.a l r) (.pointer (some ⟨g, 0, none⟩))) : ∃ p a1 a2, W.cell? ⟨g, 1, none⟩ = some (.slice (some ⟨p, 0, none⟩) 2 2) ∧ W.cell? ⟨p, 0, none⟩ = some (.pointer (some ⟨a1, 0, none⟩)) ∧ W.cell? ⟨p, 1, none⟩ = some (.pointer (some ⟨a2, 0, none⟩)) ∧ IsT W l (.pointer (some ⟨a1, 0, none⟩)) ∧ IsT W r (.pointer (some ⟨a2, 0, none⟩)) := by
  obtain ⟨g', p, u1, u2, e, h1, h2, h3, hl, hr⟩ := h.arrc
  cases e
  obtain ⟨a1, rfl⟩ := hl.ptr
  obtain ⟨a2, rfl⟩ := hr.ptr
  exact ⟨p, a1, a2, h1, h2, h3, hl, hr⟩
theorem below_put {s : Nat} {w W W1 : World} {b : Nat} (h : Below s w W) (hg : W.grownBy W1 (some b)) (hb : s ≤ b) (hs : s ≤ W.heap.size) : Below s w W1 := h.grown hg hs (fun k e => by cases e; exact hb)
theorem stay_alloc (W : World) (o : Obj) : Stay W (W.alloc o) := Stay.below (below_alloc (Below.refl _ _) o)
end Go.Proofs.YteffjlhljeodpaaGreatDoor.G

namespace Go.Proofs.YteffjlhljeodpaaGreatDoor.G
open Go.RowKit Go.Proofs.YteffjlhljeodpaaGreatDoor.Uni Go.Proofs.YteffjlhljeodpaaGreatDoorW.PrintWords Go.Proofs.YteffjlhljeodpaaGreatDoorW.PrintLast Go.Proofs.YteffjlhljeodpaaGreatDoorW.PrintMore Go.Proofs.YteffjlhljeodpaaGreatDoor.Short
set_option linter.unusedVariables false
set_option linter.unusedSimpArgs false

def UniEnd (w : World) (r : Option Lk) (e : Ending) (w' : World) : Prop :=
 ((r = none ∧ e = .returned (.tuple #[.map none, .bool false])) ∨ ∃ L b, r = some L ∧ e = .returned (.tuple #[.map (some b), .bool true]) ∧ IsM w' b L.length (bnd L)) ∧ Below w.heap.size w w'
def impl_unify.T4 : Bool × List (List Nat × List Nat) := (true, [([], []), ([0], [0]), ([1], [1]), ([2], [2]), ([], []), ([3, 4], [3, 4]), ([], []), ([6], [6]), ([7], [7]), ([8], [8]), ([], []), ([9, 10, 5], [9, 10]), ([5, 11, 0, 1, 2, 3, 4, 5], [5]), ([11, 12, 0, 1, 2, 3, 4, 5, 6, 7, 8, 9, 10, 11, 12], [11])])
def impl_unify.B4 : List Nat := [0, 1, 3, 7, 0, 31, 0, 64, 192, 448, 0, 2047, 4095, 8191]
theorem impl_unify.tab4 : rtab .any (opsOf Tryz.f15 4) = impl_unify.T4 := by kernel_rfl
theorem impl_unify.bits4 : waitsOk impl_unify.T4.2 impl_unify.B4 = true := by kernel_rfl
def impl_unify.T8 : Bool × List (List Nat × List Nat) := (true, [([], []), ([0], [0]), ([1], [1]), ([2, 1], [2]), ([3], [3]), ([4, 3, 3], [3, 4]), ([3], [3]), ([6, 3], [3, 6]), ([7, 3], [3, 7]), ([8, 3], [3, 8]), ([5, 9, 5, 3], [3, 5, 9]), ([3, 10], [3, 10])])
def impl_unify.B8 : List Nat := [0, 1, 3, 7, 15, 31, 15, 79, 207, 463, 1023, 2047]
theorem impl_unify.tab8 : rtab .any (opsOf Tryz.f15 8) = impl_unify.T8 := by kernel_rfl
theorem impl_unify.bits8 : waitsOk impl_unify.T8.2 impl_unify.B8 = true := by kernel_rfl
def impl_unify.T10 : Bool × List (List Nat × List Nat) := (true, [([], []), ([0], [0]), ([1], [1]), ([2, 1], [2]), ([3], [3]), ([4, 3, 3], [3, 4]), ([3], [3]), ([6, 3], [3, 6]), ([7, 3], [3, 7]), ([8, 3], [3, 8]), ([5, 9, 5, 3], [3, 5, 9]), ([3, 10], [3, 10])])
def impl_unify.B10 : List Nat := [0, 1, 3, 7, 15, 31, 15, 79, 207, 463, 1023, 2047]
theorem impl_unify.tab10 : rtab .any (opsOf Tryz.f15 10) = impl_unify.T10 := by kernel_rfl
theorem impl_unify.bits10 : waitsOk impl_unify.T10.2 impl_unify.B10 = true := by kernel_rfl
def impl_unify.T14 : Bool × List (List Nat × List Nat) := (true, [([], []), ([0], [0]), ([1, 1], [1]), ([2], [2]), ([3, 2, 2], [2, 3]), ([2], [2]), ([5, 2], [2, 5]), ([6, 2], [2, 6]), ([7, 2], [2, 7]), ([4, 8, 4, 2], [2, 4, 8]), ([9, 2], [2, 9]), ([2, 10], [2, 10]), ([11, 9], [11])])
def impl_unify.B14 : List Nat := [0, 1, 3, 7, 15, 7, 39, 103, 231, 511, 1023, 2047, 4095]
theorem impl_unify.tab14 : rtab .any (opsOf Tryz.f15 14) = impl_unify.T14 := by kernel_rfl
theorem impl_unify.bits14 : waitsOk impl_unify.T14.2 impl_unify.B14 = true := by kernel_rfl
def impl_unify.T23 : Bool × List (List Nat × List Nat) := (true, [([], []), ([0], [0]), ([1], [1]), ([2], [2]), ([3], [3]), ([4], [4]), ([], []), ([6], [6]), ([7], [7]), ([8], [8]), ([9], [9]), ([10], [10]), ([5, 11], [5, 11]), ([], []), ([13], [13]), ([14], [14]), ([15], [15]), ([16], [16]), ([17], [17]), ([], []), ([19], [19]), ([20], [20]), ([21], [21]), ([22], [22]), ([23], [23]), ([18, 24], [18, 24]), ([12, 25], [12, 25]), ([], []), ([26, 27], [26, 27]), ([28, 28, 0, 1, 2, 3, 4, 5, 6, 7, 8, 9, 10, 11, 12, 13, 14, 15, 16, 17, 18, 19, 20, 21, 22, 23, 24, 25, 26, 27, 28], [27, 28])])
def impl_unify.B23 : List Nat := [0, 1, 3, 7, 15, 31, 0, 64, 192, 448, 960, 1984, 4095, 0, 8192, 24576, 57344, 122880, 253952, 0, 524288, 1572864, 3670016, 7864320, 16252928, 33546240, 67108863, 0, 268435455, 536870911]
theorem impl_unify.tab23 : rtab .any (opsOf Tryz.f15 23) = impl_unify.T23 := by kernel_rfl
theorem impl_unify.bits23 : waitsOk impl_unify.T23.2 impl_unify.B23 = true := by kernel_rfl
set_option maxHeartbeats 8000000 in
set_option maxRecDepth 100000 in
theorem impl_unify.calls (k : Nat) (x y : Ty) (px py : Value) (r : Option Lk) (w : World) (hx : IsT w x px) (hy : IsT w y py) (h : uni k [(x, y)] [] = some r) : Calls Tryz.prog 15 #[px, py] w (UniEnd w r) := by
 have hmm := @run_makeMap Tryz.prog
 have hu79 := Tryz.underlying79
 have hu80 := Tryz.underlying80
 have hu85 := Tryz.underlying85
 have hu83 := Tryz.underlying83
 obtain ⟨g1, rfl⟩ := hx.ptr
 obtain ⟨g2, rfl⟩ := hy.ptr
 have H' := aK h
 have bw1 : Below w.heap.size w (w.alloc (.map #[] 0)) := below_alloc (Below.refl _ _) _
 have bw2 : Below w.heap.size w ((w.alloc (.map #[] 0)).alloc (.cells #[.pointer (some ⟨g1, 0, none⟩), .pointer (some ⟨g2, 0, none⟩)] 79 (0, 0))) := below_alloc bw1 _
 have sw1 : (w.alloc (.map #[] 0)).heap.size = w.heap.size + 1 := by simp
 have hb1 := heap_alloc_new (w.alloc (.map #[] 0)) (.cells #[.pointer (some ⟨g1, 0, none⟩), .pointer (some ⟨g2, 0, none⟩)] 79 (0, 0))
 rw [sw1] at hb1
 have HQ := aK (IsQ.one hb1 (hx.below bw2) (hy.below bw2))
 have HM := aK ((IsM.made w).below (below_alloc (Below.refl _ _) (.cells #[.pointer (some ⟨g1, 0, none⟩), .pointer (some ⟨g2, 0, none⟩)] 79 (0, 0))))
 have HB := aK bw2
 clear hx hy h bw1 bw2 sw1 hb1
 go_enter Tryz.func15, Tryz.ntmps15
 go_wp2
 go_loopg [7] k (fun gk v7 w' => ∃ (q : List (Ty × Ty)) (L : Lk), Aside0 (uni gk q L = some r) ∧ Aside0 (gk ≤ k) ∧ Aside0 (IsQ w' q v7) ∧ Aside0 (IsM w' w.heap.size L.length (bnd L)) ∧ Aside0 (Below w.heap.size w w'))
 case atStart => exact ⟨[(x, y)], [], H', ⟨Nat.le_refl _⟩, HQ, HM, HB⟩
 case round =>
  clear H' HQ HM HB
  obtain ⟨q, L, HA, HK1, HQ, HM, HB⟩ := hrel
  cases gk with
  | zero => exact absurd HA.out (by simp [uni])
  | succ k1 =>
   cases q with
   | nil =>
    obtain ⟨gq, oq, csq, cq, rfl, hq⟩ := HQ.out
    have z0 : (([] : List (Ty × Ty)).length : Int) = 0 := rfl
    have HR : Aside0 (r = some L) := ⟨by have := HA.out; rw [uni_nil] at this; exact (Option.some.inj this).symm⟩
    clear HA HQ hq
    simp only [List.length_nil]
    go_wp2
    go_ret2
    exact ⟨.inr ⟨L, w.heap.size, HR.out, rfl, HM.out⟩, HB.out⟩
   | cons p q =>
    obtain ⟨a, b⟩ := p
    obtain ⟨gq, oq, cq, p1, p2, rfl, hcq, c0, c1, ia, ib, iq⟩ := HQ.out.head
    have z0 : decide ((0 : Int) < ((q.length + 1 : Nat) : Int)) = true := decide_eq_true (by omega)
    have HF := aK (uni_fit HA.out)
    have IA := aK ia
    have IB := aK ib
    have IQ := aK iq
    have CQ := aK hcq
    clear HQ ia ib iq hcq
    go_upto_region 4 with fail
    refine start_ (n := 14) (S := fun w' => w'.cell? ⟨gq, oq, none⟩ = some (.pointer (some ⟨p1, 0, none⟩)) ∧ w'.cell? ⟨gq, oq + 1, none⟩ = some (.pointer (some ⟨p2, 0, none⟩))) (ds := []) (bs 0 14) (by kernel_rfl) rfl rfl ⟨c0, c1⟩ (fun hHeld => ?_); refine with_tabW impl_unify.tab4 impl_unify.bits4 (fun HT_ HW_ => ?_)
    have HD : Aside0 (Below wr.heap.size wr wr.drew) := ⟨below_drew1 (Below.refl _ _)⟩
    have HB1 := aK (below_step HB.out HD.out)
    have IA1 := aK (IA.out.below HD.out)
    have IB1 := aK (IB.out.below HD.out)
    have IQ1 := aK (IQ.out.stay (Stay.below HD.out))
    have HM1 := aK (HM.out.below HD.out)
    clear HB IA IB IQ HM HD c0 c1
    generalize wr.drew = w1 at HB1 IA1 IB1 IQ1 HM1 hHeld ⊢
    refine pQ 0 20 HT_ ?_
    refine pQ 1 21 HT_ ?_
    refine pQ 2 22 HT_ ?_
    refine pQ 4 24 HT_ ?_
    refine pQ 6 26 HT_ ?_
    refine pQ 7 27 HT_ ?_
    refine pQ 8 28 HT_ ?_
    refine pQ 10 30 HT_ ?_
    refine tQ 3 23 HT_ HW_ hHeld ?_
    refine tQ 9 29 HT_ HW_ hHeld ?_
    refine oQ 5 25 HT_ (fun K hK => ?_)
    refine goes_ Tryz.func23 (by kernel_rfl) rfl #[.pointer (some ⟨p1, 0, none⟩), .map (some w.heap.size)] (by rfl) rfl rfl tA ?_
    refine (impl_typ_apply.calls a _ w.heap.size L.length (bnd L) _ IA1.out HF.out.2.2.1.1 HM1.out).mono ?_
    rintro _ w2 ⟨y1, rfl, hi, hb⟩
    obtain ⟨d1, rfl⟩ := hi.ptr
    refine ⟨_, rfl, ?_⟩
    have HB2 := aK (below_step HB1.out hb)
    have X2 := aK hi
    have IB2 := aK (IB1.out.below hb)
    have IQ2 := aK (IQ1.out.stay (Stay.below hb))
    have HM2 := aK (HM1.out.below hb)
    refine hK.out _ _ ⟨(hb.cell (World.block_lt_of_cell? _ _ hHeld.1)).trans hHeld.1, (hb.cell (World.block_lt_of_cell? _ _ hHeld.2)).trans hHeld.2⟩ (fun hHeld => ?_)
    clear hb hi HB1 IA1 IB1 IQ1 HM1
    clear hK K
    refine nQ 25 ?_
    refine oQ 11 31 HT_ (fun K hK => ?_)
    refine goes_ Tryz.func23 (by kernel_rfl) rfl #[.pointer (some ⟨p2, 0, none⟩), .map (some w.heap.size)] (by rfl) rfl rfl tA ?_
    refine (impl_typ_apply.calls b _ w.heap.size L.length (bnd L) _ IB2.out HF.out.2.2.2.1.1 HM2.out).mono ?_
    rintro _ w3 ⟨y2, rfl, hi, hb⟩
    obtain ⟨d2, rfl⟩ := hi.ptr
    refine ⟨_, rfl, ?_⟩
    have HB3 := aK (below_step HB2.out hb)
    have X3 := aK (X2.out.below hb)
    have Y3 := aK hi
    have IQ3 := aK (IQ2.out.stay (Stay.below hb))
    have HM3 := aK (HM2.out.below hb)
    refine hK.out _ _ ⟨(hb.cell (World.block_lt_of_cell? _ _ hHeld.1)).trans hHeld.1, (hb.cell (World.block_lt_of_cell? _ _ hHeld.2)).trans hHeld.2⟩ (fun hHeld => ?_)
    clear hb hi HB2 X2 IB2 IQ2 HM2
    clear hK K
    refine nQ 31 ?_
    refine pQ 12 8 HT_ ?_
    refine pQ 13 9 HT_ ?_
    refine done_ (done_of HT_.out (by kernel_rfl)) ?_
    obtain ⟨xa, hxa⟩ : ∃ t, t = a.apply (bnd L) := ⟨_, rfl⟩
    obtain ⟨xb, hxb⟩ : ∃ t, t = b.apply (bnd L) := ⟨_, rfl⟩
    rw [← hxa] at X3
    rw [← hxb] at Y3
    have EA := aK hxa
    have EB := aK hxb
    clear hxa hxb
    go_upto_region 6 with fail
    generalize (Value.slice (if cq = 1 then some ⟨gq, oq, none⟩ else some ⟨gq, oq + 2, none⟩) q.length (cq - 1)) = vq at IQ3 ⊢
    have NA : Aside0 (xa.nodes ≤ 1099511627776) := ⟨by rw [EA.out]; exact HF.out.2.2.1.2⟩
    have NB : Aside0 (xb.nodes ≤ 1099511627776) := ⟨by rw [EB.out]; exact HF.out.2.2.2.1.2⟩
    by_cases ga : xa.good = true
    case neg =>
     have GA := aK (Bool.eq_false_iff.mpr ga)
     have HR : Aside0 (r = none) := ⟨by
      have e := HA.out
      rw [uni_fail HF.out (by rw [← EA.out, ← EB.out]; unfold turn; rw [if_neg ga])] at e
      exact (Option.some.inj e).symm⟩
     clear ga
     go_wp2_with (first
      | (go_at_call 24; (with_reducible refine (impl_typ_isGood.calls xa _ _ ?s1 ?s2).mono ?_); (case s1 => exact X3.out); (case s2 => exact NA.out); rintro _ w4 ⟨rfl, hb⟩; rw [GA.out]; have HB4 := aK (below_step HB3.out hb); clear hb))
     go_ret2
     exact ⟨.inl ⟨HR.out, rfl⟩, HB4.out⟩
    have GA := aK ga
    clear ga
    by_cases gb : xb.good = true
    case neg =>
     have GB := aK (Bool.eq_false_iff.mpr gb)
     have HR : Aside0 (r = none) := ⟨by
      have e := HA.out
      rw [uni_fail HF.out (by rw [← EA.out, ← EB.out]; unfold turn; rw [if_pos GA.out, if_neg gb])] at e
      exact (Option.some.inj e).symm⟩
     clear gb
     go_wp2_with (first
      | (go_at_call 24; (with_reducible refine (impl_typ_isGood.calls xa _ _ ?s1 ?s2).mono ?_); (case s1 => exact X3.out); (case s2 => exact NA.out); rintro _ w4 ⟨rfl, hb⟩; rw [GA.out]; have HB4 := aK (below_step HB3.out hb); have Y4 := aK (Y3.out.below hb); clear hb X3)
      | (go_at_call 24; (with_reducible refine (impl_typ_isGood.calls xb _ _ ?s1 ?s2).mono ?_); (case s1 => exact Y4.out); (case s2 => exact NB.out); rintro _ w5 ⟨rfl, hb⟩; rw [GB.out]; have HB5 := aK (below_step HB4.out hb); clear hb))
     go_ret2
     exact ⟨.inl ⟨HR.out, rfl⟩, HB5.out⟩
    have GB := aK gb
    clear gb
    go_upto_region 8 with (first
     | (go_at_call 24; (with_reducible refine (impl_typ_isGood.calls xa _ _ ?s1 ?s2).mono ?_); (case s1 => exact X3.out); (case s2 => exact NA.out); rintro _ w4 ⟨rfl, hb⟩; rw [GA.out]; have HB4 := aK (below_step HB3.out hb); have Y4 := aK (Y3.out.below hb); have X4 := aK (X3.out.below hb); have IQ4 := aK (IQ3.out.stay (Stay.below hb)); have HM4 := aK (HM3.out.below hb); clear hb X3 Y3 HB3 IQ3 HM3)
     | (go_at_call 24; (with_reducible refine (impl_typ_isGood.calls xb _ _ ?s1 ?s2).mono ?_); (case s1 => exact Y4.out); (case s2 => exact NB.out); rintro _ w5 ⟨rfl, hb⟩; rw [GB.out]; have HB5 := aK (below_step HB4.out hb); have Y5 := aK (Y4.out.below hb); have X5 := aK (X4.out.below hb); have IQ5 := aK (IQ4.out.stay (Stay.below hb)); have HM5 := aK (HM4.out.below hb); clear hb X4 Y4 HB4 IQ4 HM4))
    have B5 : Aside0 (Below w5.heap.size w5 w5) := ⟨Below.refl _ _⟩
    go_cut [53] (fun v53 wc => v53 = .bool (occ xa xb) ∧ Aside0 (Below w5.heap.size w5 wc))
    case first =>
     clear HB5 IQ5 HM5 HA HF GA GB EA EB NA
     cases xa with
     | v n =>
      by_cases m : n ∈ (xb).vars
      ·have zm : decide (n ∈ (xb).vars) = true := decide_eq_true m
       have hc0 := IsT.at (X5.out.below B5.out)
       refine start_ (n := 12) (S := fun w' => w'.cell? ⟨d1, 0, none⟩ = some (.int .i64 n)) (ds := []) (bs 0 12) (by kernel_rfl) rfl rfl hc0 (fun hHeld => ?_); refine with_tabW impl_unify.tab8 impl_unify.bits8 (fun HT_ HW_ => ?_)
       have BJ := aK (below_drew1 B5.out)
       clear B5 hc0
       generalize World.drew _ = wj at BJ hHeld ⊢
       refine pQ 0 42 HT_ ?_
       refine oQ 1 43 HT_ (fun K hK => ?_)
       refine goes_ Tryz.func35 (by kernel_rfl) rfl #[.pointer (some ⟨d1, 0, none⟩)] (by rfl) rfl rfl tA ?_
       refine (impl_typ_isVar.calls (t := .v n) _ (X5.out.below BJ.out)).mono ?_
       rintro _ wk ⟨rfl, hb⟩
       rw [isVar_v]
       refine ⟨_, rfl, ?_⟩
       have BK := aK (below_step BJ.out hb)
       refine hK.out _ _ ((hb.cell (World.block_lt_of_cell? _ _ hHeld)).trans hHeld) (fun hHeld => ?_)
       clear hb BJ
       clear hK K
       refine nQ 43 ?_
       refine pQ 2 44 HT_ ?_
       refine pQ 3 45 HT_ ?_
       refine pQ 4 46 HT_ ?_
       refine pQ 6 48 HT_ ?_
       refine pQ 7 49 HT_ ?_
       refine pQ 8 50 HT_ ?_
       refine tQ 9 51 HT_ HW_ hHeld ?_
       refine oQ 5 47 HT_ (fun K hK => ?_)
       refine goes_ Tryz.func37 (by kernel_rfl) rfl #[.pointer (some ⟨d2, 0, none⟩)] (by rfl) rfl rfl tA ?_
       refine (impl_typ_vars.calls (xb) _ _ (Y5.out.below BK.out) NB.out).mono ?_
       rintro _ wl ⟨vl, rfl, hR, hb⟩
       obtain ⟨Al, cl, rfl⟩ := Kd.R_slice hR
       refine ⟨_, rfl, ?_⟩
       have BL := aK (below_step BK.out hb)
       have RL := aK hR
       refine hK.out _ _ ((hb.cell (World.block_lt_of_cell? _ _ hHeld)).trans hHeld) (fun hHeld => ?_)
       clear hb BK hR
       clear hK K
       refine nQ 47 ?_
       refine oQ 10 52 HT_ (fun K hK => ?_)
       refine goes_ Tryz.func36 (by kernel_rfl) rfl #[.slice Al (xb).vars.length cl, .int .i64 n] (by rfl) rfl rfl tA ?_
       refine (slices_Contains_int_int.calls ((xb).vars.length + 1) Al cl (xb).vars n true _ (Kd.R_reads' RL.out).2.2 (Kd.R_reads' RL.out).2.1 (by rw [has_f (xb).vars n (by have := (xb).vars_len; have := NB.out; omega), zm])).mono ?_
       rintro _ wm ⟨rfl, hb0⟩
       have hb := hb0.below
       clear hb0
       refine ⟨_, rfl, ?_⟩
       have B6 := aK (below_step BL.out hb)
       refine hK.out _ _ ((hb.cell (World.block_lt_of_cell? _ _ hHeld)).trans hHeld) (fun hHeld => ?_)
       clear hb BL RL
       clear hK K
       refine nQ 52 ?_
       refine pQ 11 53 HT_ ?_
       refine done_ (done_of HT_.out (by kernel_rfl)) ?_
       clear hHeld
       go_wp2
       go_meet
       case rel => exact ⟨by rw [occ_v, zm], B6⟩
      ·have zm : decide (n ∈ (xb).vars) = false := decide_eq_false m
       have hc0 := IsT.at (X5.out.below B5.out)
       refine start_ (n := 12) (S := fun w' => w'.cell? ⟨d1, 0, none⟩ = some (.int .i64 n)) (ds := []) (bs 0 12) (by kernel_rfl) rfl rfl hc0 (fun hHeld => ?_); refine with_tabW impl_unify.tab8 impl_unify.bits8 (fun HT_ HW_ => ?_)
       have BJ := aK (below_drew1 B5.out)
       clear B5 hc0
       generalize World.drew _ = wj at BJ hHeld ⊢
       refine pQ 0 42 HT_ ?_
       refine oQ 1 43 HT_ (fun K hK => ?_)
       refine goes_ Tryz.func35 (by kernel_rfl) rfl #[.pointer (some ⟨d1, 0, none⟩)] (by rfl) rfl rfl tA ?_
       refine (impl_typ_isVar.calls (t := .v n) _ (X5.out.below BJ.out)).mono ?_
       rintro _ wk ⟨rfl, hb⟩
       rw [isVar_v]
       refine ⟨_, rfl, ?_⟩
       have BK := aK (below_step BJ.out hb)
       refine hK.out _ _ ((hb.cell (World.block_lt_of_cell? _ _ hHeld)).trans hHeld) (fun hHeld => ?_)
       clear hb BJ
       clear hK K
       refine nQ 43 ?_
       refine pQ 2 44 HT_ ?_
       refine pQ 3 45 HT_ ?_
       refine pQ 4 46 HT_ ?_
       refine pQ 6 48 HT_ ?_
       refine pQ 7 49 HT_ ?_
       refine pQ 8 50 HT_ ?_
       refine tQ 9 51 HT_ HW_ hHeld ?_
       refine oQ 5 47 HT_ (fun K hK => ?_)
       refine goes_ Tryz.func37 (by kernel_rfl) rfl #[.pointer (some ⟨d2, 0, none⟩)] (by rfl) rfl rfl tA ?_
       refine (impl_typ_vars.calls (xb) _ _ (Y5.out.below BK.out) NB.out).mono ?_
       rintro _ wl ⟨vl, rfl, hR, hb⟩
       obtain ⟨Al, cl, rfl⟩ := Kd.R_slice hR
       refine ⟨_, rfl, ?_⟩
       have BL := aK (below_step BK.out hb)
       have RL := aK hR
       refine hK.out _ _ ((hb.cell (World.block_lt_of_cell? _ _ hHeld)).trans hHeld) (fun hHeld => ?_)
       clear hb BK hR
       clear hK K
       refine nQ 47 ?_
       refine oQ 10 52 HT_ (fun K hK => ?_)
       refine goes_ Tryz.func36 (by kernel_rfl) rfl #[.slice Al (xb).vars.length cl, .int .i64 n] (by rfl) rfl rfl tA ?_
       refine (slices_Contains_int_int.calls ((xb).vars.length + 1) Al cl (xb).vars n false _ (Kd.R_reads' RL.out).2.2 (Kd.R_reads' RL.out).2.1 (by rw [has_f (xb).vars n (by have := (xb).vars_len; have := NB.out; omega), zm])).mono ?_
       rintro _ wm ⟨rfl, hb0⟩
       have hb := hb0.below
       clear hb0
       refine ⟨_, rfl, ?_⟩
       have B6 := aK (below_step BL.out hb)
       refine hK.out _ _ ((hb.cell (World.block_lt_of_cell? _ _ hHeld)).trans hHeld) (fun hHeld => ?_)
       clear hb BL RL
       clear hK K
       refine nQ 52 ?_
       refine pQ 11 53 HT_ ?_
       refine done_ (done_of HT_.out (by kernel_rfl)) ?_
       clear hHeld
       go_wp2
       go_meet
       case rel => exact ⟨by rw [occ_v, zm], B6⟩
     | a l s =>
      refine start_ (n := 12) (S := fun w' => True) (ds := []) (bs 0 12) (by kernel_rfl) rfl rfl trivial (fun hHeld => ?_); refine with_tabW impl_unify.tab8 impl_unify.bits8 (fun HT_ HW_ => ?_)
      have BJ := aK (below_drew1 B5.out)
      clear B5
      generalize World.drew _ = wj at BJ hHeld ⊢
      refine pQ 0 42 HT_ ?_
      refine oQ 1 43 HT_ (fun K hK => ?_)
      refine goes_ Tryz.func35 (by kernel_rfl) rfl #[.pointer (some ⟨d1, 0, none⟩)] (by rfl) rfl rfl tA ?_
      refine (impl_typ_isVar.calls (t := .a l s) _ (X5.out.below BJ.out)).mono ?_
      rintro _ wk ⟨rfl, hb⟩
      rw [isVar_a]
      refine ⟨_, rfl, ?_⟩
      have BK := aK (below_step BJ.out hb)
      have B6 := aK BK.out
      refine hK.out _ _ trivial (fun hHeld => ?_)
      clear hb BJ BK
      clear hK K
      refine nQ 43 ?_
      refine pQ 2 44 HT_ ?_
      refine pQ 3 45 HT_ ?_
      refine uQ 4 46 HT_ ?_
      refine uQ 5 47 HT_ ?_
      refine uQ 6 48 HT_ ?_
      refine uQ 7 49 HT_ ?_
      refine uQ 8 50 HT_ ?_
      refine uQ 9 51 HT_ ?_
      refine uQ 10 52 HT_ ?_
      refine pQ 11 53 HT_ ?_
      refine done_ (done_of HT_.out (by kernel_rfl)) ?_
      clear hHeld
      go_wp2
      go_meet
      case rel => exact ⟨rfl, B6⟩
    case rest =>
     clear B5
     obtain ⟨rfl, B6⟩ := hcut
     go_upto_if 53 with fail
     go_cut [8, 9] (fun v8 v9 wd => ∃ d8 d9, v8 = .pointer (some ⟨d8, 0, none⟩) ∧ v9 = .pointer (some ⟨d9, 0, none⟩) ∧ Aside0 (IsT wd (swp xa xb).1 (.pointer (some ⟨d8, 0, none⟩))) ∧ Aside0 (IsT wd (swp xa xb).2 (.pointer (some ⟨d9, 0, none⟩))) ∧ Aside0 (Below w5.heap.size w5 wd))
     case first =>
      clear HB5 IQ5 HM5 HA HF GA GB EA EB
      by_cases c : occ xa xb = true
      ·rw [c]
       go_upto_region 10 with fail
       go_cut [67] (fun v67 we => v67 = .bool (occ xb xa) ∧ Aside0 (Below w5.heap.size w5 we))
       case first =>
        clear c NB
        cases xb with
        | v n =>
         by_cases m : n ∈ (xa).vars
         ·have zm : decide (n ∈ (xa).vars) = true := decide_eq_true m
          have hc0 := IsT.at (Y5.out.below B6.out)
          refine start_ (n := 12) (S := fun w' => w'.cell? ⟨d2, 0, none⟩ = some (.int .i64 n)) (ds := []) (bs 0 12) (by kernel_rfl) rfl rfl hc0 (fun hHeld => ?_); refine with_tabW impl_unify.tab10 impl_unify.bits10 (fun HT_ HW_ => ?_)
          have BJ := aK (below_drew1 B6.out)
          clear B6 hc0
          generalize World.drew _ = wj at BJ hHeld ⊢
          refine pQ 0 56 HT_ ?_
          refine oQ 1 57 HT_ (fun K hK => ?_)
          refine goes_ Tryz.func35 (by kernel_rfl) rfl #[.pointer (some ⟨d2, 0, none⟩)] (by rfl) rfl rfl tA ?_
          refine (impl_typ_isVar.calls (t := .v n) _ (Y5.out.below BJ.out)).mono ?_
          rintro _ wk ⟨rfl, hb⟩
          rw [isVar_v]
          refine ⟨_, rfl, ?_⟩
          have BK := aK (below_step BJ.out hb)
          refine hK.out _ _ ((hb.cell (World.block_lt_of_cell? _ _ hHeld)).trans hHeld) (fun hHeld => ?_)
          clear hb BJ
          clear hK K
          refine nQ 57 ?_
          refine pQ 2 58 HT_ ?_
          refine pQ 3 59 HT_ ?_
          refine pQ 4 60 HT_ ?_
          refine pQ 6 62 HT_ ?_
          refine pQ 7 63 HT_ ?_
          refine pQ 8 64 HT_ ?_
          refine tQ 9 65 HT_ HW_ hHeld ?_
          refine oQ 5 61 HT_ (fun K hK => ?_)
          refine goes_ Tryz.func37 (by kernel_rfl) rfl #[.pointer (some ⟨d1, 0, none⟩)] (by rfl) rfl rfl tA ?_
          refine (impl_typ_vars.calls (xa) _ _ (X5.out.below BK.out) NA.out).mono ?_
          rintro _ wl ⟨vl, rfl, hR, hb⟩
          obtain ⟨Al, cl, rfl⟩ := Kd.R_slice hR
          refine ⟨_, rfl, ?_⟩
          have BL := aK (below_step BK.out hb)
          have RL := aK hR
          refine hK.out _ _ ((hb.cell (World.block_lt_of_cell? _ _ hHeld)).trans hHeld) (fun hHeld => ?_)
          clear hb BK hR
          clear hK K
          refine nQ 61 ?_
          refine oQ 10 66 HT_ (fun K hK => ?_)
          refine goes_ Tryz.func36 (by kernel_rfl) rfl #[.slice Al (xa).vars.length cl, .int .i64 n] (by rfl) rfl rfl tA ?_
          refine (slices_Contains_int_int.calls ((xa).vars.length + 1) Al cl (xa).vars n true _ (Kd.R_reads' RL.out).2.2 (Kd.R_reads' RL.out).2.1 (by rw [has_f (xa).vars n (by have := (xa).vars_len; have := NA.out; omega), zm])).mono ?_
          rintro _ wm ⟨rfl, hb0⟩
          have hb := hb0.below
          clear hb0
          refine ⟨_, rfl, ?_⟩
          have B7 := aK (below_step BL.out hb)
          refine hK.out _ _ ((hb.cell (World.block_lt_of_cell? _ _ hHeld)).trans hHeld) (fun hHeld => ?_)
          clear hb BL RL
          clear hK K
          refine nQ 66 ?_
          refine pQ 11 67 HT_ ?_
          refine done_ (done_of HT_.out (by kernel_rfl)) ?_
          clear hHeld
          go_wp2
          go_meet
          case rel => exact ⟨by rw [occ_v, zm], B7⟩
         ·have zm : decide (n ∈ (xa).vars) = false := decide_eq_false m
          have hc0 := IsT.at (Y5.out.below B6.out)
          refine start_ (n := 12) (S := fun w' => w'.cell? ⟨d2, 0, none⟩ = some (.int .i64 n)) (ds := []) (bs 0 12) (by kernel_rfl) rfl rfl hc0 (fun hHeld => ?_); refine with_tabW impl_unify.tab10 impl_unify.bits10 (fun HT_ HW_ => ?_)
          have BJ := aK (below_drew1 B6.out)
          clear B6 hc0
          generalize World.drew _ = wj at BJ hHeld ⊢
          refine pQ 0 56 HT_ ?_
          refine oQ 1 57 HT_ (fun K hK => ?_)
          refine goes_ Tryz.func35 (by kernel_rfl) rfl #[.pointer (some ⟨d2, 0, none⟩)] (by rfl) rfl rfl tA ?_
          refine (impl_typ_isVar.calls (t := .v n) _ (Y5.out.below BJ.out)).mono ?_
          rintro _ wk ⟨rfl, hb⟩
          rw [isVar_v]
          refine ⟨_, rfl, ?_⟩
          have BK := aK (below_step BJ.out hb)
          refine hK.out _ _ ((hb.cell (World.block_lt_of_cell? _ _ hHeld)).trans hHeld) (fun hHeld => ?_)
          clear hb BJ
          clear hK K
          refine nQ 57 ?_
          refine pQ 2 58 HT_ ?_
          refine pQ 3 59 HT_ ?_
          refine pQ 4 60 HT_ ?_
          refine pQ 6 62 HT_ ?_
          refine pQ 7 63 HT_ ?_
          refine pQ 8 64 HT_ ?_
          refine tQ 9 65 HT_ HW_ hHeld ?_
          refine oQ 5 61 HT_ (fun K hK => ?_)
          refine goes_ Tryz.func37 (by kernel_rfl) rfl #[.pointer (some ⟨d1, 0, none⟩)] (by rfl) rfl rfl tA ?_
          refine (impl_typ_vars.calls (xa) _ _ (X5.out.below BK.out) NA.out).mono ?_
          rintro _ wl ⟨vl, rfl, hR, hb⟩
          obtain ⟨Al, cl, rfl⟩ := Kd.R_slice hR
          refine ⟨_, rfl, ?_⟩
          have BL := aK (below_step BK.out hb)
          have RL := aK hR
          refine hK.out _ _ ((hb.cell (World.block_lt_of_cell? _ _ hHeld)).trans hHeld) (fun hHeld => ?_)
          clear hb BK hR
          clear hK K
          refine nQ 61 ?_
          refine oQ 10 66 HT_ (fun K hK => ?_)
          refine goes_ Tryz.func36 (by kernel_rfl) rfl #[.slice Al (xa).vars.length cl, .int .i64 n] (by rfl) rfl rfl tA ?_
          refine (slices_Contains_int_int.calls ((xa).vars.length + 1) Al cl (xa).vars n false _ (Kd.R_reads' RL.out).2.2 (Kd.R_reads' RL.out).2.1 (by rw [has_f (xa).vars n (by have := (xa).vars_len; have := NA.out; omega), zm])).mono ?_
          rintro _ wm ⟨rfl, hb0⟩
          have hb := hb0.below
          clear hb0
          refine ⟨_, rfl, ?_⟩
          have B7 := aK (below_step BL.out hb)
          refine hK.out _ _ ((hb.cell (World.block_lt_of_cell? _ _ hHeld)).trans hHeld) (fun hHeld => ?_)
          clear hb BL RL
          clear hK K
          refine nQ 66 ?_
          refine pQ 11 67 HT_ ?_
          refine done_ (done_of HT_.out (by kernel_rfl)) ?_
          clear hHeld
          go_wp2
          go_meet
          case rel => exact ⟨by rw [occ_v, zm], B7⟩
        | a l s =>
         refine start_ (n := 12) (S := fun w' => True) (ds := []) (bs 0 12) (by kernel_rfl) rfl rfl trivial (fun hHeld => ?_); refine with_tabW impl_unify.tab10 impl_unify.bits10 (fun HT_ HW_ => ?_)
         have BJ := aK (below_drew1 B6.out)
         clear B6
         generalize World.drew _ = wj at BJ hHeld ⊢
         refine pQ 0 56 HT_ ?_
         refine oQ 1 57 HT_ (fun K hK => ?_)
         refine goes_ Tryz.func35 (by kernel_rfl) rfl #[.pointer (some ⟨d2, 0, none⟩)] (by rfl) rfl rfl tA ?_
         refine (impl_typ_isVar.calls (t := .a l s) _ (Y5.out.below BJ.out)).mono ?_
         rintro _ wk ⟨rfl, hb⟩
         rw [isVar_a]
         refine ⟨_, rfl, ?_⟩
         have BK := aK (below_step BJ.out hb)
         have B7 := aK BK.out
         refine hK.out _ _ trivial (fun hHeld => ?_)
         clear hb BJ BK
         clear hK K
         refine nQ 57 ?_
         refine pQ 2 58 HT_ ?_
         refine pQ 3 59 HT_ ?_
         refine uQ 4 60 HT_ ?_
         refine uQ 5 61 HT_ ?_
         refine uQ 6 62 HT_ ?_
         refine uQ 7 63 HT_ ?_
         refine uQ 8 64 HT_ ?_
         refine uQ 9 65 HT_ ?_
         refine uQ 10 66 HT_ ?_
         refine pQ 11 67 HT_ ?_
         refine done_ (done_of HT_.out (by kernel_rfl)) ?_
         clear hHeld
         go_wp2
         go_meet
         case rel => exact ⟨rfl, B7⟩
       case rest =>
        clear B6
        obtain ⟨rfl, B7⟩ := hcut
        by_cases c2 : occ xb xa = true
        ·have SW : Aside0 (swp xa xb = (xa, xb)) := ⟨by unfold swp; rw [if_pos c, if_pos c2]⟩
         rw [c2]
         go_wp2
         go_meet
         case rel => exact ⟨d1, d2, rfl, rfl, ⟨by rw [SW.out]; exact X5.out.below B7.out⟩, ⟨by rw [SW.out]; exact Y5.out.below B7.out⟩, B7⟩
        ·have SW : Aside0 (swp xa xb = (xb, xa)) := ⟨by unfold swp; rw [if_pos c, if_neg c2]⟩
         have c3 : occ xb xa = false := Bool.eq_false_iff.mpr c2
         rw [c3]
         go_wp2
         go_meet
         case rel => exact ⟨d2, d1, rfl, rfl, ⟨by rw [SW.out]; exact Y5.out.below B7.out⟩, ⟨by rw [SW.out]; exact X5.out.below B7.out⟩, B7⟩
      ·have SW : Aside0 (swp xa xb = (xa, xb)) := ⟨by unfold swp; rw [if_neg c]⟩
       have c3 : occ xa xb = false := Bool.eq_false_iff.mpr c
       rw [c3]
       go_wp2
       go_meet
       case rel => exact ⟨d1, d2, rfl, rfl, ⟨by rw [SW.out]; exact X5.out.below B6.out⟩, ⟨by rw [SW.out]; exact Y5.out.below B6.out⟩, B6⟩
     case rest =>
      clear B6
      obtain ⟨d8, d9, rfl, rfl, X8, Y8, B8⟩ := hcut
      obtain ⟨xx, hxx⟩ : ∃ t, t = (swp xa xb).1 := ⟨_, rfl⟩
      obtain ⟨yy, hyy⟩ : ∃ t, t = (swp xa xb).2 := ⟨_, rfl⟩
      rw [← hxx] at X8
      rw [← hyy] at Y8
      have TT : Aside0 (turn (a.apply (bnd L)) (b.apply (bnd L)) = turn2 xx yy) := ⟨by rw [← EA.out, ← EB.out, hxx, hyy]; unfold turn; rw [if_pos GA.out, if_pos GB.out]⟩
      have GX : Aside0 (xx.good = true ∧ yy.good = true) := ⟨by
       rw [hxx, hyy]
       rcases swp_cases xa xb with e | e
       ·rw [e]; exact ⟨GA.out, GB.out⟩
       ·rw [e]; exact ⟨GB.out, GA.out⟩⟩
      have MY : Aside0 (yy.nodes ≤ 1099511627776) := ⟨Nat.le_trans (good_nodes GX.out.2) (by omega)⟩
      have HB8 := aK (below_step HB5.out B8.out)
      have HM8 := aK (HM5.out.below B8.out)
      have IQ8 := aK (IQ5.out.stay (Stay.below B8.out))
      clear HB5 HM5 IQ5 B8 hxx hyy X5 Y5 EA EB NA NB GA GB
      by_cases cs : xx.same yy = true
      ·have HN : Aside0 (uni k1 q L = some r) := ⟨by have e := HA.out; rw [uni_skip HF.out (by rw [TT.out]; exact turn2_same cs)] at e; exact e⟩
       go_wp2_with (first
        | (go_at_call 38; (with_reducible refine (impl_typ_isSame.calls xx yy _ _ _ ?s1 ?s2).mono ?_); (case s1 => exact X8.out); (case s2 => exact Y8.out); rintro _ we ⟨rfl, hb⟩; rw [cs]; have HB9 := aK (below_step HB8.out hb); have HM9 := aK (HM8.out.below hb); have IQ9 := aK (IQ8.out.stay (Stay.below hb)); clear hb))
       go_roundg k1
       case measure => have := HK1.out; omega
       case rel => exact ⟨q, L, HN, ⟨by have := HK1.out; omega⟩, IQ9, HM9, HB9⟩
      ·have cs' : xx.same yy = false := Bool.eq_false_iff.mpr cs
       go_upto_region 14 with (first
        | (go_at_call 38; (with_reducible refine (impl_typ_isSame.calls xx yy _ _ _ ?s1 ?s2).mono ?_); (case s1 => exact X8.out); (case s2 => exact Y8.out); rintro _ we ⟨rfl, hb⟩; rw [cs']; have HB9 := aK (below_step HB8.out hb); have HM9 := aK (HM8.out.below hb); have IQ9 := aK (IQ8.out.stay (Stay.below hb)); have X9 := aK (X8.out.below hb); have Y9 := aK (Y8.out.below hb); clear hb HB8 HM8 IQ8 X8 Y8))
       have B9 : Aside0 (Below we.heap.size we we) := ⟨Below.refl _ _⟩
       go_cut [74] (fun v74 wf => v74 = .bool (!occ xx yy) ∧ Aside0 (Below we.heap.size we wf))
       case first =>
        clear HB9 HM9 IQ9 HA HF TT GX cs cs'
        cases xx with
        | v n =>
         by_cases m : n ∈ (yy).vars
         ·have zm : decide (n ∈ (yy).vars) = true := decide_eq_true m
          have hc0 := IsT.at (X9.out.below B9.out)
          refine start_ (n := 13) (S := fun w' => w'.cell? ⟨d8, 0, none⟩ = some (.int .i64 n)) (ds := []) (bs 0 13) (by kernel_rfl) rfl rfl hc0 (fun hHeld => ?_); refine with_tabW impl_unify.tab14 impl_unify.bits14 (fun HT_ HW_ => ?_)
          have BJ := aK (below_drew1 B9.out)
          clear B9 hc0
          generalize World.drew _ = wj at BJ hHeld ⊢
          refine pQ 0 75 HT_ ?_
          refine oQ 1 76 HT_ (fun K hK => ?_)
          refine goes_ Tryz.func35 (by kernel_rfl) rfl #[.pointer (some ⟨d8, 0, none⟩)] (by rfl) rfl rfl tA ?_
          refine (impl_typ_isVar.calls (t := .v n) _ (X9.out.below BJ.out)).mono ?_
          rintro _ wk ⟨rfl, hb⟩
          rw [isVar_v]
          refine ⟨_, rfl, ?_⟩
          have BK := aK (below_step BJ.out hb)
          refine hK.out _ _ ((hb.cell (World.block_lt_of_cell? _ _ hHeld)).trans hHeld) (fun hHeld => ?_)
          clear hb BJ
          clear hK K
          refine nQ 76 ?_
          refine pQ 2 77 HT_ ?_
          refine pQ 3 78 HT_ ?_
          refine pQ 5 80 HT_ ?_
          refine pQ 6 81 HT_ ?_
          refine pQ 7 82 HT_ ?_
          refine tQ 8 83 HT_ HW_ hHeld ?_
          refine oQ 4 79 HT_ (fun K hK => ?_)
          refine goes_ Tryz.func37 (by kernel_rfl) rfl #[.pointer (some ⟨d9, 0, none⟩)] (by rfl) rfl rfl tA ?_
          refine (impl_typ_vars.calls (yy) _ _ (Y9.out.below BK.out) MY.out).mono ?_
          rintro _ wl ⟨vl, rfl, hR, hb⟩
          obtain ⟨Al, cl, rfl⟩ := Kd.R_slice hR
          refine ⟨_, rfl, ?_⟩
          have BL := aK (below_step BK.out hb)
          have RL := aK hR
          refine hK.out _ _ ((hb.cell (World.block_lt_of_cell? _ _ hHeld)).trans hHeld) (fun hHeld => ?_)
          clear hb BK hR
          clear hK K
          refine nQ 79 ?_
          refine oQ 9 84 HT_ (fun K hK => ?_)
          refine goes_ Tryz.func36 (by kernel_rfl) rfl #[.slice Al (yy).vars.length cl, .int .i64 n] (by rfl) rfl rfl tA ?_
          refine (slices_Contains_int_int.calls ((yy).vars.length + 1) Al cl (yy).vars n true _ (Kd.R_reads' RL.out).2.2 (Kd.R_reads' RL.out).2.1 (by rw [has_f (yy).vars n (by have := (yy).vars_len; have := MY.out; omega), zm])).mono ?_
          rintro _ wm ⟨rfl, hb0⟩
          have hb := hb0.below
          clear hb0
          refine ⟨_, rfl, ?_⟩
          have B10 := aK (below_step BL.out hb)
          refine hK.out _ _ ((hb.cell (World.block_lt_of_cell? _ _ hHeld)).trans hHeld) (fun hHeld => ?_)
          clear hb BL RL
          clear hK K
          refine nQ 84 ?_
          refine pQ 10 85 HT_ ?_
          refine pQ 11 86 HT_ ?_
          refine pQ 12 74 HT_ ?_
          refine done_ (done_of HT_.out (by kernel_rfl)) ?_
          clear hHeld
          go_wp2
          go_meet
          case rel => exact ⟨by rw [occ_v, zm]; rfl, B10⟩
         ·have zm : decide (n ∈ (yy).vars) = false := decide_eq_false m
          have hc0 := IsT.at (X9.out.below B9.out)
          refine start_ (n := 13) (S := fun w' => w'.cell? ⟨d8, 0, none⟩ = some (.int .i64 n)) (ds := []) (bs 0 13) (by kernel_rfl) rfl rfl hc0 (fun hHeld => ?_); refine with_tabW impl_unify.tab14 impl_unify.bits14 (fun HT_ HW_ => ?_)
          have BJ := aK (below_drew1 B9.out)
          clear B9 hc0
          generalize World.drew _ = wj at BJ hHeld ⊢
          refine pQ 0 75 HT_ ?_
          refine oQ 1 76 HT_ (fun K hK => ?_)
          refine goes_ Tryz.func35 (by kernel_rfl) rfl #[.pointer (some ⟨d8, 0, none⟩)] (by rfl) rfl rfl tA ?_
          refine (impl_typ_isVar.calls (t := .v n) _ (X9.out.below BJ.out)).mono ?_
          rintro _ wk ⟨rfl, hb⟩
          rw [isVar_v]
          refine ⟨_, rfl, ?_⟩
          have BK := aK (below_step BJ.out hb)
          refine hK.out _ _ ((hb.cell (World.block_lt_of_cell? _ _ hHeld)).trans hHeld) (fun hHeld => ?_)
          clear hb BJ
          clear hK K
          refine nQ 76 ?_
          refine pQ 2 77 HT_ ?_
          refine pQ 3 78 HT_ ?_
          refine pQ 5 80 HT_ ?_
          refine pQ 6 81 HT_ ?_
          refine pQ 7 82 HT_ ?_
          refine tQ 8 83 HT_ HW_ hHeld ?_
          refine oQ 4 79 HT_ (fun K hK => ?_)
          refine goes_ Tryz.func37 (by kernel_rfl) rfl #[.pointer (some ⟨d9, 0, none⟩)] (by rfl) rfl rfl tA ?_
          refine (impl_typ_vars.calls (yy) _ _ (Y9.out.below BK.out) MY.out).mono ?_
          rintro _ wl ⟨vl, rfl, hR, hb⟩
          obtain ⟨Al, cl, rfl⟩ := Kd.R_slice hR
          refine ⟨_, rfl, ?_⟩
          have BL := aK (below_step BK.out hb)
          have RL := aK hR
          refine hK.out _ _ ((hb.cell (World.block_lt_of_cell? _ _ hHeld)).trans hHeld) (fun hHeld => ?_)
          clear hb BK hR
          clear hK K
          refine nQ 79 ?_
          refine oQ 9 84 HT_ (fun K hK => ?_)
          refine goes_ Tryz.func36 (by kernel_rfl) rfl #[.slice Al (yy).vars.length cl, .int .i64 n] (by rfl) rfl rfl tA ?_
          refine (slices_Contains_int_int.calls ((yy).vars.length + 1) Al cl (yy).vars n false _ (Kd.R_reads' RL.out).2.2 (Kd.R_reads' RL.out).2.1 (by rw [has_f (yy).vars n (by have := (yy).vars_len; have := MY.out; omega), zm])).mono ?_
          rintro _ wm ⟨rfl, hb0⟩
          have hb := hb0.below
          clear hb0
          refine ⟨_, rfl, ?_⟩
          have B10 := aK (below_step BL.out hb)
          refine hK.out _ _ ((hb.cell (World.block_lt_of_cell? _ _ hHeld)).trans hHeld) (fun hHeld => ?_)
          clear hb BL RL
          clear hK K
          refine nQ 84 ?_
          refine pQ 10 85 HT_ ?_
          refine pQ 11 86 HT_ ?_
          refine pQ 12 74 HT_ ?_
          refine done_ (done_of HT_.out (by kernel_rfl)) ?_
          clear hHeld
          go_wp2
          go_meet
          case rel => exact ⟨by rw [occ_v, zm]; rfl, B10⟩
        | a l s =>
         refine start_ (n := 13) (S := fun w' => True) (ds := []) (bs 0 13) (by kernel_rfl) rfl rfl trivial (fun hHeld => ?_); refine with_tabW impl_unify.tab14 impl_unify.bits14 (fun HT_ HW_ => ?_)
         have BJ := aK (below_drew1 B9.out)
         clear B9
         generalize World.drew _ = wj at BJ hHeld ⊢
         refine pQ 0 75 HT_ ?_
         refine oQ 1 76 HT_ (fun K hK => ?_)
         refine goes_ Tryz.func35 (by kernel_rfl) rfl #[.pointer (some ⟨d8, 0, none⟩)] (by rfl) rfl rfl tA ?_
         refine (impl_typ_isVar.calls (t := .a l s) _ (X9.out.below BJ.out)).mono ?_
         rintro _ wk ⟨rfl, hb⟩
         rw [isVar_a]
         refine ⟨_, rfl, ?_⟩
         have BK := aK (below_step BJ.out hb)
         have B10 := aK BK.out
         refine hK.out _ _ trivial (fun hHeld => ?_)
         clear hb BJ BK
         clear hK K
         refine nQ 76 ?_
         refine pQ 2 77 HT_ ?_
         refine uQ 3 78 HT_ ?_
         refine uQ 4 79 HT_ ?_
         refine uQ 5 80 HT_ ?_
         refine uQ 6 81 HT_ ?_
         refine uQ 7 82 HT_ ?_
         refine uQ 8 83 HT_ ?_
         refine uQ 9 84 HT_ ?_
         refine uQ 10 85 HT_ ?_
         refine pQ 11 86 HT_ ?_
         refine pQ 12 74 HT_ ?_
         refine done_ (done_of HT_.out (by kernel_rfl)) ?_
         clear hHeld
         go_wp2
         go_meet
         case rel => exact ⟨rfl, B10⟩
       case rest =>
        obtain ⟨rfl, B10⟩ := hcut
        have HBa := aK (below_step HB9.out B10.out)
        have HMa := aK (HM9.out.below B10.out)
        have IQa := aK (IQ9.out.stay (Stay.below B10.out))
        have Xa := aK (X9.out.below B10.out)
        have Ya := aK (Y9.out.below B10.out)
        clear HB9 HM9 IQ9 X9 Y9 B9 B10
        by_cases c : occ xx yy = true
        ·have c' : (!occ xx yy) = false := by rw [c]; rfl
         rw [c']
         clear c'
         cases xx with
         | v n =>
          have m : n ∈ yy.vars := of_decide_eq_true c
          have HR : Aside0 (r = none) := ⟨by have e := HA.out; rw [uni_fail HF.out (by rw [TT.out]; exact turn2_in cs' m)] at e; exact (Option.some.inj e).symm⟩
          go_wp2_with (first
           | (go_at_call 35; (with_reducible refine (impl_typ_isVar.calls (t := .v n) _ ?s1).mono ?_); (case s1 => exact Xa.out); rintro _ wg ⟨rfl, hb⟩; rw [isVar_v]; have HBb := aK (below_step HBa.out hb); clear hb))
          go_ret2
          exact ⟨.inl ⟨HR.out, rfl⟩, HBb.out⟩
         | a l s =>
          cases yy with
          | v m =>
           have HR : Aside0 (r = none) := ⟨by have e := HA.out; rw [uni_fail HF.out (by rw [TT.out]; exact turn2_arr cs')] at e; exact (Option.some.inj e).symm⟩
           go_wp2_with (first
            | (go_at_call 35; (with_reducible refine (impl_typ_isVar.calls (t := .a l s) _ ?s1).mono ?_); (case s1 => exact Xa.out); rintro _ wg ⟨rfl, hb⟩; rw [isVar_a]; have HBb := aK (below_step HBa.out hb); have Yb := aK (Ya.out.below hb); clear hb Xa)
            | (go_at_call 35; (with_reducible refine (impl_typ_isVar.calls (t := .v m) _ ?s1).mono ?_); (case s1 => exact Yb.out); rintro _ wh ⟨rfl, hb⟩; rw [isVar_v]; have HBc := aK (below_step HBb.out hb); clear hb))
           go_ret2
           exact ⟨.inl ⟨HR.out, rfl⟩, HBc.out⟩
          | a l' s' =>
           have HN : Aside0 (uni k1 ((l, l') :: (s, s') :: q) L = some r) := ⟨by have e := HA.out; rw [uni_split HF.out (by rw [TT.out]; exact turn2_split cs')] at e; exact e⟩
           go_upto_region 23 with (first
            | (go_at_call 35; (with_reducible refine (impl_typ_isVar.calls (t := .a l s) _ ?s1).mono ?_); (case s1 => exact Xa.out); rintro _ wg ⟨rfl, hb⟩; rw [isVar_a]; have HBb := aK (below_step HBa.out hb); have Yb := aK (Ya.out.below hb); have Xb := aK (Xa.out.below hb); have HMb := aK (HMa.out.below hb); have IQb := aK (IQa.out.stay (Stay.below hb)); clear hb Xa Ya HBa HMa IQa)
            | (go_at_call 35; (with_reducible refine (impl_typ_isVar.calls (t := .a l' s') _ ?s1).mono ?_); (case s1 => exact Yb.out); rintro _ wh ⟨rfl, hb⟩; rw [isVar_a]; have HBc := aK (below_step HBb.out hb); have Yc := aK (Yb.out.below hb); have Xc := aK (Xb.out.below hb); have HMc := aK (HMb.out.below hb); have IQc := aK (IQb.out.stay (Stay.below hb)); clear hb Xb Yb HBb HMb IQb))
           obtain ⟨px, x1, x2, k1_, k2_, k3_, i1, i3⟩ := Xc.out.arrAt
           obtain ⟨py, y1, y2, k4_, k5_, k6_, i2, i4⟩ := Yc.out.arrAt
           have dw : Below wh.heap.size wh wh.drew := below_drew1 (Below.refl _ _)
           have I1 := aK (i1.below dw)
           have I2 := aK (i2.below dw)
           have I3 := aK (i3.below dw)
           have I4 := aK (i4.below dw)
           have HBd := aK (below_step HBc.out dw)
           have HMd := aK (HMc.out.below dw)
           have IQd := aK (IQc.out.stay (Stay.below dw))
           have LQ : Aside0 (q.length ≤ 1000000) := ⟨HF.out.1⟩
           clear i1 i2 i3 i4 dw Xc Yc HBc HMc IQc
           refine start_ (n := 30) (S := fun w' => (w'.cell? ⟨d8, 1, none⟩ = some (.slice (some ⟨px, 0, none⟩) 2 2) ∧ w'.cell? ⟨px, 0, none⟩ = some (.pointer (some ⟨x1, 0, none⟩)) ∧ w'.cell? ⟨px, 1, none⟩ = some (.pointer (some ⟨x2, 0, none⟩))) ∧ (w'.cell? ⟨d9, 1, none⟩ = some (.slice (some ⟨py, 0, none⟩) 2 2) ∧ w'.cell? ⟨py, 0, none⟩ = some (.pointer (some ⟨y1, 0, none⟩)) ∧ w'.cell? ⟨py, 1, none⟩ = some (.pointer (some ⟨y2, 0, none⟩)))) (ds := []) (bs 0 30) (by kernel_rfl) rfl rfl ⟨⟨k1_, k2_, k3_⟩, k4_, k5_, k6_⟩ (fun hHeld => ?_); refine with_tabW impl_unify.tab23 impl_unify.bits23 (fun HT_ HW_ => ?_)
           clear k1_ k2_ k3_ k4_ k5_ k6_
           generalize wh.drew = wi at HBd HMd IQd I1 I2 I3 I4 hHeld ⊢
           refine pQ 0 125 HT_ ?_
           refine pQ 1 126 HT_ ?_
           refine pQ 6 131 HT_ ?_
           refine pQ 7 132 HT_ ?_
           refine pQ 13 138 HT_ ?_
           refine pQ 14 139 HT_ ?_
           refine pQ 19 144 HT_ ?_
           refine pQ 20 145 HT_ ?_
           refine pQ 27 152 HT_ ?_
           refine pQ 2 127 HT_ ?_
           refine pQ 8 133 HT_ ?_
           refine pQ 15 140 HT_ ?_
           refine pQ 21 146 HT_ ?_
           refine tQ 3 128 HT_ HW_ hHeld ?_
           refine tQ 9 134 HT_ HW_ hHeld ?_
           refine tQ 16 141 HT_ HW_ hHeld ?_
           refine tQ 22 147 HT_ HW_ hHeld ?_
           refine pQ 4 129 HT_ ?_
           refine pQ 10 135 HT_ ?_
           refine pQ 17 142 HT_ ?_
           refine pQ 23 148 HT_ ?_
           refine tQ 5 130 HT_ HW_ hHeld ?_
           refine tQ 11 136 HT_ HW_ hHeld ?_
           refine tQ 18 143 HT_ HW_ hHeld ?_
           refine tQ 24 149 HT_ HW_ hHeld ?_
           refine pQ 12 137 HT_ ?_
           refine pQ 25 150 HT_ ?_
           refine oQ 26 151 HT_ (fun K hK => ?_)
           refine value_ (w1 := ?_) (v := ?_) (by rfl) rfl ?_ ?_
           rotate_left 2
           ·go_simp
            constructor
            ·rfl
            ·rfl
           have ha : ∀ {p : Addr} {u : Value}, wi.cell? p = some u → (wi.alloc (.cells #[.pointer (some ⟨x1, 0, none⟩), .pointer (some ⟨y1, 0, none⟩), .pointer (some ⟨x2, 0, none⟩), .pointer (some ⟨y2, 0, none⟩)] 79 (0, 0))).cell? p = some u := fun hc => ((below_alloc (Below.refl wi.heap.size wi) _).cell (World.block_lt_of_cell? _ _ hc)).trans hc
           refine hK.out _ _ ⟨⟨ha hHeld.1.1, ha hHeld.1.2.1, ha hHeld.1.2.2⟩, ha hHeld.2.1, ha hHeld.2.2.1, ha hHeld.2.2.2⟩ (fun hHeld2 => ?_)
           clear ha hHeld2
           clear hK K
           refine nQ 151 ?_
           refine oQ 28 153 HT_ (fun K hK => ?_)
           refine app_Q (by rfl) (.tmp 151) (.tmp 152) (by rfl) wi q l l' s s' x1 y1 x2 y2 vq (by rfl) (by rfl) IQd.out LQ.out I1.out I2.out I3.out I4.out ?_
           intro v7 wj hq hb
           have hc : ∀ {p : Addr} {u : Value}, wi.cell? p = some u → wj.cell? p = some u := fun hc => (hb.cell (World.block_lt_of_cell? _ _ hc)).trans hc
           refine hK.out _ _ ⟨⟨hc hHeld.1.1, hc hHeld.1.2.1, hc hHeld.1.2.2⟩, hc hHeld.2.1, hc hHeld.2.2.1, hc hHeld.2.2.2⟩ (fun hHeld2 => ?_)
           have IQe := aK hq
           have HBe := aK (below_step HBd.out hb)
           have HMe := aK (HMd.out.below hb)
           clear hc hHeld hHeld2 hq hb HBd HMd IQd I1 I2 I3 I4
           clear hK K
           refine nQ 153 ?_
           refine pQ 29 7 HT_ ?_
           refine done_ (done_of HT_.out (by kernel_rfl)) ?_
           go_wp2
           go_roundg k1
           case measure => have := HK1.out; omega
           case rel => exact ⟨(l, l') :: (s, s') :: q, L, HN, ⟨by have := HK1.out; omega⟩, IQe, HMe, HBe⟩
        ·have c' : (!occ xx yy) = true := by rw [Bool.eq_false_iff.mpr c]; rfl
         rw [c']
         clear c'
         cases xx with
         | a l s => exact absurd (occ_a l s yy) c
         | v n =>
          have m : n ∉ yy.vars := fun h => c (decide_eq_true h)
          have TB : Aside0 (turn (a.apply (bnd L)) (b.apply (bnd L)) = .bind n yy) := ⟨by rw [TT.out]; exact turn2_bind cs' m⟩
          have HNW : Aside0 (bnd L n = none) := ⟨uni_new HA.out TB.out⟩
          have NI : Aside0 (i64ok n) := ⟨by have := good_v GX.out.1; exact ⟨by omega, by omega⟩⟩
          have LL : Aside0 (L.length ≤ 1000000) := ⟨HF.out.2.1⟩
          have Y2 : Aside0 (yy.nodes ≤ 200) := ⟨good_nodes GX.out.2⟩
          have SW := HBa.out.size
          clear c m MY TT GX cs cs'
          go_wp2_with (first
           | (at_range; refine range_M _ rfl _ rfl w.heap.size L.length (bnd L) rfl HMa.out ?_; intro wg cnt0 hr0 hb0; have HR0 : Aside0 (IsR wg w.heap.size wc.heap.size L.length (mid n yy L (fun k => (bnd L k).isSome)) (fun k => (bnd L k).isSome) cnt0) := ⟨by rw [mid_start]; exact hr0⟩; have ST0 := aK (Stay.below hb0); have HB0 := aK (below_step HBa.out hb0); clear hr0 hb0))
          go_frame
          go_loopw [10] (fun _ wr => ∃ (left : Int → Bool) (cnt : Nat), Aside0 (IsR wr w.heap.size wc.heap.size L.length (mid n yy L left) left cnt) ∧ Aside0 (∀ k t, i64ok k → bnd L k = some t → left k = false → (sub n yy t).good = true) ∧ Aside0 (Stay wc wr) ∧ Aside0 (Below w.heap.size w wr)) (fun _ wr => wr.rangeLeft w.heap.size wc.heap.size)
          case atStart => exact ⟨_, cnt0, HR0, ⟨fun k t _ e h => by have h' : (bnd L k).isSome = false := h; rw [e] at h'; cases h'⟩, ST0, HB0⟩
          case round =>
           clear HR0 ST0 HB0 HBa HMa
           obtain ⟨left, cnt, HR, KP, ST, HB⟩ := hrel
           have MEAS := HR
           have X1 := aK (Xa.out.stay ST.out)
           have Y1 := aK (Ya.out.stay ST.out)
           have IQ1 := aK (IQa.out.stay ST.out)
           go_wp2_with (first
            | (at_next; refine next_M _ rfl _ rfl w.heap.size wc.heap.size L.length _ _ _ rfl HR.out ?_ ?_))
           ·intro hl0
            have c1 := X1.out.at
            have KA : Aside0 (keeps n yy L) := ⟨fun k t e => by
             by_cases hk : i64ok k
             ·exact KP.out k t hk e (hl0 k hk)
             ·exact absurd (HF.out.2.2.2.2.2 k t e) hk⟩
            have HN : Aside0 (uni k1 q (putL n yy L) = some r) := ⟨by have e := HA.out; rw [uni_bind HF.out TB.out HNW.out KA.out] at e; exact e⟩
            have HL0 := aK hl0
            clear hl0
            go_wp2_with (first
             | (at_mapUpdate; refine put_M _ rfl _ _ _ rfl w.heap.size L.length _ rfl HR.out.isM (by have := LL.out; omega) n NI.out rfl yy d9 rfl Y1.out ?_; intro wk hm hs hg; have IQ2 := aK (IQ1.out.stay hs); have HM2 : Aside0 (IsM wk w.heap.size (putL n yy L).length (bnd (putL n yy L))) := ⟨by rw [putL_len]; exact hm.congr (fun k hk => mid_end HL0.out k hk HNW.out)⟩; have HB2 := aK (below_put HB.out hg (Nat.le_refl _) HB.out.size); clear hm hs hg))
            go_roundg k1
            case measure => have := HK1.out; omega
            case rel => exact ⟨q, putL n yy L, HN, ⟨by have := HK1.out; omega⟩, IQ2, HM2, HB2⟩
           ·intro xk gk t wk cnt' hxk hlx hMx hIt hR' hlt hgr hs hsz hen
            have hbt : bnd L xk = some t := mid_at hlx hMx
            have hFt := HF.out.2.2.2.2.1 xk t hbt
            have HE := aK hlt
            have XK := aK hxk
            have BT := aK hbt
            have OT : Aside0 (t.ok ∧ t.nodes ≤ 200) := ⟨hFt⟩
            have ST1 := aK (ST.out.trans hs)
            have X2 := aK (X1.out.stay hs)
            have Y2_ := aK (Y1.out.stay hs)
            have HB1 := aK (below_put HB.out hgr SW HB.out.size)
            have HI1 := aK hIt
            have HR1 := aK hR'
            have MX := aK hMx
            have LX := aK hlx
            have LW1 : Aside0 (w.heap.size < wk.heap.size) := ⟨HR1.out.isM.lt⟩
            have RW1 : Aside0 (wc.heap.size < wk.heap.size) := ⟨HR1.out.lt⟩
            have c1 := X2.out.at
            have c2 : (wk.alloc (.map #[] 0)).cell? ⟨d8, 0, none⟩ = some (.int .i64 n) := (X2.out.stay (stay_alloc wk _)).at
            have NS : Aside0 ((sub n yy t).nodes ≤ 1099511627776) := ⟨by
             have h1 := apply_nodes_le (M := Uni.one n yy) (fun k u e => by
              have e' : (if k = n then some yy else none) = some u := e
              split at e'
              ·injection e' with e'; rw [← e']; exact Y2.out
              ·cases e') t
             have := OT.out.2
             show (t.apply (Uni.one n yy)).nodes ≤ _
             omega⟩
            clear HR hxk hlx hMx hIt hR' hlt hgr hs hsz hbt hFt ST X1 Y1 IQ1 HB X2
            by_cases gs : (sub n yy t).good = true
            case neg =>
             have GS := aK (Bool.eq_false_iff.mpr gs)
             have HN : Aside0 (r = none) := ⟨by
              have e := HA.out
              rw [uni_loses HF.out TB.out HNW.out (fun h => gs (h xk t BT.out))] at e
              exact (Option.some.inj e).symm⟩
             clear gs
             go_wp2_with (first
              | (refine ins_M _ rfl _ _ _ rfl wk.heap.size 0 (fun _ => none) rfl (IsM.made wk) (by omega) n NI.out rfl yy d9 rfl (Y2_.out.stay (stay_alloc wk _)) ?_; intro wl hml hsl hgl; have ML := aK hml; have SL := aK ((stay_alloc wk _).trans hsl); have HBl := aK (below_put (below_alloc HB1.out (.map #[] 0)) hgl (Nat.le_of_lt LW1.out) (by simp; have := LW1.out; omega)); have HRl := aK ((HR1.out.below (below_alloc (Below.refl _ _) (.map #[] 0))).grown hgl hsl (Nat.ne_of_lt LW1.out) (Nat.ne_of_lt RW1.out)); clear hml hsl hgl)
              | (go_at_call 23; (with_reducible refine (impl_typ_apply.calls t _ wk.heap.size (0 + 1) (Uni.one n yy) _ ?s1 ?s2 ?s3).mono ?_); (case s1 => exact HI1.out.stay SL.out); (case s2 => exact OT.out.1); (case s3 => exact ML.out); rintro _ wm ⟨ym, rfl, hi, hb⟩; obtain ⟨gm, rfl⟩ := hi.ptr; have IM := aK hi; have HBm := aK (below_step HBl.out hb); have HRm := aK (HRl.out.below hb); clear hi hb)
              | (at_mapUpdate; refine put_R _ rfl _ _ _ rfl w.heap.size wc.heap.size L.length _ _ _ rfl HRm.out (by have := LL.out; omega) xk XK.out rfl (by rw [MX.out]; rfl) (sub n yy t) gm rfl IM.out ?_; intro wn hr2 hs2 hg2; have HRn := aK hr2; have HBn := aK (below_put HBm.out hg2 (Nat.le_refl _) HBm.out.size); clear hr2 hs2 hg2)
              | (at_lookup; refine at_M _ rfl _ _ rfl w.heap.size L.length _ rfl HRn.out.isM xk XK.out rfl (sub n yy t) (if_pos rfl) ?_; intro go hgo; have IOq := aK hgo; clear hgo)
              | (go_at_call 24; (with_reducible refine (impl_typ_isGood.calls (sub n yy t) _ _ ?s1 ?s2).mono ?_); (case s1 => exact IOq.out); (case s2 => exact NS.out); rintro _ wo ⟨rfl, hb⟩; rw [GS.out]; have HBo := aK (below_step HBn.out hb); clear hb))
             go_ret2
             exact ⟨.inl ⟨HN.out, rfl⟩, HBo.out⟩
            case pos =>
             have GS := aK gs
             clear gs
             go_wp2_with (first
              | (refine ins_M _ rfl _ _ _ rfl wk.heap.size 0 (fun _ => none) rfl (IsM.made wk) (by omega) n NI.out rfl yy d9 rfl (Y2_.out.stay (stay_alloc wk _)) ?_; intro wl hml hsl hgl; have ML := aK hml; have SL := aK ((stay_alloc wk _).trans hsl); have HBl := aK (below_put (below_alloc HB1.out (.map #[] 0)) hgl (Nat.le_of_lt LW1.out) (by simp; have := LW1.out; omega)); have HRl := aK ((HR1.out.below (below_alloc (Below.refl _ _) (.map #[] 0))).grown hgl hsl (Nat.ne_of_lt LW1.out) (Nat.ne_of_lt RW1.out)); clear hml hsl hgl)
              | (go_at_call 23; (with_reducible refine (impl_typ_apply.calls t _ wk.heap.size (0 + 1) (Uni.one n yy) _ ?s1 ?s2 ?s3).mono ?_); (case s1 => exact HI1.out.stay SL.out); (case s2 => exact OT.out.1); (case s3 => exact ML.out); rintro _ wm ⟨ym, rfl, hi, hb⟩; obtain ⟨gm, rfl⟩ := hi.ptr; have IM := aK hi; have HBm := aK (below_step HBl.out hb); have HRm := aK (HRl.out.below hb); have SM := aK (SL.out.trans (Stay.below hb)); clear hi hb)
              | (at_mapUpdate; refine put_R _ rfl _ _ _ rfl w.heap.size wc.heap.size L.length _ _ _ rfl HRm.out (by have := LL.out; omega) xk XK.out rfl (by rw [MX.out]; rfl) (sub n yy t) gm rfl IM.out ?_; intro wn hr2 hs2 hg2; have HRn := aK hr2; have HBn := aK (below_put HBm.out hg2 (Nat.le_refl _) HBm.out.size); have SN := aK (SM.out.trans hs2); clear hr2 hs2 hg2)
              | (at_lookup; refine at_M _ rfl _ _ rfl w.heap.size L.length _ rfl HRn.out.isM xk XK.out rfl (sub n yy t) (if_pos rfl) ?_; intro go hgo; have IOq := aK hgo; clear hgo)
              | (go_at_call 24; (with_reducible refine (impl_typ_isGood.calls (sub n yy t) _ _ ?s1 ?s2).mono ?_); (case s1 => exact IOq.out); (case s2 => exact NS.out); rintro _ wo ⟨rfl, hb⟩; rw [GS.out]; have HBo := aK (below_step HBn.out hb); have HRo := aK (HRn.out.below hb); have SO := aK (SN.out.trans (Stay.below hb)); clear hb))
             go_roundw
             case rel => exact ⟨_, cnt', ⟨by rw [← mid_step BT.out]; exact HRo.out⟩, ⟨fun k u hk e h => by
              by_cases ek : k = xk
              ·subst ek; rw [BT.out] at e; obtain rfl := Option.some.inj e; exact GS.out
              ·exact KP.out k u hk e (by simpa [ek] using h)⟩, ⟨ST1.out.trans SO.out⟩, HBo⟩
             case measure => rw [HRo.out.left_eq, MEAS.out.left_eq]; exact HE.out
end Go.Proofs.YteffjlhljeodpaaGreatDoor.G

namespace Go.Proofs.YteffjlhljeodpaaGreatDoor.G
open Go.RowKit Go.Proofs.YteffjlhljeodpaaGreatDoorW.PrintWords Go.Proofs.YteffjlhljeodpaaGreatDoorW.PrintLast Go.Proofs.YteffjlhljeodpaaGreatDoorW.PrintMore Go.Proofs.YteffjlhljeodpaaGreatDoor.EvL Go.Proofs.YteffjlhljeodpaaGreatDoor.TxtL Go.Proofs.YteffjlhljeodpaaGreatDoor.ReadM Go.Proofs.YteffjlhljeodpaaGreatDoor.Uni Go.Proofs.YteffjlhljeodpaaGreatDoor.Short
set_option linter.unusedVariables false
set_option linter.unusedSimpArgs false

theorem IsT.row {W W1 : World} {b : Nat} {c : Array Value} (hb : W.heap[b]? = some (.cells c 29 (0, 0))) (hg : W.grownBy W1 (some b)) : ∀ {t : Ty} {x : Value}, IsT W t x → IsT W1 t x := by
 have key : ∀ (i : Nat) (cs : Array Value) (e : TypeId), e ≠ 29 → W.heap[i]? = some (.cells cs e (0, 0)) → W1.heap[i]? = some (.cells cs e (0, 0)) := fun i cs e he h => (hg.block i (blk_lt h) (fun e' => by
  injection e' with e'
  subst e'
  rw [hb] at h
  injection h with h
  injection h with _ h
  exact he h.symm)).trans h
 intro t
 induction t with
 | v n => exact fun ⟨g, e, h⟩ => ⟨g, e, key _ _ _ (by decide) h⟩
 | a l r ihl ihr => exact fun ⟨g, p, u1, u2, e, h, hp, hl, hr⟩ => ⟨g, p, u1, u2, e, key _ _ _ (by decide) h, key _ _ _ (by decide) hp, ihl hl, ihr hr⟩
theorem IsR.rcell {W : World} {b r n cnt : Nat} {M : Int → Option Ty} {left : Int → Bool} (h : IsR W b r n M left cnt) (cs : Array Value) (t : TypeId) : W.heap[r]? ≠ some (.cells cs t (0, 0)) := by
 obtain ⟨D, lf, ⟨es, clock, since, seen, c0, _, _, _, _, hr, _⟩, _⟩ := h
 intro e
 rw [hr] at e; cases e
theorem IsR.row {W W1 : World} {b r n cnt b' : Nat} {c : Array Value} {M : Int → Option Ty} {left : Int → Bool} (h : IsR W b r n M left cnt) (hb' : W.heap[b']? = some (.cells c 29 (0, 0))) (hg : W.grownBy W1 (some b')) : IsR W1 b r n M left cnt := by
 have hnr : r ≠ b' := fun e => h.rcell c 29 (e ▸ hb')
 obtain ⟨D, lf, k1, k2, k3⟩ := h
 have hnb : b ≠ b' := by
  obtain ⟨es, clock, hb, _⟩ := k1.owns
  rintro rfl
  rw [hb] at hb'; cases hb'
 exact ⟨D, lf, k1.kept hg (fun e => hnb (by injection e)) (fun e => hnr (by injection e)), ⟨k2.1, fun k hk => by
  rcases k2.2 k hk with h | ⟨t, g, a1, a2, a3, a4⟩
  ·exact .inl h
  ·exact .inr ⟨t, g, a1, a2, a3, a4.row hb' hg⟩⟩, k3⟩
theorem own_some {W : World} {base : Nat} {v : Value} {xs : List S29} (h : Kd.R k29 29 W base (fun _ => True) v xs) (hs : v.ownBlock.isSome = true) : ∃ (A : Addr) (c : Nat) (cells : Array Value), v = .slice (some A) xs.length c ∧ v.ownBlock = some A.block ∧ W.heap[A.block]? = some (.cells cells 29 (0, 0)) := by
 obtain ⟨A, c, e⟩ := Kd.R_slice h
 subst e
 cases A with
 | none => simp [Value.ownBlock] at hs
 | some A =>
  have e : (Value.slice (some A) xs.length c).ownBlock = some A.block := by simp [Value.ownBlock]
  obtain ⟨_, inner, ho, _⟩ := h
  obtain ⟨cells, hc⟩ := own_typed ho _ e
  exact ⟨A, c, cells, rfl, e, hc⟩
theorem own_new {v : Value} {k N : Nat} (h : v.ownBlock = some k ∨ ∃ b, v.ownBlock = some b ∧ N ≤ b) : v.ownBlock.isSome = true := by
 rcases h with h | ⟨b, h, _⟩ <;> rw [h] <;> rfl
theorem uniEnd_none {w w' : World} {e : Ending} (h : UniEnd w none e w') : e = .returned (.tuple #[.map none, .bool false]) ∧ Below w.heap.size w w' := by
 obtain ⟨⟨_, h⟩ | ⟨_, _, h, _⟩, hb⟩ := h
 ·exact ⟨h, hb⟩
 ·cases h
theorem uniEnd_some {w w' : World} {L : Lk} {e : Ending} (h : UniEnd w (some L) e w') : ∃ b, e = .returned (.tuple #[.map (some b), .bool true]) ∧ IsM w' b L.length (bnd L) ∧ Below w.heap.size w w' := by
 obtain ⟨⟨h, _⟩ | ⟨L', b, h, h2, h3⟩, hb⟩ := h
 ·cases h
 ·injection h with h
  subst h
  exact ⟨b, h2, h3, hb⟩
def FinL (L : Lk) : Prop := Rise L ∧ L.length ≤ 1000000 ∧ ∀ p ∈ L, i64ok p.1 ∧ p.2.ok ∧ p.2.nodes ≤ 200
open Classical in
noncomputable def unifyF (k : Nat) (s t : List UInt8) : Option (List S29 × Bool) := match tyOf s, tyOf t with
 | some x, some y => (match uni k [(x, y)] [] with
  | some (some L) => if FinL L then some (told L, true) else none
  | some none => some ([], false)
  | none => none)
 | _, _ => some ([], false)
theorem unifyF_1 {k : Nat} {s t : List UInt8} (h : tyOf s = none) : unifyF k s t = some ([], false) := by unfold unifyF; rw [h]
theorem unifyF_2 {k : Nat} {s t : List UInt8} (h : tyOf t = none) : unifyF k s t = some ([], false) := by unfold unifyF; rw [h]; cases tyOf s <;> rfl
theorem unifyF_none {k : Nat} {s t : List UInt8} {x y : Ty} (h1 : tyOf s = some x) (h2 : tyOf t = some y) (h : uni k [(x, y)] [] = none) : unifyF k s t = none := by unfold unifyF; rw [h1, h2]; dsimp only; rw [h]
theorem unifyF_fail {k : Nat} {s t : List UInt8} {x y : Ty} (h1 : tyOf s = some x) (h2 : tyOf t = some y) (h : uni k [(x, y)] [] = some none) : unifyF k s t = some ([], false) := by unfold unifyF; rw [h1, h2]; dsimp only; rw [h]
open Classical in
theorem unifyF_some {k : Nat} {s t : List UInt8} {x y : Ty} {L : Lk} (h1 : tyOf s = some x) (h2 : tyOf t = some y) (h : uni k [(x, y)] [] = some (some L)) : unifyF k s t = if FinL L then some (told L, true) else none := by unfold unifyF; rw [h1, h2]; dsimp only; rw [h]
noncomputable def impl_UnifyTypes.f (k : Nat) (a0 : ByteArray) (a1 : ByteArray) : Option ((List (S29)) × Bool) := if a0.size ≤ 1099511627776 ∧ a1.size ≤ 1099511627776 then unifyF k a0.data.toList a1.data.toList else none
theorem impl_UnifyTypes.grows (a0 a1 : ByteArray) (k : Nat) : LeO (impl_UnifyTypes.f k a0 a1) (impl_UnifyTypes.f (k + 1) a0 a1) := by
 unfold impl_UnifyTypes.f
 refine LeO.ite (fun r h => ?_) (LeO.refl _)
 cases h1 : tyOf a0.data.toList with
 | none => rw [unifyF_1 h1] at h ⊢; exact h
 | some x =>
  cases h2 : tyOf a1.data.toList with
  | none => rw [unifyF_2 h2] at h ⊢; exact h
  | some y =>
   cases h3 : uni k [(x, y)] [] with
   | none => rw [unifyF_none h1 h2 h3] at h; cases h
   | some q =>
    have h4 := uni_mono k [(x, y)] [] q h3
    cases q with
    | none => rw [unifyF_fail h1 h2 h3] at h; rw [unifyF_fail h1 h2 h4]; exact h
    | some L => rw [unifyF_some h1 h2 h3] at h; rw [unifyF_some h1 h2 h4]; exact h
set_option maxHeartbeats 8000000 in
set_option maxRecDepth 100000 in
theorem impl_UnifyTypes.calls (k : Nat) (a0 : ByteArray) (a1 : ByteArray) (r1 : List (S29)) (r2 : Bool) (w : World) (h : impl_UnifyTypes.f k a0 a1 = some (r1, r2)) (hE : Met w) :
  Calls Tryz.prog 5 #[.string a0, .string a1] w fun e w' => ∃ v0_ : Value, e = .returned (.tuple #[v0_, .bool r2]) ∧ Kd.R k29 29 w' w.heap.size (fun _ => True) v0_ r1 ∧ Below w.heap.size w w' := by
 have hu29 := Tryz.underlying29
 unfold impl_UnifyTypes.f at h
 by_cases hs : a0.size ≤ 1099511627776 ∧ a1.size ≤ 1099511627776
 case neg => rw [if_neg hs] at h; cases h
 rw [if_pos hs] at h
 have HR := aK h
 have HS := aK hs
 have HE := aK hE
 clear h hs hE
 go_enter Tryz.func5, Tryz.ntmps5
 go_upto_region 3 with (first
  | ((with_reducible refine gate_callee (f := 14) rfl ?_); refine goesL_ (some 17) rfl rfl Tryz.func14 (by kernel_rfl) rfl #[.string a0] rfl tA ?_; refine (typeOfS a0 w HS.out.1 HE.out).mono ?_; rintro _ w1 ⟨x1, ok1, rfl, hb, ho⟩; refine ⟨_, rfl, ?_⟩; have O1 := aK ho; have HB := aK hb; clear ho hb)
  | ((with_reducible refine gate_callee (f := 14) rfl ?_); refine goesL_ (some 22) rfl rfl Tryz.func14 (by kernel_rfl) rfl #[.string a1] rfl tA ?_; refine (typeOfS a1 w1 HS.out.2 (HE.out.below HB.out)).mono ?_; rintro _ w2 ⟨x2, ok2, rfl, hb, ho⟩; refine ⟨_, rfl, ?_⟩; have O2 := aK ho; have P1 := aK (O1.out.below hb); have HB2 := aK (below_step HB.out hb); clear ho hb))
 cases ok1 with
 | false =>
  have e1 : tyOf a0.data.toList = none := by
   rcases O1.out with ⟨h, _⟩ | ⟨_, _, h, _⟩
   ·exact h
   ·cases h
  have E := aK ((unifyF_1 (k := k) (t := a1.data.toList) e1).symm.trans HR.out)
  clear e1 HR
  go_wp2
  go_ret2
  have e := Option.some.inj E.out
  cases e
  exact ⟨_, rfl, Kd.R_nil _ _ _ _ _, HB2.out⟩
 | true =>
  cases ok2 with
  | false =>
   have e1 : tyOf a1.data.toList = none := by
    rcases O2.out with ⟨h, _⟩ | ⟨_, _, h, _⟩
    ·exact h
    ·cases h
   have E := aK ((unifyF_2 (k := k) (s := a0.data.toList) e1).symm.trans HR.out)
   clear e1 HR
   go_wp2
   go_ret2
   have e := Option.some.inj E.out
   cases e
   exact ⟨_, rfl, Kd.R_nil _ _ _ _ _, HB2.out⟩
  | true =>
   obtain ⟨t1, e1, i1⟩ : ∃ t, tyOf a0.data.toList = some t ∧ IsT w2 t (.pointer x1) := by
    rcases P1.out with ⟨_, h⟩ | ⟨t, h, _, hi⟩
    ·cases h
    ·exact ⟨t, h, hi⟩
   obtain ⟨t2, e2, i2⟩ : ∃ t, tyOf a1.data.toList = some t ∧ IsT w2 t (.pointer x2) := by
    rcases O2.out with ⟨_, h⟩ | ⟨t, h, _, hi⟩
    ·cases h
    ·exact ⟨t, h, hi⟩
   cases hq : uni k [(t1, t2)] [] with
   | none =>
    have := HR.out
    rw [unifyF_none e1 e2 hq] at this; cases this
   | some q =>
    have HQ := aK hq
    have I1 := aK i1
    have I2 := aK i2
    cases q with
    | none =>
     have E := aK ((unifyF_fail e1 e2 hq).symm.trans HR.out)
     clear e1 e2 i1 i2 HR O1 O2 P1 hq
     go_wp2_with (first
      | (go_at_call 15; (with_reducible refine (impl_unify.calls k t1 t2 _ _ none _ I1.out I2.out HQ.out).mono ?_); intro e3 w3 hu; obtain ⟨rfl, hb⟩ := uniEnd_none hu; have HB3 := aK (below_step HB2.out hb); clear hu hb))
     go_ret2
     have e := Option.some.inj E.out
     cases e
     exact ⟨_, rfl, Kd.R_nil _ _ _ _ _, HB3.out⟩
    | some L =>
     have hF : FinL L ∧ (told L, true) = (r1, r2) := by
      have := HR.out
      rw [unifyF_some e1 e2 hq] at this
      by_cases c : FinL L
      ·rw [if_pos c] at this; exact ⟨c, Option.some.inj this⟩
      ·rw [if_neg c] at this; cases this
     have FL := aK hF.1
     have ER := aK hF.2
     clear e1 e2 i1 i2 HR O1 O2 P1 hq hF
     go_wp2_with (first
      | (go_at_call 15; (with_reducible refine (impl_unify.calls k t1 t2 _ _ (some L) _ I1.out I2.out HQ.out).mono ?_); intro e3 w3 hu; obtain ⟨b, rfl, hm, hb⟩ := uniEnd_some hu; have HB3 := aK (below_step HB2.out hb); have HM3 := aK hm; clear hu hb hm)
      | ((with_reducible refine gate_dst (N := 39) rfl ?_); refine Kd.R_lit k29 (w0 := w) w.heap.size 29 ?hg (N := 39) ?hd (xs := ([] : List S29)) (inner := []) (ok := fun _ => True) (okp := fun _ => True) ?hr ?hp (fun _ hk => hk) trivial HB3.out (below_size HB3.out) (by simp) ?_; (case hd => rfl); (case hg => rfl); (case hr => go_simp); (case hp => exact (Reps.none _ _)); intro v39 w4 ho hb hg hnew; have HO4 := aK ho; have dw : Below w3.heap.size w3 w4 := (Below.refl w3.heap.size w3).grown hg (Nat.le_refl _) (fun k e => by cases e); have HB4 := aK hb; have HM4 := aK (HM3.out.below dw); have NS4 : Aside0 (v39.ownBlock.isSome = true) := ⟨by obtain ⟨b_, h1_, _⟩ := hnew; rw [h1_]; rfl⟩; clear ho hb hg hnew dw)
      | (at_range; refine range_M _ rfl _ rfl b L.length (bnd L) rfl HM4.out ?_; intro wg cnt0 hr0 hb0; have HR0 := aK hr0; have HB5 := aK (below_step HB4.out hb0); have HO5 := aK (Kd.R_below HO4.out hb0); have SW := aK (below_size HB4.out); clear hr0 hb0))
     go_frame
     go_loopw [12] (fun v12 wr => ∃ (left : Int → Bool) (cnt : Nat) (D : List S29), Aside0 (IsR wr b w4.heap.size L.length (bnd L) left cnt) ∧ Aside0 (Got L left D) ∧ Aside0 (Kd.R k29 29 wr w.heap.size (fun _ => True) v12 D) ∧ Aside0 (v12.ownBlock.isSome = true) ∧ Aside0 (Below w.heap.size w wr)) (fun _ wr => wr.rangeLeft b w4.heap.size)
     case atStart => exact ⟨_, cnt0, [], HR0, ⟨Got.start L⟩, HO5, NS4, HB5⟩
     case round =>
      clear HR0 HB5 HO5 HO4 HB4 HM4 NS4 HM3
      obtain ⟨left, cnt, D, HR, HG, HO, NS, HB⟩ := hrel
      have MEAS := HR
      go_wp2_with (first
       | (at_next; refine next_M _ rfl _ rfl b w4.heap.size L.length _ _ _ rfl HR.out ?_ ?_))
      ·intro hl0
       have HL0 := aK hl0
       clear hl0
       obtain ⟨A, c, cells, ev, ev2, hcl⟩ := own_some HO.out NS.out
       subst ev
       have DL : Aside0 (D.length < 4611686018427387904) := ⟨by have := HG.out.len; have := FL.out.2.1; omega⟩
       clear ev2 hcl
       go_wp2_with (first
        | (go_at_call 17; refine (sortR w.heap.size A c D _ HO.out DL.out).mono ?_; rintro _ w5 ⟨rfl, ⟨ys, hp, hsd, hR⟩, hg, hA⟩; have YS : Aside0 (ys = told L) := ⟨HG.out.done HL0.out FL.out.1 (fun p hp => (FL.out.2.2 p hp).1) hp hsd⟩; have HY := aK hR; have HB6 := aK (below_put HB.out hg hA HB.out.size); clear hp hsd hR hg hA))
       go_ret2
       have e := ER.out
       cases e
       rw [YS.out] at HY
       have hlen := (Kd.R_reads' HY.out).1
       exact ⟨_, rfl, by exact HY.out, HB6.out⟩
      ·intro xk gk t wk cnt' hxk hlx hMx hIt hR' hlt hgr hs hsz hen
       have HLT := aK hlt
       have OT : Aside0 (t.ok ∧ t.nodes ≤ 200) := ⟨(FL.out.2.2 _ (bnd_mem hMx)).2⟩
       have HG1 := aK (HG.out.step hlx hMx)
       have IT := aK hIt
       have HR1 := aK hR'
       obtain ⟨A, c, cells, ev, ev2, hcl⟩ := own_some HO.out NS.out
       have HO1 := aK (Kd.R_grown1 HO.out rfl hgr (by rw [ev2]; intro e; injection e with e; exact HR.out.rcell cells 29 (e ▸ hcl)))
       have HB1 := aK (below_put HB.out hgr SW.out HB.out.size)
       have DL : Aside0 (D.length + 1 ≤ 1000001) := ⟨by have := HG.out.len; have := FL.out.2.1; omega⟩
       clear HR HO HB hxk hlx hMx hIt hR' hlt hgr hs hsz ev ev2 hcl
       go_wp2_with (first
        | (go_at_call 16; (with_reducible refine (impl_typ_text.calls t _ _ ?s1 ?s2 ?s3 ?s4).mono ?_); (case s1 => exact IT.out); (case s2 => exact OT.out.1); (case s3 => have := text_size _ OT.out.1; have := OT.out.2; omega); (case s4 => exact (HE.out.below HB1.out).tab); rintro _ w5 ⟨rfl, hb⟩; have HB2_ := aK (below_step HB1.out hb); have HR2 := aK (HR1.out.below hb); have HO2 := aK (Kd.R_below HO1.out hb); clear hb)
        | ((with_reducible refine gate_builtin (b := .append) (xs := #[.tmp 47, .tmp 52]) rfl ?_); at_builtin; refine Kd.R_append k29 (w0 := w) w.heap.size rfl (.tmp 47) (.tmp 52) 25 29 (.agg #[(.int .i64 0), (.string ⟨#[]⟩)]) 24 rfl Tryz.underlying25 info29 rfl (by decide) (by omega) u12 D (⟨xk, t.text⟩ : S29) [.int .i64 xk, .string t.text] (fun _ => True) (fun _ => False) rfl rfl ?aP (fun _ hk => hk.elim) ?aF ?aO ?aB ?aS ?aL ?_; (case aP => exact k29_mkM _ _ _ (⟨xk, t.text⟩ : S29)); (case aB => exact HB2_.out); (case aF => exact (fun _ _ => trivial)); (case aO => exact HO2.out); (case aS => exact (below_size HB2_.out)); (case aL => have := DL.out; omega); intro v6 w6 ho hb hg hat; obtain ⟨A, c, cells, ev, ev2, hcl⟩ := own_some HO2.out NS.out; rw [ev2] at hg hat; have HR3 := aK (HR2.out.row hcl hg); have HO3 := aK ho; have HB3_ := aK hb; have NS6 : Aside0 (v6.ownBlock.isSome = true) := ⟨own_new hat⟩; clear ho hb hg hat ev ev2 hcl))
       go_roundw
       case rel => exact ⟨_, cnt', D ++ [⟨xk, t.text⟩], HR3, HG1, HO3, NS6, HB3_⟩
       case measure => rw [HR3.out.left_eq, MEAS.out.left_eq]; exact HLT.out
end Go.Proofs.YteffjlhljeodpaaGreatDoor.G

namespace Go.Proofs.YteffjlhljeodpaaGreatDoor.G
open Go.RowKit Go.Proofs.YteffjlhljeodpaaGreatDoorW.PrintWords Go.Proofs.YteffjlhljeodpaaGreatDoorW.PrintLast Go.Proofs.YteffjlhljeodpaaGreatDoorW.PrintMore Go.Proofs.YteffjlhljeodpaaGreatDoor.Short
attribute [local go_sem] max2_int min2_int max_two min_two max_three min_three max_four min_four   -- for this text's walks alone
set_option linter.unusedVariables false
set_option linter.unusedSimpArgs false

def spec_leWay.f (k : Nat) (a0_0 : Int) (l0_1 : List (S55)) (a1 : Bool) : Option (Bool) := if a1 = true then ((spec_leDeep.f k a0_0 l0_1).bind fun t102 => (if t102 ≤ 401 then ((spec_leSize.f k a0_0 l0_1).bind fun t103 => (some (decide (t103 ≤ 4000)))) else (some false))) else ((spec_leFine.f k a0_0 l0_1).bind fun t104 => (some t104))
set_option maxHeartbeats 8000000 in
set_option maxRecDepth 100000 in
theorem spec_leWay.calls (k : Nat) (a0_0 : Int) (A0_1 : Option Addr) (c0_1 : Nat) (l0_1 : List (S55)) (a1 : Bool) (r : Bool) (w : World) (hr0_1 : Kd.C k55 w A0_1 l0_1.length l0_1) (hc0_1 : l0_1.length ≤ c0_1) (h : spec_leWay.f k a0_0 l0_1 a1 = some r) :
  Calls Tryz.prog 44 #[.agg #[.int .i64 a0_0, .slice A0_1 l0_1.length c0_1], .bool a1] w fun e w' => e = .returned (.bool r) ∧ Below w.heap.size w w' := by
 have hu55 := Tryz.underlying55
 have HR0_1 := aK hr0_1
 have HC0_1 := aK hc0_1
 clear hr0_1 hc0_1
 have HB := aK (Below.refl w.heap.size w)
 have H : (if a1 = true then ((spec_leDeep.f k a0_0 l0_1).bind fun t102 => (if t102 ≤ 401 then ((spec_leSize.f k a0_0 l0_1).bind fun t103 => (some (decide (t103 ≤ 4000)))) else (some false))) else ((spec_leFine.f k a0_0 l0_1).bind fun t104 => (some t104))) = some r := h
 clear h
 by_cases c3 : a1 = true
 ·subst c3
  rw [if_pos rfl] at H
  obtain ⟨t102, A4, H⟩ := oB H
  try dsimp only at H
  by_cases c5 : t102 ≤ 401
  ·rw [if_pos c5] at H
   have c5b0 : decide (t102 ≤ 401) = true := decide_eq_true c5
   clear c5
   obtain ⟨t103, A6, H⟩ := oB H
   try dsimp only at H
   obtain rfl := Option.some.inj H
   go_enter Tryz.func44, Tryz.ntmps44
   go_wp2_with (first | ((with_reducible refine gate_dst (N := 2) rfl ?_); refine bE (N := 2) (cs := #[.int .i64 a0_0, .slice A0_1 l0_1.length c0_1]) (t := 55) ?_; intro gb101 hg w7 hbox hb; have GW101 := qw HB hg; have GE101 := qw HB hg; have BK101 := aK hbox; replace HB := qs HB hb; clear hb hbox hg; have hcz8_0 := kq20 BK101; have hcz8_1 := kq21 BK101; have hfz8_0 := fz BK101 0; have hfz8_1 := fz BK101 1) | ((with_reducible refine gate_callee (f := 55) rfl ?_); refine goesL_ (some 7) rfl rfl Tryz.func55 (by kernel_rfl) rfl #[.agg #[.int .i64 a0_0, .slice A0_1 l0_1.length c0_1]] rfl tA ?_; (with_reducible refine (spec_leDeep.calls k a0_0 _ _ l0_1 t102 _ ?side1 ?side2 A4.out).mono ?_); (case side1 => exact sC (Kd.C_below HR0_1.out HB.out)); (case side2 => exact HC0_1.out); rintro e w9 ⟨rfl, hb⟩; refine ⟨_, rfl, ?_⟩; replace BK101 := qb BK101 hb; replace HB := qs HB hb; (try clear hb); have hcz10_0 := kq20 BK101; have hcz10_1 := kq21 BK101; have hfz10_0 := fz BK101 0; have hfz10_1 := fz BK101 1) | (go_at_call 56; (with_reducible refine (spec_leSize.calls k a0_0 _ _ l0_1 t103 _ ?side1 ?side2 A6.out).mono ?_); (case side1 => exact sC (Kd.C_below HR0_1.out HB.out)); (case side2 => exact HC0_1.out); rintro e w11 ⟨rfl, hb⟩; replace BK101 := qb BK101 hb; replace HB := qs HB hb; (try clear hb)))
   go_ret
   exact ⟨eW, pH HB⟩
  ·rw [if_neg c5] at H
   have c5b0 : decide (t102 ≤ 401) = false := decide_eq_false c5
   clear c5
   obtain rfl := Option.some.inj H
   go_enter Tryz.func44, Tryz.ntmps44
   go_wp2_with (first | ((with_reducible refine gate_dst (N := 2) rfl ?_); refine bE (N := 2) (cs := #[.int .i64 a0_0, .slice A0_1 l0_1.length c0_1]) (t := 55) ?_; intro gb101 hg w12 hbox hb; have GW101 := qw HB hg; have GE101 := qw HB hg; have BK101 := aK hbox; replace HB := qs HB hb; clear hb hbox hg; have hcz13_0 := kq20 BK101; have hcz13_1 := kq21 BK101; have hfz13_0 := fz BK101 0; have hfz13_1 := fz BK101 1) | ((with_reducible refine gate_callee (f := 55) rfl ?_); refine goesL_ (some 7) rfl rfl Tryz.func55 (by kernel_rfl) rfl #[.agg #[.int .i64 a0_0, .slice A0_1 l0_1.length c0_1]] rfl tA ?_; (with_reducible refine (spec_leDeep.calls k a0_0 _ _ l0_1 t102 _ ?side1 ?side2 A4.out).mono ?_); (case side1 => exact sC (Kd.C_below HR0_1.out HB.out)); (case side2 => exact HC0_1.out); rintro e w14 ⟨rfl, hb⟩; refine ⟨_, rfl, ?_⟩; replace BK101 := qb BK101 hb; replace HB := qs HB hb; (try clear hb)))
   go_ret
   exact ⟨eW, pH HB⟩
 ·replace c3 := Bool.eq_false_iff.mpr c3
  subst c3
  rw [if_neg (show ¬ (false = true) by decide)] at H
  obtain ⟨t104, A15, H⟩ := oB H
  try dsimp only at H
  obtain rfl := Option.some.inj H
  go_enter Tryz.func44, Tryz.ntmps44
  go_wp2_with (first | ((with_reducible refine gate_dst (N := 2) rfl ?_); refine bE (N := 2) (cs := #[.int .i64 a0_0, .slice A0_1 l0_1.length c0_1]) (t := 55) ?_; intro gb101 hg w16 hbox hb; have GW101 := qw HB hg; have GE101 := qw HB hg; have BK101 := aK hbox; replace HB := qs HB hb; clear hb hbox hg; have hcz17_0 := kq20 BK101; have hcz17_1 := kq21 BK101; have hfz17_0 := fz BK101 0; have hfz17_1 := fz BK101 1) | ((with_reducible refine gate_callee (f := 27) rfl ?_); refine goesL_ (some 15) rfl rfl Tryz.func27 (by kernel_rfl) rfl #[.agg #[.int .i64 a0_0, .slice A0_1 l0_1.length c0_1]] rfl tA ?_; (with_reducible refine (spec_leFine.calls k a0_0 _ _ l0_1 t104 _ ?side1 ?side2 A15.out).mono ?_); (case side1 => exact sC (Kd.C_below HR0_1.out HB.out)); (case side2 => exact HC0_1.out); rintro e w18 ⟨rfl, hb⟩; refine ⟨_, rfl, ?_⟩; replace BK101 := qb BK101 hb; replace HB := qs HB hb; (try clear hb)))
  go_ret
  exact ⟨eW, pH HB⟩

end Go.Proofs.YteffjlhljeodpaaGreatDoor.G
