/- Part 4 of 5 of the proof that the law FnClosedSaid holds: for every input that can be read the call returns true and leaves its arguments as they were; no condition but those each theorem names. -/
import Derived.Ground.NamesProg
import Derived.Ground.SlgmProg
import Derived.Ground.SlgnProg
import Derived.Shelf.Lay
import Derived.Shelf.SortM.Plain
import Derived.Shelf.SortM.SortNone
import Derived.Shelf.SlicesG.CompactI
import Derived.Test.YtmcmclcebnepgaaQClosedW1
import Derived.Test.YtmcmclcebnepgaaQClosed1
import Derived.Test.YtmcmclcebnepgaaQClosed2
import Derived.Test.YtmcmclcebnepgaaQClosed3
namespace Go.Proofs.Ytmcmclcebnepgaa.G
open Go.RowKit Go.Proofs.YtmcmclcebnepgaaW.PrintWords Go.Proofs.YtmcmclcebnepgaaW.PrintLast Go.Proofs.YtmcmclcebnepgaaW.PrintMore
attribute [local go_sem] max2_int min2_int max_two min_two max_three min_three max_four min_four   -- for this text's walks alone
set_option linter.unusedVariables false
set_option linter.unusedSimpArgs false

mutual
def spec_ldHas.l0 : Nat → Int → List (S49) → Int → Int → Option (Bool)
 | 0, _, _, _, _ => none
 | k + 1, x1, x15, x16, x17 => if x17 < x16 then (if 0 ≤ x17 then (if x17 < (x15.length : Int) then ((spec_ldHas.f k ((rd_T49 x15 x17).f0) ((rd_T49 x15 x17).f1) ((rd_T49 x15 x17).f2) x1).bind fun t104 => (if t104 = true then (some true) else (spec_ldHas.l0 k x1 x15 x16 (wrap64 (x17 + 1))))) else (none)) else (none)) else (some false)
def spec_ldHas.f : Nat → Int → Int → List (S49) → Int → Option (Bool)
 | 0, _, _, _, _ => none
 | k + 1, a0_0, a0_1, l0_2, a1 => if a0_0 = 1 then (some (a0_1 == a1)) else (spec_ldHas.l0 k a1 l0_2 (l0_2.length : Int) 0)
end
set_option maxHeartbeats 8000000 in
set_option maxRecDepth 100000 in
theorem spec_ldHas.calls (k : Nat) : ∀ (a0_0 : Int) (a0_1 : Int) (A0_2 : Option Addr) (c0_2 : Nat) (l0_2 : List (S49)) (a1 : Int) (r : Bool) (w : World) (hr0_2 : Kd.C k49 w A0_2 l0_2.length l0_2) (hc0_2 : l0_2.length ≤ c0_2) (h : spec_ldHas.f k a0_0 a0_1 l0_2 a1 = some r),
  Calls Try.prog 48 #[.agg #[.int .i64 a0_0, .int .i64 a0_1, .slice A0_2 l0_2.length c0_2], .int .i64 a1] w fun e w' => e = .returned (.bool r) ∧ Below w.heap.size w w' := by
 induction k using Nat.strongRecOn with
 | _ k ih =>
 intro a0_0 a0_1 A0_2 c0_2 l0_2 a1 r w hr0_2 hc0_2 h
 cases k with
 | zero => exact absurd h (by simp [spec_ldHas.f])
 | succ k =>
 simp only [spec_ldHas.f] at h
 have hu49 := Try.underlying49
 have HR0_2 := aK hr0_2
 have HC0_2 := aK hc0_2
 clear hr0_2 hc0_2
 have HB := aK (Below.refl w.heap.size w)
 have H : (if a0_0 = 1 then (some (a0_1 == a1)) else (spec_ldHas.l0 k a1 l0_2 (l0_2.length : Int) 0)) = some r := h
 clear h
 by_cases c3 : a0_0 = 1
 ·rw [if_pos c3] at H
  have c3b0 : (a0_0 == 1) = true := beq_iff_eq.mpr c3
  have c3b1 : (a0_0 != 1) = false := bne_eq_false_iff_eq.mpr c3
  clear c3
  obtain rfl := Option.some.inj H
  go_enter Try.func48, Try.ntmps48
  go_wp2_with (first | ((with_reducible refine gate_dst (N := 2) rfl ?_); refine bE (N := 2) (cs := #[.int .i64 a0_0, .int .i64 a0_1, .slice A0_2 l0_2.length c0_2]) (t := 49) ?_; intro gb101 hg w4 hbox hb; have GW101 := qw HB hg; have GE101 := qw HB hg; have BK101 := aK hbox; replace HB := qs HB hb; clear hb hbox hg; obtain ⟨hcz5_0, hcz5_1, hcz5_2, hfz5_0, hfz5_1, hfz5_2⟩ := cA3 BK101))
  go_ret
  exact ⟨eW, pH HB⟩
 ·rw [if_neg c3] at H
  have c3b0 : (a0_0 == 1) = false := beq_eq_false_iff_ne.mpr c3
  have c3b1 : (a0_0 != 1) = true := bne_iff_ne.mpr c3
  have H' := aK H
  clear H
  go_enter Try.func48, Try.ntmps48
  go_wp2_with (first | ((with_reducible refine gate_dst (N := 2) rfl ?_); refine bE (N := 2) (cs := #[.int .i64 a0_0, .int .i64 a0_1, .slice A0_2 l0_2.length c0_2]) (t := 49) ?_; intro gb101 hg w6 hbox hb; have GW101 := qw HB hg; have GE101 := qw HB hg; have BK101 := aK hbox; replace HB := qs HB hb; clear hb hbox hg; obtain ⟨hcz7_0, hcz7_1, hcz7_2, hfz7_0, hfz7_1, hfz7_2⟩ := cA3 BK101))
  go_loopg [17] k (fun kq v17 w' => ∃ (x17_1 : Int), v17 = .int .i64 x17_1 ∧ Aside0 (spec_ldHas.l0 kq a1 l0_2 (l0_2.length : Int) x17_1 = some r) ∧ Aside0 (kq ≤ k) ∧ Aside0 (w'.heap[gb101]? = some (.cells #[.int .i64 a0_0, .int .i64 a0_1, (.slice A0_2 l0_2.length c0_2)] 49 (0, 0))) ∧ Aside0 (Below w.heap.size w w'))
  case atStart => exact ⟨(0), rS, H', ⟨Nat.le_refl _⟩, ⟨pB BK101⟩, ⟨pH HB⟩⟩
  case round =>
   clear H'
   try clear p2; try clear c3; try clear c3b0; try clear c3b1; try clear c4; try clear hcz5_0 hcz5_1 hcz5_2 hfz5_0 hfz5_1 hfz5_2; try clear hcz7_0 hcz7_1 hcz7_2 hfz7_0 hfz7_1 hfz7_2
   obtain ⟨x17_1, rfl, HA, HK1, BK101, HB⟩ := hrel
   cases gk with
   | zero => exact absurd HA.out (by simp [spec_ldHas.l0])
   | succ k1 =>
    have H := HA.out
    clear HA
    simp only [spec_ldHas.l0] at H
    by_cases c8 : x17_1 < (l0_2.length : Int)
    ·rw [if_pos c8] at H
     have c8b0 : decide (x17_1 < (l0_2.length : Int)) = true := decide_eq_true c8
     clear c8
     by_cases c9 : 0 ≤ x17_1
     ·rw [if_pos c9] at H
      have c9b0 : decide (0 ≤ x17_1) = true := decide_eq_true c9
      clear c9
      by_cases c10 : x17_1 < (l0_2.length : Int)
      ·rw [if_pos c10] at H
       have c10b0 : decide (x17_1 < (l0_2.length : Int)) = true := decide_eq_true c10
       clear c10
       replace H := Option.bind_eq_some_iff.mp H
       obtain ⟨t104, A110, H⟩ := H
       try dsimp only at H
       have A11 := aK A110
       clear A110
       by_cases c12 : t104 = true
       ·subst c12
        rw [if_pos rfl] at H
        obtain rfl := Option.some.inj H
        have p102 : 0 ≤ (x17_1 : Int) := dA
        have q102 : x17_1 < (l0_2.length : Int) := dA
        obtain ⟨ad102, A102_2, c102_2, e102, hx102_0, hx102_1, hx102_2, hl102_2, hi102_2⟩ := at_T49 HR0_2.out x17_1 p102 q102
        cases e102
        replace hx102_0 := uC HB hx102_0
        replace hx102_1 := uC HB hx102_1
        replace hx102_2 := uC HB hx102_2
        have HR102_2 := aK hi102_2
        have HC102_2 := aK hl102_2
        clear hi102_2 hl102_2
        replace p102 := eq_true p102
        replace q102 := eq_true q102
        go_wp2_with (first | ((with_reducible refine gate_dst (N := 6) rfl ?_); refine bE (N := 6) (cs := #[.int .i64 0, .int .i64 0, .slice none 0 0]) (t := 49) ?_; intro gb103 hg w13 hbox hb; have GW103 := qw HB hg; have GE103 := qw HB hg; have NB101_103 := ql BK101 hg; have NB103_101 := qg BK101 hg; replace BK101 := qb BK101 hb; have BK103 := aK hbox; replace HB := qs HB hb; clear hb hbox hg; have hnb14 := NB103_101.out; have hnc14 := NB101_103.out; obtain ⟨hcz15_0, hcz15_1, hcz15_2, hfz15_0, hfz15_1, hfz15_2⟩ := cA3 BK103) | ((with_reducible refine gate_callee (f := 48) rfl ?_); refine goesL_ (some 23) rfl rfl Try.func48 (by kernel_rfl) rfl #[.agg #[.int .i64 ((rd_T49 l0_2 x17_1).f0), .int .i64 ((rd_T49 l0_2 x17_1).f1), .slice A102_2 ((rd_T49 l0_2 x17_1).f2).length c102_2], .int .i64 a1] rfl tA ?_; (with_reducible refine (ih k1 (by have := HK1.out; omega) ((rd_T49 l0_2 x17_1).f0) ((rd_T49 l0_2 x17_1).f1) _ _ ((rd_T49 l0_2 x17_1).f2) a1 true _ ?side1 ?side2 A11.out).mono ?_); (case side1 => exact Kd.C_below HR102_2.out (pH HB)); (case side2 => exact HC102_2.out); rintro e w16 ⟨rfl, hb⟩; refine ⟨_, rfl, ?_⟩; have n0_ := aK (blk_below (g := gb101) (o := .cells #[.int .i64 a0_0, .int .i64 a0_1, .slice (some ad102) l0_2.length c0_2] 49 (0, 0)) (by (repeat first | with_reducible apply zN | with_reducible apply zD | with_reducible apply zA | refine blk_far ?_ NB101_103.out _); exact BK101.out) hb); have n1_ := aK (blk_below (g := gb103) (o := .cells #[.int .i64 ((rd_T49 l0_2 x17_1).f0), .int .i64 ((rd_T49 l0_2 x17_1).f1), .slice A102_2 ((rd_T49 l0_2 x17_1).f2).length c102_2] 49 (0, 0)) (p3 BK103) hb); have n2_ := aK (below_step (pH HB) hb); clear BK101; clear BK103; clear HB; have BK101 := n0_; have BK103 := n1_; have HB := n2_; clear n0_ n1_ n2_; (try clear hb)))
        go_ret
        exact ⟨eW, pH HB⟩
       ·replace c12 := Bool.eq_false_iff.mpr c12
        subst c12
        rw [if_neg (show ¬ (false = true) by decide)] at H
        have H' := aK H
        clear H
        have p102 : 0 ≤ (x17_1 : Int) := dA
        have q102 : x17_1 < (l0_2.length : Int) := dA
        obtain ⟨ad102, A102_2, c102_2, e102, hx102_0, hx102_1, hx102_2, hl102_2, hi102_2⟩ := at_T49 HR0_2.out x17_1 p102 q102
        cases e102
        replace hx102_0 := uC HB hx102_0
        replace hx102_1 := uC HB hx102_1
        replace hx102_2 := uC HB hx102_2
        have HR102_2 := aK hi102_2
        have HC102_2 := aK hl102_2
        clear hi102_2 hl102_2
        replace p102 := eq_true p102
        replace q102 := eq_true q102
        go_wp2_with (first | ((with_reducible refine gate_dst (N := 6) rfl ?_); refine bE (N := 6) (cs := #[.int .i64 0, .int .i64 0, .slice none 0 0]) (t := 49) ?_; intro gb103 hg w17 hbox hb; have GW103 := qw HB hg; have GE103 := qw HB hg; have NB101_103 := ql BK101 hg; have NB103_101 := qg BK101 hg; replace BK101 := qb BK101 hb; have BK103 := aK hbox; replace HB := qs HB hb; clear hb hbox hg; have hnb18 := NB103_101.out; have hnc18 := NB101_103.out; obtain ⟨hcz19_0, hcz19_1, hcz19_2, hfz19_0, hfz19_1, hfz19_2⟩ := cA3 BK103) | ((with_reducible refine gate_callee (f := 48) rfl ?_); refine goesL_ (some 23) rfl rfl Try.func48 (by kernel_rfl) rfl #[.agg #[.int .i64 ((rd_T49 l0_2 x17_1).f0), .int .i64 ((rd_T49 l0_2 x17_1).f1), .slice A102_2 ((rd_T49 l0_2 x17_1).f2).length c102_2], .int .i64 a1] rfl tA ?_; (with_reducible refine (ih k1 (by have := HK1.out; omega) ((rd_T49 l0_2 x17_1).f0) ((rd_T49 l0_2 x17_1).f1) _ _ ((rd_T49 l0_2 x17_1).f2) a1 false _ ?side1 ?side2 A11.out).mono ?_); (case side1 => exact Kd.C_below HR102_2.out (pH HB)); (case side2 => exact HC102_2.out); rintro e w20 ⟨rfl, hb⟩; refine ⟨_, rfl, ?_⟩; have n0_ := aK (blk_below (g := gb101) (o := .cells #[.int .i64 a0_0, .int .i64 a0_1, .slice (some ad102) l0_2.length c0_2] 49 (0, 0)) (by (repeat first | with_reducible apply zN | with_reducible apply zD | with_reducible apply zA | refine blk_far ?_ NB101_103.out _); exact BK101.out) hb); have n1_ := aK (blk_below (g := gb103) (o := .cells #[.int .i64 ((rd_T49 l0_2 x17_1).f0), .int .i64 ((rd_T49 l0_2 x17_1).f1), .slice A102_2 ((rd_T49 l0_2 x17_1).f2).length c102_2] 49 (0, 0)) (p3 BK103) hb); have n2_ := aK (below_step (pH HB) hb); clear BK101; clear BK103; clear HB; have BK101 := n0_; have BK103 := n1_; have HB := n2_; clear n0_ n1_ n2_; (try clear hb)))
        go_roundg k1
        case measure => have := HK1.out; omega
        case rel => exact ⟨(wrap64 (x17_1 + 1)), rS, H', ⟨by have := HK1.out; omega⟩, ⟨pB BK101⟩, ⟨pH HB⟩⟩
      ·rw [if_neg c10] at H
       exact absurd H (by simp)
     ·rw [if_neg c9] at H
      exact absurd H (by simp)
    ·rw [if_neg c8] at H
     have c8b0 : decide (x17_1 < (l0_2.length : Int)) = false := decide_eq_false c8
     clear c8
     obtain rfl := Option.some.inj H
     go_wp2
     go_ret
     exact ⟨eW, pH HB⟩


def spec_ldOne.f (a0 : Int) : Option (Int × Int × (List (S49))) := some (a0, 0, ([] : List (S49)))
set_option maxHeartbeats 8000000 in
set_option maxRecDepth 100000 in
theorem spec_ldOne.calls (a0 : Int) (r1 : Int) (r2 : Int) (r3 : List (S49)) (w : World) (h : spec_ldOne.f a0 = some (r1, r2, r3)) :
  Calls Try.prog 49 #[.int .i64 a0] w fun e w' => ∃ v2_ : Value, e = .returned (.agg #[.int .i64 r1, .int .i64 r2, v2_]) ∧ Kd.R k49 49 w' w.heap.size (fun _ => True) v2_ r3 ∧ Below w.heap.size w w' := by
 have hu49 := Try.underlying49
 have HB := aK (Below.refl w.heap.size w)
 have H : (some (a0, 0, ([] : List (S49)))) = some (r1, r2, r3) := h
 clear h
 simp only [Option.some.injEq, Prod.mk.injEq] at H
 obtain ⟨rfl, rfl, rfl⟩ := H
 go_enter Try.func49, Try.ntmps49
 go_wp2_with (first | ((with_reducible refine gate_dst (N := 2) rfl ?_); refine bE (N := 2) (cs := #[.int .i64 0, .int .i64 0, .slice none 0 0]) (t := 49) ?_; intro gb101 hg w2 hbox hb; have GW101 := qw HB hg; have GE101 := qw HB hg; have BK101 := aK hbox; replace HB := qs HB hb; clear hb hbox hg; obtain ⟨hcz3_0, hcz3_1, hcz3_2, hfz3_0, hfz3_1, hfz3_2⟩ := cA3 BK101))
 refine bodyPost_ret (results_cell_row rfl _ _ gb101 49 #[.int .i64 a0, .int .i64 0, .slice none 0 0] (0, 0) _ rfl (p3 BK101) Try.underlying49 rfl (by kernel_rfl)) rfl ?_
 exact ⟨_, eW, by first | exact Kd.R_nil _ _ _ _ _ | exact Kd.N_nil _ _ _ _ _ | exact Kd.V_nil _ _ _ _ _ | exact Kd.Q_nil _ _ _ _ _ | exact Kd.S_nil _ _ _ _ _, pH HB⟩


def spec_ldIs.f (a0_0 : Int) (a0_1 : Int) (l0_2 : List (S49)) (a1 : Int) : Option (Bool) := if a0_0 = 1 then (some (a0_1 == a1)) else (some false)
set_option maxHeartbeats 8000000 in
set_option maxRecDepth 100000 in
theorem spec_ldIs.calls (a0_0 : Int) (a0_1 : Int) (A0_2 : Option Addr) (c0_2 : Nat) (l0_2 : List (S49)) (a1 : Int) (r : Bool) (w : World) (hr0_2 : Kd.C k49 w A0_2 l0_2.length l0_2) (hc0_2 : l0_2.length ≤ c0_2) (h : spec_ldIs.f a0_0 a0_1 l0_2 a1 = some r) :
  Calls Try.prog 50 #[.agg #[.int .i64 a0_0, .int .i64 a0_1, .slice A0_2 l0_2.length c0_2], .int .i64 a1] w fun e w' => e = .returned (.bool r) ∧ Below w.heap.size w w' := by
 have hu49 := Try.underlying49
 have HR0_2 := aK hr0_2
 have HC0_2 := aK hc0_2
 clear hr0_2 hc0_2
 have HB := aK (Below.refl w.heap.size w)
 have H : (if a0_0 = 1 then (some (a0_1 == a1)) else (some false)) = some r := h
 clear h
 by_cases c3 : a0_0 = 1
 ·rw [if_pos c3] at H
  have c3b0 : (a0_0 == 1) = true := beq_iff_eq.mpr c3
  have c3b1 : (a0_0 != 1) = false := bne_eq_false_iff_eq.mpr c3
  clear c3
  obtain rfl := Option.some.inj H
  go_enter Try.func50, Try.ntmps50
  go_wp2_with (first | ((with_reducible refine gate_dst (N := 2) rfl ?_); refine bE (N := 2) (cs := #[.int .i64 a0_0, .int .i64 a0_1, .slice A0_2 l0_2.length c0_2]) (t := 49) ?_; intro gb101 hg w4 hbox hb; have GW101 := qw HB hg; have GE101 := qw HB hg; have BK101 := aK hbox; replace HB := qs HB hb; clear hb hbox hg; obtain ⟨hcz5_0, hcz5_1, hcz5_2, hfz5_0, hfz5_1, hfz5_2⟩ := cA3 BK101))
  go_ret
  exact ⟨eW, pH HB⟩
 ·rw [if_neg c3] at H
  have c3b0 : (a0_0 == 1) = false := beq_eq_false_iff_ne.mpr c3
  have c3b1 : (a0_0 != 1) = true := bne_iff_ne.mpr c3
  obtain rfl := Option.some.inj H
  go_enter Try.func50, Try.ntmps50
  go_wp2_with (first | ((with_reducible refine gate_dst (N := 2) rfl ?_); refine bE (N := 2) (cs := #[.int .i64 a0_0, .int .i64 a0_1, .slice A0_2 l0_2.length c0_2]) (t := 49) ?_; intro gb101 hg w6 hbox hb; have GW101 := qw HB hg; have GE101 := qw HB hg; have BK101 := aK hbox; replace HB := qs HB hb; clear hb hbox hg; obtain ⟨hcz7_0, hcz7_1, hcz7_2, hfz7_0, hfz7_1, hfz7_2⟩ := cA3 BK101))
  go_ret
  exact ⟨eW, pH HB⟩


mutual
def spec_ldAbstract.j0 : Nat → Int → Bool → Int → Int → List (S49) → Int → Int → List (S49) → Option (Int × Int × (List (S49)))
 | 0, _, _, _, _, _, _, _, _ => none
 | k + 1, x1, x34, x121000, x121001, x121002, x123000, x123001, x123002 => if x34 = true then (some (x121000, x121001, x121002)) else ((spec_ldOne.f 3).bind fun bt125 => ((spec_ldAbstract.f k x121000 x121001 x121002 x1).bind fun bt130 => ((spec_ldApp.f bt125.1 bt125.2.1 bt125.2.2 bt130.1 bt130.2.1 bt130.2.2).bind fun bt135 => ((spec_ldAbstract.f k x123000 x123001 x123002 x1).bind fun bt140 => ((spec_ldApp.f bt135.1 bt135.2.1 bt135.2.2 bt140.1 bt140.2.1 bt140.2.2).bind fun bt145 => (some (bt145.1, bt145.2.1, bt145.2.2)))))))
def spec_ldAbstract.f : Nat → Int → Int → List (S49) → Int → Option (Int × Int × (List (S49)))
 | 0, _, _, _, _ => none
 | k + 1, a0_0, a0_1, l0_2, a1 => (spec_ldHas.f k a0_0 a0_1 l0_2 a1).bind fun t103 => (if t103 = true then (if a0_0 = 1 then ((spec_ldOne.f 5).bind fun bt114 => (some (bt114.1, bt114.2.1, bt114.2.2))) else (if 0 < (l0_2.length : Int) then (if 1 < (l0_2.length : Int) then ((spec_ldIs.f ((rd_T49 l0_2 1).f0) ((rd_T49 l0_2 1).f1) ((rd_T49 l0_2 1).f2) a1).bind fun t123 => (if t123 = true then ((spec_ldHas.f k ((rd_T49 l0_2 0).f0) ((rd_T49 l0_2 0).f1) ((rd_T49 l0_2 0).f2) a1).bind fun t124 => (spec_ldAbstract.j0 k a1 (!t124) ((rd_T49 l0_2 0).f0) ((rd_T49 l0_2 0).f1) ((rd_T49 l0_2 0).f2) ((rd_T49 l0_2 1).f0) ((rd_T49 l0_2 1).f1) ((rd_T49 l0_2 1).f2))) else (spec_ldAbstract.j0 k a1 false ((rd_T49 l0_2 0).f0) ((rd_T49 l0_2 0).f1) ((rd_T49 l0_2 0).f2) ((rd_T49 l0_2 1).f0) ((rd_T49 l0_2 1).f1) ((rd_T49 l0_2 1).f2)))) else (none)) else (none))) else ((spec_ldOne.f 4).bind fun bt104 => ((spec_ldApp.f bt104.1 bt104.2.1 bt104.2.2 a0_0 a0_1 l0_2).bind fun bt109 => (some (bt109.1, bt109.2.1, bt109.2.2)))))
end
def spec_ldAbstract.T9 : Bool × List (List Nat × List Nat) := (true, [([], []), ([], []), ([], []), ([1, 2, 0], [1, 2]), ([0, 3, 3], [0, 3]), ([], []), ([], []), ([5, 6, 4], [5, 6]), ([4, 7, 7], [4, 7]), ([8, 8, 0, 1, 2, 3, 4, 5, 6, 7, 8], [8])])
def spec_ldAbstract.B9 : List Nat := [0, 0, 0, 7, 15, 0, 0, 127, 255, 511]
theorem spec_ldAbstract.tab9 : rtab .any (opsOf Try.f28 9) = spec_ldAbstract.T9 := by kernel_rfl
theorem spec_ldAbstract.bits9 : waitsOk spec_ldAbstract.T9.2 spec_ldAbstract.B9 = true := by kernel_rfl
set_option maxHeartbeats 8000000 in
set_option maxRecDepth 100000 in
theorem spec_ldAbstract.calls (k : Nat) : ∀ (a0_0 : Int) (a0_1 : Int) (P0_2_ : Nat → Prop) (A0_2 : Option Addr) (c0_2 : Nat) (l0_2 : List (S49)) (a1 : Int) (r1 : Int) (r2 : Int) (r3 : List (S49)) (w : World) (hs0_2 : Kd.V k49 49 w w.heap.size (fun k_ => P0_2_ k_) (.slice A0_2 l0_2.length c0_2) l0_2) (h : spec_ldAbstract.f k a0_0 a0_1 l0_2 a1 = some (r1, r2, r3)),
  Calls Try.prog 28 #[.agg #[.int .i64 a0_0, .int .i64 a0_1, .slice A0_2 l0_2.length c0_2], .int .i64 a1] w fun e w' => ∃ v2_ : Value, e = .returned (.agg #[.int .i64 r1, .int .i64 r2, v2_]) ∧ Kd.V k49 49 w' w.heap.size (fun k_ => (P0_2_ k_ ∨ w.heap.size ≤ k_)) v2_ r3 ∧ Below w.heap.size w w' := by
 induction k using Nat.strongRecOn with
 | _ k ih =>
 intro a0_0 a0_1 P0_2_ A0_2 c0_2 l0_2 a1 r1 r2 r3 w hs0_2 h
 cases k with
 | zero => exact absurd h (by simp [spec_ldAbstract.f])
 | succ k =>
 simp only [spec_ldAbstract.f] at h
 have hu49 := Try.underlying49
 have HO0_2 := aK (show Kd.V k49 49 w w.heap.size (fun k_ => (P0_2_ k_ ∨ w.heap.size ≤ k_)) (.slice A0_2 l0_2.length c0_2) l0_2 from Kd.V_mono hs0_2 (fun k_ hk => .inl hk))
 have HB := aK (Below.refl w.heap.size w)
 have H : ((spec_ldHas.f k a0_0 a0_1 l0_2 a1).bind fun t103 => (if t103 = true then (if a0_0 = 1 then ((spec_ldOne.f 5).bind fun bt114 => (some (bt114.1, bt114.2.1, bt114.2.2))) else (if 0 < (l0_2.length : Int) then (if 1 < (l0_2.length : Int) then ((spec_ldIs.f ((rd_T49 l0_2 1).f0) ((rd_T49 l0_2 1).f1) ((rd_T49 l0_2 1).f2) a1).bind fun t123 => (if t123 = true then ((spec_ldHas.f k ((rd_T49 l0_2 0).f0) ((rd_T49 l0_2 0).f1) ((rd_T49 l0_2 0).f2) a1).bind fun t124 => (spec_ldAbstract.j0 k a1 (!t124) ((rd_T49 l0_2 0).f0) ((rd_T49 l0_2 0).f1) ((rd_T49 l0_2 0).f2) ((rd_T49 l0_2 1).f0) ((rd_T49 l0_2 1).f1) ((rd_T49 l0_2 1).f2))) else (spec_ldAbstract.j0 k a1 false ((rd_T49 l0_2 0).f0) ((rd_T49 l0_2 0).f1) ((rd_T49 l0_2 0).f2) ((rd_T49 l0_2 1).f0) ((rd_T49 l0_2 1).f1) ((rd_T49 l0_2 1).f2)))) else (none)) else (none))) else ((spec_ldOne.f 4).bind fun bt104 => ((spec_ldApp.f bt104.1 bt104.2.1 bt104.2.2 a0_0 a0_1 l0_2).bind fun bt109 => (some (bt109.1, bt109.2.1, bt109.2.2)))))) = some (r1, r2, r3) := h
 clear h
 replace H := Option.bind_eq_some_iff.mp H
 obtain ⟨t103, A30, H⟩ := H
 try dsimp only at H
 have A3 := aK A30
 clear A30
 by_cases c4 : t103 = true
 ·subst c4
  rw [if_pos rfl] at H
  by_cases c5 : a0_0 = 1
  ·rw [if_pos c5] at H
   have c5b0 : (a0_0 == 1) = true := beq_iff_eq.mpr c5
   have c5b1 : (a0_0 != 1) = false := bne_eq_false_iff_eq.mpr c5
   clear c5
   replace H := Option.bind_eq_some_iff.mp H
   obtain ⟨⟨t114, t115, t116⟩, A60, H⟩ := H
   try dsimp only at H
   have A6 := aK A60
   clear A60
   simp only [Option.some.injEq, Prod.mk.injEq] at H
   obtain ⟨rfl, rfl, rfl⟩ := H
   go_enter Try.func28, Try.ntmps28
   go_wp2_with (first | ((with_reducible refine gate_dst (N := 2) rfl ?_); refine bE (N := 2) (cs := #[.int .i64 a0_0, .int .i64 a0_1, .slice A0_2 l0_2.length c0_2]) (t := 49) ?_; intro gb101 hg w7 hbox hb; have GW101 := qw HB hg; have GE101 := qw HB hg; replace HO0_2 := qv HO0_2 hg hb; have BK101 := aK hbox; replace HB := qs HB hb; clear hb hbox hg) | ((with_reducible refine gate_dst (N := 4) rfl ?_); refine bE (N := 4) (cs := #[.int .i64 0, .int .i64 0, .slice none 0 0]) (t := 49) ?_; intro gb102 hg w8 hbox hb; have GW102 := qw HB hg; have GE102 := qw HB hg; have NB101_102 := ql BK101 hg; have NB102_101 := qg BK101 hg; replace HO0_2 := qv HO0_2 hg hb; replace BK101 := qb BK101 hb; have BK102 := aK hbox; replace HB := qs HB hb; clear hb hbox hg; have hnb9 := NB101_102.out; have hnc9 := NB102_101.out; obtain ⟨hcz10_0, hcz10_1, hcz10_2, hfz10_0, hfz10_1, hfz10_2⟩ := cA3 BK101) | ((with_reducible refine gate_callee (f := 48) rfl ?_); refine goesL_ (some 9) rfl rfl Try.func48 (by kernel_rfl) rfl #[.agg #[.int .i64 a0_0, .int .i64 a0_1, .slice A0_2 l0_2.length c0_2], .int .i64 a1] rfl tA ?_; (with_reducible refine (spec_ldHas.calls k a0_0 a0_1 _ _ l0_2 a1 true _ ?side1 ?side2 A3.out).mono ?_); (case side1 => exact sC ((Kd.V_reads' HO0_2.out).2.2)); (case side2 => exact (Kd.V_reads' HO0_2.out).2.1); rintro e w11 ⟨rfl, hb⟩; refine ⟨_, rfl, ?_⟩; have n0_ := aK (Kd.V_below HO0_2.out hb); replace BK101 := qb BK101 hb; replace BK102 := qb BK102 hb; clear HO0_2; have HO0_2 := n0_; clear n0_; replace HB := qs HB hb; (try clear hb); obtain ⟨hcz12_0, hcz12_1, hcz12_2, hfz12_0, hfz12_1, hfz12_2⟩ := cA3 BK101) | ((with_reducible refine gate_callee (f := 49) rfl ?_); refine goesL_ (some 17) rfl rfl Try.func49 (by kernel_rfl) rfl #[.int .i64 5] rfl tA ?_; (with_reducible refine (spec_ldOne.calls 5 t114 t115 t116 _ A6.out).mono ?_); rintro e w13 ⟨v117, rfl, ho0, hb⟩; refine ⟨_, rfl, ?_⟩; have HO118 := aK (Kd.N_lower (Kd.N_mono (ok' := fun k_ => (P0_2_ k_ ∨ w.heap.size ≤ k_) ∧ k_ ≠ gb101 ∧ k_ ≠ gb102) (Kd.R_N (Kd.R_bound ho0)) (fun k_ hk_ => ⟨(.inr (Nat.le_trans (below_size HB.out) hk_.2.1)), (Kd.freshB BK101.out k_ hk_.2.1), (Kd.freshB BK102.out k_ hk_.2.1)⟩)) (below_size HB.out)); replace HO0_2 := qe HO0_2 (by first | exact Kd.N_base ho0 | exact Kd.R_base ho0) hb; replace BK101 := qb BK101 hb; replace BK102 := qb BK102 hb; replace HB := qs HB hb; (try clear hb); (try clear ho0); obtain ⟨hcz14_0, hcz14_1, hcz14_2, hfz14_0, hfz14_1, hfz14_2⟩ := cA3 BK102; obtain ⟨Ao15, co15, eo15⟩ := Kd.N_slice HO118.out; subst eo15))
   refine bodyPost_ret (results_cell_row rfl _ _ gb102 49 #[.int .i64 t114, .int .i64 t115, .slice Ao15 t116.length co15] (0, 0) _ rfl (p3 BK102) Try.underlying49 rfl (by kernel_rfl)) rfl ?_
   exact ⟨_, eW, Kd.N_V (by (with_reducible repeat (first | apply Kd.N_alloc | apply Kd.N_drewN | apply Kd.N_drew)); exact Kd.N_mono (nF3 gb102 (Kd.N_mono HO118.out (fun k_ hk => (⟨hk, hk.2.2⟩ : _ ∧ k_ ≠ gb102))) (fun _ hk => hk.2)) (fun _ hk => hk.1.1)), pH HB⟩
  ·rw [if_neg c5] at H
   have c5b0 : (a0_0 == 1) = false := beq_eq_false_iff_ne.mpr c5
   have c5b1 : (a0_0 != 1) = true := bne_iff_ne.mpr c5
   by_cases c16 : 0 < (l0_2.length : Int)
   ·rw [if_pos c16] at H
    have c16b0 : decide (0 < (l0_2.length : Int)) = true := decide_eq_true c16
    have c16b1 : decide (0 < l0_2.length) = true := decide_eq_true (by omega)
    clear c16
    by_cases c17 : 1 < (l0_2.length : Int)
    ·rw [if_pos c17] at H
     have c17b0 : decide (1 < (l0_2.length : Int)) = true := decide_eq_true c17
     have c17b1 : decide (1 < l0_2.length) = true := decide_eq_true (by omega)
     clear c17
     have HC18 := aK H
     clear H
     go_enter Try.func28, Try.ntmps28
     go_upto_region 7 with (first | ((with_reducible refine gate_dst (N := 2) rfl ?_); refine bE (N := 2) (cs := #[.int .i64 a0_0, .int .i64 a0_1, .slice A0_2 l0_2.length c0_2]) (t := 49) ?_; intro gb101 hg w19 hbox hb; have GW101 := qw HB hg; have GE101 := qw HB hg; replace HO0_2 := qv HO0_2 hg hb; have BK101 := aK hbox; replace HB := qs HB hb; clear hb hbox hg) | ((with_reducible refine gate_dst (N := 4) rfl ?_); refine bE (N := 4) (cs := #[.int .i64 0, .int .i64 0, .slice none 0 0]) (t := 49) ?_; intro gb102 hg w20 hbox hb; have GW102 := qw HB hg; have GE102 := qw HB hg; have NB101_102 := ql BK101 hg; have NB102_101 := qg BK101 hg; replace HO0_2 := qv HO0_2 hg hb; replace BK101 := qb BK101 hb; have BK102 := aK hbox; replace HB := qs HB hb; clear hb hbox hg; have hnb21 := NB101_102.out; have hnc21 := NB102_101.out; obtain ⟨hcz22_0, hcz22_1, hcz22_2, hfz22_0, hfz22_1, hfz22_2⟩ := cA3 BK101) | ((with_reducible refine gate_callee (f := 48) rfl ?_); refine goesL_ (some 9) rfl rfl Try.func48 (by kernel_rfl) rfl #[.agg #[.int .i64 a0_0, .int .i64 a0_1, .slice A0_2 l0_2.length c0_2], .int .i64 a1] rfl tA ?_; (with_reducible refine (spec_ldHas.calls k a0_0 a0_1 _ _ l0_2 a1 true _ ?side1 ?side2 A3.out).mono ?_); (case side1 => exact sC ((Kd.V_reads' HO0_2.out).2.2)); (case side2 => exact (Kd.V_reads' HO0_2.out).2.1); rintro e w23 ⟨rfl, hb⟩; refine ⟨_, rfl, ?_⟩; have n0_ := aK (Kd.V_below HO0_2.out hb); replace BK101 := qb BK101 hb; replace BK102 := qb BK102 hb; clear HO0_2; have HO0_2 := n0_; clear n0_; replace HB := qs HB hb; (try clear hb); obtain ⟨hcz24_0, hcz24_1, hcz24_2, hfz24_0, hfz24_1, hfz24_2⟩ := cA3 BK101; have p119 : 0 ≤ (0 : Int) := (by omega); have q119 : 0 < (l0_2.length : Int) := dA; obtain ⟨ad119, A119_2, c119_2, e119, hx119_0, hx119_1, hx119_2, hl119_2, hi119_2⟩ := at_T49 (Kd.V_reads' HO0_2.out).2.2 0 p119 q119; cases e119; obtain ⟨ce119, hce119, hMe119, hcc119⟩ := Kd.V_get HO0_2.out z49 0 p119 (by first | exact q119 | exact dA | (have e_ := (Kd.V_reads' HO0_2.out).1; omega)); obtain ⟨ua119_2, uc119_2, rfl, ul119_2, ge119_2⟩ := k49_openF hMe119; have hv119_2 := hcc119 2 _ rfl; rw [add_field _ _ 2 (by omega)] at hv119_2; replace hv119_2 := Option.some.inj (hv119_2.symm.trans hx119_2); injection hv119_2 with hva_ hvn_ hvc_; rw [hva_] at ge119_2; rw [hvc_] at ul119_2; have HL119_2 := aK (show Kd.V k49 49 _ w.heap.size _ _ ((rd_T49 l0_2 0).f2) from Kd.V_mk ul119_2 ge119_2); clear hva_ hvn_ hvc_ ge119_2 ul119_2; clear hcc119 hce119; have qi119 : (0 < l0_2.length) = True := eq_true (by omega); (try rw [show ((0 : Int)).toNat = 0 from rfl] at hx119_0); (try rw [show 0 * 3 = 0 from rfl] at hx119_0); (try rw [Addr.add_zero'] at hx119_0); (try rw [show ((0 : Int)).toNat = 0 from rfl] at hx119_1); (try rw [show 0 * 3 = 0 from rfl] at hx119_1); (try rw [Addr.add_zero'] at hx119_1); (try rw [show ((0 : Int)).toNat = 0 from rfl] at hx119_2); (try rw [show 0 * 3 = 0 from rfl] at hx119_2); (try rw [Addr.add_zero'] at hx119_2); have HR119_2 := aK hi119_2; have HC119_2 := aK hl119_2; clear hi119_2 hl119_2; replace p119 := eq_true p119; replace q119 := eq_true q119) | ((with_reducible refine gate_dst (N := 5) rfl ?_); refine bE (N := 5) (cs := #[.int .i64 0, .int .i64 0, .slice none 0 0]) (t := 49) ?_; intro gb120 hg w25 hbox hb; have GW120 := qw HB hg; have GE120 := qw HB hg; have NB101_120 := ql BK101 hg; have NB120_101 := qg BK101 hg; have NB102_120 := ql BK102 hg; have NB120_102 := qg BK102 hg; replace HR119_2 := qr HL119_2 hb; replace HO0_2 := qv HO0_2 hg hb; replace HL119_2 := qv HL119_2 hg hb; replace BK101 := qb BK101 hb; replace BK102 := qb BK102 hb; have BK120 := aK hbox; replace HB := qs HB hb; clear hb hbox hg; have hnb26 := NB120_101.out; have hnc26 := NB101_120.out; have hnb27 := NB120_102.out; have hnc27 := NB102_120.out; obtain ⟨hcz28_0, hcz28_1, hcz28_2, hfz28_0, hfz28_1, hfz28_2⟩ := cA3 BK120) | ((with_reducible refine gate_store (t := 49) (p := 5) rfl ?_); refine store_event (t := 49) (p := 5) (v := ?vo_w29) (w1 := (((w25.setCell ⟨gb120, 0, none⟩ (.int .i64 ((rd_T49 l0_2 0).f0))).setCell ⟨gb120, 1, none⟩ (.int .i64 ((rd_T49 l0_2 0).f1))).setCell ⟨gb120, 2, none⟩ (.slice A119_2 ((rd_T49 l0_2 0).f2).length c119_2))) ?hg ?ho ?hn ?hr ?_; (case ho => rfl); (case hg => rfl); (case hn => rfl); (case hr => first | (go_simp; done) | (go_simp; rfl)); intro w29 hw; have n0_ : Aside0 (Kd.V k49 49 w29 w.heap.size (fun k_ => (P0_2_ k_ ∨ w.heap.size ≤ k_) ∧ k_ ≠ gb101 ∧ k_ ≠ gb102 ∧ k_ ≠ gb120) (.slice (some ad119) l0_2.length c0_2) l0_2) := ⟨(by rw [hw]; exact (by (with_reducible repeat (first | apply Kd.V_alloc | apply Kd.V_drewN | apply Kd.V_drew)); exact Kd.V_mono (vF3 gb120 (Kd.V_mono HO0_2.out (fun k_ hk => (⟨hk, hk.2⟩ : _ ∧ k_ ≠ gb120))) (fun _ hk => hk.2)) (fun _ hk => ⟨hk.1.1.1.1, ⟨hk.1.1.1.2, ⟨hk.1.1.2, hk.1.2⟩⟩⟩)))⟩; have n1_ : Aside0 (Kd.V k49 49 w29 w.heap.size (fun k_ => (P0_2_ k_ ∨ w.heap.size ≤ k_) ∧ k_ ≠ gb101 ∧ k_ ≠ gb102 ∧ k_ ≠ gb120) (.slice A119_2 ((rd_T49 l0_2 0).f2).length c119_2) ((rd_T49 l0_2 0).f2)) := ⟨(by rw [hw]; exact (by (with_reducible repeat (first | apply Kd.V_alloc | apply Kd.V_drewN | apply Kd.V_drew)); exact Kd.V_mono (vF3 gb120 (Kd.V_mono HL119_2.out (fun k_ hk => (⟨hk, hk.2⟩ : _ ∧ k_ ≠ gb120))) (fun _ hk => hk.2)) (fun _ hk => ⟨hk.1.1.1.1, ⟨hk.1.1.1.2, ⟨hk.1.1.2, hk.1.2⟩⟩⟩)))⟩; have n2_ : Aside0 (w29.heap[gb101]? = some (.cells #[.int .i64 a0_0, .int .i64 a0_1, .slice (some ad119) l0_2.length c0_2] 49 (0, 0))) := ⟨(by rw [hw]; exact (by (repeat first | with_reducible apply zN | with_reducible apply zD | with_reducible apply zA | refine blk_far ?_ NB101_120.out _); exact BK101.out))⟩; have n3_ : Aside0 (w29.heap[gb102]? = some (.cells #[.int .i64 0, .int .i64 0, .slice none 0 0] 49 (0, 0))) := ⟨(by rw [hw]; exact (by (repeat first | with_reducible apply zN | with_reducible apply zD | with_reducible apply zA | refine blk_far ?_ NB102_120.out _); exact BK102.out))⟩; have n4_ : Aside0 (w29.heap[gb120]? = some (.cells #[.int .i64 ((rd_T49 l0_2 0).f0), .int .i64 ((rd_T49 l0_2 0).f1), .slice A119_2 ((rd_T49 l0_2 0).f2).length c119_2] 49 (0, 0))) := ⟨(by rw [hw]; exact (p3 BK120))⟩; have n5_ : Aside0 (Below w.heap.size w w29) := ⟨(by rw [hw]; exact (pH HB))⟩; clear hw; clear HO0_2; clear HL119_2; clear BK101; clear BK102; clear BK120; clear HB; have HO0_2 := n0_; have HL119_2 := n1_; have BK101 := n2_; have BK102 := n3_; have BK120 := n4_; have HB := n5_; clear n0_ n1_ n2_ n3_ n4_ n5_; obtain ⟨hcz30_0, hcz30_1, hcz30_2, hfz30_0, hfz30_1, hfz30_2⟩ := cA3 BK101; have p121 : 0 ≤ (1 : Int) := (by omega); have q121 : 1 < (l0_2.length : Int) := dA; obtain ⟨ad121, A121_2, c121_2, e121, hx121_0, hx121_1, hx121_2, hl121_2, hi121_2⟩ := at_T49 (Kd.V_reads' HO0_2.out).2.2 1 p121 q121; obtain rfl : ad119 = ad121 := (by injection e121); obtain ⟨ce121, hce121, hMe121, hcc121⟩ := Kd.V_get HO0_2.out z49 1 p121 (by first | exact q121 | exact dA | (have e_ := (Kd.V_reads' HO0_2.out).1; omega)); obtain ⟨ua121_2, uc121_2, rfl, ul121_2, ge121_2⟩ := k49_openF hMe121; have hv121_2 := hcc121 2 _ rfl; rw [add_field _ _ 2 (by omega)] at hv121_2; replace hv121_2 := Option.some.inj (hv121_2.symm.trans hx121_2); injection hv121_2 with hva_ hvn_ hvc_; rw [hva_] at ge121_2; rw [hvc_] at ul121_2; have HL121_2 := aK (show Kd.V k49 49 _ w.heap.size _ _ ((rd_T49 l0_2 1).f2) from Kd.V_mk ul121_2 ge121_2); clear hva_ hvn_ hvc_ ge121_2 ul121_2; clear hcc121 hce121; (try simp only [show (1 : Int).toNat = 1 from rfl, Nat.reduceMul, Nat.reduceEqDiff, Go.Addr.add, ↓reduceIte] at hx121_0); (try simp only [show (1 : Int).toNat = 1 from rfl, Nat.reduceMul, Nat.reduceEqDiff, Go.Addr.add, ↓reduceIte] at hx121_1); (try simp only [show (1 : Int).toNat = 1 from rfl, Nat.reduceMul, Nat.reduceEqDiff, Go.Addr.add, ↓reduceIte] at hx121_2); have qi121 : (1 < l0_2.length) = True := eq_true (by omega); (try rw [show ((1 : Int)).toNat = 1 from rfl] at hx121_0); (try rw [show 1 * 3 = 3 from rfl] at hx121_0); (try rw [show ((1 : Int)).toNat = 1 from rfl] at hx121_1); (try rw [show 1 * 3 = 3 from rfl] at hx121_1); (try rw [show ((1 : Int)).toNat = 1 from rfl] at hx121_2); (try rw [show 1 * 3 = 3 from rfl] at hx121_2); have HR121_2 := aK hi121_2; have HC121_2 := aK hl121_2; clear hi121_2 hl121_2; replace p121 := eq_true p121; replace q121 := eq_true q121) | ((with_reducible refine gate_dst (N := 6) rfl ?_); refine bE (N := 6) (cs := #[.int .i64 0, .int .i64 0, .slice none 0 0]) (t := 49) ?_; intro gb122 hg w31 hbox hb; have GW122 := qw HB hg; have GE122 := qw HB hg; have NB101_122 := ql BK101 hg; have NB122_101 := qg BK101 hg; have NB102_122 := ql BK102 hg; have NB122_102 := qg BK102 hg; have NB120_122 := ql BK120 hg; have NB122_120 := qg BK120 hg; replace HR119_2 := qr HL119_2 hb; replace HR121_2 := qr HL121_2 hb; replace HO0_2 := qv HO0_2 hg hb; replace HL119_2 := qv HL119_2 hg hb; replace HL121_2 := qv HL121_2 hg hb; replace BK101 := qb BK101 hb; replace BK102 := qb BK102 hb; replace BK120 := qb BK120 hb; have BK122 := aK hbox; replace HB := qs HB hb; clear hb hbox hg; have hnb32 := NB122_101.out; have hnc32 := NB101_122.out; have hnb33 := NB122_102.out; have hnc33 := NB102_122.out; have hnb34 := NB122_120.out; have hnc34 := NB120_122.out; obtain ⟨hcz35_0, hcz35_1, hcz35_2, hfz35_0, hfz35_1, hfz35_2⟩ := cA3 BK122))
     (try simp only [Act.put, List.setIfInBounds_toArray, List.set_cons_zero, List.set_cons_succ])
     go_cut [34] (fun v34 wc => ∃ (kq : Nat) (x34_17 : Bool), v34 = .bool x34_17 ∧ Aside0 (spec_ldAbstract.j0 kq a1 x34_17 ((rd_T49 l0_2 0).f0) ((rd_T49 l0_2 0).f1) ((rd_T49 l0_2 0).f2) ((rd_T49 l0_2 1).f0) ((rd_T49 l0_2 1).f1) ((rd_T49 l0_2 1).f2) = some (r1, r2, r3)) ∧ Aside0 (kq ≤ k) ∧ Aside0 (Kd.V k49 49 wc w.heap.size (fun k_ => (P0_2_ k_ ∨ w.heap.size ≤ k_) ∧ k_ ≠ gb101 ∧ k_ ≠ gb102 ∧ k_ ≠ gb120 ∧ k_ ≠ gb122) (.slice (some ad119) l0_2.length c0_2) l0_2) ∧ Aside0 (Kd.V k49 49 wc w.heap.size (fun k_ => (P0_2_ k_ ∨ w.heap.size ≤ k_) ∧ k_ ≠ gb101 ∧ k_ ≠ gb102 ∧ k_ ≠ gb120 ∧ k_ ≠ gb122) (.slice A119_2 ((rd_T49 l0_2 0).f2).length c119_2) ((rd_T49 l0_2 0).f2)) ∧ Aside0 (Kd.V k49 49 wc w.heap.size (fun k_ => (P0_2_ k_ ∨ w.heap.size ≤ k_) ∧ k_ ≠ gb101 ∧ k_ ≠ gb102 ∧ k_ ≠ gb120 ∧ k_ ≠ gb122) (.slice A121_2 ((rd_T49 l0_2 1).f2).length c121_2) ((rd_T49 l0_2 1).f2)) ∧ Aside0 (wc.heap[gb101]? = some (.cells #[.int .i64 a0_0, .int .i64 a0_1, (.slice (some ad119) l0_2.length c0_2)] 49 (0, 0))) ∧ Aside0 (wc.heap[gb102]? = some (.cells #[.int .i64 0, .int .i64 0, (.slice none 0 0)] 49 (0, 0))) ∧ Aside0 (wc.heap[gb120]? = some (.cells #[.int .i64 ((rd_T49 l0_2 0).f0), .int .i64 ((rd_T49 l0_2 0).f1), (.slice A119_2 ((rd_T49 l0_2 0).f2).length c119_2)] 49 (0, 0))) ∧ Aside0 (wc.heap[gb122]? = some (.cells #[.int .i64 ((rd_T49 l0_2 1).f0), .int .i64 ((rd_T49 l0_2 1).f1), (.slice A121_2 ((rd_T49 l0_2 1).f2).length c121_2)] 49 (0, 0))) ∧ Aside0 (Kd.C k49 wc A119_2 ((rd_T49 l0_2 0).f2).length ((rd_T49 l0_2 0).f2)) ∧ Aside0 (Kd.C k49 wc A121_2 ((rd_T49 l0_2 1).f2).length ((rd_T49 l0_2 1).f2)) ∧ Aside0 (Below w.heap.size w wc))
     case first =>
      have H := HC18.out
      clear HC18
      replace H := Option.bind_eq_some_iff.mp H
      obtain ⟨t123, A360, H⟩ := H
      try dsimp only at H
      have A36 := aK A360
      clear A360
      by_cases c37 : t123 = true
      ·subst c37
       rw [if_pos rfl] at H
       replace H := Option.bind_eq_some_iff.mp H
       obtain ⟨t124, A380, H⟩ := H
       try dsimp only at H
       have A38 := aK A380
       clear A380
       have H' := aK H
       clear H
       have hnb39 := NB122_101.out
       have hnc39 := NB101_122.out
       have hnb40 := NB122_102.out
       have hnc40 := NB102_122.out
       have hnb41 := NB122_120.out
       have hnc41 := NB120_122.out
       obtain ⟨hcz42_0, hcz42_1, hcz42_2, hfz42_0, hfz42_1, hfz42_2⟩ := cA3 BK122
       go_wp2_with (first | ((with_reducible refine gate_callee (f := 50) rfl ?_); refine goesL_ (some 28) rfl rfl Try.func50 (by kernel_rfl) rfl #[.agg #[.int .i64 ((rd_T49 l0_2 1).f0), .int .i64 ((rd_T49 l0_2 1).f1), .slice A121_2 ((rd_T49 l0_2 1).f2).length c121_2], .int .i64 a1] rfl tA ?_; (with_reducible refine (spec_ldIs.calls ((rd_T49 l0_2 1).f0) ((rd_T49 l0_2 1).f1) _ _ ((rd_T49 l0_2 1).f2) a1 true _ ?side1 ?side2 A36.out).mono ?_); (case side1 => repeat (first | exact ((Kd.V_reads' (by (with_reducible repeat (first | apply Kd.V_alloc | apply Kd.V_drewN | apply Kd.V_drew)); exact (Kd.V_mono (vF3 gb122 (Kd.V_mono HL121_2.out (fun k_ hk => (⟨hk, hk.2⟩ : _ ∧ k_ ≠ gb122))) (fun _ hk => hk.2)) (fun _ h_ => h_.1)))).2.2) | (with_reducible refine Kd.C_alloc ?_ _) | (with_reducible refine Kd.C_drewN ?_ _) | (with_reducible refine Kd.C_drew ?_))); (case side2 => exact HC121_2.out); rintro e w43 ⟨rfl, hb⟩; refine ⟨_, rfl, ?_⟩; have n0_ := aK (Kd.V_below (by (with_reducible repeat (first | apply Kd.V_alloc | apply Kd.V_drewN | apply Kd.V_drew)); exact (Kd.V_mono (vF3 gb122 (Kd.V_mono HO0_2.out (fun k_ hk => (⟨hk, hk.2⟩ : _ ∧ k_ ≠ gb122))) (fun _ hk => hk.2)) (fun _ h_ => h_.1))) hb); have n1_ := aK (Kd.V_below (by (with_reducible repeat (first | apply Kd.V_alloc | apply Kd.V_drewN | apply Kd.V_drew)); exact (Kd.V_mono (vF3 gb122 (Kd.V_mono HL119_2.out (fun k_ hk => (⟨hk, hk.2⟩ : _ ∧ k_ ≠ gb122))) (fun _ hk => hk.2)) (fun _ h_ => h_.1))) hb); have n2_ := aK (Kd.V_below (by (with_reducible repeat (first | apply Kd.V_alloc | apply Kd.V_drewN | apply Kd.V_drew)); exact (Kd.V_mono (vF3 gb122 (Kd.V_mono HL121_2.out (fun k_ hk => (⟨hk, hk.2⟩ : _ ∧ k_ ≠ gb122))) (fun _ hk => hk.2)) (fun _ h_ => h_.1))) hb); have n3_ := aK (blk_below (g := gb101) (o := .cells #[.int .i64 a0_0, .int .i64 a0_1, .slice (some ad119) l0_2.length c0_2] 49 (0, 0)) (by (repeat first | with_reducible apply zN | with_reducible apply zD | with_reducible apply zA | refine blk_far ?_ NB101_122.out _); exact BK101.out) hb); have n4_ := aK (blk_below (g := gb102) (o := .cells #[.int .i64 0, .int .i64 0, .slice none 0 0] 49 (0, 0)) (by (repeat first | with_reducible apply zN | with_reducible apply zD | with_reducible apply zA | refine blk_far ?_ NB102_122.out _); exact BK102.out) hb); have n5_ := aK (Kd.C_below ((Kd.V_reads' (by (with_reducible repeat (first | apply Kd.V_alloc | apply Kd.V_drewN | apply Kd.V_drew)); exact (Kd.V_mono (vF3 gb122 (Kd.V_mono HL119_2.out (fun k_ hk => (⟨hk, hk.2⟩ : _ ∧ k_ ≠ gb122))) (fun _ hk => hk.2)) (fun _ h_ => h_.1)))).2.2) hb); have n6_ := aK (blk_below (g := gb120) (o := .cells #[.int .i64 ((rd_T49 l0_2 0).f0), .int .i64 ((rd_T49 l0_2 0).f1), .slice A119_2 ((rd_T49 l0_2 0).f2).length c119_2] 49 (0, 0)) (by (repeat first | with_reducible apply zN | with_reducible apply zD | with_reducible apply zA | refine blk_far ?_ NB120_122.out _); exact BK120.out) hb); have n7_ := aK (Kd.C_below ((Kd.V_reads' (by (with_reducible repeat (first | apply Kd.V_alloc | apply Kd.V_drewN | apply Kd.V_drew)); exact (Kd.V_mono (vF3 gb122 (Kd.V_mono HL121_2.out (fun k_ hk => (⟨hk, hk.2⟩ : _ ∧ k_ ≠ gb122))) (fun _ hk => hk.2)) (fun _ h_ => h_.1)))).2.2) hb); have n8_ := aK (blk_below (g := gb122) (o := .cells #[.int .i64 ((rd_T49 l0_2 1).f0), .int .i64 ((rd_T49 l0_2 1).f1), .slice A121_2 ((rd_T49 l0_2 1).f2).length c121_2] 49 (0, 0)) (p3 BK122) hb); have n9_ := aK (below_step (pH HB) hb); clear HO0_2; clear HL119_2; clear HL121_2; clear BK101; clear BK102; clear HR119_2; clear BK120; clear HR121_2; clear BK122; clear HB; have HO0_2 := n0_; have HL119_2 := n1_; have HL121_2 := n2_; have BK101 := n3_; have BK102 := n4_; have HR119_2 := n5_; have BK120 := n6_; have HR121_2 := n7_; have BK122 := n8_; have HB := n9_; clear n0_ n1_ n2_ n3_ n4_ n5_ n6_ n7_ n8_ n9_; (try clear hb); have hnb44 := NB120_101.out; have hnc44 := NB101_120.out; have hnb45 := NB120_102.out; have hnc45 := NB102_120.out; obtain ⟨hcz46_0, hcz46_1, hcz46_2, hfz46_0, hfz46_1, hfz46_2⟩ := cA3 BK120) | (go_at_call 48; (with_reducible refine (spec_ldHas.calls k ((rd_T49 l0_2 0).f0) ((rd_T49 l0_2 0).f1) _ _ ((rd_T49 l0_2 0).f2) a1 t124 _ ?side1 ?side2 A38.out).mono ?_); (case side1 => repeat (first | exact (by repeat (first | (with_reducible exact HR119_2.out) | (with_reducible refine Kd.C_alloc ?_ _) | (with_reducible refine Kd.C_drewN ?_ _) | (with_reducible refine Kd.C_drew ?_) | exact HR119_2.out)) | (with_reducible refine Kd.C_alloc ?_ _) | (with_reducible refine Kd.C_drewN ?_ _) | (with_reducible refine Kd.C_drew ?_))); (case side2 => exact HC119_2.out); rintro e w47 ⟨rfl, hb⟩; have n0_ := aK (Kd.V_below HO0_2.out hb); have n1_ := aK (Kd.V_below HL119_2.out hb); have n2_ := aK (Kd.V_below HL121_2.out hb); replace HR119_2 := qr HL119_2 hb; replace HR121_2 := qr HL121_2 hb; replace BK101 := qb BK101 hb; replace BK102 := qb BK102 hb; replace BK120 := qb BK120 hb; replace BK122 := qb BK122 hb; clear HO0_2; have HO0_2 := n0_; clear n0_; clear HL119_2; have HL119_2 := n1_; clear n1_; clear HL121_2; have HL121_2 := n2_; clear n2_; replace HB := qs HB hb; (try clear hb)))
       go_meet
       case rel => exact ⟨_, (!t124), rS, H', ⟨by first | omega | exact Nat.le_refl _⟩, ⟨by (with_reducible repeat (first | apply Kd.V_alloc | apply Kd.V_drewN | apply Kd.V_drew)); exact Kd.V_mono HO0_2.out (fun _ hk => ⟨hk.1.1, ⟨hk.1.2.1, ⟨hk.1.2.2.1, ⟨hk.1.2.2.2, hk.2⟩⟩⟩⟩)⟩, ⟨by (with_reducible repeat (first | apply Kd.V_alloc | apply Kd.V_drewN | apply Kd.V_drew)); exact Kd.V_mono HL119_2.out (fun _ hk => ⟨hk.1.1, ⟨hk.1.2.1, ⟨hk.1.2.2.1, ⟨hk.1.2.2.2, hk.2⟩⟩⟩⟩)⟩, ⟨by (with_reducible repeat (first | apply Kd.V_alloc | apply Kd.V_drewN | apply Kd.V_drew)); exact Kd.V_mono HL121_2.out (fun _ hk => ⟨hk.1.1, ⟨hk.1.2.1, ⟨hk.1.2.2.1, ⟨hk.1.2.2.2, hk.2⟩⟩⟩⟩)⟩, ⟨pB BK101⟩, ⟨pB BK102⟩, ⟨pB BK120⟩, ⟨pB BK122⟩, ⟨by repeat (first | (with_reducible exact HR119_2.out) | (with_reducible refine Kd.C_alloc ?_ _) | (with_reducible refine Kd.C_drewN ?_ _) | (with_reducible refine Kd.C_drew ?_) | exact HR119_2.out)⟩, ⟨by repeat (first | (with_reducible exact HR121_2.out) | (with_reducible refine Kd.C_alloc ?_ _) | (with_reducible refine Kd.C_drewN ?_ _) | (with_reducible refine Kd.C_drew ?_) | exact HR121_2.out)⟩, ⟨pH HB⟩⟩
      ·replace c37 := Bool.eq_false_iff.mpr c37
       subst c37
       rw [if_neg (show ¬ (false = true) by decide)] at H
       have H' := aK H
       clear H
       have hnb48 := NB122_101.out
       have hnc48 := NB101_122.out
       have hnb49 := NB122_102.out
       have hnc49 := NB102_122.out
       have hnb50 := NB122_120.out
       have hnc50 := NB120_122.out
       obtain ⟨hcz51_0, hcz51_1, hcz51_2, hfz51_0, hfz51_1, hfz51_2⟩ := cA3 BK122
       go_wp2_with (first | ((with_reducible refine gate_callee (f := 50) rfl ?_); refine goesL_ (some 28) rfl rfl Try.func50 (by kernel_rfl) rfl #[.agg #[.int .i64 ((rd_T49 l0_2 1).f0), .int .i64 ((rd_T49 l0_2 1).f1), .slice A121_2 ((rd_T49 l0_2 1).f2).length c121_2], .int .i64 a1] rfl tA ?_; (with_reducible refine (spec_ldIs.calls ((rd_T49 l0_2 1).f0) ((rd_T49 l0_2 1).f1) _ _ ((rd_T49 l0_2 1).f2) a1 false _ ?side1 ?side2 A36.out).mono ?_); (case side1 => repeat (first | exact ((Kd.V_reads' (by (with_reducible repeat (first | apply Kd.V_alloc | apply Kd.V_drewN | apply Kd.V_drew)); exact (Kd.V_mono (vF3 gb122 (Kd.V_mono HL121_2.out (fun k_ hk => (⟨hk, hk.2⟩ : _ ∧ k_ ≠ gb122))) (fun _ hk => hk.2)) (fun _ h_ => h_.1)))).2.2) | (with_reducible refine Kd.C_alloc ?_ _) | (with_reducible refine Kd.C_drewN ?_ _) | (with_reducible refine Kd.C_drew ?_))); (case side2 => exact HC121_2.out); rintro e w52 ⟨rfl, hb⟩; refine ⟨_, rfl, ?_⟩; have n0_ := aK (Kd.V_below (by (with_reducible repeat (first | apply Kd.V_alloc | apply Kd.V_drewN | apply Kd.V_drew)); exact (Kd.V_mono (vF3 gb122 (Kd.V_mono HO0_2.out (fun k_ hk => (⟨hk, hk.2⟩ : _ ∧ k_ ≠ gb122))) (fun _ hk => hk.2)) (fun _ h_ => h_.1))) hb); have n1_ := aK (Kd.V_below (by (with_reducible repeat (first | apply Kd.V_alloc | apply Kd.V_drewN | apply Kd.V_drew)); exact (Kd.V_mono (vF3 gb122 (Kd.V_mono HL119_2.out (fun k_ hk => (⟨hk, hk.2⟩ : _ ∧ k_ ≠ gb122))) (fun _ hk => hk.2)) (fun _ h_ => h_.1))) hb); have n2_ := aK (Kd.V_below (by (with_reducible repeat (first | apply Kd.V_alloc | apply Kd.V_drewN | apply Kd.V_drew)); exact (Kd.V_mono (vF3 gb122 (Kd.V_mono HL121_2.out (fun k_ hk => (⟨hk, hk.2⟩ : _ ∧ k_ ≠ gb122))) (fun _ hk => hk.2)) (fun _ h_ => h_.1))) hb); have n3_ := aK (blk_below (g := gb101) (o := .cells #[.int .i64 a0_0, .int .i64 a0_1, .slice (some ad119) l0_2.length c0_2] 49 (0, 0)) (by (repeat first | with_reducible apply zN | with_reducible apply zD | with_reducible apply zA | refine blk_far ?_ NB101_122.out _); exact BK101.out) hb); have n4_ := aK (blk_below (g := gb102) (o := .cells #[.int .i64 0, .int .i64 0, .slice none 0 0] 49 (0, 0)) (by (repeat first | with_reducible apply zN | with_reducible apply zD | with_reducible apply zA | refine blk_far ?_ NB102_122.out _); exact BK102.out) hb); have n5_ := aK (Kd.C_below ((Kd.V_reads' (by (with_reducible repeat (first | apply Kd.V_alloc | apply Kd.V_drewN | apply Kd.V_drew)); exact (Kd.V_mono (vF3 gb122 (Kd.V_mono HL119_2.out (fun k_ hk => (⟨hk, hk.2⟩ : _ ∧ k_ ≠ gb122))) (fun _ hk => hk.2)) (fun _ h_ => h_.1)))).2.2) hb); have n6_ := aK (blk_below (g := gb120) (o := .cells #[.int .i64 ((rd_T49 l0_2 0).f0), .int .i64 ((rd_T49 l0_2 0).f1), .slice A119_2 ((rd_T49 l0_2 0).f2).length c119_2] 49 (0, 0)) (by (repeat first | with_reducible apply zN | with_reducible apply zD | with_reducible apply zA | refine blk_far ?_ NB120_122.out _); exact BK120.out) hb); have n7_ := aK (Kd.C_below ((Kd.V_reads' (by (with_reducible repeat (first | apply Kd.V_alloc | apply Kd.V_drewN | apply Kd.V_drew)); exact (Kd.V_mono (vF3 gb122 (Kd.V_mono HL121_2.out (fun k_ hk => (⟨hk, hk.2⟩ : _ ∧ k_ ≠ gb122))) (fun _ hk => hk.2)) (fun _ h_ => h_.1)))).2.2) hb); have n8_ := aK (blk_below (g := gb122) (o := .cells #[.int .i64 ((rd_T49 l0_2 1).f0), .int .i64 ((rd_T49 l0_2 1).f1), .slice A121_2 ((rd_T49 l0_2 1).f2).length c121_2] 49 (0, 0)) (p3 BK122) hb); have n9_ := aK (below_step (pH HB) hb); clear HO0_2; clear HL119_2; clear HL121_2; clear BK101; clear BK102; clear HR119_2; clear BK120; clear HR121_2; clear BK122; clear HB; have HO0_2 := n0_; have HL119_2 := n1_; have HL121_2 := n2_; have BK101 := n3_; have BK102 := n4_; have HR119_2 := n5_; have BK120 := n6_; have HR121_2 := n7_; have BK122 := n8_; have HB := n9_; clear n0_ n1_ n2_ n3_ n4_ n5_ n6_ n7_ n8_ n9_; (try clear hb)))
       go_meet
       case rel => exact ⟨_, (false), rS, H', ⟨by first | omega | exact Nat.le_refl _⟩, ⟨by (with_reducible repeat (first | apply Kd.V_alloc | apply Kd.V_drewN | apply Kd.V_drew)); exact Kd.V_mono HO0_2.out (fun _ hk => ⟨hk.1.1, ⟨hk.1.2.1, ⟨hk.1.2.2.1, ⟨hk.1.2.2.2, hk.2⟩⟩⟩⟩)⟩, ⟨by (with_reducible repeat (first | apply Kd.V_alloc | apply Kd.V_drewN | apply Kd.V_drew)); exact Kd.V_mono HL119_2.out (fun _ hk => ⟨hk.1.1, ⟨hk.1.2.1, ⟨hk.1.2.2.1, ⟨hk.1.2.2.2, hk.2⟩⟩⟩⟩)⟩, ⟨by (with_reducible repeat (first | apply Kd.V_alloc | apply Kd.V_drewN | apply Kd.V_drew)); exact Kd.V_mono HL121_2.out (fun _ hk => ⟨hk.1.1, ⟨hk.1.2.1, ⟨hk.1.2.2.1, ⟨hk.1.2.2.2, hk.2⟩⟩⟩⟩)⟩, ⟨pB BK101⟩, ⟨pB BK102⟩, ⟨pB BK120⟩, ⟨pB BK122⟩, ⟨by repeat (first | (with_reducible exact HR119_2.out) | (with_reducible refine Kd.C_alloc ?_ _) | (with_reducible refine Kd.C_drewN ?_ _) | (with_reducible refine Kd.C_drew ?_) | exact HR119_2.out)⟩, ⟨by repeat (first | (with_reducible exact HR121_2.out) | (with_reducible refine Kd.C_alloc ?_ _) | (with_reducible refine Kd.C_drewN ?_ _) | (with_reducible refine Kd.C_drew ?_) | exact HR121_2.out)⟩, ⟨pH HB⟩⟩
     case rest =>
      clear HC18
      try clear c1; try clear p1; try clear q1; try clear hx1; try clear qi1; try clear c2; try clear p2; try clear c3; try clear c4; try clear c5; try clear c5b0; try clear c5b1; try clear c9; try clear c11; try clear p11; try clear q11; try clear hx11; try clear qi11; try clear c12; try clear p12; try clear q12; try clear hx12; try clear qi12; try clear c16; try clear c16b0; try clear c16b1; try clear c17; try clear c17b0; try clear c17b1; try clear c21; try clear c26; try clear c27; try clear c28; try clear c32; try clear c33; try clear c34; try clear c37; try clear c39; try clear c40; try clear c41; try clear c44; try clear c45; try clear c48; try clear c49; try clear c50; try clear hx119_0; try clear hx119_1; try clear hx119_2; try clear hx121_0; try clear hx121_1; try clear hx121_2; try clear p119; try clear p121; try clear q119; try clear q121; try clear hcz10_0 hcz10_1 hcz10_2 hfz10_0 hfz10_1 hfz10_2; try clear hcz12_0 hcz12_1 hcz12_2 hfz12_0 hfz12_1 hfz12_2; try clear hcz14_0 hcz14_1 hcz14_2 hfz14_0 hfz14_1 hfz14_2; try clear hcz22_0 hcz22_1 hcz22_2 hfz22_0 hfz22_1 hfz22_2; try clear hcz24_0 hcz24_1 hcz24_2 hfz24_0 hfz24_1 hfz24_2; try clear hcz28_0 hcz28_1 hcz28_2 hfz28_0 hfz28_1 hfz28_2; try clear hcz30_0 hcz30_1 hcz30_2 hfz30_0 hfz30_1 hfz30_2; try clear hcz35_0 hcz35_1 hcz35_2 hfz35_0 hfz35_1 hfz35_2; try clear hcz42_0 hcz42_1 hcz42_2 hfz42_0 hfz42_1 hfz42_2; try clear hcz46_0 hcz46_1 hcz46_2 hfz46_0 hfz46_1 hfz46_2; try clear hcz51_0 hcz51_1 hcz51_2 hfz51_0 hfz51_1 hfz51_2
      obtain ⟨kq, x34_17, rfl, HA, HJ17, HO_102002, HO_121002, HO_123002, BK101, BK102, BK120, BK122, HR119_2, HR121_2, HB⟩ := hcut
      cases kq with
      | zero => exact absurd HA.out (by simp [spec_ldAbstract.j0])
      | succ kj17 =>
       have H := HA.out
       clear HA
       simp only [spec_ldAbstract.j0] at H
       by_cases c53 : x34_17 = true
       ·subst c53
        rw [if_pos rfl] at H
        simp only [Option.some.injEq, Prod.mk.injEq] at H
        obtain ⟨rfl, rfl, rfl⟩ := H
        have hnb54 := NB120_101.out
        have hnc54 := NB101_120.out
        have hnb55 := NB120_102.out
        have hnc55 := NB102_120.out
        have hnb56 := NB120_122.out
        have hnc56 := NB122_120.out
        obtain ⟨hcz57_0, hcz57_1, hcz57_2, hfz57_0, hfz57_1, hfz57_2⟩ := cA3 BK120
        have hnb58 := NB102_101.out
        have hnc58 := NB101_102.out
        have hnb59 := NB102_122.out
        have hnc59 := NB122_102.out
        obtain ⟨hcz60_0, hcz60_1, hcz60_2, hfz60_0, hfz60_1, hfz60_2⟩ := cA3 BK102
        go_wp2
        refine bodyPost_ret (results_cell_row rfl _ _ gb102 49 #[.int .i64 ((rd_T49 l0_2 0).f0), .int .i64 ((rd_T49 l0_2 0).f1), .slice A119_2 ((rd_T49 l0_2 0).f2).length c119_2] (0, 0) _ rfl (p3 BK102) Try.underlying49 rfl (by kernel_rfl)) rfl ?_
        exact ⟨_, eW, by (with_reducible repeat (first | apply Kd.V_alloc | apply Kd.V_drewN | apply Kd.V_drew)); exact Kd.V_mono (vF3 gb102 (Kd.V_mono HO_121002.out (fun k_ hk => (⟨hk, hk.2.2.1⟩ : _ ∧ k_ ≠ gb102))) (fun _ hk => hk.2)) (fun _ hk => hk.1.1), pH HB⟩
       ·replace c53 := Bool.eq_false_iff.mpr c53
        subst c53
        rw [if_neg (show ¬ (false = true) by decide)] at H
        replace H := Option.bind_eq_some_iff.mp H
        obtain ⟨⟨t125, t126, t127⟩, A610, H⟩ := H
        try dsimp only at H
        have A61 := aK A610
        clear A610
        replace H := Option.bind_eq_some_iff.mp H
        obtain ⟨⟨t130, t131, t132⟩, A620, H⟩ := H
        try dsimp only at H
        have A62 := aK A620
        clear A620
        replace H := Option.bind_eq_some_iff.mp H
        obtain ⟨⟨t135, t136, t137⟩, A630, H⟩ := H
        try dsimp only at H
        have A63 := aK A630
        clear A630
        replace H := Option.bind_eq_some_iff.mp H
        obtain ⟨⟨t140, t141, t142⟩, A640, H⟩ := H
        try dsimp only at H
        have A64 := aK A640
        clear A640
        replace H := Option.bind_eq_some_iff.mp H
        obtain ⟨⟨t145, t146, t147⟩, A650, H⟩ := H
        try dsimp only at H
        have A65 := aK A650
        clear A650
        simp only [Option.some.injEq, Prod.mk.injEq] at H
        obtain ⟨rfl, rfl, rfl⟩ := H
        try go_wp2
        have n0_ := aK (Kd.V_drew HO_102002.out)
        have n1_ := aK (Kd.V_drew HO_121002.out)
        have n2_ := aK (Kd.V_drew HO_123002.out)
        have n3_ := aK (blk_drew BK101.out)
        have n4_ := aK (blk_drew BK102.out)
        have n5_ := aK (blk_drew BK120.out)
        have n6_ := aK (blk_drew BK122.out)
        have n7_ := aK (Kd.C_drew HR119_2.out)
        have n8_ := aK (Kd.C_drew HR121_2.out)
        have n9_ := aK (below_drew1 HB.out)
        clear HO_102002
        clear HO_121002
        clear HO_123002
        clear BK101
        clear BK102
        clear BK120
        clear BK122
        clear HR119_2
        clear HR121_2
        clear HB
        have HO_102002 := n0_
        have HO_121002 := n1_
        have HO_123002 := n2_
        have BK101 := n3_
        have BK102 := n4_
        have BK120 := n5_
        have BK122 := n6_
        have HR119_2 := n7_
        have HR121_2 := n8_
        have HB := n9_
        clear n0_ n1_ n2_ n3_ n4_ n5_ n6_ n7_ n8_ n9_
        refine start_ (n := 10) (S := fun w' => w'.cell? ⟨gb120, 0, none⟩ = some (.int .i64 ((rd_T49 l0_2 0).f0)) ∧ w'.cell? ⟨gb120, 1, none⟩ = some (.int .i64 ((rd_T49 l0_2 0).f1)) ∧ w'.cell? ⟨gb120, 2, none⟩ = some (.slice A119_2 ((rd_T49 l0_2 0).f2).length c119_2) ∧ w'.cell? ⟨gb122, 0, none⟩ = some (.int .i64 ((rd_T49 l0_2 1).f0)) ∧ w'.cell? ⟨gb122, 1, none⟩ = some (.int .i64 ((rd_T49 l0_2 1).f1)) ∧ w'.cell? ⟨gb122, 2, none⟩ = some (.slice A121_2 ((rd_T49 l0_2 1).f2).length c121_2)) (ds := []) (bs 0 10) (by kernel_rfl) rfl rfl ⟨(blk_cell BK120.out 0).trans rfl, (blk_cell BK120.out 1).trans rfl, (blk_cell BK120.out 2).trans rfl, (blk_cell BK122.out 0).trans rfl, (blk_cell BK122.out 1).trans rfl, (blk_cell BK122.out 2).trans rfl⟩ (fun hHeld => ?_); refine with_tabW spec_ldAbstract.tab9 spec_ldAbstract.bits9 (fun HT_ HW_ => ?_)
        generalize wc.drew = w66 at HO_102002 HO_121002 HO_123002 BK101 BK102 BK120 BK122 HR119_2 HR121_2 HB hHeld ⊢
        refine pure_ (i := 2) (N := some 38) (v := ?_) (a' := ?_) #[false, false, true, false, false, false, false, false, false, false] rfl rfl (any_of HT_.out (by kernel_rfl)) (fun _ _ _ h => h) (Or.inl ⟨by rfl, ?_⟩) ?_ ?_
        rotate_left
        ·intro w'
         go_simp
         with_reducible rfl
        rotate_left
        ·simp only [sP, i64_w, i32_w]
         rfl
        refine pure_ (i := 6) (N := some 42) (v := ?_) (a' := ?_) #[false, false, true, false, false, false, true, false, false, false] rfl rfl (any_of HT_.out (by kernel_rfl)) (fun _ _ _ h => h) (Or.inl ⟨by rfl, ?_⟩) ?_ ?_
        rotate_left
        ·intro w'
         go_simp
         with_reducible rfl
        rotate_left
        ·simp only [sP, i64_w, i32_w]
         rfl
        refine take_ (i := 1) (N := some 37) (v := ?_) (a' := ?_) #[false, true, true, false, false, false, true, false, false, false] rfl rfl (take_ofW HT_.out HW_.out (by kernel_rfl)) (fun _ _ _ h => h) (Or.inl ⟨by rfl, ?_⟩) hHeld ?_ ?_
        rotate_left
        ·rintro w' ⟨s0, s1, s2, s3, s4, s5⟩
         go_simp
         with_reducible rfl
        rotate_left
        ·simp only [sP, i64_w, i32_w]
         rfl
        refine take_ (i := 5) (N := some 41) (v := ?_) (a' := ?_) #[false, true, true, false, false, true, true, false, false, false] rfl rfl (take_ofW HT_.out HW_.out (by kernel_rfl)) (fun _ _ _ h => h) (Or.inl ⟨by rfl, ?_⟩) hHeld ?_ ?_
        rotate_left
        ·rintro w' ⟨s0, s1, s2, s3, s4, s5⟩
         go_simp
         with_reducible rfl
        rotate_left
        ·simp only [sP, i64_w, i32_w]
         rfl
        refine one_ (i := 0) (N := some 36) #[true, true, true, false, false, true, true, false, false, false] rfl rfl (one_of HT_.out (by kernel_rfl)) (by decide) (fun K hK => ?_)
        refine goes_ Try.func49 (by kernel_rfl) rfl #[.int .i64 3] (by rfl) rfl rfl tA ?_
        with_reducible refine (spec_ldOne.calls 3 t125 t126 t127 _ A61.out).mono ?_
        rintro e w67 ⟨v128, rfl, ho0, hb⟩
        refine ⟨_, rfl, ?_⟩
        have n0_ := aK (Kd.V_elder' HO_102002.out (by first | exact Kd.N_base ho0 | exact Kd.R_base ho0) hb)
        have n1_ := aK (Kd.V_elder' HO_121002.out (by first | exact Kd.N_base ho0 | exact Kd.R_base ho0) hb)
        have n2_ := aK (Kd.V_elder' HO_123002.out (by first | exact Kd.N_base ho0 | exact Kd.R_base ho0) hb)
        have n3_ := aK (Kd.N_lower (Kd.N_mono (ok' := fun k_ => (P0_2_ k_ ∨ w.heap.size ≤ k_) ∧ k_ ≠ gb101 ∧ k_ ≠ gb102 ∧ k_ ≠ gb120 ∧ k_ ≠ gb122) (Kd.R_N (Kd.R_bound ho0)) (fun k_ hk_ => ⟨(.inr (Nat.le_trans (below_size (pH HB)) hk_.2.1)), (Kd.freshB BK101.out k_ hk_.2.1), (Kd.freshB BK102.out k_ hk_.2.1), (Kd.freshB BK120.out k_ hk_.2.1), (Kd.freshB BK122.out k_ hk_.2.1)⟩)) (below_size (pH HB)))
        have n4_ := aK (blk_below BK101.out hb)
        have n5_ := aK (blk_below BK102.out hb)
        have n6_ := aK (blk_below BK120.out hb)
        have n7_ := aK (blk_below BK122.out hb)
        have n8_ := aK (Kd.C_below HR119_2.out hb)
        have n9_ := aK (Kd.C_below HR121_2.out hb)
        have n10_ := aK (below_step (pH HB) hb)
        clear HO_102002
        clear HO_121002
        clear HO_123002
        clear BK101
        clear BK102
        clear BK120
        clear BK122
        clear HR119_2
        clear HR121_2
        clear HB
        have HO_102002 := n0_
        have HO_121002 := n1_
        have HO_123002 := n2_
        have HO129 := n3_
        have BK101 := n4_
        have BK102 := n5_
        have BK120 := n6_
        have BK122 := n7_
        have HR119_2 := n8_
        have HR121_2 := n9_
        have HB := n10_
        clear n0_ n1_ n2_ n3_ n4_ n5_ n6_ n7_ n8_ n9_ n10_
        (try clear hb)
        (try clear hb2)
        (try clear hk)
        (try clear hi)
        (try clear ho0)
        refine hK.out _ _ ⟨(blk_cell BK120.out 0).trans rfl, (blk_cell BK120.out 1).trans rfl, (blk_cell BK120.out 2).trans rfl, (blk_cell BK122.out 0).trans rfl, (blk_cell BK122.out 1).trans rfl, (blk_cell BK122.out 2).trans rfl⟩ (fun hHeld => ?_)
        clear hK K
        refine norm_ (a' := ?_) ?_ ?_
        rotate_left
        ·show Act.put _ (some 36) _ = _
         simp only [sP, i64_w, i32_w]
         rfl
        refine one_ (i := 3) (N := some 39) #[true, true, true, true, false, true, true, false, false, false] rfl rfl (one_of HT_.out (by kernel_rfl)) (by decide) (fun K hK => ?_)
        refine goes_ Try.func28 (by kernel_rfl) rfl #[.agg #[.int .i64 ((rd_T49 l0_2 0).f0), .int .i64 ((rd_T49 l0_2 0).f1), .slice A119_2 ((rd_T49 l0_2 0).f2).length c119_2], .int .i64 a1] (by rfl) rfl rfl tA ?_
        with_reducible refine (ih kj17 (by have := HJ17.out; omega) ((rd_T49 l0_2 0).f0) ((rd_T49 l0_2 0).f1) (fun k_ => (((P0_2_ k_ ∨ w.heap.size ≤ k_) ∧ (k_ ≠ gb101 ∧ (k_ ≠ gb102 ∧ (k_ ≠ gb120 ∧ k_ ≠ gb122)))) ∧ some k_ ≠ (v128 : Value).ownBlock)) _ _ ((rd_T49 l0_2 0).f2) a1 t130 t131 t132 _ ?side1 A62.out).mono ?_
        (case side1 => exact HO_121002.out)
        rintro e w68 ⟨v133, rfl, ho0, hb⟩
        refine ⟨_, rfl, ?_⟩
        have n0_ := aK (Kd.V_below HO_102002.out hb)
        have n1_ := aK (Kd.V_below HO_121002.out hb)
        have n2_ := aK (Kd.V_below HO_123002.out hb)
        have n3_ := aK (Kd.N_below HO129.out hb)
        have n4_ := aK (Kd.V_lower (Kd.V_mono (ok' := fun k_ => (P0_2_ k_ ∨ w.heap.size ≤ k_) ∧ some k_ ≠ (v128 : Value).ownBlock ∧ k_ ≠ gb101 ∧ k_ ≠ gb102 ∧ k_ ≠ gb120 ∧ k_ ≠ gb122) ho0 (fun k_ hk_ => ⟨Or.elim hk_ (fun hs_ => hs_.1.1) (fun hn_ => (.inr (Nat.le_trans (below_size (pH HB)) hn_))), Or.elim hk_ (fun hs_ => hs_.2) (fun hn_ => (Kd.fresh' (Kd.N_lt HO129.out) k_ hn_)), Or.elim hk_ (fun hs_ => hs_.1.2.1) (fun hn_ => (Kd.freshB BK101.out k_ hn_)), Or.elim hk_ (fun hs_ => hs_.1.2.2.1) (fun hn_ => (Kd.freshB BK102.out k_ hn_)), Or.elim hk_ (fun hs_ => hs_.1.2.2.2.1) (fun hn_ => (Kd.freshB BK120.out k_ hn_)), Or.elim hk_ (fun hs_ => hs_.1.2.2.2.2) (fun hn_ => (Kd.freshB BK122.out k_ hn_))⟩)) (below_size (pH HB)))
        have n5_ := aK (blk_below BK101.out hb)
        have n6_ := aK (blk_below BK102.out hb)
        have n7_ := aK (blk_below BK120.out hb)
        have n8_ := aK (blk_below BK122.out hb)
        have n9_ := aK (Kd.C_below HR119_2.out hb)
        have n10_ := aK (Kd.C_below HR121_2.out hb)
        have n11_ := aK (below_step (pH HB) hb)
        clear HO_102002
        clear HO_121002
        clear HO_123002
        clear HO129
        clear BK101
        clear BK102
        clear BK120
        clear BK122
        clear HR119_2
        clear HR121_2
        clear HB
        have HO_102002 := n0_
        have HO_121002 := n1_
        have HO_123002 := n2_
        have HO129 := n3_
        have HO134 := n4_
        have BK101 := n5_
        have BK102 := n6_
        have BK120 := n7_
        have BK122 := n8_
        have HR119_2 := n9_
        have HR121_2 := n10_
        have HB := n11_
        clear n0_ n1_ n2_ n3_ n4_ n5_ n6_ n7_ n8_ n9_ n10_ n11_
        (try clear hb)
        (try clear hb2)
        (try clear hk)
        (try clear hi)
        (try clear ho0)
        obtain ⟨Ao69, co69, eo69⟩ := Kd.N_slice HO129.out
        (first | subst eo69 | (injection eo69 with f1_ f2_ f3_; have f4_ := f1_.symm; have f5_ := f3_.symm; clear f1_ f2_ f3_; subst f4_; subst f5_))
        obtain ⟨Ao70, co70, eo70⟩ := Kd.V_slice HO134.out
        (first | subst eo70 | (injection eo70 with f1_ f2_ f3_; have f4_ := f1_.symm; have f5_ := f3_.symm; clear f1_ f2_ f3_; subst f4_; subst f5_))
        refine hK.out _ _ ⟨(blk_cell BK120.out 0).trans rfl, (blk_cell BK120.out 1).trans rfl, (blk_cell BK120.out 2).trans rfl, (blk_cell BK122.out 0).trans rfl, (blk_cell BK122.out 1).trans rfl, (blk_cell BK122.out 2).trans rfl⟩ (fun hHeld => ?_)
        clear hK K
        refine norm_ (a' := ?_) ?_ ?_
        rotate_left
        ·show Act.put _ (some 39) _ = _
         simp only [sP, i64_w, i32_w]
         rfl
        refine one_ (i := 4) (N := some 40) (bs 7 3) rfl rfl (one_of HT_.out (by kernel_rfl)) (by decide) (fun K hK => ?_)
        refine goes_ Try.func29 (by kernel_rfl) rfl #[.agg #[.int .i64 t125, .int .i64 t126, .slice Ao69 t127.length co69], .agg #[.int .i64 t130, .int .i64 t131, .slice Ao70 t132.length co70]] (by rfl) rfl rfl tA ?_
        with_reducible refine (spec_ldApp.calls t125 t126 (fun k_ => ((P0_2_ k_ ∨ w.heap.size ≤ k_) ∧ (k_ ≠ gb101 ∧ (k_ ≠ gb102 ∧ (k_ ≠ gb120 ∧ k_ ≠ gb122))))) _ _ t127 t130 t131 (fun k_ => ((P0_2_ k_ ∨ w.heap.size ≤ k_) ∧ (some k_ ≠ (.slice Ao69 t127.length co69 : Value).ownBlock ∧ (k_ ≠ gb101 ∧ (k_ ≠ gb102 ∧ (k_ ≠ gb120 ∧ k_ ≠ gb122)))))) _ _ t132 t135 t136 t137 _ ?side1 ?side2 A63.out).mono ?_
        (case side1 => exact Kd.N_V (HO129.out))
        (case side2 => exact HO134.out)
        rintro e w71 ⟨v138, rfl, ho0, hb⟩
        refine ⟨_, rfl, ?_⟩
        have n0_ := aK (Kd.V_elder' HO_102002.out (by first | exact Kd.N_base ho0 | exact Kd.R_base ho0) hb)
        have n1_ := aK (Kd.V_elder' HO_121002.out (by first | exact Kd.N_base ho0 | exact Kd.R_base ho0) hb)
        have n2_ := aK (Kd.V_elder' HO_123002.out (by first | exact Kd.N_base ho0 | exact Kd.R_base ho0) hb)
        have n3_ := aK (Kd.N_elder' HO129.out (by first | exact Kd.N_base ho0 | exact Kd.R_base ho0) hb)
        have n4_ := aK (Kd.V_elder' HO134.out (by first | exact Kd.N_base ho0 | exact Kd.R_base ho0) hb)
        have n5_ := aK (Kd.N_lower (Kd.N_mono (ok' := fun k_ => (P0_2_ k_ ∨ w.heap.size ≤ k_) ∧ k_ ≠ gb101 ∧ k_ ≠ gb102 ∧ k_ ≠ gb120 ∧ k_ ≠ gb122) ho0 (fun k_ hk_ => ⟨Or.elim hk_ (fun hs_ => Or.elim hs_ (fun hs_ => hs_.1) (fun hs_ => hs_.1)) (fun hn_ => (.inr (Nat.le_trans (below_size (pH HB)) hn_))), Or.elim hk_ (fun hs_ => Or.elim hs_ (fun hs_ => hs_.2.1) (fun hs_ => hs_.2.2.1)) (fun hn_ => (Kd.freshB BK101.out k_ hn_)), Or.elim hk_ (fun hs_ => Or.elim hs_ (fun hs_ => hs_.2.2.1) (fun hs_ => hs_.2.2.2.1)) (fun hn_ => (Kd.freshB BK102.out k_ hn_)), Or.elim hk_ (fun hs_ => Or.elim hs_ (fun hs_ => hs_.2.2.2.1) (fun hs_ => hs_.2.2.2.2.1)) (fun hn_ => (Kd.freshB BK120.out k_ hn_)), Or.elim hk_ (fun hs_ => Or.elim hs_ (fun hs_ => hs_.2.2.2.2) (fun hs_ => hs_.2.2.2.2.2)) (fun hn_ => (Kd.freshB BK122.out k_ hn_))⟩)) (below_size (pH HB)))
        have n6_ := aK (blk_below BK101.out hb)
        have n7_ := aK (blk_below BK102.out hb)
        have n8_ := aK (blk_below BK120.out hb)
        have n9_ := aK (blk_below BK122.out hb)
        have n10_ := aK (Kd.C_below HR119_2.out hb)
        have n11_ := aK (Kd.C_below HR121_2.out hb)
        have n12_ := aK (below_step (pH HB) hb)
        clear HO_102002
        clear HO_121002
        clear HO_123002
        clear HO129
        clear HO134
        clear BK101
        clear BK102
        clear BK120
        clear BK122
        clear HR119_2
        clear HR121_2
        clear HB
        have HO_102002 := n0_
        have HO_121002 := n1_
        have HO_123002 := n2_
        have HO129 := n3_
        have HO134 := n4_
        have HO139 := n5_
        have BK101 := n6_
        have BK102 := n7_
        have BK120 := n8_
        have BK122 := n9_
        have HR119_2 := n10_
        have HR121_2 := n11_
        have HB := n12_
        clear n0_ n1_ n2_ n3_ n4_ n5_ n6_ n7_ n8_ n9_ n10_ n11_ n12_
        (try clear hb)
        (try clear hb2)
        (try clear hk)
        (try clear hi)
        (try clear ho0)
        refine hK.out _ _ ⟨(blk_cell BK120.out 0).trans rfl, (blk_cell BK120.out 1).trans rfl, (blk_cell BK120.out 2).trans rfl, (blk_cell BK122.out 0).trans rfl, (blk_cell BK122.out 1).trans rfl, (blk_cell BK122.out 2).trans rfl⟩ (fun hHeld => ?_)
        clear hK K
        refine norm_ (a' := ?_) ?_ ?_
        rotate_left
        ·show Act.put _ (some 40) _ = _
         simp only [sP, i64_w, i32_w]
         rfl
        refine one_ (i := 7) (N := some 43) (bs 8 2) rfl rfl (one_of HT_.out (by kernel_rfl)) (by decide) (fun K hK => ?_)
        refine goes_ Try.func28 (by kernel_rfl) rfl #[.agg #[.int .i64 ((rd_T49 l0_2 1).f0), .int .i64 ((rd_T49 l0_2 1).f1), .slice A121_2 ((rd_T49 l0_2 1).f2).length c121_2], .int .i64 a1] (by rfl) rfl rfl tA ?_
        with_reducible refine (ih kj17 (by have := HJ17.out; omega) ((rd_T49 l0_2 1).f0) ((rd_T49 l0_2 1).f1) (fun k_ => ((((P0_2_ k_ ∨ w.heap.size ≤ k_) ∧ (k_ ≠ gb101 ∧ (k_ ≠ gb102 ∧ (k_ ≠ gb120 ∧ k_ ≠ gb122)))) ∧ some k_ ≠ (.slice Ao69 t127.length co69 : Value).ownBlock) ∧ some k_ ≠ (v138 : Value).ownBlock)) _ _ ((rd_T49 l0_2 1).f2) a1 t140 t141 t142 _ ?side1 A64.out).mono ?_
        (case side1 => exact HO_123002.out)
        rintro e w72 ⟨v143, rfl, ho0, hb⟩
        refine ⟨_, rfl, ?_⟩
        have n0_ := aK (Kd.V_below HO_102002.out hb)
        have n1_ := aK (Kd.V_below HO_121002.out hb)
        have n2_ := aK (Kd.V_below HO_123002.out hb)
        have n3_ := aK (Kd.N_below HO129.out hb)
        have n4_ := aK (Kd.V_below HO134.out hb)
        have n5_ := aK (Kd.N_below HO139.out hb)
        have n6_ := aK (Kd.V_lower (Kd.V_mono (ok' := fun k_ => (P0_2_ k_ ∨ w.heap.size ≤ k_) ∧ some k_ ≠ (.slice Ao69 t127.length co69 : Value).ownBlock ∧ some k_ ≠ (v138 : Value).ownBlock ∧ k_ ≠ gb101 ∧ k_ ≠ gb102 ∧ k_ ≠ gb120 ∧ k_ ≠ gb122) ho0 (fun k_ hk_ => ⟨Or.elim hk_ (fun hs_ => hs_.1.1.1) (fun hn_ => (.inr (Nat.le_trans (below_size (pH HB)) hn_))), Or.elim hk_ (fun hs_ => hs_.1.2) (fun hn_ => (Kd.fresh' (Kd.N_lt HO129.out) k_ hn_)), Or.elim hk_ (fun hs_ => hs_.2) (fun hn_ => (Kd.fresh' (Kd.N_lt HO139.out) k_ hn_)), Or.elim hk_ (fun hs_ => hs_.1.1.2.1) (fun hn_ => (Kd.freshB BK101.out k_ hn_)), Or.elim hk_ (fun hs_ => hs_.1.1.2.2.1) (fun hn_ => (Kd.freshB BK102.out k_ hn_)), Or.elim hk_ (fun hs_ => hs_.1.1.2.2.2.1) (fun hn_ => (Kd.freshB BK120.out k_ hn_)), Or.elim hk_ (fun hs_ => hs_.1.1.2.2.2.2) (fun hn_ => (Kd.freshB BK122.out k_ hn_))⟩)) (below_size (pH HB)))
        have n7_ := aK (blk_below BK101.out hb)
        have n8_ := aK (blk_below BK102.out hb)
        have n9_ := aK (blk_below BK120.out hb)
        have n10_ := aK (blk_below BK122.out hb)
        have n11_ := aK (Kd.C_below HR119_2.out hb)
        have n12_ := aK (Kd.C_below HR121_2.out hb)
        have n13_ := aK (below_step (pH HB) hb)
        clear HO_102002
        clear HO_121002
        clear HO_123002
        clear HO129
        clear HO134
        clear HO139
        clear BK101
        clear BK102
        clear BK120
        clear BK122
        clear HR119_2
        clear HR121_2
        clear HB
        have HO_102002 := n0_
        have HO_121002 := n1_
        have HO_123002 := n2_
        have HO129 := n3_
        have HO134 := n4_
        have HO139 := n5_
        have HO144 := n6_
        have BK101 := n7_
        have BK102 := n8_
        have BK120 := n9_
        have BK122 := n10_
        have HR119_2 := n11_
        have HR121_2 := n12_
        have HB := n13_
        clear n0_ n1_ n2_ n3_ n4_ n5_ n6_ n7_ n8_ n9_ n10_ n11_ n12_ n13_
        (try clear hb)
        (try clear hb2)
        (try clear hk)
        (try clear hi)
        (try clear ho0)
        obtain ⟨Ao73, co73, eo73⟩ := Kd.N_slice HO139.out
        (first | subst eo73 | (injection eo73 with f1_ f2_ f3_; have f4_ := f1_.symm; have f5_ := f3_.symm; clear f1_ f2_ f3_; subst f4_; subst f5_))
        obtain ⟨Ao74, co74, eo74⟩ := Kd.V_slice HO144.out
        (first | subst eo74 | (injection eo74 with f1_ f2_ f3_; have f4_ := f1_.symm; have f5_ := f3_.symm; clear f1_ f2_ f3_; subst f4_; subst f5_))
        refine hK.out _ _ ⟨(blk_cell BK120.out 0).trans rfl, (blk_cell BK120.out 1).trans rfl, (blk_cell BK120.out 2).trans rfl, (blk_cell BK122.out 0).trans rfl, (blk_cell BK122.out 1).trans rfl, (blk_cell BK122.out 2).trans rfl⟩ (fun hHeld => ?_)
        clear hK K
        refine norm_ (a' := ?_) ?_ ?_
        rotate_left
        ·show Act.put _ (some 43) _ = _
         simp only [sP, i64_w, i32_w]
         rfl
        refine one_ (i := 8) (N := some 44) (bs 9 1) rfl rfl (one_of HT_.out (by kernel_rfl)) (by decide) (fun K hK => ?_)
        refine goes_ Try.func29 (by kernel_rfl) rfl #[.agg #[.int .i64 t135, .int .i64 t136, .slice Ao73 t137.length co73], .agg #[.int .i64 t140, .int .i64 t141, .slice Ao74 t142.length co74]] (by rfl) rfl rfl tA ?_
        with_reducible refine (spec_ldApp.calls t135 t136 (fun k_ => ((P0_2_ k_ ∨ w.heap.size ≤ k_) ∧ (k_ ≠ gb101 ∧ (k_ ≠ gb102 ∧ (k_ ≠ gb120 ∧ k_ ≠ gb122))))) _ _ t137 t140 t141 (fun k_ => ((P0_2_ k_ ∨ w.heap.size ≤ k_) ∧ (some k_ ≠ (.slice Ao69 t127.length co69 : Value).ownBlock ∧ (some k_ ≠ (.slice Ao73 t137.length co73 : Value).ownBlock ∧ (k_ ≠ gb101 ∧ (k_ ≠ gb102 ∧ (k_ ≠ gb120 ∧ k_ ≠ gb122))))))) _ _ t142 t145 t146 t147 _ ?side1 ?side2 A65.out).mono ?_
        (case side1 => exact Kd.N_V (HO139.out))
        (case side2 => exact HO144.out)
        rintro e w75 ⟨v148, rfl, ho0, hb⟩
        refine ⟨_, rfl, ?_⟩
        have n0_ := aK (Kd.V_elder' HO_102002.out (by first | exact Kd.N_base ho0 | exact Kd.R_base ho0) hb)
        have n1_ := aK (Kd.V_elder' HO_121002.out (by first | exact Kd.N_base ho0 | exact Kd.R_base ho0) hb)
        have n2_ := aK (Kd.V_elder' HO_123002.out (by first | exact Kd.N_base ho0 | exact Kd.R_base ho0) hb)
        have n3_ := aK (Kd.N_elder' HO129.out (by first | exact Kd.N_base ho0 | exact Kd.R_base ho0) hb)
        have n4_ := aK (Kd.V_elder' HO134.out (by first | exact Kd.N_base ho0 | exact Kd.R_base ho0) hb)
        have n5_ := aK (Kd.N_elder' HO139.out (by first | exact Kd.N_base ho0 | exact Kd.R_base ho0) hb)
        have n6_ := aK (Kd.V_elder' HO144.out (by first | exact Kd.N_base ho0 | exact Kd.R_base ho0) hb)
        have n7_ := aK (Kd.N_lower (Kd.N_mono (ok' := fun k_ => (P0_2_ k_ ∨ w.heap.size ≤ k_) ∧ k_ ≠ gb101 ∧ k_ ≠ gb102 ∧ k_ ≠ gb120 ∧ k_ ≠ gb122) ho0 (fun k_ hk_ => ⟨Or.elim hk_ (fun hs_ => Or.elim hs_ (fun hs_ => hs_.1) (fun hs_ => hs_.1)) (fun hn_ => (.inr (Nat.le_trans (below_size (pH HB)) hn_))), Or.elim hk_ (fun hs_ => Or.elim hs_ (fun hs_ => hs_.2.1) (fun hs_ => hs_.2.2.2.1)) (fun hn_ => (Kd.freshB BK101.out k_ hn_)), Or.elim hk_ (fun hs_ => Or.elim hs_ (fun hs_ => hs_.2.2.1) (fun hs_ => hs_.2.2.2.2.1)) (fun hn_ => (Kd.freshB BK102.out k_ hn_)), Or.elim hk_ (fun hs_ => Or.elim hs_ (fun hs_ => hs_.2.2.2.1) (fun hs_ => hs_.2.2.2.2.2.1)) (fun hn_ => (Kd.freshB BK120.out k_ hn_)), Or.elim hk_ (fun hs_ => Or.elim hs_ (fun hs_ => hs_.2.2.2.2) (fun hs_ => hs_.2.2.2.2.2.2)) (fun hn_ => (Kd.freshB BK122.out k_ hn_))⟩)) (below_size (pH HB)))
        have n8_ := aK (blk_below BK101.out hb)
        have n9_ := aK (blk_below BK102.out hb)
        have n10_ := aK (blk_below BK120.out hb)
        have n11_ := aK (blk_below BK122.out hb)
        have n12_ := aK (Kd.C_below HR119_2.out hb)
        have n13_ := aK (Kd.C_below HR121_2.out hb)
        have n14_ := aK (below_step (pH HB) hb)
        clear HO_102002
        clear HO_121002
        clear HO_123002
        clear HO129
        clear HO134
        clear HO139
        clear HO144
        clear BK101
        clear BK102
        clear BK120
        clear BK122
        clear HR119_2
        clear HR121_2
        clear HB
        have HO_102002 := n0_
        have HO_121002 := n1_
        have HO_123002 := n2_
        have HO129 := n3_
        have HO134 := n4_
        have HO139 := n5_
        have HO144 := n6_
        have HO149 := n7_
        have BK101 := n8_
        have BK102 := n9_
        have BK120 := n10_
        have BK122 := n11_
        have HR119_2 := n12_
        have HR121_2 := n13_
        have HB := n14_
        clear n0_ n1_ n2_ n3_ n4_ n5_ n6_ n7_ n8_ n9_ n10_ n11_ n12_ n13_ n14_
        (try clear hb)
        (try clear hb2)
        (try clear hk)
        (try clear hi)
        (try clear ho0)
        obtain ⟨Ao78, co78, eo78⟩ := Kd.N_slice HO149.out
        (first | subst eo78 | (injection eo78 with f1_ f2_ f3_; have f4_ := f1_.symm; have f5_ := f3_.symm; clear f1_ f2_ f3_; subst f4_; subst f5_))
        refine hK.out _ _ ⟨(blk_cell BK120.out 0).trans rfl, (blk_cell BK120.out 1).trans rfl, (blk_cell BK120.out 2).trans rfl, (blk_cell BK122.out 0).trans rfl, (blk_cell BK122.out 1).trans rfl, (blk_cell BK122.out 2).trans rfl⟩ (fun hHeld => ?_)
        clear hK K
        refine norm_ (a' := ?_) ?_ ?_
        rotate_left
        ·show Act.put _ (some 44) _ = _
         simp only [sP, i64_w, i32_w]
         rfl
        refine one_ (i := 9) (N := none) (bs 10 0) rfl rfl (one_of HT_.out (by kernel_rfl)) (by decide) (fun K hK => ?_)
        have hs76 : w75.cell? ⟨gb102, 0, none⟩ = some (.int .i64 0) := (blk_cell BK102.out 0).trans rfl
        have hfs76 := blk_frozen BK102.out 0
        have hns76_0 := NB101_102.out
        have hns76_2 := NB120_102.out
        have hns76_3 := NB122_102.out
        have hms76_0 := NB102_101.out
        have hms76_2 := NB102_120.out
        have hms76_3 := NB102_122.out
        have hs77 : w75.cell? ⟨gb102, 1, none⟩ = some (.int .i64 0) := (blk_cell BK102.out 1).trans rfl
        have hfs77 := blk_frozen BK102.out 1
        have hns77_0 := NB101_102.out
        have hns77_2 := NB120_102.out
        have hns77_3 := NB122_102.out
        have hms77_0 := NB102_101.out
        have hms77_2 := NB102_120.out
        have hms77_3 := NB102_122.out
        have hs79 : w75.cell? ⟨gb102, 2, none⟩ = some (.slice none 0 0) := (blk_cell BK102.out 2).trans rfl
        have hfs79 := blk_frozen BK102.out 2
        have hns79_0 := NB101_102.out
        have hns79_2 := NB120_102.out
        have hns79_3 := NB122_102.out
        have hms79_0 := NB102_101.out
        have hms79_2 := NB102_120.out
        have hms79_3 := NB102_122.out
        refine skip_ (w1 := ?_) (by rfl) rfl ?_ ?_
        rotate_left
        ·go_simp
         rfl
        refine hK.out _ _ ⟨(cF3 NB120_102.out (hHeld.1)), (cF3 NB120_102.out (hHeld.2.1)), (cF3 NB120_102.out (hHeld.2.2.1)), (cF3 NB122_102.out (hHeld.2.2.2.1)), (cF3 NB122_102.out (hHeld.2.2.2.2.1)), (cF3 NB122_102.out (hHeld.2.2.2.2.2))⟩ (fun hHeld => ?_)
        clear hK K
        refine done_ (done_of HT_.out (by kernel_rfl)) ?_
        try go_wp2
        refine bodyPost_ret (results_cell_row rfl _ _ gb102 49 #[.int .i64 t145, .int .i64 t146, .slice Ao78 t147.length co78] (0, 0) _ rfl (p3 BK102) Try.underlying49 rfl (by kernel_rfl)) rfl ?_
        exact ⟨_, eW, Kd.N_V (by (with_reducible repeat (first | apply Kd.N_alloc | apply Kd.N_drewN | apply Kd.N_drew)); exact Kd.N_mono (nF3 gb102 (Kd.N_mono HO149.out (fun k_ hk => (⟨hk, hk.2.2.1⟩ : _ ∧ k_ ≠ gb102))) (fun _ hk => hk.2)) (fun _ hk => hk.1.1)), pH HB⟩
    ·rw [if_neg c17] at H
     exact absurd H (by simp)
   ·rw [if_neg c16] at H
    exact absurd H (by simp)
 ·replace c4 := Bool.eq_false_iff.mpr c4
  subst c4
  rw [if_neg (show ¬ (false = true) by decide)] at H
  replace H := Option.bind_eq_some_iff.mp H
  obtain ⟨⟨t104, t105, t106⟩, A800, H⟩ := H
  try dsimp only at H
  have A80 := aK A800
  clear A800
  replace H := Option.bind_eq_some_iff.mp H
  obtain ⟨⟨t109, t110, t111⟩, A810, H⟩ := H
  try dsimp only at H
  have A81 := aK A810
  clear A810
  simp only [Option.some.injEq, Prod.mk.injEq] at H
  obtain ⟨rfl, rfl, rfl⟩ := H
  go_enter Try.func28, Try.ntmps28
  try go_wp2_with (first | ((with_reducible refine gate_dst (N := 2) rfl ?_); refine bE (N := 2) (cs := #[.int .i64 a0_0, .int .i64 a0_1, .slice A0_2 l0_2.length c0_2]) (t := 49) ?_; intro gb101 hg w82 hbox hb; have GW101 := qw HB hg; have GE101 := qw HB hg; replace HO0_2 := qv HO0_2 hg hb; have BK101 := aK hbox; replace HB := qs HB hb; clear hb hbox hg) | ((with_reducible refine gate_dst (N := 4) rfl ?_); refine bE (N := 4) (cs := #[.int .i64 0, .int .i64 0, .slice none 0 0]) (t := 49) ?_; intro gb102 hg w83 hbox hb; have GW102 := qw HB hg; have GE102 := qw HB hg; have NB101_102 := ql BK101 hg; have NB102_101 := qg BK101 hg; replace HO0_2 := qv HO0_2 hg hb; replace BK101 := qb BK101 hb; have BK102 := aK hbox; replace HB := qs HB hb; clear hb hbox hg; have hnb84 := NB101_102.out; have hnc84 := NB102_101.out; obtain ⟨hcz85_0, hcz85_1, hcz85_2, hfz85_0, hfz85_1, hfz85_2⟩ := cA3 BK101) | ((with_reducible refine gate_callee (f := 48) rfl ?_); refine goesL_ (some 9) rfl rfl Try.func48 (by kernel_rfl) rfl #[.agg #[.int .i64 a0_0, .int .i64 a0_1, .slice A0_2 l0_2.length c0_2], .int .i64 a1] rfl tA ?_; (with_reducible refine (spec_ldHas.calls k a0_0 a0_1 _ _ l0_2 a1 false _ ?side1 ?side2 A3.out).mono ?_); (case side1 => exact sC ((Kd.V_reads' HO0_2.out).2.2)); (case side2 => exact (Kd.V_reads' HO0_2.out).2.1); rintro e w86 ⟨rfl, hb⟩; refine ⟨_, rfl, ?_⟩; have n0_ := aK (Kd.V_below HO0_2.out hb); replace BK101 := qb BK101 hb; replace BK102 := qb BK102 hb; clear HO0_2; have HO0_2 := n0_; clear n0_; replace HB := qs HB hb; (try clear hb)))
  have n0_ := aK (Kd.V_drew HO0_2.out)
  have n1_ := aK (blk_drew BK101.out)
  have n2_ := aK (blk_drew BK102.out)
  have n3_ := aK (below_drew1 HB.out)
  clear HO0_2
  clear BK101
  clear BK102
  clear HB
  have HO0_2 := n0_
  have BK101 := n1_
  have BK102 := n2_
  have HB := n3_
  clear n0_ n1_ n2_ n3_
  refine start_ (n := 4) (S := fun w' => w'.cell? ⟨gb101, 0, none⟩ = some (.int .i64 a0_0) ∧ w'.cell? ⟨gb101, 1, none⟩ = some (.int .i64 a0_1) ∧ w'.cell? ⟨gb101, 2, none⟩ = some (.slice A0_2 l0_2.length c0_2)) (ds := []) (bs 0 4) (by kernel_rfl) rfl rfl ⟨(blk_cell BK101.out 0).trans rfl, (blk_cell BK101.out 1).trans rfl, (blk_cell BK101.out 2).trans rfl⟩ (fun hHeld => ?_)
  generalize w86.drew = w87 at HO0_2 BK101 BK102 HB hHeld ⊢
  refine take_ (i := 1) (N := some 12) (v := ?_) (a' := ?_) #[false, true, false, false] rfl rfl (by kernel_rfl) (fun _ _ _ h => h) (Or.inl ⟨by rfl, ?_⟩) hHeld ?_ ?_
  rotate_left
  ·rintro w' ⟨s0, s1, s2⟩
   go_simp
   with_reducible rfl
  rotate_left
  ·simp only [sP, i64_w, i32_w]
   rfl
  refine one_ (i := 0) (N := some 11) (bs 2 2) rfl rfl (by kernel_rfl) (by decide) (fun K hK => ?_)
  refine goes_ Try.func49 (by kernel_rfl) rfl #[.int .i64 4] (by rfl) rfl rfl tA ?_
  with_reducible refine (spec_ldOne.calls 4 t104 t105 t106 _ A80.out).mono ?_
  rintro e w88 ⟨v107, rfl, ho0, hb⟩
  refine ⟨_, rfl, ?_⟩
  have n0_ := aK (Kd.V_elder' HO0_2.out (by first | exact Kd.N_base ho0 | exact Kd.R_base ho0) hb)
  have n1_ := aK (Kd.N_lower (Kd.N_mono (ok' := fun k_ => (P0_2_ k_ ∨ w.heap.size ≤ k_) ∧ k_ ≠ gb101 ∧ k_ ≠ gb102) (Kd.R_N (Kd.R_bound ho0)) (fun k_ hk_ => ⟨(.inr (Nat.le_trans (below_size (pH HB)) hk_.2.1)), (Kd.freshB BK101.out k_ hk_.2.1), (Kd.freshB BK102.out k_ hk_.2.1)⟩)) (below_size (pH HB)))
  have n2_ := aK (blk_below BK101.out hb)
  have n3_ := aK (blk_below BK102.out hb)
  have n4_ := aK (below_step (pH HB) hb)
  clear HO0_2
  clear BK101
  clear BK102
  clear HB
  have HO0_2 := n0_
  have HO108 := n1_
  have BK101 := n2_
  have BK102 := n3_
  have HB := n4_
  clear n0_ n1_ n2_ n3_ n4_
  (try clear hb)
  (try clear hb2)
  (try clear hk)
  (try clear hi)
  (try clear ho0)
  obtain ⟨Ao89, co89, eo89⟩ := Kd.N_slice HO108.out
  (first | subst eo89 | (injection eo89 with f1_ f2_ f3_; have f4_ := f1_.symm; have f5_ := f3_.symm; clear f1_ f2_ f3_; subst f4_; subst f5_))
  refine hK.out _ _ ⟨(blk_cell BK101.out 0).trans rfl, (blk_cell BK101.out 1).trans rfl, (blk_cell BK101.out 2).trans rfl⟩ (fun hHeld => ?_)
  clear hK K
  refine norm_ (a' := ?_) ?_ ?_
  rotate_left
  ·show Act.put _ (some 11) _ = _
   simp only [sP, i64_w, i32_w]
   rfl
  refine one_ (i := 2) (N := some 13) (bs 3 1) rfl rfl (by kernel_rfl) (by decide) (fun K hK => ?_)
  refine goes_ Try.func29 (by kernel_rfl) rfl #[.agg #[.int .i64 t104, .int .i64 t105, .slice Ao89 t106.length co89], .agg #[.int .i64 a0_0, .int .i64 a0_1, .slice A0_2 l0_2.length c0_2]] (by rfl) rfl rfl tA ?_
  with_reducible refine (spec_ldApp.calls t104 t105 (fun k_ => ((P0_2_ k_ ∨ w.heap.size ≤ k_) ∧ (k_ ≠ gb101 ∧ k_ ≠ gb102))) _ _ t106 a0_0 a0_1 (fun k_ => ((((P0_2_ k_ ∨ w.heap.size ≤ k_) ∧ k_ ≠ gb101) ∧ k_ ≠ gb102) ∧ some k_ ≠ (.slice Ao89 t106.length co89 : Value).ownBlock)) _ _ l0_2 t109 t110 t111 _ ?side1 ?side2 A81.out).mono ?_
  (case side1 => exact Kd.N_V (HO108.out))
  (case side2 => exact HO0_2.out)
  rintro e w90 ⟨v112, rfl, ho0, hb⟩
  refine ⟨_, rfl, ?_⟩
  have n0_ := aK (Kd.V_elder' HO0_2.out (by first | exact Kd.N_base ho0 | exact Kd.R_base ho0) hb)
  have n1_ := aK (Kd.N_elder' HO108.out (by first | exact Kd.N_base ho0 | exact Kd.R_base ho0) hb)
  have n2_ := aK (Kd.N_lower (Kd.N_mono (ok' := fun k_ => (P0_2_ k_ ∨ w.heap.size ≤ k_) ∧ k_ ≠ gb101 ∧ k_ ≠ gb102) ho0 (fun k_ hk_ => ⟨Or.elim hk_ (fun hs_ => Or.elim hs_ (fun hs_ => hs_.1) (fun hs_ => hs_.1.1.1)) (fun hn_ => (.inr (Nat.le_trans (below_size (pH HB)) hn_))), Or.elim hk_ (fun hs_ => Or.elim hs_ (fun hs_ => hs_.2.1) (fun hs_ => hs_.1.1.2)) (fun hn_ => (Kd.freshB BK101.out k_ hn_)), Or.elim hk_ (fun hs_ => Or.elim hs_ (fun hs_ => hs_.2.2) (fun hs_ => hs_.1.2)) (fun hn_ => (Kd.freshB BK102.out k_ hn_))⟩)) (below_size (pH HB)))
  have n3_ := aK (blk_below BK101.out hb)
  have n4_ := aK (blk_below BK102.out hb)
  have n5_ := aK (below_step (pH HB) hb)
  clear HO0_2
  clear HO108
  clear BK101
  clear BK102
  clear HB
  have HO0_2 := n0_
  have HO108 := n1_
  have HO113 := n2_
  have BK101 := n3_
  have BK102 := n4_
  have HB := n5_
  clear n0_ n1_ n2_ n3_ n4_ n5_
  (try clear hb)
  (try clear hb2)
  (try clear hk)
  (try clear hi)
  (try clear ho0)
  obtain ⟨Ao93, co93, eo93⟩ := Kd.N_slice HO113.out
  (first | subst eo93 | (injection eo93 with f1_ f2_ f3_; have f4_ := f1_.symm; have f5_ := f3_.symm; clear f1_ f2_ f3_; subst f4_; subst f5_))
  refine hK.out _ _ ⟨(blk_cell BK101.out 0).trans rfl, (blk_cell BK101.out 1).trans rfl, (blk_cell BK101.out 2).trans rfl⟩ (fun hHeld => ?_)
  clear hK K
  refine norm_ (a' := ?_) ?_ ?_
  rotate_left
  ·show Act.put _ (some 13) _ = _
   simp only [sP, i64_w, i32_w]
   rfl
  refine one_ (i := 3) (N := none) (bs 4 0) rfl rfl (by kernel_rfl) (by decide) (fun K hK => ?_)
  have hs91 : w90.cell? ⟨gb102, 0, none⟩ = some (.int .i64 0) := (blk_cell BK102.out 0).trans rfl
  have hfs91 := blk_frozen BK102.out 0
  have hns91_0 := NB101_102.out
  have hms91_0 := NB102_101.out
  have hs92 : w90.cell? ⟨gb102, 1, none⟩ = some (.int .i64 0) := (blk_cell BK102.out 1).trans rfl
  have hfs92 := blk_frozen BK102.out 1
  have hns92_0 := NB101_102.out
  have hms92_0 := NB102_101.out
  have hs94 : w90.cell? ⟨gb102, 2, none⟩ = some (.slice none 0 0) := (blk_cell BK102.out 2).trans rfl
  have hfs94 := blk_frozen BK102.out 2
  have hns94_0 := NB101_102.out
  have hms94_0 := NB102_101.out
  refine skip_ (w1 := ?_) (by rfl) rfl ?_ ?_
  rotate_left
  ·go_simp
   rfl
  refine hK.out _ _ ⟨(cF3 NB101_102.out (hHeld.1)), (cF3 NB101_102.out (hHeld.2.1)), (cF3 NB101_102.out (hHeld.2.2))⟩ (fun hHeld => ?_)
  clear hK K
  refine done_ (by kernel_rfl) ?_
  try go_wp2
  refine bodyPost_ret (results_cell_row rfl _ _ gb102 49 #[.int .i64 t109, .int .i64 t110, .slice Ao93 t111.length co93] (0, 0) _ rfl (p3 BK102) Try.underlying49 rfl (by kernel_rfl)) rfl ?_
  exact ⟨_, eW, Kd.N_V (by (with_reducible repeat (first | apply Kd.N_alloc | apply Kd.N_drewN | apply Kd.N_drew)); exact Kd.N_mono (nF3 gb102 (Kd.N_mono HO113.out (fun k_ hk => (⟨hk, hk.2.2⟩ : _ ∧ k_ ≠ gb102))) (fun _ hk => hk.2)) (fun _ hk => hk.1.1)), pH HB⟩


def spec_ldOf.f : Nat → Int → Int → List (S54) → Int → Option (Int × Int × (List (S49)) × Bool)
 | 0, _, _, _, _ => none
 | k + 1, a0_0, a0_1, l0_2, a1 => if a0_0 = 1 then (if a0_1 ≥ a1 then (some (1, wrap64 (a0_1 - a1), ([] : List (S49)), decide ((wrap64 (a0_1 - a1)) < 100))) else (some (1, wrap64 ((wrap64 ((wrap64 (100 + a1)) - 1)) - a0_1), ([] : List (S49)), true))) else (if a0_0 = 2 then (if 0 < (l0_2.length : Int) then ((spec_ldOf.f k ((rd_T54 l0_2 0).f0) ((rd_T54 l0_2 0).f1) ((rd_T54 l0_2 0).f2) (wrap64 (a1 + 1))).bind fun bt104 => (if bt104.2.2.2 = true then ((spec_ldAbstract.f k bt104.1 bt104.2.1 bt104.2.2.1 (wrap64 (100 + a1))).bind fun bt111 => ((spec_ldTold.f k bt111.1 bt111.2.1 bt111.2.2).bind fun bt117 => (some (bt111.1, bt111.2.1, bt111.2.2, bt117.2)))) else (some (bt104.1, bt104.2.1, bt104.2.2.1, false)))) else (none)) else (if 0 < (l0_2.length : Int) then ((spec_ldOf.f k ((rd_T54 l0_2 0).f0) ((rd_T54 l0_2 0).f1) ((rd_T54 l0_2 0).f2) a1).bind fun bt122 => (if bt122.2.2.2 = true then (if 1 < (l0_2.length : Int) then ((spec_ldOf.f k ((rd_T54 l0_2 1).f0) ((rd_T54 l0_2 1).f1) ((rd_T54 l0_2 1).f2) a1).bind fun bt130 => (if bt130.2.2.2 = true then ((spec_ldApp.f bt122.1 bt122.2.1 bt122.2.2.1 bt130.1 bt130.2.1 bt130.2.2.1).bind fun bt137 => ((spec_ldTold.f k bt137.1 bt137.2.1 bt137.2.2).bind fun bt143 => (some (bt137.1, bt137.2.1, bt137.2.2, bt143.2)))) else (some (bt130.1, bt130.2.1, bt130.2.2.1, false)))) else (none)) else (some (bt122.1, bt122.2.1, bt122.2.2.1, false)))) else (none)))
def spec_ldOf.T4 : Bool × List (List Nat × List Nat) := (true, [([], []), ([0], [0]), ([], []), ([1, 2], [1, 2]), ([3], [3]), ([], []), ([5], [5]), ([], []), ([6, 7], [6, 7]), ([8], [8]), ([4, 0, 1, 2, 3, 4], [4]), ([9, 10, 0, 1, 2, 3, 4, 5, 6, 7, 8, 9, 10], [9])])
def spec_ldOf.B4 : List Nat := [0, 1, 0, 7, 15, 0, 32, 0, 224, 480, 31, 2047]
theorem spec_ldOf.tab4 : rtab .any (opsOf Try.f14 4) = spec_ldOf.T4 := by kernel_rfl
theorem spec_ldOf.bits4 : waitsOk spec_ldOf.T4.2 spec_ldOf.B4 = true := by kernel_rfl
set_option maxHeartbeats 8000000 in
set_option maxRecDepth 100000 in
theorem spec_ldOf.calls (k : Nat) : ∀ (a0_0 : Int) (a0_1 : Int) (A0_2 : Option Addr) (c0_2 : Nat) (l0_2 : List (S54)) (a1 : Int) (r1 : Int) (r2 : Int) (r3 : List (S49)) (r4 : Bool) (w : World) (hr0_2 : Kd.C k54 w A0_2 l0_2.length l0_2) (hc0_2 : l0_2.length ≤ c0_2) (h : spec_ldOf.f k a0_0 a0_1 l0_2 a1 = some (r1, r2, r3, r4)),
  Calls Try.prog 14 #[.agg #[.int .i64 a0_0, .int .i64 a0_1, .slice A0_2 l0_2.length c0_2], .int .i64 a1] w fun e w' => ∃ v2_ : Value, e = .returned (.tuple #[.agg #[.int .i64 r1, .int .i64 r2, v2_], .bool r4]) ∧ Kd.V k49 49 w' w.heap.size (fun k_ => (w.heap.size ≤ k_)) v2_ r3 ∧ Below w.heap.size w w' := by
 induction k using Nat.strongRecOn with
 | _ k ih =>
 intro a0_0 a0_1 A0_2 c0_2 l0_2 a1 r1 r2 r3 r4 w hr0_2 hc0_2 h
 cases k with
 | zero => exact absurd h (by simp [spec_ldOf.f])
 | succ k =>
 simp only [spec_ldOf.f] at h
 have hu54 := Try.underlying54
 have hu49 := Try.underlying49
 have HR0_2 := aK hr0_2
 have HC0_2 := aK hc0_2
 clear hr0_2 hc0_2
 have HB := aK (Below.refl w.heap.size w)
 have H : (if a0_0 = 1 then (if a0_1 ≥ a1 then (some (1, wrap64 (a0_1 - a1), ([] : List (S49)), decide ((wrap64 (a0_1 - a1)) < 100))) else (some (1, wrap64 ((wrap64 ((wrap64 (100 + a1)) - 1)) - a0_1), ([] : List (S49)), true))) else (if a0_0 = 2 then (if 0 < (l0_2.length : Int) then ((spec_ldOf.f k ((rd_T54 l0_2 0).f0) ((rd_T54 l0_2 0).f1) ((rd_T54 l0_2 0).f2) (wrap64 (a1 + 1))).bind fun bt104 => (if bt104.2.2.2 = true then ((spec_ldAbstract.f k bt104.1 bt104.2.1 bt104.2.2.1 (wrap64 (100 + a1))).bind fun bt111 => ((spec_ldTold.f k bt111.1 bt111.2.1 bt111.2.2).bind fun bt117 => (some (bt111.1, bt111.2.1, bt111.2.2, bt117.2)))) else (some (bt104.1, bt104.2.1, bt104.2.2.1, false)))) else (none)) else (if 0 < (l0_2.length : Int) then ((spec_ldOf.f k ((rd_T54 l0_2 0).f0) ((rd_T54 l0_2 0).f1) ((rd_T54 l0_2 0).f2) a1).bind fun bt122 => (if bt122.2.2.2 = true then (if 1 < (l0_2.length : Int) then ((spec_ldOf.f k ((rd_T54 l0_2 1).f0) ((rd_T54 l0_2 1).f1) ((rd_T54 l0_2 1).f2) a1).bind fun bt130 => (if bt130.2.2.2 = true then ((spec_ldApp.f bt122.1 bt122.2.1 bt122.2.2.1 bt130.1 bt130.2.1 bt130.2.2.1).bind fun bt137 => ((spec_ldTold.f k bt137.1 bt137.2.1 bt137.2.2).bind fun bt143 => (some (bt137.1, bt137.2.1, bt137.2.2, bt143.2)))) else (some (bt130.1, bt130.2.1, bt130.2.2.1, false)))) else (none)) else (some (bt122.1, bt122.2.1, bt122.2.2.1, false)))) else (none)))) = some (r1, r2, r3, r4) := h
 clear h
 by_cases c3 : a0_0 = 1
 ·rw [if_pos c3] at H
  have c3b0 : (a0_0 == 1) = true := beq_iff_eq.mpr c3
  have c3b1 : (a0_0 != 1) = false := bne_eq_false_iff_eq.mpr c3
  clear c3
  by_cases c4 : a0_1 ≥ a1
  ·rw [if_pos c4] at H
   have c4b0 : decide (a1 ≤ a0_1) = true := decide_eq_true c4
   clear c4
   simp only [Option.some.injEq, Prod.mk.injEq] at H
   obtain ⟨rfl, rfl, rfl, rfl⟩ := H
   go_enter Try.func14, Try.ntmps14
   try go_wp2_with (first | ((with_reducible refine gate_dst (N := 2) rfl ?_); refine bE (N := 2) (cs := #[.int .i64 a0_0, .int .i64 a0_1, .slice A0_2 l0_2.length c0_2]) (t := 54) ?_; intro gb101 hg w5 hbox hb; have GW101 := qw HB hg; have GE101 := qw HB hg; have BK101 := aK hbox; replace HB := qs HB hb; clear hb hbox hg) | ((with_reducible refine gate_dst (N := 4) rfl ?_); refine bE (N := 4) (cs := #[.int .i64 0, .int .i64 0, .slice none 0 0]) (t := 49) ?_; intro gb102 hg w6 hbox hb; have GW102 := qw HB hg; have GE102 := qw HB hg; have NB101_102 := ql BK101 hg; have NB102_101 := qg BK101 hg; replace BK101 := qb BK101 hb; have BK102 := aK hbox; replace HB := qs HB hb; clear hb hbox hg; have hnb7 := NB101_102.out; have hnc7 := NB102_101.out; obtain ⟨hcz8_0, hcz8_1, hcz8_2, hfz8_0, hfz8_1, hfz8_2⟩ := cA3 BK101))
   have n0_ := aK (blk_drew BK101.out)
   have n1_ := aK (blk_drew BK102.out)
   have n2_ := aK (below_drew1 HB.out)
   clear BK101
   clear BK102
   clear HB
   have BK101 := n0_
   have BK102 := n1_
   have HB := n2_
   clear n0_ n1_ n2_
   refine start_ (n := 12) (S := fun w' => w'.cell? ⟨gb101, 0, none⟩ = some (.int .i64 a0_0) ∧ w'.cell? ⟨gb101, 1, none⟩ = some (.int .i64 a0_1) ∧ w'.cell? ⟨gb101, 2, none⟩ = some (.slice A0_2 l0_2.length c0_2)) (ds := []) (bs 0 12) (by kernel_rfl) rfl rfl ⟨(blk_cell BK101.out 0).trans rfl, (blk_cell BK101.out 1).trans rfl, (blk_cell BK101.out 2).trans rfl⟩ (fun hHeld => ?_); refine with_tabW spec_ldOf.tab4 spec_ldOf.bits4 (fun HT_ HW_ => ?_)
   generalize w6.drew = w9 at BK101 BK102 HB hHeld ⊢
   refine pure_ (i := 0) (N := some 26) (v := ?_) (a' := ?_) (bs 1 11) rfl rfl (any_of HT_.out (by kernel_rfl)) (fun _ _ _ h => h) (Or.inl ⟨by rfl, ?_⟩) ?_ ?_
   rotate_left
   ·intro w'
    go_simp
    with_reducible rfl
   rotate_left
   ·simp only [sP, i64_w, i32_w]
    rfl
   refine pure_ (i := 2) (N := some 28) (v := ?_) (a' := ?_) #[true, false, true, false, false, false, false, false, false, false, false, false] rfl rfl (any_of HT_.out (by kernel_rfl)) (fun _ _ _ h => h) (Or.inl ⟨by rfl, ?_⟩) ?_ ?_
   rotate_left
   ·intro w'
    go_simp
    with_reducible rfl
   rotate_left
   ·simp only [sP, i64_w, i32_w]
    rfl
   refine pure_ (i := 5) (N := some 31) (v := ?_) (a' := ?_) #[true, false, true, false, false, true, false, false, false, false, false, false] rfl rfl (any_of HT_.out (by kernel_rfl)) (fun _ _ _ h => h) (Or.inl ⟨by rfl, ?_⟩) ?_ ?_
   rotate_left
   ·intro w'
    go_simp
    with_reducible rfl
   rotate_left
   ·simp only [sP, i64_w, i32_w]
    rfl
   refine pure_ (i := 7) (N := some 33) (v := ?_) (a' := ?_) #[true, false, true, false, false, true, false, true, false, false, false, false] rfl rfl (any_of HT_.out (by kernel_rfl)) (fun _ _ _ h => h) (Or.inl ⟨by rfl, ?_⟩) ?_ ?_
   rotate_left
   ·intro w'
    go_simp
    with_reducible rfl
   rotate_left
   ·simp only [sP, i64_w, i32_w]
    rfl
   refine take_ (i := 1) (N := some 27) (v := ?_) (a' := ?_) #[true, true, true, false, false, true, false, true, false, false, false, false] rfl rfl (take_ofW HT_.out HW_.out (by kernel_rfl)) (fun _ _ _ h => h) (Or.inl ⟨by rfl, ?_⟩) hHeld ?_ ?_
   rotate_left
   ·rintro w' ⟨s0, s1, s2⟩
    go_simp
    with_reducible rfl
   rotate_left
   ·simp only [sP, i64_w, i32_w]
    rfl
   refine pure_ (i := 3) (N := some 29) (v := ?_) (a' := ?_) #[true, true, true, true, false, true, false, true, false, false, false, false] rfl rfl (any_of HT_.out (by kernel_rfl)) (fun _ _ _ h => h) (Or.inl ⟨by rfl, ?_⟩) ?_ ?_
   rotate_left
   ·intro w'
    go_simp
    with_reducible rfl
   rotate_left
   ·simp only [sP, i64_w, i32_w]
    rfl
   refine pure_ (i := 4) (N := some 30) (v := ?_) (a' := ?_) #[true, true, true, true, true, true, false, true, false, false, false, false] rfl rfl (any_of HT_.out (by kernel_rfl)) (fun _ _ _ h => h) (Or.inl ⟨by rfl, ?_⟩) ?_ ?_
   rotate_left
   ·intro w'
    go_simp
    with_reducible rfl
   rotate_left
   ·simp only [sP, i64_w, i32_w]
    rfl
   refine take_ (i := 6) (N := some 32) (v := ?_) (a' := ?_) (bs 8 4) rfl rfl (take_ofW HT_.out HW_.out (by kernel_rfl)) (fun _ _ _ h => h) (Or.inl ⟨by rfl, ?_⟩) hHeld ?_ ?_
   rotate_left
   ·rintro w' ⟨s0, s1, s2⟩
    go_simp
    with_reducible rfl
   rotate_left
   ·simp only [sP, i64_w, i32_w]
    rfl
   refine pure_ (i := 8) (N := some 34) (v := ?_) (a' := ?_) (bs 9 3) rfl rfl (any_of HT_.out (by kernel_rfl)) (fun _ _ _ h => h) (Or.inl ⟨by rfl, ?_⟩) ?_ ?_
   rotate_left
   ·intro w'
    go_simp
    with_reducible rfl
   rotate_left
   ·simp only [sP, i64_w, i32_w]
    rfl
   refine pure_ (i := 9) (N := some 35) (v := ?_) (a' := ?_) (bs 10 2) rfl rfl (any_of HT_.out (by kernel_rfl)) (fun _ _ _ h => h) (Or.inl ⟨by rfl, ?_⟩) ?_ ?_
   rotate_left
   ·intro w'
    go_simp
    with_reducible rfl
   rotate_left
   ·simp only [sP, i64_w, i32_w]
    rfl
   refine one_ (i := 10) (N := none) (bs 11 1) rfl rfl (one_of HT_.out (by kernel_rfl)) (by decide) (fun K hK => ?_)
   have hs10 : w9.cell? ⟨gb102, 0, none⟩ = some (.int .i64 0) := (blk_cell BK102.out 0).trans rfl
   have hfs10 := blk_frozen BK102.out 0
   have hns10_0 := NB101_102.out
   have hms10_0 := NB102_101.out
   have hs11 : w9.cell? ⟨gb102, 1, none⟩ = some (.int .i64 0) := (blk_cell BK102.out 1).trans rfl
   have hfs11 := blk_frozen BK102.out 1
   have hns11_0 := NB101_102.out
   have hms11_0 := NB102_101.out
   have hs12 : w9.cell? ⟨gb102, 2, none⟩ = some (.slice none 0 0) := (blk_cell BK102.out 2).trans rfl
   have hfs12 := blk_frozen BK102.out 2
   have hns12_0 := NB101_102.out
   have hms12_0 := NB102_101.out
   refine skip_ (w1 := ?_) (by rfl) rfl ?_ ?_
   rotate_left
   ·go_simp
    rfl
   refine hK.out _ _ ⟨(cF3 NB101_102.out (hHeld.1)), (cF3 NB101_102.out (hHeld.2.1)), (cF3 NB101_102.out (hHeld.2.2))⟩ (fun hHeld => ?_)
   clear hK K
   refine pure_ (i := 11) (N := some 5) (v := ?_) (a' := ?_) (bs 12 0) rfl rfl (any_of HT_.out (by kernel_rfl)) (fun _ _ _ h => h) (Or.inl ⟨by rfl, ?_⟩) ?_ ?_
   rotate_left
   ·intro w'
    go_simp
    with_reducible rfl
   rotate_left
   ·simp only [sP, i64_w, i32_w]
    rfl
   refine done_ (done_of HT_.out (by kernel_rfl)) ?_
   try go_wp2
   refine bodyPost_ret (results_ct rfl _ _ gb102 49 #[.int .i64 1, .int .i64 (wrap64 (a0_1 - a1)), .slice none 0 0] (0, 0) _ rfl (p3 BK102) Try.underlying49 rfl (by kernel_rfl)) rfl ?_
   exact ⟨_, eW, (by exact Kd.V_nil _ _ _ _ _), pH HB⟩
  ·rw [if_neg c4] at H
   have c4b0 : decide (a1 ≤ a0_1) = false := decide_eq_false c4
   clear c4
   simp only [Option.some.injEq, Prod.mk.injEq] at H
   obtain ⟨rfl, rfl, rfl, rfl⟩ := H
   go_enter Try.func14, Try.ntmps14
   go_wp2_with (first | ((with_reducible refine gate_dst (N := 2) rfl ?_); refine bE (N := 2) (cs := #[.int .i64 a0_0, .int .i64 a0_1, .slice A0_2 l0_2.length c0_2]) (t := 54) ?_; intro gb101 hg w13 hbox hb; have GW101 := qw HB hg; have GE101 := qw HB hg; have BK101 := aK hbox; replace HB := qs HB hb; clear hb hbox hg) | ((with_reducible refine gate_dst (N := 4) rfl ?_); refine bE (N := 4) (cs := #[.int .i64 0, .int .i64 0, .slice none 0 0]) (t := 49) ?_; intro gb102 hg w14 hbox hb; have GW102 := qw HB hg; have GE102 := qw HB hg; have NB101_102 := ql BK101 hg; have NB102_101 := qg BK101 hg; replace BK101 := qb BK101 hb; have BK102 := aK hbox; replace HB := qs HB hb; clear hb hbox hg; have hnb15 := NB101_102.out; have hnc15 := NB102_101.out; obtain ⟨hcz16_0, hcz16_1, hcz16_2, hfz16_0, hfz16_1, hfz16_2⟩ := cA3 BK101; obtain ⟨hcz17_0, hcz17_1, hcz17_2, hfz17_0, hfz17_1, hfz17_2⟩ := cA3 BK102))
   refine bodyPost_ret (results_ct rfl _ _ gb102 49 #[.int .i64 1, .int .i64 (wrap64 ((wrap64 ((wrap64 (100 + a1)) - 1)) - a0_1)), .slice none 0 0] (0, 0) _ rfl (p3 BK102) Try.underlying49 rfl (by kernel_rfl)) rfl ?_
   exact ⟨_, eW, (by exact Kd.V_nil _ _ _ _ _), pH HB⟩
 ·rw [if_neg c3] at H
  have c3b0 : (a0_0 == 1) = false := beq_eq_false_iff_ne.mpr c3
  have c3b1 : (a0_0 != 1) = true := bne_iff_ne.mpr c3
  by_cases c18 : a0_0 = 2
  ·rw [if_pos c18] at H
   have c18b0 : (a0_0 == 2) = true := beq_iff_eq.mpr c18
   have c18b1 : (a0_0 != 2) = false := bne_eq_false_iff_eq.mpr c18
   clear c18
   by_cases c19 : 0 < (l0_2.length : Int)
   ·rw [if_pos c19] at H
    have c19b0 : decide (0 < (l0_2.length : Int)) = true := decide_eq_true c19
    have c19b1 : decide (0 < l0_2.length) = true := decide_eq_true (by omega)
    clear c19
    replace H := Option.bind_eq_some_iff.mp H
    obtain ⟨⟨t104, t105, t106, t109⟩, A200, H⟩ := H
    try dsimp only at H
    have A20 := aK A200
    clear A200
    by_cases c21 : t109 = true
    ·subst c21
     rw [if_pos rfl] at H
     replace H := Option.bind_eq_some_iff.mp H
     obtain ⟨⟨t111, t112, t113⟩, A220, H⟩ := H
     try dsimp only at H
     have A22 := aK A220
     clear A220
     replace H := Option.bind_eq_some_iff.mp H
     obtain ⟨⟨t117, t120⟩, A230, H⟩ := H
     try dsimp only at H
     have A23 := aK A230
     clear A230
     simp only [Option.some.injEq, Prod.mk.injEq] at H
     obtain ⟨rfl, rfl, rfl, rfl⟩ := H
     go_enter Try.func14, Try.ntmps14
     go_wp2_with (first | ((with_reducible refine gate_dst (N := 2) rfl ?_); refine bE (N := 2) (cs := #[.int .i64 a0_0, .int .i64 a0_1, .slice A0_2 l0_2.length c0_2]) (t := 54) ?_; intro gb101 hg w24 hbox hb; have GW101 := qw HB hg; have GE101 := qw HB hg; have BK101 := aK hbox; replace HB := qs HB hb; clear hb hbox hg) | ((with_reducible refine gate_dst (N := 4) rfl ?_); refine bE (N := 4) (cs := #[.int .i64 0, .int .i64 0, .slice none 0 0]) (t := 49) ?_; intro gb102 hg w25 hbox hb; have GW102 := qw HB hg; have GE102 := qw HB hg; have NB101_102 := ql BK101 hg; have NB102_101 := qg BK101 hg; replace BK101 := qb BK101 hb; have BK102 := aK hbox; replace HB := qs HB hb; clear hb hbox hg; have hnb26 := NB101_102.out; have hnc26 := NB102_101.out; obtain ⟨hcz27_0, hcz27_1, hcz27_2, hfz27_0, hfz27_1, hfz27_2⟩ := cA3 BK101; have p103 : 0 ≤ (0 : Int) := (by omega); have q103 : 0 < (l0_2.length : Int) := dA; obtain ⟨ad103, A103_2, c103_2, e103, hx103_0, hx103_1, hx103_2, hl103_2, hi103_2⟩ := at_T54 HR0_2.out 0 p103 q103; cases e103; have qi103 : (0 < l0_2.length) = True := eq_true (by omega); (try rw [show ((0 : Int)).toNat = 0 from rfl] at hx103_0); (try rw [show 0 * 3 = 0 from rfl] at hx103_0); (try rw [Addr.add_zero'] at hx103_0); (try rw [show ((0 : Int)).toNat = 0 from rfl] at hx103_1); (try rw [show 0 * 3 = 0 from rfl] at hx103_1); (try rw [Addr.add_zero'] at hx103_1); (try rw [show ((0 : Int)).toNat = 0 from rfl] at hx103_2); (try rw [show 0 * 3 = 0 from rfl] at hx103_2); (try rw [Addr.add_zero'] at hx103_2); replace hx103_0 := uC HB hx103_0; replace hx103_1 := uC HB hx103_1; replace hx103_2 := uC HB hx103_2; have HR103_2 := aK hi103_2; have HC103_2 := aK hl103_2; clear hi103_2 hl103_2; replace p103 := eq_true p103; replace q103 := eq_true q103) | ((with_reducible refine gate_callee (f := 14) rfl ?_); refine goesL_ (some 52) rfl rfl Try.func14 (by kernel_rfl) rfl #[.agg #[.int .i64 ((rd_T54 l0_2 0).f0), .int .i64 ((rd_T54 l0_2 0).f1), .slice A103_2 ((rd_T54 l0_2 0).f2).length c103_2], .int .i64 (wrap64 (a1 + 1))] rfl tA ?_; (with_reducible refine (ih k (by omega) ((rd_T54 l0_2 0).f0) ((rd_T54 l0_2 0).f1) _ _ ((rd_T54 l0_2 0).f2) (wrap64 (a1 + 1)) t104 t105 t106 true _ ?side1 ?side2 A20.out).mono ?_); (case side1 => exact sC (Kd.C_below HR103_2.out HB.out)); (case side2 => exact HC103_2.out); rintro e w28 ⟨v107, rfl, ho0, hb⟩; refine ⟨_, rfl, ?_⟩; have HO108 := aK (Kd.V_lower (Kd.V_mono (ok' := fun k_ => (w.heap.size ≤ k_) ∧ k_ ≠ gb101 ∧ k_ ≠ gb102) ho0 (fun k_ hk_ => ⟨(Nat.le_trans (below_size HB.out) hk_), (Kd.freshB BK101.out k_ hk_), (Kd.freshB BK102.out k_ hk_)⟩)) (below_size HB.out)); replace BK101 := qb BK101 hb; replace BK102 := qb BK102 hb; replace HB := qs HB hb; (try clear hb); (try clear ho0)) | ((with_reducible refine gate_dst (N := 6) rfl ?_); refine bE (N := 6) (cs := #[.int .i64 0, .int .i64 0, .slice none 0 0]) (t := 49) ?_; intro gb110 hg w29 hbox hb; have GW110 := qw HB hg; have GE110 := qw HB hg; have NB101_110 := ql BK101 hg; have NB110_101 := qg BK101 hg; have NB102_110 := ql BK102 hg; have NB110_102 := qg BK102 hg; replace HO108 := qv HO108 hg hb; replace BK101 := qb BK101 hb; replace BK102 := qb BK102 hb; have BK110 := aK hbox; replace HB := qs HB hb; clear hb hbox hg; have hnb30 := NB110_101.out; have hnc30 := NB101_110.out; have hnb31 := NB110_102.out; have hnc31 := NB102_110.out; obtain ⟨hcz32_0, hcz32_1, hcz32_2, hfz32_0, hfz32_1, hfz32_2⟩ := cA3 BK110; obtain ⟨Ao33, co33, eo33⟩ := Kd.V_slice HO108.out; subst eo33) | ((with_reducible refine gate_store (t := 49) (p := 6) rfl ?_); refine store_event (t := 49) (p := 6) (v := ?vo_w34) (w1 := (((w29.setCell ⟨gb110, 0, none⟩ (.int .i64 t104)).setCell ⟨gb110, 1, none⟩ (.int .i64 t105)).setCell ⟨gb110, 2, none⟩ (.slice Ao33 t106.length co33))) ?hg ?ho ?hn ?hr ?_; (case ho => rfl); (case hg => rfl); (case hn => rfl); (case hr => first | (go_simp; done) | (go_simp; rfl)); intro w34 hw; have n0_ : Aside0 (Kd.V k49 49 w34 w.heap.size (fun k_ => (w.heap.size ≤ k_) ∧ k_ ≠ gb101 ∧ k_ ≠ gb102 ∧ k_ ≠ gb110) (.slice Ao33 t106.length co33) t106) := ⟨(by rw [hw]; exact (by (with_reducible repeat (first | apply Kd.V_alloc | apply Kd.V_drewN | apply Kd.V_drew)); exact Kd.V_mono (vF3 gb110 (Kd.V_mono HO108.out (fun k_ hk => (⟨hk, hk.2⟩ : _ ∧ k_ ≠ gb110))) (fun _ hk => hk.2)) (fun _ hk => ⟨hk.1.1.1, ⟨hk.1.1.2.1, ⟨hk.1.1.2.2, hk.1.2⟩⟩⟩)))⟩; have n1_ : Aside0 (w34.heap[gb101]? = some (.cells #[.int .i64 a0_0, .int .i64 a0_1, .slice (some ad103) l0_2.length c0_2] 54 (0, 0))) := ⟨(by rw [hw]; exact (by (repeat first | with_reducible apply zN | with_reducible apply zD | with_reducible apply zA | refine blk_far ?_ NB101_110.out _); exact BK101.out))⟩; have n2_ : Aside0 (w34.heap[gb102]? = some (.cells #[.int .i64 0, .int .i64 0, .slice none 0 0] 49 (0, 0))) := ⟨(by rw [hw]; exact (by (repeat first | with_reducible apply zN | with_reducible apply zD | with_reducible apply zA | refine blk_far ?_ NB102_110.out _); exact BK102.out))⟩; have n3_ : Aside0 (w34.heap[gb110]? = some (.cells #[.int .i64 t104, .int .i64 t105, .slice Ao33 t106.length co33] 49 (0, 0))) := ⟨(by rw [hw]; exact (p3 BK110))⟩; have n4_ : Aside0 (Below w.heap.size w w34) := ⟨(by rw [hw]; exact (pH HB))⟩; clear hw; clear HO108; clear BK101; clear BK102; clear BK110; clear HB; have HO108 := n0_; have BK101 := n1_; have BK102 := n2_; have BK110 := n3_; have HB := n4_; clear n0_ n1_ n2_ n3_ n4_; obtain ⟨hcz35_0, hcz35_1, hcz35_2, hfz35_0, hfz35_1, hfz35_2⟩ := cA3 BK110) | ((with_reducible refine gate_callee (f := 28) rfl ?_); refine goesL_ (some 61) rfl rfl Try.func28 (by kernel_rfl) rfl #[.agg #[.int .i64 t104, .int .i64 t105, .slice Ao33 t106.length co33], .int .i64 (wrap64 (100 + a1))] rfl tA ?_; (with_reducible refine (spec_ldAbstract.calls k t104 t105 (fun k_ => ((w.heap.size ≤ k_) ∧ (k_ ≠ gb101 ∧ (k_ ≠ gb102 ∧ k_ ≠ gb110)))) _ _ t106 (wrap64 (100 + a1)) t111 t112 t113 _ ?side1 A22.out).mono ?_); (case side1 => exact HO108.out); rintro e w36 ⟨v114, rfl, ho0, hb⟩; refine ⟨_, rfl, ?_⟩; have n0_ := aK (Kd.V_below HO108.out hb); have HO115 := aK (Kd.V_lower (Kd.V_mono (ok' := fun k_ => (w.heap.size ≤ k_) ∧ k_ ≠ gb101 ∧ k_ ≠ gb102 ∧ k_ ≠ gb110) ho0 (fun k_ hk_ => ⟨Or.elim hk_ (fun hs_ => hs_.1) (fun hn_ => (Nat.le_trans (below_size HB.out) hn_)), Or.elim hk_ (fun hs_ => hs_.2.1) (fun hn_ => (Kd.freshB BK101.out k_ hn_)), Or.elim hk_ (fun hs_ => hs_.2.2.1) (fun hn_ => (Kd.freshB BK102.out k_ hn_)), Or.elim hk_ (fun hs_ => hs_.2.2.2) (fun hn_ => (Kd.freshB BK110.out k_ hn_))⟩)) (below_size HB.out)); replace BK101 := qb BK101 hb; replace BK102 := qb BK102 hb; replace BK110 := qb BK110 hb; clear HO108; have HO108 := n0_; clear n0_; replace HB := qs HB hb; (try clear hb); (try clear ho0)) | ((with_reducible refine gate_dst (N := 8) rfl ?_); refine bE (N := 8) (cs := #[.int .i64 0, .int .i64 0, .slice none 0 0]) (t := 49) ?_; intro gb116 hg w37 hbox hb; have GW116 := qw HB hg; have GE116 := qw HB hg; have NB101_116 := ql BK101 hg; have NB116_101 := qg BK101 hg; have NB102_116 := ql BK102 hg; have NB116_102 := qg BK102 hg; have NB110_116 := ql BK110 hg; have NB116_110 := qg BK110 hg; replace HO108 := qv HO108 hg hb; replace HO115 := qv HO115 hg hb; replace BK101 := qb BK101 hb; replace BK102 := qb BK102 hb; replace BK110 := qb BK110 hb; have BK116 := aK hbox; replace HB := qs HB hb; clear hb hbox hg; have hnb38 := NB116_101.out; have hnc38 := NB101_116.out; have hnb39 := NB116_102.out; have hnc39 := NB102_116.out; have hnb40 := NB116_110.out; have hnc40 := NB110_116.out; obtain ⟨hcz41_0, hcz41_1, hcz41_2, hfz41_0, hfz41_1, hfz41_2⟩ := cA3 BK116; obtain ⟨Ao42, co42, eo42⟩ := Kd.V_slice HO115.out; subst eo42) | ((with_reducible refine gate_callee (f := 16) rfl ?_); refine goesL_ (some 64) rfl rfl Try.func16 (by kernel_rfl) rfl #[.agg #[.int .i64 t111, .int .i64 t112, .slice Ao42 t113.length co42]] rfl tA ?_; (with_reducible refine (spec_ldTold.calls k t111 t112 _ _ t113 t117 t120 _ ?side1 ?side2 A23.out).mono ?_); (case side1 => refine (Kd.V_reads' (e := 49) (base := w.heap.size) (ok := fun k_ => (((w.heap.size ≤ k_) ∧ (k_ ≠ gb101 ∧ (k_ ≠ gb102 ∧ k_ ≠ gb110))) ∧ k_ ≠ gb116)) (n := t113.length) (c := co42) ?_).2.2; exact (by (with_reducible repeat (first | apply Kd.V_alloc | apply Kd.V_drewN | apply Kd.V_drew)); exact (Kd.V_mono (vF3 gb116 (Kd.V_mono HO115.out (fun k_ hk => (⟨hk, hk.2⟩ : _ ∧ k_ ≠ gb116))) (fun _ hk => hk.2)) (fun _ h_ => h_.1)))); (case side2 => exact (Kd.V_reads' HO115.out).2.1); rintro e w43 ⟨v118, rfl, ho0, hb⟩; refine ⟨_, rfl, ?_⟩; have n0_ := aK (Kd.V_elder' (by (with_reducible repeat (first | apply Kd.V_alloc | apply Kd.V_drewN | apply Kd.V_drew)); exact (Kd.V_mono (vF3 gb116 (Kd.V_mono HO108.out (fun k_ hk => (⟨hk, hk.2⟩ : _ ∧ k_ ≠ gb116))) (fun _ hk => hk.2)) (fun _ h_ => h_.1))) (Kd.R_base ho0) hb); have n1_ := aK (Kd.V_elder' (by (with_reducible repeat (first | apply Kd.V_alloc | apply Kd.V_drewN | apply Kd.V_drew)); exact (Kd.V_mono (vF3 gb116 (Kd.V_mono HO115.out (fun k_ hk => (⟨hk, hk.2⟩ : _ ∧ k_ ≠ gb116))) (fun _ hk => hk.2)) (fun _ h_ => h_.1))) (Kd.R_base ho0) hb); have n2_ := aK (Kd.R_lower (Kd.R_newM (M := fun k_ => (w.heap.size ≤ k_)) ho0 (below_size (pH HB)) (fun k_ h_ => h_)) (below_size (pH HB))); have n3_ := aK (blk_below (g := gb101) (o := .cells #[.int .i64 a0_0, .int .i64 a0_1, .slice (some ad103) l0_2.length c0_2] 54 (0, 0)) (by (repeat first | with_reducible apply zN | with_reducible apply zD | with_reducible apply zA | refine blk_far ?_ NB101_116.out _); exact BK101.out) hb); have n4_ := aK (blk_below (g := gb102) (o := .cells #[.int .i64 0, .int .i64 0, .slice none 0 0] 49 (0, 0)) (by (repeat first | with_reducible apply zN | with_reducible apply zD | with_reducible apply zA | refine blk_far ?_ NB102_116.out _); exact BK102.out) hb); have n5_ := aK (blk_below (g := gb110) (o := .cells #[.int .i64 t104, .int .i64 t105, .slice Ao33 t106.length co33] 49 (0, 0)) (by (repeat first | with_reducible apply zN | with_reducible apply zD | with_reducible apply zA | refine blk_far ?_ NB110_116.out _); exact BK110.out) hb); have n6_ := aK (blk_below (g := gb116) (o := .cells #[.int .i64 t111, .int .i64 t112, .slice Ao42 t113.length co42] 49 (0, 0)) (p3 BK116) hb); have n7_ := aK (below_step (pH HB) hb); clear HO108; clear HO115; clear BK101; clear BK102; clear BK110; clear BK116; clear HB; have HO108 := n0_; have HO115 := n1_; have HO119 := n2_; have BK101 := n3_; have BK102 := n4_; have BK110 := n5_; have BK116 := n6_; have HB := n7_; clear n0_ n1_ n2_ n3_ n4_ n5_ n6_ n7_; (try clear hb); (try clear ho0); obtain ⟨hcz44_0, hcz44_1, hcz44_2, hfz44_0, hfz44_1, hfz44_2⟩ := cA3 BK116; obtain ⟨hcz45_0, hcz45_1, hcz45_2, hfz45_0, hfz45_1, hfz45_2⟩ := cA3 BK102))
     refine bodyPost_ret (results_ct rfl _ _ gb102 49 #[.int .i64 t111, .int .i64 t112, .slice Ao42 t113.length co42] (0, 0) _ rfl (p3 BK102) Try.underlying49 rfl (by kernel_rfl)) rfl ?_
     exact ⟨_, eW, by (with_reducible repeat (first | apply Kd.V_alloc | apply Kd.V_drewN | apply Kd.V_drew)); exact Kd.V_mono (vF3 gb102 (Kd.V_mono HO115.out (fun k_ hk => (⟨hk, hk.1.1.2.2.1⟩ : _ ∧ k_ ≠ gb102))) (fun _ hk => hk.2)) (fun _ hk => hk.1.1.1.1), pH HB⟩
    ·replace c21 := Bool.eq_false_iff.mpr c21
     subst c21
     rw [if_neg (show ¬ (false = true) by decide)] at H
     simp only [Option.some.injEq, Prod.mk.injEq] at H
     obtain ⟨rfl, rfl, rfl, rfl⟩ := H
     go_enter Try.func14, Try.ntmps14
     go_wp2_with (first | ((with_reducible refine gate_dst (N := 2) rfl ?_); refine bE (N := 2) (cs := #[.int .i64 a0_0, .int .i64 a0_1, .slice A0_2 l0_2.length c0_2]) (t := 54) ?_; intro gb101 hg w46 hbox hb; have GW101 := qw HB hg; have GE101 := qw HB hg; have BK101 := aK hbox; replace HB := qs HB hb; clear hb hbox hg) | ((with_reducible refine gate_dst (N := 4) rfl ?_); refine bE (N := 4) (cs := #[.int .i64 0, .int .i64 0, .slice none 0 0]) (t := 49) ?_; intro gb102 hg w47 hbox hb; have GW102 := qw HB hg; have GE102 := qw HB hg; have NB101_102 := ql BK101 hg; have NB102_101 := qg BK101 hg; replace BK101 := qb BK101 hb; have BK102 := aK hbox; replace HB := qs HB hb; clear hb hbox hg; have hnb48 := NB101_102.out; have hnc48 := NB102_101.out; obtain ⟨hcz49_0, hcz49_1, hcz49_2, hfz49_0, hfz49_1, hfz49_2⟩ := cA3 BK101; have p103 : 0 ≤ (0 : Int) := (by omega); have q103 : 0 < (l0_2.length : Int) := dA; obtain ⟨ad103, A103_2, c103_2, e103, hx103_0, hx103_1, hx103_2, hl103_2, hi103_2⟩ := at_T54 HR0_2.out 0 p103 q103; cases e103; have qi103 : (0 < l0_2.length) = True := eq_true (by omega); (try rw [show ((0 : Int)).toNat = 0 from rfl] at hx103_0); (try rw [show 0 * 3 = 0 from rfl] at hx103_0); (try rw [Addr.add_zero'] at hx103_0); (try rw [show ((0 : Int)).toNat = 0 from rfl] at hx103_1); (try rw [show 0 * 3 = 0 from rfl] at hx103_1); (try rw [Addr.add_zero'] at hx103_1); (try rw [show ((0 : Int)).toNat = 0 from rfl] at hx103_2); (try rw [show 0 * 3 = 0 from rfl] at hx103_2); (try rw [Addr.add_zero'] at hx103_2); replace hx103_0 := uC HB hx103_0; replace hx103_1 := uC HB hx103_1; replace hx103_2 := uC HB hx103_2; have HR103_2 := aK hi103_2; have HC103_2 := aK hl103_2; clear hi103_2 hl103_2; replace p103 := eq_true p103; replace q103 := eq_true q103) | ((with_reducible refine gate_callee (f := 14) rfl ?_); refine goesL_ (some 52) rfl rfl Try.func14 (by kernel_rfl) rfl #[.agg #[.int .i64 ((rd_T54 l0_2 0).f0), .int .i64 ((rd_T54 l0_2 0).f1), .slice A103_2 ((rd_T54 l0_2 0).f2).length c103_2], .int .i64 (wrap64 (a1 + 1))] rfl tA ?_; (with_reducible refine (ih k (by omega) ((rd_T54 l0_2 0).f0) ((rd_T54 l0_2 0).f1) _ _ ((rd_T54 l0_2 0).f2) (wrap64 (a1 + 1)) t104 t105 t106 false _ ?side1 ?side2 A20.out).mono ?_); (case side1 => exact sC (Kd.C_below HR103_2.out HB.out)); (case side2 => exact HC103_2.out); rintro e w50 ⟨v107, rfl, ho0, hb⟩; refine ⟨_, rfl, ?_⟩; have HO108 := aK (Kd.V_lower (Kd.V_mono (ok' := fun k_ => (w.heap.size ≤ k_) ∧ k_ ≠ gb101 ∧ k_ ≠ gb102) ho0 (fun k_ hk_ => ⟨(Nat.le_trans (below_size HB.out) hk_), (Kd.freshB BK101.out k_ hk_), (Kd.freshB BK102.out k_ hk_)⟩)) (below_size HB.out)); replace BK101 := qb BK101 hb; replace BK102 := qb BK102 hb; replace HB := qs HB hb; (try clear hb); (try clear ho0)) | ((with_reducible refine gate_dst (N := 6) rfl ?_); refine bE (N := 6) (cs := #[.int .i64 0, .int .i64 0, .slice none 0 0]) (t := 49) ?_; intro gb110 hg w51 hbox hb; have GW110 := qw HB hg; have GE110 := qw HB hg; have NB101_110 := ql BK101 hg; have NB110_101 := qg BK101 hg; have NB102_110 := ql BK102 hg; have NB110_102 := qg BK102 hg; replace HO108 := qv HO108 hg hb; replace BK101 := qb BK101 hb; replace BK102 := qb BK102 hb; have BK110 := aK hbox; replace HB := qs HB hb; clear hb hbox hg; have hnb52 := NB110_101.out; have hnc52 := NB101_110.out; have hnb53 := NB110_102.out; have hnc53 := NB102_110.out; obtain ⟨hcz54_0, hcz54_1, hcz54_2, hfz54_0, hfz54_1, hfz54_2⟩ := cA3 BK110; obtain ⟨Ao55, co55, eo55⟩ := Kd.V_slice HO108.out; subst eo55; obtain ⟨hcz56_0, hcz56_1, hcz56_2, hfz56_0, hfz56_1, hfz56_2⟩ := cA3 BK102))
     refine bodyPost_ret (results_ct rfl _ _ gb102 49 #[.int .i64 t104, .int .i64 t105, .slice Ao55 t106.length co55] (0, 0) _ rfl (by (with_reducible repeat first | apply zN | apply zD | apply zA); refine blk_put (cs := #[.int .i64 t104, .int .i64 t105, .slice none 0 0]) ?_ 2 _ rfl; (with_reducible repeat first | apply zN | apply zD | apply zA); refine blk_put (cs := #[.int .i64 t104, .int .i64 0, .slice none 0 0]) ?_ 1 _ rfl; (with_reducible repeat first | apply zN | apply zD | apply zA); refine blk_put (cs := #[.int .i64 0, .int .i64 0, .slice none 0 0]) ?_ 0 _ rfl; (repeat first | with_reducible apply zN | with_reducible apply zD | with_reducible apply zA | refine blk_far ?_ NB102_110.out _); exact BK102.out) Try.underlying49 rfl (by kernel_rfl)) rfl ?_
     exact ⟨_, eW, by (with_reducible repeat (first | apply Kd.V_alloc | apply Kd.V_drewN | apply Kd.V_drew)); exact Kd.V_mono (vF3 gb102 (vF3 gb110 (Kd.V_mono (Kd.V_mono HO108.out (fun k_ hk => (⟨hk, hk.2⟩ : _ ∧ k_ ≠ gb110))) (fun k_ hk => (⟨hk, hk.1.1.2.2⟩ : _ ∧ k_ ≠ gb102))) (fun _ hk => hk.1.2)) (fun _ hk => hk.2)) (fun _ hk => hk.1.1.1.1), pH HB⟩
   ·rw [if_neg c19] at H
    exact absurd H (by simp)
  ·rw [if_neg c18] at H
   have c18b0 : (a0_0 == 2) = false := beq_eq_false_iff_ne.mpr c18
   have c18b1 : (a0_0 != 2) = true := bne_iff_ne.mpr c18
   by_cases c57 : 0 < (l0_2.length : Int)
   ·rw [if_pos c57] at H
    have c57b0 : decide (0 < (l0_2.length : Int)) = true := decide_eq_true c57
    have c57b1 : decide (0 < l0_2.length) = true := decide_eq_true (by omega)
    clear c57
    replace H := Option.bind_eq_some_iff.mp H
    obtain ⟨⟨t122, t123, t124, t127⟩, A580, H⟩ := H
    try dsimp only at H
    have A58 := aK A580
    clear A580
    by_cases c59 : t127 = true
    ·subst c59
     rw [if_pos rfl] at H
     by_cases c60 : 1 < (l0_2.length : Int)
     ·rw [if_pos c60] at H
      have c60b0 : decide (1 < (l0_2.length : Int)) = true := decide_eq_true c60
      have c60b1 : decide (1 < l0_2.length) = true := decide_eq_true (by omega)
      clear c60
      replace H := Option.bind_eq_some_iff.mp H
      obtain ⟨⟨t130, t131, t132, t135⟩, A610, H⟩ := H
      try dsimp only at H
      have A61 := aK A610
      clear A610
      by_cases c62 : t135 = true
      ·subst c62
       rw [if_pos rfl] at H
       replace H := Option.bind_eq_some_iff.mp H
       obtain ⟨⟨t137, t138, t139⟩, A630, H⟩ := H
       try dsimp only at H
       have A63 := aK A630
       clear A630
       replace H := Option.bind_eq_some_iff.mp H
       obtain ⟨⟨t143, t146⟩, A640, H⟩ := H
       try dsimp only at H
       have A64 := aK A640
       clear A640
       simp only [Option.some.injEq, Prod.mk.injEq] at H
       obtain ⟨rfl, rfl, rfl, rfl⟩ := H
       go_enter Try.func14, Try.ntmps14
       go_wp2_with (first | ((with_reducible refine gate_dst (N := 2) rfl ?_); refine bE (N := 2) (cs := #[.int .i64 a0_0, .int .i64 a0_1, .slice A0_2 l0_2.length c0_2]) (t := 54) ?_; intro gb101 hg w65 hbox hb; have GW101 := qw HB hg; have GE101 := qw HB hg; have BK101 := aK hbox; replace HB := qs HB hb; clear hb hbox hg) | ((with_reducible refine gate_dst (N := 4) rfl ?_); refine bE (N := 4) (cs := #[.int .i64 0, .int .i64 0, .slice none 0 0]) (t := 49) ?_; intro gb102 hg w66 hbox hb; have GW102 := qw HB hg; have GE102 := qw HB hg; have NB101_102 := ql BK101 hg; have NB102_101 := qg BK101 hg; replace BK101 := qb BK101 hb; have BK102 := aK hbox; replace HB := qs HB hb; clear hb hbox hg; have hnb67 := NB101_102.out; have hnc67 := NB102_101.out; obtain ⟨hcz68_0, hcz68_1, hcz68_2, hfz68_0, hfz68_1, hfz68_2⟩ := cA3 BK101; have p121 : 0 ≤ (0 : Int) := (by omega); have q121 : 0 < (l0_2.length : Int) := dA; obtain ⟨ad121, A121_2, c121_2, e121, hx121_0, hx121_1, hx121_2, hl121_2, hi121_2⟩ := at_T54 HR0_2.out 0 p121 q121; cases e121; have qi121 : (0 < l0_2.length) = True := eq_true (by omega); (try rw [show ((0 : Int)).toNat = 0 from rfl] at hx121_0); (try rw [show 0 * 3 = 0 from rfl] at hx121_0); (try rw [Addr.add_zero'] at hx121_0); (try rw [show ((0 : Int)).toNat = 0 from rfl] at hx121_1); (try rw [show 0 * 3 = 0 from rfl] at hx121_1); (try rw [Addr.add_zero'] at hx121_1); (try rw [show ((0 : Int)).toNat = 0 from rfl] at hx121_2); (try rw [show 0 * 3 = 0 from rfl] at hx121_2); (try rw [Addr.add_zero'] at hx121_2); replace hx121_0 := uC HB hx121_0; replace hx121_1 := uC HB hx121_1; replace hx121_2 := uC HB hx121_2; have HR121_2 := aK hi121_2; have HC121_2 := aK hl121_2; clear hi121_2 hl121_2; replace p121 := eq_true p121; replace q121 := eq_true q121) | ((with_reducible refine gate_callee (f := 14) rfl ?_); refine goesL_ (some 75) rfl rfl Try.func14 (by kernel_rfl) rfl #[.agg #[.int .i64 ((rd_T54 l0_2 0).f0), .int .i64 ((rd_T54 l0_2 0).f1), .slice A121_2 ((rd_T54 l0_2 0).f2).length c121_2], .int .i64 a1] rfl tA ?_; (with_reducible refine (ih k (by omega) ((rd_T54 l0_2 0).f0) ((rd_T54 l0_2 0).f1) _ _ ((rd_T54 l0_2 0).f2) a1 t122 t123 t124 true _ ?side1 ?side2 A58.out).mono ?_); (case side1 => exact sC (Kd.C_below HR121_2.out HB.out)); (case side2 => exact HC121_2.out); rintro e w69 ⟨v125, rfl, ho0, hb⟩; refine ⟨_, rfl, ?_⟩; have HO126 := aK (Kd.V_lower (Kd.V_mono (ok' := fun k_ => (w.heap.size ≤ k_) ∧ k_ ≠ gb101 ∧ k_ ≠ gb102) ho0 (fun k_ hk_ => ⟨(Nat.le_trans (below_size HB.out) hk_), (Kd.freshB BK101.out k_ hk_), (Kd.freshB BK102.out k_ hk_)⟩)) (below_size HB.out)); replace BK101 := qb BK101 hb; replace BK102 := qb BK102 hb; replace HB := qs HB hb; (try clear hb); (try clear ho0)) | ((with_reducible refine gate_dst (N := 11) rfl ?_); refine bE (N := 11) (cs := #[.int .i64 0, .int .i64 0, .slice none 0 0]) (t := 49) ?_; intro gb128 hg w70 hbox hb; have GW128 := qw HB hg; have GE128 := qw HB hg; have NB101_128 := ql BK101 hg; have NB128_101 := qg BK101 hg; have NB102_128 := ql BK102 hg; have NB128_102 := qg BK102 hg; replace HO126 := qv HO126 hg hb; replace BK101 := qb BK101 hb; replace BK102 := qb BK102 hb; have BK128 := aK hbox; replace HB := qs HB hb; clear hb hbox hg; have hnb71 := NB128_101.out; have hnc71 := NB101_128.out; have hnb72 := NB128_102.out; have hnc72 := NB102_128.out; obtain ⟨hcz73_0, hcz73_1, hcz73_2, hfz73_0, hfz73_1, hfz73_2⟩ := cA3 BK128; obtain ⟨Ao74, co74, eo74⟩ := Kd.V_slice HO126.out; subst eo74; obtain ⟨hcz75_0, hcz75_1, hcz75_2, hfz75_0, hfz75_1, hfz75_2⟩ := cA3 BK101; have p129 : 0 ≤ (1 : Int) := (by omega); have q129 : 1 < (l0_2.length : Int) := dA; obtain ⟨ad129, A129_2, c129_2, e129, hx129_0, hx129_1, hx129_2, hl129_2, hi129_2⟩ := at_T54 HR0_2.out 1 p129 q129; obtain rfl : ad121 = ad129 := (by injection e129); (try simp only [show (1 : Int).toNat = 1 from rfl, Nat.reduceMul, Nat.reduceEqDiff, Go.Addr.add, ↓reduceIte] at hx129_0); (try simp only [show (1 : Int).toNat = 1 from rfl, Nat.reduceMul, Nat.reduceEqDiff, Go.Addr.add, ↓reduceIte] at hx129_1); (try simp only [show (1 : Int).toNat = 1 from rfl, Nat.reduceMul, Nat.reduceEqDiff, Go.Addr.add, ↓reduceIte] at hx129_2); have qi129 : (1 < l0_2.length) = True := eq_true (by omega); (try rw [show ((1 : Int)).toNat = 1 from rfl] at hx129_0); (try rw [show 1 * 3 = 3 from rfl] at hx129_0); (try rw [show ((1 : Int)).toNat = 1 from rfl] at hx129_1); (try rw [show 1 * 3 = 3 from rfl] at hx129_1); (try rw [show ((1 : Int)).toNat = 1 from rfl] at hx129_2); (try rw [show 1 * 3 = 3 from rfl] at hx129_2); have hn129_0 : ad121.block ≠ gb128 := nF hx129_0 GW128; have hn129_1 : ad121.block ≠ gb128 := nF hx129_0 GW128; have hn129_2 : ad121.block ≠ gb128 := nF hx129_0 GW128; replace hx129_0 := uC HB hx129_0; replace hx129_1 := uC HB hx129_1; replace hx129_2 := uC HB hx129_2; have HR129_2 := aK hi129_2; have HC129_2 := aK hl129_2; clear hi129_2 hl129_2; replace hx129_0 := (cell_far (p := ⟨gb128, 0, none⟩) (cB hn129_0) (.int .i64 t122)).trans hx129_0; replace hx129_1 := (cell_far (p := ⟨gb128, 0, none⟩) (cB hn129_0) (.int .i64 t122)).trans hx129_1; replace hx129_2 := (cell_far (p := ⟨gb128, 0, none⟩) (cB hn129_0) (.int .i64 t122)).trans hx129_2; replace hx129_0 := (cell_far (p := ⟨gb128, 1, none⟩) (cB hn129_1) (.int .i64 t123)).trans hx129_0; replace hx129_1 := (cell_far (p := ⟨gb128, 1, none⟩) (cB hn129_1) (.int .i64 t123)).trans hx129_1; replace hx129_2 := (cell_far (p := ⟨gb128, 1, none⟩) (cB hn129_1) (.int .i64 t123)).trans hx129_2; replace hx129_0 := (cell_far (p := ⟨gb128, 2, none⟩) (cB hn129_2) (.slice Ao74 t124.length co74)).trans hx129_0; replace hx129_1 := (cell_far (p := ⟨gb128, 2, none⟩) (cB hn129_2) (.slice Ao74 t124.length co74)).trans hx129_1; replace hx129_2 := (cell_far (p := ⟨gb128, 2, none⟩) (cB hn129_2) (.slice Ao74 t124.length co74)).trans hx129_2; clear hn129_0; clear hn129_1; clear hn129_2; replace p129 := eq_true p129; replace q129 := eq_true q129) | ((with_reducible refine gate_callee (f := 14) rfl ?_); refine goesL_ (some 87) rfl rfl Try.func14 (by kernel_rfl) rfl #[.agg #[.int .i64 ((rd_T54 l0_2 1).f0), .int .i64 ((rd_T54 l0_2 1).f1), .slice A129_2 ((rd_T54 l0_2 1).f2).length c129_2], .int .i64 a1] rfl tA ?_; (with_reducible refine (ih k (by omega) ((rd_T54 l0_2 1).f0) ((rd_T54 l0_2 1).f1) _ _ ((rd_T54 l0_2 1).f2) a1 t130 t131 t132 true _ ?side1 ?side2 A61.out).mono ?_); (case side1 => exact Kd.C_below HR129_2.out (pH HB)); (case side2 => exact HC129_2.out); rintro e w76 ⟨v133, rfl, ho0, hb⟩; refine ⟨_, rfl, ?_⟩; have n0_ := aK (Kd.V_below (by (with_reducible repeat (first | apply Kd.V_alloc | apply Kd.V_drewN | apply Kd.V_drew)); exact (Kd.V_mono (vF3 gb128 (Kd.V_mono HO126.out (fun k_ hk => (⟨hk, hk.2⟩ : _ ∧ k_ ≠ gb128))) (fun _ hk => hk.2)) (fun _ h_ => h_.1))) hb); have n1_ := aK (Kd.V_lower (Kd.V_mono (ok' := fun k_ => (w.heap.size ≤ k_) ∧ k_ ≠ gb101 ∧ k_ ≠ gb102 ∧ k_ ≠ gb128) ho0 (fun k_ hk_ => ⟨(Nat.le_trans (below_size (pH HB)) hk_), (Kd.freshB (g := gb101) (o := .cells #[.int .i64 a0_0, .int .i64 a0_1, .slice (some ad121) l0_2.length c0_2] 54 (0, 0)) (by (repeat first | with_reducible apply zN | with_reducible apply zD | with_reducible apply zA | refine blk_far ?_ NB101_128.out _); exact BK101.out) k_ hk_), (Kd.freshB (g := gb102) (o := .cells #[.int .i64 0, .int .i64 0, .slice none 0 0] 49 (0, 0)) (by (repeat first | with_reducible apply zN | with_reducible apply zD | with_reducible apply zA | refine blk_far ?_ NB102_128.out _); exact BK102.out) k_ hk_), (Kd.freshB (g := gb128) (o := .cells #[.int .i64 t122, .int .i64 t123, .slice Ao74 t124.length co74] 49 (0, 0)) (p3 BK128) k_ hk_)⟩)) (below_size (pH HB))); have n2_ := aK (blk_below (g := gb101) (o := .cells #[.int .i64 a0_0, .int .i64 a0_1, .slice (some ad121) l0_2.length c0_2] 54 (0, 0)) (by (repeat first | with_reducible apply zN | with_reducible apply zD | with_reducible apply zA | refine blk_far ?_ NB101_128.out _); exact BK101.out) hb); have n3_ := aK (blk_below (g := gb102) (o := .cells #[.int .i64 0, .int .i64 0, .slice none 0 0] 49 (0, 0)) (by (repeat first | with_reducible apply zN | with_reducible apply zD | with_reducible apply zA | refine blk_far ?_ NB102_128.out _); exact BK102.out) hb); have n4_ := aK (blk_below (g := gb128) (o := .cells #[.int .i64 t122, .int .i64 t123, .slice Ao74 t124.length co74] 49 (0, 0)) (p3 BK128) hb); have n5_ := aK (below_step (pH HB) hb); clear HO126; clear BK101; clear BK102; clear BK128; clear HB; have HO126 := n0_; have HO134 := n1_; have BK101 := n2_; have BK102 := n3_; have BK128 := n4_; have HB := n5_; clear n0_ n1_ n2_ n3_ n4_ n5_; (try clear hb); (try clear ho0)) | ((with_reducible refine gate_dst (N := 13) rfl ?_); refine bE (N := 13) (cs := #[.int .i64 0, .int .i64 0, .slice none 0 0]) (t := 49) ?_; intro gb136 hg w77 hbox hb; have GW136 := qw HB hg; have GE136 := qw HB hg; have NB101_136 := ql BK101 hg; have NB136_101 := qg BK101 hg; have NB102_136 := ql BK102 hg; have NB136_102 := qg BK102 hg; have NB128_136 := ql BK128 hg; have NB136_128 := qg BK128 hg; replace HO126 := qv HO126 hg hb; replace HO134 := qv HO134 hg hb; replace BK101 := qb BK101 hb; replace BK102 := qb BK102 hb; replace BK128 := qb BK128 hb; have BK136 := aK hbox; replace HB := qs HB hb; clear hb hbox hg; have hnb78 := NB136_101.out; have hnc78 := NB101_136.out; have hnb79 := NB136_102.out; have hnc79 := NB102_136.out; have hnb80 := NB136_128.out; have hnc80 := NB128_136.out; obtain ⟨hcz81_0, hcz81_1, hcz81_2, hfz81_0, hfz81_1, hfz81_2⟩ := cA3 BK136; obtain ⟨Ao82, co82, eo82⟩ := Kd.V_slice HO134.out; subst eo82) | ((with_reducible refine gate_store (t := 49) (p := 13) rfl ?_); refine store_event (t := 49) (p := 13) (v := ?vo_w83) (w1 := (((w77.setCell ⟨gb136, 0, none⟩ (.int .i64 t130)).setCell ⟨gb136, 1, none⟩ (.int .i64 t131)).setCell ⟨gb136, 2, none⟩ (.slice Ao82 t132.length co82))) ?hg ?ho ?hn ?hr ?_; (case ho => rfl); (case hg => rfl); (case hn => rfl); (case hr => first | (go_simp; done) | (go_simp; rfl)); intro w83 hw; have n0_ : Aside0 (Kd.V k49 49 w83 w.heap.size (fun k_ => (w.heap.size ≤ k_) ∧ k_ ≠ gb101 ∧ k_ ≠ gb102 ∧ k_ ≠ gb128 ∧ k_ ≠ gb136) (.slice Ao74 t124.length co74) t124) := ⟨(by rw [hw]; exact (by (with_reducible repeat (first | apply Kd.V_alloc | apply Kd.V_drewN | apply Kd.V_drew)); exact Kd.V_mono (vF3 gb136 (Kd.V_mono HO126.out (fun k_ hk => (⟨hk, hk.2⟩ : _ ∧ k_ ≠ gb136))) (fun _ hk => hk.2)) (fun _ hk => ⟨hk.1.1.1.1, ⟨hk.1.1.1.2.1, ⟨hk.1.1.1.2.2, ⟨hk.1.1.2, hk.1.2⟩⟩⟩⟩)))⟩; have n1_ : Aside0 (Kd.V k49 49 w83 w.heap.size (fun k_ => (w.heap.size ≤ k_) ∧ k_ ≠ gb101 ∧ k_ ≠ gb102 ∧ k_ ≠ gb128 ∧ k_ ≠ gb136) (.slice Ao82 t132.length co82) t132) := ⟨(by rw [hw]; exact (by (with_reducible repeat (first | apply Kd.V_alloc | apply Kd.V_drewN | apply Kd.V_drew)); exact Kd.V_mono (vF3 gb136 (Kd.V_mono HO134.out (fun k_ hk => (⟨hk, hk.2⟩ : _ ∧ k_ ≠ gb136))) (fun _ hk => hk.2)) (fun _ hk => ⟨hk.1.1.1, ⟨hk.1.1.2.1, ⟨hk.1.1.2.2.1, ⟨hk.1.1.2.2.2, hk.1.2⟩⟩⟩⟩)))⟩; have n2_ : Aside0 (w83.heap[gb101]? = some (.cells #[.int .i64 a0_0, .int .i64 a0_1, .slice (some ad121) l0_2.length c0_2] 54 (0, 0))) := ⟨(by rw [hw]; exact (by (repeat first | with_reducible apply zN | with_reducible apply zD | with_reducible apply zA | refine blk_far ?_ NB101_136.out _); exact BK101.out))⟩; have n3_ : Aside0 (w83.heap[gb102]? = some (.cells #[.int .i64 0, .int .i64 0, .slice none 0 0] 49 (0, 0))) := ⟨(by rw [hw]; exact (by (repeat first | with_reducible apply zN | with_reducible apply zD | with_reducible apply zA | refine blk_far ?_ NB102_136.out _); exact BK102.out))⟩; have n4_ : Aside0 (w83.heap[gb128]? = some (.cells #[.int .i64 t122, .int .i64 t123, .slice Ao74 t124.length co74] 49 (0, 0))) := ⟨(by rw [hw]; exact (by (repeat first | with_reducible apply zN | with_reducible apply zD | with_reducible apply zA | refine blk_far ?_ NB128_136.out _); exact BK128.out))⟩; have n5_ : Aside0 (w83.heap[gb136]? = some (.cells #[.int .i64 t130, .int .i64 t131, .slice Ao82 t132.length co82] 49 (0, 0))) := ⟨(by rw [hw]; exact (p3 BK136))⟩; have n6_ : Aside0 (Below w.heap.size w w83) := ⟨(by rw [hw]; exact (pH HB))⟩; clear hw; clear HO126; clear HO134; clear BK101; clear BK102; clear BK128; clear BK136; clear HB; have HO126 := n0_; have HO134 := n1_; have BK101 := n2_; have BK102 := n3_; have BK128 := n4_; have BK136 := n5_; have HB := n6_; clear n0_ n1_ n2_ n3_ n4_ n5_ n6_; obtain ⟨hcz84_0, hcz84_1, hcz84_2, hfz84_0, hfz84_1, hfz84_2⟩ := cA3 BK128; obtain ⟨hcz85_0, hcz85_1, hcz85_2, hfz85_0, hfz85_1, hfz85_2⟩ := cA3 BK136) | ((with_reducible refine gate_callee (f := 29) rfl ?_); refine goesL_ (some 95) rfl rfl Try.func29 (by kernel_rfl) rfl #[.agg #[.int .i64 t122, .int .i64 t123, .slice Ao74 t124.length co74], .agg #[.int .i64 t130, .int .i64 t131, .slice Ao82 t132.length co82]] rfl tA ?_; (with_reducible refine (spec_ldApp.calls t122 t123 (fun k_ => ((w.heap.size ≤ k_) ∧ (k_ ≠ gb101 ∧ (k_ ≠ gb102 ∧ (k_ ≠ gb128 ∧ k_ ≠ gb136))))) _ _ t124 t130 t131 (fun k_ => ((w.heap.size ≤ k_) ∧ (k_ ≠ gb101 ∧ (k_ ≠ gb102 ∧ (k_ ≠ gb128 ∧ k_ ≠ gb136))))) _ _ t132 t137 t138 t139 _ ?side1 ?side2 A63.out).mono ?_); (case side1 => exact HO126.out); (case side2 => exact HO134.out); rintro e w86 ⟨v140, rfl, ho0, hb⟩; refine ⟨_, rfl, ?_⟩; have HO141 := aK (Kd.N_lower (Kd.N_mono (ok' := fun k_ => (w.heap.size ≤ k_) ∧ k_ ≠ gb101 ∧ k_ ≠ gb102 ∧ k_ ≠ gb128 ∧ k_ ≠ gb136) ho0 (fun k_ hk_ => ⟨Or.elim hk_ (fun hs_ => Or.elim hs_ (fun hs_ => hs_.1) (fun hs_ => hs_.1)) (fun hn_ => (Nat.le_trans (below_size HB.out) hn_)), Or.elim hk_ (fun hs_ => Or.elim hs_ (fun hs_ => hs_.2.1) (fun hs_ => hs_.2.1)) (fun hn_ => (Kd.freshB BK101.out k_ hn_)), Or.elim hk_ (fun hs_ => Or.elim hs_ (fun hs_ => hs_.2.2.1) (fun hs_ => hs_.2.2.1)) (fun hn_ => (Kd.freshB BK102.out k_ hn_)), Or.elim hk_ (fun hs_ => Or.elim hs_ (fun hs_ => hs_.2.2.2.1) (fun hs_ => hs_.2.2.2.1)) (fun hn_ => (Kd.freshB BK128.out k_ hn_)), Or.elim hk_ (fun hs_ => Or.elim hs_ (fun hs_ => hs_.2.2.2.2) (fun hs_ => hs_.2.2.2.2)) (fun hn_ => (Kd.freshB BK136.out k_ hn_))⟩)) (below_size HB.out)); replace HO126 := qe HO126 (by first | exact Kd.N_base ho0 | exact Kd.R_base ho0) hb; replace HO134 := qe HO134 (by first | exact Kd.N_base ho0 | exact Kd.R_base ho0) hb; replace BK101 := qb BK101 hb; replace BK102 := qb BK102 hb; replace BK128 := qb BK128 hb; replace BK136 := qb BK136 hb; replace HB := qs HB hb; (try clear hb); (try clear ho0)) | ((with_reducible refine gate_dst (N := 15) rfl ?_); refine bE (N := 15) (cs := #[.int .i64 0, .int .i64 0, .slice none 0 0]) (t := 49) ?_; intro gb142 hg w87 hbox hb; have GW142 := qw HB hg; have GE142 := qw HB hg; have NB101_142 := ql BK101 hg; have NB142_101 := qg BK101 hg; have NB102_142 := ql BK102 hg; have NB142_102 := qg BK102 hg; have NB128_142 := ql BK128 hg; have NB142_128 := qg BK128 hg; have NB136_142 := ql BK136 hg; have NB142_136 := qg BK136 hg; replace HO126 := qv HO126 hg hb; replace HO134 := qv HO134 hg hb; replace HO141 := qn HO141 hg hb; replace BK101 := qb BK101 hb; replace BK102 := qb BK102 hb; replace BK128 := qb BK128 hb; replace BK136 := qb BK136 hb; have BK142 := aK hbox; replace HB := qs HB hb; clear hb hbox hg; have hnb88 := NB142_101.out; have hnc88 := NB101_142.out; have hnb89 := NB142_102.out; have hnc89 := NB102_142.out; have hnb90 := NB142_128.out; have hnc90 := NB128_142.out; have hnb91 := NB142_136.out; have hnc91 := NB136_142.out; obtain ⟨hcz92_0, hcz92_1, hcz92_2, hfz92_0, hfz92_1, hfz92_2⟩ := cA3 BK142; obtain ⟨Ao93, co93, eo93⟩ := Kd.N_slice HO141.out; subst eo93) | ((with_reducible refine gate_callee (f := 16) rfl ?_); refine goesL_ (some 98) rfl rfl Try.func16 (by kernel_rfl) rfl #[.agg #[.int .i64 t137, .int .i64 t138, .slice Ao93 t139.length co93]] rfl tA ?_; (with_reducible refine (spec_ldTold.calls k t137 t138 _ _ t139 t143 t146 _ ?side1 ?side2 A64.out).mono ?_); (case side1 => refine (Kd.N_reads' (e := 49) (base := w.heap.size) (ok := fun k_ => (((w.heap.size ≤ k_) ∧ (k_ ≠ gb101 ∧ (k_ ≠ gb102 ∧ (k_ ≠ gb128 ∧ k_ ≠ gb136)))) ∧ k_ ≠ gb142)) (n := t139.length) (c := co93) ?_).2.2; exact (by (with_reducible repeat (first | apply Kd.N_alloc | apply Kd.N_drewN | apply Kd.N_drew)); exact (Kd.N_mono (nF3 gb142 (Kd.N_mono HO141.out (fun k_ hk => (⟨hk, hk.2⟩ : _ ∧ k_ ≠ gb142))) (fun _ hk => hk.2)) (fun _ h_ => h_.1)))); (case side2 => exact (Kd.N_reads' HO141.out).2.1); rintro e w94 ⟨v144, rfl, ho0, hb⟩; refine ⟨_, rfl, ?_⟩; have n0_ := aK (Kd.V_elder' (by (with_reducible repeat (first | apply Kd.V_alloc | apply Kd.V_drewN | apply Kd.V_drew)); exact (Kd.V_mono (vF3 gb142 (Kd.V_mono HO126.out (fun k_ hk => (⟨hk, hk.2⟩ : _ ∧ k_ ≠ gb142))) (fun _ hk => hk.2)) (fun _ h_ => h_.1))) (Kd.R_base ho0) hb); have n1_ := aK (Kd.V_elder' (by (with_reducible repeat (first | apply Kd.V_alloc | apply Kd.V_drewN | apply Kd.V_drew)); exact (Kd.V_mono (vF3 gb142 (Kd.V_mono HO134.out (fun k_ hk => (⟨hk, hk.2⟩ : _ ∧ k_ ≠ gb142))) (fun _ hk => hk.2)) (fun _ h_ => h_.1))) (Kd.R_base ho0) hb); have n2_ := aK (Kd.N_elder' (by (with_reducible repeat (first | apply Kd.N_alloc | apply Kd.N_drewN | apply Kd.N_drew)); exact (Kd.N_mono (nF3 gb142 (Kd.N_mono HO141.out (fun k_ hk => (⟨hk, hk.2⟩ : _ ∧ k_ ≠ gb142))) (fun _ hk => hk.2)) (fun _ h_ => h_.1))) (Kd.R_base ho0) hb); have n3_ := aK (Kd.R_lower (Kd.R_newM (M := fun k_ => (w.heap.size ≤ k_)) ho0 (below_size (pH HB)) (fun k_ h_ => h_)) (below_size (pH HB))); have n4_ := aK (blk_below (g := gb101) (o := .cells #[.int .i64 a0_0, .int .i64 a0_1, .slice (some ad121) l0_2.length c0_2] 54 (0, 0)) (by (repeat first | with_reducible apply zN | with_reducible apply zD | with_reducible apply zA | refine blk_far ?_ NB101_142.out _); exact BK101.out) hb); have n5_ := aK (blk_below (g := gb102) (o := .cells #[.int .i64 0, .int .i64 0, .slice none 0 0] 49 (0, 0)) (by (repeat first | with_reducible apply zN | with_reducible apply zD | with_reducible apply zA | refine blk_far ?_ NB102_142.out _); exact BK102.out) hb); have n6_ := aK (blk_below (g := gb128) (o := .cells #[.int .i64 t122, .int .i64 t123, .slice Ao74 t124.length co74] 49 (0, 0)) (by (repeat first | with_reducible apply zN | with_reducible apply zD | with_reducible apply zA | refine blk_far ?_ NB128_142.out _); exact BK128.out) hb); have n7_ := aK (blk_below (g := gb136) (o := .cells #[.int .i64 t130, .int .i64 t131, .slice Ao82 t132.length co82] 49 (0, 0)) (by (repeat first | with_reducible apply zN | with_reducible apply zD | with_reducible apply zA | refine blk_far ?_ NB136_142.out _); exact BK136.out) hb); have n8_ := aK (blk_below (g := gb142) (o := .cells #[.int .i64 t137, .int .i64 t138, .slice Ao93 t139.length co93] 49 (0, 0)) (p3 BK142) hb); have n9_ := aK (below_step (pH HB) hb); clear HO126; clear HO134; clear HO141; clear BK101; clear BK102; clear BK128; clear BK136; clear BK142; clear HB; have HO126 := n0_; have HO134 := n1_; have HO141 := n2_; have HO145 := n3_; have BK101 := n4_; have BK102 := n5_; have BK128 := n6_; have BK136 := n7_; have BK142 := n8_; have HB := n9_; clear n0_ n1_ n2_ n3_ n4_ n5_ n6_ n7_ n8_ n9_; (try clear hb); (try clear ho0); obtain ⟨hcz95_0, hcz95_1, hcz95_2, hfz95_0, hfz95_1, hfz95_2⟩ := cA3 BK142; obtain ⟨hcz96_0, hcz96_1, hcz96_2, hfz96_0, hfz96_1, hfz96_2⟩ := cA3 BK102))
       refine bodyPost_ret (results_ct rfl _ _ gb102 49 #[.int .i64 t137, .int .i64 t138, .slice Ao93 t139.length co93] (0, 0) _ rfl (p3 BK102) Try.underlying49 rfl (by kernel_rfl)) rfl ?_
       exact ⟨_, eW, Kd.N_V (by (with_reducible repeat (first | apply Kd.N_alloc | apply Kd.N_drewN | apply Kd.N_drew)); exact Kd.N_mono (nF3 gb102 (Kd.N_mono HO141.out (fun k_ hk => (⟨hk, hk.1.1.2.2.1⟩ : _ ∧ k_ ≠ gb102))) (fun _ hk => hk.2)) (fun _ hk => hk.1.1.1.1)), pH HB⟩
      ·replace c62 := Bool.eq_false_iff.mpr c62
       subst c62
       rw [if_neg (show ¬ (false = true) by decide)] at H
       simp only [Option.some.injEq, Prod.mk.injEq] at H
       obtain ⟨rfl, rfl, rfl, rfl⟩ := H
       go_enter Try.func14, Try.ntmps14
       go_wp2_with (first | ((with_reducible refine gate_dst (N := 2) rfl ?_); refine bE (N := 2) (cs := #[.int .i64 a0_0, .int .i64 a0_1, .slice A0_2 l0_2.length c0_2]) (t := 54) ?_; intro gb101 hg w97 hbox hb; have GW101 := qw HB hg; have GE101 := qw HB hg; have BK101 := aK hbox; replace HB := qs HB hb; clear hb hbox hg) | ((with_reducible refine gate_dst (N := 4) rfl ?_); refine bE (N := 4) (cs := #[.int .i64 0, .int .i64 0, .slice none 0 0]) (t := 49) ?_; intro gb102 hg w98 hbox hb; have GW102 := qw HB hg; have GE102 := qw HB hg; have NB101_102 := ql BK101 hg; have NB102_101 := qg BK101 hg; replace BK101 := qb BK101 hb; have BK102 := aK hbox; replace HB := qs HB hb; clear hb hbox hg; have hnb99 := NB101_102.out; have hnc99 := NB102_101.out; obtain ⟨hcz100_0, hcz100_1, hcz100_2, hfz100_0, hfz100_1, hfz100_2⟩ := cA3 BK101; have p121 : 0 ≤ (0 : Int) := (by omega); have q121 : 0 < (l0_2.length : Int) := dA; obtain ⟨ad121, A121_2, c121_2, e121, hx121_0, hx121_1, hx121_2, hl121_2, hi121_2⟩ := at_T54 HR0_2.out 0 p121 q121; cases e121; have qi121 : (0 < l0_2.length) = True := eq_true (by omega); (try rw [show ((0 : Int)).toNat = 0 from rfl] at hx121_0); (try rw [show 0 * 3 = 0 from rfl] at hx121_0); (try rw [Addr.add_zero'] at hx121_0); (try rw [show ((0 : Int)).toNat = 0 from rfl] at hx121_1); (try rw [show 0 * 3 = 0 from rfl] at hx121_1); (try rw [Addr.add_zero'] at hx121_1); (try rw [show ((0 : Int)).toNat = 0 from rfl] at hx121_2); (try rw [show 0 * 3 = 0 from rfl] at hx121_2); (try rw [Addr.add_zero'] at hx121_2); replace hx121_0 := uC HB hx121_0; replace hx121_1 := uC HB hx121_1; replace hx121_2 := uC HB hx121_2; have HR121_2 := aK hi121_2; have HC121_2 := aK hl121_2; clear hi121_2 hl121_2; replace p121 := eq_true p121; replace q121 := eq_true q121) | ((with_reducible refine gate_callee (f := 14) rfl ?_); refine goesL_ (some 75) rfl rfl Try.func14 (by kernel_rfl) rfl #[.agg #[.int .i64 ((rd_T54 l0_2 0).f0), .int .i64 ((rd_T54 l0_2 0).f1), .slice A121_2 ((rd_T54 l0_2 0).f2).length c121_2], .int .i64 a1] rfl tA ?_; (with_reducible refine (ih k (by omega) ((rd_T54 l0_2 0).f0) ((rd_T54 l0_2 0).f1) _ _ ((rd_T54 l0_2 0).f2) a1 t122 t123 t124 true _ ?side1 ?side2 A58.out).mono ?_); (case side1 => exact sC (Kd.C_below HR121_2.out HB.out)); (case side2 => exact HC121_2.out); rintro e w101 ⟨v125, rfl, ho0, hb⟩; refine ⟨_, rfl, ?_⟩; have HO126 := aK (Kd.V_lower (Kd.V_mono (ok' := fun k_ => (w.heap.size ≤ k_) ∧ k_ ≠ gb101 ∧ k_ ≠ gb102) ho0 (fun k_ hk_ => ⟨(Nat.le_trans (below_size HB.out) hk_), (Kd.freshB BK101.out k_ hk_), (Kd.freshB BK102.out k_ hk_)⟩)) (below_size HB.out)); replace BK101 := qb BK101 hb; replace BK102 := qb BK102 hb; replace HB := qs HB hb; (try clear hb); (try clear ho0)) | ((with_reducible refine gate_dst (N := 11) rfl ?_); refine bE (N := 11) (cs := #[.int .i64 0, .int .i64 0, .slice none 0 0]) (t := 49) ?_; intro gb128 hg w102 hbox hb; have GW128 := qw HB hg; have GE128 := qw HB hg; have NB101_128 := ql BK101 hg; have NB128_101 := qg BK101 hg; have NB102_128 := ql BK102 hg; have NB128_102 := qg BK102 hg; replace HO126 := qv HO126 hg hb; replace BK101 := qb BK101 hb; replace BK102 := qb BK102 hb; have BK128 := aK hbox; replace HB := qs HB hb; clear hb hbox hg; have hnb103 := NB128_101.out; have hnc103 := NB101_128.out; have hnb104 := NB128_102.out; have hnc104 := NB102_128.out; obtain ⟨hcz105_0, hcz105_1, hcz105_2, hfz105_0, hfz105_1, hfz105_2⟩ := cA3 BK128; obtain ⟨Ao106, co106, eo106⟩ := Kd.V_slice HO126.out; subst eo106; obtain ⟨hcz107_0, hcz107_1, hcz107_2, hfz107_0, hfz107_1, hfz107_2⟩ := cA3 BK101; have p129 : 0 ≤ (1 : Int) := (by omega); have q129 : 1 < (l0_2.length : Int) := dA; obtain ⟨ad129, A129_2, c129_2, e129, hx129_0, hx129_1, hx129_2, hl129_2, hi129_2⟩ := at_T54 HR0_2.out 1 p129 q129; obtain rfl : ad121 = ad129 := (by injection e129); (try simp only [show (1 : Int).toNat = 1 from rfl, Nat.reduceMul, Nat.reduceEqDiff, Go.Addr.add, ↓reduceIte] at hx129_0); (try simp only [show (1 : Int).toNat = 1 from rfl, Nat.reduceMul, Nat.reduceEqDiff, Go.Addr.add, ↓reduceIte] at hx129_1); (try simp only [show (1 : Int).toNat = 1 from rfl, Nat.reduceMul, Nat.reduceEqDiff, Go.Addr.add, ↓reduceIte] at hx129_2); have qi129 : (1 < l0_2.length) = True := eq_true (by omega); (try rw [show ((1 : Int)).toNat = 1 from rfl] at hx129_0); (try rw [show 1 * 3 = 3 from rfl] at hx129_0); (try rw [show ((1 : Int)).toNat = 1 from rfl] at hx129_1); (try rw [show 1 * 3 = 3 from rfl] at hx129_1); (try rw [show ((1 : Int)).toNat = 1 from rfl] at hx129_2); (try rw [show 1 * 3 = 3 from rfl] at hx129_2); have hn129_0 : ad121.block ≠ gb128 := nF hx129_0 GW128; have hn129_1 : ad121.block ≠ gb128 := nF hx129_0 GW128; have hn129_2 : ad121.block ≠ gb128 := nF hx129_0 GW128; replace hx129_0 := uC HB hx129_0; replace hx129_1 := uC HB hx129_1; replace hx129_2 := uC HB hx129_2; have HR129_2 := aK hi129_2; have HC129_2 := aK hl129_2; clear hi129_2 hl129_2; replace hx129_0 := (cell_far (p := ⟨gb128, 0, none⟩) (cB hn129_0) (.int .i64 t122)).trans hx129_0; replace hx129_1 := (cell_far (p := ⟨gb128, 0, none⟩) (cB hn129_0) (.int .i64 t122)).trans hx129_1; replace hx129_2 := (cell_far (p := ⟨gb128, 0, none⟩) (cB hn129_0) (.int .i64 t122)).trans hx129_2; replace hx129_0 := (cell_far (p := ⟨gb128, 1, none⟩) (cB hn129_1) (.int .i64 t123)).trans hx129_0; replace hx129_1 := (cell_far (p := ⟨gb128, 1, none⟩) (cB hn129_1) (.int .i64 t123)).trans hx129_1; replace hx129_2 := (cell_far (p := ⟨gb128, 1, none⟩) (cB hn129_1) (.int .i64 t123)).trans hx129_2; replace hx129_0 := (cell_far (p := ⟨gb128, 2, none⟩) (cB hn129_2) (.slice Ao106 t124.length co106)).trans hx129_0; replace hx129_1 := (cell_far (p := ⟨gb128, 2, none⟩) (cB hn129_2) (.slice Ao106 t124.length co106)).trans hx129_1; replace hx129_2 := (cell_far (p := ⟨gb128, 2, none⟩) (cB hn129_2) (.slice Ao106 t124.length co106)).trans hx129_2; clear hn129_0; clear hn129_1; clear hn129_2; replace p129 := eq_true p129; replace q129 := eq_true q129) | ((with_reducible refine gate_callee (f := 14) rfl ?_); refine goesL_ (some 87) rfl rfl Try.func14 (by kernel_rfl) rfl #[.agg #[.int .i64 ((rd_T54 l0_2 1).f0), .int .i64 ((rd_T54 l0_2 1).f1), .slice A129_2 ((rd_T54 l0_2 1).f2).length c129_2], .int .i64 a1] rfl tA ?_; (with_reducible refine (ih k (by omega) ((rd_T54 l0_2 1).f0) ((rd_T54 l0_2 1).f1) _ _ ((rd_T54 l0_2 1).f2) a1 t130 t131 t132 false _ ?side1 ?side2 A61.out).mono ?_); (case side1 => exact Kd.C_below HR129_2.out (pH HB)); (case side2 => exact HC129_2.out); rintro e w108 ⟨v133, rfl, ho0, hb⟩; refine ⟨_, rfl, ?_⟩; have n0_ := aK (Kd.V_below (by (with_reducible repeat (first | apply Kd.V_alloc | apply Kd.V_drewN | apply Kd.V_drew)); exact (Kd.V_mono (vF3 gb128 (Kd.V_mono HO126.out (fun k_ hk => (⟨hk, hk.2⟩ : _ ∧ k_ ≠ gb128))) (fun _ hk => hk.2)) (fun _ h_ => h_.1))) hb); have n1_ := aK (Kd.V_lower (Kd.V_mono (ok' := fun k_ => (w.heap.size ≤ k_) ∧ k_ ≠ gb101 ∧ k_ ≠ gb102 ∧ k_ ≠ gb128) ho0 (fun k_ hk_ => ⟨(Nat.le_trans (below_size (pH HB)) hk_), (Kd.freshB (g := gb101) (o := .cells #[.int .i64 a0_0, .int .i64 a0_1, .slice (some ad121) l0_2.length c0_2] 54 (0, 0)) (by (repeat first | with_reducible apply zN | with_reducible apply zD | with_reducible apply zA | refine blk_far ?_ NB101_128.out _); exact BK101.out) k_ hk_), (Kd.freshB (g := gb102) (o := .cells #[.int .i64 0, .int .i64 0, .slice none 0 0] 49 (0, 0)) (by (repeat first | with_reducible apply zN | with_reducible apply zD | with_reducible apply zA | refine blk_far ?_ NB102_128.out _); exact BK102.out) k_ hk_), (Kd.freshB (g := gb128) (o := .cells #[.int .i64 t122, .int .i64 t123, .slice Ao106 t124.length co106] 49 (0, 0)) (p3 BK128) k_ hk_)⟩)) (below_size (pH HB))); have n2_ := aK (blk_below (g := gb101) (o := .cells #[.int .i64 a0_0, .int .i64 a0_1, .slice (some ad121) l0_2.length c0_2] 54 (0, 0)) (by (repeat first | with_reducible apply zN | with_reducible apply zD | with_reducible apply zA | refine blk_far ?_ NB101_128.out _); exact BK101.out) hb); have n3_ := aK (blk_below (g := gb102) (o := .cells #[.int .i64 0, .int .i64 0, .slice none 0 0] 49 (0, 0)) (by (repeat first | with_reducible apply zN | with_reducible apply zD | with_reducible apply zA | refine blk_far ?_ NB102_128.out _); exact BK102.out) hb); have n4_ := aK (blk_below (g := gb128) (o := .cells #[.int .i64 t122, .int .i64 t123, .slice Ao106 t124.length co106] 49 (0, 0)) (p3 BK128) hb); have n5_ := aK (below_step (pH HB) hb); clear HO126; clear BK101; clear BK102; clear BK128; clear HB; have HO126 := n0_; have HO134 := n1_; have BK101 := n2_; have BK102 := n3_; have BK128 := n4_; have HB := n5_; clear n0_ n1_ n2_ n3_ n4_ n5_; (try clear hb); (try clear ho0)) | ((with_reducible refine gate_dst (N := 13) rfl ?_); refine bE (N := 13) (cs := #[.int .i64 0, .int .i64 0, .slice none 0 0]) (t := 49) ?_; intro gb136 hg w109 hbox hb; have GW136 := qw HB hg; have GE136 := qw HB hg; have NB101_136 := ql BK101 hg; have NB136_101 := qg BK101 hg; have NB102_136 := ql BK102 hg; have NB136_102 := qg BK102 hg; have NB128_136 := ql BK128 hg; have NB136_128 := qg BK128 hg; replace HO126 := qv HO126 hg hb; replace HO134 := qv HO134 hg hb; replace BK101 := qb BK101 hb; replace BK102 := qb BK102 hb; replace BK128 := qb BK128 hb; have BK136 := aK hbox; replace HB := qs HB hb; clear hb hbox hg; have hnb110 := NB136_101.out; have hnc110 := NB101_136.out; have hnb111 := NB136_102.out; have hnc111 := NB102_136.out; have hnb112 := NB136_128.out; have hnc112 := NB128_136.out; obtain ⟨hcz113_0, hcz113_1, hcz113_2, hfz113_0, hfz113_1, hfz113_2⟩ := cA3 BK136; obtain ⟨Ao114, co114, eo114⟩ := Kd.V_slice HO134.out; subst eo114; obtain ⟨hcz115_0, hcz115_1, hcz115_2, hfz115_0, hfz115_1, hfz115_2⟩ := cA3 BK102))
       refine bodyPost_ret (results_ct rfl _ _ gb102 49 #[.int .i64 t130, .int .i64 t131, .slice Ao114 t132.length co114] (0, 0) _ rfl (by (with_reducible repeat first | apply zN | apply zD | apply zA); refine blk_put (cs := #[.int .i64 t130, .int .i64 t131, .slice none 0 0]) ?_ 2 _ rfl; (with_reducible repeat first | apply zN | apply zD | apply zA); refine blk_put (cs := #[.int .i64 t130, .int .i64 0, .slice none 0 0]) ?_ 1 _ rfl; (with_reducible repeat first | apply zN | apply zD | apply zA); refine blk_put (cs := #[.int .i64 0, .int .i64 0, .slice none 0 0]) ?_ 0 _ rfl; (repeat first | with_reducible apply zN | with_reducible apply zD | with_reducible apply zA | refine blk_far ?_ NB102_136.out _); exact BK102.out) Try.underlying49 rfl (by kernel_rfl)) rfl ?_
       exact ⟨_, eW, by (with_reducible repeat (first | apply Kd.V_alloc | apply Kd.V_drewN | apply Kd.V_drew)); exact Kd.V_mono (vF3 gb102 (vF3 gb136 (Kd.V_mono (Kd.V_mono HO134.out (fun k_ hk => (⟨hk, hk.2⟩ : _ ∧ k_ ≠ gb136))) (fun k_ hk => (⟨hk, hk.1.1.2.2.1⟩ : _ ∧ k_ ≠ gb102))) (fun _ hk => hk.1.2)) (fun _ hk => hk.2)) (fun _ hk => hk.1.1.1.1), pH HB⟩
     ·rw [if_neg c60] at H
      exact absurd H (by simp)
    ·replace c59 := Bool.eq_false_iff.mpr c59
     subst c59
     rw [if_neg (show ¬ (false = true) by decide)] at H
     simp only [Option.some.injEq, Prod.mk.injEq] at H
     obtain ⟨rfl, rfl, rfl, rfl⟩ := H
     go_enter Try.func14, Try.ntmps14
     go_wp2_with (first | ((with_reducible refine gate_dst (N := 2) rfl ?_); refine bE (N := 2) (cs := #[.int .i64 a0_0, .int .i64 a0_1, .slice A0_2 l0_2.length c0_2]) (t := 54) ?_; intro gb101 hg w116 hbox hb; have GW101 := qw HB hg; have GE101 := qw HB hg; have BK101 := aK hbox; replace HB := qs HB hb; clear hb hbox hg) | ((with_reducible refine gate_dst (N := 4) rfl ?_); refine bE (N := 4) (cs := #[.int .i64 0, .int .i64 0, .slice none 0 0]) (t := 49) ?_; intro gb102 hg w117 hbox hb; have GW102 := qw HB hg; have GE102 := qw HB hg; have NB101_102 := ql BK101 hg; have NB102_101 := qg BK101 hg; replace BK101 := qb BK101 hb; have BK102 := aK hbox; replace HB := qs HB hb; clear hb hbox hg; have hnb118 := NB101_102.out; have hnc118 := NB102_101.out; obtain ⟨hcz119_0, hcz119_1, hcz119_2, hfz119_0, hfz119_1, hfz119_2⟩ := cA3 BK101; have p121 : 0 ≤ (0 : Int) := (by omega); have q121 : 0 < (l0_2.length : Int) := dA; obtain ⟨ad121, A121_2, c121_2, e121, hx121_0, hx121_1, hx121_2, hl121_2, hi121_2⟩ := at_T54 HR0_2.out 0 p121 q121; cases e121; have qi121 : (0 < l0_2.length) = True := eq_true (by omega); (try rw [show ((0 : Int)).toNat = 0 from rfl] at hx121_0); (try rw [show 0 * 3 = 0 from rfl] at hx121_0); (try rw [Addr.add_zero'] at hx121_0); (try rw [show ((0 : Int)).toNat = 0 from rfl] at hx121_1); (try rw [show 0 * 3 = 0 from rfl] at hx121_1); (try rw [Addr.add_zero'] at hx121_1); (try rw [show ((0 : Int)).toNat = 0 from rfl] at hx121_2); (try rw [show 0 * 3 = 0 from rfl] at hx121_2); (try rw [Addr.add_zero'] at hx121_2); replace hx121_0 := uC HB hx121_0; replace hx121_1 := uC HB hx121_1; replace hx121_2 := uC HB hx121_2; have HR121_2 := aK hi121_2; have HC121_2 := aK hl121_2; clear hi121_2 hl121_2; replace p121 := eq_true p121; replace q121 := eq_true q121) | ((with_reducible refine gate_callee (f := 14) rfl ?_); refine goesL_ (some 75) rfl rfl Try.func14 (by kernel_rfl) rfl #[.agg #[.int .i64 ((rd_T54 l0_2 0).f0), .int .i64 ((rd_T54 l0_2 0).f1), .slice A121_2 ((rd_T54 l0_2 0).f2).length c121_2], .int .i64 a1] rfl tA ?_; (with_reducible refine (ih k (by omega) ((rd_T54 l0_2 0).f0) ((rd_T54 l0_2 0).f1) _ _ ((rd_T54 l0_2 0).f2) a1 t122 t123 t124 false _ ?side1 ?side2 A58.out).mono ?_); (case side1 => exact sC (Kd.C_below HR121_2.out HB.out)); (case side2 => exact HC121_2.out); rintro e w120 ⟨v125, rfl, ho0, hb⟩; refine ⟨_, rfl, ?_⟩; have HO126 := aK (Kd.V_lower (Kd.V_mono (ok' := fun k_ => (w.heap.size ≤ k_) ∧ k_ ≠ gb101 ∧ k_ ≠ gb102) ho0 (fun k_ hk_ => ⟨(Nat.le_trans (below_size HB.out) hk_), (Kd.freshB BK101.out k_ hk_), (Kd.freshB BK102.out k_ hk_)⟩)) (below_size HB.out)); replace BK101 := qb BK101 hb; replace BK102 := qb BK102 hb; replace HB := qs HB hb; (try clear hb); (try clear ho0)) | ((with_reducible refine gate_dst (N := 11) rfl ?_); refine bE (N := 11) (cs := #[.int .i64 0, .int .i64 0, .slice none 0 0]) (t := 49) ?_; intro gb128 hg w121 hbox hb; have GW128 := qw HB hg; have GE128 := qw HB hg; have NB101_128 := ql BK101 hg; have NB128_101 := qg BK101 hg; have NB102_128 := ql BK102 hg; have NB128_102 := qg BK102 hg; replace HO126 := qv HO126 hg hb; replace BK101 := qb BK101 hb; replace BK102 := qb BK102 hb; have BK128 := aK hbox; replace HB := qs HB hb; clear hb hbox hg; have hnb122 := NB128_101.out; have hnc122 := NB101_128.out; have hnb123 := NB128_102.out; have hnc123 := NB102_128.out; obtain ⟨hcz124_0, hcz124_1, hcz124_2, hfz124_0, hfz124_1, hfz124_2⟩ := cA3 BK128; obtain ⟨Ao125, co125, eo125⟩ := Kd.V_slice HO126.out; subst eo125; obtain ⟨hcz126_0, hcz126_1, hcz126_2, hfz126_0, hfz126_1, hfz126_2⟩ := cA3 BK102))
     refine bodyPost_ret (results_ct rfl _ _ gb102 49 #[.int .i64 t122, .int .i64 t123, .slice Ao125 t124.length co125] (0, 0) _ rfl (by (with_reducible repeat first | apply zN | apply zD | apply zA); refine blk_put (cs := #[.int .i64 t122, .int .i64 t123, .slice none 0 0]) ?_ 2 _ rfl; (with_reducible repeat first | apply zN | apply zD | apply zA); refine blk_put (cs := #[.int .i64 t122, .int .i64 0, .slice none 0 0]) ?_ 1 _ rfl; (with_reducible repeat first | apply zN | apply zD | apply zA); refine blk_put (cs := #[.int .i64 0, .int .i64 0, .slice none 0 0]) ?_ 0 _ rfl; (repeat first | with_reducible apply zN | with_reducible apply zD | with_reducible apply zA | refine blk_far ?_ NB102_128.out _); exact BK102.out) Try.underlying49 rfl (by kernel_rfl)) rfl ?_
     exact ⟨_, eW, by (with_reducible repeat (first | apply Kd.V_alloc | apply Kd.V_drewN | apply Kd.V_drew)); exact Kd.V_mono (vF3 gb102 (vF3 gb128 (Kd.V_mono (Kd.V_mono HO126.out (fun k_ hk => (⟨hk, hk.2⟩ : _ ∧ k_ ≠ gb128))) (fun k_ hk => (⟨hk, hk.1.1.2.2⟩ : _ ∧ k_ ≠ gb102))) (fun _ hk => hk.1.2)) (fun _ hk => hk.2)) (fun _ hk => hk.1.1.1.1), pH HB⟩
   ·rw [if_neg c57] at H
    exact absurd H (by simp)


mutual
def spec_lcTree.l0 : Nat → List (S70) → List Int → Int → Int → Int → Int → List (S54) → Option (Int × Int × (List (S54)))
 | 0, _, _, _, _, _, _, _ => none
 | k + 1, x0, x21, x22, x23, x105000, x105001, x105002 => if x23 < x22 then (if 0 ≤ x23 then (if x23 < (x21.length : Int) then ((spec_lcTree.f k x0 (rd x21 x23)).bind fun bt109 => (if x105002.length < 3518437208883 then (spec_lcTree.l0 k x0 x21 x22 (wrap64 (x23 + 1)) x105000 x105001 (x105002 ++ [(⟨bt109.1, bt109.2.1, bt109.2.2⟩ : S54)])) else (none))) else (none)) else (none)) else (some (x105000, x105001, x105002))
def spec_lcTree.f : Nat → List (S70) → Int → Option (Int × Int × (List (S54)))
 | 0, _, _ => none
 | k + 1, l0, a1 => if 0 ≤ a1 then (if a1 < (l0.length : Int) then ((spec_lcParts.f k l0 a1).bind fun t105 => (spec_lcTree.l0 k l0 t105 (t105.length : Int) 0 ((rd_T70 l0 a1).f0) ((rd_T70 l0 a1).f1) ([] : List (S54)))) else (none)) else (none)
end
def spec_lcTree.T1 : Bool × List (List Nat × List Nat) := (true, [([], []), ([], []), ([0, 1], [0, 1]), ([2], [2]), ([3], [3]), ([], []), ([], []), ([5, 6], [5, 6]), ([7], [7]), ([8], [8]), ([4, 9], [4, 9]), ([], []), ([11, 10, 0, 1, 2, 3, 4, 5, 6, 7, 8, 9, 10, 11], [10, 11])])
def spec_lcTree.B1 : List Nat := [0, 0, 3, 7, 15, 0, 0, 96, 224, 480, 1023, 0, 4095]
theorem spec_lcTree.tab1 : rtab .any (opsOf Try.f15 1) = spec_lcTree.T1 := by kernel_rfl
theorem spec_lcTree.bits1 : waitsOk spec_lcTree.T1.2 spec_lcTree.B1 = true := by kernel_rfl
def spec_lcTree.T5 : Bool × List (List Nat × List Nat) := (true, [([], []), ([0], [0]), ([], []), ([], []), ([2, 3], [2, 3]), ([4], [4]), ([1, 5, 4], [1, 5]), ([0, 1, 2, 3, 4, 5, 6], []), ([7, 6, 6, 0, 1, 2, 3, 4, 5, 6], [6, 7])])
def spec_lcTree.B5 : List Nat := [0, 1, 0, 0, 12, 28, 63, 127, 255]
theorem spec_lcTree.tab5 : rtab .any (opsOf Try.f15 5) = spec_lcTree.T5 := by kernel_rfl
theorem spec_lcTree.bits5 : waitsOk spec_lcTree.T5.2 spec_lcTree.B5 = true := by kernel_rfl
set_option maxHeartbeats 8000000 in
set_option maxRecDepth 100000 in
theorem spec_lcTree.calls (k : Nat) : ∀ (A0 : Option Addr) (c0 : Nat) (l0 : List (S70)) (a1 : Int) (r1 : Int) (r2 : Int) (r3 : List (S54)) (w : World) (hr0 : Kd.C k70 w A0 l0.length l0) (hc0 : l0.length ≤ c0) (h : spec_lcTree.f k l0 a1 = some (r1, r2, r3)),
  Calls Try.prog 15 #[.slice A0 l0.length c0, .int .i64 a1] w fun e w' => ∃ v2_ : Value, e = .returned (.agg #[.int .i64 r1, .int .i64 r2, v2_]) ∧ Kd.R k54 54 w' w.heap.size (fun _ => True) v2_ r3 ∧ Below w.heap.size w w' := by
 induction k using Nat.strongRecOn with
 | _ k ih =>
 intro A0 c0 l0 a1 r1 r2 r3 w hr0 hc0 h
 cases k with
 | zero => exact absurd h (by simp [spec_lcTree.f])
 | succ k =>
 simp only [spec_lcTree.f] at h
 have hu54 := Try.underlying54
 have HR0 := aK hr0
 have HC0 := aK hc0
 clear hr0 hc0
 have HB := aK (Below.refl w.heap.size w)
 have H : (if 0 ≤ a1 then (if a1 < (l0.length : Int) then ((spec_lcParts.f k l0 a1).bind fun t105 => (spec_lcTree.l0 k l0 t105 (t105.length : Int) 0 ((rd_T70 l0 a1).f0) ((rd_T70 l0 a1).f1) ([] : List (S54)))) else (none)) else (none)) = some (r1, r2, r3) := h
 clear h
 by_cases c3 : 0 ≤ a1
 ·rw [if_pos c3] at H
  have c3b0 : decide (0 ≤ a1) = true := decide_eq_true c3
  clear c3
  by_cases c4 : a1 < (l0.length : Int)
  ·rw [if_pos c4] at H
   have c4b0 : decide (a1 < (l0.length : Int)) = true := decide_eq_true c4
   clear c4
   replace H := Option.bind_eq_some_iff.mp H
   obtain ⟨t105, A50, H⟩ := H
   try dsimp only at H
   have A5 := aK A50
   clear A50
   have H' := aK H
   clear H
   go_enter Try.func15, Try.ntmps15
   try go_wp2_with (first | ((with_reducible refine gate_dst (N := 4) rfl ?_); refine bE (N := 4) (cs := #[.int .i64 0, .int .i64 0, .slice none 0 0]) (t := 54) ?_; intro gb101 hg w6 hbox hb; have GW101 := qw HB hg; have GE101 := qw HB hg; have BK101 := aK hbox; replace HB := qs HB hb; clear hb hbox hg))
   have n0_ := aK (blk_drew BK101.out)
   have n1_ := aK (below_drew1 HB.out)
   clear BK101
   clear HB
   have BK101 := n0_
   have HB := n1_
   clear n0_ n1_
   have p102 : 0 ≤ (a1 : Int) := dA
   have q102 : a1 < (l0.length : Int) := dA
   obtain ⟨ad102, e102, hx102_0, hx102_1, hx102_2⟩ := at_T70 HR0.out a1 p102 q102
   have hw102_2 := hx102_2
   have hw102_1 := hx102_1
   have hw102_0 := hx102_0
   cases e102
   replace hx102_0 := uC HB hx102_0
   replace hx102_1 := uC HB hx102_1
   replace hx102_2 := uC HB hx102_2
   replace p102 := eq_true p102
   replace q102 := eq_true q102
   have p103 : 0 ≤ (a1 : Int) := dA
   have q103 : a1 < (l0.length : Int) := dA
   obtain ⟨ad103, e103, hx103_0, hx103_1, hx103_2⟩ := at_T70 HR0.out a1 p103 q103
   have hw103_2 := hx103_2
   have hw103_1 := hx103_1
   have hw103_0 := hx103_0
   obtain rfl : ad102 = ad103 := (by injection e103)
   replace hx103_0 := uC HB hx103_0
   replace hx103_1 := uC HB hx103_1
   replace hx103_2 := uC HB hx103_2
   replace p103 := eq_true p103
   replace q103 := eq_true q103
   refine start_ (n := 13) (S := fun w' => w'.cell? (ad102.add ((a1).toNat * 3)) = some (.int .i64 ((rd_T70 l0 a1).f0)) ∧ w'.cell? ⟨(ad102.add ((a1).toNat * 3)).block, (ad102.add ((a1).toNat * 3)).off + 1, none⟩ = some (.int .i64 ((rd_T70 l0 a1).f1)) ∧ w'.cell? ⟨(ad102.add ((a1).toNat * 3)).block, (ad102.add ((a1).toNat * 3)).off + 2, none⟩ = some (.int .i64 ((rd_T70 l0 a1).f2)) ∧ w'.cell? (ad102.add ((a1).toNat * 3)) = some (.int .i64 ((rd_T70 l0 a1).f0)) ∧ w'.cell? ⟨(ad102.add ((a1).toNat * 3)).block, (ad102.add ((a1).toNat * 3)).off + 1, none⟩ = some (.int .i64 ((rd_T70 l0 a1).f1)) ∧ w'.cell? ⟨(ad102.add ((a1).toNat * 3)).block, (ad102.add ((a1).toNat * 3)).off + 2, none⟩ = some (.int .i64 ((rd_T70 l0 a1).f2))) (ds := []) (bs 0 13) (by kernel_rfl) rfl rfl ⟨(uC HB hw102_0), (uC HB hw102_1), (uC HB hw102_2), (uC HB hw103_0), (uC HB hw103_1), (uC HB hw103_2)⟩ (fun hHeld => ?_); refine with_tabW spec_lcTree.tab1 spec_lcTree.bits1 (fun HT_ HW_ => ?_)
   generalize w6.drew = w7 at BK101 HB hx102_0 hx102_1 hx102_2 hx103_0 hx103_1 hx103_2 hHeld ⊢
   refine pure_ (i := 0) (N := some 8) (v := ?_) (a' := ?_) (bs 1 12) rfl rfl (any_of HT_.out (by kernel_rfl)) (fun _ _ _ h => h) (Or.inl ⟨by rfl, ?_⟩) ?_ ?_
   rotate_left
   ·intro w'
    go_simp
    with_reducible rfl
   rotate_left
   ·simp only [sP, i64_w, i32_w]
    rfl
   refine pure_ (i := 1) (N := some 9) (v := ?_) (a' := ?_) (bs 2 11) rfl rfl (any_of HT_.out (by kernel_rfl)) (fun _ _ _ h => h) (Or.inl ⟨by rfl, ?_⟩) ?_ ?_
   rotate_left
   ·intro w'
    go_simp
    with_reducible rfl
   rotate_left
   ·simp only [sP, i64_w, i32_w]
    rfl
   refine pure_ (i := 2) (N := some 10) (v := ?_) (a' := ?_) (bs 3 10) rfl rfl (any_of HT_.out (by kernel_rfl)) (fun _ _ _ h => h) (Or.inl ⟨by rfl, ?_⟩) ?_ ?_
   rotate_left
   ·intro w'
    go_simp
    with_reducible rfl
   rotate_left
   ·simp only [sP, i64_w, i32_w]
    rfl
   refine pure_ (i := 3) (N := some 11) (v := ?_) (a' := ?_) (bs 4 9) rfl rfl (any_of HT_.out (by kernel_rfl)) (fun _ _ _ h => h) (Or.inl ⟨by rfl, ?_⟩) ?_ ?_
   rotate_left
   ·intro w'
    go_simp
    with_reducible rfl
   rotate_left
   ·simp only [sP, i64_w, i32_w]
    rfl
   refine pure_ (i := 5) (N := some 13) (v := ?_) (a' := ?_) #[true, true, true, true, false, true, false, false, false, false, false, false, false] rfl rfl (any_of HT_.out (by kernel_rfl)) (fun _ _ _ h => h) (Or.inl ⟨by rfl, ?_⟩) ?_ ?_
   rotate_left
   ·intro w'
    go_simp
    with_reducible rfl
   rotate_left
   ·simp only [sP, i64_w, i32_w]
    rfl
   refine pure_ (i := 6) (N := some 14) (v := ?_) (a' := ?_) #[true, true, true, true, false, true, true, false, false, false, false, false, false] rfl rfl (any_of HT_.out (by kernel_rfl)) (fun _ _ _ h => h) (Or.inl ⟨by rfl, ?_⟩) ?_ ?_
   rotate_left
   ·intro w'
    go_simp
    with_reducible rfl
   rotate_left
   ·simp only [sP, i64_w, i32_w]
    rfl
   refine pure_ (i := 7) (N := some 15) (v := ?_) (a' := ?_) #[true, true, true, true, false, true, true, true, false, false, false, false, false] rfl rfl (any_of HT_.out (by kernel_rfl)) (fun _ _ _ h => h) (Or.inl ⟨by rfl, ?_⟩) ?_ ?_
   rotate_left
   ·intro w'
    go_simp
    with_reducible rfl
   rotate_left
   ·simp only [sP, i64_w, i32_w]
    rfl
   refine pure_ (i := 8) (N := some 16) (v := ?_) (a' := ?_) #[true, true, true, true, false, true, true, true, true, false, false, false, false] rfl rfl (any_of HT_.out (by kernel_rfl)) (fun _ _ _ h => h) (Or.inl ⟨by rfl, ?_⟩) ?_ ?_
   rotate_left
   ·intro w'
    go_simp
    with_reducible rfl
   rotate_left
   ·simp only [sP, i64_w, i32_w]
    rfl
   refine take_ (i := 4) (N := some 12) (v := ?_) (a' := ?_) (bs 9 4) rfl rfl (take_ofW HT_.out HW_.out (by kernel_rfl)) (fun _ _ _ h => h) (Or.inl ⟨by rfl, ?_⟩) hHeld ?_ ?_
   rotate_left
   ·rintro w' ⟨s0, s1, s2, s3, s4, s5⟩
    go_simp
    with_reducible rfl
   rotate_left
   ·simp only [sP, i64_w, i32_w]
    rfl
   refine take_ (i := 9) (N := some 17) (v := ?_) (a' := ?_) (bs 10 3) rfl rfl (take_ofW HT_.out HW_.out (by kernel_rfl)) (fun _ _ _ h => h) (Or.inl ⟨by rfl, ?_⟩) hHeld ?_ ?_
   rotate_left
   ·rintro w' ⟨s0, s1, s2, s3, s4, s5⟩
    go_simp
    with_reducible rfl
   rotate_left
   ·simp only [sP, i64_w, i32_w]
    rfl
   refine pure_ (i := 10) (N := some 18) (v := ?_) (a' := ?_) (bs 11 2) rfl rfl (any_of HT_.out (by kernel_rfl)) (fun _ _ _ h => h) (Or.inl ⟨by rfl, ?_⟩) ?_ ?_
   rotate_left
   ·intro w'
    go_simp
    with_reducible rfl
   rotate_left
   ·simp only [sP, i64_w, i32_w]
    rfl
   refine one_ (i := 11) (N := some 5) (bs 12 1) rfl rfl (one_of HT_.out (by kernel_rfl)) (by decide) (fun K hK => ?_)
   refine box_step ?hg (N := 5) ?hd (cs := #[.int .i64 0, .int .i64 0, .slice none 0 0]) (t := 54) ?hr ?_; (case hd => rfl); (case hg => rfl); (case hr => go_simp)
   intro gb104 hg w8 hbox hb
   have n0_ := aK (blk_below BK101.out hb)
   have n1_ := aK (below_step (pH HB) hb)
   have n2_ := aK (hbox)
   have n3_ := aK ((by rw [hg]; exact (below_size (pH HB)) : w.heap.size ≤ gb104))
   have n4_ := aK ((by rw [hg]; exact (below_size (pH HB)) : w.heap.size ≤ gb104))
   have n5_ := aK ((by rw [hg]; exact Nat.ne_of_lt (blk_lt BK101.out) : gb101 ≠ gb104))
   have n6_ := aK ((by rw [hg]; exact Nat.ne_of_gt (blk_lt BK101.out) : gb104 ≠ gb101))
   clear BK101
   clear HB
   have BK101 := n0_
   have HB := n1_
   have BK104 := n2_
   have GW104 := n3_
   have GE104 := n4_
   have NB101_104 := n5_
   have NB104_101 := n6_
   clear n0_ n1_ n2_ n3_ n4_ n5_ n6_
   clear hb hbox hg
   refine hK.out _ _ ⟨(uC HB hw102_0), (uC HB hw102_1), (uC HB hw102_2), (uC HB hw103_0), (uC HB hw103_1), (uC HB hw103_2)⟩ (fun hHeld => ?_)
   clear hK K
   refine norm_ (a' := ?_) ?_ ?_
   rotate_left
   ·show Act.put _ (some 5) _ = _
    simp only [sP, i64_w, i32_w]
    rfl
   refine one_ (i := 12) (N := none) (bs 13 0) rfl rfl (one_of HT_.out (by kernel_rfl)) (by decide) (fun K hK => ?_)
   have hs9 : w8.cell? ⟨gb104, 0, none⟩ = some (.int .i64 0) := (blk_cell BK104.out 0).trans rfl
   have hfs9 := blk_frozen BK104.out 0
   have hns9_0 := NB101_104.out
   have hms9_0 := NB104_101.out
   have hs10 : w8.cell? ⟨gb104, 1, none⟩ = some (.int .i64 0) := (blk_cell BK104.out 1).trans rfl
   have hfs10 := blk_frozen BK104.out 1
   have hns10_0 := NB101_104.out
   have hms10_0 := NB104_101.out
   have hs11 : w8.cell? ⟨gb104, 2, none⟩ = some (.slice none 0 0) := (blk_cell BK104.out 2).trans rfl
   have hfs11 := blk_frozen BK104.out 2
   have hns11_0 := NB101_104.out
   have hms11_0 := NB104_101.out
   refine skip_ (w1 := ?_) (by rfl) rfl ?_ ?_
   rotate_left
   ·go_simp
    rfl
   refine hK.out _ _ ⟨(cF3 (nG hw102_0 GW104) (hHeld.1)), (cF3 (nG hw102_1 GW104) (hHeld.2.1)), (cF3 (nG hw102_2 GW104) (hHeld.2.2.1)), (cF3 (nG hw103_0 GW104) (hHeld.2.2.2.1)), (cF3 (nG hw103_1 GW104) (hHeld.2.2.2.2.1)), (cF3 (nG hw103_2 GW104) (hHeld.2.2.2.2.2))⟩ (fun hHeld => ?_)
   clear hK K
   refine done_ (done_of HT_.out (by kernel_rfl)) ?_
   try go_wp2_with (first | ((with_reducible refine gate_callee (f := 27) rfl ?_); refine goesL_ (some 21) rfl rfl Try.func27 (by kernel_rfl) rfl #[.slice (some ad102) l0.length c0, .int .i64 a1] rfl tA ?_; (with_reducible refine (spec_lcParts.calls k _ _ l0 a1 t105 _ ?side1 ?side2 A5.out).mono ?_); (case side1 => exact Kd.C_below HR0.out (pH HB)); (case side2 => exact HC0.out); rintro e w12 ⟨v106, rfl, ho0, hb⟩; refine ⟨_, rfl, ?_⟩; have n0_ := aK (Kd.R_lower ho0 (below_size (pH HB))); have n1_ := aK (blk_below (g := gb101) (o := .cells #[.int .i64 0, .int .i64 0, .slice none 0 0] 54 (0, 0)) (by (repeat first | with_reducible apply zN | with_reducible apply zD | with_reducible apply zA | refine blk_far ?_ NB101_104.out _); exact BK101.out) hb); have n2_ := aK (blk_below (g := gb104) (o := .cells #[.int .i64 ((rd_T70 l0 a1).f0), .int .i64 ((rd_T70 l0 a1).f1), .slice none 0 0] 54 (0, 0)) (p3 BK104) hb); have n3_ := aK (below_step (pH HB) hb); clear BK101; clear BK104; clear HB; have HO107 := n0_; have BK101 := n1_; have BK104 := n2_; have HB := n3_; clear n0_ n1_ n2_ n3_; (try clear hb); (try clear ho0); obtain ⟨Ao13, co13, eo13⟩ := Kd.R_slice HO107.out; subst eo13))
   go_loopg [23] k (fun kq v23 w' => ∃ (x23_1 : Int) (x105002_1 : List (S54)) (u105002 : Value), v23 = .int .i64 x23_1 ∧ Aside0 (spec_lcTree.l0 kq l0 t105 (t105.length : Int) x23_1 ((rd_T70 l0 a1).f0) ((rd_T70 l0 a1).f1) x105002_1 = some (r1, r2, r3)) ∧ Aside0 (kq ≤ k) ∧ Aside0 (Kd.R (Kd.int .i64) 3 w' w.heap.size (fun _ => True) (.slice Ao13 t105.length co13) t105) ∧ Aside0 (Kd.R k54 54 w' w.heap.size (fun k_ => k_ ≠ gb101 ∧ k_ ≠ gb104) u105002 x105002_1) ∧ Aside0 (w'.heap[gb101]? = some (.cells #[.int .i64 0, .int .i64 0, (.slice none 0 0)] 54 (0, 0))) ∧ Aside0 (w'.heap[gb104]? = some (.cells #[.int .i64 ((rd_T70 l0 a1).f0), .int .i64 ((rd_T70 l0 a1).f1), u105002] 54 (0, 0))) ∧ Aside0 (Below w.heap.size w w'))
   case atStart => exact ⟨(0), (([] : List (S54))), (.slice none 0 0), rS, H', ⟨Nat.le_refl _⟩, ⟨by (with_reducible repeat (first | apply Kd.R_alloc | apply Kd.R_drewN | apply Kd.R_drew)); exact HO107.out⟩, ⟨by first | exact Kd.R_nil _ _ _ _ _ | exact Kd.N_nil _ _ _ _ _ | exact Kd.V_nil _ _ _ _ _ | exact Kd.Q_nil _ _ _ _ _ | exact Kd.S_nil _ _ _ _ _⟩, ⟨pB BK101⟩, ⟨pB BK104⟩, ⟨pH HB⟩⟩
   case round =>
    clear H'
    try clear c1; try clear p1; try clear q1; try clear hx1; try clear c2; try clear p2; try clear c3; try clear c3b0; try clear c4; try clear c4b0; try clear p10; try clear q10; try clear hx10; try clear hx102_0; try clear hx102_1; try clear hx102_2; try clear hx103_0; try clear hx103_1; try clear hx103_2; try clear p102; try clear p103; try clear q102; try clear q103
    obtain ⟨x23_1, x105002_1, u105002, rfl, HA, HK1, HO_21, HO_105002, BK101, BK104, HB⟩ := hrel
    cases gk with
    | zero => exact absurd HA.out (by simp [spec_lcTree.l0])
    | succ k1 =>
     have H := HA.out
     clear HA
     simp only [spec_lcTree.l0] at H
     by_cases c14 : x23_1 < (t105.length : Int)
     ·rw [if_pos c14] at H
      have c14b0 : decide (x23_1 < (t105.length : Int)) = true := decide_eq_true c14
      clear c14
      by_cases c15 : 0 ≤ x23_1
      ·rw [if_pos c15] at H
       have c15b0 : decide (0 ≤ x23_1) = true := decide_eq_true c15
       clear c15
       by_cases c16 : x23_1 < (t105.length : Int)
       ·rw [if_pos c16] at H
        have c16b0 : decide (x23_1 < (t105.length : Int)) = true := decide_eq_true c16
        clear c16
        replace H := Option.bind_eq_some_iff.mp H
        obtain ⟨⟨t109, t110, t111⟩, A170, H⟩ := H
        try dsimp only at H
        have A17 := aK A170
        clear A170
        by_cases c18 : x105002_1.length < 3518437208883
        ·rw [if_pos c18] at H
         have LMc18 := aK c18
         clear c18
         obtain ⟨y114, hy114⟩ : ∃ y_ : List (S54), y_ = (x105002_1 ++ [(⟨t109, t110, t111⟩ : S54)]) := ⟨_, rfl⟩
         replace H : (spec_lcTree.l0 k1 l0 t105 (t105.length : Int) (wrap64 (x23_1 + 1)) ((rd_T70 l0 a1).f0) ((rd_T70 l0 a1).f1) y114) = some (r1, r2, r3) := by first | (rw [hy114]; with_reducible exact H) | (have H2_ := (Option.bind_some _ _).symm.trans H; rw [hy114]; with_reducible exact H2_) | (have H2_ := (Option.bind_some _ _).symm.trans H; with_reducible exact H2_) | with_reducible exact H | (rw [hy114]; exact H) | exact H
         have Ny114 := aK hy114
         clear hy114
         have H' := aK H
         clear H
         have p108 : 0 ≤ (x23_1 : Int) := dA
         have q108 : x23_1 < (t105.length : Int) := dA
         obtain ⟨ad108, e108, hx108_0⟩ := Kd.at_int (Kd.R_reads' HO_21.out).2.2 x23_1 p108 q108
         cases e108
         replace p108 := eq_true p108
         replace q108 := eq_true q108
         try go_wp2
         have n0_ := aK (Kd.R_drew HO_21.out)
         have n1_ := aK (Kd.R_drew HO_105002.out)
         have n2_ := aK (blk_drew BK101.out)
         have n3_ := aK (blk_drew BK104.out)
         have n4_ := aK (below_drew1 HB.out)
         clear HO_21
         clear HO_105002
         clear BK101
         clear BK104
         clear HB
         have HO_21 := n0_
         have HO_105002 := n1_
         have BK101 := n2_
         have BK104 := n3_
         have HB := n4_
         clear n0_ n1_ n2_ n3_ n4_
         refine start_ (n := 9) (S := fun w' => w'.cell? ⟨gb104, 0, none⟩ = some (.int .i64 ((rd_T70 l0 a1).f0)) ∧ w'.cell? ⟨gb104, 1, none⟩ = some (.int .i64 ((rd_T70 l0 a1).f1)) ∧ w'.cell? ⟨gb104, 2, none⟩ = some (u105002)) (ds := [8]) (bs 0 9) (by kernel_rfl) rfl rfl ⟨(blk_cell BK104.out 0).trans rfl, (blk_cell BK104.out 1).trans rfl, (blk_cell BK104.out 2).trans rfl⟩ (fun hHeld => ?_); refine with_tabW spec_lcTree.tab5 spec_lcTree.bits5 (fun HT_ HW_ => ?_)
         generalize wr.drew = w19 at HO_21 HO_105002 BK101 BK104 HB hHeld ⊢
         refine pure_ (i := 0) (N := some 27) (v := ?_) (a' := ?_) (bs 1 8) rfl rfl (any_of HT_.out (by kernel_rfl)) (fun _ _ _ h => h) (Or.inl ⟨by rfl, ?_⟩) ?_ ?_
         rotate_left
         ·intro w'
          go_simp
          with_reducible rfl
         rotate_left
         ·simp only [sP, i64_w, i32_w]
          rfl
         refine pure_ (i := 2) (N := some 29) (v := ?_) (a' := ?_) #[true, false, true, false, false, false, false, false, false] rfl rfl (any_of HT_.out (by kernel_rfl)) (fun _ _ _ h => h) (Or.inl ⟨by rfl, ?_⟩) ?_ ?_
         rotate_left
         ·intro w'
          go_simp
          with_reducible rfl
         rotate_left
         ·simp only [sP, i64_w, i32_w]
          rfl
         refine pure_ (i := 3) (N := some 30) (v := ?_) (a' := ?_) #[true, false, true, true, false, false, false, false, false] rfl rfl (any_of HT_.out (by kernel_rfl)) (fun _ _ _ h => h) (Or.inl ⟨by rfl, ?_⟩) ?_ ?_
         rotate_left
         ·intro w'
          go_simp
          with_reducible rfl
         rotate_left
         ·simp only [sP, i64_w, i32_w]
          rfl
         refine take_ (i := 1) (N := some 28) (v := ?_) (a' := ?_) (bs 4 5) rfl rfl (take_ofW HT_.out HW_.out (by kernel_rfl)) (fun _ _ _ h => h) (Or.inl ⟨by rfl, ?_⟩) hHeld ?_ ?_
         rotate_left
         ·rintro w' ⟨s0, s1, s2⟩
          go_simp
          with_reducible rfl
         rotate_left
         ·simp only [sP, i64_w, i32_w]
          rfl
         refine one_ (i := 4) (N := some 31) (bs 5 4) rfl rfl (one_of HT_.out (by kernel_rfl)) (by decide) (fun K hK => ?_)
         refine goes_ Try.func15 (by kernel_rfl) rfl #[.slice (some ad102) l0.length c0, .int .i64 (rd t105 x23_1)] (by rfl) rfl rfl tA ?_
         with_reducible refine (ih k1 (by have := HK1.out; omega) _ _ l0 (rd t105 x23_1) t109 t110 t111 _ ?side1 ?side2 A17.out).mono ?_
         (case side1 => exact sC (Kd.C_below HR0.out HB.out))
         (case side2 => exact HC0.out)
         rintro e w20 ⟨v112, rfl, ho0, hb⟩
         refine ⟨_, rfl, ?_⟩
         have n0_ := aK (Kd.R_below HO_21.out hb)
         have n1_ := aK (Kd.R_elder' HO_105002.out (Kd.R_base ho0) hb)
         have n2_ := aK (Kd.R_lower (Kd.R_newB (Kd.R_newB (Kd.R_new' ho0 (Kd.R_lt HO_105002.out)) BK101.out) BK104.out) (below_size (pH HB)))
         have n3_ := aK (blk_below BK101.out hb)
         have n4_ := aK (blk_below BK104.out hb)
         have n5_ := aK (below_step (pH HB) hb)
         clear HO_21
         clear HO_105002
         clear BK101
         clear BK104
         clear HB
         have HO_21 := n0_
         have HO_105002 := n1_
         have HO113 := n2_
         have BK101 := n3_
         have BK104 := n4_
         have HB := n5_
         clear n0_ n1_ n2_ n3_ n4_ n5_
         (try clear hb)
         (try clear hb2)
         (try clear hk)
         (try clear hi)
         (try clear ho0)
         obtain ⟨Ao22, co22, eo22⟩ := Kd.R_slice HO113.out
         (first | subst eo22 | (injection eo22 with f1_ f2_ f3_; have f4_ := f1_.symm; have f5_ := f3_.symm; clear f1_ f2_ f3_; subst f4_; subst f5_))
         refine hK.out _ _ ⟨(blk_cell BK104.out 0).trans rfl, (blk_cell BK104.out 1).trans rfl, (blk_cell BK104.out 2).trans rfl⟩ (fun hHeld => ?_)
         clear hK K
         refine norm_ (a' := ?_) ?_ ?_
         rotate_left
         ·show Act.put _ (some 31) _ = _
          simp only [sP, i64_w, i32_w]
          rfl
         refine one_ (i := 5) (N := some 32) (bs 6 3) rfl rfl (one_of HT_.out (by kernel_rfl)) (by decide) (fun K hK => ?_)
         refine value_ (w1 := ?_) (v := ?_) (by rfl) rfl ?_ ?_
         rotate_left 2
         ·go_simp
          constructor
          ·rfl
          ·rfl
         refine hK.out _ _ ⟨(blk_cell (blk_alloc BK104.out _) 0).trans rfl, (blk_cell (blk_alloc BK104.out _) 1).trans rfl, (blk_cell (blk_alloc BK104.out _) 2).trans rfl⟩ (fun hHeld => ?_)
         clear hK K
         refine norm_ (a' := ?_) ?_ ?_
         rotate_left
         ·show Act.put _ (some 32) _ = _
          simp only [sP, i64_w, i32_w]
          rfl
         refine one_ (i := 6) (N := some 33) (bs 7 2) rfl rfl (one_of HT_.out (by kernel_rfl)) (by decide) (fun K hK => ?_)
         refine Kd.R_append_step k54 (w0 := w) w.heap.size (by rfl) (.tmp 28) (.tmp 32) 52 54 (.agg #[(.int .i64 0), (.int .i64 0), (.slice none 0 0)]) 40 rfl Try.underlying52 info54 rfl (by decide) (by omega) u105002 x105002_1 (⟨t109, t110, t111⟩ : S54) [.int .i64 t109, .int .i64 t110, .slice Ao22 t111.length co22] (fun k_ => k_ ≠ gb101 ∧ k_ ≠ gb104) (fun k_ => ((fun k_ => k_ ≠ gb101 ∧ k_ ≠ gb104)) k_ ∧ some k_ ≠ (u105002 : Value).ownBlock) rfl rfl ?aP (fun _ hk => hk) ?aF ?aO ?aB ?aS ?aL ?_
         (case aP => exact k54_mkM _ _ _ (⟨t109, t110, t111⟩ : S54) (Kd.R_mono (HO113.out) (fun k_ hk => ⟨⟨hk.1.2, hk.2⟩, hk.1.1.2⟩)))
         (case aB => exact (pH HB))
         (case aF => exact (fun k_ hk => ⟨Kd.freshB BK101.out k_ hk, Kd.freshB BK104.out k_ hk⟩))
         (case aO => exact (by (with_reducible repeat (first | apply Kd.R_alloc | apply Kd.R_drewN | apply Kd.R_drew)); exact Kd.R_mono HO_105002.out (fun _ hk => ⟨hk.1.1, hk.1.2⟩)))
         (case aS => exact (below_size (pH HB)))
         (case aL => have := LMc18.out; omega)
         intro v115 w21 ho hb hg hat
         rw [← Ny114.out] at ho
         have n0_ := aK (Kd.R_over' HO_21.out (Kd.R_typed HO_105002.out) (by decide) hg)
         have n1_ := aK (blk_grown BK101.out hg (Kd.R_away HO_105002.out (fun _ hk => hk.1.1)))
         have n2_ := aK (blk_grown BK104.out hg (Kd.R_away HO_105002.out (fun _ hk => hk.1.2)))
         have n3_ := aK (hb)
         have n4_ := aK (ho)
         clear HO_21
         clear BK101
         clear BK104
         clear HB
         clear HO_105002
         clear HO113
         have HO_21 := n0_
         have BK101 := n1_
         have BK104 := n2_
         have HB := n3_
         have HO116 := n4_
         clear n0_ n1_ n2_ n3_ n4_
         clear ho hb hg hat
         obtain ⟨Ao23, co23, eo23⟩ := Kd.R_slice HO116.out
         (first | subst eo23 | (injection eo23 with f1_ f2_ f3_; have f4_ := f1_.symm; have f5_ := f3_.symm; clear f1_ f2_ f3_; subst f4_; subst f5_))
         refine hK.out _ _ ⟨(blk_cell BK104.out 0).trans rfl, (blk_cell BK104.out 1).trans rfl, (blk_cell BK104.out 2).trans rfl⟩ (fun hHeld => ?_)
         clear hK K
         refine norm_ (a' := ?_) ?_ ?_
         rotate_left
         ·show Act.put _ (some 33) _ = _
          simp only [sP, i64_w, i32_w]
          rfl
         refine pure_ (i := 7) (N := some 34) (v := ?_) (a' := ?_) (bs 8 1) rfl rfl (any_of HT_.out (by kernel_rfl)) (fun _ _ _ h => h) (Or.inl ⟨by rfl, ?_⟩) ?_ ?_
         rotate_left
         ·intro w'
          go_simp
          with_reducible rfl
         rotate_left
         ·simp only [sP, i64_w, i32_w]
          rfl
         refine last_ (i := 8) (N := none) (bs 9 0) rfl rfl (one_of HT_.out (by kernel_rfl)) (by decide) (fun K hK => ?_)
         have hs24 : w21.cell? ⟨gb104, 2, none⟩ = some (u105002) := (blk_cell BK104.out 2).trans rfl
         have hfs24 := blk_frozen BK104.out 2
         have hns24_0 := NB101_104.out
         have hms24_0 := NB104_101.out
         refine skip_ (w1 := ?_) (by rfl) rfl ?_ ?_
         rotate_left
         ·go_simp
          rfl
         refine hK.out _ _ ?_
         clear hK K
         refine done_ (done_of HT_.out (by kernel_rfl)) ?_
         try go_wp2
         go_roundg k1
         case measure => have := HK1.out; omega
         case rel => exact ⟨(wrap64 (x23_1 + 1)), (y114), (.slice Ao23 y114.length co23), rS, H', ⟨by have := HK1.out; omega⟩, ⟨by (with_reducible repeat (first | apply Kd.R_alloc | apply Kd.R_drewN | apply Kd.R_drew)); exact Kd.R_mono (Kd.R_far (p := ⟨gb104, 2, none⟩) (Kd.R_types HO_21.out BK104.out (by decide)) (fun _ hk => hk.2) (.slice Ao23 y114.length co23)) (fun _ hk => trivial)⟩, ⟨by (with_reducible repeat (first | apply Kd.R_alloc | apply Kd.R_drewN | apply Kd.R_drew)); exact Kd.R_mono (Kd.R_far (p := ⟨gb104, 2, none⟩) (Kd.R_mono HO116.out (fun k_ hk => (⟨hk, hk.2⟩ : _ ∧ k_ ≠ gb104))) (fun _ hk => hk.2) (.slice Ao23 y114.length co23)) (fun _ hk => ⟨hk.1.1, hk.1.2⟩)⟩, ⟨by (repeat first | with_reducible apply zN | with_reducible apply zD | with_reducible apply zA | refine blk_far ?_ NB101_104.out _); exact BK101.out⟩, ⟨by (with_reducible repeat first | apply zN | apply zD | apply zA); refine blk_put (cs := #[.int .i64 ((rd_T70 l0 a1).f0), .int .i64 ((rd_T70 l0 a1).f1), u105002]) ?_ 2 _ rfl; (with_reducible repeat first | apply zN | apply zD | apply zA); exact BK104.out⟩, ⟨pH HB⟩⟩
        ·rw [if_neg c18] at H
         exact absurd H (by simp)
       ·rw [if_neg c16] at H
        exact absurd H (by simp)
      ·rw [if_neg c15] at H
       exact absurd H (by simp)
     ·rw [if_neg c14] at H
      have c14b0 : decide (x23_1 < (t105.length : Int)) = false := decide_eq_false c14
      clear c14
      simp only [Option.some.injEq, Prod.mk.injEq] at H
      obtain ⟨rfl, rfl, rfl⟩ := H
      have hnb25 := NB104_101.out
      have hnc25 := NB101_104.out
      obtain ⟨hcz26_0, hcz26_1, hcz26_2, hfz26_0, hfz26_1, hfz26_2⟩ := cA3 BK104
      obtain ⟨hcz27_0, hcz27_1, hcz27_2, hfz27_0, hfz27_1, hfz27_2⟩ := cA3 BK101
      obtain ⟨Ao28, co28, eo28⟩ := Kd.R_slice HO_105002.out
      subst eo28
      go_wp2
      refine bodyPost_ret (results_cell_row rfl _ _ gb101 54 #[.int .i64 ((rd_T70 l0 a1).f0), .int .i64 ((rd_T70 l0 a1).f1), .slice Ao28 x105002_1.length co28] (0, 0) _ rfl (p3 BK101) Try.underlying54 rfl (by kernel_rfl)) rfl ?_
      exact ⟨_, eW, by (with_reducible repeat (first | apply Kd.R_alloc | apply Kd.R_drewN | apply Kd.R_drew)); exact Kd.R_mono (Kd.R_far (p := ⟨gb101, 2, none⟩) (Kd.R_far (p := ⟨gb101, 1, none⟩) (Kd.R_far (p := ⟨gb101, 0, none⟩) (Kd.R_mono HO_105002.out (fun k_ hk => (⟨hk, hk.1⟩ : _ ∧ k_ ≠ gb101))) (fun _ hk => hk.2) (.int .i64 ((rd_T70 l0 a1).f0))) (fun _ hk => hk.2) (.int .i64 ((rd_T70 l0 a1).f1))) (fun _ hk => hk.2) (.slice Ao28 x105002_1.length co28)) (fun _ hk => trivial), pH HB⟩
  ·rw [if_neg c4] at H
   exact absurd H (by simp)
 ·rw [if_neg c3] at H
  exact absurd H (by simp)


def spec_CombOfTerm.f (k : Nat) (l0 : List (S70)) : Option ((List (S33)) × Bool) := (spec_GoodTerm.f k l0).bind fun t101 => (if t101 = true then ((spec_lcTree.f k l0 0).bind fun bt102 => ((spec_ldOf.f k bt102.1 bt102.2.1 bt102.2.2 0).bind fun bt107 => (if bt107.2.2.2 = true then ((spec_ldTold.f k bt107.1 bt107.2.1 bt107.2.2.1).bind fun bt114 => (some (bt114.1, bt114.2))) else (some (([] : List (S33)), false))))) else (some (([] : List (S33)), false)))
set_option maxHeartbeats 8000000 in
set_option maxRecDepth 100000 in
theorem spec_CombOfTerm.calls (k : Nat) (A0 : Option Addr) (c0 : Nat) (l0 : List (S70)) (r1 : List (S33)) (r2 : Bool) (w : World) (hr0 : Kd.C k70 w A0 l0.length l0) (hc0 : l0.length ≤ c0) (h : spec_CombOfTerm.f k l0 = some (r1, r2)) :
  Calls Try.prog 6 #[.slice A0 l0.length c0] w fun e w' => ∃ v0_ : Value, e = .returned (.tuple #[v0_, .bool r2]) ∧ Kd.R k33 33 w' w.heap.size (fun _ => True) v0_ r1 ∧ Below w.heap.size w w' := by
 have hu49 := Try.underlying49
 have HR0 := aK hr0
 have HC0 := aK hc0
 clear hr0 hc0
 have HB := aK (Below.refl w.heap.size w)
 have H : ((spec_GoodTerm.f k l0).bind fun t101 => (if t101 = true then ((spec_lcTree.f k l0 0).bind fun bt102 => ((spec_ldOf.f k bt102.1 bt102.2.1 bt102.2.2 0).bind fun bt107 => (if bt107.2.2.2 = true then ((spec_ldTold.f k bt107.1 bt107.2.1 bt107.2.2.1).bind fun bt114 => (some (bt114.1, bt114.2))) else (some (([] : List (S33)), false))))) else (some (([] : List (S33)), false)))) = some (r1, r2) := h
 clear h
 replace H := Option.bind_eq_some_iff.mp H
 obtain ⟨t101, A20, H⟩ := H
 try dsimp only at H
 have A2 := aK A20
 clear A20
 by_cases c3 : t101 = true
 ·subst c3
  rw [if_pos rfl] at H
  replace H := Option.bind_eq_some_iff.mp H
  obtain ⟨⟨t102, t103, t104⟩, A40, H⟩ := H
  try dsimp only at H
  have A4 := aK A40
  clear A40
  replace H := Option.bind_eq_some_iff.mp H
  obtain ⟨⟨t107, t108, t109, t112⟩, A50, H⟩ := H
  try dsimp only at H
  have A5 := aK A50
  clear A50
  by_cases c6 : t112 = true
  ·subst c6
   rw [if_pos rfl] at H
   replace H := Option.bind_eq_some_iff.mp H
   obtain ⟨⟨t114, t117⟩, A70, H⟩ := H
   try dsimp only at H
   have A7 := aK A70
   clear A70
   simp only [Option.some.injEq, Prod.mk.injEq] at H
   obtain ⟨rfl, rfl⟩ := H
   go_enter Try.func6, Try.ntmps6
   go_wp2_with (first | ((with_reducible refine gate_callee (f := 13) rfl ?_); refine goesL_ (some 7) rfl rfl Try.func13 (by kernel_rfl) rfl #[.slice A0 l0.length c0] rfl tA ?_; (with_reducible refine (spec_GoodTerm.calls k _ _ l0 true _ ?side1 ?side2 A2.out).mono ?_); (case side1 => exact sC HR0.out); (case side2 => exact HC0.out); rintro e w8 ⟨rfl, hb⟩; refine ⟨_, rfl, ?_⟩; replace HB := qs HB hb; (try clear hb)) | ((with_reducible refine gate_callee (f := 15) rfl ?_); refine goesL_ (some 11) rfl rfl Try.func15 (by kernel_rfl) rfl #[.slice A0 l0.length c0, .int .i64 0] rfl tA ?_; (with_reducible refine (spec_lcTree.calls k _ _ l0 0 t102 t103 t104 _ ?side1 ?side2 A4.out).mono ?_); (case side1 => exact sC (Kd.C_below HR0.out HB.out)); (case side2 => exact HC0.out); rintro e w9 ⟨v105, rfl, ho0, hb⟩; refine ⟨_, rfl, ?_⟩; have HO106 := aK (Kd.R_lower ho0 (below_size HB.out)); replace HB := qs HB hb; (try clear hb); (try clear ho0); obtain ⟨Ao10, co10, eo10⟩ := Kd.R_slice HO106.out; subst eo10) | ((with_reducible refine gate_callee (f := 14) rfl ?_); refine goesL_ (some 12) rfl rfl Try.func14 (by kernel_rfl) rfl #[.agg #[.int .i64 t102, .int .i64 t103, .slice Ao10 t104.length co10], .int .i64 0] rfl tA ?_; (with_reducible refine (spec_ldOf.calls k t102 t103 _ _ t104 0 t107 t108 t109 true _ ?side1 ?side2 A5.out).mono ?_); (case side1 => exact sC ((Kd.R_reads' HO106.out).2.2)); (case side2 => exact (Kd.R_reads' HO106.out).2.1); rintro e w11 ⟨v110, rfl, ho0, hb⟩; refine ⟨_, rfl, ?_⟩; have n0_ := aK (Kd.R_below HO106.out hb); have HO111 := aK (Kd.V_lower (Kd.V_mono (ok' := fun k_ => some k_ ≠ (.slice Ao10 t104.length co10 : Value).ownBlock) ho0 (fun k_ hk_ => (Kd.fresh' (Kd.R_lt HO106.out) k_ hk_))) (below_size HB.out)); clear HO106; have HO106 := n0_; clear n0_; replace HB := qs HB hb; (try clear hb); (try clear ho0)) | ((with_reducible refine gate_dst (N := 4) rfl ?_); refine bE (N := 4) (cs := #[.int .i64 0, .int .i64 0, .slice none 0 0]) (t := 49) ?_; intro gb113 hg w12 hbox hb; have n0_ := aK (Kd.R_below HO106.out hb); have GW113 := qw HB hg; have GE113 := qw HB hg; replace HO111 := qv HO111 hg hb; have BK113 := aK hbox; clear HO106; have HO106 := n0_; clear n0_; replace HB := qs HB hb; clear hb hbox hg; obtain ⟨hcz13_0, hcz13_1, hcz13_2, hfz13_0, hfz13_1, hfz13_2⟩ := cA3 BK113; obtain ⟨Ao14, co14, eo14⟩ := Kd.V_slice HO111.out; subst eo14) | ((with_reducible refine gate_callee (f := 16) rfl ?_); refine goesL_ (some 18) rfl rfl Try.func16 (by kernel_rfl) rfl #[.agg #[.int .i64 t107, .int .i64 t108, .slice Ao14 t109.length co14]] rfl tA ?_; (with_reducible refine (spec_ldTold.calls k t107 t108 _ _ t109 t114 t117 _ ?side1 ?side2 A7.out).mono ?_); (case side1 => refine (Kd.V_reads' (e := 49) (base := w.heap.size) (ok := fun k_ => (some k_ ≠ (.slice Ao10 t104.length co10 : Value).ownBlock ∧ k_ ≠ gb113)) (n := t109.length) (c := co14) ?_).2.2; exact (by (with_reducible repeat (first | apply Kd.V_alloc | apply Kd.V_drewN | apply Kd.V_drew)); exact (Kd.V_mono (vF3 gb113 (Kd.V_mono HO111.out (fun k_ hk => (⟨hk, hk.2⟩ : _ ∧ k_ ≠ gb113))) (fun _ hk => hk.2)) (fun _ h_ => h_.1)))); (case side2 => exact (Kd.V_reads' HO111.out).2.1); rintro e w15 ⟨v115, rfl, ho0, hb⟩; refine ⟨_, rfl, ?_⟩; have n0_ := aK (Kd.R_below (by (with_reducible repeat (first | apply Kd.R_alloc | apply Kd.R_drewN | apply Kd.R_drew)); exact (Kd.R_mono (Kd.R_far (p := ⟨gb113, 2, none⟩) (Kd.R_far (p := ⟨gb113, 1, none⟩) (Kd.R_far (p := ⟨gb113, 0, none⟩) (Kd.R_types HO106.out BK113.out (by decide)) (fun _ hk => hk.2) (.int .i64 t107)) (fun _ hk => hk.2) (.int .i64 t108)) (fun _ hk => hk.2) (.slice Ao14 t109.length co14)) (fun _ h_ => h_.1))) hb); have n1_ := aK (Kd.V_elder' (by (with_reducible repeat (first | apply Kd.V_alloc | apply Kd.V_drewN | apply Kd.V_drew)); exact (Kd.V_mono (vF3 gb113 (Kd.V_mono HO111.out (fun k_ hk => (⟨hk, hk.2⟩ : _ ∧ k_ ≠ gb113))) (fun _ hk => hk.2)) (fun _ h_ => h_.1))) (Kd.R_base ho0) hb); have n2_ := aK (Kd.R_lower ho0 (below_size (pH HB))); have n3_ := aK (blk_below (g := gb113) (o := .cells #[.int .i64 t107, .int .i64 t108, .slice Ao14 t109.length co14] 49 (0, 0)) (p3 BK113) hb); have n4_ := aK (below_step (pH HB) hb); clear HO106; clear HO111; clear BK113; clear HB; have HO106 := n0_; have HO111 := n1_; have HO116 := n2_; have BK113 := n3_; have HB := n4_; clear n0_ n1_ n2_ n3_ n4_; (try clear hb); (try clear ho0)))
   go_ret2
   exact ⟨_, eW, by (with_reducible repeat (first | apply Kd.R_alloc | apply Kd.R_drewN | apply Kd.R_drew)); exact HO116.out, pH HB⟩
  ·replace c6 := Bool.eq_false_iff.mpr c6
   subst c6
   rw [if_neg (show ¬ (false = true) by decide)] at H
   simp only [Option.some.injEq, Prod.mk.injEq] at H
   obtain ⟨rfl, rfl⟩ := H
   go_enter Try.func6, Try.ntmps6
   go_wp2_with (first | ((with_reducible refine gate_callee (f := 13) rfl ?_); refine goesL_ (some 7) rfl rfl Try.func13 (by kernel_rfl) rfl #[.slice A0 l0.length c0] rfl tA ?_; (with_reducible refine (spec_GoodTerm.calls k _ _ l0 true _ ?side1 ?side2 A2.out).mono ?_); (case side1 => exact sC HR0.out); (case side2 => exact HC0.out); rintro e w16 ⟨rfl, hb⟩; refine ⟨_, rfl, ?_⟩; replace HB := qs HB hb; (try clear hb)) | ((with_reducible refine gate_callee (f := 15) rfl ?_); refine goesL_ (some 11) rfl rfl Try.func15 (by kernel_rfl) rfl #[.slice A0 l0.length c0, .int .i64 0] rfl tA ?_; (with_reducible refine (spec_lcTree.calls k _ _ l0 0 t102 t103 t104 _ ?side1 ?side2 A4.out).mono ?_); (case side1 => exact sC (Kd.C_below HR0.out HB.out)); (case side2 => exact HC0.out); rintro e w17 ⟨v105, rfl, ho0, hb⟩; refine ⟨_, rfl, ?_⟩; have HO106 := aK (Kd.R_lower ho0 (below_size HB.out)); replace HB := qs HB hb; (try clear hb); (try clear ho0); obtain ⟨Ao18, co18, eo18⟩ := Kd.R_slice HO106.out; subst eo18) | ((with_reducible refine gate_callee (f := 14) rfl ?_); refine goesL_ (some 12) rfl rfl Try.func14 (by kernel_rfl) rfl #[.agg #[.int .i64 t102, .int .i64 t103, .slice Ao18 t104.length co18], .int .i64 0] rfl tA ?_; (with_reducible refine (spec_ldOf.calls k t102 t103 _ _ t104 0 t107 t108 t109 false _ ?side1 ?side2 A5.out).mono ?_); (case side1 => exact sC ((Kd.R_reads' HO106.out).2.2)); (case side2 => exact (Kd.R_reads' HO106.out).2.1); rintro e w19 ⟨v110, rfl, ho0, hb⟩; refine ⟨_, rfl, ?_⟩; have n0_ := aK (Kd.R_below HO106.out hb); have HO111 := aK (Kd.V_lower (Kd.V_mono (ok' := fun k_ => some k_ ≠ (.slice Ao18 t104.length co18 : Value).ownBlock) ho0 (fun k_ hk_ => (Kd.fresh' (Kd.R_lt HO106.out) k_ hk_))) (below_size HB.out)); clear HO106; have HO106 := n0_; clear n0_; replace HB := qs HB hb; (try clear hb); (try clear ho0)) | ((with_reducible refine gate_dst (N := 4) rfl ?_); refine bE (N := 4) (cs := #[.int .i64 0, .int .i64 0, .slice none 0 0]) (t := 49) ?_; intro gb113 hg w20 hbox hb; have n0_ := aK (Kd.R_below HO106.out hb); have GW113 := qw HB hg; have GE113 := qw HB hg; replace HO111 := qv HO111 hg hb; have BK113 := aK hbox; clear HO106; have HO106 := n0_; clear n0_; replace HB := qs HB hb; clear hb hbox hg; obtain ⟨hcz21_0, hcz21_1, hcz21_2, hfz21_0, hfz21_1, hfz21_2⟩ := cA3 BK113; obtain ⟨Ao22, co22, eo22⟩ := Kd.V_slice HO111.out; subst eo22))
   go_ret2
   exact ⟨_, eW, by first | exact Kd.R_nil _ _ _ _ _ | exact Kd.N_nil _ _ _ _ _ | exact Kd.V_nil _ _ _ _ _ | exact Kd.Q_nil _ _ _ _ _ | exact Kd.S_nil _ _ _ _ _, pH HB⟩
 ·replace c3 := Bool.eq_false_iff.mpr c3
  subst c3
  rw [if_neg (show ¬ (false = true) by decide)] at H
  simp only [Option.some.injEq, Prod.mk.injEq] at H
  obtain ⟨rfl, rfl⟩ := H
  go_enter Try.func6, Try.ntmps6
  go_wp2_with (first | ((with_reducible refine gate_callee (f := 13) rfl ?_); refine goesL_ (some 7) rfl rfl Try.func13 (by kernel_rfl) rfl #[.slice A0 l0.length c0] rfl tA ?_; (with_reducible refine (spec_GoodTerm.calls k _ _ l0 false _ ?side1 ?side2 A2.out).mono ?_); (case side1 => exact sC HR0.out); (case side2 => exact HC0.out); rintro e w23 ⟨rfl, hb⟩; refine ⟨_, rfl, ?_⟩; replace HB := qs HB hb; (try clear hb)))
  go_ret2
  exact ⟨_, eW, by first | exact Kd.R_nil _ _ _ _ _ | exact Kd.N_nil _ _ _ _ _ | exact Kd.V_nil _ _ _ _ _ | exact Kd.Q_nil _ _ _ _ _ | exact Kd.S_nil _ _ _ _ _, pH HB⟩


theorem eqA33 (d : Nat) (w : World) (x0 y0 : Int) (x1 y1 : Int) (x2 y2 : Int) :
    (Op.equalIn (d + 2) 33 (.agg #[.int .i64 x0, .int .i64 x1, .int .i64 x2]) (.agg #[.int .i64 y0, .int .i64 y1, .int .i64 y2])).run Try.prog w = .ok (x0 == y0 && (x1 == y1 && (x2 == y2))) w := by
  refine eqA_of Try.underlying33 (by kernel_rfl) ?_
  refine eqf_cons (by rfl) (by go_simp; rfl) (by go_simp; rfl) (by go_simp) ?_
  refine eqf_cons (by rfl) (by go_simp; rfl) (by go_simp; rfl) (by go_simp) ?_
  exact eqf_last (by rfl) (by go_simp; rfl) (by go_simp; rfl) (by go_simp)

attribute [local go_sem high] eqA33
def laws_sameCombs.l0 : Nat → List (S33) → List (S33) → Int → Int → Option (Bool)
 | 0, _, _, _, _ => none
 | k + 1, x0, x1, x12, x13 => if x13 < x12 then (if 0 ≤ x13 then (if x13 < (x0.length : Int) then (if x13 < (x1.length : Int) then (if (!(((rd_T33 x0 x13).f0) == ((rd_T33 x1 x13).f0)) || (!(((rd_T33 x0 x13).f1) == ((rd_T33 x1 x13).f1)) || (!(((rd_T33 x0 x13).f2) == ((rd_T33 x1 x13).f2))))) = true then (some false) else (laws_sameCombs.l0 k x0 x1 x12 (wrap64 (x13 + 1)))) else (none)) else (none)) else (none)) else (some true)
def laws_sameCombs.f (k : Nat) (l0 : List (S33)) (l1 : List (S33)) : Option (Bool) := if (l0.length : Int) = (l1.length : Int) then (laws_sameCombs.l0 k l0 l1 (l0.length : Int) 0) else (some false)
set_option maxHeartbeats 8000000 in
set_option maxRecDepth 100000 in
theorem laws_sameCombs.calls (k : Nat) (A0 : Option Addr) (c0 : Nat) (l0 : List (S33)) (A1 : Option Addr) (c1 : Nat) (l1 : List (S33)) (r : Bool) (w : World) (hr0 : Kd.C k33 w A0 l0.length l0) (hc0 : l0.length ≤ c0) (hr1 : Kd.C k33 w A1 l1.length l1) (hc1 : l1.length ≤ c1) (h : laws_sameCombs.f k l0 l1 = some r) :
  Calls Try.prog 7 #[.slice A0 l0.length c0, .slice A1 l1.length c1] w fun e w' => e = .returned (.bool r) ∧ Drawn0 w w' := by
 have hu33 := Try.underlying33
 have HR0 := aK hr0
 have HC0 := aK hc0
 clear hr0 hc0
 have HR1 := aK hr1
 have HC1 := aK hc1
 clear hr1 hc1
 have H : (if (l0.length : Int) = (l1.length : Int) then (laws_sameCombs.l0 k l0 l1 (l0.length : Int) 0) else (some false)) = some r := h
 clear h
 by_cases c3 : (l0.length : Int) = (l1.length : Int)
 ·rw [if_pos c3] at H
  have c3b0 : ((l0.length : Int) == (l1.length : Int)) = true := beq_iff_eq.mpr c3
  have c3b1 : ((l0.length : Int) != (l1.length : Int)) = false := bne_eq_false_iff_eq.mpr c3
  have c3b2 : (l0.length == l1.length) = true := by first | simpa using c3 | (simp at c3 ⊢; omega)
  clear c3
  have H' := aK H
  clear H
  go_enter Try.func7, Try.ntmps7
  go_wp2
  repeat (go_quiet (fail); try go_wp2)
  go_loopg [13] k (fun kq v13 w' => ∃ (x13_1 : Int), v13 = .int .i64 x13_1 ∧ Aside0 (laws_sameCombs.l0 kq l0 l1 (l0.length : Int) x13_1 = some r) ∧ Aside0 (kq ≤ k) ∧ Drawn0 w w')
  case atStart => exact ⟨(0), rS, H', ⟨Nat.le_refl _⟩, by repeat (first | exact Drawn0.refl _ | apply Drawn0.step)⟩
  case round =>
   clear H'
   try clear c1; try clear p2; try clear c3; try clear c3b0; try clear c3b1; try clear c3b2
   obtain ⟨x13_1, rfl, HA, HK1, ⟨m1, rfl⟩⟩ := hrel
   cases gk with
   | zero => exact absurd HA.out (by simp [laws_sameCombs.l0])
   | succ k1 =>
    have H := HA.out
    clear HA
    simp only [laws_sameCombs.l0] at H
    by_cases c4 : x13_1 < (l0.length : Int)
    ·rw [if_pos c4] at H
     have c4b0 : decide (x13_1 < (l0.length : Int)) = true := decide_eq_true c4
     clear c4
     by_cases c5 : 0 ≤ x13_1
     ·rw [if_pos c5] at H
      have c5b0 : decide (0 ≤ x13_1) = true := decide_eq_true c5
      clear c5
      by_cases c6 : x13_1 < (l0.length : Int)
      ·rw [if_pos c6] at H
       have c6b0 : decide (x13_1 < (l0.length : Int)) = true := decide_eq_true c6
       clear c6
       by_cases c7 : x13_1 < (l1.length : Int)
       ·rw [if_pos c7] at H
        have c7b0 : decide (x13_1 < (l1.length : Int)) = true := decide_eq_true c7
        clear c7
        by_cases c8 : (!(((rd_T33 l0 x13_1).f0) == ((rd_T33 l1 x13_1).f0)) || (!(((rd_T33 l0 x13_1).f1) == ((rd_T33 l1 x13_1).f1)) || (!(((rd_T33 l0 x13_1).f2) == ((rd_T33 l1 x13_1).f2))))) = true
        ·rw [if_pos c8] at H
         have c8b0 : (!(((rd_T33 l0 x13_1).f0) == ((rd_T33 l1 x13_1).f0)) || (!(((rd_T33 l0 x13_1).f1) == ((rd_T33 l1 x13_1).f1)) || (!(((rd_T33 l0 x13_1).f2) == ((rd_T33 l1 x13_1).f2))))) = true := c8
         clear c8
         obtain rfl := Option.some.inj H
         have p101 : 0 ≤ (x13_1 : Int) := dA
         have q101 : x13_1 < (l0.length : Int) := dA
         obtain ⟨ad101, e101, hx101_0, hx101_1, hx101_2⟩ := at_T33 HR0.out x13_1 p101 q101
         cases e101
         replace p101 := eq_true p101
         replace q101 := eq_true q101
         have p102 : 0 ≤ (x13_1 : Int) := dA
         have q102 : x13_1 < (l1.length : Int) := dA
         obtain ⟨ad102, e102, hx102_0, hx102_1, hx102_2⟩ := at_T33 HR1.out x13_1 p102 q102
         cases e102
         replace p102 := eq_true p102
         replace q102 := eq_true q102
         go_wp2
         repeat (go_quiet (fail); try go_wp2)
         go_ret
         exact ⟨by first | rfl | (simp; done) | (simp [*]; done), by repeat (first | exact Drawn0.refl _ | apply Drawn0.step)⟩
        ·rw [if_neg c8] at H
         have c8b0 : (!(((rd_T33 l0 x13_1).f0) == ((rd_T33 l1 x13_1).f0)) || (!(((rd_T33 l0 x13_1).f1) == ((rd_T33 l1 x13_1).f1)) || (!(((rd_T33 l0 x13_1).f2) == ((rd_T33 l1 x13_1).f2))))) = false := by simpa using c8
         clear c8
         have H' := aK H
         clear H
         have p101 : 0 ≤ (x13_1 : Int) := dA
         have q101 : x13_1 < (l0.length : Int) := dA
         obtain ⟨ad101, e101, hx101_0, hx101_1, hx101_2⟩ := at_T33 HR0.out x13_1 p101 q101
         cases e101
         replace p101 := eq_true p101
         replace q101 := eq_true q101
         have p102 : 0 ≤ (x13_1 : Int) := dA
         have q102 : x13_1 < (l1.length : Int) := dA
         obtain ⟨ad102, e102, hx102_0, hx102_1, hx102_2⟩ := at_T33 HR1.out x13_1 p102 q102
         cases e102
         replace p102 := eq_true p102
         replace q102 := eq_true q102
         go_wp2
         repeat (go_quiet (fail); try go_wp2)
         go_roundg k1
         case measure => have := HK1.out; omega
         case rel => exact ⟨(wrap64 (x13_1 + 1)), rS, H', ⟨by have := HK1.out; omega⟩, by repeat (first | exact Drawn0.refl _ | apply Drawn0.step)⟩
       ·rw [if_neg c7] at H
        exact absurd H (by simp)
      ·rw [if_neg c6] at H
       exact absurd H (by simp)
     ·rw [if_neg c5] at H
      exact absurd H (by simp)
    ·rw [if_neg c4] at H
     have c4b0 : decide (x13_1 < (l0.length : Int)) = false := decide_eq_false c4
     clear c4
     obtain rfl := Option.some.inj H
     go_wp2
     repeat (go_quiet (fail); try go_wp2)
     go_ret
     exact ⟨by first | rfl | (simp; done) | (simp [*]; done), by repeat (first | exact Drawn0.refl _ | apply Drawn0.step)⟩
 ·rw [if_neg c3] at H
  have c3b0 : ((l0.length : Int) == (l1.length : Int)) = false := beq_eq_false_iff_ne.mpr c3
  have c3b1 : ((l0.length : Int) != (l1.length : Int)) = true := bne_iff_ne.mpr c3
  have c3b2 : (l0.length == l1.length) = false := by first | simpa using c3 | (simp at c3 ⊢; omega)
  obtain rfl := Option.some.inj H
  go_enter Try.func7, Try.ntmps7
  go_wp2
  repeat (go_quiet (fail); try go_wp2)
  go_ret
  exact ⟨by first | rfl | (simp; done) | (simp [*]; done), by repeat (first | exact Drawn0.refl _ | apply Drawn0.step)⟩


namespace Free37
mutual
def frT : S37 → Int → List Int → List Int
 | ⟨k, n, ks⟩, ar, l => frL ks (if k = 2 then wrap64 (ar + 1) else ar) (if k = 1 ∧ ar ≤ n then l ++ [wrap64 (n - ar)] else l)
def frL : List S37 → Int → List Int → List Int
 | [], _, l => l
 | x :: xs, ar, l => frL xs ar (frT x ar l)
end
mutual
def szT : S37 → Nat
 | ⟨_, _, ks⟩ => 1 + szL ks
def szL : List S37 → Nat
 | [] => 0
 | x :: xs => szT x + szL xs
end
theorem frT_eq (x : S37) (ar : Int) (l : List Int) : frT x ar l = frL x.f2 (if x.f0 = 2 then wrap64 (ar + 1) else ar) (if x.f0 = 1 ∧ ar ≤ x.f1 then l ++ [wrap64 (x.f1 - ar)] else l) := by cases x; rw [frT]
theorem szT_eq (x : S37) : szT x = 1 + szL x.f2 := by cases x; rw [szT]
theorem frL_cons (x : S37) (xs : List S37) (ar : Int) (l : List Int) : frL (x :: xs) ar l = frL xs ar (frT x ar l) := by rw [frL]
theorem frL_nil (ar : Int) (l : List Int) : frL [] ar l = l := by rw [frL]
theorem szL_cons (x : S37) (xs : List S37) : szL (x :: xs) = szT x + szL xs := by rw [szL]
theorem rd_drop (l : List S37) (i : Nat) (h : i < l.length) : l.drop i = rd_T37 l (i : Int) :: l.drop (i + 1) := by
 rw [List.drop_eq_getElem_cons h]
 congr 1
 unfold rd_T37
 rw [Int.toNat_natCast, List.getD_eq_getElem?_getD, List.getElem?_eq_getElem h]; rfl
theorem rd_mem (l : List S37) (i : Int) (h0 : 0 ≤ i) (h1 : i < l.length) : rd_T37 l i ∈ l := by
 have hlt : i.toNat < l.length := by omega
 have e : rd_T37 l i = l[i.toNat] := by unfold rd_T37; rw [List.getD_eq_getElem?_getD, List.getElem?_eq_getElem hlt]; rfl
 rw [e]; exact List.getElem_mem hlt
theorem len_of : ∀ (N : Nat), (∀ (x : S37) (ar : Int) (l : List Int), SizeOf.sizeOf x ≤ N → (frT x ar l).length ≤ l.length + szT x) ∧ (∀ (xs : List S37) (ar : Int) (l : List Int), SizeOf.sizeOf xs ≤ N → (frL xs ar l).length ≤ l.length + szL xs) := by
 intro N
 induction N with
 | zero =>
  refine ⟨fun x ar l h => ?_, fun xs ar l h => ?_⟩
  ·cases x; simp at h
  ·cases xs <;> simp at h
 | succ N ih =>
  refine ⟨fun x ar l h => ?_, fun xs ar l h => ?_⟩
  ·cases x with
   | mk k n ks =>
    rw [frT, szT]
    have h1 := ih.2 ks (if k = 2 then wrap64 (ar + 1) else ar) (if k = 1 ∧ ar ≤ n then l ++ [wrap64 (n - ar)] else l) (by simp at h; omega)
    have h2 : (if k = 1 ∧ ar ≤ n then l ++ [wrap64 (n - ar)] else l).length ≤ l.length + 1 := by split <;> simp
    omega
  ·cases xs with
   | nil => rw [frL, szL]; exact Nat.le_refl _
   | cons x xs =>
    have h1 : SizeOf.sizeOf x ≤ N := by simp at h; omega
    have h2 : SizeOf.sizeOf xs ≤ N := by simp at h; omega
    rw [frL, szL]
    have := ih.2 xs ar (frT x ar l) h2
    have := ih.1 x ar l h1
    omega
theorem frT_len (x : S37) (ar : Int) (l : List Int) : (frT x ar l).length ≤ l.length + szT x := (len_of _).1 x ar l (Nat.le_refl _)

set_option maxHeartbeats 4000000 in
set_option maxRecDepth 100000 in
theorem put_one (w0 : World) (go : Nat) (hgo : w0.heap.size ≤ go) (x : Int) (l : List Int) (A0 : Option Addr) (c0 : Nat) (w : World) (hl : l.length ≤ 200000) (hO : Kd.R (Kd.int .i64) 3 w w0.heap.size (fun _ => True) (.slice A0 l.length c0) l) (hB : Below w0.heap.size w0 w) (hbo : w.heap[go]? = some (.cells #[.slice A0 l.length c0] 29 (0, 0))) :
  Calls Try.prog 33 #[.int .i64 x, .pointer (some ⟨go, 0, none⟩)] w fun e w' => ∃ A1 n1 c1, e = .returned (.tuple #[]) ∧ w'.heap[go]? = some (.cells #[.slice A1 n1 c1] 29 (0, 0)) ∧ Kd.R (Kd.int .i64) 3 w' w0.heap.size (fun _ => True) (.slice A1 n1 c1) (l ++ [x]) ∧ Below w0.heap.size w0 w' ∧ (∀ (k : Nat) (o : Obj), w.heap[k]? = some o → k ≠ go → some k ≠ (.slice A0 l.length c0 : Value).ownBlock → w'.heap[k]? = w.heap[k]?) := by
 have hu36 := Try.underlying29
 have HL := aK hl
 have HO := aK hO
 have HB := aK hB
 have BO := aK hbo
 have GO := aK hgo
 clear hl hO hB hbo hgo
 have hczo_0 : w.cell? ⟨go, 0, none⟩ = some (.slice A0 l.length c0) := (blk_cell BO.out 0).trans rfl
 have hfzo_0 := blk_frozen BO.out 0
 go_enter Try.func33, Try.ntmps33
 go_wp2_with (first | ((with_reducible refine gate_builtin (b := .append) (xs := #[.tmp 3, .tmp 5]) rfl ?_); at_builtin; refine Kd.R_append (Kd.int .i64) (w0 := w0) w0.heap.size rfl (.tmp 3) (.tmp 5) 29 3 (.int .i64 0) 8 rfl Try.underlying29 info3 rfl (by decide) (by omega) (.slice A0 l.length c0) l x [.int .i64 x] (fun _ => True) (fun _ => False) rfl (by first | (go_simp; done) | (go_simp; rfl)) ?aP (fun _ hk => hk.elim) ?aF ?aO ?aB ?aS ?aL ?_; (case aP => exact rfl); (case aB => exact HB.out); (case aF => exact (fun _ _ => trivial)); (case aO => exact HO.out); (case aS => exact (below_size HB.out)); (case aL => have := HL.out; omega); intro v1 w7 ho hb hg hat; have KG := aK hg; obtain ⟨A3, c3, hv3⟩ := Kd.R_slice ho; obtain ⟨n3, hn3⟩ : ∃ n3, n3 = (l ++ [x]).length := ⟨_, rfl⟩; rw [← hn3] at hv3; subst hv3; clear hn3; have m0_ := aK (hb); have m1_ := aK ((hg.block go (blk_lt BO.out) (Kd.R_ne HO.out BO.out (by decide))).trans BO.out); have m2_ := aK (ho); clear HB BO HO hczo_0 hfzo_0; have HB := m0_; have BO := m1_; have HO := m2_; clear m0_ m1_ m2_; clear ho hb hg hat; have hczp_0 : w7.cell? ⟨go, 0, none⟩ = some (.slice A0 l.length c0) := (blk_cell BO.out 0).trans rfl; have hfzp_0 := blk_frozen BO.out 0))
 go_end0
 exact ⟨A3, n3, c3, rfl, by refine blk_put (cs := #[.slice A0 l.length c0]) ?_ 0 _ rfl; exact BO.out, Kd.R_mono (Kd.R_far (p := ⟨go, 0, none⟩) (Kd.R_types HO.out BO.out (by decide)) (fun _ hk => hk.2) (.slice A3 n3 c3)) (fun _ hk => hk.1), below_set HB.out GO.out, fun k o hk hne hno => by
  have hlt : k < w.heap.size := blk_lt hk
  rw [Below.heap_setCell _ ⟨go, 0, none⟩ _ k hne]
  exact KG.out.block k hlt hno⟩

set_option maxHeartbeats 8000000 in
set_option maxRecDepth 100000 in
theorem node_some (w0 : World) (go : Nat) (hgo : w0.heap.size ≤ go) (a0 a1 ar : Int) (ks : List S37) (A : Option Addr) (c : Nat) (l : List Int) (A0 : Option Addr) (c0 : Nat) (w : World) (hC : Kd.C k37 w0 A ks.length ks) (hc : ks.length ≤ c) (hl : l.length + (1 + szL ks) ≤ 200000)
  (hO : Kd.R (Kd.int .i64) 3 w w0.heap.size (fun _ => True) (.slice A0 l.length c0) l) (hB : Below w0.heap.size w0 w) (hbo : w.heap[go]? = some (.cells #[.slice A0 l.length c0] 29 (0, 0)))
  (ih : ∀ (j : Nat) (A : Option Addr) (c : Nat) (ar : Int) (acc : List Int) (v : Value) (w : World), j < ks.length → (rd_T37 ks (j : Int)).f2.length ≤ c → acc.length + szT (rd_T37 ks (j : Int)) ≤ 200000 → Kd.R (Kd.int .i64) 3 w w0.heap.size (fun _ => True) v acc → Below w0.heap.size w0 w → w.heap[go]? = some (.cells #[v] 29 (0, 0)) → Kd.C k37 w0 A (rd_T37 ks (j : Int)).f2.length (rd_T37 ks (j : Int)).f2 →
   Calls Try.prog 32 #[.agg #[.int .i64 (rd_T37 ks (j : Int)).f0, .int .i64 (rd_T37 ks (j : Int)).f1, .slice A (rd_T37 ks (j : Int)).f2.length c], .int .i64 ar, .func (.func 33) #[] #[.pointer (some ⟨go, 0, none⟩)]] w fun e w' => ∃ A1 n1 c1, e = .returned (.tuple #[]) ∧ w'.heap[go]? = some (.cells #[.slice A1 n1 c1] 29 (0, 0)) ∧ Kd.R (Kd.int .i64) 3 w' w0.heap.size (fun _ => True) (.slice A1 n1 c1) (frT (rd_T37 ks (j : Int)) ar acc) ∧ Below w0.heap.size w0 w') :
  Calls Try.prog 32 #[.agg #[.int .i64 a0, .int .i64 a1, .slice A ks.length c], .int .i64 ar, .func (.func 33) #[] #[.pointer (some ⟨go, 0, none⟩)]] w fun e w' => ∃ A1 n1 c1, e = .returned (.tuple #[]) ∧ w'.heap[go]? = some (.cells #[.slice A1 n1 c1] 29 (0, 0)) ∧ Kd.R (Kd.int .i64) 3 w' w0.heap.size (fun _ => True) (.slice A1 n1 c1) (frL ks (if a0 = 2 then wrap64 (ar + 1) else ar) (if a0 = 1 ∧ ar ≤ a1 then l ++ [wrap64 (a1 - ar)] else l)) ∧ Below w0.heap.size w0 w' := by
 have hu68 := Try.underlying37
 have hu36 := Try.underlying29
 have e83 := enters_ Try.func32 (by kernel_rfl) rfl
 have e84 := enters_ Try.func33 (by kernel_rfl) rfl
 have HM := aK hC.2.1
 have HC0 := aK hC
 have HL := aK (show l.length ≤ 200000 by omega)
 have HZ := aK hl
 have HO := aK hO
 have HB := aK hB
 have BO := aK hbo
 have GO := aK hgo
 have IH := aK ih
 clear hC hl hO hB ih hbo hgo
 have NG : Aside0 (∀ {gb : Nat} {v : Value} {W : World}, W.heap[gb]? = some (.cells #[.int .i64 a0, .int .i64 a1, .slice A ks.length c] 37 (0, 0)) → W.heap[go]? = some (.cells #[v] 29 (0, 0)) → gb ≠ go) := ⟨fun h1 h2 e => by subst e; rw [h1] at h2; simp at h2⟩
 by_cases ca : a0 = 1
 ·have k1b : (a0 == 1) = true := beq_iff_eq.mpr ca
  have k2b : (a0 == 2) = false := beq_eq_false_iff_ne.mpr (by omega)
  have en : (if a0 = 2 then wrap64 (ar + 1) else ar) = ar := if_neg (by omega)
  rw [en]
  clear en
  by_cases cg : ar ≤ a1
  ·have cgb : decide (ar ≤ a1) = true := decide_eq_true cg
   have en : (if a0 = 1 ∧ ar ≤ a1 then l ++ [wrap64 (a1 - ar)] else l) = l ++ [wrap64 (a1 - ar)] := if_pos ⟨ca, cg⟩
   rw [en]
   clear en cg ca
   go_enter Try.func32, Try.ntmps32
   go_wp2_with (first | ((with_reducible refine gate_dst (N := 3) rfl ?_); refine bE (N := 3) (cs := #[.int .i64 a0, .int .i64 a1, .slice A ks.length c]) (t := 37) ?_; intro gb hg w5 hbox hb; have m0_ := aK (below_step HB.out hb); have m1_ := aK (hbox); have m2_ := aK (Kd.R_below HO.out hb); have m3_ := aK (blk_below (g := go) (o := .cells #[.slice A0 l.length c0] 29 (0, 0)) BO.out hb); have m4_ := aK ((by rw [hg]; exact below_size HB.out : w0.heap.size ≤ gb)); clear HB HO BO; have HB := m0_; have BK := m1_; have HO := m2_; have BO := m3_; have GEB := m4_; clear m0_ m1_ m2_ m3_ m4_; clear hb hbox hg; have hcz_0 : w5.cell? ⟨gb, 0, none⟩ = some (.int .i64 a0) := (blk_cell BK.out 0).trans rfl; have hcz_1 : w5.cell? ⟨gb, 1, none⟩ = some (.int .i64 a1) := (blk_cell BK.out 1).trans rfl; have hcz_2 : w5.cell? ⟨gb, 2, none⟩ = some (.slice A ks.length c) := (blk_cell BK.out 2).trans rfl; have hfz_0 := blk_frozen BK.out 0; have hfz_1 := blk_frozen BK.out 1; have hfz_2 := blk_frozen BK.out 2))
   refine (put_one w0 go GO.out (wrap64 (a1 - ar)) l A0 c0 _ HL.out HO.out HB.out BO.out).mono ?_
   rintro e w7 ⟨A4, n4, c4, rfl, bo2, ho2, hb2, hkp⟩
   have BKn := aK ((hkp gb _ BK.out (NG.out BK.out BO.out) (Kd.R_ne HO.out BK.out (by decide))).trans BK.out)
   clear hkp BK HO HB BO hcz_0 hcz_1 hcz_2 hfz_0 hfz_1 hfz_2
   have BK := BKn
   clear BKn
   have HO := aK ho2
   have HB := aK hb2
   have BO := aK bo2
   clear ho2 hb2 bo2
   have hcza_0 : w7.cell? ⟨gb, 0, none⟩ = some (.int .i64 a0) := (blk_cell BK.out 0).trans rfl
   have hcza_1 : w7.cell? ⟨gb, 1, none⟩ = some (.int .i64 a1) := (blk_cell BK.out 1).trans rfl
   have hcza_2 : w7.cell? ⟨gb, 2, none⟩ = some (.slice A ks.length c) := (blk_cell BK.out 2).trans rfl
   have hfza_0 := blk_frozen BK.out 0
   have hfza_1 := blk_frozen BK.out 1
   have hfza_2 := blk_frozen BK.out 2
   go_wp2
   go_loopg [31] (ks.length + 1) (fun kq v31 w' => ∃ (i : Int) (acc : List Int) (A1 : Option Addr) (n1 c1 : Nat), v31 = .int .i64 i ∧ Aside0 (Kd.R (Kd.int .i64) 3 w' w0.heap.size (fun _ => True) (.slice A1 n1 c1) acc) ∧ Aside0 (0 ≤ i ∧ i ≤ ks.length ∧ (kq : Int) = ks.length - i + 1) ∧ Aside0 (acc.length + szL (ks.drop i.toNat) ≤ 200000 ∧ frL (ks.drop i.toNat) ar acc = frL ks ar (l ++ [wrap64 (a1 - ar)])) ∧ Aside0 (Below w0.heap.size w0 w') ∧ Aside0 (w'.heap[go]? = some (.cells #[.slice A1 n1 c1] 29 (0, 0))))
   case atStart => exact ⟨0, (l ++ [wrap64 (a1 - ar)]), _, _, _, rfl, HO, ⟨by omega, by omega, by omega⟩, ⟨by have := HZ.out; rw [show (0 : Int).toNat = 0 from rfl, List.drop_zero]; (try rw [List.length_append, List.length_singleton]); omega, by rw [show (0 : Int).toNat = 0 from rfl, List.drop_zero]⟩, HB, BO⟩
   case round =>
    clear HO HB BO BK
    obtain ⟨i, acc, A1, n1, c1, rfl, HO, HA, HF, HB, BO⟩ := hrel
    by_cases c2 : i < (ks.length : Int)
    ·have cb : decide (i < (ks.length : Int)) = true := decide_eq_true c2
     have cz : decide (0 ≤ i) = true := decide_eq_true HA.out.1
     obtain ⟨j, rfl⟩ : ∃ j : Nat, i = (j : Int) := ⟨i.toNat, by have := HA.out.1; omega⟩
     obtain ⟨ad, A2, c2_, e1, hx0, hx1, hx2, hl2, hi2⟩ := at_T37 (HC0.out) (j : Int) HA.out.1 c2
     cases e1
     simp only [Int.toNat_natCast] at hx0 hx1 hx2
     have HC2 := aK hl2
     have HR2 := aK hi2
     clear hl2 hi2
     replace hx0 := uC HB hx0
     replace hx1 := uC HB hx1
     replace hx2 := uC HB hx2
     have w1 : wrap64 ((j : Int) + 1) = (j : Int) + 1 := by have := HM.out; unfold wrap64; omega
     have W1 := aK w1
     have PI := aK (show j < ks.length by omega)
     have p1 := eq_true HA.out.1
     have q1 := eq_true c2
     clear c2 w1
     have e9 : frL (ks.drop j) ar acc = frL (ks.drop (j + 1)) ar (frT (rd_T37 ks (j : Int)) ar acc) := by rw [rd_drop ks j PI.out, frL_cons]
     have E9 := aK e9
     have e8 : szL (ks.drop j) = szT (rd_T37 ks (j : Int)) + szL (ks.drop (j + 1)) := by rw [rd_drop ks j PI.out, szL_cons]
     have E8 := aK e8
     have CL : Aside0 (acc.length + szT (rd_T37 ks (j : Int)) ≤ 200000) := ⟨by have h := HF.out.1; rw [show ((j : Int)).toNat = j by omega, e8] at h; omega⟩
     clear e9 e8
     obtain ⟨k1, rfl⟩ : ∃ m, gk = m + 1 := ⟨gk - 1, by have := HA.out; have := PI.out; omega⟩
     go_wp2_with ((with_reducible refine gate_dst (N := 7) rfl ?_); refine bE (N := 7) (cs := #[.int .i64 0, .int .i64 0, .slice none 0 0]) (t := 37) ?_; intro g2 hg w9 hbox hb; have hy0 := (hb.cell (World.block_lt_of_cell? _ _ hx0)).trans hx0; have hy1 := (hb.cell (World.block_lt_of_cell? _ _ hx1)).trans hx1; have hy2 := (hb.cell (World.block_lt_of_cell? _ _ hx2)).trans hx2; clear hx0 hx1 hx2; have hx0 := hy0; have hx1 := hy1; have hx2 := hy2; clear hy0 hy1 hy2; have m0_ := aK (below_step HB.out hb); have m1_ := aK (hbox); have m2_ := aK (Kd.R_below HO.out hb); have m3_ := aK (blk_below (g := go) (o := .cells #[.slice A1 n1 c1] 29 (0, 0)) BO.out hb); have m4_ := aK ((by rw [hg]; exact below_size HB.out : w0.heap.size ≤ g2)); have m5_ := aK ((by rw [hg]; exact Nat.ne_of_lt (blk_lt BO.out) : go ≠ g2)); clear HB HO BO; have HB := m0_; have BK2 := m1_; have HO := m2_; have BO := m3_; have GE2 := m4_; have N2O := m5_; clear m0_ m1_ m2_ m3_ m4_ m5_; clear hb hbox hg; have hn1_ := N2O.out; have hczb_0 : w9.cell? ⟨g2, 0, none⟩ = some (.int .i64 0) := (blk_cell BK2.out 0).trans rfl; have hczb_1 : w9.cell? ⟨g2, 1, none⟩ = some (.int .i64 0) := (blk_cell BK2.out 1).trans rfl; have hczb_2 : w9.cell? ⟨g2, 2, none⟩ = some (.slice none 0 0) := (blk_cell BK2.out 2).trans rfl; have hfzb_0 := blk_frozen BK2.out 0; have hfzb_1 := blk_frozen BK2.out 1; have hfzb_2 := blk_frozen BK2.out 2; have hczq_0 : w9.cell? ⟨go, 0, none⟩ = some (.slice A1 n1 c1) := (blk_cell BO.out 0).trans rfl; have hfzq_0 := blk_frozen BO.out 0)
     refine (IH.out j A2 c2_ ar acc (.slice A1 n1 c1) _ PI.out HC2.out (by have := CL.out; omega) (Kd.R_mono (Kd.R_far (p := ⟨g2, 2, none⟩) (Kd.R_far (p := ⟨g2, 1, none⟩) (Kd.R_far (p := ⟨g2, 0, none⟩) (Kd.R_types HO.out BK2.out (by decide)) (fun _ hk => hk.2) (.int .i64 (rd_T37 ks (j : Int)).f0)) (fun _ hk => hk.2) (.int .i64 (rd_T37 ks (j : Int)).f1)) (fun _ hk => hk.2) (.slice A2 (rd_T37 ks (j : Int)).f2.length c2_)) (fun _ hk => hk.1)) (below_set (below_set (below_set HB.out GE2.out) GE2.out) GE2.out) (by refine blk_far ?_ N2O.out _; refine blk_far ?_ N2O.out _; refine blk_far ?_ N2O.out _; exact BO.out) HR2.out).mono ?_
     rintro e w' ⟨A3, n3, c3, rfl, bo2, ho2, hb2⟩
     have HO2 := aK ho2
     have HB2 := aK hb2
     have BO2 := aK bo2
     clear HB HO BK2 BO ho2 hb2 bo2
     go_wp2
     go_roundg k1
     case measure => omega
     case rel => exact ⟨(j : Int) + 1, _, A3, n3, c3, by first | rfl | rw [W1.out], HO2, ⟨by have := HA.out; omega, by have := PI.out; omega, by have := HA.out; omega⟩, ⟨by have h := HF.out.1; rw [show ((j : Int)).toNat = j by omega, E8.out] at h; have := frT_len (rd_T37 ks (j : Int)) ar acc; rw [show ((j : Int) + 1).toNat = j + 1 by omega]; omega, by rw [← HF.out.2, show ((j : Int) + 1).toNat = j + 1 by omega, show ((j : Int)).toNat = j by omega, E9.out]⟩, HB2, BO2⟩
    ·have cb : decide (i < (ks.length : Int)) = false := decide_eq_false c2
     have hi : i.toNat = ks.length := by have := HA.out; omega
     have e := HF.out.2
     rw [hi, List.drop_length, frL_nil] at e
     have E := aK e
     clear c2 hi e
     go_wp2
     go_end0
     exact ⟨A1, n1, c1, rfl, BO.out, by rw [← E.out]; exact HO.out, HB.out⟩
  ·have cgb : decide (ar ≤ a1) = false := decide_eq_false cg
   have en : (if a0 = 1 ∧ ar ≤ a1 then l ++ [wrap64 (a1 - ar)] else l) = l := if_neg (fun h => cg h.2)
   rw [en]
   clear en cg ca
   go_enter Try.func32, Try.ntmps32
   go_wp2_with (first | ((with_reducible refine gate_dst (N := 3) rfl ?_); refine bE (N := 3) (cs := #[.int .i64 a0, .int .i64 a1, .slice A ks.length c]) (t := 37) ?_; intro gb hg w5 hbox hb; have m0_ := aK (below_step HB.out hb); have m1_ := aK (hbox); have m2_ := aK (Kd.R_below HO.out hb); have m3_ := aK (blk_below (g := go) (o := .cells #[.slice A0 l.length c0] 29 (0, 0)) BO.out hb); have m4_ := aK ((by rw [hg]; exact below_size HB.out : w0.heap.size ≤ gb)); clear HB HO BO; have HB := m0_; have BK := m1_; have HO := m2_; have BO := m3_; have GEB := m4_; clear m0_ m1_ m2_ m3_ m4_; clear hb hbox hg; have hcz_0 : w5.cell? ⟨gb, 0, none⟩ = some (.int .i64 a0) := (blk_cell BK.out 0).trans rfl; have hcz_1 : w5.cell? ⟨gb, 1, none⟩ = some (.int .i64 a1) := (blk_cell BK.out 1).trans rfl; have hcz_2 : w5.cell? ⟨gb, 2, none⟩ = some (.slice A ks.length c) := (blk_cell BK.out 2).trans rfl; have hfz_0 := blk_frozen BK.out 0; have hfz_1 := blk_frozen BK.out 1; have hfz_2 := blk_frozen BK.out 2))
   go_loopg [31] (ks.length + 1) (fun kq v31 w' => ∃ (i : Int) (acc : List Int) (A1 : Option Addr) (n1 c1 : Nat), v31 = .int .i64 i ∧ Aside0 (Kd.R (Kd.int .i64) 3 w' w0.heap.size (fun _ => True) (.slice A1 n1 c1) acc) ∧ Aside0 (0 ≤ i ∧ i ≤ ks.length ∧ (kq : Int) = ks.length - i + 1) ∧ Aside0 (acc.length + szL (ks.drop i.toNat) ≤ 200000 ∧ frL (ks.drop i.toNat) ar acc = frL ks ar l) ∧ Aside0 (Below w0.heap.size w0 w') ∧ Aside0 (w'.heap[go]? = some (.cells #[.slice A1 n1 c1] 29 (0, 0))))
   case atStart => exact ⟨0, l, _, _, _, rfl, HO, ⟨by omega, by omega, by omega⟩, ⟨by have := HZ.out; rw [show (0 : Int).toNat = 0 from rfl, List.drop_zero]; (try rw [List.length_append, List.length_singleton]); omega, by rw [show (0 : Int).toNat = 0 from rfl, List.drop_zero]⟩, HB, BO⟩
   case round =>
    clear HO HB BO BK
    obtain ⟨i, acc, A1, n1, c1, rfl, HO, HA, HF, HB, BO⟩ := hrel
    by_cases c2 : i < (ks.length : Int)
    ·have cb : decide (i < (ks.length : Int)) = true := decide_eq_true c2
     have cz : decide (0 ≤ i) = true := decide_eq_true HA.out.1
     obtain ⟨j, rfl⟩ : ∃ j : Nat, i = (j : Int) := ⟨i.toNat, by have := HA.out.1; omega⟩
     obtain ⟨ad, A2, c2_, e1, hx0, hx1, hx2, hl2, hi2⟩ := at_T37 (HC0.out) (j : Int) HA.out.1 c2
     cases e1
     simp only [Int.toNat_natCast] at hx0 hx1 hx2
     have HC2 := aK hl2
     have HR2 := aK hi2
     clear hl2 hi2
     replace hx0 := uC HB hx0
     replace hx1 := uC HB hx1
     replace hx2 := uC HB hx2
     have w1 : wrap64 ((j : Int) + 1) = (j : Int) + 1 := by have := HM.out; unfold wrap64; omega
     have W1 := aK w1
     have PI := aK (show j < ks.length by omega)
     have p1 := eq_true HA.out.1
     have q1 := eq_true c2
     clear c2 w1
     have e9 : frL (ks.drop j) ar acc = frL (ks.drop (j + 1)) ar (frT (rd_T37 ks (j : Int)) ar acc) := by rw [rd_drop ks j PI.out, frL_cons]
     have E9 := aK e9
     have e8 : szL (ks.drop j) = szT (rd_T37 ks (j : Int)) + szL (ks.drop (j + 1)) := by rw [rd_drop ks j PI.out, szL_cons]
     have E8 := aK e8
     have CL : Aside0 (acc.length + szT (rd_T37 ks (j : Int)) ≤ 200000) := ⟨by have h := HF.out.1; rw [show ((j : Int)).toNat = j by omega, e8] at h; omega⟩
     clear e9 e8
     obtain ⟨k1, rfl⟩ : ∃ m, gk = m + 1 := ⟨gk - 1, by have := HA.out; have := PI.out; omega⟩
     go_wp2_with ((with_reducible refine gate_dst (N := 7) rfl ?_); refine bE (N := 7) (cs := #[.int .i64 0, .int .i64 0, .slice none 0 0]) (t := 37) ?_; intro g2 hg w9 hbox hb; have hy0 := (hb.cell (World.block_lt_of_cell? _ _ hx0)).trans hx0; have hy1 := (hb.cell (World.block_lt_of_cell? _ _ hx1)).trans hx1; have hy2 := (hb.cell (World.block_lt_of_cell? _ _ hx2)).trans hx2; clear hx0 hx1 hx2; have hx0 := hy0; have hx1 := hy1; have hx2 := hy2; clear hy0 hy1 hy2; have m0_ := aK (below_step HB.out hb); have m1_ := aK (hbox); have m2_ := aK (Kd.R_below HO.out hb); have m3_ := aK (blk_below (g := go) (o := .cells #[.slice A1 n1 c1] 29 (0, 0)) BO.out hb); have m4_ := aK ((by rw [hg]; exact below_size HB.out : w0.heap.size ≤ g2)); have m5_ := aK ((by rw [hg]; exact Nat.ne_of_lt (blk_lt BO.out) : go ≠ g2)); clear HB HO BO; have HB := m0_; have BK2 := m1_; have HO := m2_; have BO := m3_; have GE2 := m4_; have N2O := m5_; clear m0_ m1_ m2_ m3_ m4_ m5_; clear hb hbox hg; have hn1_ := N2O.out; have hczb_0 : w9.cell? ⟨g2, 0, none⟩ = some (.int .i64 0) := (blk_cell BK2.out 0).trans rfl; have hczb_1 : w9.cell? ⟨g2, 1, none⟩ = some (.int .i64 0) := (blk_cell BK2.out 1).trans rfl; have hczb_2 : w9.cell? ⟨g2, 2, none⟩ = some (.slice none 0 0) := (blk_cell BK2.out 2).trans rfl; have hfzb_0 := blk_frozen BK2.out 0; have hfzb_1 := blk_frozen BK2.out 1; have hfzb_2 := blk_frozen BK2.out 2; have hczq_0 : w9.cell? ⟨go, 0, none⟩ = some (.slice A1 n1 c1) := (blk_cell BO.out 0).trans rfl; have hfzq_0 := blk_frozen BO.out 0)
     refine (IH.out j A2 c2_ ar acc (.slice A1 n1 c1) _ PI.out HC2.out (by have := CL.out; omega) (Kd.R_mono (Kd.R_far (p := ⟨g2, 2, none⟩) (Kd.R_far (p := ⟨g2, 1, none⟩) (Kd.R_far (p := ⟨g2, 0, none⟩) (Kd.R_types HO.out BK2.out (by decide)) (fun _ hk => hk.2) (.int .i64 (rd_T37 ks (j : Int)).f0)) (fun _ hk => hk.2) (.int .i64 (rd_T37 ks (j : Int)).f1)) (fun _ hk => hk.2) (.slice A2 (rd_T37 ks (j : Int)).f2.length c2_)) (fun _ hk => hk.1)) (below_set (below_set (below_set HB.out GE2.out) GE2.out) GE2.out) (by refine blk_far ?_ N2O.out _; refine blk_far ?_ N2O.out _; refine blk_far ?_ N2O.out _; exact BO.out) HR2.out).mono ?_
     rintro e w' ⟨A3, n3, c3, rfl, bo2, ho2, hb2⟩
     have HO2 := aK ho2
     have HB2 := aK hb2
     have BO2 := aK bo2
     clear HB HO BK2 BO ho2 hb2 bo2
     go_wp2
     go_roundg k1
     case measure => omega
     case rel => exact ⟨(j : Int) + 1, _, A3, n3, c3, by first | rfl | rw [W1.out], HO2, ⟨by have := HA.out; omega, by have := PI.out; omega, by have := HA.out; omega⟩, ⟨by have h := HF.out.1; rw [show ((j : Int)).toNat = j by omega, E8.out] at h; have := frT_len (rd_T37 ks (j : Int)) ar acc; rw [show ((j : Int) + 1).toNat = j + 1 by omega]; omega, by rw [← HF.out.2, show ((j : Int) + 1).toNat = j + 1 by omega, show ((j : Int)).toNat = j by omega, E9.out]⟩, HB2, BO2⟩
    ·have cb : decide (i < (ks.length : Int)) = false := decide_eq_false c2
     have hi : i.toNat = ks.length := by have := HA.out; omega
     have e := HF.out.2
     rw [hi, List.drop_length, frL_nil] at e
     have E := aK e
     clear c2 hi e
     go_wp2
     go_end0
     exact ⟨A1, n1, c1, rfl, BO.out, by rw [← E.out]; exact HO.out, HB.out⟩
 ·have k1b : (a0 == 1) = false := beq_eq_false_iff_ne.mpr ca
  have en : (if a0 = 1 ∧ ar ≤ a1 then l ++ [wrap64 (a1 - ar)] else l) = l := if_neg (fun h => ca h.1)
  rw [en]
  clear en ca
  by_cases cb2 : a0 = 2
  ·have k2b : (a0 == 2) = true := beq_iff_eq.mpr cb2
   have en : (if a0 = 2 then wrap64 (ar + 1) else ar) = wrap64 (ar + 1) := if_pos cb2
   rw [en]
   clear en cb2
   go_enter Try.func32, Try.ntmps32
   go_wp2_with (first | ((with_reducible refine gate_dst (N := 3) rfl ?_); refine bE (N := 3) (cs := #[.int .i64 a0, .int .i64 a1, .slice A ks.length c]) (t := 37) ?_; intro gb hg w5 hbox hb; have m0_ := aK (below_step HB.out hb); have m1_ := aK (hbox); have m2_ := aK (Kd.R_below HO.out hb); have m3_ := aK (blk_below (g := go) (o := .cells #[.slice A0 l.length c0] 29 (0, 0)) BO.out hb); have m4_ := aK ((by rw [hg]; exact below_size HB.out : w0.heap.size ≤ gb)); clear HB HO BO; have HB := m0_; have BK := m1_; have HO := m2_; have BO := m3_; have GEB := m4_; clear m0_ m1_ m2_ m3_ m4_; clear hb hbox hg; have hcz_0 : w5.cell? ⟨gb, 0, none⟩ = some (.int .i64 a0) := (blk_cell BK.out 0).trans rfl; have hcz_1 : w5.cell? ⟨gb, 1, none⟩ = some (.int .i64 a1) := (blk_cell BK.out 1).trans rfl; have hcz_2 : w5.cell? ⟨gb, 2, none⟩ = some (.slice A ks.length c) := (blk_cell BK.out 2).trans rfl; have hfz_0 := blk_frozen BK.out 0; have hfz_1 := blk_frozen BK.out 1; have hfz_2 := blk_frozen BK.out 2))
   go_loopg [31] (ks.length + 1) (fun kq v31 w' => ∃ (i : Int) (acc : List Int) (A1 : Option Addr) (n1 c1 : Nat), v31 = .int .i64 i ∧ Aside0 (Kd.R (Kd.int .i64) 3 w' w0.heap.size (fun _ => True) (.slice A1 n1 c1) acc) ∧ Aside0 (0 ≤ i ∧ i ≤ ks.length ∧ (kq : Int) = ks.length - i + 1) ∧ Aside0 (acc.length + szL (ks.drop i.toNat) ≤ 200000 ∧ frL (ks.drop i.toNat) (wrap64 (ar + 1)) acc = frL ks (wrap64 (ar + 1)) l) ∧ Aside0 (Below w0.heap.size w0 w') ∧ Aside0 (w'.heap[go]? = some (.cells #[.slice A1 n1 c1] 29 (0, 0))))
   case atStart => exact ⟨0, l, _, _, _, rfl, HO, ⟨by omega, by omega, by omega⟩, ⟨by have := HZ.out; rw [show (0 : Int).toNat = 0 from rfl, List.drop_zero]; (try rw [List.length_append, List.length_singleton]); omega, by rw [show (0 : Int).toNat = 0 from rfl, List.drop_zero]⟩, HB, BO⟩
   case round =>
    clear HO HB BO BK
    obtain ⟨i, acc, A1, n1, c1, rfl, HO, HA, HF, HB, BO⟩ := hrel
    by_cases c2 : i < (ks.length : Int)
    ·have cb : decide (i < (ks.length : Int)) = true := decide_eq_true c2
     have cz : decide (0 ≤ i) = true := decide_eq_true HA.out.1
     obtain ⟨j, rfl⟩ : ∃ j : Nat, i = (j : Int) := ⟨i.toNat, by have := HA.out.1; omega⟩
     obtain ⟨ad, A2, c2_, e1, hx0, hx1, hx2, hl2, hi2⟩ := at_T37 (HC0.out) (j : Int) HA.out.1 c2
     cases e1
     simp only [Int.toNat_natCast] at hx0 hx1 hx2
     have HC2 := aK hl2
     have HR2 := aK hi2
     clear hl2 hi2
     replace hx0 := uC HB hx0
     replace hx1 := uC HB hx1
     replace hx2 := uC HB hx2
     have w1 : wrap64 ((j : Int) + 1) = (j : Int) + 1 := by have := HM.out; unfold wrap64; omega
     have W1 := aK w1
     have PI := aK (show j < ks.length by omega)
     have p1 := eq_true HA.out.1
     have q1 := eq_true c2
     clear c2 w1
     have e9 : frL (ks.drop j) (wrap64 (ar + 1)) acc = frL (ks.drop (j + 1)) (wrap64 (ar + 1)) (frT (rd_T37 ks (j : Int)) (wrap64 (ar + 1)) acc) := by rw [rd_drop ks j PI.out, frL_cons]
     have E9 := aK e9
     have e8 : szL (ks.drop j) = szT (rd_T37 ks (j : Int)) + szL (ks.drop (j + 1)) := by rw [rd_drop ks j PI.out, szL_cons]
     have E8 := aK e8
     have CL : Aside0 (acc.length + szT (rd_T37 ks (j : Int)) ≤ 200000) := ⟨by have h := HF.out.1; rw [show ((j : Int)).toNat = j by omega, e8] at h; omega⟩
     clear e9 e8
     obtain ⟨k1, rfl⟩ : ∃ m, gk = m + 1 := ⟨gk - 1, by have := HA.out; have := PI.out; omega⟩
     go_wp2_with ((with_reducible refine gate_dst (N := 7) rfl ?_); refine bE (N := 7) (cs := #[.int .i64 0, .int .i64 0, .slice none 0 0]) (t := 37) ?_; intro g2 hg w9 hbox hb; have hy0 := (hb.cell (World.block_lt_of_cell? _ _ hx0)).trans hx0; have hy1 := (hb.cell (World.block_lt_of_cell? _ _ hx1)).trans hx1; have hy2 := (hb.cell (World.block_lt_of_cell? _ _ hx2)).trans hx2; clear hx0 hx1 hx2; have hx0 := hy0; have hx1 := hy1; have hx2 := hy2; clear hy0 hy1 hy2; have m0_ := aK (below_step HB.out hb); have m1_ := aK (hbox); have m2_ := aK (Kd.R_below HO.out hb); have m3_ := aK (blk_below (g := go) (o := .cells #[.slice A1 n1 c1] 29 (0, 0)) BO.out hb); have m4_ := aK ((by rw [hg]; exact below_size HB.out : w0.heap.size ≤ g2)); have m5_ := aK ((by rw [hg]; exact Nat.ne_of_lt (blk_lt BO.out) : go ≠ g2)); clear HB HO BO; have HB := m0_; have BK2 := m1_; have HO := m2_; have BO := m3_; have GE2 := m4_; have N2O := m5_; clear m0_ m1_ m2_ m3_ m4_ m5_; clear hb hbox hg; have hn1_ := N2O.out; have hczb_0 : w9.cell? ⟨g2, 0, none⟩ = some (.int .i64 0) := (blk_cell BK2.out 0).trans rfl; have hczb_1 : w9.cell? ⟨g2, 1, none⟩ = some (.int .i64 0) := (blk_cell BK2.out 1).trans rfl; have hczb_2 : w9.cell? ⟨g2, 2, none⟩ = some (.slice none 0 0) := (blk_cell BK2.out 2).trans rfl; have hfzb_0 := blk_frozen BK2.out 0; have hfzb_1 := blk_frozen BK2.out 1; have hfzb_2 := blk_frozen BK2.out 2; have hczq_0 : w9.cell? ⟨go, 0, none⟩ = some (.slice A1 n1 c1) := (blk_cell BO.out 0).trans rfl; have hfzq_0 := blk_frozen BO.out 0)
     refine (IH.out j A2 c2_ (wrap64 (ar + 1)) acc (.slice A1 n1 c1) _ PI.out HC2.out (by have := CL.out; omega) (Kd.R_mono (Kd.R_far (p := ⟨g2, 2, none⟩) (Kd.R_far (p := ⟨g2, 1, none⟩) (Kd.R_far (p := ⟨g2, 0, none⟩) (Kd.R_types HO.out BK2.out (by decide)) (fun _ hk => hk.2) (.int .i64 (rd_T37 ks (j : Int)).f0)) (fun _ hk => hk.2) (.int .i64 (rd_T37 ks (j : Int)).f1)) (fun _ hk => hk.2) (.slice A2 (rd_T37 ks (j : Int)).f2.length c2_)) (fun _ hk => hk.1)) (below_set (below_set (below_set HB.out GE2.out) GE2.out) GE2.out) (by refine blk_far ?_ N2O.out _; refine blk_far ?_ N2O.out _; refine blk_far ?_ N2O.out _; exact BO.out) HR2.out).mono ?_
     rintro e w' ⟨A3, n3, c3, rfl, bo2, ho2, hb2⟩
     have HO2 := aK ho2
     have HB2 := aK hb2
     have BO2 := aK bo2
     clear HB HO BK2 BO ho2 hb2 bo2
     go_wp2
     go_roundg k1
     case measure => omega
     case rel => exact ⟨(j : Int) + 1, _, A3, n3, c3, by first | rfl | rw [W1.out], HO2, ⟨by have := HA.out; omega, by have := PI.out; omega, by have := HA.out; omega⟩, ⟨by have h := HF.out.1; rw [show ((j : Int)).toNat = j by omega, E8.out] at h; have := frT_len (rd_T37 ks (j : Int)) (wrap64 (ar + 1)) acc; rw [show ((j : Int) + 1).toNat = j + 1 by omega]; omega, by rw [← HF.out.2, show ((j : Int) + 1).toNat = j + 1 by omega, show ((j : Int)).toNat = j by omega, E9.out]⟩, HB2, BO2⟩
    ·have cb : decide (i < (ks.length : Int)) = false := decide_eq_false c2
     have hi : i.toNat = ks.length := by have := HA.out; omega
     have e := HF.out.2
     rw [hi, List.drop_length, frL_nil] at e
     have E := aK e
     clear c2 hi e
     go_wp2
     go_end0
     exact ⟨A1, n1, c1, rfl, BO.out, by rw [← E.out]; exact HO.out, HB.out⟩
  ·have k2b : (a0 == 2) = false := beq_eq_false_iff_ne.mpr cb2
   have en : (if a0 = 2 then wrap64 (ar + 1) else ar) = ar := if_neg cb2
   rw [en]
   clear en cb2
   go_enter Try.func32, Try.ntmps32
   go_wp2_with (first | ((with_reducible refine gate_dst (N := 3) rfl ?_); refine bE (N := 3) (cs := #[.int .i64 a0, .int .i64 a1, .slice A ks.length c]) (t := 37) ?_; intro gb hg w5 hbox hb; have m0_ := aK (below_step HB.out hb); have m1_ := aK (hbox); have m2_ := aK (Kd.R_below HO.out hb); have m3_ := aK (blk_below (g := go) (o := .cells #[.slice A0 l.length c0] 29 (0, 0)) BO.out hb); have m4_ := aK ((by rw [hg]; exact below_size HB.out : w0.heap.size ≤ gb)); clear HB HO BO; have HB := m0_; have BK := m1_; have HO := m2_; have BO := m3_; have GEB := m4_; clear m0_ m1_ m2_ m3_ m4_; clear hb hbox hg; have hcz_0 : w5.cell? ⟨gb, 0, none⟩ = some (.int .i64 a0) := (blk_cell BK.out 0).trans rfl; have hcz_1 : w5.cell? ⟨gb, 1, none⟩ = some (.int .i64 a1) := (blk_cell BK.out 1).trans rfl; have hcz_2 : w5.cell? ⟨gb, 2, none⟩ = some (.slice A ks.length c) := (blk_cell BK.out 2).trans rfl; have hfz_0 := blk_frozen BK.out 0; have hfz_1 := blk_frozen BK.out 1; have hfz_2 := blk_frozen BK.out 2))
   go_loopg [31] (ks.length + 1) (fun kq v31 w' => ∃ (i : Int) (acc : List Int) (A1 : Option Addr) (n1 c1 : Nat), v31 = .int .i64 i ∧ Aside0 (Kd.R (Kd.int .i64) 3 w' w0.heap.size (fun _ => True) (.slice A1 n1 c1) acc) ∧ Aside0 (0 ≤ i ∧ i ≤ ks.length ∧ (kq : Int) = ks.length - i + 1) ∧ Aside0 (acc.length + szL (ks.drop i.toNat) ≤ 200000 ∧ frL (ks.drop i.toNat) ar acc = frL ks ar l) ∧ Aside0 (Below w0.heap.size w0 w') ∧ Aside0 (w'.heap[go]? = some (.cells #[.slice A1 n1 c1] 29 (0, 0))))
   case atStart => exact ⟨0, l, _, _, _, rfl, HO, ⟨by omega, by omega, by omega⟩, ⟨by have := HZ.out; rw [show (0 : Int).toNat = 0 from rfl, List.drop_zero]; (try rw [List.length_append, List.length_singleton]); omega, by rw [show (0 : Int).toNat = 0 from rfl, List.drop_zero]⟩, HB, BO⟩
   case round =>
    clear HO HB BO BK
    obtain ⟨i, acc, A1, n1, c1, rfl, HO, HA, HF, HB, BO⟩ := hrel
    by_cases c2 : i < (ks.length : Int)
    ·have cb : decide (i < (ks.length : Int)) = true := decide_eq_true c2
     have cz : decide (0 ≤ i) = true := decide_eq_true HA.out.1
     obtain ⟨j, rfl⟩ : ∃ j : Nat, i = (j : Int) := ⟨i.toNat, by have := HA.out.1; omega⟩
     obtain ⟨ad, A2, c2_, e1, hx0, hx1, hx2, hl2, hi2⟩ := at_T37 (HC0.out) (j : Int) HA.out.1 c2
     cases e1
     simp only [Int.toNat_natCast] at hx0 hx1 hx2
     have HC2 := aK hl2
     have HR2 := aK hi2
     clear hl2 hi2
     replace hx0 := uC HB hx0
     replace hx1 := uC HB hx1
     replace hx2 := uC HB hx2
     have w1 : wrap64 ((j : Int) + 1) = (j : Int) + 1 := by have := HM.out; unfold wrap64; omega
     have W1 := aK w1
     have PI := aK (show j < ks.length by omega)
     have p1 := eq_true HA.out.1
     have q1 := eq_true c2
     clear c2 w1
     have e9 : frL (ks.drop j) ar acc = frL (ks.drop (j + 1)) ar (frT (rd_T37 ks (j : Int)) ar acc) := by rw [rd_drop ks j PI.out, frL_cons]
     have E9 := aK e9
     have e8 : szL (ks.drop j) = szT (rd_T37 ks (j : Int)) + szL (ks.drop (j + 1)) := by rw [rd_drop ks j PI.out, szL_cons]
     have E8 := aK e8
     have CL : Aside0 (acc.length + szT (rd_T37 ks (j : Int)) ≤ 200000) := ⟨by have h := HF.out.1; rw [show ((j : Int)).toNat = j by omega, e8] at h; omega⟩
     clear e9 e8
     obtain ⟨k1, rfl⟩ : ∃ m, gk = m + 1 := ⟨gk - 1, by have := HA.out; have := PI.out; omega⟩
     go_wp2_with ((with_reducible refine gate_dst (N := 7) rfl ?_); refine bE (N := 7) (cs := #[.int .i64 0, .int .i64 0, .slice none 0 0]) (t := 37) ?_; intro g2 hg w9 hbox hb; have hy0 := (hb.cell (World.block_lt_of_cell? _ _ hx0)).trans hx0; have hy1 := (hb.cell (World.block_lt_of_cell? _ _ hx1)).trans hx1; have hy2 := (hb.cell (World.block_lt_of_cell? _ _ hx2)).trans hx2; clear hx0 hx1 hx2; have hx0 := hy0; have hx1 := hy1; have hx2 := hy2; clear hy0 hy1 hy2; have m0_ := aK (below_step HB.out hb); have m1_ := aK (hbox); have m2_ := aK (Kd.R_below HO.out hb); have m3_ := aK (blk_below (g := go) (o := .cells #[.slice A1 n1 c1] 29 (0, 0)) BO.out hb); have m4_ := aK ((by rw [hg]; exact below_size HB.out : w0.heap.size ≤ g2)); have m5_ := aK ((by rw [hg]; exact Nat.ne_of_lt (blk_lt BO.out) : go ≠ g2)); clear HB HO BO; have HB := m0_; have BK2 := m1_; have HO := m2_; have BO := m3_; have GE2 := m4_; have N2O := m5_; clear m0_ m1_ m2_ m3_ m4_ m5_; clear hb hbox hg; have hn1_ := N2O.out; have hczb_0 : w9.cell? ⟨g2, 0, none⟩ = some (.int .i64 0) := (blk_cell BK2.out 0).trans rfl; have hczb_1 : w9.cell? ⟨g2, 1, none⟩ = some (.int .i64 0) := (blk_cell BK2.out 1).trans rfl; have hczb_2 : w9.cell? ⟨g2, 2, none⟩ = some (.slice none 0 0) := (blk_cell BK2.out 2).trans rfl; have hfzb_0 := blk_frozen BK2.out 0; have hfzb_1 := blk_frozen BK2.out 1; have hfzb_2 := blk_frozen BK2.out 2; have hczq_0 : w9.cell? ⟨go, 0, none⟩ = some (.slice A1 n1 c1) := (blk_cell BO.out 0).trans rfl; have hfzq_0 := blk_frozen BO.out 0)
     refine (IH.out j A2 c2_ ar acc (.slice A1 n1 c1) _ PI.out HC2.out (by have := CL.out; omega) (Kd.R_mono (Kd.R_far (p := ⟨g2, 2, none⟩) (Kd.R_far (p := ⟨g2, 1, none⟩) (Kd.R_far (p := ⟨g2, 0, none⟩) (Kd.R_types HO.out BK2.out (by decide)) (fun _ hk => hk.2) (.int .i64 (rd_T37 ks (j : Int)).f0)) (fun _ hk => hk.2) (.int .i64 (rd_T37 ks (j : Int)).f1)) (fun _ hk => hk.2) (.slice A2 (rd_T37 ks (j : Int)).f2.length c2_)) (fun _ hk => hk.1)) (below_set (below_set (below_set HB.out GE2.out) GE2.out) GE2.out) (by refine blk_far ?_ N2O.out _; refine blk_far ?_ N2O.out _; refine blk_far ?_ N2O.out _; exact BO.out) HR2.out).mono ?_
     rintro e w' ⟨A3, n3, c3, rfl, bo2, ho2, hb2⟩
     have HO2 := aK ho2
     have HB2 := aK hb2
     have BO2 := aK bo2
     clear HB HO BK2 BO ho2 hb2 bo2
     go_wp2
     go_roundg k1
     case measure => omega
     case rel => exact ⟨(j : Int) + 1, _, A3, n3, c3, by first | rfl | rw [W1.out], HO2, ⟨by have := HA.out; omega, by have := PI.out; omega, by have := HA.out; omega⟩, ⟨by have h := HF.out.1; rw [show ((j : Int)).toNat = j by omega, E8.out] at h; have := frT_len (rd_T37 ks (j : Int)) ar acc; rw [show ((j : Int) + 1).toNat = j + 1 by omega]; omega, by rw [← HF.out.2, show ((j : Int) + 1).toNat = j + 1 by omega, show ((j : Int)).toNat = j by omega, E9.out]⟩, HB2, BO2⟩
    ·have cb : decide (i < (ks.length : Int)) = false := decide_eq_false c2
     have hi : i.toNat = ks.length := by have := HA.out; omega
     have e := HF.out.2
     rw [hi, List.drop_length, frL_nil] at e
     have E := aK e
     clear c2 hi e
     go_wp2
     go_end0
     exact ⟨A1, n1, c1, rfl, BO.out, by rw [← E.out]; exact HO.out, HB.out⟩

theorem free_some (w0 : World) (go : Nat) (hgo : w0.heap.size ≤ go) : ∀ (N : Nat) (x : S37) (ar : Int) (A : Option Addr) (c : Nat) (l : List Int) (v : Value) (w : World), SizeOf.sizeOf x.f2 ≤ N → x.f2.length ≤ c → l.length + szT x ≤ 200000 → Kd.R (Kd.int .i64) 3 w w0.heap.size (fun _ => True) v l → Below w0.heap.size w0 w → w.heap[go]? = some (.cells #[v] 29 (0, 0)) → Kd.C k37 w0 A x.f2.length x.f2 →
  Calls Try.prog 32 #[.agg #[.int .i64 x.f0, .int .i64 x.f1, .slice A x.f2.length c], .int .i64 ar, .func (.func 33) #[] #[.pointer (some ⟨go, 0, none⟩)]] w fun e w' => ∃ A1 n1 c1, e = .returned (.tuple #[]) ∧ w'.heap[go]? = some (.cells #[.slice A1 n1 c1] 29 (0, 0)) ∧ Kd.R (Kd.int .i64) 3 w' w0.heap.size (fun _ => True) (.slice A1 n1 c1) (frT x ar l) ∧ Below w0.heap.size w0 w' := by
 intro N
 induction N with
 | zero =>
  intro x ar A c l v w hN
  cases h : x.f2 with
  | nil => rw [h] at hN; simp at hN
  | cons y ys => rw [h] at hN; simp at hN
 | succ N ih =>
  intro x ar A c l v w hN hc hl hO hB hbo hC
  obtain ⟨A0, c0, rfl⟩ := Kd.R_slice hO
  rw [frT_eq]
  refine node_some w0 go hgo x.f0 x.f1 ar x.f2 A c l A0 c0 w hC hc (by rw [← szT_eq]; exact hl) hO hB hbo fun j A2 c2 ar2 acc v2 w2 hj hc2 hacc hO2 hB2 hbo2 hC2 => ?_
  refine ih (rd_T37 x.f2 (j : Int)) ar2 A2 c2 acc v2 w2 ?_ hc2 hacc hO2 hB2 hbo2 hC2
  have h1 := List.sizeOf_lt_of_mem (rd_mem x.f2 (j : Int) (by omega) (by omega))
  have h2 : ∀ y : S37, SizeOf.sizeOf y.f2 < SizeOf.sizeOf y := fun y => by cases y; simp; omega
  have h3 := h2 (rd_T37 x.f2 (j : Int))
  omega
end Free37
end Go.Proofs.Ytmcmclcebnepgaa.G

namespace Go.Proofs
open Go.Shelf
def Try.sort85_ren : Go.Shelf.Ren := ⟨fun | 5 => 34 | 8 => 53 | 7 => 52 | 19 => 73 | 20 => 74 | 10 => 64 | 11 => 65 | 12 => 66 | 13 => 67 | 14 => 68 | 15 => 69 | 16 => 70 | 17 => 71 | 18 => 72 | 30 => 78 | 31 => 79 | 32 => 80 | 33 => 81 | 34 => 82 | 35 => 83 | 40 => 84 | n => n, fun | 23 => 29 | 25 => 3 | 3 => 3 | 32 => 95 | 22 => 29 | 0 => 0 | 44 => 116 | 46 => 59 | 4 => 4 | 36 => 108 | 35 => 107 | 41 => 113 | 5 => 5 | 9 => 9 | 53 => 121 | 57 => 125 | 63 => 127 | 64 => 128 | n => n, fun | n => n⟩
theorem Try.sort85 : Go.Proofs.SlLaysM.n5 Try.prog Try.sort85_ren := {
 mixed := by kernel_rfl
 f5 := ⟨Try.f34.name, by decide, Try.func34.trans (congrArg some (by kernel_rfl))⟩
 f7 := ⟨Try.f52.name, by decide, Try.func52.trans (congrArg some (by kernel_rfl))⟩
 f8 := Try.func53.trans (congrArg some (by kernel_rfl))
 f10 := ⟨Try.f64.name, by decide, Try.func64.trans (congrArg some (by kernel_rfl))⟩
 f11 := ⟨Try.f65.name, by decide, Try.func65.trans (congrArg some (by kernel_rfl))⟩
 f12 := ⟨Try.f66.name, by decide, Try.func66.trans (congrArg some (by kernel_rfl))⟩
 f13 := ⟨Try.f67.name, by decide, Try.func67.trans (congrArg some (by kernel_rfl))⟩
 f14 := ⟨Try.f68.name, by decide, Try.func68.trans (congrArg some (by kernel_rfl))⟩
 f15 := ⟨Try.f69.name, by decide, Try.func69.trans (congrArg some (by kernel_rfl))⟩
 f16 := ⟨Try.f70.name, by decide, Try.func70.trans (congrArg some (by kernel_rfl))⟩
 f17 := ⟨Try.f71.name, by decide, Try.func71.trans (congrArg some (by kernel_rfl))⟩
 f18 := ⟨Try.f72.name, by decide, Try.func72.trans (congrArg some (by kernel_rfl))⟩
 f19 := Try.func73.trans (congrArg some (by kernel_rfl))
 f20 := Try.func74.trans (congrArg some (by kernel_rfl))
 f30 := ⟨Try.f78.name, by decide, Try.func78.trans (congrArg some (by kernel_rfl))⟩
 f31 := Try.func79.trans (congrArg some (by kernel_rfl))
 f32 := Try.func80.trans (congrArg some (by kernel_rfl))
 f33 := ⟨Try.f81.name, by decide, Try.func81.trans (congrArg some (by kernel_rfl))⟩
 f34 := ⟨Try.f82.name, by decide, Try.func82.trans (congrArg some (by kernel_rfl))⟩
 f35 := ⟨Try.f83.name, by decide, Try.func83.trans (congrArg some (by kernel_rfl))⟩
 f40 := ⟨Try.f84.name, by decide, Try.func84.trans (congrArg some (by kernel_rfl))⟩
 t0 := Try.underlying0
 a0 := Try.isAgg0
 z0 := Try.sizeOf0
 v0 := Try.zeroValue0
 t3 := Try.underlying3
 a3 := Try.isAgg3
 z3 := Try.sizeOf3
 v3 := Try.zeroValue3
 t4 := Try.underlying4
 a4 := Try.isAgg4
 z4 := Try.sizeOf4
 v4 := Try.zeroValue4
 t5 := Try.underlying5
 a5 := Try.isAgg5
 z5 := Try.sizeOf5
 v5 := Try.zeroValue5
 t9 := Try.underlying9
 a9 := Try.isAgg9
 z9 := Try.sizeOf9
 v9 := Try.zeroValue9
 t22 := Try.underlying29
 a22 := Try.isAgg29
 z22 := Try.sizeOf29
 v22 := Try.zeroValue29
 t23 := Try.underlying29
 a23 := Try.isAgg29
 z23 := Try.sizeOf29
 v23 := Try.zeroValue29
 t25 := Try.underlying3
 a25 := Try.isAgg3
 z25 := Try.sizeOf3
 v25 := Try.zeroValue3
 t32 := Try.underlying95
 a32 := Try.isAgg95
 z32 := Try.sizeOf95
 v32 := Try.zeroValue95
 t35 := Try.underlying107
 a35 := Try.isAgg107
 z35 := Try.sizeOf107
 v35 := Try.zeroValue107
 t36 := Try.underlying108
 a36 := Try.isAgg108
 z36 := Try.sizeOf108
 v36 := Try.zeroValue108
 t41 := Try.underlying113
 a41 := Try.isAgg113
 z41 := Try.sizeOf113
 v41 := Try.zeroValue113
 t44 := Try.underlying116
 a44 := Try.isAgg116
 z44 := Try.sizeOf116
 v44 := Try.zeroValue116
 t46 := Try.underlying59
 a46 := Try.isAgg59
 z46 := Try.sizeOf59
 v46 := Try.zeroValue59
 t53 := Try.underlying121
 a53 := Try.isAgg121
 z53 := Try.sizeOf121
 v53 := Try.zeroValue121
 t57 := Try.underlying125
 a57 := Try.isAgg125
 z57 := Try.sizeOf125
 v57 := Try.zeroValue125
 t63 := Try.underlying127
 a63 := Try.isAgg127
 z63 := Try.sizeOf127
 v63 := Try.zeroValue127
 t64 := Try.underlying128
 a64 := Try.isAgg128
 z64 := Try.sizeOf128
 v64 := Try.zeroValue128 }
def Try.compact86_ren : Go.Shelf.Ren := ⟨fun | 43 => 35 | n => n, fun | 22 => 29 | 23 => 3 | 3 => 3 | 4 => 4 | 0 => 0 | n => n, fun | n => n⟩
theorem Try.compact86 : Go.Proofs.SlLaysN.n43 Try.prog Try.compact86_ren := {
 mixed := by kernel_rfl
 f43 := ⟨Try.f35.name, by decide, Try.func35.trans (congrArg some (by kernel_rfl))⟩
 t0 := Try.underlying0
 a0 := Try.isAgg0
 z0 := Try.sizeOf0
 v0 := Try.zeroValue0
 t3 := Try.underlying3
 a3 := Try.isAgg3
 z3 := Try.sizeOf3
 v3 := Try.zeroValue3
 t4 := Try.underlying4
 a4 := Try.isAgg4
 z4 := Try.sizeOf4
 v4 := Try.zeroValue4
 t22 := Try.underlying29
 a22 := Try.isAgg29
 z22 := Try.sizeOf29
 v22 := Try.zeroValue29
 t23 := Try.underlying3
 a23 := Try.isAgg3
 z23 := Try.sizeOf3
 v23 := Try.zeroValue3
 i23 := by kernel_rfl }
end Go.Proofs
namespace Go.Proofs.Ytmcmclcebnepgaa.G
open Go.RowKit Go.Sort Go.Proofs.YtmcmclcebnepgaaW.PrintWords Go.Proofs.YtmcmclcebnepgaaW.PrintLast Go.Proofs.YtmcmclcebnepgaaW.PrintMore
set_option linter.unusedVariables false

namespace IntRow
abbrev enc : Int → Value := Value.int .i64
theorem put_get (zs : List Int) (cur : Array Value) (t : Nat) (ht : t < zs.length) (hc : zs.length ≤ cur.size) : (putCells enc 0 zs.toArray cur)[t]? = some (enc zs[t]) := by
 unfold putCells
 rw [Array.getElem?_mapIdx, Array.getElem?_eq_getElem (by omega), Option.map_some, if_pos (by simp; omega)]
 rw [Nat.sub_zero, getElem!_pos _ _ (by simpa using ht)]
 simp
theorem put_take (zs : List Int) (n : Nat) (hn : n ≤ zs.length) (cur : Array Value) (hc : zs.length ≤ cur.size) : (putCells enc 0 zs.toArray cur).toList.take n = encs enc (zs.take n) := by
 apply List.ext_getElem?
 intro t
 by_cases ht : t < n
 ·rw [List.getElem?_take, if_pos ht, Array.getElem?_toList, put_get zs cur t (by omega) hc]
  simp [encs, ht, List.getElem?_eq_getElem (show t < zs.length by omega)]
 ·rw [List.getElem?_take, if_neg ht, List.getElem?_eq_none (by simp [encs]; omega)]
theorem own_put (W : World) (base g n cap q : Nat) (cur : Array Value) (os : Array Obj) (zs : List Int) (hh : W.heap[g]? = some (.cells cur 3 (0, 0))) (hb : base ≤ g) (hn : n ≤ zs.length) (hz : zs.length ≤ cap) (hcap : cap ≤ maxLen) (hcur : cur.size = cap * 1) :
  (grow (putRow enc (Sort.ahead W q) g 0 zs.toArray) os).ownsRow base 3 1 (.slice (some ⟨g, 0, none⟩) n cap) n (encs enc (zs.take n)) := by
 have hlt : g < W.heap.size := blk_lt hh
 refine ⟨by simp [encs]; omega, .inr ⟨g, cap, putCells enc 0 zs.toArray cur, rfl, hb, ?_, by omega, hcap, ?_, ?_⟩⟩
 ·show ((W.heap.modify g _) ++ os)[g]? = _
  rw [Array.getElem?_append_left (by rw [Array.size_modify]; exact hlt), Array.getElem?_modify, if_pos rfl, hh]; rfl
 ·unfold putCells
  rw [Array.size_mapIdx, hcur]
 ·rw [Nat.mul_one]
  exact put_take zs n hn cur (by omega)
theorem grown (W : World) (g q : Nat) (os : Array Obj) (d : Array Int) : W.grownBy (grow (putRow enc (Sort.ahead W q) g 0 d) os) (some g) where
 os := rfl
 tape := rfl
 output := rfl
 size := by
  show W.heap.size ≤ ((W.heap.modify g _) ++ os).size
  rw [Array.size_append, Array.size_modify]; omega
 block := fun k hk hne => by
  show ((W.heap.modify g _) ++ os)[k]? = _
  rw [Array.getElem?_append_left (by rw [Array.size_modify]; exact hk), Array.getElem?_modify, if_neg (fun h => hne (by rw [h]))]
theorem holds (W : World) (g : Nat) (cur : Array Value) (zs : List Int) (hh : W.heap[g]? = some (.cells cur 3 (0, 0))) (ht : cur.toList.take (zs.length * 1) = encs enc zs) : Holds enc W g 0 zs.toArray := by
 intro j hj
 have hj' : j < zs.length := by simpa using hj
 refine ⟨?_, blk_frozen hh _⟩
 have h3 : W.cell? ⟨g, 0 + j, none⟩ = cur[j]? := by rw [Nat.zero_add]; exact blk_cell hh j
 rw [h3, getElem!_pos zs.toArray j hj]
 have h2 : (cur.toList.take (zs.length * 1))[j]? = (encs enc zs)[j]? := by rw [ht]
 rw [Nat.mul_one, List.getElem?_take, if_pos hj', Array.getElem?_toList] at h2
 rw [h2]
 simp [encs, List.getElem?_eq_getElem hj']
end IntRow

abbrev sorted (xs : List Int) : List Int := xs.mergeSort fun x y => decide (x ≤ y)
theorem sort85.calls (base : Nat) (v : Value) (xs : List Int) (W : World) (h : Kd.R (Kd.int .i64) 3 W base (fun _ => True) v xs) (hl : xs.length ≤ 200000) :
  Calls Try.prog 34 #[v] W fun e W' => e = .returned (.tuple #[]) ∧ Kd.R (Kd.int .i64) 3 W' base (fun _ => True) v (sorted xs) ∧ W.grownBy W' v.ownBlock := by
 have hown := Kd.own_of_R h
 rcases hown.2 with ⟨rfl, hn⟩ | ⟨g, cap, cur, rfl, hb, hh, hnc, hcap, hcur, htake⟩
 ·obtain rfl : xs = [] := List.eq_nil_of_length_eq_zero hn
  refine (AnyM.slices_Sort_int_none Try.sort85 none 0 W).mono ?_
  rintro e w' ⟨rfl, rfl⟩
  exact ⟨rfl, by simpa [sorted] using h, World.grownBy.refl _ _⟩
 ·refine (AnyM.slices_Sort_int Try.sort85 g 0 cap xs W (IntRow.holds W g cur xs hh htake) (blk_lt hh) (by omega)).mono ?_
  rintro e w' ⟨rfl, q, os, rfl⟩
  have hlen : (sorted xs).length = xs.length := List.length_mergeSort _
  have ho := IntRow.own_put W base g xs.length cap q cur os (sorted xs) hh hb (by omega) (by omega) hcap hcur
  rw [List.take_of_length_le (by omega)] at ho
  refine ⟨rfl, Kd.R_of_own ?_ (fun _ _ => trivial), IntRow.grown W g q os _⟩
  rw [hlen]
  exact ho
theorem compact86.calls (base : Nat) (v : Value) (xs : List Int) (W : World) (h : Kd.R (Kd.int .i64) 3 W base (fun _ => True) v xs) (hl : xs.length ≤ 200000) :
  Calls Try.prog 35 #[v] W fun e W' => ∃ v', e = .returned v' ∧ Kd.R (Kd.int .i64) 3 W' base (fun _ => True) v' (Lib.compact xs) ∧ W.grownBy W' v.ownBlock := by
 have hown := Kd.own_of_R h
 rcases hown.2 with ⟨rfl, hn⟩ | ⟨g, cap, cur, rfl, hb, hh, hnc, hcap, hcur, htake⟩
 ·obtain rfl : xs = [] := List.eq_nil_of_length_eq_zero hn
  refine (AnyG.slices_Compact_int_empty Try.compact86 none 0 W).mono ?_
  rintro e w' ⟨rfl, rfl⟩
  exact ⟨_, rfl, h, World.grownBy.refl _ _⟩
 ·refine (AnyG.slices_Compact_int Try.compact86 g 0 cap xs W (IntRow.holds W g cur xs hh htake) (by omega) hnc).mono ?_
  rintro e w' ⟨rfl, q, rfl⟩
  have hc : (Lib.compact xs).length ≤ xs.length := by
   unfold Lib.compact Lib.compactUpTo
   rw [List.length_map]
   refine Nat.le_trans (List.length_filter_le _ _) ?_
   simp
  have hlen : (Lib.compact xs ++ List.replicate (xs.length - (Lib.compact xs).length) 0).length = xs.length := by simp; omega
  have ho := IntRow.own_put W base g (Lib.compact xs).length cap q cur #[] (Lib.compact xs ++ List.replicate (xs.length - (Lib.compact xs).length) 0) hh hb (by rw [hlen]; exact hc) (by omega) hcap hcur
  rw [List.take_left, grow_empty] at ho
  have hg := IntRow.grown W g q #[] (Lib.compact xs ++ List.replicate (xs.length - (Lib.compact xs).length) 0).toArray
  rw [grow_empty] at hg
  exact ⟨_, rfl, Kd.R_of_own ho (fun _ _ => trivial), hg⟩
end Go.Proofs.Ytmcmclcebnepgaa.G

namespace Go.Proofs.Ytmcmclcebnepgaa.G
open Go.RowKit Go.Proofs.YtmcmclcebnepgaaW.PrintWords Go.Proofs.YtmcmclcebnepgaaW.PrintLast Go.Proofs.YtmcmclcebnepgaaW.PrintMore
attribute [local go_sem] max2_int min2_int max_two min_two max_three min_three max_four min_four   -- for this text's walks alone
set_option linter.unusedVariables false
set_option linter.unusedSimpArgs false

def impl_term_freeIn.f (a0_0 : Int) (a0_1 : Int) (l0_2 : List (S37)) : Option (List Int) := if Free37.szT ⟨a0_0, a0_1, l0_2⟩ ≤ 200000 then some (Lib.compact (sorted (Free37.frT ⟨a0_0, a0_1, l0_2⟩ 0 []))) else none
set_option maxHeartbeats 8000000 in
set_option maxRecDepth 100000 in
theorem impl_term_freeIn.calls (a0_0 : Int) (a0_1 : Int) (A0_2 : Option Addr) (c0_2 : Nat) (l0_2 : List (S37)) (r : List Int) (w : World) (hr0_2 : Kd.C k37 w A0_2 l0_2.length l0_2) (hc0_2 : l0_2.length ≤ c0_2) (h : impl_term_freeIn.f a0_0 a0_1 l0_2 = some r) :
  Calls Try.prog 17 #[.agg #[.int .i64 a0_0, .int .i64 a0_1, .slice A0_2 l0_2.length c0_2]] w fun e w' => ∃ v0_ : Value, e = .returned (v0_) ∧ Kd.R (Kd.int .i64) 3 w' w.heap.size (fun _ => True) v0_ r ∧ Below w.heap.size w w' := by
 have hu68 := Try.underlying37
 have hu36 := Try.underlying29
 have e83 := enters_ Try.func32 (by kernel_rfl) rfl
 have e85 := enters_ Try.func34 (by kernel_rfl) rfl
 have e86 := enters_ Try.func35 (by kernel_rfl) rfl
 have hmf : ∀ (fn : Fn) (first cap : Array Value) (w : World), (Instr.makeFunc fn first cap).run Try.prog w = .ok (.func fn first cap) w := fun _ _ _ _ => rfl
 have HR0 := aK hr0_2
 have HC0 := aK hc0_2
 clear hr0_2 hc0_2
 have HB := aK (Below.refl w.heap.size w)
 unfold impl_term_freeIn.f at h
 by_cases hz : Free37.szT ⟨a0_0, a0_1, l0_2⟩ ≤ 200000
 case neg => rw [if_neg hz] at h; exact absurd h (by simp)
 rw [if_pos hz] at h
 have HZ := aK hz
 clear hz
 obtain rfl := Option.some.inj h
 go_enter Try.func17, Try.ntmps17
 go_wp2_with (first | ((with_reducible refine gate_dst (N := 1) rfl ?_); refine bE (N := 1) (cs := #[.int .i64 a0_0, .int .i64 a0_1, .slice A0_2 l0_2.length c0_2]) (t := 37) ?_; intro gb hg w5 hbox hb; have m0_ := aK (below_step HB.out hb); have m1_ := aK (hbox); clear HB; have HB := m0_; have BK := m1_; clear m0_ m1_; clear hb hbox hg; have hcz_0 : w5.cell? ⟨gb, 0, none⟩ = some (.int .i64 a0_0) := (blk_cell BK.out 0).trans rfl; have hcz_1 : w5.cell? ⟨gb, 1, none⟩ = some (.int .i64 a0_1) := (blk_cell BK.out 1).trans rfl; have hcz_2 : w5.cell? ⟨gb, 2, none⟩ = some (.slice A0_2 l0_2.length c0_2) := (blk_cell BK.out 2).trans rfl; have hfz_0 := blk_frozen BK.out 0; have hfz_1 := blk_frozen BK.out 1; have hfz_2 := blk_frozen BK.out 2) | ((with_reducible refine gate_dst (N := 4) rfl ?_); refine Kd.R_lit (Kd.int .i64) _ 3 ?hg (N := 4) ?hd (xs := ([] : List Int)) (inner := []) (ok := fun _ => True) (okp := fun _ => True) ?hr ?hp (fun _ hk => hk) trivial (Below.refl _ _) (Nat.le_refl _) (by simp) ?_; (case hd => rfl); (case hg => rfl); (case hr => go_simp); (case hp => exact (Reps.none _ _)); intro v1 w8 ho hb hg_ hnew_; clear hg_ hnew_; obtain ⟨A1, c1, rfl⟩ := Kd.R_slice ho; have m0_ := aK (Kd.R_lower ho (below_size HB.out)); have m1_ := aK (below_step HB.out hb); have m2_ := aK (blk_below (g := gb) (o := .cells #[.int .i64 a0_0, .int .i64 a0_1, .slice A0_2 l0_2.length c0_2] 37 (0, 0)) BK.out hb); clear HB BK; have HO := m0_; have HB := m1_; have BK := m2_; clear m0_ m1_ m2_; clear hb ho; clear hcz_0 hcz_1 hcz_2 hfz_0 hfz_1 hfz_2) | ((with_reducible refine gate_dst (N := 3) rfl ?_); refine bE (N := 3) (cs := #[.slice none 0 0]) (t := 29) ?_; intro go hg w9 hbox hb; have m0_ := aK (Kd.R_below HO.out hb); have m1_ := aK (below_step HB.out hb); have m2_ := aK (blk_below (g := gb) (o := .cells #[.int .i64 a0_0, .int .i64 a0_1, .slice A0_2 l0_2.length c0_2] 37 (0, 0)) BK.out hb); have m3_ := aK (hbox); have m4_ := aK ((by rw [hg]; exact below_size HB.out : w.heap.size ≤ go)); have m5_ := aK ((by rw [hg]; exact Nat.ne_of_lt (blk_lt BK.out) : gb ≠ go)); clear HB BK HO; have HO := m0_; have HB := m1_; have BK := m2_; have BO := m3_; have GO := m4_; have NGB := m5_; clear m0_ m1_ m2_ m3_ m4_ m5_; clear hb hbox hg; have hq1_ := NGB.out; have hczc_0 : w9.cell? ⟨gb, 0, none⟩ = some (.int .i64 a0_0) := (blk_cell BK.out 0).trans rfl; have hczc_1 : w9.cell? ⟨gb, 1, none⟩ = some (.int .i64 a0_1) := (blk_cell BK.out 1).trans rfl; have hczc_2 : w9.cell? ⟨gb, 2, none⟩ = some (.slice A0_2 l0_2.length c0_2) := (blk_cell BK.out 2).trans rfl; have hfzc_0 := blk_frozen BK.out 0; have hfzc_1 := blk_frozen BK.out 1; have hfzc_2 := blk_frozen BK.out 2; have hczo_0 : w9.cell? ⟨go, 0, none⟩ = some (.slice none 0 0) := (blk_cell BO.out 0).trans rfl; have hfzo_0 := blk_frozen BO.out 0))
 refine (Free37.free_some w go GO.out (SizeOf.sizeOf l0_2) (⟨a0_0, a0_1, l0_2⟩ : S37) 0 A0_2 c0_2 [] (.slice A1 0 c1) _ (Nat.le_refl _) HC0.out (by have := HZ.out; simpa using this) (Kd.R_mono (Kd.R_far (p := ⟨go, 0, none⟩) (Kd.R_types HO.out BO.out (by decide)) (fun _ hk => hk.2) (.slice A1 0 c1)) (fun _ hk => hk.1)) (below_set HB.out GO.out) (blk_put (cs := #[.slice none 0 0]) BO.out 0 (.slice A1 0 c1) rfl) HR0.out).mono ?_
 rintro e w' ⟨A9, n9, c9, rfl, bo2, ho2, hb2⟩
 clear HO HB BO BK NGB hczc_0 hczc_1 hczc_2 hfzc_0 hfzc_1 hfzc_2 hczo_0 hfzo_0
 have hq_ : w'.cell? ⟨go, 0, none⟩ = some (.slice A9 n9 c9) := (blk_cell bo2 0).trans rfl
 have hf_ := blk_frozen bo2 0
 have HO2 := aK ho2
 have HB2 := aK hb2
 have BO2 := aK bo2
 clear ho2 hb2 bo2
 have hll : (Free37.frT (⟨a0_0, a0_1, l0_2⟩ : S37) 0 []).length ≤ 200000 := by
  have h1 := Free37.frT_len (⟨a0_0, a0_1, l0_2⟩ : S37) 0 []
  have h2 := HZ.out
  rw [List.length_nil] at h1; omega
 have HL := aK hll
 clear hll
 go_wp2_with fail
 refine (sort85.calls w.heap.size (.slice A9 n9 c9) _ _ HO2.out HL.out).mono ?_
 rintro e w10 ⟨rfl, ho3, hg3⟩
 have HB3 := aK (HB2.out.grown hg3 (below_size HB2.out) (fun k hk => own_base (Kd.own_of_R HO2.out) k hk))
 have BO3 := aK ((hg3.block go (blk_lt BO2.out) (Kd.R_ne HO2.out BO2.out (by decide))).trans BO2.out)
 have HO3 := aK ho3
 clear HO2 HB2 BO2 hq_ hf_ ho3 hg3
 have hq_ : w10.cell? ⟨go, 0, none⟩ = some (.slice A9 n9 c9) := (blk_cell BO3.out 0).trans rfl
 have hf_ := blk_frozen BO3.out 0
 go_wp2_with fail
 refine (compact86.calls w.heap.size (.slice A9 n9 c9) _ _ HO3.out (by rw [List.length_mergeSort]; exact HL.out)).mono ?_
 rintro e w11 ⟨v', rfl, ho4, hg4⟩
 have HB4 := aK (HB3.out.grown hg4 (below_size HB3.out) (fun k hk => own_base (Kd.own_of_R HO3.out) k hk))
 have HO4 := aK ho4
 clear HO3 HB3 BO3 hq_ hf_ ho4 hg4
 go_wp2
 go_ret
 exact ⟨_, rfl, HO4.out, HB4.out⟩

def impl_FreeIn.f (k : Nat) (l0 : List (S70)) : Option (List Int × Bool) := (impl_termOf.f k l0).bind fun bt101 => (if bt101.2.2.2 = true then ((impl_term_freeIn.f bt101.1 bt101.2.1 bt101.2.2.1).bind fun t108 => (some (t108, true))) else (some (([] : List Int), false)))
set_option maxHeartbeats 8000000 in
set_option maxRecDepth 100000 in
theorem impl_FreeIn.calls (k : Nat) (A0 : Option Addr) (c0 : Nat) (l0 : List (S70)) (r1 : List Int) (r2 : Bool) (w : World) (hr0 : Kd.C k70 w A0 l0.length l0) (hc0 : l0.length ≤ c0) (h : impl_FreeIn.f k l0 = some (r1, r2)) :
  Calls Try.prog 8 #[.slice A0 l0.length c0] w fun e w' => ∃ v0_ : Value, e = .returned (.tuple #[v0_, .bool r2]) ∧ Kd.R (Kd.int .i64) 3 w' w.heap.size (fun _ => True) v0_ r1 ∧ Below w.heap.size w w' := by
 have hu37 := Try.underlying37
 have HR0 := aK hr0
 have HC0 := aK hc0
 clear hr0 hc0
 have HB := aK (Below.refl w.heap.size w)
 have H : ((impl_termOf.f k l0).bind fun bt101 => (if bt101.2.2.2 = true then ((impl_term_freeIn.f bt101.1 bt101.2.1 bt101.2.2.1).bind fun t108 => (some (t108, true))) else (some (([] : List Int), false)))) = some (r1, r2) := h
 clear h
 replace H := Option.bind_eq_some_iff.mp H
 obtain ⟨⟨t101, t102, t103, t106⟩, A20, H⟩ := H
 try dsimp only at H
 have A2 := aK A20
 clear A20
 by_cases c3 : t106 = true
 ·subst c3
  rw [if_pos rfl] at H
  replace H := Option.bind_eq_some_iff.mp H
  obtain ⟨t108, A40, H⟩ := H
  try dsimp only at H
  have A4 := aK A40
  clear A40
  simp only [Option.some.injEq, Prod.mk.injEq] at H
  obtain ⟨rfl, rfl⟩ := H
  go_enter Try.func8, Try.ntmps8
  go_wp2_with (first | ((with_reducible refine gate_callee (f := 10) rfl ?_); refine goesL_ (some 8) rfl rfl Try.func10 (by kernel_rfl) rfl #[.slice A0 l0.length c0] rfl tA ?_; (with_reducible refine (impl_termOf.calls k _ _ l0 t101 t102 t103 true _ ?side1 ?side2 A2.out).mono ?_); (case side1 => exact sC HR0.out); (case side2 => exact HC0.out); rintro e w5 ⟨v104, rfl, ho0, hb⟩; refine ⟨_, rfl, ?_⟩; have HO105 := aK (Kd.R_lower ho0 (below_size HB.out)); replace HB := qs HB hb; (try clear hb); (try clear ho0)) | ((with_reducible refine gate_dst (N := 4) rfl ?_); refine bE (N := 4) (cs := #[.int .i64 0, .int .i64 0, .slice none 0 0]) (t := 37) ?_; intro gb107 hg w6 hbox hb; have n0_ := aK (Kd.R_below (Kd.R_elderB HO105.out gb107 (Nat.le_of_eq hg.symm)) hb); have GW107 := qw HB hg; have GE107 := qw HB hg; have BK107 := aK hbox; clear HO105; have HO105 := n0_; clear n0_; replace HB := qs HB hb; clear hb hbox hg; obtain ⟨hcz7_0, hcz7_1, hcz7_2, hfz7_0, hfz7_1, hfz7_2⟩ := cA3 BK107; obtain ⟨Ao8, co8, eo8⟩ := Kd.R_slice HO105.out; subst eo8) | ((with_reducible refine gate_callee (f := 17) rfl ?_); refine goesL_ (some 14) rfl rfl Try.func17 (by kernel_rfl) rfl #[.agg #[.int .i64 t101, .int .i64 t102, .slice Ao8 t103.length co8]] rfl tA ?_; (with_reducible refine (impl_term_freeIn.calls t101 t102 _ _ t103 t108 _ ?side1 ?side2 A4.out).mono ?_); (case side1 => refine (Kd.R_reads' (e := 37) (base := w.heap.size) (ok := fun k_ => (True ∧ k_ ≠ gb107)) (n := t103.length) (c := co8) ?_).2.2; exact (by (with_reducible repeat (first | apply Kd.R_alloc | apply Kd.R_drewN | apply Kd.R_drew)); exact (Kd.R_mono (Kd.R_far (p := ⟨gb107, 2, none⟩) (Kd.R_far (p := ⟨gb107, 1, none⟩) (Kd.R_far (p := ⟨gb107, 0, none⟩) (Kd.R_mono HO105.out (fun k_ hk => (⟨hk, hk.2⟩ : _ ∧ k_ ≠ gb107))) (fun _ hk => hk.2) (.int .i64 t101)) (fun _ hk => hk.2) (.int .i64 t102)) (fun _ hk => hk.2) (.slice Ao8 t103.length co8)) (fun _ h_ => h_.1)))); (case side2 => exact (Kd.R_reads' HO105.out).2.1); rintro e w9 ⟨v109, rfl, ho0, hb⟩; refine ⟨_, rfl, ?_⟩; have n0_ := aK (Kd.R_below (by (with_reducible repeat (first | apply Kd.R_alloc | apply Kd.R_drewN | apply Kd.R_drew)); exact (Kd.R_mono (Kd.R_far (p := ⟨gb107, 2, none⟩) (Kd.R_far (p := ⟨gb107, 1, none⟩) (Kd.R_far (p := ⟨gb107, 0, none⟩) (Kd.R_mono HO105.out (fun k_ hk => (⟨hk, hk.2⟩ : _ ∧ k_ ≠ gb107))) (fun _ hk => hk.2) (.int .i64 t101)) (fun _ hk => hk.2) (.int .i64 t102)) (fun _ hk => hk.2) (.slice Ao8 t103.length co8)) (fun _ h_ => h_.1))) hb); have n1_ := aK (Kd.R_lower ho0 (below_size (pH HB))); have n2_ := aK (blk_below (g := gb107) (o := .cells #[.int .i64 t101, .int .i64 t102, .slice Ao8 t103.length co8] 37 (0, 0)) (p3 BK107) hb); have n3_ := aK (below_step (pH HB) hb); clear HO105; clear BK107; clear HB; have HO105 := n0_; have HO110 := n1_; have BK107 := n2_; have HB := n3_; clear n0_ n1_ n2_ n3_; (try clear hb); (try clear ho0)))
  go_ret2
  exact ⟨_, eW, by (with_reducible repeat (first | apply Kd.R_alloc | apply Kd.R_drewN | apply Kd.R_drew)); exact HO110.out, pH HB⟩
 ·replace c3 := Bool.eq_false_iff.mpr c3
  subst c3
  rw [if_neg (show ¬ (false = true) by decide)] at H
  simp only [Option.some.injEq, Prod.mk.injEq] at H
  obtain ⟨rfl, rfl⟩ := H
  go_enter Try.func8, Try.ntmps8
  go_wp2_with (first | ((with_reducible refine gate_callee (f := 10) rfl ?_); refine goesL_ (some 8) rfl rfl Try.func10 (by kernel_rfl) rfl #[.slice A0 l0.length c0] rfl tA ?_; (with_reducible refine (impl_termOf.calls k _ _ l0 t101 t102 t103 false _ ?side1 ?side2 A2.out).mono ?_); (case side1 => exact sC HR0.out); (case side2 => exact HC0.out); rintro e w10 ⟨v104, rfl, ho0, hb⟩; refine ⟨_, rfl, ?_⟩; have HO105 := aK (Kd.R_lower ho0 (below_size HB.out)); replace HB := qs HB hb; (try clear hb); (try clear ho0)) | ((with_reducible refine gate_dst (N := 4) rfl ?_); refine bE (N := 4) (cs := #[.int .i64 0, .int .i64 0, .slice none 0 0]) (t := 37) ?_; intro gb107 hg w11 hbox hb; have n0_ := aK (Kd.R_below (Kd.R_elderB HO105.out gb107 (Nat.le_of_eq hg.symm)) hb); have GW107 := qw HB hg; have GE107 := qw HB hg; have BK107 := aK hbox; clear HO105; have HO105 := n0_; clear n0_; replace HB := qs HB hb; clear hb hbox hg; obtain ⟨hcz12_0, hcz12_1, hcz12_2, hfz12_0, hfz12_1, hfz12_2⟩ := cA3 BK107; obtain ⟨Ao13, co13, eo13⟩ := Kd.R_slice HO105.out; subst eo13))
  go_ret2
  exact ⟨_, eW, by first | exact Kd.R_nil _ _ _ _ _ | exact Kd.N_nil _ _ _ _ _ | exact Kd.V_nil _ _ _ _ _ | exact Kd.Q_nil _ _ _ _ _ | exact Kd.S_nil _ _ _ _ _, pH HB⟩


mutual
def laws_FnClosed.j0 : Nat → List (S70) → List (S33) → Bool → Bool → Option (Bool)
 | 0, _, _, _, _ => none
 | k + 1, x3, x4, x5, x38 => if x38 = true then (some false) else (if x5 = true then ((impl_FreeIn.f k x3).bind fun bt113 => (if bt113.2 = true then (laws_FnClosed.l0 k bt113.1 x4 (x4.length : Int) 0) else (some false))) else (some ((x4.length : Int) == 0)))
def laws_FnClosed.l0 : Nat → List Int → List (S33) → Int → Int → Option (Bool)
 | 0, _, _, _, _ => none
 | k + 1, x8, x51, x52, x53 => if x53 < x52 then (if 0 ≤ x53 then (if x53 < (x51.length : Int) then (laws_FnClosed.l1 k x8 (((rd_T33 x51 x53).f0) != 1) x51 x52 x53 x8 (x8.length : Int) 0 ((rd_T33 x51 x53).f0) ((rd_T33 x51 x53).f1) ((rd_T33 x51 x53).f2)) else (none)) else (none)) else (some true)
def laws_FnClosed.l1 : Nat → List Int → Bool → List (S33) → Int → Int → List Int → Int → Int → Int → Int → Int → Option (Bool)
 | 0, _, _, _, _, _, _, _, _, _, _, _ => none
 | k + 1, x8, x12, x51, x52, x53, x60, x61, x62, x119000, x119001, x119002 => if x62 < x61 then (if 0 ≤ x62 then (if x62 < (x60.length : Int) then (if x12 = true then (laws_FnClosed.l1 k x8 true x51 x52 x53 x60 x61 (wrap64 (x62 + 1)) x119000 x119001 x119002) else (laws_FnClosed.l1 k x8 ((rd x60 x62) == x119001) x51 x52 x53 x60 x61 (wrap64 (x62 + 1)) x119000 x119001 x119002)) else (none)) else (none)) else (if x12 = true then (laws_FnClosed.l0 k x8 x51 x52 (wrap64 (x53 + 1))) else (some false))
end
def laws_FnClosed.f (k : Nat) (l0 : List Int) : Option (Bool) := if (l0.length : Int) > 1048576 then (some true) else ((spec_DrawCombOfTerm.f k l0).bind fun t101 => ((impl_CombOfTerm.f k t101).bind fun bt104 => ((spec_CombOfTerm.f k t101).bind fun bt108 => (if (bt104.2 != bt108.2) = true then (laws_FnClosed.j0 k t101 bt104.1 bt104.2 true) else ((laws_sameCombs.f k bt104.1 bt108.1).bind fun t112 => (laws_FnClosed.j0 k t101 bt104.1 bt104.2 (!t112)))))))
set_option maxHeartbeats 8000000 in
set_option maxRecDepth 100000 in
theorem laws_FnClosed.calls (k : Nat) (A0 : Option Addr) (c0 : Nat) (l0 : List Int) (r : Bool) (w : World) (hr0 : Kd.C (Kd.int .u8) w A0 l0.length l0) (hc0 : l0.length ≤ c0) (h : laws_FnClosed.f k l0 = some r) :
  Calls Try.prog 3 #[.slice A0 l0.length c0] w fun e w' => e = .returned (.bool r) ∧ Below w.heap.size w w' := by
 have hu33 := Try.underlying33
 have HR0 := aK hr0
 have HC0 := aK hc0
 clear hr0 hc0
 have HB := aK (Below.refl w.heap.size w)
 have H : (if (l0.length : Int) > 1048576 then (some true) else ((spec_DrawCombOfTerm.f k l0).bind fun t101 => ((impl_CombOfTerm.f k t101).bind fun bt104 => ((spec_CombOfTerm.f k t101).bind fun bt108 => (if (bt104.2 != bt108.2) = true then (laws_FnClosed.j0 k t101 bt104.1 bt104.2 true) else ((laws_sameCombs.f k bt104.1 bt108.1).bind fun t112 => (laws_FnClosed.j0 k t101 bt104.1 bt104.2 (!t112)))))))) = some r := h
 clear h
 by_cases c2 : (l0.length : Int) > 1048576
 ·rw [if_pos c2] at H
  have c2b0 : decide (1048576 < (l0.length : Int)) = true := decide_eq_true c2
  have c2b1 : decide (1048576 < l0.length) = true := decide_eq_true (by omega)
  clear c2
  obtain rfl := Option.some.inj H
  go_enter Try.func3, Try.ntmps3
  go_wp2
  go_ret
  exact ⟨eW, pH HB⟩
 ·rw [if_neg c2] at H
  have c2b0 : decide (1048576 < (l0.length : Int)) = false := decide_eq_false c2
  have c2b1 : decide (1048576 < l0.length) = false := decide_eq_false (by omega)
  clear c2
  replace H := Option.bind_eq_some_iff.mp H
  obtain ⟨t101, A30, H⟩ := H
  try dsimp only at H
  have A3 := aK A30
  clear A30
  replace H := Option.bind_eq_some_iff.mp H
  obtain ⟨⟨t104, t105⟩, A40, H⟩ := H
  try dsimp only at H
  have A4 := aK A40
  clear A40
  replace H := Option.bind_eq_some_iff.mp H
  obtain ⟨⟨t108, t109⟩, A50, H⟩ := H
  try dsimp only at H
  have A5 := aK A50
  clear A50
  have HC6 := aK H
  clear H
  go_enter Try.func3, Try.ntmps3
  go_upto_region 6 with (first | ((with_reducible refine gate_callee (f := 4) rfl ?_); refine goesL_ (some 19) rfl rfl Try.func4 (by kernel_rfl) rfl #[.slice A0 l0.length c0] rfl tA ?_; (with_reducible refine (spec_DrawCombOfTerm.calls k _ _ l0 t101 _ ?side1 ?side2 A3.out).mono ?_); (case side1 => exact sC HR0.out); (case side2 => exact HC0.out); rintro e w7 ⟨v102, rfl, ho0, hb⟩; refine ⟨_, rfl, ?_⟩; have HO103 := aK (Kd.R_lower ho0 (below_size HB.out)); replace HB := qs HB hb; (try clear hb); (try clear ho0); obtain ⟨Ao8, co8, eo8⟩ := Kd.R_slice HO103.out; subst eo8) | ((with_reducible refine gate_callee (f := 5) rfl ?_); refine goesL_ (some 22) rfl rfl Try.func5 (by kernel_rfl) rfl #[.slice Ao8 t101.length co8] rfl tA ?_; (with_reducible refine (impl_CombOfTerm.calls k _ _ t101 t104 t105 _ ?side1 ?side2 A4.out).mono ?_); (case side1 => exact sC ((Kd.R_reads' HO103.out).2.2)); (case side2 => exact (Kd.R_reads' HO103.out).2.1); rintro e w9 ⟨v106, rfl, ho0, hb⟩; refine ⟨_, rfl, ?_⟩; have n0_ := aK (Kd.R_below HO103.out hb); have HO107 := aK (Kd.R_lower ho0 (below_size HB.out)); clear HO103; have HO103 := n0_; clear n0_; replace HB := qs HB hb; (try clear hb); (try clear ho0)) | ((with_reducible refine gate_callee (f := 6) rfl ?_); refine goesL_ (some 27) rfl rfl Try.func6 (by kernel_rfl) rfl #[.slice Ao8 t101.length co8] rfl tA ?_; (with_reducible refine (spec_CombOfTerm.calls k _ _ t101 t108 t109 _ ?side1 ?side2 A5.out).mono ?_); (case side1 => exact sC ((Kd.R_reads' HO103.out).2.2)); (case side2 => exact (Kd.R_reads' HO103.out).2.1); rintro e w10 ⟨v110, rfl, ho0, hb⟩; refine ⟨_, rfl, ?_⟩; have n0_ := aK (Kd.R_below HO103.out hb); have n1_ := aK (Kd.R_elder' HO107.out (Kd.R_base ho0) hb); have HO111 := aK (Kd.R_lower (Kd.R_new' ho0 (Kd.R_lt HO107.out)) (below_size HB.out)); clear HO103; have HO103 := n0_; clear n0_; clear HO107; have HO107 := n1_; clear n1_; replace HB := qs HB hb; (try clear hb); (try clear ho0)))
  (try simp only [Act.put, List.setIfInBounds_toArray, List.set_cons_zero, List.set_cons_succ])
  go_cut [38] (fun v38 wc => ∃ (kq : Nat) (x38_5 : Bool), v38 = .bool x38_5 ∧ Aside0 (laws_FnClosed.j0 kq t101 t104 t105 x38_5 = some r) ∧ Aside0 (kq ≤ k) ∧ Aside0 (Kd.R k70 70 wc w.heap.size (fun _ => True) (.slice Ao8 t101.length co8) t101) ∧ Aside0 (Kd.R k33 33 wc w.heap.size (fun _ => True) v106 t104) ∧ Aside0 (Below w.heap.size w wc))
  case first =>
   have H := HC6.out
   clear HC6
   by_cases c11 : (t105 != t109) = true
   ·rw [if_pos c11] at H
    have c11b0 : (t105 != t109) = true := c11
    (try (have c11b1 : decide (t105 = t109) = false := by simpa using c11))
    (try (have c11b2 : (t105 == t109) = false := by simpa using c11))
    (try (have c11b3 : ¬ (t105 = t109) := by simpa using c11))
    clear c11
    (first | rw [c11b0] | (simp only [i64_w, i32_w]; rw [c11b0]) | skip)
    have H' := aK H
    clear H
    go_wp2
    go_meet
    case rel => exact ⟨_, (true), rS, H', ⟨by first | omega | exact Nat.le_refl _⟩, ⟨by (with_reducible repeat (first | apply Kd.R_alloc | apply Kd.R_drewN | apply Kd.R_drew)); exact HO103.out⟩, ⟨by (with_reducible repeat (first | apply Kd.R_alloc | apply Kd.R_drewN | apply Kd.R_drew)); exact Kd.R_mono HO107.out (fun _ hk => trivial)⟩, ⟨pH HB⟩⟩
   ·rw [if_neg c11] at H
    have c11b0 : (t105 != t109) = false := by simpa using c11
    (try (have c11b1 : decide (t105 = t109) = true := by simpa using c11))
    (try (have c11b2 : (t105 == t109) = true := by simpa using c11))
    clear c11
    (first | rw [c11b0] | (simp only [i64_w, i32_w]; rw [c11b0]) | skip)
    replace H := Option.bind_eq_some_iff.mp H
    obtain ⟨t112, A120, H⟩ := H
    try dsimp only at H
    have A12 := aK A120
    clear A120
    have H' := aK H
    clear H
    obtain ⟨Ao13, co13, eo13⟩ := Kd.R_slice HO107.out
    subst eo13
    obtain ⟨Ao14, co14, eo14⟩ := Kd.R_slice HO111.out
    subst eo14
    go_wp2_with (first | (go_at_call 7; (with_reducible refine (laws_sameCombs.calls k _ _ t104 _ _ t108 t112 _ ?side1 ?side2 ?side3 ?side4 A12.out).mono ?_); (case side1 => exact sC ((Kd.R_reads' HO107.out).2.2)); (case side2 => exact (Kd.R_reads' HO107.out).2.1); (case side3 => exact sC ((Kd.R_reads' HO111.out).2.2)); (case side4 => exact (Kd.R_reads' HO111.out).2.1); rintro e w' ⟨rfl, ⟨nd, rfl⟩⟩))
    go_meet
    case rel => exact ⟨_, (!t112), rS, H', ⟨by first | omega | exact Nat.le_refl _⟩, ⟨by (with_reducible repeat (first | apply Kd.R_alloc | apply Kd.R_drewN | apply Kd.R_drew)); exact HO103.out⟩, ⟨by (with_reducible repeat (first | apply Kd.R_alloc | apply Kd.R_drewN | apply Kd.R_drew)); exact Kd.R_mono HO107.out (fun _ hk => trivial)⟩, ⟨pH HB⟩⟩
  case rest =>
   clear HC6
   try clear c1; try clear c2; try clear c2b0; try clear c2b1; try clear p2; try clear c3; try clear c4; try clear c5; try clear c6; try clear c11; try clear c11b0; try clear c11b1; try clear c11b2
   obtain ⟨kq, x38_5, rfl, HA, HJ5, HO_3, HO_4, HB⟩ := hcut
   cases kq with
   | zero => exact absurd HA.out (by simp [laws_FnClosed.j0])
   | succ kj5 =>
    have H := HA.out
    clear HA
    simp only [laws_FnClosed.j0] at H
    by_cases c15 : x38_5 = true
    ·subst c15
     rw [if_pos rfl] at H
     obtain rfl := Option.some.inj H
     go_wp2
     go_ret
     exact ⟨eW, pH HB⟩
    ·replace c15 := Bool.eq_false_iff.mpr c15
     subst c15
     rw [if_neg (show ¬ (false = true) by decide)] at H
     by_cases c16 : t105 = true
     ·subst c16
      rw [if_pos rfl] at H
      replace H := Option.bind_eq_some_iff.mp H
      obtain ⟨⟨t113, t114⟩, A170, H⟩ := H
      try dsimp only at H
      have A17 := aK A170
      clear A170
      by_cases c18 : t114 = true
      ·subst c18
       rw [if_pos rfl] at H
       have H' := aK H
       clear H
       go_wp2_with (first | ((with_reducible refine gate_callee (f := 8) rfl ?_); refine goesL_ (some 46) rfl rfl Try.func8 (by kernel_rfl) rfl #[.slice Ao8 t101.length co8] rfl tA ?_; (with_reducible refine (impl_FreeIn.calls kj5 _ _ t101 t113 true _ ?side1 ?side2 A17.out).mono ?_); (case side1 => exact sC ((Kd.R_reads' HO_3.out).2.2)); (case side2 => exact (Kd.R_reads' HO_3.out).2.1); rintro e w19 ⟨v115, rfl, ho0, hb⟩; refine ⟨_, rfl, ?_⟩; have n0_ := aK (Kd.R_below HO_3.out hb); have n1_ := aK (Kd.R_below HO_4.out hb); have HO116 := aK (Kd.R_lower ho0 (below_size HB.out)); clear HO_3; have HO_3 := n0_; clear n0_; clear HO_4; have HO_4 := n1_; clear n1_; replace HB := qs HB hb; (try clear hb); (try clear ho0); obtain ⟨Ao20, co20, eo20⟩ := Kd.R_slice HO_4.out; subst eo20))
       go_loopg [53] kj5 (fun kq v53 w' => ∃ (x53_2 : Int), v53 = .int .i64 x53_2 ∧ Aside0 (laws_FnClosed.l0 kq t113 t104 (t104.length : Int) x53_2 = some r) ∧ Aside0 (kq ≤ kj5) ∧ Aside0 (Kd.R (Kd.int .i64) 3 w' w.heap.size (fun _ => True) v115 t113) ∧ Aside0 (Kd.R k33 33 w' w.heap.size (fun _ => True) (.slice Ao20 t104.length co20) t104) ∧ Aside0 (Below w.heap.size w w'))
       case atStart => exact ⟨(0), rS, H', ⟨Nat.le_refl _⟩, ⟨by (with_reducible repeat (first | apply Kd.R_alloc | apply Kd.R_drewN | apply Kd.R_drew)); exact HO116.out⟩, ⟨by (with_reducible repeat (first | apply Kd.R_alloc | apply Kd.R_drewN | apply Kd.R_drew)); exact HO_4.out⟩, ⟨pH HB⟩⟩
       case round =>
        clear H'
        try clear c1; try clear c2; try clear c2b0; try clear c2b1; try clear p2; try clear c3; try clear c4; try clear c5; try clear c6; try clear c8; try clear c11; try clear c11b0; try clear c11b1; try clear c11b2; try clear c15; try clear c16; try clear c18; try clear p2
        obtain ⟨x53_2, rfl, HA, HK2, HO_8, HO_51, HB⟩ := hrel
        cases gk with
        | zero => exact absurd HA.out (by simp [laws_FnClosed.l0])
        | succ k2 =>
         have H := HA.out
         clear HA
         simp only [laws_FnClosed.l0] at H
         by_cases c21 : x53_2 < (t104.length : Int)
         ·rw [if_pos c21] at H
          have c21b0 : decide (x53_2 < (t104.length : Int)) = true := decide_eq_true c21
          clear c21
          by_cases c22 : 0 ≤ x53_2
          ·rw [if_pos c22] at H
           have c22b0 : decide (0 ≤ x53_2) = true := decide_eq_true c22
           clear c22
           by_cases c23 : x53_2 < (t104.length : Int)
           ·rw [if_pos c23] at H
            have c23b0 : decide (x53_2 < (t104.length : Int)) = true := decide_eq_true c23
            clear c23
            have H' := aK H
            clear H
            have p117 : 0 ≤ (x53_2 : Int) := dA
            have q117 : x53_2 < (t104.length : Int) := dA
            obtain ⟨ad117, e117, hx117_0, hx117_1, hx117_2⟩ := at_T33 (Kd.R_reads' HO_51.out).2.2 x53_2 p117 q117
            cases e117
            replace p117 := eq_true p117
            replace q117 := eq_true q117
            go_wp2_with (first | ((with_reducible refine gate_dst (N := 11) rfl ?_); refine bE (N := 11) (cs := #[.int .i64 0, .int .i64 0, .int .i64 0]) (t := 33) ?_; intro gb118 hg w24 hbox hb; have n0_ := aK (Kd.R_below HO_8.out hb); have n1_ := aK (Kd.R_below (Kd.R_elderB HO_51.out gb118 (Nat.le_of_eq hg.symm)) hb); have GW118 := qw HB hg; have GE118 := qw HB hg; have BK118 := aK hbox; clear HO_8; have HO_8 := n0_; clear n0_; clear HO_51; have HO_51 := n1_; clear n1_; replace HB := qs HB hb; clear hb hbox hg; obtain ⟨hcz25_0, hcz25_1, hcz25_2, hfz25_0, hfz25_1, hfz25_2⟩ := cA3 BK118; obtain ⟨Ao26, co26, eo26⟩ := Kd.R_slice HO_8.out; subst eo26))
            go_loopg [12, 62] k2 (fun kq v12 v62 w' => ∃ (x12_3 : Bool) (x62_3 : Int), v12 = .bool x12_3 ∧ v62 = .int .i64 x62_3 ∧ Aside0 (laws_FnClosed.l1 kq t113 x12_3 t104 (t104.length : Int) x53_2 t113 (t113.length : Int) x62_3 ((rd_T33 t104 x53_2).f0) ((rd_T33 t104 x53_2).f1) ((rd_T33 t104 x53_2).f2) = some r) ∧ Aside0 (kq ≤ k2) ∧ Aside0 (Kd.R (Kd.int .i64) 3 w' w.heap.size (fun _ => True) (.slice Ao26 t113.length co26) t113) ∧ Aside0 (Kd.R k33 33 w' w.heap.size (fun k_ => k_ ≠ gb118) (.slice (some ad117) t104.length co20) t104) ∧ Aside0 (Kd.R (Kd.int .i64) 3 w' w.heap.size (fun _ => True) (.slice Ao26 t113.length co26) t113) ∧ Aside0 (w'.heap[gb118]? = some (.cells #[.int .i64 ((rd_T33 t104 x53_2).f0), .int .i64 ((rd_T33 t104 x53_2).f1), .int .i64 ((rd_T33 t104 x53_2).f2)] 33 (0, 0))) ∧ Aside0 (Below w.heap.size w w'))
            case atStart => exact ⟨((((rd_T33 t104 x53_2).f0) != 1)), (0), rS, rS, H', ⟨Nat.le_refl _⟩, ⟨by (with_reducible repeat (first | apply Kd.R_alloc | apply Kd.R_drewN | apply Kd.R_drew)); exact Kd.R_mono (Kd.R_far (p := ⟨gb118, 2, none⟩) (Kd.R_far (p := ⟨gb118, 1, none⟩) (Kd.R_far (p := ⟨gb118, 0, none⟩) (Kd.R_types HO_8.out BK118.out (by decide)) (fun _ hk => hk.2) (.int .i64 ((rd_T33 t104 x53_2).f0))) (fun _ hk => hk.2) (.int .i64 ((rd_T33 t104 x53_2).f1))) (fun _ hk => hk.2) (.int .i64 ((rd_T33 t104 x53_2).f2))) (fun _ hk => trivial)⟩, ⟨by (with_reducible repeat (first | apply Kd.R_alloc | apply Kd.R_drewN | apply Kd.R_drew)); exact Kd.R_mono (Kd.R_far (p := ⟨gb118, 2, none⟩) (Kd.R_far (p := ⟨gb118, 1, none⟩) (Kd.R_far (p := ⟨gb118, 0, none⟩) (Kd.R_mono HO_51.out (fun k_ hk => (⟨hk, hk.2⟩ : _ ∧ k_ ≠ gb118))) (fun _ hk => hk.2) (.int .i64 ((rd_T33 t104 x53_2).f0))) (fun _ hk => hk.2) (.int .i64 ((rd_T33 t104 x53_2).f1))) (fun _ hk => hk.2) (.int .i64 ((rd_T33 t104 x53_2).f2))) (fun _ hk => hk.1.2)⟩, ⟨by (with_reducible repeat (first | apply Kd.R_alloc | apply Kd.R_drewN | apply Kd.R_drew)); exact Kd.R_mono (Kd.R_far (p := ⟨gb118, 2, none⟩) (Kd.R_far (p := ⟨gb118, 1, none⟩) (Kd.R_far (p := ⟨gb118, 0, none⟩) (Kd.R_types HO_8.out BK118.out (by decide)) (fun _ hk => hk.2) (.int .i64 ((rd_T33 t104 x53_2).f0))) (fun _ hk => hk.2) (.int .i64 ((rd_T33 t104 x53_2).f1))) (fun _ hk => hk.2) (.int .i64 ((rd_T33 t104 x53_2).f2))) (fun _ hk => trivial)⟩, ⟨p3 BK118⟩, ⟨pH HB⟩⟩
            case round =>
             clear H'
             try clear c1; try clear p1; try clear q1; try clear hx1; try clear c2; try clear c2b0; try clear c2b1; try clear p2; try clear c3; try clear c4; try clear c5; try clear c6; try clear c8; try clear c11; try clear c11b0; try clear c11b1; try clear c11b2; try clear p11; try clear q11; try clear hx11; try clear c15; try clear c16; try clear c18; try clear c21; try clear c21b0; try clear c22; try clear c22b0; try clear c23; try clear c23b0; try clear hx117_0; try clear hx117_1; try clear hx117_2; try clear p117; try clear p2; try clear q117; try clear hcz25_0 hcz25_1 hcz25_2 hfz25_0 hfz25_1 hfz25_2
             obtain ⟨x12_3, x62_3, rfl, rfl, HA, HK3, HO_8, HO_51, HO_60, BK118, HB⟩ := hrel
             cases gk with
             | zero => exact absurd HA.out (by simp [laws_FnClosed.l1])
             | succ k3 =>
              have H := HA.out
              clear HA
              simp only [laws_FnClosed.l1] at H
              by_cases c27 : x62_3 < (t113.length : Int)
              ·rw [if_pos c27] at H
               have c27b0 : decide (x62_3 < (t113.length : Int)) = true := decide_eq_true c27
               clear c27
               by_cases c28 : 0 ≤ x62_3
               ·rw [if_pos c28] at H
                have c28b0 : decide (0 ≤ x62_3) = true := decide_eq_true c28
                clear c28
                by_cases c29 : x62_3 < (t113.length : Int)
                ·rw [if_pos c29] at H
                 have c29b0 : decide (x62_3 < (t113.length : Int)) = true := decide_eq_true c29
                 clear c29
                 by_cases c30 : x12_3 = true
                 ·subst c30
                  rw [if_pos rfl] at H
                  have H' := aK H
                  clear H
                  have p119 : 0 ≤ (x62_3 : Int) := dA
                  have q119 : x62_3 < (t113.length : Int) := dA
                  obtain ⟨ad119, e119, hx119_0⟩ := Kd.at_int (Kd.R_reads' HO_60.out).2.2 x62_3 p119 q119
                  cases e119
                  replace p119 := eq_true p119
                  replace q119 := eq_true q119
                  go_wp2
                  go_roundg k3
                  case measure => have := HJ5.out; have := HK2.out; have := HK3.out; omega
                  case rel => exact ⟨(true), (wrap64 (x62_3 + 1)), rS, rS, H', ⟨by have := HJ5.out; have := HK2.out; have := HK3.out; omega⟩, ⟨by (with_reducible repeat (first | apply Kd.R_alloc | apply Kd.R_drewN | apply Kd.R_drew)); exact HO_8.out⟩, ⟨by (with_reducible repeat (first | apply Kd.R_alloc | apply Kd.R_drewN | apply Kd.R_drew)); exact HO_51.out⟩, ⟨by (with_reducible repeat (first | apply Kd.R_alloc | apply Kd.R_drewN | apply Kd.R_drew)); exact HO_60.out⟩, ⟨pB BK118⟩, ⟨pH HB⟩⟩
                 ·replace c30 := Bool.eq_false_iff.mpr c30
                  subst c30
                  rw [if_neg (show ¬ (false = true) by decide)] at H
                  have H' := aK H
                  clear H
                  have p119 : 0 ≤ (x62_3 : Int) := dA
                  have q119 : x62_3 < (t113.length : Int) := dA
                  obtain ⟨ad119, e119, hx119_0⟩ := Kd.at_int (Kd.R_reads' HO_60.out).2.2 x62_3 p119 q119
                  cases e119
                  replace p119 := eq_true p119
                  replace q119 := eq_true q119
                  obtain ⟨hcz31_0, hcz31_1, hcz31_2, hfz31_0, hfz31_1, hfz31_2⟩ := cA3 BK118
                  go_wp2
                  go_roundg k3
                  case measure => have := HJ5.out; have := HK2.out; have := HK3.out; omega
                  case rel => exact ⟨(((rd t113 x62_3) == ((rd_T33 t104 x53_2).f1))), (wrap64 (x62_3 + 1)), rS, rS, H', ⟨by have := HJ5.out; have := HK2.out; have := HK3.out; omega⟩, ⟨by (with_reducible repeat (first | apply Kd.R_alloc | apply Kd.R_drewN | apply Kd.R_drew)); exact HO_8.out⟩, ⟨by (with_reducible repeat (first | apply Kd.R_alloc | apply Kd.R_drewN | apply Kd.R_drew)); exact HO_51.out⟩, ⟨by (with_reducible repeat (first | apply Kd.R_alloc | apply Kd.R_drewN | apply Kd.R_drew)); exact HO_60.out⟩, ⟨pB BK118⟩, ⟨pH HB⟩⟩
                ·rw [if_neg c29] at H
                 exact absurd H (by simp)
               ·rw [if_neg c28] at H
                exact absurd H (by simp)
              ·rw [if_neg c27] at H
               have c27b0 : decide (x62_3 < (t113.length : Int)) = false := decide_eq_false c27
               clear c27
               by_cases c32 : x12_3 = true
               ·subst c32
                rw [if_pos rfl] at H
                have H' := aK H
                clear H
                go_wp2
                go_roundg k3
                case measure => have := HJ5.out; have := HK2.out; have := HK3.out; omega
                case rel => exact ⟨(wrap64 (x53_2 + 1)), rS, H', ⟨by have := HJ5.out; have := HK2.out; have := HK3.out; omega⟩, ⟨by (with_reducible repeat (first | apply Kd.R_alloc | apply Kd.R_drewN | apply Kd.R_drew)); exact HO_8.out⟩, ⟨by (with_reducible repeat (first | apply Kd.R_alloc | apply Kd.R_drewN | apply Kd.R_drew)); exact Kd.R_mono HO_51.out (fun _ hk => trivial)⟩, ⟨pH HB⟩⟩
               ·replace c32 := Bool.eq_false_iff.mpr c32
                subst c32
                rw [if_neg (show ¬ (false = true) by decide)] at H
                obtain rfl := Option.some.inj H
                go_wp2
                go_ret
                exact ⟨eW, pH HB⟩
           ·rw [if_neg c23] at H
            exact absurd H (by simp)
          ·rw [if_neg c22] at H
           exact absurd H (by simp)
         ·rw [if_neg c21] at H
          have c21b0 : decide (x53_2 < (t104.length : Int)) = false := decide_eq_false c21
          clear c21
          obtain rfl := Option.some.inj H
          go_wp2
          go_ret
          exact ⟨eW, pH HB⟩
      ·replace c18 := Bool.eq_false_iff.mpr c18
       subst c18
       rw [if_neg (show ¬ (false = true) by decide)] at H
       obtain rfl := Option.some.inj H
       go_wp2_with (first | ((with_reducible refine gate_callee (f := 8) rfl ?_); refine goesL_ (some 46) rfl rfl Try.func8 (by kernel_rfl) rfl #[.slice Ao8 t101.length co8] rfl tA ?_; (with_reducible refine (impl_FreeIn.calls kj5 _ _ t101 t113 false _ ?side1 ?side2 A17.out).mono ?_); (case side1 => exact sC ((Kd.R_reads' HO_3.out).2.2)); (case side2 => exact (Kd.R_reads' HO_3.out).2.1); rintro e w33 ⟨v115, rfl, ho0, hb⟩; refine ⟨_, rfl, ?_⟩; have n0_ := aK (Kd.R_below HO_3.out hb); have n1_ := aK (Kd.R_below HO_4.out hb); have HO116 := aK (Kd.R_lower ho0 (below_size HB.out)); clear HO_3; have HO_3 := n0_; clear n0_; clear HO_4; have HO_4 := n1_; clear n1_; replace HB := qs HB hb; (try clear hb); (try clear ho0)))
       go_ret
       exact ⟨eW, pH HB⟩
     ·replace c16 := Bool.eq_false_iff.mpr c16
      subst c16
      rw [if_neg (show ¬ (false = true) by decide)] at H
      obtain rfl := Option.some.inj H
      obtain ⟨Ao34, co34, eo34⟩ := Kd.R_slice HO_4.out
      subst eo34
      go_wp2
      go_ret
      exact ⟨eW, pH HB⟩

def laws_FnClosed.Pure : Prop := ∀ (l0 : List Int), l0.length * 1 ≤ 140737488351232 → (l0.length ≤ 9223372036854775807 ∧ ∀ x_ ∈ l0, (Lit.int .u8 x_).wf = true) → ∃ k, laws_FnClosed.f k l0 = some true

end Go.Proofs.Ytmcmclcebnepgaa.G
